/- The program's look at a graph: is, po, modes, Contains. -/
import Derived.Test.YtkcdehffcddciaaGreatDoorQ21
import Derived.Test.YtkcdehffcddciaaGreatDoorQ19
import Derived.Test.YtkcdehffcddciaaGreatDoorQ20
namespace Go.Proofs.YtkcdehffcddciaaGreatDoor.Vm
open Go Go.RowKit
def s154:Sc:=(.seq (.region (
 ⟨none,some 6,.mv (.c (.b false)),[]⟩ :: []))
(.seq (.region (
 ⟨none,some 7,.mv (.t 1),[1]⟩ ::
 ⟨none,some 8,.ar .geq (.t 7) (.c (.i .i64 0)),[7]⟩ ::
 ⟨none,some 9,.mv (.t 8),[8]⟩ ::
 ⟨some (9,true),some 10,.mv (.t 1),[1,9]⟩ ::
 ⟨some (9,true),some 11,.mv (.t 0),[0,9]⟩ ::
 ⟨some (9,true),some 12,.nc (.t 11),[11,9]⟩ ::
 ⟨some (9,true),some 13,.fa (.t 12) 0,[12,9]⟩ ::
 ⟨some (9,true),some 14,.fa (.t 13) 1,[13,9]⟩ ::
 ⟨some (9,true),some 15,.ld (.t 14),[14,9]⟩ ::
 ⟨some (9,true),some 16,.len (.t 15),[15,9]⟩ ::
 ⟨some (9,true),some 17,.ar .lss (.t 10) (.t 16),[10,16,9]⟩ ::
 ⟨none,some 18,.pk (.t 9) (.t 17) (.c (.b false)),[9,17]⟩ ::
 ⟨none,some 19,.mv (.t 18),[18]⟩ ::
 ⟨some (19,true),some 20,.mv (.t 0),[0,19]⟩ ::
 ⟨some (19,true),some 21,.nc (.t 20),[20,19]⟩ ::
 ⟨some (19,true),some 22,.fa (.t 21) 0,[21,19]⟩ ::
 ⟨some (19,true),some 23,.fa (.t 22) 1,[22,19]⟩ ::
 ⟨some (19,true),some 24,.ld (.t 23),[23,19]⟩ ::
 ⟨some (19,true),some 25,.mv (.t 1),[1,19]⟩ ::
 ⟨some (19,true),some 26,.ia (.t 24) (.t 25) 5,[24,25,19]⟩ ::
 ⟨some (19,true),some 27,.fa (.t 26) 1,[26,19]⟩ ::
 ⟨some (19,true),some 28,.ld (.t 27),[27,19]⟩ ::
 ⟨some (19,true),some 29,.mv (.t 2),[2,19]⟩ ::
 ⟨some (19,true),some 30,.eq .int false (.t 28) (.t 29),[28,29,19]⟩ ::
 ⟨none,some 31,.pk (.t 19) (.t 30) (.c (.b false)),[19,30]⟩ ::
 ⟨none,some 6,.mv (.t 31),[31]⟩ :: []))
.ret))
set_option maxRecDepth 100000 in
theorem c154:fnB Tryz.prog 154=some (32,s154,[.t 6]):=by kernel_rfl
def s155:Sc:=(.seq (.region (
 ⟨none,some 6,.mv (.c (.b false)),[]⟩ :: []))
(.seq (.region (
 ⟨none,some 8,.mv (.t 0),[0]⟩ ::
 ⟨none,some 9,.nc (.t 8),[8]⟩ ::
 ⟨none,some 10,.fa (.t 9) 0,[9]⟩ ::
 ⟨none,some 11,.fa (.t 10) 1,[10]⟩ ::
 ⟨none,some 12,.ld (.t 11),[11]⟩ ::
 ⟨none,some 7,.mv (.t 12),[12]⟩ :: []))
(.seq (.mix (
 (⟨none,some 13,.mv (.t 1),[1]⟩,.q [none]) ::
 (⟨none,some 14,.ar .geq (.t 13) (.c (.i .i64 0)),[13]⟩,.q [none]) ::
 (⟨none,some 15,.mv (.t 14),[14]⟩,.q [none]) ::
 (⟨some (15,true),some 16,.mv (.t 1),[1,15]⟩,.q [none]) ::
 (⟨some (15,true),some 17,.mv (.t 2),[2,15]⟩,.q [none]) ::
 (⟨some (15,true),some 18,.ar .lss (.t 16) (.t 17),[16,17,15]⟩,.q [none]) ::
 (⟨none,some 19,.pk (.t 15) (.t 18) (.c (.b false)),[15,18]⟩,.q [none]) ::
 (⟨none,some 20,.mv (.t 19),[19]⟩,.q [none]) ::
 (⟨some (20,true),some 21,.mv (.t 2),[2,20]⟩,.q [none]) ::
 (⟨some (20,true),some 22,.mv (.t 7),[7,20]⟩,.q [none]) ::
 (⟨some (20,true),some 23,.len (.t 22),[22,20]⟩,.q [none]) ::
 (⟨some (20,true),some 24,.ar .lss (.t 21) (.t 23),[21,23,20]⟩,.q [none]) ::
 (⟨none,some 25,.pk (.t 20) (.t 24) (.c (.b false)),[20,24]⟩,.q [none]) ::
 (⟨none,some 26,.mv (.t 25),[25]⟩,.q [none]) ::
 (⟨some (26,true),some 27,.mv (.t 7),[7,26]⟩,.q [none]) ::
 (⟨some (26,true),some 28,.mv (.t 1),[1,26]⟩,.q [none]) ::
 (⟨some (26,true),some 29,.ia (.t 27) (.t 28) 5,[27,28,26]⟩,.q [none]) ::
 (⟨some (26,true),some 30,.fa (.t 29) 0,[29,26]⟩,.q [none]) ::
 (⟨some (26,true),some 31,.ld (.t 30),[30,26]⟩,.q [none]) ::
 (⟨some (26,true),some 32,.ar .geq (.t 31) (.c (.i .i64 0)),[31,26]⟩,.q [none]) ::
 (⟨none,some 33,.pk (.t 26) (.t 32) (.c (.b false)),[26,32]⟩,.q [none]) ::
 (⟨none,some 34,.mv (.t 33),[33]⟩,.q [none]) ::
 (⟨some (34,true),some 35,.mv (.t 7),[7,34]⟩,.q [none]) ::
 (⟨some (34,true),some 36,.mv (.t 1),[1,34]⟩,.q [none]) ::
 (⟨some (34,true),some 37,.ia (.t 35) (.t 36) 5,[35,36,34]⟩,.q [none]) ::
 (⟨some (34,true),some 38,.fa (.t 37) 0,[37,34]⟩,.q [none]) ::
 (⟨some (34,true),some 39,.ld (.t 38),[38,34]⟩,.q [none]) ::
 (⟨some (34,true),some 40,.mv (.t 7),[7,34]⟩,.q [none]) ::
 (⟨some (34,true),some 41,.mv (.t 2),[2,34]⟩,.q [none]) ::
 (⟨some (34,true),some 42,.ia (.t 40) (.t 41) 5,[40,41,34]⟩,.q [none]) ::
 (⟨some (34,true),some 43,.fa (.t 42) 0,[42,34]⟩,.q [none]) ::
 (⟨some (34,true),some 44,.ld (.t 43),[43,34]⟩,.q [none]) ::
 (⟨some (34,true),some 45,.eq .int false (.t 39) (.t 44),[39,44,34]⟩,.q [none]) ::
 (⟨none,some 46,.pk (.t 34) (.t 45) (.c (.b false)),[34,45]⟩,.q [none]) ::
 (⟨none,some 6,.mv (.t 46),[46]⟩,.q [none]) :: []))
.ret)))
set_option maxRecDepth 100000 in
theorem c155:fnB Tryz.prog 155=some (47,s155,[.t 6]):=by kernel_rfl
def s222:Sc:=(.seq (.region (
 ⟨none,some 4,.mv (.c (.i .i64 0)),[]⟩ :: []))
(.seq (.seq (.region (
 ⟨none,some 6,.mv (.t 0),[0]⟩ ::
 ⟨none,some 7,.len (.t 6),[6]⟩ ::
 ⟨none,some 8,.mv (.c (.i .i64 0)),[]⟩ :: []))
(.block 0 (.loop (.seq (.region (
 ⟨none,some 9,.ar .lss (.t 8) (.t 7),[8,7]⟩ :: []))
(.seq (.cond (.t 9) .skip
 (.exit 0))
(.seq (.block 1 (.seq (.region (
 ⟨none,some 10,.mv (.t 8),[8]⟩ ::
 ⟨none,some 5,.mv (.t 10),[10]⟩ :: []))
(.seq (.region (
 ⟨none,some 11,.mv (.t 1),[1]⟩ ::
 ⟨none,some 12,.mv (.t 0),[0]⟩ ::
 ⟨none,some 13,.mv (.t 5),[5]⟩ ::
 ⟨none,some 14,.ia (.t 12) (.t 13) 1,[12,13]⟩ ::
 ⟨none,some 15,.ld (.t 14),[14]⟩ ::
 ⟨none,some 16,.eq .int false (.t 11) (.t 15),[11,15]⟩ :: []))
(.cond (.t 16) (.seq (.region (
 ⟨none,some 17,.mv (.t 5),[5]⟩ ::
 ⟨none,some 4,.mv (.t 17),[17]⟩ :: []))
.ret)
 .skip))))
(.region (
 ⟨none,some 18,.ar .add (.t 8) (.c (.i .i64 1)),[8]⟩ ::
 ⟨none,some 8,.mv (.t 18),[18]⟩ :: []))))))))
(.seq (.region (
 ⟨none,some 4,.mv (.c (.i .i64 (-1))),[]⟩ :: []))
.ret)))
set_option maxRecDepth 100000 in
theorem c222:fnB Tryz.prog 222=some (19,s222,[.t 4]):=by kernel_rfl
def s152:Sc:=(.seq (.region (
 ⟨none,some 4,.mv (.c (.b false)),[]⟩ :: []))
(.seq (.region (
 ⟨none,some 5,.mv (.t 0),[0]⟩ ::
 ⟨none,some 6,.mv (.t 1),[1]⟩ ::
 ⟨none,some 7,.call 222 [(.t 5),(.t 6)],[5,6]⟩ ::
 ⟨none,some 8,.ar .geq (.t 7) (.c (.i .i64 0)),[7]⟩ ::
 ⟨none,some 4,.mv (.t 8),[8]⟩ :: []))
.ret))
set_option maxRecDepth 100000 in
theorem c152:fnB Tryz.prog 152=some (9,s152,[.t 4]):=by kernel_rfl
def s153:Sc:=(.seq (.region (
 ⟨none,some 4,.mv (.c .ns),[]⟩ :: []))
(.seq (.block 0 (.seq (.region (
 ⟨none,some 6,.mv (.t 0),[0]⟩ ::
 ⟨none,some 7,.eq .int false (.t 6) (.c (.i .i64 1)),[6]⟩ ::
 ⟨none,some 8,.mv (.t 7),[7]⟩ ::
 ⟨some (8,true),some 9,.mv (.t 1),[1,8]⟩ ::
 ⟨none,some 10,.pk (.t 8) (.t 9) (.c (.b false)),[8,9]⟩ ::
 ⟨none,some 5,.mv (.t 10),[10]⟩ :: []))
(.cond (.t 5) (.seq (.region (
 ⟨none,some 11,.bs 3 3 1 [(.i .i64 0)] [(0,1,(.c (.i .i64 11))),(1,1,(.c (.i .i64 12))),(2,1,(.c (.i .i64 16)))],[]⟩ ::
 ⟨none,some 4,.mv (.t 11),[11]⟩ :: []))
.ret)
 (.seq (.region (
  ⟨none, some 13, .mv (.t 0), [0]⟩ ::
  ⟨none, some 14, .eq .int false (.t 13) (.c (.i .i64 1)), [13]⟩ ::
  ⟨none, some 12, .mv (.t 14), [14]⟩ :: []))
(.cond (.t 12) (.seq (.region (
 ⟨none,some 15,.bs 3 3 1 [(.i .i64 0)] [(0,1,(.c (.i .i64 1))),(1,1,(.c (.i .i64 2))),(2,1,(.c (.i .i64 5)))],[]⟩ ::
 ⟨none,some 4,.mv (.t 15),[15]⟩ :: []))
.ret)
 (.seq (.region (
  ⟨none, some 17, .mv (.t 0), [0]⟩ ::
  ⟨none, some 18, .eq .int false (.t 17) (.c (.i .i64 2)), [17]⟩ ::
  ⟨none, some 19, .mv (.t 18), [18]⟩ ::
  ⟨some (19, true), some 20, .mv (.t 1), [1, 19]⟩ ::
  ⟨none, some 21, .pk (.t 19) (.t 20) (.c (.b false)), [19, 20]⟩ ::
  ⟨none, some 16, .mv (.t 21), [21]⟩ :: []))
(.cond (.t 16) (.seq (.region (
 ⟨none,some 22,.bs 3 2 1 [(.i .i64 0)] [(0,1,(.c (.i .i64 11))),(1,1,(.c (.i .i64 13)))],[]⟩ ::
 ⟨none,some 4,.mv (.t 22),[22]⟩ :: []))
.ret)
 (.seq (.region (
  ⟨none, some 24, .mv (.t 0), [0]⟩ ::
  ⟨none, some 25, .eq .int false (.t 24) (.c (.i .i64 2)), [24]⟩ ::
  ⟨none, some 23, .mv (.t 25), [25]⟩ :: []))
(.cond (.t 23) (.seq (.region (
 ⟨none,some 26,.bs 3 3 1 [(.i .i64 0)] [(0,1,(.c (.i .i64 1))),(1,1,(.c (.i .i64 3))),(2,1,(.c (.i .i64 5)))],[]⟩ ::
 ⟨none,some 4,.mv (.t 26),[26]⟩ :: []))
.ret)
 (.seq (.region (
  ⟨none, some 28, .mv (.t 0), [0]⟩ ::
  ⟨none, some 29, .eq .int false (.t 28) (.c (.i .i64 3)), [28]⟩ ::
  ⟨none, some 30, .mv (.t 29), [29]⟩ ::
  ⟨some (30, true), some 31, .mv (.t 1), [1, 30]⟩ ::
  ⟨none, some 32, .pk (.t 30) (.t 31) (.c (.b false)), [30, 31]⟩ ::
  ⟨none, some 27, .mv (.t 32), [32]⟩ :: []))
(.cond (.t 27) (.seq (.region (
 ⟨none,some 33,.bs 3 2 1 [(.i .i64 0)] [(0,1,(.c (.i .i64 14))),(1,1,(.c (.i .i64 15)))],[]⟩ ::
 ⟨none,some 4,.mv (.t 33),[33]⟩ :: []))
.ret)
 (.seq (.region (
  ⟨none, some 35, .mv (.t 0), [0]⟩ ::
  ⟨none, some 36, .eq .int false (.t 35) (.c (.i .i64 3)), [35]⟩ ::
  ⟨none, some 34, .mv (.t 36), [36]⟩ :: []))
(.cond (.t 34) (.seq (.region (
 ⟨none,some 37,.bs 3 4 1 [(.i .i64 0)] [(0,1,(.c (.i .i64 2))),(1,1,(.c (.i .i64 3))),(2,1,(.c (.i .i64 4))),(3,1,(.c (.i .i64 5)))],[]⟩ ::
 ⟨none,some 4,.mv (.t 37),[37]⟩ :: []))
.ret)
 .skip)))))))))))))
(.seq (.region (
 ⟨none,some 4,.mv (.c .ns),[]⟩ :: []))
.ret)))
set_option maxRecDepth 100000 in
theorem c153:fnB Tryz.prog 153=some (38,s153,[.t 4]):=by kernel_rfl
structure LkAt (h:H) (b:Nat) (gl:List V) (vn:V) (g:Gr) (w:Bool) (nx:List Int):Prop where
 bx:Bx h b (gl++[.b w,vn])
 gr:GrAt h gl g
 ro:Ro h vn 1 icell nx
 len:nx.length=g.ev.length
 next:∀i:Nat,i<g.ev.length→∀k:Int,0≤k→(gt nx i=k↔Nxt g i k)
theorem LkAt.kp {h h':H} {b:Nat} {gl:List V} {vn:V} {g:Gr} {w:Bool} {nx:List Int} (k:Kp h h') (hw:Wf h) (hl:LkAt h b gl vn g w nx):LkAt h' b gl vn g w nx:=⟨hl.bx.kp k hw,hl.gr.kp k hw,hl.ro.kp k hw,hl.len,hl.next⟩
set_option maxHeartbeats 0 in
theorem lis_spec {m:Bool} {h:H} {b:Nat} {gl:List V} {vn:V} {g:Gr} {w:Bool} {nx:List Int} {i k:Int} (hg:LkAt h b gl vn g w nx):FX m Tryz.prog 154 [.p b 0,.i .i64 i,.i .i64 k] h fun v h'=>v=B (IsE g i k)∧Kp h h':=by
 obtain⟨hB,hg,-,-,-⟩:=hg
 obtain⟨ve,vrf,vco,vrmw,vad,vda,vct,rfl,he,-⟩:=hg.is
 refine Fn.env c154 rfl ?_
 unfold s154
 obtain⟨hL,hC⟩:=he
 have k1:=Kp.refl h
 refine go ?_
 repeat' ((first | refine wgd (fun _=>?_) fun _=>?_ | refine wgn (fun _=>?_) fun _=>?_ | refine wgb (fun _=>?_) fun _=>?_ | refine mgd (fun _=>?_) fun _=>?_ | refine mgn (fun _=>?_) fun _=>?_ | refine mgb (fun _=>?_) fun _=>?_ | refine cD (fun _=>?_) fun _=>?_ | refine cN (fun _=>?_) fun _=>?_ | refine cB (fun _=>?_) fun _=>?_) <;> refine go ?_)
 all_goals refine ret_1 ⟨?_,k1⟩
 all_goals first | exact B_t (by unfold IsE;omega) | exact B_f (by unfold IsE;omega) | exact B_d (by unfold IsE;omega)
set_option maxHeartbeats 0 in
theorem lpo_spec {m:Bool} {h:H} {b:Nat} {gl:List V} {vn:V} {g:Gr} {w:Bool} {nx:List Int} {i k:Int} (hg:LkAt h b gl vn g w nx):FX m Tryz.prog 155 [.p b 0,.i .i64 i,.i .i64 k] h fun v h'=>v=B (Bef g i k)∧Kp h h':=by
 obtain⟨hB,hg,-,-,-⟩:=hg
 obtain⟨ve,vrf,vco,vrmw,vad,vda,vct,rfl,he,-⟩:=hg.is
 refine Fn.env c155 rfl ?_
 unfold s155
 obtain⟨hL,hC⟩:=he
 have k1:=Kp.refl h
 refine go ?_
 repeat' ((first | refine wgd (fun _=>?_) fun _=>?_ | refine wgn (fun _=>?_) fun _=>?_ | refine wgb (fun _=>?_) fun _=>?_ | refine mgd (fun _=>?_) fun _=>?_ | refine mgn (fun _=>?_) fun _=>?_ | refine mgb (fun _=>?_) fun _=>?_ | refine cD (fun _=>?_) fun _=>?_ | refine cN (fun _=>?_) fun _=>?_ | refine cB (fun _=>?_) fun _=>?_) <;> refine go ?_)
 all_goals refine ret_1 ⟨?_,k1⟩
 all_goals first | exact B_t (by unfold Bef;omega) | exact B_f (by unfold Bef;omega) | exact B_d (by unfold Bef;omega)
set_option maxHeartbeats 0 in
theorem index_spec {m:Bool} {h:H} {v:V} {l:List Int} {x:Int} (hl:Ro h v 1 icell l) (hn:l.length≤100000000):FX m Tryz.prog 222 [v,.i .i64 x] h fun v h'=>(∃r:Int,v=.i .i64 r∧(0≤r↔x∈l))∧h'=h:=by
 refine Fn.env c222 rfl ?_
 unfold s222
 obtain⟨hL,hC⟩:=hl
 refine go ?_
 refine Es.loop (X:=Nat) (fun y=>l.length-y) (fun y=>[(0,v),(1,.i .i64 x),(7,.i .i64 (l.length:Int)),(8,.i .i64 (y:Int))]) (fun y h2=>y≤l.length∧h2=h∧∀j,j<y→gt l j≠x) 0 ⟨rfl,rfl,rfl,rfl,trivial⟩ ⟨Nat.zero_le _,rfl,fun r hr=>absurd hr (Nat.not_lt_zero _)⟩ fun y h2 hx=>?_
 obtain⟨hy,rfl,hI⟩:=hx
 refine go ?_
 repeat' ((first | refine wgd (fun _=>?_) fun _=>?_ | refine wgn (fun _=>?_) fun _=>?_ | refine wgb (fun _=>?_) fun _=>?_ | refine mgd (fun _=>?_) fun _=>?_ | refine mgn (fun _=>?_) fun _=>?_ | refine mgb (fun _=>?_) fun _=>?_ | refine cD (fun _=>?_) fun _=>?_ | refine cN (fun _=>?_) fun _=>?_ | refine cB (fun _=>?_) fun _=>?_) <;> refine go ?_)
 ·exact ret_1 ⟨⟨(y:Int),rfl,fun _=>by
   have e:x=gt l y:=by assumption
   rw[e,gt_lt (by omega)]
   exact List.getElem_mem _,fun _=>by omega⟩,rfl⟩
 ·exact Nx.inv (y+1) (by omega) ⟨rfl,rfl,rfl,rfl,trivial⟩ ⟨by omega,rfl,fun j hj=>by
   rcases Nat.lt_succ_iff_lt_or_eq.1 hj with h1 | h1
   ·exact hI j h1
   ·subst h1
    have e:¬x=gt l j:=by assumption
    exact fun h=>e h.symm⟩
 ·exact ret_1 ⟨⟨-1,rfl,fun h=>absurd h (by decide),fun hm=>by
   obtain⟨j,hj,e⟩:=List.mem_iff_getElem.1 hm
   rw[←gt_lt hj]at e
   exact absurd e (hI j (by omega))⟩,rfl⟩
set_option maxHeartbeats 0 in
theorem contains_spec {m:Bool} {h:H} {v:V} {l:List Int} {x:Int} (hl:Ro h v 1 icell l) (hn:l.length≤100000000):FX m Tryz.prog 152 [v,.i .i64 x] h fun v h'=>v=B (x∈l)∧h'=h:=by
 refine Fn.env c152 rfl ?_
 unfold s152
 refine go ?_
 refine stC (index_spec hl hn) fun v h2 hR=>?_
 obtain⟨⟨r,rfl,hr⟩,rfl⟩:=hR
 refine go ?_
 exact ret_1 ⟨B_d hr,rfl⟩
noncomputable def modesL (k:Int) (w:Bool):List Int:=if w=true then(if k=1 then [11,12,16]else if k=2 then [11,13]else if k=3 then [14,15]else [])else if k=1 then [1,2,5]else if k=2 then [1,3,5]else if k=3 then [2,3,4,5]else []
theorem modesL_len (k:Int) (w:Bool):(modesL k w).length≤4:=by
 unfold modesL
 repeat' split
 all_goals decide
theorem modesL_ok {k m:Int} {w:Bool}:m∈modesL k w↔ModeOk k m w:=by
 unfold modesL ModeOk
 cases w
 ·rw[if_neg (by decide)]
  repeat' split
  all_goals simp <;> omega
 ·rw[if_pos rfl]
  repeat' split
  all_goals simp <;> omega
theorem ro_bs {h:H} {ty:TypeId} {l:List Int} {n:Nat} {vs:List V} (hv:vs=l.map fun x=>V.i .i64 x) (hn:l.length=n):Ro (h.new ty vs false) (.sl h.next 0 n n true 1) 1 icell l:=by
 subst hn
 refine⟨.sl (Nat.le_refl _),⟨fun i k hi hk=>?_⟩⟩
 obtain rfl:k=0:=by omega
 have hbn:Bx (h.new ty vs false) h.next vs:=ob_new.bx
 refine hbn.eq (0+i*1+0) _ ?_
 rw[Nat.zero_add,Nat.mul_one,Nat.add_zero,hv,List.getElem?_map,List.getElem?_eq_getElem hi,←gt_lt hi]
 rfl
set_option maxHeartbeats 0 in
theorem modes_spec {m:Bool} {h:H} {k:Int} {w:Bool}:FX m Tryz.prog 153 [.i .i64 k,.b w] h fun v h'=>Ro h' v 1 icell (modesL k w)∧Kp h h':=by
 refine Fn.env c153 rfl ?_
 unfold s153
 have hk:k=1∨k=2∨k=3∨(k≠1∧k≠2∧k≠3):=by omega
 rcases hk with rfl | rfl | rfl | hk
 all_goals cases w
 all_goals
  refine go ?_
  repeat' ((first | refine wgd (fun _=>?_) fun _=>?_ | refine wgn (fun _=>?_) fun _=>?_ | refine wgb (fun _=>?_) fun _=>?_ | refine mgd (fun _=>?_) fun _=>?_ | refine mgn (fun _=>?_) fun _=>?_ | refine mgb (fun _=>?_) fun _=>?_ | refine cD (fun _=>?_) fun _=>?_ | refine cN (fun _=>?_) fun _=>?_ | refine cB (fun _=>?_) fun _=>?_) <;> refine go ?_)
 all_goals try
  refine ew_s .n (od_bs rfl rfl rfl) ?_
  refine go ?_
  repeat' ((first | refine wgd (fun _=>?_) fun _=>?_ | refine wgn (fun _=>?_) fun _=>?_ | refine wgb (fun _=>?_) fun _=>?_ | refine mgd (fun _=>?_) fun _=>?_ | refine mgn (fun _=>?_) fun _=>?_ | refine mgb (fun _=>?_) fun _=>?_ | refine cD (fun _=>?_) fun _=>?_ | refine cN (fun _=>?_) fun _=>?_ | refine cB (fun _=>?_) fun _=>?_) <;> refine go ?_)
 all_goals first
  | exact ret_1 ⟨ro_bs (l:=modesL _ _) rfl rfl,kp_new⟩
  | exact ret_1 ⟨by
    have e:∀w,modesL k w = []:=fun w=>by
     unfold modesL
     repeat' split
     all_goals first | rfl | omega
    rw[e]
    exact Ro.nil,Kp.refl h⟩
def s47:Sc:=(.seq (.region (
 ⟨none,some 4,.al 100 [.ns,.ns],[]⟩ :: []))
(.seq (.mix (
 (⟨none,some 7,.mv (.t 1),[1]⟩,.q [none]) ::
 (⟨none,some 8,.ms 27 1 24 [.ns] (.t 7) (.t 7),[7,7]⟩,.soft) ::
 (⟨none,some 9,.mv (.t 0),[0]⟩,.q [none]) ::
 (⟨none,some 10,.ms 27 1 24 [.ns] (.t 9) (.t 9),[9,9]⟩,.soft) ::
 (⟨none,some 11,.bd [.ns,.ns] [(0,1,(.t 8)),(1,1,(.t 10))],[8,10]⟩,.q [none]) ::
 (⟨none,some 5,.al 100 [.ns,.ns],[]⟩,.soft) ::
 (⟨none,none,.st (.t 5) (.t 11) 2,[5,11]⟩,.e) :: []))
(.seq (.seq (.region (
 ⟨none,some 6,.mv (.c (.i .i64 0)),[]⟩ :: []))
(.block 0 (.loop (.seq (.seq (.region (
 ⟨none,some 12,.mv (.t 6),[6]⟩ ::
 ⟨none,some 13,.mv (.t 0),[0]⟩ ::
 ⟨none,some 14,.ar .lss (.t 12) (.t 13),[12,13]⟩ :: []))
(.cond (.t 14) .skip
 (.exit 0)))
(.seq (.block 1 (.region (
 ⟨none,some 17,.fa (.t 5) 1,[5]⟩ ::
 ⟨none,some 18,.ld (.t 17),[17]⟩ ::
 ⟨none,some 19,.mv (.t 6),[6]⟩ ::
 ⟨none,some 20,.mv (.t 6),[6]⟩ ::
 ⟨none,some 21,.bs 3 1 1 [(.i .i64 0)] [(0,1,(.t 20))],[20]⟩ ::
 ⟨none,some 22,.ia (.t 18) (.t 19) 1,[18,19]⟩ ::
 ⟨none,none,.st (.t 22) (.t 21) 1,[22,21]⟩ :: [])))
(.region (
 ⟨none,some 15,.mv (.t 6),[6]⟩ ::
 ⟨none,some 16,.ar .add (.t 15) (.c (.i .i64 1)),[15]⟩ ::
 ⟨none,some 6,.mv (.t 16),[16]⟩ :: [])))))))
(.seq (.region (
 ⟨none,some 23,.lds (.t 5) 2,[5]⟩ ::
 ⟨none,none,.st (.t 4) (.t 23) 2,[4,23]⟩ :: []))
.ret))))
set_option maxRecDepth 100000 in
theorem c47:fnB Tryz.prog 47=some (24,s47,[.c (.lds (.t 4) 2)]):=by kernel_rfl
structure Li (h:H) (n0:Nat) (v:V) (x:Int):Prop where
 is:∃b,v=.sl b 0 1 1 true 1∧n0≤b∧b<h.next
 ro:Ro h v 1 icell [x]
theorem Li.mo {h h':H} {n0:Nat} {v:V} {x:Int} {b:Option Nat} (m:Mo h h' b) (hl:Li h n0 v x) (hb:∀k,b=some k→k<n0):Li h' n0 v x:=by
 obtain⟨⟨b',rfl,h1,h2⟩,h3⟩:=hl
 refine⟨⟨b',rfl,h1,Nat.lt_of_lt_of_le h2 m.le⟩,h3.ln,h3.cs.mo m fun _=>⟨h2,fun e=>?_⟩⟩
 have:=hb _ e
 have:(V.sl b' 0 1 1 true 1).ba=b':=rfl
 omega
theorem Li.low {h:H} {n0 n1:Nat} {v:V} {x:Int} (hl:Li h n0 v x) (hn:n1≤n0):Li h n1 v x:=by
 obtain⟨⟨b',h0,h1,h2⟩,h3⟩:=hl
 exact⟨⟨b',h0,Nat.le_trans hn h1,h2⟩,h3⟩
theorem cells_one2 {v:V} (h:v.one=true):v.cells = [v]:=by
 cases v <;> first | rfl | cases h
set_option maxHeartbeats 0 in
theorem new_spec {m:Bool} {h:H} {c n:Nat} (hw:Wf h) (hc:c≤4096) (hn:n≤64):FX m Tryz.prog 47 [.i .i64 (c:Int),.i .i64 (n:Int)] h fun v h'=>(∃vq vo ws,v=.agg [vq,vo]∧Ar h' h.next vq 1 27 vcell (List.replicate n V.ns)∧Ar h' h.next vo 1 27 vcell ws∧vq.ba≠vo.ba∧ws.length=c∧∀i,i<c→Li h' h.next (gt ws i) i)∧Kp h h':=by
 refine Fn.env c47 rfl ?_
 unfold s47
 refine Es.seq (Es.region (ew_al fun b h1 ob k1=>?_))
 have hw1:=k1.wf hw
 refine go ?_
 refine em_ms (α:=V) (c:=vcell) (n:=n) .ns (fun vq h2 hQ k2=>?_) (by omega) (by omega)
 refine go ?_
 refine em_ms (α:=V) (c:=vcell) (n:=c) .ns (fun vo h3 hO k3=>?_) (by omega) (by omega)
 have hQ3:=hQ.mo (Mo.of_kp k3 none) (fun e=>by cases e)
 have o1:=hQ3.ln.one
 have o2:=hO.ln.one
 refine go ?_
 have hfl:fillL [.ns,.ns] [(0,1,vq),(1,1,vo)]=some [vq,vo]:=by
  simp only[fillL,cells_one2 o1,cells_one2 o2]
  rfl
 refine emN (mS (v:=.agg [vq,vo]) (hd:=⟨fun _=>od_bd rfl hfl⟩) ?_)
 refine go ?_
 refine em_al fun b5 h4 ob5 k4=>?_
 refine go ?_
 refine em_st ob5 (fun h5 ob6 m5=>?_) (h1:=allOne_cons o1 (allOne_cons o2 rfl))
 have k5:Kp h3 h5:=m5.kp k4 fun j hj=>by injection hj with hj;subst hj;exact ob5.lo
 have hQ5:=hQ3.mo (Mo.of_kp k5 none) (fun e=>by cases e)
 have hO5:=hO.mo (Mo.of_kp k5 none) (fun e=>by cases e)
 have q1:=hQ.blk.2.2
 have q2:=hQ.blk.2.1
 have q3:=hO.blk.2.2
 have q4:=hO.blk.2.1
 have q5:=ob6.lo
 have q6:=ob6.hi
 have q7:=k1.le
 have q8:=k2.le
 have q9:=k3.le
 have q10:=k5.le
 have k05:=k1.trans (k2.trans (k3.trans k5))
 have hB5:Bx h5 b5 [vq,vo]:=ob6.bx
 have hbb:=ob.lo
 have hbh:=ob.hi
 have hob:=ob.mo (Mo.of_kp (k2.trans (k3.trans k5)) none) (fun e=>by cases e)
 clear ob5 m5 k4 hQ hO hQ3 k2 k3 ob
 refine go ?_
 refine Es.loop (X:=Nat × List V) (fun x=>c-x.1) (fun x=>[(0,.i .i64 (c:Int)),(4,.p b 0),(5,.p b5 0),(6,.i .i64 (x.1:Int))]) (fun x h'=>x.1≤c∧Kp h h'∧h5.next≤h'.next∧Ar h' h1.next vq 1 27 vcell (List.replicate n V.ns)∧Ar h' h1.next vo 1 27 vcell x.2∧Bx h' b5 [vq,vo]∧Ob h' h.next b 100 [.ns,.ns]∧x.2.length=c∧∀i,i<x.1→Li h' h5.next (gt x.2 i) i) (0,List.replicate c .ns) ⟨rfl,rfl,rfl,rfl,trivial⟩ ⟨Nat.zero_le _,k05,Nat.le_refl _,hQ5.low (by omega),hO5.low (by omega),hB5,hob,List.length_replicate,fun t ht=>absurd ht (Nat.not_lt_zero _)⟩ fun x h6 hx=>?_
 obtain⟨i,ws⟩:=x
 clear hQ5 hO5 hB5 k5 k05 ob6 hob
 obtain⟨hic,k6,hle6,hQ,hO,hB,hob,hwl,hI⟩:=hx
 simp only at hic hO hwl hI ⊢
 refine go ?_
 refine cD (fun hlt=>?_) (fun hge=>?_)
 ·have hLo:Ln vo 1 c:=by rw[←hwl];exact hO.ln
  refine go ?_
  refine ew_s .n (od_bs (l:=[.i .i64 (i:Int)]) rfl rfl rfl) ?_
  have hro:=ro_bs (h:=h6) (ty:=3) (l:=[(i:Int)]) (vs:=[.i .i64 (i:Int)]) rfl rfl
  have kn:Kp h6 (h6.new 3 [.i .i64 (i:Int)] false):=kp_new
  have hli:Li (h6.new 3 [.i .i64 (i:Int)] false) h5.next (.sl h6.next 0 1 1 true 1) i:=⟨⟨h6.next,rfl,hle6,Nat.lt_succ_self _⟩,hro⟩
  have hq1:=hQ.blk.1
  have hQ:=hQ.mo (Mo.of_kp kn none) (fun e=>by cases e)
  have hO:=hO.mo (Mo.of_kp kn none) (fun e=>by cases e)
  have hob:=hob.mo (Mo.of_kp kn none) (fun e=>by cases e)
  have hI:∀j,j<i→Li (h6.new 3 [.i .i64 (i:Int)] false) h5.next (gt ws j) j:=fun j hj=>(hI j hj).mo (Mo.of_kp kn none) fun k h=>by cases h
  have hB:Bx (h6.new 3 [.i .i64 (i:Int)] false) b5 [vq,vo]:=⟨fun k v hk=>⟨by
   have:=(hB.eq k v hk).eq
   unfold H.cell at this ⊢
   rw[kn.old.get b5 (by omega)]
   exact this⟩⟩
  have k6:=k6.trans kn
  have hle6:=Nat.le_trans hle6 kn.le
  generalize hvv:(.sl h6.next 0 1 1 true 1:V)=vv at hli ⊢
  generalize h6.new 3 [.i .i64 (i:Int)] false=h7 at hli hQ hO hob hI hB k6 hle6 ⊢
  have hv1:vv.one=true:=by rw[←hvv];rfl
  clear hro kn
  refine go ?_
  refine ew_ar vv hO (i:=i) (by omega) (fun h8 hO8 m8=>?_) (hv:=cells_one2 hv1) (h1:=by show(vv.one&&true)=true;rw[hv1];rfl)
  have k8:=m8.kp k6 fun j hj=>by injection hj with hj;subst hj;have:=hO.blk.2.1;omega
  have hQ8:=hQ.mo m8 fun e=>by injection e with e;omega
  have hob8:=hob.mo m8 fun e=>by injection e with e;omega
  have hB8:Bx h8 b5 [vq,vo]:=⟨fun k v hk=>⟨by
   have:=(hB.eq k v hk).eq
   unfold H.cell at this ⊢
   rw[m8.get b5 (by omega) fun e=>by injection e with e;omega]
   exact this⟩⟩
  refine go ?_
  exact Nx.inv (i+1,ws.set i vv) (by simp only;omega) ⟨rfl,rfl,rfl,rfl,trivial⟩ ⟨by simp only;omega,k8,Nat.le_trans hle6 m8.le,hQ8,hO8,hB8,hob8,by rw[List.length_set];exact hwl,fun s hs=>by
   simp only at hs ⊢
   rw[gt_set (by omega)]
   by_cases e:s=i
   ·rw[if_pos e,e];exact hli.mo m8 fun k h=>by injection h with h;omega
   ·rw[if_neg e];exact(hI s (by omega)).mo m8 fun k h=>by injection h with h;omega⟩
 ·obtain rfl:i=c:=by omega
  refine go ?_
  refine ew_st hob (fun h7 hob7 m7=>?_) (h1:=allOne_cons o1 (allOne_cons o2 rfl))
  have hQ7:=hQ.mo m7 fun e=>by injection e with e;omega
  have hO7:=hO.mo m7 fun e=>by injection e with e;omega
  have k7:=m7.kp k6 fun j hj=>by injection hj with hj;omega
  have hB7:Bx h7 b [vq,vo]:=hob7.bx
  refine go ?_
  exact ret_c (v:=.agg [vq,vo]) (od_lds rfl (rw_b hB7 rfl)) ⟨⟨vq,vo,ws,rfl,hQ7.low (by omega),hO7.low (by omega),by omega,hwl,fun s hs=>((hI s hs).mo m7 fun k h=>by injection h with h;omega).low (by omega)⟩,k7⟩
def valE (g:Gr) (F:List Int) (r:Nat):Ev_:=if (gt g.ev r).kind=1 then { gt g.ev r with val:=(gt g.ev (gt F r).toNat).val }else gt g.ev r
def evsA (g:Gr) (F:List Int) (n:Nat):List Ev_:=(List.range g.ev.length).map fun r=>if r<n then valE g F r else gt g.ev r
def rfsA (g:Gr) (F:List Int) (n:Nat):List (Int × Int):=((List.range n).filter fun r=>decide ((gt g.ev r).kind=1)).map fun r=>(gt F r,(r:Int))
section
variable {g:Gr} {F:List Int} {n:Nat}
theorem evsA_len:(evsA g F n).length=g.ev.length:=by unfold evsA;rw[List.length_map,List.length_range]
theorem gt_mapR {α:Type} [Inhabited α] {f:Nat→α} {n i:Nat} (h:i<n):gt ((List.range n).map f) i=f i:=by
 rw[gt_lt (by rw[List.length_map,List.length_range];exact h),List.getElem_map,List.getElem_range]
theorem evsA_gt {i:Nat} (h:i<g.ev.length):gt (evsA g F n) i=if i<n then valE g F i else gt g.ev i:=gt_mapR h
theorem evsA_0:evsA g F 0=g.ev:=gt_ext evsA_len fun i hi=>by
 rw[evsA_len]at hi
 rw[evsA_gt hi,if_neg (Nat.not_lt_zero _)]
theorem evsA_s (h:n<g.ev.length):evsA g F (n+1)=(evsA g F n).set n (valE g F n):=gt_ext (by rw[List.length_set,evsA_len,evsA_len]) fun i hi=>by
 rw[evsA_len]at hi
 rw[evsA_gt hi,gt_set (by rw[evsA_len];exact h),evsA_gt hi]
 by_cases e:i=n
 ·rw[if_pos e,e,if_pos (Nat.lt_succ_self _)]
 ·rw[if_neg e]
  by_cases e2:i<n
  ·rw[if_pos e2,if_pos (by omega)]
  ·rw[if_neg e2,if_neg (by omega)]
theorem evsA_n (h:n<g.ev.length) (hk:(gt g.ev n).kind≠1):evsA g F (n+1)=evsA g F n:=by
 rw[evsA_s h]
 have:gt (evsA g F n) n=valE g F n:=by
  rw[evsA_gt h,if_neg (Nat.lt_irrefl _)]
  unfold valE
  rw[if_neg hk]
 rw[←this]
 exact set_gt (by rw[evsA_len];exact h)
theorem rfsA_y (hk:(gt g.ev n).kind=1):rfsA g F (n+1)=rfsA g F n++[(gt F n,(n:Int))]:=by
 unfold rfsA
 rw[List.range_succ,List.filter_append,List.map_append]
 simp[hk]
theorem rfsA_n (hk:(gt g.ev n).kind≠1):rfsA g F (n+1)=rfsA g F n:=by
 unfold rfsA
 rw[List.range_succ,List.filter_append,List.map_append]
 simp[hk]
theorem rfsA_len:(rfsA g F n).length≤n:=by
 unfold rfsA
 rw[List.length_map]
 have:=List.length_filter_le (fun r=>decide ((gt g.ev r).kind=1)) (List.range n)
 simpa using this
theorem playG_eq {O:List (List Int)}:playG g O F = { g with ev:=evsA g F g.ev.length,rf:=rfsA g F g.ev.length,co:=O }:=by
 have:evsA g F g.ev.length=(List.range g.ev.length).map fun r=>valE g F r:=gt_ext (by rw[evsA_len,List.length_map,List.length_range]) fun i hi=>by
  rw[evsA_len]at hi
  rw[evsA_gt hi,if_pos hi,gt_mapR hi]
 rw[this]
 rfl
end
/-! ### How it begins -/
def begT (g:Gr) (n:Nat):List (List Int):=(List.range n).map fun t:Nat=>threadL g.ev (t:Int) g.ev.length
def begO (c:Nat):List (List Int):=(List.range c).map fun c:Nat=>[(c:Int)]
def begP (g:Gr) (n:Nat):Ps:=⟨.pk 0,begT g n,List.replicate n [],begO g.cells.toNat,List.replicate g.ev.length 0⟩
theorem lenT_app (a b:List (List Int)):lenT (a++b)=lenT a+lenT b:=by
 unfold lenT
 rw[List.map_append,List.sum_append]
theorem lenT_range (f:Nat→List Int) (m:Nat) (hf:∀i,(f i).length≤m):∀n,lenT ((List.range n).map f)≤n*m
 | 0=>by simp[lenT]
 | n+1=>by
  have h1:=lenT_range f m hf n
  rw[List.range_succ,List.map_append,lenT_app]
  have h2:lenT (List.map f [n])=(f n).length:=by simp[lenT]
  have:=hf n
  rw[h2,Nat.add_mul]
  omega
theorem lenT_nil (n:Nat):lenT (List.replicate n [])=0:=by
 induction n with
 | zero=>rfl
 | succ n ih =>
  rw[List.replicate_succ]
  show 0+lenT (List.replicate n [])=0
  omega
theorem gt_rep {α:Type} [Inhabited α] {x:α} {n i:Nat} (h:i<n):gt (List.replicate n x) i=x:=by
 rw[gt_lt (by rw[List.length_replicate];exact h),List.getElem_replicate]
theorem Gp.beg {g : Gr} {b : Bool} (hw : WF g b) {n : Nat} (hn : n ≤ 64) : Gp g n (begT g n) (List.replicate n []) (begO g.cells.toNat) (List.replicate g.ev.length 0) := by
  obtain ⟨h1, h2, h3, h4⟩ := hw.size
  exact
  { tl := by unfold begT; rw [List.length_map, List.length_range]
    ql := List.length_replicate
    ol := by unfold begO; rw [List.length_map, List.length_range]; omega
    fl := List.length_replicate
    t := fun t ht => ⟨0, by unfold begT; rw [gt_mapR ht, List.drop_zero]⟩
    q := fun t ht x hx => by rw [gt_rep ht] at hx; cases hx
    o := fun c hc => by
      unfold begO at hc ⊢
      rw [List.length_map, List.length_range] at hc
      rw [gt_mapR hc]
      refine ⟨Nat.zero_lt_one, fun x hx => ?_⟩
      rw [List.mem_singleton.1 hx]
      have h5 := hw.init c (by omega)
      refine ⟨Int.natCast_nonneg _, by omega, ?_⟩
      rw [Int.toNat_natCast, h5]
      exact ⟨rfl, by show (0 : Int) ≤ c; omega, by show (c : Int) < g.cells; omega⟩
    f := fun x hx => by
      rw [List.length_replicate] at hx
      rw [gt_rep hx]
      exact ⟨Int.le_refl _, by omega⟩
    sz := by
      have h5 := lenT_range (fun t : Nat => threadL g.ev (t : Int) g.ev.length) 256 (fun t => Nat.le_trans (threadL_len _ _ _) (by omega)) n
      have h6 := lenT_range (fun c : Nat => [(c : Int)]) 1 (fun _ => Nat.le_refl _) g.cells.toNat
      have h7 : lenT (begT g n) ≤ n * 256 := h5
      have h8 : lenT (begO g.cells.toNat) ≤ g.cells.toNat * 1 := h6
      rw [lenT_nil]
      omega }
def zeroG:Gr:=⟨0,[],[],[],[],[],[],[]⟩
def PlayR (g:Gr) (ps:List Int) (w:Gr) (code:Int):Prop:=(¬(WF g false∨WF g true)∧w=zeroG∧code=4)∨((WF g false∨WF g true)∧code=0∧∃n:Nat,thrN g.ev g.ev.length=n∧∃s,RunP g ps n (begP g n) s∧w=playG g s.O s.F)
theorem PlayR.det {g:Gr} {ps:List Int} {w w':Gr} {c c':Int} (h:PlayR g ps w c) (h':PlayR g ps w' c'):w=w'∧c=c':=by
 rcases h with⟨h1,h2,h3⟩ | ⟨h1,h2,n,h3,s,h4,h5⟩ <;> rcases h' with⟨g1,g2,g3⟩ | ⟨g1,g2,m,g3,r,g4,g5⟩
 ·exact⟨h2.trans g2.symm,h3.trans g3.symm⟩
 ·exact absurd g1 h1
 ·exact absurd h1 g1
 ·obtain rfl:n=m:=by omega
  obtain rfl:=h4.det g4
  exact⟨h5.trans g5.symm,h2.trans g2.symm⟩
theorem wf_size {g:Gr} (hw:WF g false∨WF g true):0≤g.cells∧g.cells≤g.ev.length∧g.ev.length≤256∧∀i,i<g.ev.length→(gt g.ev i).thread<64:=by
 rcases hw with hw | hw
 all_goals
  obtain⟨h1,h2,h3,h4⟩:=hw.size
  refine⟨h1,h3,h4,fun i hi=>?_⟩
  by_cases h5:(i:Int)<g.cells
  ·rw[hw.init i h5];show(-1:Int)<64;omega
  ·exact(hw.ev i (by omega) hi).2.1
/-! ### Memory -/
section
variable {α:Type} [Inhabited α] {h h':H} {v:V} {sz n0:Nat} {ty:TypeId} {c:α→Nat→V} {l:List α}
theorem Ar.ne {β:Type} [Inhabited β] {v':V} {sz' n0':Nat} {ty':TypeId} {c':β→Nat→V} {l':List β} (hg:Ar h n0 v sz ty c l) (hg':Gw h n0' v' sz' ty' c' l') (ht:ty≠ty'):v'.blk≠some v.ba:=fun hk'=>by
 obtain⟨b,p,rfl,h1,h2,h3⟩:=hg.own
 rcases hg'.own with⟨rfl,_⟩ | ⟨b',o',rfl,h1',h2',h3'⟩
 ·cases hk'
 ·injection hk' with hk'
  subst hk'
  have h3:h.row b'=some (ty,l.length*sz,p):=h3
  have h3':h.row b'=some (ty',o'+l'.length*sz',true):=h3'
  rw[h3]at h3'
  injection h3' with h3'
  injection h3' with h4
  exact ht h4
theorem Gw.st1 {i k:Nat} {w:V} {x':α} (hg:Gw h n0 v sz ty c l) (hi:i<l.length) (hk:k<sz) (hx:∀j,j<sz→c x' j=if j=k then w else c (gt l i) j):Gw (h.st v.ba (v.of+i*sz+k) [w]) n0 v sz ty c (l.set i x')∧Mo h (h.st v.ba (v.of+i*sz+k) [w]) v.blk∧∃hi p,h.row v.ba=some (ty,hi,p)∧v.of+i*sz+k+1≤hi:=by
 rcases hg.own with⟨_,rfl⟩ | ⟨b,o,rfl,h1,h2,h3⟩
 ·exact absurd hi (Nat.not_lt_zero _)
 have hle:o+i*sz+k+1≤o+l.length*sz:=by
  have:(i+1)*sz≤l.length*sz:=Nat.mul_le_mul_right _ hi
  rw[Nat.add_mul]at this
  omega
 refine⟨⟨by rw[List.length_set];exact hg.ln,⟨fun j m hj hm=>⟨?_⟩⟩,.inr ⟨b,o,by rw[List.length_set],h1,by rw[st_next];exact h2,by rw[List.length_set];exact(st_row).trans h3⟩⟩,⟨Nat.le_of_eq st_next.symm,fun j _ hne=>st_other fun e=>hne (congrArg some e.symm),wf_st⟩,_,_,h3,hle⟩
 rw[List.length_set]at hj
 show(h.st b (o+i*sz+k) [w]).cell b (o+j*sz+m)=some (c (gt (l.set i x') j) m)
 rw[st_cell h3 (by exact hle),gt_set hi]
 have hcell:h.cell b (o+j*sz+m)=some (c (gt l j) m):=(hg.cs.eq j m hj hm).eq
 by_cases e:j=i
 ·subst e
  rw[if_pos rfl,hx m hm]
  by_cases e2:m=k
  ·subst e2
   rw[if_pos ⟨Nat.le_refl _,by simp⟩,if_pos rfl,Nat.sub_self]
   rfl
  ·rw[if_neg (by simp only[List.length_singleton];omega),if_neg e2]
   exact hcell
 ·rw[if_neg e,if_neg]
  ·exact hcell
  ·simp only[List.length_singleton]
   intro hh
   rcases Nat.lt_or_gt_of_ne e with h5 | h5
   ·have:(j+1)*sz≤i*sz:=Nat.mul_le_mul_right _ h5
    rw[Nat.add_mul]at this
    omega
   ·have:(i+1)*sz≤j*sz:=Nat.mul_le_mul_right _ h5
    rw[Nat.add_mul]at this
    omega
theorem cells_one5 {v:V} (h:v.one=true):v.cells = [v]:=by
 cases v <;> first | rfl | cases h
theorem ew_gw1 {C:Cx} {us:List Nat} {ll:List So} {e:Env} {Q:Env→H→Prop} {a xr:Rd} {i k:Nat} {w:V} (x':α) (hg:Gw h n0 v sz ty c l) (hi:i<l.length) (hk:k<sz) (hx:∀j,j<sz→c x' j=if j=k then w else c (gt l i) j) (ho:w.one=true) (hr:∀h1,Gw h1 n0 v sz ty c (l.set i x')→Mo h h1 v.blk→Ew C ll e h1 Q)
  (ha:a.lk e=some (.p v.ba (v.of+i*sz+k)):=by exact rfl) (hw:xr.lk e=some w:=by exact rfl):Ew C (⟨none,none,.st a xr 1,us⟩ :: ll) e h Q:=by
 obtain⟨h1,h2,hi',p,h3,h4⟩:=hg.st1 hi hk hx
 have h5:allOne [w]=true:=allOne_cons ho rfl
 exact ew_u .n (od_st ha hw (cells_one5 ho) rfl h5 h3 h4) (hr _ h1 h2)
theorem em_gw1 {C:Cx} {j:Nat} {us:List Nat} {lm:List (So × Kd)} {e:Env} {hs:H} {st:List (Option Nat × H)} {ps:List Pd} {Q:Env→H→Prop} {a xr:Rd} {i k:Nat} {w:V} (x':α) (hg:Gw h n0 v sz ty c l) (hi:i<l.length) (hk:k<sz) (hx:∀j,j<sz→c x' j=if j=k then w else c (gt l i) j) (ho:w.one=true) (hl:∀h1,Mo h h1 v.blk→Lv j h1.t ps) (hr:∀h1,Gw h1 n0 v sz ty c (l.set i x')→Mo h h1 v.blk→Em C lm (j+1) e h1 h1 ((some j,h1) :: st) ps Q)
  (ha:a.lk e=some (.p v.ba (v.of+i*sz+k)):=by exact rfl) (hw:xr.lk e=some w:=by exact rfl):Em C ((⟨none,none,.st a xr 1,us⟩,.e) :: lm) j e hs h st ps Q:=by
 obtain⟨h1,h2,hi',p,h3,h4⟩:=hg.st1 hi hk hx
 have h5:allOne [w]=true:=allOne_cons ho rfl
 exact em_eu .n (od_st ha hw (cells_one5 ho) rfl h5 h3 h4) (hl _ h2) (hr _ h1 h2)
end
theorem em_stL {C:Cx} {j n0 b k n:Nat} {ty:TypeId} {us:List Nat} {lm:List (So × Kd)} {e:Env} {hs h:H} {v:V} {x a:Rd} {Q:Env→H→Prop} {ls vs:List V} {st:List (Option Nat × H)} {ps:List Pd} (ho:Ob h n0 b ty ls) (hr:∀h1,Ob h1 n0 b ty (ls.take k++(vs++ls.drop (k+vs.length)))→Mo h h1 (some b)→Em C lm (j+1) e h1 h1 ((some j,h1) :: st) ps Q) (hl:∀h1,Mo h h1 (some b)→Lv j h1.t ps) (h1:allOne vs=true) (ha:a.lk e=some (.p b k):=by exact rfl) (hx:x.lk e=some v:=by exact rfl) (hv:v.cells=vs:=by exact rfl) (hn:vs.length=n:=by exact rfl) (hle:Nat.ble (k+n) ls.length=true:=by exact rfl):Em C ((⟨none,none,.st a x n,us⟩,.e) :: lm) j e hs h st ps Q:=by
 obtain⟨p,hp⟩:=ho.row
 have hle2:k+vs.length≤ls.length:=by rw[hn];exact Nat.le_of_ble_eq_true hle
 have h3:=st_ob ho hle2
 exact em_eu .n (od_st ha hx hv hn h1 hp (by rw[←hn];exact hle2)) (hl _ h3.2) (hr _ h3.1 h3.2)
theorem Li.gx {h:H} {n0:Nat} {v:V} {x:Int} (hl:Li h n0 v x):Gx h n0 v 1 3 icell [x]:=by
 obtain⟨⟨b,rfl,h1,h2⟩,h3⟩:=hl
 exact⟨h3.ln,h3.cs,.inr (.inr ⟨b,rfl,Nat.zero_lt_one,h1,h2⟩)⟩
theorem Li.cell {h:H} {n0:Nat} {v:V} {x:Int} (hl:Li h n0 v x) {k:Nat} (hk:v.blk=some k):h.cell k 0=some (.i .i64 x)∧n0≤k:=by
 obtain⟨⟨b,rfl,h1,h2⟩,h3⟩:=hl
 injection hk with hk
 subst hk
 exact⟨(h3.cs.eq 0 0 Nat.zero_lt_one Nat.zero_lt_one).eq,h1⟩
theorem Mac.new {h : H} {n0 n c : Nat} {vq vo : V} {ws : List V} (hq : Ar h n0 vq 1 27 vcell (List.replicate n V.ns)) (ho : Ar h n0 vo 1 27 vcell ws) (hne : vq.ba ≠ vo.ba) (hl : ws.length = c) (hr : ∀ i, i < c → Li h n0 (gt ws i) i) : Mac h n0 (fun k => n0 ≤ k) vq vo 27 27 1 3 icell (List.replicate n []) (begO c) (List.replicate n V.ns) ws := by
  have hol : (begO c).length = c := by unfold begO; rw [List.length_map, List.length_range]
  have hns : ∀ t, t < (List.replicate n ([] : List Int)).length → gt (List.replicate n V.ns) t = V.ns := fun t ht => by
    rw [List.length_replicate] at ht
    exact gt_rep ht
  have hqc : ∀ x : Int, h.cell vq.ba 0 ≠ some (.i .i64 x) := fun x e => by
    obtain ⟨b, p, hb, h1, h2, h3⟩ := hq.own
    cases n with
    | zero =>
      rw [hb] at e
      have := cell_hi h3 (o := 0) (Nat.le_of_eq rfl)
      rw [show (V.sl b 0 (List.replicate 0 V.ns).length (List.replicate 0 V.ns).length true 1).ba = b from rfl, this] at e
      cases e
    | succ n =>
      have h4 := (hq.cs.eq 0 0 (by rw [List.length_replicate]; omega) Nat.zero_lt_one).eq
      rw [hb] at h4 e
      have h4 : h.cell b 0 = some (gt (List.replicate (n + 1) V.ns) 0) := h4
      have e : h.cell b 0 = some (.i .i64 x) := e
      rw [h4, gt_rep (Nat.zero_lt_succ _)] at e
      cases e
  have hoc : 0 < c → ∀ x : Int, h.cell vo.ba 0 ≠ some (.i .i64 x) := fun h0 x e => by
    obtain ⟨b, p, hb, h1, h2, h3⟩ := ho.own
    have h4 := (ho.cs.eq 0 0 (by omega) Nat.zero_lt_one).eq
    rw [hb] at h4 e
    have h4 : h.cell b 0 = some (gt ws 0) := h4
    have e : h.cell b 0 = some (.i .i64 x) := e
    obtain ⟨⟨b', h5, _⟩, _⟩ := hr 0 h0
    rw [h4, h5] at e
    cases e
  exact
  { q := hq
    o := ho
    ql := by rw [List.length_replicate, List.length_replicate]
    ol := by rw [hl, hol]
    qr := fun t ht => by
      rw [hns t ht]
      rw [List.length_replicate] at ht
      rw [gt_rep ht]
      exact .nil
    or_ := fun x hx => by
      rw [hol] at hx
      have : gt (begO c) x = [(x : Int)] := gt_mapR hx
      rw [this]
      exact (hr x hx).gx
    hd := hne
    qa := fun t ht k hk => by rw [hns t ht] at hk; cases hk
    oa := fun x hx k hk => by
      rw [hol] at hx
      obtain ⟨h1, h2⟩ := (hr x hx).cell hk
      exact ⟨fun e => hqc x (by rw [← e]; exact h1), fun e => hoc (by omega) x (by rw [← e]; exact h1), h2⟩
    qq := fun s t hs ht hne k hk => by rw [hns s hs] at hk; cases hk
    oo := fun s t hs ht hne k hk hk' => by
      rw [hol] at hs ht
      have h1 := ((hr s hs).cell hk).1
      have h2 := ((hr t ht).cell hk').1
      rw [h1] at h2
      injection h2 with h2
      injection h2 with _ h2
      omega
    qo := fun s t hs ht k hk => by rw [hns s hs] at hk; cases hk
    pq := hq.blk.2.1
    po := ho.blk.2.1 }
end Go.Proofs.YtkcdehffcddciaaGreatDoor.Vm
