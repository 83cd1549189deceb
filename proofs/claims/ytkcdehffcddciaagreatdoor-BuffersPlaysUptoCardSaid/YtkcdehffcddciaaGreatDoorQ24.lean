/- The program's machine: what a read sees. -/
import Derived.Test.YtkcdehffcddciaaGreatDoorQ23
namespace Go.Proofs.YtkcdehffcddciaaGreatDoor.Vm
open Go Go.RowKit
def s99:Sc:=(.seq (.region (
 ⟨none,some 2,.bx 83 (.t 0),[0]⟩ ::
 ⟨none,some 3,.mv (.c (.b false)),[]⟩ :: []))
(.seq (.region (
 ⟨none,some 4,.fa (.t 2) 0,[2]⟩ ::
 ⟨none,some 5,.ld (.t 4),[4]⟩ ::
 ⟨none,some 6,.ld (.t 1),[1]⟩ ::
 ⟨none,some 7,.eq .int false (.t 5) (.t 6),[5,6]⟩ ::
 ⟨none,some 3,.mv (.t 7),[7]⟩ :: []))
.ret))
set_option maxRecDepth 100000 in
theorem c99:fnB Tryz.prog 99=some (8,s99,[.t 3]):=by kernel_rfl
def s165:Sc:=(.seq (.region (
 ⟨none,some 1,.bx 92 (.t 0),[0]⟩ ::
 ⟨none,some 2,.mv (.c .nf),[]⟩ :: []))
(.seq (.region (
 ⟨none,some 3,.mf (.func 237) [] [(.t 1)],[1]⟩ ::
 ⟨none,some 2,.mv (.t 3),[3]⟩ :: []))
.ret))
set_option maxRecDepth 100000 in
theorem c165:fnB Tryz.prog 165=some (4,s165,[.t 2]):=by kernel_rfl
def s237:Sc:=(.seq (.region (
 ⟨none,some 4,.ld (.t 1),[1]⟩ ::
 ⟨none,some 5,.len (.t 4),[4]⟩ ::
 ⟨none,some 6,.ar .sub (.t 5) (.c (.i .i64 1)),[5]⟩ ::
 ⟨none,some 3,.mv (.t 6),[6]⟩ :: []))
(.block 0 (.loop (.seq (.seq (.region (
 ⟨none,some 7,.mv (.t 3),[3]⟩ ::
 ⟨none,some 8,.ar .geq (.t 7) (.c (.i .i64 0)),[7]⟩ :: []))
(.cond (.t 8) .skip
 (.exit 0)))
(.seq (.block 1 (.seq (.region (
 ⟨none,some 11,.mv (.t 0),[0]⟩ ::
 ⟨none,some 12,.mv (.t 3),[3]⟩ ::
 ⟨none,some 13,.ld (.t 1),[1]⟩ ::
 ⟨none,some 14,.mv (.t 3),[3]⟩ ::
 ⟨none,some 15,.ia (.t 13) (.t 14) 3,[13,14]⟩ ::
 ⟨none,some 16,.lds (.t 15) 3,[15]⟩ ::
 ⟨none,some 17,.callv (.t 11) [(.t 12),(.t 16)],[11,12,16]⟩ ::
 ⟨none,some 18,.nt (.t 17),[17]⟩ :: []))
(.cond (.t 18) .ret
 .skip)))
(.region (
 ⟨none,some 9,.mv (.t 3),[3]⟩ ::
 ⟨none,some 10,.ar .sub (.t 9) (.c (.i .i64 1)),[9]⟩ ::
 ⟨none,some 3,.mv (.t 10),[10]⟩ :: [])))))))
set_option maxRecDepth 100000 in
theorem c237:fnB Tryz.prog 237=some (19,s237,[]):=by kernel_rfl
def s98:Sc:=(.seq (.region (
 ⟨none,some 3,.bx 188 (.t 1),[1]⟩ ::
 ⟨none,some 4,.al 83 [(.i .i64 0),(.i .i64 0),(.i .u64 0)],[]⟩ ::
 ⟨none,some 5,.al 4 [(.b false)],[]⟩ :: []))
(.seq (.seq (.region (
 ⟨none,some 9,.mv (.t 0),[0]⟩ ::
 ⟨none,some 10,.nc (.t 9),[9]⟩ ::
 ⟨none,some 11,.fa (.t 10) 0,[10]⟩ ::
 ⟨none,some 12,.ld (.t 11),[11]⟩ ::
 ⟨none,some 13,.call 165 [(.t 12)],[12]⟩ :: []))
(.block 0 (.range (.t 13) [14, 15] (.region (
  ⟨none, some 7, .al 83 [(.i .i64 0), (.i .i64 0), (.i .u64 0)], []⟩ ::
  ⟨none, none, .st (.t 7) (.t 15) 3, [7, 15]⟩ :: []))
 (.block 1 (.seq (.region (
  ⟨none, some 16, .ld (.t 3), [3]⟩ ::
  ⟨none, some 17, .lds (.t 7) 3, [7]⟩ ::
  ⟨none, some 18, .callv (.t 16) [(.t 17)], [16, 17]⟩ :: []))
(.cond (.t 18) (.seq (.region (
 ⟨none,some 19,.lds (.t 7) 3,[7]⟩ ::
 ⟨none,none,.st (.t 4) (.t 19) 3,[4,19]⟩ ::
 ⟨none,none,.st (.t 5) (.c (.b true)) 1,[5]⟩ :: []))
.ret)
 .skip))))))
(.seq (.region (
 ⟨none,some 8,.al 83 [(.i .i64 0),(.i .i64 0),(.i .u64 0)],[]⟩ :: []))
(.seq (.region (
 ⟨none,some 20,.lds (.t 8) 3,[8]⟩ ::
 ⟨none,none,.st (.t 4) (.t 20) 3,[4,20]⟩ ::
 ⟨none,none,.st (.t 5) (.c (.b false)) 1,[5]⟩ :: []))
.ret))))
set_option maxRecDepth 100000 in
theorem c98:fnB Tryz.prog 98=some (21,s98,[.c (.lds (.t 4) 3),.c (.ld (.t 5))]):=by kernel_rfl
def s37:Sc:=(.seq (.region (
 ⟨none,some 5,.bx 3 (.t 2),[2]⟩ ::
 ⟨none,some 6,.al 83 [(.i .i64 0),(.i .i64 0),(.i .u64 0)],[]⟩ :: []))
(.seq (.seq (.region (
 ⟨none,some 11,.mv (.t 0),[0]⟩ ::
 ⟨none,some 12,.nc (.t 11),[11]⟩ ::
 ⟨none,some 13,.fa (.t 12) 1,[12]⟩ ::
 ⟨none,some 14,.ld (.t 13),[13]⟩ ::
 ⟨none,some 15,.mv (.t 1),[1]⟩ ::
 ⟨none,some 16,.ia (.t 14) (.t 15) 1,[14,15]⟩ ::
 ⟨none,some 17,.mf (.func 99) [] [(.t 5)],[5]⟩ ::
 ⟨none,some 18,.call 98 [(.t 16),(.t 17)],[16,17]⟩ ::
 ⟨none,some 10,.mv (.t 18),[18]⟩ ::
 ⟨none,some 19,.ex (.t 10) 0,[10]⟩ ::
 ⟨none,some 20,.ex (.t 10) 1,[10]⟩ ::
 ⟨none,some 7,.al 83 [(.i .i64 0),(.i .i64 0),(.i .u64 0)],[]⟩ ::
 ⟨none,none,.st (.t 7) (.t 19) 3,[7,19]⟩ ::
 ⟨none,some 8,.mv (.t 20),[20]⟩ :: []))
(.seq (.region (
 ⟨none,some 21,.mv (.t 8),[8]⟩ :: []))
(.cond (.t 21) (.seq (.region (
 ⟨none,some 22,.lds (.t 7) 3,[7]⟩ ::
 ⟨none,none,.st (.t 6) (.t 22) 3,[6,22]⟩ :: []))
.ret)
 .skip)))
(.seq (.mix (
 (⟨none,some 23,.mv (.t 0),[0]⟩,.q [none]) ::
 (⟨none,some 24,.nc (.t 23),[23]⟩,.q [none]) ::
 (⟨none,some 25,.fa (.t 24) 0,[24]⟩,.q [none]) ::
 (⟨none,some 26,.fa (.t 25) 0,[25]⟩,.q [none]) ::
 (⟨none,some 27,.ld (.t 26),[26]⟩,.q [none]) ::
 (⟨none,some 28,.ld (.t 5),[5]⟩,.q [none]) ::
 (⟨none,some 29,.ia (.t 27) (.t 28) 1,[27,28]⟩,.q [none]) ::
 (⟨none,some 30,.ld (.t 29),[29]⟩,.q [none]) ::
 (⟨none,some 9,.mv (.t 30),[30]⟩,.q [none]) :: []))
(.seq (.region (
 ⟨none,some 31,.mv (.t 9),[9]⟩ ::
 ⟨none,some 32,.mv (.t 9),[9]⟩ ::
 ⟨none,some 33,.len (.t 32),[32]⟩ ::
 ⟨none,some 34,.ar .sub (.t 33) (.c (.i .i64 1)),[33]⟩ ::
 ⟨none,some 35,.ia (.t 31) (.t 34) 3,[31,34]⟩ ::
 ⟨none,some 36,.lds (.t 35) 3,[35]⟩ ::
 ⟨none,none,.st (.t 6) (.t 36) 3,[6,36]⟩ :: []))
.ret))))
set_option maxRecDepth 100000 in
theorem c37:fnB Tryz.prog 37=some (37,s37,[.c (.lds (.t 6) 3)]):=by kernel_rfl
def lastN (ev:List Ev_) (loc:Int) (q:List Int):Nat→Option Int
 | 0=>none
 | k+1=>if (gt ev (gt q k).toNat).loc=loc then some (gt q k)else lastN ev loc q k
theorem looksN_last {ev:List Ev_} {loc:Int} {q:List Int} {d:Int}:∀k,looksN ev loc q d k=(lastN ev loc q k).getD d
 | 0=>rfl
 | k+1=>by
  unfold looksN lastN
  split
  ·rfl
  ·exact looksN_last k
def lastV (ev:List Ev_):Option Int→V
 | none=>.tup [.agg [.i .i64 0,.i .i64 0,.i .u64 0],.b false]
 | some x=>.tup [.agg (upto (wc ev x) 3 0),.b true]
set_option maxHeartbeats 0 in
theorem look1_spec {m:Bool} {h:H} {bc:Nat} {ev:List Ev_} {x cell:Int} (hw:Wf h) (hB:Bx h bc [.i .i64 cell]):FX m Tryz.prog 99 [.agg (upto (wc ev x) 3 0),.p bc 0] h fun v h'=>v=.b (decide ((gt ev x.toNat).loc=cell))∧Kp h h':=by
 refine Fn.env c99 rfl ?_
 unfold s99
 refine Es.seq (Es.region (ew_bx fun b2 h1 ob2 k1=>?_))
 have hB1:=hB.kp k1 hw
 have hB2:=ob2.bx
 refine go ?_
 exact ret_1 ⟨rfl,k1⟩
set_option maxHeartbeats 0 in
theorem backw_new {m:Bool} {h:H} {v:V} (ho:v.one=true):FX m Tryz.prog 165 [v] h fun w h'=>(∃bx,w=.fn (.func 237) [] [.p bx 0]∧Ob h' h.next bx 92 [v])∧Kp h h':=by
 refine Fn.env c165 rfl ?_
 unfold s165
 refine Es.seq (Es.region (ew_bx (hv:=cells_one5 ho) (hz:=allOne_cons ho rfl) fun b2 h1 ob2 k1=>?_))
 refine go ?_
 exact ret_1 ⟨⟨b2,rfl,ob2⟩,k1⟩
section
variable {α:Type} [Inhabited α] {c:α→Nat→V}
set_option maxHeartbeats 0 in
theorem backw_spec {J:Nat→H→Prop} {D:H→Prop} {h:H} {b bx:Nat} {v:V} {rows:List α} (hn:rows.length<4611686018427387904) (h0:J rows.length h) (hJ:∀i h,J i h→Bx h bx [v]∧Ro h v 3 c rows)
  (hy:∀i h,i<rows.length→J (i+1) h→YX false Tryz.prog b [.i .i64 (i:Int),.agg (upto (c (gt rows i)) 3 0)] h fun v h'=>(v=.b true∧J i h')∨(v=.b false∧D h')):FX false Tryz.prog 237 [.y b,.p bx 0] h fun _ h'=>J 0 h'∨D h':=by
 refine Fn.env c237 rfl ?_
 unfold s237
 obtain⟨hB,hL,hC⟩:=hJ _ _ h0
 refine go ?_
 refine Es.loop (X:=Nat) (fun x=>x) (fun x=>[(0,.y b),(1,.p bx 0),(3,.i .i64 ((x:Int)-1))]) (fun x h'=>x≤rows.length∧J x h') rows.length ⟨rfl,rfl,rfl,trivial⟩ ⟨Nat.le_refl _,h0⟩ fun x h2 hx=>?_
 obtain⟨hx,hJ2⟩:=hx
 obtain⟨hB,hL,hC⟩:=hJ _ _ hJ2
 cases x with
 | zero =>
  refine go ?_
  first | exact ret_0 (R:=fun _ h=>J 0 h∨D h) (.inl hJ2) | exact end_0 (R:=fun _ h=>J 0 h∨D h) (.inl hJ2)
 | succ i =>
  have e1:(((i+1:Nat):Int)-1)=(i:Int):=by omega
  rw[e1]
  refine go ?_
  refine ew_y .n rfl rfl (hy i h2 (by omega) hJ2) fun v h3 hR=>?_
  rcases hR with⟨rfl,hJ3⟩ | ⟨rfl,hD⟩
  ·skip
   refine go ?_
   exact Nx.inv i (Nat.lt_succ_self i) ⟨rfl,rfl,rfl,trivial⟩ ⟨by omega,hJ3⟩
  ·skip
   refine go ?_
   first | exact ret_0 (R:=fun _ h=>J 0 h∨D h) (.inr hD) | exact end_0 (R:=fun _ h=>J 0 h∨D h) (.inr hD)
theorem Es.backR {N:Nat} {R:Env→H→Prop} {K:List Fr} {e:Env} {h:H} {x:Rd} {p1 p2:Nat} {sa sb:Sc} {bx:Nat} {v:V} {rows:List α} (φ:Nat→H→Prop) (ψ:H→Prop) (hx:x.lk e=some (.fn (.func 237) [] [.p bx 0])) (hn:rows.length<4611686018427387904)
  (hφ:∀i h',φ i h'→Bx h' bx [v]∧Ro h' v 3 c rows)
  (hset:∀i h' o,h.next<h'.next→φ i h'→φ i ⟨h'.next,h'.t.set h.next (some o)⟩)
  (hsetψ:∀h' o,h.next<h'.next→ψ h'→ψ ⟨h'.next,h'.t.set h.next (some o)⟩)
  (h0:∀o,φ rows.length ⟨h.next+1,h.t.set h.next (some o)⟩)
  (hb:∀r i h1,i<rows.length→h.next<h1.next→φ (i+1) h1→Es ⟨false,Tryz.prog,r,N,fun _ _=>False⟩ [.cut fun e2 h2=>h.next<h2.next∧h2.t.get h.next=h1.t.get h.next∧∀o,Es ⟨false,Tryz.prog,r,N,fun _ h4=>ψ h4∧h.next<h4.next∧h4.t.get h.next=some o⟩ [.cut fun _ h4=>φ i h4∧h.next<h4.next∧h4.t.get h.next=some o] sb e2 ⟨h2.next,h2.t.set h.next (some o)⟩] sa ((p2,.agg (upto (c (gt rows i)) 3 0)) :: (p1,.i .i64 (i:Int)) :: e) h1)
  (hend:∀h',h.next<h'.next→φ 0 h'→Nx ⟨false,Tryz.prog,none,N,R⟩ K e ⟨h'.next,h'.t.set h.next none⟩)
  (hret:∀h',h.next<h'.next→ψ h'→R e ⟨h'.next,h'.t.set h.next none⟩):Es ⟨false,Tryz.prog,none,N,R⟩ K (.range x [p1,p2] sa sb) e h:=⟨fun t ht=>by
 show SW _ _ _ _ _ _ _
 refine SW.range (Rd.lk_val hx ht) fun sc bd has hbd=>?_
 refine Fn.mono (backw_spec (J:=fun i h'=>φ i h'∧h.next<h'.next∧h'.t.get h.next=some (.loop .ready t N [p1,p2] sc bd)) (D:=fun h'=>ψ h'∧h.next<h'.next∧∃t' N' ps' as' bd',h'.t.get h.next=some (.loop (.done .ret) t' N' ps' as' bd')) hn ⟨h0 _,Nat.lt_succ_self _,by
  show(h.t.set h.next _).get h.next=_
  rw[Tr.get_set,if_pos rfl]⟩ (fun i h' hj=>hφ i h' hj.1) fun i h1 hi hj=>?_) fun _ h2 hj=>?_
 ·obtain⟨h3,h4,h5⟩:=hj
  show Yd _ _ _ _ _
  refine Yd.of h5 rfl has hbd fun r=>?_
  have h6:=(hb r i h1 hi h4 h3).run _ ((ht.set p1 (.i .i64 (i:Int))).set p2 (.agg (upto (c (gt rows i)) 3 0)))
  refine SW.mono h6 fun y t2 h2 ⟨e2,ht2,hk⟩=>?_
  cases y with
  | exit j=>exact hk.2.elim
  | ret=>exact hk.2.elim
  | normal =>
   obtain⟨h7,h8,h9⟩:=hk
   refine⟨rfl,t,N,[p1,p2],sc,bd,by rw[h8];exact h5,?_⟩
   refine SW.mono ((h9 _).run _ ht2) fun y t4 h4 ⟨e4,ht4,hk4⟩=>?_
   cases y with
   | exit j =>
    have:=hk4.1
    rcases this with h | h <;> cases h
   | ret =>
    obtain⟨h10,h11,h12⟩:=hk4.2
    refine⟨t,N,[p1,p2],sc,bd,h12,.inr ⟨rfl,hsetψ h4 _ h11 h10,h11,t,N,[p1,p2],sc,bd,?_⟩⟩
    show(h4.t.set h.next _).get h.next=_
    rw[Tr.get_set,if_pos rfl]
    rfl
   | normal =>
    obtain⟨h10,h11,h12⟩:=hk4
    refine⟨t,N,[p1,p2],sc,bd,h12,.inl ⟨rfl,hset i h4 _ h11 h10,h11,?_⟩⟩
    show(h4.t.set h.next _).get h.next=_
    rw[Tr.get_set,if_pos rfl]
    rfl
 ·rcases hj with⟨h3,h4,h5⟩ | ⟨h3,h4,t',N',ps',as',bd',h5⟩
  ·exact⟨.ready,t,N,[p1,p2],sc,bd,h5,.inl ⟨rfl,e,ht,(hend h2 h4 h3).run⟩⟩
  ·exact⟨.done .ret,t',N',ps',as',bd',h5,.inr ⟨.ret,rfl,e,ht,kont_ret (hret h2 h4 h3) K⟩⟩⟩
end
theorem rtcc_ {op op':Top} {e:Env} {h:H} {v w:V} (hd:Od op e h v h) (hd':Od op' e h w h):Rt [.c op,.c op'] e h (.tup [v,w]):=⟨fun t ht=>by
 show ob (ob (Rx.val t h (.c op)) fun a=>ob (ob (Rx.val t h (.c op')) fun b=>ob (some []) fun l=>some (b :: l)) fun l=>some (a :: l)) _=_
 rw[val_c_ hd ht,val_c_ hd' ht]
 rfl⟩
theorem ret_cc {m:Bool} {P:Program} {r:Option Nat} {N:Nat} {K:List Fr} {e:Env} {h:H} {R:V→H→Prop} {op op':Top} {v w:V} (hd:Od op e h v h) (hd':Od op' e h w h) (hR:R (.tup [v,w]) h):Es ⟨m,P,r,N,fun e h=>∃v,Rt [.c op,.c op'] e h v∧R v h⟩ K .ret e h:=Es.ret ⟨_,rtcc_ hd hd',hR⟩
set_option maxHeartbeats 0 in
theorem last_fn {h:H} {vq:V} {qs:List V} {t n0 bc:Nat} {ev:List Ev_} {rows:List Int} {cell:Int} (hw:Wf h) (hq:Ar h n0 vq 1 94 vcell qs) (ht:t<qs.length) (hg:Ro h (gt qs t) 3 (wc ev) rows) (hB:Bx h bc [.i .i64 cell]) (_hbc:bc<h.next) (hn:rows.length≤10000000):FX false Tryz.prog 98 [.p vq.ba (vq.of+t*1),.fn (.func 99) [] [.p bc 0]] h fun v h'=>v=lastV ev (lastN ev cell rows rows.length)∧Old h.next h h':=by
 refine Fn.env c98 rfl ?_
 unfold s98
 refine Es.seq (Es.region (ew_bx fun b3 h1 ob3 k1=>?_))
 refine ew_al fun b4 h2 ob4 k2=>?_
 refine ew_al fun b5 h3 ob5 k3=>?_
 have k03:=k1.trans (k2.trans k3)
 have hw1:=k1.wf hw
 have hw2:=k2.wf hw1
 have hw3:=k3.wf hw2
 have hC:Ce h3 vq.ba (vq.of+t*1) (gt qs t):=(hq.cs.eq t 0 ht (by decide)).kp k03 hw
 have hq3:=hg.kp k03 hw
 have o1:=hg.ln.one
 have e1:=ob3.lo
 have e2:=ob4.lo
 have e3:=ob5.lo
 have e4:=ob3.hi
 have e5:=ob4.hi
 have e6:=ob5.hi
 have e7:=k1.le
 have hB3:=(ob3.bx.kp k2 hw1).kp k3 hw2
 have ob4:=ob4.mo (Mo.of_kp k3 none) (fun e=>by cases e)
 have hBc:=hB.kp k03 hw
 refine go ?_
 refine stC (backw_new o1) (fun v hL ⟨⟨bx,hv,obx⟩,kL⟩=>?_)
 subst hv
 have hwL:=kL.wf hw3
 have hBcL:=hBc.kp kL hw3
 have hB3L:=hB3.kp kL hw3
 have ob4L:=ob4.mo (Mo.of_kp kL none) (fun e=>by cases e)
 have ob5L:=ob5.mo (Mo.of_kp kL none) (fun e=>by cases e)
 have hqL:=hq3.kp kL hw3
 have hBX:=obx.bx
 have e8:=kL.le
 have k0L:=k03.trans kL
 refine go ?_
 refine Es.backR (c:=wc ev) (p1:=14) (p2:=15) (bx:=bx) (v:=gt qs t) (rows:=rows) (fun i h'=>Kp hL h'∧lastN ev cell rows i=lastN ev cell rows rows.length) (fun h'=>Pr (fun k=>k=b4∨k=b5) hL h'∧∃x,lastN ev cell rows rows.length=some x∧Bx h' b4 (upto (wc ev x) 3 0)∧Bx h' b5 [.b true]) rfl (by omega) ?_ ?_ ?_ ?_ ?_ ?_ ?_
 ·rintro i h' ⟨k,-⟩
  exact⟨hBX.kp k hwL,hqL.kp k hwL⟩
 ·rintro i h' o hlt ⟨k,hl⟩
  exact⟨(mo_set (o:=o) hlt).kp k fun k hk=>by injection hk with hk;omega,hl⟩
 ·rintro h' o hlt ⟨p,x,hx,hB4,hB5⟩
  have m:=mo_set (o:=o) hlt
  exact⟨p.mo_hi m fun k hk=>by injection hk with hk;exact .inr (by omega),x,hx,⟨fun k v hk=>⟨(m.cell (by have:=p.le;omega) (fun e=>by injection e with e;omega)).trans (hB4.eq k v hk).eq⟩⟩,⟨fun k v hk=>⟨(m.cell (by have:=p.le;omega) (fun e=>by injection e with e;omega)).trans (hB5.eq k v hk).eq⟩⟩⟩
 ·intro o
  exact⟨kp_set,rfl⟩
 ·rintro r i h5 hi hlt ⟨k5,hl⟩
  have hw5:=k5.wf hwL
  refine go ?_
  refine ew_al fun b7 h6 ob7 k6=>?_
  refine ew_st ob7 fun h7 ob8 m7=>?_
  have k7:Kp h5 h7:=m7.kp k6 fun j hj=>by injection hj with hj;subst hj;exact ob7.lo
  have f1:=ob7.lo
  refine go ?_
  refine Nx.cut ⟨Nat.lt_of_lt_of_le hlt k7.le,k7.old.get _ hlt,fun o=>?_⟩
  have hlt7:=Nat.lt_of_lt_of_le hlt k7.le
  have m8:=mo_set (o:=o) hlt7
  have k8:Kp hL ⟨h7.next,h7.t.set hL.next (some o)⟩:=m8.kp (k5.trans k7) fun k hk=>by injection hk with hk;omega
  have ob9:=ob8.mo m8 (fun e=>by injection e with e;omega)
  have hgo:(⟨h7.next,h7.t.set hL.next (some o)⟩:H).t.get hL.next=some o:=by
   show(h7.t.set hL.next (some o)).get hL.next=_
   rw[Tr.get_set,if_pos rfl]
  have hlt8:hL.next<(⟨h7.next,h7.t.set hL.next (some o)⟩:H).next:=hlt7
  generalize (⟨h7.next,h7.t.set hL.next (some o)⟩:H)=h8 at k8 ob9 hgo hlt8 ⊢
  clear m8 m7 k7 k6 ob7 ob8
  have hw8:=k8.wf hwL
  have hB3:=hB3L.kp k8 hwL
  have hBc:=hBcL.kp k8 hwL
  have hB7:Bx h8 b7 (upto (wc ev (gt rows i)) 3 0):=ob9.bx
  refine go ?_
  refine ew_cv .n rfl rfl (look1_spec hw8 hBc) (fun v h9 ⟨hv,k9⟩=>?_)
  subst hv
  have hgo9:h9.t.get hL.next=some o:=(k9.old.get _ hlt8).trans hgo
  have hlt9:=Nat.lt_of_lt_of_le hlt8 k9.le
  have hB7:=hB7.kp k9 hw8
  have k89:=k8.trans k9
  have hstep:lastN ev cell rows (i+1)=if (gt ev (gt rows i).toNat).loc=cell then some (gt rows i)else lastN ev cell rows i:=rfl
  refine go ?_
  refine cD (fun hc=>?_) (fun hc=>?_)
  ·rw[if_pos hc]at hstep
   have ob4M:=ob4L.mo (Mo.of_kp k89 none) (fun e=>by cases e)
   have ob5M:=ob5L.mo (Mo.of_kp k89 none) (fun e=>by cases e)
   refine go ?_
   refine ew_st ob4M fun hA obA mA=>?_
   have ob5A:=ob5M.mo mA fun e=>by injection e with e;omega
   refine ew_st ob5A fun hB obB mB=>?_
   have hB4:Bx hB b4 (upto (wc ev (gt rows i)) 3 0):=(obA.mo mB fun e=>by injection e with e;omega).bx
   have hB5:Bx hB b5 [.b true]:=obB.bx
   refine go ?_
   refine Es.ret ⟨⟨((Pr.of_kp k89).trans (Pr.of_mo mA fun k hk=>by injection hk with hk;exact .inl hk.symm)).trans (Pr.of_mo mB fun k hk=>by injection hk with hk;exact .inr hk.symm),gt rows i,by rw[←hl,hstep],hB4,hB5⟩,by have:=mA.le;have:=mB.le;omega,?_⟩
   rw[mB.get _ (by have:=mA.le;omega) fun e=>by injection e with e;omega,mA.get _ hlt9 fun e=>by injection e with e;omega]
   exact hgo9
  ·rw[if_neg hc]at hstep
   refine go ?_
   exact Nx.cut ⟨⟨k89,by rw[←hl,hstep]⟩,hlt9,hgo9⟩
 ·rintro h5 hlt ⟨k5,hl⟩
  have m:=mo_put (o:=none) hlt
  have k6:=m.kp k5 fun k hk=>by injection hk with hk;omega
  generalize (⟨h5.next,h5.t.set hL.next none⟩:H)=h6 at k6 ⊢
  clear m
  have hw6:=k6.wf hwL
  have ob4M:=ob4L.mo (Mo.of_kp k6 none) (fun e=>by cases e)
  have ob5M:=ob5L.mo (Mo.of_kp k6 none) (fun e=>by cases e)
  have hn0:lastN ev cell rows rows.length=none:=hl.symm
  refine go ?_
  refine ew_al fun b8 h7 ob8 k7=>?_
  have ob4N:=ob4M.mo (Mo.of_kp k7 none) (fun e=>by cases e)
  have ob5N:=ob5M.mo (Mo.of_kp k7 none) (fun e=>by cases e)
  have hB8:=ob8.bx
  refine go ?_
  refine ew_st ob4N fun hA obA mA=>?_
  have ob5A:=ob5N.mo mA fun e=>by injection e with e;omega
  refine ew_st ob5A fun hB obB mB=>?_
  have hB4:Bx hB b4 [.i .i64 0,.i .i64 0,.i .u64 0]:=(obA.mo mB fun e=>by injection e with e;omega).bx
  have hB5:Bx hB b5 [.b false]:=obB.bx
  have kZ:=mB.kp (mA.kp (k0L.trans (k6.trans k7)) fun k hk=>by injection hk with hk;omega) fun k hk=>by injection hk with hk;omega
  refine go ?_
  exact ret_cc (v:=.agg [.i .i64 0,.i .i64 0,.i .u64 0]) (w:=.b false) (od_lds rfl (rw_b hB4 rfl)) (od_ld rfl (ce_b hB5 rfl)) ⟨by rw[hn0];rfl,kZ.old⟩
 ·rintro h5 hlt ⟨p,x,hx,hB4,hB5⟩
  have m:=mo_put (o:=none) hlt
  have hB4:Bx ⟨h5.next,h5.t.set hL.next none⟩ b4 (upto (wc ev x) 3 0):=⟨fun k v hk=>⟨(m.cell (by have:=p.le;omega) (fun e=>by injection e with e;omega)).trans (hB4.eq k v hk).eq⟩⟩
  have hB5:Bx ⟨h5.next,h5.t.set hL.next none⟩ b5 [.b true]:=⟨fun k v hk=>⟨(m.cell (by have:=p.le;omega) (fun e=>by injection e with e;omega)).trans (hB5.eq k v hk).eq⟩⟩
  have kZ:=(p.mo_hi m fun k hk=>by injection hk with hk;exact .inr (by omega)).kp k0L fun k hk=>by omega
  exact⟨_,rtcc_ (v:=.agg (upto (wc ev x) 3 0)) (w:=.b true) (od_lds rfl (rw_b hB4 rfl)) (od_ld rfl (ce_b hB5 rfl)),by rw[hx];rfl,kZ.old⟩
theorem last_spec {m:Bool} {h:H} {vq:V} {qs:List V} {t n0 bc:Nat} {ev:List Ev_} {rows:List Int} {cell:Int} (hw:Wf h) (hq:Ar h n0 vq 1 94 vcell qs) (ht:t<qs.length) (hg:Ro h (gt qs t) 3 (wc ev) rows) (hB:Bx h bc [.i .i64 cell]) (hbc:bc<h.next) (hn:rows.length≤10000000):FX m Tryz.prog 98 [.p vq.ba (vq.of+t*1),.fn (.func 99) [] [.p bc 0]] h fun v h'=>v=lastV ev (lastN ev cell rows rows.length)∧h'=h :=
 Fn.fx (last_fn hw hq ht hg hB hbc hn) (by cases lastN ev cell rows rows.length <;> rfl)
set_option maxHeartbeats 0 in
theorem plook_spec {m:Bool} {h:H} {n0 bm:Nat} {P:Nat→Prop} {vq vo:V} {qs os:List V} {Q O:List (List Int)} {ev:List Ev_} {t loc:Nat} (hw:Wf h) (hm:Mac h n0 P vq vo 94 92 3 83 (wc ev) Q O qs os) (hB:Bx h bm [vo,vq]) (ht:t<Q.length) (hl:loc<O.length) (hn:0<(gt O loc).length) (hsz:lenT Q+lenT O≤1000000):FX m Tryz.prog 37 [.p bm 0,.i .i64 (t:Int),.i .i64 (loc:Int)] h fun v h'=>v=.agg (upto (wc ev (looksV ev Q O t loc)) 3 0)∧Kp h h':=by
 have hlq:=lenT_le ht
 have hlo:=lenT_le hl
 refine Fn.env c37 rfl ?_
 unfold s37
 refine Es.seq (Es.region (ew_bx fun b5 h1 ob5 k1=>?_))
 refine ew_al fun b6 h2 ob6 k2=>?_
 have k02:=k1.trans k2
 have hw1:=k1.wf hw
 have hw2:=k2.wf hw1
 have hB2:=hB.kp k02 hw
 have hB5:=ob5.bx.kp k2 hw1
 have hm2:=hm.kp k02
 have hL:=hm2.q.ln
 rw[hm.ql]at hL
 have e1:=ob5.hi
 have e2:=k2.le
 have e3:=ob6.lo
 have e4:=k1.le
 have hql:=hm.ql
 refine go ?_
 refine stC (last_spec (bc:=b5) (cell:=(loc:Int)) hw2 hm2.q (by omega) (hm2.qr t ht).ro hB5 (by omega) (by omega)) (fun v h3 ⟨hv,e⟩=>?_)
 obtain rfl:=e.symm
 have hlook:looksV ev Q O t loc=(lastN ev loc (gt Q t) (gt Q t).length).getD (gt (gt O loc) ((gt O loc).length-1)):=looksN_last _
 cases hla:lastN ev loc (gt Q t) (gt Q t).length with
 | some x =>
  rw[hla]at hv hlook
  have hv:v=.tup [.agg (upto (wc ev x) 3 0),.b true]:=hv
  subst hv
  refine go ?_
  refine ew_al fun b7 h4 ob7 k4=>?_
  refine ew_st ob7 fun h5 ob8 m5=>?_
  have k5:Kp h2 h5:=m5.kp k4 fun j hj=>by injection hj with hj;subst hj;exact ob7.lo
  have hB7:Bx h5 b7 (upto (wc ev x) 3 0):=ob8.bx
  have ob6:=ob6.mo (Mo.of_kp k5 none) (fun e=>by cases e)
  refine go ?_
  refine ew_st ob6 fun h6 ob9 m6=>?_
  have hB6:Bx h6 b6 (upto (wc ev x) 3 0):=ob9.bx
  have kZ:=m6.kp (k02.trans k5) fun k hk=>by injection hk with hk;omega
  refine go ?_
  exact ret_c (v:=.agg (upto (wc ev x) 3 0)) (od_lds rfl (rw_b hB6 rfl)) ⟨by rw[hlook];rfl,kZ⟩
 | none =>
  rw[hla]at hv hlook
  have hv:v=.tup [.agg [.i .i64 0,.i .i64 0,.i .u64 0],.b false]:=hv
  subst hv
  refine go ?_
  refine ew_al fun b7 h4 ob7 k4=>?_
  refine ew_st ob7 fun h5 ob8 m5=>?_
  have k5:Kp h2 h5:=m5.kp k4 fun j hj=>by injection hj with hj;subst hj;exact ob7.lo
  have ob6:=ob6.mo (Mo.of_kp k5 none) (fun e=>by cases e)
  have hB2:=hB2.kp k5 hw2
  have hB5:=hB5.kp k5 hw2
  have hm5:=hm2.kp k5
  have hLo:=hm5.o.ln
  rw[hm.ol]at hLo
  have hCo:=hm5.o.cs
  rw[hm.ol]at hCo
  obtain⟨hLr,hCr⟩:=(hm5.or_ loc hl).ro
  have hLr:Ln (vcell (gt os loc) 0) 3 (gt O loc).length:=hLr
  have hR:Rw h5 (vcell (gt os loc) 0).ba 3 ((vcell (gt os loc) 0).of+(((gt O loc).length:Int)-1).toNat*3) (upto (wc ev (gt (gt O loc) ((gt O loc).length-1))) 3 0):=by
   have e1:(((gt O loc).length:Int)-1).toNat=(gt O loc).length-1:=by omega
   rw[e1]
   exact hCr.row (by omega)
  clear hCr
  refine go ?_
  refine ew_st ob6 fun h6 ob9 m6=>?_
  have hB6:Bx h6 b6 (upto (wc ev (gt (gt O loc) ((gt O loc).length-1))) 3 0):=ob9.bx
  have kZ:=m6.kp (k02.trans k5) fun k hk=>by injection hk with hk;omega
  refine go ?_
  exact ret_c (v:=.agg (upto (wc ev (gt (gt O loc) ((gt O loc).length-1))) 3 0)) (od_lds rfl (rw_b hB6 rfl)) ⟨by rw[hlook];rfl,kZ⟩
end Go.Proofs.YtkcdehffcddciaaGreatDoor.Vm
