/- Copies, unions, relations of pairs and of sets. -/
import Derived.Test.YtkcdehffcddciaaGreatDoorQ26
import Derived.Test.YtkcdehffcddciaaGreatDoorQ22
namespace Go.Proofs.YtkcdehffcddciaaGreatDoor.Vm
open Go Go.RowKit
def s225 : Sc:=(.seq (.region [Y 4 (.mv (.c .np)) []]) (.seq (.region [Y 8 (.mv (.t 1)) [1],Y 9 (.mv (.t 0)) [0],
 Y 10 (.nc (.t 9)) [9],Y 11 (.fa (.t 10) 0) [10],Y 12 (.ld (.t 11)) [11],Y 13 (.mx (.t 8) [.t 12]) [8,12],
 Y 14 (.call 107 [.t 13]) [13],Y 5 (.mv (.t 14)) [14]]) (.seq (.seq (.region [Y 15 (.mv (.t 0)) [0],
 Y 16 (.nc (.t 15)) [15],Y 17 (.fa (.t 16) 1) [16],Y 18 (.ld (.t 17)) [17],Y 19 (.len (.t 18)) [18],
 Y 20 (.mv (.c (.i .i64 0))) []]) (.block 0 (.loop (.seq (.region [Y 21 (.ar .lss (.t 20) (.t 19)) [20,19]])
  (.seq (.cond (.t 21) .skip (.exit 0)) (.seq (.block 1 (.seq (.region [Y 22 (.mv (.t 20)) [20],
 Y 23 (.ia (.t 18) (.t 20) 1) [18,20],Y 24 (.ld (.t 23)) [23],Y 6 (.mv (.t 22)) [22],Y 7 (.mv (.t 24)) [24]])
  (.region [Y 25 (.mv (.t 5)) [5],Y 26 (.nc (.t 25)) [25],Y 27 (.fa (.t 26) 1) [26],Y 28 (.ld (.t 27)) [27],
 Y 29 (.mv (.t 6)) [6],Y 30 (.ia (.t 28) (.t 29) 1) [28,29],Y 31 (.ld (.t 30)) [30],Y 32 (.mv (.t 7)) [7],
 Y 33 (.bs 296 1 1 [.ns] [(0,1,.t 32)]) [32],Y 34 (.call 185 [.t 31,.t 33]) [31,33]])))
  (.region [Y 35 (.ar .add (.t 20) (.c (.i .i64 1))) [20],Y 20 (.mv (.t 35)) [35]])))))))
  (.seq (.region [Y 36 (.mv (.t 5)) [5],Y 4 (.mv (.t 36)) [36]]) .ret))))
set_option maxRecDepth 100000 in
theorem c225:fnB Tryz.prog 225=some (37,s225,[.t 4]):=by kernel_rfl
def s272 : Sc:=(.seq (.region [Y 2 (.mv (.c .np)) []]) (.seq (.region [Y 3 (.mv (.t 0)) [0],
 Y 4 (.call 225 [.t 3,.c (.i .i64 0)]) [3],Y 2 (.mv (.t 4)) [4]]) .ret))
set_option maxRecDepth 100000 in
theorem c272:fnB Tryz.prog 272=some (5,s272,[.t 2]):=by kernel_rfl
theorem one_ar {h:H} {ty:TypeId} {y:V}:Ar (h.new ty [y] false) h.next (.sl h.next 0 1 1 true 1) 1 ty vcell [y]:=by
 refine⟨.sl (Nat.le_refl _),⟨fun i k hi hk=>⟨?_⟩⟩,h.next,false,rfl,Nat.le_refl _,Nat.lt_succ_self _,by rw[new_row,if_pos rfl];rfl⟩
 have hi:i<1:=hi
 obtain rfl:i=0:=by omega
 obtain rfl:k=0:=by omega
 show(h.new ty [y] false).cell h.next (0+0*1+0)=_
 rw[new_cell,if_pos rfl]
 rfl
theorem one_fill {y:V} (o:y.one=true):fillL (rep [.ns] 1) [(0,1,y)]=some [y]:=by
 simp only[fillL,cells_one5 o]
 rfl
theorem ew_one {C:Cx} {d:Nat} {ty:TypeId} {us:List Nat} {l:List So} {e:Env} {h:H} {x:Rd} {y:V} {Q:Env→H→Prop} (o:y.one=true) (hr:∀vl h1,Ar h1 h.next vl 1 ty vcell [y]→Kp h h1→Ew C l ((d,vl) :: e) h1 Q) (hx:x.lk e=some y:=by exact rfl):Ew C (⟨none,some d,.bs ty 1 1 [.ns] [(0,1,x)],us⟩ :: l) e h Q :=
 ew_s .n (od_bs (vs:=[(0,1,y)]) (by show(match x.lk e,partsE e []with | some v,some vs=>some ((0,1,v) :: vs) | _,_=>none)=_;rw[hx];rfl) (one_fill o) (allOne_cons o rfl)) (hr _ _ one_ar kp_new)
theorem em_one {C:Cx} {d j:Nat} {ty:TypeId} {us:List Nat} {lm:List (So × Kd)} {e:Env} {hs h:H} {st:List (Option Nat × H)} {ps:List Pd} {x:Rd} {y:V} {Q:Env→H→Prop} (o:y.one=true) (hl:∀h1,Kp h h1→Lv j h1.t ps) (hr:∀vl h1,Ar h1 h.next vl 1 ty vcell [y]→Kp h h1→Em C lm (j+1) ((d,vl) :: e) h1 h1 ((some j,h1) :: st) ps Q) (hx:x.lk e=some y:=by exact rfl):Em C ((⟨none,some d,.bs ty 1 1 [.ns] [(0,1,x)],us⟩,.e) :: lm) j e hs h st ps Q :=
 em_bs (vs:=[(0,1,y)]) (by show(match x.lk e,partsE e []with | some v,some vs=>some ((0,1,v) :: vs) | _,_=>none)=_;rw[hx];rfl) (one_fill o) (allOne_cons o rfl) (hl _ kp_new) (hr _ _ one_ar kp_new)
section
variable {h h':H} {lo hi b n:Nat} {vr:V} {vs:List V} {R:List Nat}
theorem or_bt {x y c:Nat}:((x ||| y).testBit c=true)↔x.testBit c=true∨y.testBit c=true:=by rw[Nat.testBit_or,Bool.or_eq_true]
theorem bt_set {a a' c x:Nat} (ha:a<R.length):bt (R.set a x) a' c=if a'=a then x.testBit c else bt R a' c:=by
 unfold bt
 rw[gt_set ha]
 split <;> rfl
theorem Rl.up_ {hi':Nat} (hr:Rl h lo hi b vr vs n R) (hh:hi≤hi'):Rl h lo hi' b vr vs n R:=⟨hr.ob,hr.ar,hr.vl,hr.rl,hr.rows,hr.dis,⟨Nat.lt_of_lt_of_le hr.up.1 hh,Nat.lt_of_lt_of_le hr.up.2.1 hh,fun a ha=>Nat.lt_of_lt_of_le (hr.up.2.2 a ha) hh⟩,hr.fit,hr.sz⟩
theorem Rl.or {a y:Nat} (hr:Rl h lo hi b vr vs n R) (ha:a<n) (hA:Ar h' lo (gt vs a) 1 35 uc (wds (gt R a ||| y) (nW n))) (m:Mo h h' (some (gt vs a).ba)) (hy:∀q,y.testBit q=true→q<n):Rl h' lo hi b vr vs n (R.set a (gt R a ||| y))∧Pr (fun k=>lo≤k∧k<hi) h h'∧∀a' c,bt (R.set a (gt R a ||| y)) a' c=true↔bt R a' c=true∨(a'=a∧y.testBit c=true):=by
 obtain⟨h1,h2⟩:=hr.set ha hA m (fun q hq=>by
  rcases or_bt.1 hq with h | h
  ·exact hr.fit a ha q h
  ·exact hy q h)
 refine⟨h1,h2,fun a' c=>?_⟩
 rw[bt_set (by rw[hr.rl];exact ha)]
 by_cases e:a'=a
 ·rw[if_pos e,or_bt,e]
  exact⟨fun h=>h.imp id fun h=>⟨rfl,h⟩,fun h=>h.imp id fun h=>h.2⟩
 ·rw[if_neg e]
  exact⟨.inl,fun h=>h.elim id fun h=>absurd h.1 e⟩
end
structure RelS (h:H) (v:V) (n:Nat) (S:Nat→Nat→Prop):Prop where
 is:∃R,RelAt h v n R∧∀a c,a<n→c<n→(bt R a c=true↔S a c)
theorem RelS.kp {h h':H} {v:V} {n:Nat} {S:Nat→Nat→Prop} (k:Kp h h') (hw:Wf h) (hr:RelS h v n S):RelS h' v n S:=by
 obtain⟨R,h1,h2⟩:=hr.is
 exact⟨R,h1.kp k hw,h2⟩
theorem RelS.one {h:H} {v:V} {n:Nat} {S:Nat→Nat→Prop} (hr:RelS h v n S):v.one=true:=by
 obtain⟨R,h1,h2⟩:=hr.is
 exact h1.one
theorem RelS.sz {h:H} {v:V} {n:Nat} {S:Nat→Nat→Prop} (hr:RelS h v n S):n≤256:=by
 obtain⟨R,h1,h2⟩:=hr.is
 exact h1.sz
theorem RelS.cast {h:H} {v:V} {n:Nat} {S S':Nat→Nat→Prop} (hr:RelS h v n S) (hS:∀a c,a<n→c<n→(S a c↔S' a c)):RelS h v n S':=by
 obtain⟨R,h1,h2⟩:=hr.is
 exact⟨R,h1,fun a c ha hc=>(h2 a c ha hc).trans (hS a c ha hc)⟩
set_option maxHeartbeats 0 in
theorem wide_spec {m:Bool} {h:H} {v:V} {n:Nat} {R:List Nat} {w:Int} (hw:Wf h) (hR:RelAt h v n R) (hwn:w≤n):FX m Tryz.prog 225 [v,.i .i64 w] h fun r h'=>∃b vr vs R',r=.p b 0∧Rl h' h.next h'.next b vr vs n R'∧Kp h h'∧∀a c,a<n→(bt R' a c=true↔bt R a c=true):=by
 obtain⟨bA,vrA,vsA,rfl,hB,hrA,hvlA,hrowsA⟩:=hR.is
 have hsz:=hR.sz
 have e0:max w (n:Int)=n:=by omega
 refine Fn.env c225 rfl ?_
 unfold s225
 refine go ?_
 rw[e0]
 refine stC (rnew_spec hw hsz) (fun r h1 ⟨b,vr,vs,e,hN,k1⟩=>?_)
 subst e
 have hw1:=k1.wf hw
 have hB1:=hB.kp k1 hw
 have hr1:=hrA.kp k1 hw
 have hL1:=hr1.ln
 rw[hvlA]at hL1
 obtain⟨hi,hhi⟩:∃hi,hi=h1.next:=⟨_,rfl⟩
 rw[←hhi]at hN
 clear hB
 refine go ?_
 refine Es.loop (X:=Nat × List Nat) (fun x=>n-x.1) (fun x=>[(0,.p bA 0),(5,.p b 0),(18,vrA),(19,.i .i64 (n:Int)),(20,.i .i64 (x.1:Int))]) (fun x h'=>x.1≤n∧Rl h' h.next hi b vr vs n x.2∧Kp h h'∧hi≤h'.next∧∀a c,a<n→(bt x.2 a c=true↔a<x.1∧bt R a c=true)) (0,List.replicate n 0) ⟨rfl,rfl,rfl,rfl,rfl,trivial⟩ ⟨Nat.zero_le _,hN,k1,Nat.le_of_eq hhi,fun a c ha=>?_⟩ fun x h2 hx=>?_
 ·show bt (List.replicate n 0) a c=true↔_
  unfold bt
  rw[gt_rep ha,Nat.zero_testBit]
  exact⟨(fun h=>by cases h),fun h=>absurd h.1 (Nat.not_lt_zero _)⟩
 obtain⟨i,R1⟩:=x
 obtain⟨hin,hRl,k2,hle,hbt⟩:=hx
 simp only at hin hRl hbt
 clear hN hB1 hr1
 have hw2:=k2.wf hw
 have hr2:=hrA.kp k2 hw
 have hB2:=hRl.ob.bx
 have hLr:=hRl.ar.ln
 rw[hRl.vl]at hLr
 refine go ?_
 refine cD (fun hlt=>?_) (fun hge=>?_)
 ·have hlt:i<n:=by omega
  have hc1:Ce h2 vrA.ba (vrA.of+i*1) (gt vsA i):=hr2.cs.eq i 0 (by rw[hvlA];exact hlt) Nat.zero_lt_one
  have hc2:Ce h2 vr.ba (vr.of+i*1) (gt vs i):=hRl.ar.cs.eq i 0 (by rw[hRl.vl];exact hlt) Nat.zero_lt_one
  have hrow:=(hrowsA i hlt).kp k2 hw
  refine go ?_
  refine ew_one hrow.ln.one (fun vl h3 hA3 k3=>?_)
  have hRl3:=hRl.kp k3
  have hrow3:=hrow.kp k3 hw2
  have hblk:(gt vs i).ba<h2.next:=(hRl.rows i hlt).blk.2.2
  refine go ?_
  have hdis:(gt vsA i).ba≠(gt vs i).ba:=fun e=>by
   have h5:=(hRl3.rows i hlt).blk.2.1
   have h6:0<(wds (gt R i) (nW n)).length:=by rw[wds_len];unfold nW;omega
   have h7:=((hrowsA i hlt).cs.eq 0 0 h6 Nat.zero_lt_one).lt hw
   omega
  have hne:vl.ba≠(gt vs i).ba:=fun e=>by have:=hA3.blk.2.1;omega
  have hj:=join_spec (m:=m) (k3.wf hw2) (hRl3.rows i hlt) hA3.ro hne hrow3 (nW_le hsz) (.inl hdis)
  refine stC hj (fun r h4 ⟨e4,hA4,m4⟩=>?_)
  ·obtain⟨hR4,p4,hb4⟩:=hRl3.or hlt hA4 m4 (fun q hq=>hR.fit i hlt q hq)
   refine go ?_
   refine Nx.inv (i+1,_) (by simp only;omega) ⟨rfl,rfl,rfl,rfl,rfl,trivial⟩ ⟨by simp only;omega,hR4,p4.kp (k2.trans k3) (fun k hk=>hk.1),by have:=p4.le;have:=k3.le;omega,fun a c ha=>?_⟩
   simp only
   rw[hb4 a c,hbt a c ha]
   unfold bt
   constructor
   ·rintro (⟨h1,h2⟩ | ⟨rfl,h2⟩)
    ·exact⟨by omega,h2⟩
    ·exact⟨by omega,h2⟩
   ·rintro⟨h1,h2⟩
    by_cases e:a=i
    ·subst e;exact .inr ⟨rfl,h2⟩
    ·exact .inl ⟨by omega,h2⟩
 ·skip
  refine go ?_
  exact ret_1 ⟨b,vr,vs,R1,rfl,hRl.up_ hle,k2,fun a c ha=>(hbt a c ha).trans ⟨fun h=>h.2,fun h=>⟨by omega,h⟩⟩⟩
set_option maxHeartbeats 0 in
theorem copy_spec_ {m:Bool} {h:H} {v:V} {n:Nat} {R:List Nat} (hw:Wf h) (hR:RelAt h v n R):FX m Tryz.prog 272 [v] h fun r h'=>∃b vr vs R',r=.p b 0∧Rl h' h.next h'.next b vr vs n R'∧Kp h h'∧∀a c,a<n→(bt R' a c=true↔bt R a c=true):=by
 refine Fn.env c272 rfl ?_
 unfold s272
 refine go ?_
 refine stC (wide_spec (w:=0) hw hR (by omega)) (fun r h1 ⟨b,vr,vs,R',e,hN,k1,hb⟩=>?_)
 subst e
 refine go ?_
 exact ret_1 ⟨b,vr,vs,R',rfl,hN,k1,hb⟩
def s108 : Sc:=(.seq (.region [Y 4 (.mv (.c .np)) []]) (.seq (.region [Y 8 (.mv (.t 0)) [0],Y 9 (.call 107 [.t 8]) [8],
 Y 5 (.mv (.t 9)) [9]]) (.seq (.seq (.region [Y 10 (.mv (.t 1)) [1],Y 11 (.len (.t 10)) [10],
 Y 12 (.mv (.c (.i .i64 0))) []]) (.block 0 (.loop (.seq (.region [Y 13 (.ar .lss (.t 12) (.t 11)) [12,11]])
  (.seq (.cond (.t 13) .skip (.exit 0)) (.seq (.block 1 (.seq (.region [Y 14 (.ia (.t 10) (.t 12) 2) [10,12],
 Y 15 (.lds (.t 14) 2) [14],Y 7 (.al 39 [.i .i64 0,.i .i64 0]) [],⟨none,none,.st (.t 7) (.t 15) 2,[7,15]⟩])
  (.region [Y 16 (.mv (.t 5)) [5],Y 17 (.fa (.t 7) 0) [7],Y 18 (.ld (.t 17)) [17],Y 19 (.fa (.t 7) 1) [7],
 Y 20 (.ld (.t 19)) [19],Y 21 (.call 109 [.t 16,.t 18,.t 20,.c (.b true)]) [16,18,20]])))
  (.region [Y 22 (.ar .add (.t 12) (.c (.i .i64 1))) [12],Y 12 (.mv (.t 22)) [22]])))))))
  (.seq (.region [Y 23 (.mv (.t 5)) [5],Y 4 (.mv (.t 23)) [23]]) .ret))))
set_option maxRecDepth 100000 in
theorem c108:fnB Tryz.prog 108=some (24,s108,[.t 4]):=by kernel_rfl
def s115 : Sc:=(.seq (.region [Y 4 (.mv (.c .np)) []]) (.seq (.region [Y 8 (.mv (.t 0)) [0],Y 9 (.call 107 [.t 8]) [8],
 Y 5 (.mv (.t 9)) [9]]) (.seq (.seq (.region [Y 10 (.mv (.t 1)) [1],Y 11 (.len (.t 10)) [10],
 Y 12 (.mv (.c (.i .i64 0))) []]) (.block 0 (.loop (.seq (.region [Y 13 (.ar .lss (.t 12) (.t 11)) [12,11]])
  (.seq (.cond (.t 13) .skip (.exit 0)) (.seq (.block 1 (.seq (.region [Y 14 (.mv (.t 12)) [12],
 Y 15 (.ia (.t 10) (.t 12) 1) [10,12],Y 16 (.ld (.t 15)) [15],Y 6 (.mv (.t 14)) [14],Y 7 (.mv (.t 16)) [16]])
  (.seq (.region [Y 17 (.mv (.t 7)) [7]]) (.cond (.t 17) (.region [Y 18 (.mv (.t 5)) [5],
 Y 19 (.mv (.t 6)) [6],Y 20 (.mv (.t 6)) [6],
 Y 21 (.call 109 [.t 18,.t 19,.t 20,.c (.b true)]) [18,19,20]]) .skip)))) (.region [Y 22 (.ar .add (.t 12)
  (.c (.i .i64 1))) [12],Y 12 (.mv (.t 22)) [22]]))))))) (.seq (.region [Y 23 (.mv (.t 5)) [5],
 Y 4 (.mv (.t 23)) [23]]) .ret))))
set_option maxRecDepth 100000 in
theorem c115:fnB Tryz.prog 115=some (24,s115,[.t 4]):=by kernel_rfl
def s116 : Sc:=(.seq (.region [Y 2 (.mv (.c .np)) []]) (.seq (.region [Y 3 (.mv (.c (.i .i64 0))) []])
  (.seq (.seq (.region [Y 11 (.mv (.t 0)) [0],Y 12 (.len (.t 11)) [11],Y 13 (.mv (.c (.i .i64 0))) []])
  (.block 0 (.loop (.seq (.region [Y 14 (.ar .lss (.t 13) (.t 12)) [13,12]])
  (.seq (.cond (.t 14) .skip (.exit 0)) (.seq (.block 1 (.seq (.region [Y 15 (.ia (.t 11) (.t 13) 1) [11,13],
 Y 16 (.ld (.t 15)) [15],Y 5 (.mv (.t 16)) [16]]) (.region [Y 17 (.mv (.t 3)) [3],Y 18 (.mv (.t 5)) [5],
 Y 19 (.nc (.t 18)) [18],Y 20 (.fa (.t 19) 0) [19],Y 21 (.ld (.t 20)) [20],Y 22 (.mx (.t 17) [.t 21]) [17,21],
 Y 3 (.mv (.t 22)) [22]]))) (.region [Y 23 (.ar .add (.t 13) (.c (.i .i64 1))) [13],
 Y 13 (.mv (.t 23)) [23]]))))))) (.seq (.region [Y 24 (.mv (.t 3)) [3],Y 25 (.call 107 [.t 24]) [24],
 Y 6 (.mv (.t 25)) [25]]) (.seq (.seq (.region [Y 26 (.mv (.t 0)) [0],Y 27 (.len (.t 26)) [26],
 Y 28 (.mv (.c (.i .i64 0))) []]) (.block 2 (.loop (.seq (.region [Y 29 (.ar .lss (.t 28) (.t 27)) [28,27]])
  (.seq (.cond (.t 29) .skip (.exit 2)) (.seq (.block 3 (.seq (.region [Y 30 (.ia (.t 26) (.t 28) 1) [26,28],
 Y 31 (.ld (.t 30)) [30],Y 8 (.mv (.t 31)) [31]]) (.seq (.region [Y 32 (.mv (.t 8)) [8],
 Y 33 (.nc (.t 32)) [32],Y 34 (.fa (.t 33) 1) [33],Y 35 (.ld (.t 34)) [34],Y 36 (.len (.t 35)) [35],
 Y 37 (.mv (.c (.i .i64 0))) []]) (.block 4 (.loop (.seq (.region [Y 38 (.ar .lss (.t 37) (.t 36)) [37,36]])
  (.seq (.cond (.t 38) .skip (.exit 4)) (.seq (.block 5 (.seq (.region [Y 39 (.mv (.t 37)) [37],
 Y 40 (.ia (.t 35) (.t 37) 1) [35,37],Y 41 (.ld (.t 40)) [40],Y 9 (.mv (.t 39)) [39],Y 10 (.mv (.t 41)) [41]])
  (.region [Y 42 (.mv (.t 6)) [6],Y 43 (.nc (.t 42)) [42],Y 44 (.fa (.t 43) 1) [43],Y 45 (.ld (.t 44)) [44],
 Y 46 (.mv (.t 9)) [9],Y 47 (.ia (.t 45) (.t 46) 1) [45,46],Y 48 (.ld (.t 47)) [47],Y 49 (.mv (.t 10)) [10],
 Y 50 (.bs 296 1 1 [.ns] [(0,1,.t 49)]) [49],Y 51 (.call 185 [.t 48,.t 50]) [48,50]])))
  (.region [Y 52 (.ar .add (.t 37) (.c (.i .i64 1))) [37],Y 37 (.mv (.t 52)) [52]])))))))))
  (.region [Y 53 (.ar .add (.t 28) (.c (.i .i64 1))) [28],Y 28 (.mv (.t 53)) [53]])))))))
  (.seq (.region [Y 54 (.mv (.t 6)) [6],Y 2 (.mv (.t 54)) [54]]) .ret))))))
set_option maxRecDepth 100000 in
theorem c116:fnB Tryz.prog 116=some (55,s116,[.t 2]):=by kernel_rfl
set_option maxHeartbeats 0 in
theorem of_spec {m:Bool} {h:H} {v:V} {n:Nat} {l:List (Int × Int)} (hw:Wf h) (hv:Ro h v 2 pcell l) (hn:n≤256) (hl:l.length<4611686018427387904):FX m Tryz.prog 108 [.i .i64 (n:Int),v] h fun r h'=>∃b vr vs R',r=.p b 0∧Rl h' h.next h'.next b vr vs n R'∧Kp h h'∧∀a c,a<n→c<n→(bt R' a c=true↔∃i,i<l.length∧gt l i=((a:Int),(c:Int))):=by
 have hL:=hv.ln
 refine Fn.env c108 rfl ?_
 unfold s108
 refine go ?_
 refine stC (rnew_spec hw hn) (fun r h1 ⟨b,vr,vs,e,hN,k1⟩=>?_)
 subst e
 obtain⟨hi,hhi⟩:∃hi,hi=h1.next:=⟨_,rfl⟩
 rw[←hhi]at hN
 refine go ?_
 refine Es.loop (X:=Nat × List Nat) (fun x=>l.length-x.1) (fun x=>[(0,.i .i64 (n:Int)),(1,v),(5,.p b 0),(10,v),(11,.i .i64 (l.length:Int)),(12,.i .i64 (x.1:Int))]) (fun x h'=>x.1≤l.length∧Rl h' h.next hi b vr vs n x.2∧Kp h h'∧hi≤h'.next∧∀a c,a<n→c<n→(bt x.2 a c=true↔∃i,i<x.1∧gt l i=((a:Int),(c:Int)))) (0,List.replicate n 0) ⟨rfl,rfl,rfl,rfl,rfl,rfl,trivial⟩ ⟨Nat.zero_le _,hN,k1,Nat.le_of_eq hhi,fun a c ha _=>?_⟩ fun x h2 hx=>?_
 ·show bt (List.replicate n 0) a c=true↔_
  unfold bt
  rw[gt_rep ha,Nat.zero_testBit]
  exact⟨(fun h=>by cases h),fun ⟨i,h,_⟩=>absurd h (Nat.not_lt_zero _)⟩
 obtain⟨i,R1⟩:=x
 obtain⟨hin,hRl,k2,hle,hbt⟩:=hx
 simp only at hin hRl hbt
 clear hN
 have hw2:=k2.wf hw
 have hv2:=hv.kp k2 hw
 have hC:=hv2.cs
 refine go ?_
 refine cD (fun hlt=>?_) (fun hge=>?_)
 ·have hlt:i<l.length:=by omega
  refine go ?_
  refine ew_al fun b7 h3 ob7 k3=>?_
  refine go ?_
  refine ew_st ob7 (vs:=[.i .i64 (gt l i).1,.i .i64 (gt l i).2]) (fun h4 ob8 m4=>?_)
  have hB:=ob8.bx
  have k4:Kp h2 h4:=m4.kp k3 (fun k e=>by injection e with e;rw[←e];exact ob7.lo)
  have hRl4:=hRl.kp k4
  refine go ?_
  refine stC (put_spec_ (p:=(gt l i).1) (q:=(gt l i).2) (w:=true) hRl4) (fun r h5 ⟨R',hR5,p5,hb5⟩=>?_)
  refine go ?_
  refine Nx.inv (i+1,R') (by simp only;omega) ⟨rfl,rfl,rfl,rfl,rfl,rfl,trivial⟩ ⟨by simp only;omega,hR5,p5.kp (k2.trans k4) (fun k hk=>hk.1),by have:=p5.le;have:=k4.le;omega,fun a c ha hc=>?_⟩
  simp only
  rw[hb5 a c ha hc]
  by_cases e:(a:Int)=(gt l i).1∧(c:Int)=(gt l i).2
  ·rw[if_pos e]
   exact⟨fun _=>⟨i,Nat.lt_succ_self i,by rw[e.1,e.2]⟩,fun _=>rfl⟩
  ·rw[if_neg e,hbt a c ha hc]
   constructor
   ·rintro⟨j,h6,h7⟩
    exact⟨j,by omega,h7⟩
   ·rintro⟨j,h6,h7⟩
    refine⟨j,?_,h7⟩
    by_cases e2:j=i
    ·subst e2
     rw[h7]at e
     exact absurd ⟨rfl,rfl⟩ e
    ·omega
 ·have e:i=l.length:=by omega
  subst e
  refine go ?_
  exact ret_1 ⟨b,vr,vs,R1,rfl,hRl.up_ hle,k2,hbt⟩
set_option maxHeartbeats 0 in
theorem ident_spec {m:Bool} {h:H} {v:V} {n:Nat} {l:List Bool} (hw:Wf h) (hv:Ro h v 1 bcell l) (hn:n≤256) (hl:l.length<4611686018427387904):FX m Tryz.prog 115 [.i .i64 (n:Int),v] h fun r h'=>RelS h' r n (fun a c=>a=c∧a<l.length∧gt l a=true)∧Kp h h':=by
 have hL:=hv.ln
 refine Fn.env c115 rfl ?_
 unfold s115
 refine go ?_
 refine stC (rnew_spec hw hn) (fun r h1 ⟨b,vr,vs,e,hN,k1⟩=>?_)
 subst e
 obtain⟨hi,hhi⟩:∃hi,hi=h1.next:=⟨_,rfl⟩
 rw[←hhi]at hN
 refine go ?_
 refine Es.loop (X:=Nat × List Nat) (fun x=>l.length-x.1) (fun x=>[(0,.i .i64 (n:Int)),(1,v),(5,.p b 0),(10,v),(11,.i .i64 (l.length:Int)),(12,.i .i64 (x.1:Int))]) (fun x h'=>x.1≤l.length∧Rl h' h.next hi b vr vs n x.2∧Kp h h'∧hi≤h'.next∧∀a c,a<n→c<n→(bt x.2 a c=true↔a=c∧a<x.1∧gt l a=true)) (0,List.replicate n 0) ⟨rfl,rfl,rfl,rfl,rfl,rfl,trivial⟩ ⟨Nat.zero_le _,hN,k1,Nat.le_of_eq hhi,fun a c ha _=>?_⟩ fun x h2 hx=>?_
 ·show bt (List.replicate n 0) a c=true↔_
  unfold bt
  rw[gt_rep ha,Nat.zero_testBit]
  exact⟨(fun h=>by cases h),fun ⟨_,h,_⟩=>absurd h (Nat.not_lt_zero _)⟩
 obtain⟨i,R1⟩:=x
 obtain⟨hin,hRl,k2,hle,hbt⟩:=hx
 simp only at hin hRl hbt
 clear hN
 have hw2:=k2.wf hw
 have hv2:=hv.kp k2 hw
 have hC:=hv2.cs
 refine go ?_
 refine cD (fun hlt=>?_) (fun hge=>?_)
 ·have hlt:i<l.length:=by omega
  refine go ?_
  refine cB (fun hg=>?_) (fun hg=>?_)
  ·skip
   refine go ?_
   refine stC (put_spec_ (p:=(i:Int)) (q:=(i:Int)) (w:=true) hRl) (fun r h5 ⟨R',hR5,p5,hb5⟩=>?_)
   refine go ?_
   refine Nx.inv (i+1,R') (by simp only;omega) ⟨rfl,rfl,rfl,rfl,rfl,rfl,trivial⟩ ⟨by simp only;omega,hR5,p5.kp k2 (fun k hk=>hk.1),by have:=p5.le;omega,fun a c ha hc=>?_⟩
   simp only
   rw[hb5 a c ha hc]
   by_cases e:(a:Int)=(i:Int)∧(c:Int)=(i:Int)
   ·rw[if_pos e]
    exact⟨fun _=>⟨by omega,by omega,by rw[show a=i by omega];exact hg⟩,fun _=>rfl⟩
   ·rw[if_neg e,hbt a c ha hc]
    exact⟨fun ⟨h1,h2,h3⟩=>⟨h1,by omega,h3⟩,fun ⟨h1,h2,h3⟩=>⟨h1,by omega,h3⟩⟩
  ·skip
   refine go ?_
   refine Nx.inv (i+1,R1) (by simp only;omega) ⟨rfl,rfl,rfl,rfl,rfl,rfl,trivial⟩ ⟨by simp only;omega,hRl,k2,hle,fun a c ha hc=>?_⟩
   simp only
   rw[hbt a c ha hc]
   refine⟨fun ⟨h1,h2,h3⟩=>⟨h1,by omega,h3⟩,fun ⟨h1,h2,h3⟩=>⟨h1,?_,h3⟩⟩
   by_cases e:a=i
   ·rw[e,hg]at h3;cases h3
   ·omega
 ·have e:i=l.length:=by omega
  subst e
  refine go ?_
  exact ret_1 ⟨⟨R1,hRl.at_,hbt⟩,k2⟩
set_option maxHeartbeats 0 in
theorem union_spec {m:Bool} {h:H} {v:V} {n K:Nat} {rs:List V} {RS:List (List Nat)} (hw:Wf h) (hv:Ro h v 1 vcell rs) (hK:rs.length=K) (h0:0<K) (hK2:K<1000) (hR:∀k,k<K→RelAt h (gt rs k) n (gt RS k)):FX m Tryz.prog 116 [v] h fun r h'=>RelS h' r n (fun a c=>∃k,k<K∧bt (gt RS k) a c=true)∧Kp h h':=by
 have hL:=hv.ln
 rw[hK]at hL
 have hsz:=(hR 0 h0).sz
 refine Fn.env c116 rfl ?_
 unfold s116
 refine go ?_
 refine Es.loop (X:=Nat) (fun x=>K-x) (fun x=>[(0,v),(11,v),(12,.i .i64 (K:Int)),(13,.i .i64 (x:Int)),(3,.i .i64 (if x=0 then 0 else(n:Int)))]) (fun x h'=>x≤K∧h'=h) 0 ⟨rfl,rfl,rfl,rfl,rfl,trivial⟩ ⟨Nat.zero_le _,rfl⟩ fun x h2 hx=>?_
 obtain⟨hxK,rfl⟩:=hx
 refine go ?_
 refine cD (fun hlt=>?_) (fun hge=>?_)
 ·have hlt:x<K:=by omega
  have hc:Ce h2 v.ba (v.of+x*1) (gt rs x):=hv.cs.eq x 0 (by rw[hK];exact hlt) Nat.zero_lt_one
  obtain⟨bA,vrA,vsA,eA,hB,-⟩:=(hR x hlt).is
  rw[eA]at hc
  refine go ?_
  have e0:max (if x=0 then(0:Int)else n) (n:Int)=if x+1=0 then 0 else(n:Int):=by
   rw[if_neg (Nat.succ_ne_zero x)]
   split <;> omega
  rw[e0]
  exact Nx.inv (x+1) (by omega) ⟨rfl,rfl,rfl,rfl,rfl,trivial⟩ ⟨by omega,rfl⟩
 ·have e:x=K:=by omega
  subst e
  rw[if_neg (by omega)]
  refine go ?_
  refine stC (rnew_spec hw hsz) (fun r h1 ⟨b,vr,vs,e,hN,k1⟩=>?_)
  subst e
  obtain⟨hi,hhi⟩:∃hi,hi=h1.next:=⟨_,rfl⟩
  rw[←hhi]at hN
  have hL:=hL
  refine go ?_
  refine Es.loop (X:=Nat × List Nat) (fun y=>x-y.1) (fun y=>[(0,v),(6,.p b 0),(26,v),(27,.i .i64 (x:Int)),(28,.i .i64 (y.1:Int))]) (fun y h'=>y.1≤x∧Rl h' h2.next hi b vr vs n y.2∧Kp h2 h'∧hi≤h'.next∧∀a c,a<n→(bt y.2 a c=true↔∃k,k<y.1∧bt (gt RS k) a c=true)) (0,List.replicate n 0) ⟨rfl,rfl,rfl,rfl,rfl,trivial⟩ ⟨Nat.zero_le _,hN,k1,Nat.le_of_eq hhi,fun a c ha=>?_⟩ fun y h3 hy=>?_
  ·show bt (List.replicate n 0) a c=true↔_
   unfold bt
   rw[gt_rep ha,Nat.zero_testBit]
   exact⟨(fun h=>by cases h),fun ⟨_,h,_⟩=>absurd h (Nat.not_lt_zero _)⟩
  obtain⟨k,R1⟩:=y
  obtain⟨hkx,hRl,k3,hle,hbt⟩:=hy
  simp only at hkx hRl hbt
  clear hN
  have hw3:=k3.wf hw
  have hv3:=hv.kp k3 hw
  refine go ?_
  refine cD (fun hlt=>?_) (fun hge=>?_)
  ·have hlt:k<x:=by omega
   have hc:Ce h3 v.ba (v.of+k*1) (gt rs k):=hv3.cs.eq k 0 (by rw[hK];exact hlt) Nat.zero_lt_one
   have hRk:=hR k hlt
   obtain⟨bA,vrA,vsA,eA,hBA,hrA,hvlA,hrowsA⟩:=hRk.is
   rw[eA]at hc
   have hBA3:=hBA.kp k3 hw
   have hLA:=hrA.ln
   rw[hvlA]at hLA
   refine go ?_
   refine Es.loop (X:=Nat × List Nat) (fun y=>n-y.1) (fun y=>[(0,v),(6,.p b 0),(26,v),(27,.i .i64 (x:Int)),(28,.i .i64 (k:Int)),(35,vrA),(36,.i .i64 (n:Int)),(37,.i .i64 (y.1:Int))]) (fun y h'=>y.1≤n∧Rl h' h2.next hi b vr vs n y.2∧Kp h2 h'∧hi≤h'.next∧∀a c,a<n→(bt y.2 a c=true↔(∃j,j<k∧bt (gt RS j) a c=true)∨(a<y.1∧bt (gt RS k) a c=true))) (0,R1) ⟨rfl,rfl,rfl,rfl,rfl,rfl,rfl,rfl,trivial⟩ ⟨Nat.zero_le _,hRl,k3,hle,fun a c ha=>(hbt a c ha).trans ⟨.inl,fun h=>h.elim id fun h=>absurd h.1 (Nat.not_lt_zero _)⟩⟩ fun y h4 hy=>?_
   clear hRl hbt hBA3 hc hv3 hw3 k3 hle
   obtain⟨i,R2⟩:=y
   obtain⟨hin,hRl,k4,hle,hbt⟩:=hy
   simp only at hin hRl hbt
   have hw4:=k4.wf hw
   have hr4:=hrA.kp k4 hw
   have hB4:=hRl.ob.bx
   have hLr:=hRl.ar.ln
   rw[hRl.vl]at hLr
   refine go ?_
   refine cD (fun hlt2=>?_) (fun hge2=>?_)
   ·have hlt2:i<n:=by omega
    have hc1:Ce h4 vrA.ba (vrA.of+i*1) (gt vsA i):=hr4.cs.eq i 0 (by rw[hvlA];exact hlt2) Nat.zero_lt_one
    have hc2:Ce h4 vr.ba (vr.of+i*1) (gt vs i):=hRl.ar.cs.eq i 0 (by rw[hRl.vl];exact hlt2) Nat.zero_lt_one
    have hrow:=(hrowsA i hlt2).kp k4 hw
    refine go ?_
    refine ew_one hrow.ln.one (fun vl h5 hA5 k5=>?_)
    have hRl5:=hRl.kp k5
    have hrow5:=hrow.kp k5 hw4
    have hblk:(gt vs i).ba<h4.next:=(hRl.rows i hlt2).blk.2.2
    refine go ?_
    have hdis:(gt vsA i).ba≠(gt vs i).ba:=fun e=>by
     have h5:=(hRl5.rows i hlt2).blk.2.1
     have h6:0<(wds (gt (gt RS k) i) (nW n)).length:=by rw[wds_len];unfold nW;omega
     have h7:=((hrowsA i hlt2).cs.eq 0 0 h6 Nat.zero_lt_one).lt hw
     omega
    have hne:vl.ba≠(gt vs i).ba:=fun e=>by have:=hA5.blk.2.1;omega
    have hj:=join_spec (m:=m) (k5.wf hw4) (hRl5.rows i hlt2) hA5.ro hne hrow5 (nW_le hsz) (.inl hdis)
    refine stC hj (fun r h6 ⟨e4,hA4,m4⟩=>?_)
    obtain⟨hR6,p6,hb6⟩:=hRl5.or hlt2 hA4 m4 (fun q hq=>hRk.fit i hlt2 q hq)
    refine go ?_
    refine Nx.inv (i+1,_) (by simp only;omega) ⟨rfl,rfl,rfl,rfl,rfl,rfl,rfl,rfl,trivial⟩ ⟨by simp only;omega,hR6,p6.kp (k4.trans k5) (fun k hk=>hk.1),by have:=p6.le;have:=k5.le;omega,fun a c ha=>?_⟩
    simp only
    rw[hb6 a c,hbt a c ha]
    constructor
    ·rintro ((h1 | ⟨h1,h2⟩) | ⟨rfl,h2⟩)
     ·exact .inl h1
     ·exact .inr ⟨by omega,h2⟩
     ·exact .inr ⟨by omega,h2⟩
    ·rintro (h1 | ⟨h1,h2⟩)
     ·exact .inl (.inl h1)
     ·by_cases e:a=i
      ·subst e;exact .inr ⟨rfl,h2⟩
      ·exact .inl (.inr ⟨by omega,h2⟩)
   ·have e:i=n:=by omega
    subst e
    refine go ?_
    refine Nx.inv (k+1,R2) (by simp only;omega) ⟨rfl,rfl,rfl,rfl,rfl,trivial⟩ ⟨by simp only;omega,hRl,k4,hle,fun a c ha=>(hbt a c ha).trans ?_⟩
    constructor
    ·rintro (⟨j,h1,h2⟩ | ⟨h1,h2⟩)
     ·exact⟨j,by omega,h2⟩
     ·exact⟨k,Nat.lt_succ_self k,h2⟩
    ·rintro⟨j,h1,h2⟩
     by_cases e:j=k
     ·subst e;exact .inr ⟨ha,h2⟩
     ·exact .inl ⟨j,by omega,h2⟩
  ·have e:k=x:=by omega
   subst e
   refine go ?_
   exact ret_1 ⟨⟨R1,hRl.at_,fun a c ha _=>hbt a c ha⟩,k3⟩
def s111 : Sc:=(.seq (.region [Y 2 (.mv (.c .np)) []]) (.seq (.region [Y 7 (.mv (.t 0)) [0],Y 8 (.nc (.t 7)) [7],
 Y 9 (.fa (.t 8) 0) [8],Y 10 (.ld (.t 9)) [9],Y 11 (.call 107 [.t 10]) [10],Y 3 (.al 111 [.np]) [],
 ⟨none,none,.st (.t 3) (.t 11) 1,[3,11]⟩]) (.seq (.seq (.region [Y 12 (.mv (.t 0)) [0],
 Y 13 (.nc (.t 12)) [12],Y 14 (.fa (.t 13) 1) [13],Y 15 (.ld (.t 14)) [14],Y 16 (.len (.t 15)) [15],
 Y 17 (.mv (.c (.i .i64 0))) []]) (.block 0 (.loop (.seq (.region [Y 18 (.ar .lss (.t 17) (.t 16)) [17,16]])
  (.seq (.cond (.t 18) .skip (.exit 0)) (.seq (.block 1 (.seq (.region [Y 19 (.mv (.t 17)) [17],
 Y 20 (.ia (.t 15) (.t 17) 1) [15,17],Y 21 (.ld (.t 20)) [20],Y 4 (.al 3 [.i .i64 0]) [],⟨none,none,.st (.t 4)
  (.t 19) 1,[4,19]⟩,Y 5 (.mv (.t 21)) [21]]) (.seq (.region [Y 22 (.mv (.t 5)) [5],
 Y 23 (.call 184 [.t 22]) [22]]) (.block 2 (.range (.t 23) [24] (.region [Y 6 (.mv (.t 24)) [24]])
  (.block 3 (.mix [(Y 25 (.ld (.t 3)) [3],.q [none]),(Y 26 (.nc (.t 25)) [25],.q [none]),
 (Y 27 (.fa (.t 26) 1) [26],.q [none]),(Y 28 (.ld (.t 27)) [27],.q [none]),(Y 29 (.mv (.t 6)) [6],.q [none]),
 (Y 30 (.ia (.t 28) (.t 29) 1) [28,29],.q [none]),(Y 31 (.ld (.t 30)) [30],.q [none]),
 (Y 32 (.ld (.t 4)) [4],.q [none]),(Y 33 (.call 186 [.t 31,.t 32]) [31,32],.e)])))))))
  (.region [Y 34 (.ar .add (.t 17) (.c (.i .i64 1))) [17],Y 17 (.mv (.t 34)) [34]])))))))
  (.seq (.region [Y 35 (.ld (.t 3)) [3],Y 2 (.mv (.t 35)) [35]]) .ret))))
set_option maxRecDepth 100000 in
theorem c111:fnB Tryz.prog 111=some (36,s111,[.t 2]):=by kernel_rfl
theorem ci_inj {a c:Nat} (h:ci a=ci c):a=c:=by
 unfold ci at h
 injection h with _ h
 omega
theorem pts_mem {h:H} {v:V} {n:Nat} {R:List Nat} (hR:RelAt h v n R) {a:Nat} (ha:a<n) {p:V}:p∈(ptsF (gt R a) (nW n) 0).map ci↔∃q,p=ci q∧q<n∧bt R a q=true:=by
 rw[List.mem_map]
 constructor
 ·rintro⟨q,h1,rfl⟩
  have h2:=(ptsF_mem.1 h1).2.2
  exact⟨q,rfl,hR.fit a ha q h2,h2⟩
 ·rintro⟨q,rfl,h1,h2⟩
  refine⟨q,ptsF_mem.2 ⟨by omega,by unfold nW;omega,h2⟩,rfl⟩
theorem ci_mem {d:List V} {p:V} {q:Nat} (e:p=ci q) (a:Nat):ci a∈d++[p]↔ci a∈d∨a=q:=by
 rw[List.mem_append,List.mem_singleton,e]
 exact⟨fun h=>h.imp id ci_inj,fun h=>h.imp id fun h=>by rw[h]⟩
structure RP (h0:H) (hi b:Nat) (vr:V) (vs:List V) (n:Nat) (bs:List (Nat × List V)) (h:H) (R:List Nat):Prop where
 rl:Rl h h0.next hi b vr vs n R
 kp:Kp h0 h
 le:hi≤h.next
 bx:∀p∈bs,Bx h p.1 p.2∧hi≤p.1∧p.1<h.next
section
variable {h0 h h':H} {hi b n:Nat} {vr:V} {vs:List V} {bs:List (Nat × List V)} {R R':List Nat}
theorem RP.pr (hr:RP h0 hi b vr vs n bs h R) (hl:Rl h' h0.next hi b vr vs n R') (p:Pr (fun k=>h0.next≤k∧k<hi) h h'):RP h0 hi b vr vs n bs h' R' :=
 ⟨hl,p.kp hr.kp fun k hk=>hk.1,Nat.le_trans hr.le p.le,fun q hq=>let ⟨h1,h2,h3⟩:=hr.bx q hq;⟨p.bx h1 h3 (fun hk=>by omega),h2,Nat.lt_of_lt_of_le h3 p.le⟩⟩
theorem RP.step (hr:RP h0 hi b vr vs n bs h R) (k:Kp h h'):RP h0 hi b vr vs n bs h' R :=
 hr.pr (hr.rl.kp k) (Pr.of_kp k)
theorem RP.put {z:Nat} {o:Option O} (hr:RP h0 hi b vr vs n bs h R) (hz:hi≤z) (hzn:z<h.next) (hb:∀p∈bs,p.1≠z) (h0n:h0.next≤hi):RP h0 hi b vr vs n bs ⟨h.next,h.t.set z o⟩ R:=by
 have m:=mo_put (o:=o) hzn
 have p:Pr (fun k=>k=z) h ⟨h.next,h.t.set z o⟩:=Pr.of_mo m fun k e=>by injection e with e;exact e.symm
 exact⟨hr.rl.pr p fun k _ h2 e=>by omega,p.kp hr.kp fun k e=>by omega,hr.le,fun q hq=>let ⟨h1,h2,h3⟩:=hr.bx q hq;⟨p.bx h1 h3 (hb q hq),h2,h3⟩⟩
theorem RP.add (hr:RP h0 hi b vr vs n bs h R) {z:Nat} {l:List V} (hb:Bx h z l) (hz:hi≤z) (hzn:z<h.next):RP h0 hi b vr vs n ((z,l) :: bs) h R :=
 ⟨hr.rl,hr.kp,hr.le,fun q hq=>by
  rcases List.mem_cons.1 hq with rfl | hq
  ·exact⟨hb,hz,hzn⟩
  ·exact hr.bx q hq⟩
theorem RP.drop {x:Nat × List V} (hr:RP h0 hi b vr vs n (x :: bs) h R):RP h0 hi b vr vs n bs h R:=⟨hr.rl,hr.kp,hr.le,fun q hq=>hr.bx q (List.mem_cons_of_mem _ hq)⟩
theorem RP.lt (hr:RP h0 hi b vr vs n bs h R):h0.next≤hi:=Nat.le_trans hr.rl.ob.lo (Nat.le_of_lt hr.rl.up.1)
end
theorem zero_bt {n a c:Nat} (ha:a<n):bt (List.replicate n 0) a c=true↔False:=by
 unfold bt
 rw[gt_rep ha,Nat.zero_testBit]
 exact⟨(fun h=>by cases h),False.elim⟩
set_option maxHeartbeats 0 in
theorem inv_spec {m:Bool} {h:H} {v:V} {n:Nat} {R:List Nat} (hw:Wf h) (hT:TabP h) (hR:RelAt h v n R):FX m Tryz.prog 111 [v] h fun r h'=>RelS h' r n (fun a c=>bt R c a=true)∧Kp h h':=by
 obtain⟨bA,vrA,vsA,rfl,hBA,hrA,hvlA,hrowsA⟩:=hR.is
 have hsz:=hR.sz
 refine Fn.env c111 rfl ?_
 unfold s111
 refine go ?_
 refine stC (rnew_spec hw hsz) (fun r h1 ⟨b,vr,vs,e,hN,k1⟩=>?_)
 subst e
 obtain⟨hi,hhi⟩:∃hi,hi=h1.next:=⟨_,rfl⟩
 rw[←hhi]at hN
 refine ew_al fun b3 h2 ob3 k2=>?_
 refine go ?_
 refine ew_st ob3 (vs:=[.p b 0]) (fun h3 ob3' m3=>?_)
 have k3:Kp h1 h3:=m3.kp k2 (fun k e=>by injection e with e;rw[←e];exact ob3.lo)
 have hP:RP h hi b vr vs n [(b3,[.p b 0])] h3 (List.replicate n 0):=⟨hN.kp k3,k1.trans k3,by rw[hhi];exact k3.le,fun q hq=>by
  rw[List.mem_singleton.1 hq]
  exact⟨ob3'.bx,by rw[hhi];exact ob3.lo,ob3'.hi⟩⟩
 have hBA3:=hBA.kp (k1.trans k3) hw
 have hLA:=hrA.ln
 rw[hvlA]at hLA
 clear hBA
 refine go ?_
 refine Es.loop (X:=Nat × List Nat) (fun x=>n-x.1) (fun x=>[(0,.p bA 0),(3,.p b3 0),(15,vrA),(16,.i .i64 (n:Int)),(17,.i .i64 (x.1:Int))]) (fun x h'=>x.1≤n∧RP h hi b vr vs n [(b3,[.p b 0])] h' x.2∧∀a c,a<n→c<n→(bt x.2 a c=true↔c<x.1∧bt R c a=true)) (0,List.replicate n 0) ⟨rfl,rfl,rfl,rfl,rfl,trivial⟩ ⟨Nat.zero_le _,hP,fun a c ha _=>(zero_bt ha).trans ⟨False.elim,fun h=>absurd h.1 (Nat.not_lt_zero _)⟩⟩ fun x h4 hx=>?_
 clear hP hBA3 m3 ob3' ob3 hN k2 k3 k1 hhi
 obtain⟨i,R1⟩:=x
 obtain⟨hin,hP,hbt⟩:=hx
 simp only at hin hP hbt
 have hw4:=hP.kp.wf hw
 have hr4:=hrA.kp hP.kp hw
 have hlo:=hP.lt
 refine go ?_
 refine cD (fun hlt=>?_) (fun hge=>?_)
 ·have hlt:i<n:=by omega
  have hc1:Ce h4 vrA.ba (vrA.of+i*1) (gt vsA i):=hr4.cs.eq i 0 (by rw[hvlA];exact hlt) Nat.zero_lt_one
  refine go ?_
  refine ew_al fun b4 h5 ob4 k5=>?_
  refine go ?_
  refine ew_st ob4 (vs:=[.i .i64 (i:Int)]) (fun h6 ob4' m6=>?_)
  have k6:Kp h4 h6:=m6.kp k5 (fun k e=>by injection e with e;rw[←e];exact ob4.lo)
  have hP6:=(hP.step k6).add ob4'.bx (Nat.le_trans hP.le ob4.lo) ob4'.hi
  have hw6:=k6.wf hw4
  have hrow:=(hrowsA i hlt).kp hP6.kp hw
  refine go ?_
  refine stC (points_spec hw6 hrow) (fun r h7 ⟨bx,e,obx,k7⟩=>?_)
  subst e
  have hP7:=(hP6.step k7).add obx.bx (Nat.le_trans hP6.le obx.lo) obx.hi
  clear hP6 hP hr4 hc1 ob4 ob4' m6 k5 k6 hrow
  refine go ?_
  refine Es.rangeI (fun d h'=>∃R2,RP h hi b vr vs n [(bx,[gt vsA i]),(b4,[.i .i64 (i:Int)]),(b3,[.p b 0])] h' R2∧∀a c,a<n→c<n→(bt R2 a c=true↔(c<i∧bt R c a=true)∨(c=i∧ci a∈d))) rfl (points_it (v:=gt vsA i) (x:=gt R i) (nW_le hsz)) ?_ ?_ ?_ ?_ ?_
  ·rintro d h' ⟨R2,hP,-⟩
   exact⟨(hP.bx (bx,[gt vsA i]) (by simp)).1,(hrowsA i hlt).kp hP.kp hw,hT.kp hP.kp⟩
  ·rintro d h' o hlt' ⟨R2,hP,hb⟩
   refine⟨R2,hP.put (Nat.le_trans hP7.le (Nat.le_refl _)) hlt' (fun q hq=>?_) hlo,hb⟩
   have:=(hP7.bx q hq).2.2
   omega
  ·intro o
   refine⟨R1,?_,fun a c ha hc=>(hbt a c ha hc).trans ⟨.inl,fun h=>h.elim id fun h=>absurd h.2 List.not_mem_nil⟩⟩
   exact hP7.step kp_set
  ·rintro d p r h8 hl hlt8 ⟨R2,hP,hb⟩
   obtain⟨q,rfl,hq,hbq⟩:=(pts_mem hR hlt (p:=p)).1 (by rw[hl];simp)
   have hB3:=(hP.bx (b3,[.p b 0]) (by simp)).1
   have hB4:=(hP.bx (b4,[.i .i64 (i:Int)]) (by simp)).1
   have hBr:=hP.rl.ob.bx
   have hLr:=hP.rl.ar.ln
   rw[hP.rl.vl]at hLr
   have hc2:Ce h8 vr.ba (vr.of+q*1) (gt vs q):=hP.rl.ar.cs.eq q 0 (by rw[hP.rl.vl];exact hq) Nat.zero_lt_one
   unfold ci
   refine go ?_
   refine mC (set_spec (p:=i) (hP.rl.rows q hq) (nW_lt hlt) (by omega)) (fun r h9 ⟨e9,hA9,m9⟩=>⟨Lv.nil,?_⟩)
   obtain⟨hR9,p9,hb9⟩:=hP.rl.or hq hA9 m9 (fun c hc=>by rw[one_bit]at hc;have:=of_decide_eq_true hc;omega)
   have hP9:=hP.pr hR9 p9
   refine go ?_
   refine Nx.cut ⟨⟨_,hP9,fun a c ha hc=>?_⟩,Nat.lt_of_lt_of_le hlt8 p9.le,p9.get _ hlt8 (fun hk=>by have:=hP7.le;omega)⟩
   rw[hb9 a c,hb a c ha hc,one_bit]
   have hm:=ci_mem (d:=d) (p:=ci q) rfl a
   unfold ci at hm ⊢
   rw[hm]
   constructor
   ·rintro ((h1 | ⟨h1,h2⟩) | ⟨h1,h2⟩)
    ·exact .inl h1
    ·exact .inr ⟨h1,.inl h2⟩
    ·exact .inr ⟨of_decide_eq_true h2,.inr h1⟩
   ·rintro (h1 | ⟨h1,h2 | h2⟩)
    ·exact .inl (.inl h1)
    ·exact .inl (.inr ⟨h1,h2⟩)
    ·exact .inr ⟨h2,decide_eq_true h1⟩
  ·rintro h8 hlt8 ⟨R2,hP,hb⟩
   have hP8:=hP.put (o:=none) (Nat.le_trans hP7.le (Nat.le_refl _)) hlt8 (fun q hq=>by have:=(hP7.bx q hq).2.2;omega) hlo
   refine go ?_
   refine Nx.inv (i+1,R2) (by simp only;omega) ⟨rfl,rfl,rfl,rfl,rfl,trivial⟩ ⟨by simp only;omega,hP8.drop.drop,fun a c ha hc=>?_⟩
   simp only
   rw[hb a c ha hc,pts_mem hR hlt]
   constructor
   ·rintro (⟨h1,h2⟩ | ⟨rfl,q,h1,h2,h3⟩)
    ·exact⟨by omega,h2⟩
    ·rw[ci_inj h1];exact⟨Nat.lt_succ_self _,h3⟩
   ·rintro⟨h1,h2⟩
    by_cases e:c=i
    ·subst e;exact .inr ⟨rfl,a,rfl,ha,h2⟩
    ·exact .inl ⟨by omega,h2⟩
 ·have hB3:=(hP.bx (b3,[.p b 0]) (by simp)).1
  refine go ?_
  refine ret_1 ⟨⟨R1,hP.rl.at_,fun a c ha hc=>(hbt a c ha hc).trans ⟨fun h=>h.2,fun h=>⟨by omega,h⟩⟩⟩,hP.kp⟩
end Go.Proofs.YtkcdehffcddciaaGreatDoor.Vm
