/- Relations cut and composed. -/
import Derived.Test.YtkcdehffcddciaaGreatDoorQ27
import Derived.Test.YtkcdehffcddciaaGreatDoorQ26
namespace Go.Proofs.YtkcdehffcddciaaGreatDoor.Vm
open Go Go.RowKit
def s117 : Sc:=(.seq (.region [Y 5 (.bx 54 (.t 2)) [2],Y 6 (.mv (.c .np)) []]) (.seq (.region [Y 11 (.mv (.t 0)) [0],
 Y 12 (.nc (.t 11)) [11],Y 13 (.fa (.t 12) 0) [12],Y 14 (.ld (.t 13)) [13],Y 15 (.call 107 [.t 14]) [14],
 Y 7 (.al 111 [.np]) [],⟨none,none,.st (.t 7) (.t 15) 1,[7,15]⟩]) (.seq (.seq (.region [Y 16 (.mv (.t 0)) [0],
 Y 17 (.nc (.t 16)) [16],Y 18 (.fa (.t 17) 1) [17],Y 19 (.ld (.t 18)) [18],Y 20 (.len (.t 19)) [19],
 Y 21 (.mv (.c (.i .i64 0))) []]) (.block 0 (.loop (.seq (.region [Y 22 (.ar .lss (.t 21) (.t 20)) [21,20]])
  (.seq (.cond (.t 22) .skip (.exit 0)) (.seq (.block 1 (.seq (.region [Y 23 (.mv (.t 21)) [21],
 Y 24 (.ia (.t 19) (.t 21) 1) [19,21],Y 25 (.ld (.t 24)) [24],Y 8 (.al 3 [.i .i64 0]) [],⟨none,none,.st (.t 8)
  (.t 23) 1,[8,23]⟩,Y 9 (.mv (.t 25)) [25]]) (.seq (.seq (.region [Y 26 (.ld (.t 8)) [8],
 Y 27 (.mv (.t 1)) [1],Y 28 (.len (.t 27)) [27],Y 29 (.ar .geq (.t 26) (.t 28)) [26,28],
 Y 30 (.mv (.t 29)) [29],Z 30 false 31 (.mv (.t 1)) [1,30],Z 30 false 32 (.ld (.t 8)) [8,30],
 Z 30 false 33 (.ia (.t 31) (.t 32) 1) [31,32,30],Z 30 false 34 (.ld (.t 33)) [33,30],
 Z 30 false 35 (.nt (.t 34)) [34,30],Y 36 (.pk (.t 30) (.c (.b true)) (.t 35)) [30,35]]) (.cond (.t 36)
  (.exit 1) .skip)) (.seq (.region [Y 37 (.mv (.t 9)) [9],Y 38 (.call 184 [.t 37]) [37]])
  (.block 2 (.range (.t 38) [39] (.region [Y 10 (.mv (.t 39)) [39]])
  (.block 3 (.seq (.region [Y 40 (.mv (.t 10)) [10],Y 41 (.ld (.t 5)) [5],Y 42 (.len (.t 41)) [41],
 Y 43 (.ar .lss (.t 40) (.t 42)) [40,42],Y 44 (.mv (.t 43)) [43],Z 44 true 45 (.ld (.t 5)) [5,44],
 Z 44 true 46 (.mv (.t 10)) [10,44],Z 44 true 47 (.ia (.t 45) (.t 46) 1) [45,46,44],
 Z 44 true 48 (.ld (.t 47)) [47,44],Y 49 (.pk (.t 44) (.t 48) (.c (.b false))) [44,48]]) (.cond (.t 49)
  (.mix [(Y 50 (.ld (.t 7)) [7],.q [none]),(Y 51 (.nc (.t 50)) [50],.q [none]),
 (Y 52 (.fa (.t 51) 1) [51],.q [none]),(Y 53 (.ld (.t 52)) [52],.q [none]),(Y 54 (.ld (.t 8)) [8],.q [none]),
 (Y 55 (.ia (.t 53) (.t 54) 1) [53,54],.q [none]),(Y 56 (.ld (.t 55)) [55],.q [none]),
 (Y 57 (.mv (.t 10)) [10],.q [none]),(Y 58 (.call 186 [.t 56,.t 57]) [56,57],.e)]) .skip)))))))))
  (.region [Y 59 (.ar .add (.t 21) (.c (.i .i64 1))) [21],Y 21 (.mv (.t 59)) [59]])))))))
  (.seq (.region [Y 60 (.ld (.t 7)) [7],Y 6 (.mv (.t 60)) [60]]) .ret))))
set_option maxRecDepth 100000 in
theorem c117:fnB Tryz.prog 117=some (61,s117,[.t 6]):=by kernel_rfl
set_option maxHeartbeats 0 in
theorem cut_spec {m:Bool} {h:H} {v v1 v2:V} {n:Nat} {R:List Nat} {l1 l2:List Bool} (hw:Wf h) (hT:TabP h) (hR:RelAt h v n R) (hl1:Ro h v1 1 bcell l1) (hl2:Ro h v2 1 bcell l2) (hb1:l1.length<1000000) (hb2:l2.length<1000000):FX m Tryz.prog 117 [v,v1,v2] h fun r h'=>RelS h' r n (fun a c=>bt R a c=true∧a<l1.length∧gt l1 a=true∧c<l2.length∧gt l2 c=true)∧Kp h h':=by
 obtain⟨bA,vrA,vsA,rfl,hBA,hrA,hvlA,hrowsA⟩:=hR.is
 have hsz:=hR.sz
 have o2:=hl2.ln.one
 have hL1:=hl1.ln
 have hL2:=hl2.ln
 refine Fn.env c117 rfl ?_
 unfold s117
 refine go ?_
 refine ew_bx (hv:=cells_one5 o2) (hz:=allOne_cons o2 rfl) fun b5 hz ob5 kz=>?_
 have hwz:=kz.wf hw
 have hBAz:=hBA.kp kz hw
 refine go ?_
 refine stC (rnew_spec hwz hsz) (fun r h1 ⟨b,vr,vs,e,hN,k1⟩=>?_)
 subst e
 obtain⟨hi,hhi⟩:∃hi,hi=h1.next:=⟨_,rfl⟩
 rw[←hhi]at hN
 refine ew_al fun b3 h2 ob3 k2=>?_
 refine go ?_
 refine ew_st ob3 (vs:=[.p b 0]) (fun h3 ob3' m3=>?_)
 have k3:Kp h1 h3:=m3.kp k2 (fun k e=>by injection e with e;rw[←e];exact ob3.lo)
 have hP:RP hz hi b vr vs n [(b3,[.p b 0])] h3 (List.replicate n 0):=⟨hN.kp k3,k1.trans k3,by rw[hhi];exact k3.le,fun q hq=>by
  rw[List.mem_singleton.1 hq]
  exact⟨ob3'.bx,by rw[hhi];exact ob3.lo,ob3'.hi⟩⟩
 have hBA3:=hBAz.kp (k1.trans k3) hwz
 have hLA:=hrA.ln
 rw[hvlA]at hLA
 clear hBA hBAz
 refine go ?_
 refine Es.loop (X:=Nat × List Nat) (fun x=>n-x.1) (fun x=>[(0,.p bA 0),(1,v1),(5,.p b5 0),(7,.p b3 0),(19,vrA),(20,.i .i64 (n:Int)),(21,.i .i64 (x.1:Int))]) (fun x h'=>x.1≤n∧RP hz hi b vr vs n [(b3,[.p b 0])] h' x.2∧∀a c,a<n→c<n→(bt x.2 a c=true↔a<x.1∧bt R a c=true∧a<l1.length∧gt l1 a=true∧c<l2.length∧gt l2 c=true)) (0,List.replicate n 0) ⟨rfl,rfl,rfl,rfl,rfl,rfl,rfl,trivial⟩ ⟨Nat.zero_le _,hP,fun a c ha _=>(zero_bt ha).trans ⟨False.elim,fun h=>absurd h.1 (Nat.not_lt_zero _)⟩⟩ fun x h4 hx=>?_
 clear hP hBA3 m3 ob3' ob3 hN k2 k3 k1 hhi
 obtain⟨i,R1⟩:=x
 obtain⟨hin,hP,hbt⟩:=hx
 simp only at hin hP hbt
 have kp4:=kz.trans hP.kp
 have hw4:=kp4.wf hw
 have hr4:=hrA.kp kp4 hw
 have hlo:=hP.lt
 refine go ?_
 refine cD (fun hlt=>?_) (fun hge=>?_)
 ·have hlt:i<n:=by omega
  have hc1:Ce h4 vrA.ba (vrA.of+i*1) (gt vsA i):=hr4.cs.eq i 0 (by rw[hvlA];exact hlt) Nat.zero_lt_one
  refine go ?_
  refine ew_al fun b4 h5 ob4 k5=>?_
  refine go ?_
  refine ew_st ob4 (vs:=[.i .i64 (i:Int)]) (fun h6 ob4' m6=>?_)
  have k6:Kp h4 h6:=m6.kp k5 (fun k e=>by injection e with e;rw[←e];exact ob4.lo)
  have hP6:=(hP.step k6).add ob4'.bx (Nat.le_trans hP.le ob4.lo) ob4'.hi
  have hw6:=k6.wf hw4
  have hrow:=(hrowsA i hlt).kp (kz.trans hP6.kp) hw
  have hB4:=ob4'.bx
  have skip:(¬(i<l1.length∧gt l1 i=true))→∀a c,a<n→c<n→(bt R1 a c=true↔a<i+1∧bt R a c=true∧a<l1.length∧gt l1 a=true∧c<l2.length∧gt l2 c=true):=fun hno a c ha hc=>by
   rw[hbt a c ha hc]
   constructor
   ·rintro⟨h1,h2⟩
    exact⟨by omega,h2⟩
   ·rintro⟨h1,h2,h3,h4,h5⟩
    refine⟨?_,h2,h3,h4,h5⟩
    by_cases e:a=i
    ·subst e;exact absurd ⟨h3,h4⟩ hno
    ·omega
  by_cases hg1:i<l1.length
  ·have hc3:Ce h6 v1.ba (v1.of+i*1) (.b (gt l1 i)):=(hl1.kp (kz.trans hP6.kp) hw).cs.eq i 0 hg1 Nat.zero_lt_one
   refine go ?_
   refine cB (fun hg=>?_) (fun hg=>?_)
   ·have hg:gt l1 i=false:=by simpa using hg
    refine go ?_
    exact Nx.inv (i+1,R1) (by simp only;omega) ⟨rfl,rfl,rfl,rfl,rfl,rfl,rfl,trivial⟩ ⟨by simp only;omega,hP6.drop,skip fun h=>by rw[hg]at h;cases h.2⟩
   ·have hg:gt l1 i=true:=by simpa using hg
    refine go ?_
    refine stC (points_spec hw6 hrow) (fun r h7 ⟨bx,e,obx,k7⟩=>?_)
    subst e
    have hP7:=(hP6.step k7).add obx.bx (Nat.le_trans hP6.le obx.lo) obx.hi
    clear hP6 hP hr4 hc1 ob4 ob4' m6 k5 k6 hrow hB4 hc3
    refine go ?_
    refine Es.rangeI (fun d h'=>∃R2,RP hz hi b vr vs n [(bx,[gt vsA i]),(b4,[.i .i64 (i:Int)]),(b3,[.p b 0])] h' R2∧∀a c,a<n→c<n→(bt R2 a c=true↔bt R1 a c=true∨(a=i∧ci c∈d∧c<l2.length∧gt l2 c=true))) rfl (points_it (v:=gt vsA i) (x:=gt R i) (nW_le hsz)) ?_ ?_ ?_ ?_ ?_
    ·rintro d h' ⟨R2,hP,-⟩
     exact⟨(hP.bx (bx,[gt vsA i]) (by simp)).1,(hrowsA i hlt).kp (kz.trans hP.kp) hw,hT.kp (kz.trans hP.kp)⟩
    ·rintro d h' o hlt' ⟨R2,hP,hb⟩
     refine⟨R2,hP.put (Nat.le_trans hP7.le (Nat.le_refl _)) hlt' (fun q hq=>?_) hlo,hb⟩
     have:=(hP7.bx q hq).2.2
     omega
    ·intro o
     exact⟨R1,hP7.step kp_set,fun a c ha hc=>⟨.inl,fun h=>h.elim id fun h=>absurd h.2.1 List.not_mem_nil⟩⟩
    ·rintro d p r h8 hl hlt8 ⟨R2,hP,hb⟩
     obtain⟨q,rfl,hq,hbq⟩:=(pts_mem hR hlt (p:=p)).1 (by rw[hl];simp)
     have hB3:=(hP.bx (b3,[.p b 0]) (by simp)).1
     have hB4:=(hP.bx (b4,[.i .i64 (i:Int)]) (by simp)).1
     have hB5:=ob5.bx.kp hP.kp hwz
     have hBr:=hP.rl.ob.bx
     have hLr:=hP.rl.ar.ln
     rw[hP.rl.vl]at hLr
     have hm:=fun a=>ci_mem (d:=d) (p:=ci q) rfl a
     unfold ci at hm ⊢
     have skip2:¬(q<l2.length∧gt l2 q=true)→∀a c,a<n→c<n→(bt R2 a c=true↔bt R1 a c=true∨(a=i∧.i .i64 (c:Int)∈d++[.i .i64 (q:Int)]∧c<l2.length∧gt l2 c=true)):=fun hno a c ha hc=>by
      rw[hb a c ha hc,hm c]
      constructor
      ·rintro (h1 | ⟨h1,h2,h3⟩)
       ·exact .inl h1
       ·exact .inr ⟨h1,.inl h2,h3⟩
      ·rintro (h1 | ⟨h1,h2 | h2,h3⟩)
       ·exact .inl h1
       ·exact .inr ⟨h1,h2,h3⟩
       ·subst h2;exact absurd h3 hno
     by_cases hg2:q<l2.length
     ·have hc4:Ce h8 v2.ba (v2.of+q*1) (.b (gt l2 q)):=(hl2.kp (kz.trans hP.kp) hw).cs.eq q 0 hg2 Nat.zero_lt_one
      refine go ?_
      refine cB (fun hgq=>?_) (fun hgq=>?_)
      ·have hc2:Ce h8 vr.ba (vr.of+i*1) (gt vs i):=hP.rl.ar.cs.eq i 0 (by rw[hP.rl.vl];exact hlt) Nat.zero_lt_one
       refine go ?_
       refine mC (set_spec (p:=q) (hP.rl.rows i hlt) (nW_lt hq) (by omega)) (fun r h9 ⟨e9,hA9,m9⟩=>⟨Lv.nil,?_⟩)
       obtain⟨hR9,p9,hb9⟩:=hP.rl.or hlt hA9 m9 (fun c hc=>by rw[one_bit]at hc;have:=of_decide_eq_true hc;omega)
       have hP9:=hP.pr hR9 p9
       refine go ?_
       refine Nx.cut ⟨⟨_,hP9,fun a c ha hc=>?_⟩,Nat.lt_of_lt_of_le hlt8 p9.le,p9.get _ hlt8 (fun hk=>by have:=hP7.le;omega)⟩
       rw[hb9 a c,hb a c ha hc,one_bit]
       unfold ci
       rw[hm c]
       constructor
       ·rintro ((h1 | ⟨h1,h2,h3⟩) | ⟨h1,h2⟩)
        ·exact .inl h1
        ·exact .inr ⟨h1,.inl h2,h3⟩
        ·have h2:=of_decide_eq_true h2
         exact .inr ⟨h1,.inr h2,by rw[h2];exact⟨hg2,hgq⟩⟩
       ·rintro (h1 | ⟨h1,h2 | h2,h3⟩)
        ·exact .inl (.inl h1)
        ·exact .inl (.inr ⟨h1,h2,h3⟩)
        ·exact .inr ⟨h1,decide_eq_true h2⟩
      ·skip
       refine go ?_
       exact Nx.cut ⟨⟨R2,hP,skip2 fun h=>by rw[hgq]at h;cases h.2⟩,hlt8,rfl⟩
     ·skip
      refine go ?_
      exact Nx.cut ⟨⟨R2,hP,skip2 fun h=>hg2 h.1⟩,hlt8,rfl⟩
    ·rintro h8 hlt8 ⟨R2,hP,hb⟩
     have hP8:=hP.put (o:=none) (Nat.le_trans hP7.le (Nat.le_refl _)) hlt8 (fun q hq=>by have:=(hP7.bx q hq).2.2;omega) hlo
     refine go ?_
     refine Nx.inv (i+1,R2) (by simp only;omega) ⟨rfl,rfl,rfl,rfl,rfl,rfl,rfl,trivial⟩ ⟨by simp only;omega,hP8.drop.drop,fun a c ha hc=>?_⟩
     simp only
     rw[hb a c ha hc,hbt a c ha hc,pts_mem hR hlt]
     constructor
     ·rintro (⟨h1,h2⟩ | ⟨rfl,⟨q,h1,h2,h3⟩,h4,h5⟩)
      ·exact⟨by omega,h2⟩
      ·rw[←ci_inj h1]at h3;exact⟨Nat.lt_succ_self _,h3,hg1,hg,h4,h5⟩
     ·rintro⟨h1,h2,h3,h4,h5,h6⟩
      by_cases e:a=i
      ·subst e;exact .inr ⟨rfl,⟨c,rfl,hc,h2⟩,h5,h6⟩
      ·exact .inl ⟨by omega,h2,h3,h4,h5,h6⟩
  ·skip
   refine go ?_
   exact Nx.inv (i+1,R1) (by simp only;omega) ⟨rfl,rfl,rfl,rfl,rfl,rfl,rfl,trivial⟩ ⟨by simp only;omega,hP6.drop,skip fun h=>hg1 h.1⟩
 ·have hB3:=(hP.bx (b3,[.p b 0]) (by simp)).1
  refine go ?_
  refine ret_1 ⟨⟨R1,hP.rl.at_,fun a c ha hc=>(hbt a c ha hc).trans ⟨fun h=>h.2,fun h=>⟨by omega,h⟩⟩⟩,kp4⟩
theorem Es.toB {C:Cx} {K:List Fr} {a:Sc} {e:Env} {h:H} {id:Nat} {X:Type} (env:X→Env) (φ:X→H→Prop) (hs:Es C (.blk id :: .cut (fun e h=>∃x,Cov e (env x)∧φ x h) :: K) a e h) (hb:∀x h,φ x h→Nx C K (env x) h):Es C (.blk id :: K) a e h :=
 ⟨fun t ht=>(hs.run t ht).mono fun x t h ⟨e,ht,hk⟩=>by
  have hk:kont C (.cut (fun e h=>∃x,Cov e (env x)∧φ x h) :: K) (catch_ id x) e h:=hk
  have goal:∃e,Tm t e∧kont C K (catch_ id x) e h:=by
   cases hx:catch_ id x with
   | normal =>
    rw[hx]at hk
    exact let ⟨x,hc,hp⟩:=hk;⟨env x,ht.cov hc,(hb x h hp).run⟩
   | exit n=>rw[hx]at hk;exact⟨e,ht,hk⟩
   | ret=>rw[hx]at hk;exact⟨e,ht,hk⟩
  exact goal⟩
structure RC where
 hS:H
 nT:Nat
 nR:Nat
 P:Nat→Prop
 vq:V
 vo:V
 vf:V
 v6:V
 c1:∀k,P k→nT≤k
 c2:¬P vf.ba
 c3:nT≤vf.ba
 c4:v6.ba<nT
structure RS where
 i:Nat
 T:List (List Int)
 Q:List (List Int)
 O:List (List Int)
 F:List Int
 tv:List V
 qs:List V
 os:List V
structure RI (c:RC) (g:Gr) (n:Nat) (h:H) (x:RS):Prop where
 mac:Mac h c.nT c.P c.vq c.vo 27 27 1 3 icell x.Q x.O x.qs x.os
 gp:Gp g n x.T x.Q x.O x.F
 fr:Ar h c.nT c.vf 1 3 icell x.F
 td:Ar h c.nR c.v6 1 27 vcell x.tv
 tl:x.tv.length=n
 rows:∀t,t<n→Ro h (gt x.tv t) 1 icell (gt x.T t)∧(0<(gt x.T t).length→(gt x.tv t).ba<c.nT∧(gt x.tv t).ba≠c.v6.ba)
 pr:Pr (fun k=>c.P k∨k=c.vf.ba∨k=c.v6.ba) c.hS h
 wf:Wf h
section
variable {c:RC} {g:Gr} {n:Nat} {h h1 h2:H} {x:RS} {t:Nat}
theorem RI.flush (hI : RI c g n h x) (ht : t < n) {qs' os' : List V} (hm : Mac h1 c.nT c.P c.vq c.vo 27 27 1 3 icell (flushP g.ev x.Q x.O t).1 (flushP g.ev x.Q x.O t).2 qs' os') (p : Pr c.P h h1) (i : Nat) : RI c g n h1 ⟨i, x.T, (flushP g.ev x.Q x.O t).1, (flushP g.ev x.Q x.O t).2, x.F, x.tv, qs', os'⟩ :=
  { mac := hm
    gp := hI.gp.flush ht
    fr := p.ar hI.fr c.c2
    td := p.ar hI.td fun hp => by have := c.c1 _ hp; have := c.c4; omega
    tl := hI.tl
    rows := fun s hs => ⟨p.ro hI.wf Nat.zero_lt_one (hI.rows s hs).1 fun h0 hp => by have h5 : c.nT ≤ (gt x.tv s).ba := c.c1 _ hp; have h6 : (gt x.tv s).ba < c.nT := ((hI.rows s hs).2 h0).1; omega, (hI.rows s hs).2⟩
    pr := hI.pr.trans (p.sub fun k _ hp => .inl hp)
    wf := p.wf hI.wf }
theorem tlV_ba {v:V} {sz n k:Nat} (hl:Ln v sz n):(tlV v k).ba=v.ba:=by
 rcases hl.is with⟨rfl,_⟩ | ⟨b,o,cap,kn,rfl,_⟩ <;> rfl
theorem RI.step {b : Bool} (hI : RI c g n h x) (hw : WF g b) (ht : t < n) {k : Nat} (hl : (stepP g.ev g.rmw x.Q x.O x.F t (gt x.T t)).l = (gt x.T t).drop k) (hk : k ≤ (gt x.T t).length) {qs' os' : List V}
    (hm : Mac h1 c.nT c.P c.vq c.vo 27 27 1 3 icell (stepP g.ev g.rmw x.Q x.O x.F t (gt x.T t)).Q (stepP g.ev g.rmw x.Q x.O x.F t (gt x.T t)).O qs' os') (hf : Ar h1 c.nT c.vf 1 3 icell (stepP g.ev g.rmw x.Q x.O x.F t (gt x.T t)).F) (p : Pr (fun k => c.P k ∨ k = c.vf.ba) h h1)
    (hA : Ar h2 c.nR c.v6 1 27 vcell (x.tv.set t (tlV (gt x.tv t) k))) (m : Mo h1 h2 (some c.v6.ba)) (i : Nat) :
    RI c g n h2 ⟨i, x.T.set t (stepP g.ev g.rmw x.Q x.O x.F t (gt x.T t)).l, (stepP g.ev g.rmw x.Q x.O x.F t (gt x.T t)).Q, (stepP g.ev g.rmw x.Q x.O x.F t (gt x.T t)).O, (stepP g.ev g.rmw x.Q x.O x.F t (gt x.T t)).F, x.tv.set t (tlV (gt x.tv t) k), qs', os'⟩ := by
  have c1 := c.c1
  have c3 := c.c3
  have c4 := c.c4
  have p2 : Pr (fun k => c.P k ∨ k = c.vf.ba ∨ k = c.v6.ba) h h2 := (p.sub fun k _ hp => by rcases hp with h | h; exact .inl h; exact .inr (.inl h)).trans (Pr.of_mo m fun k hk => by injection hk with hk; exact .inr (.inr hk.symm))
  have htl : t < x.T.length := by rw [hI.gp.tl]; exact ht
  have hnp : ∀ k, k < c.nT → k ≠ c.v6.ba → ¬ (c.P k ∨ k = c.vf.ba ∨ k = c.v6.ba) := fun k h1 h2 h3 => by
    rcases h3 with h3 | h3 | h3
    · have := c1 k h3; omega
    · omega
    · exact h2 h3
  exact
  { mac := hm.mo m fun k hk hp => by injection hk with hk; subst hk; have := c1 _ hp; omega
    gp := hI.gp.step hw ht
    fr := hf.mo m fun e => by injection e with e; omega
    td := hA
    tl := by
      show (x.tv.set t _).length = n
      rw [List.length_set]; exact hI.tl
    rows := fun s hs => by
      show Ro h2 (gt (x.tv.set t _) s) 1 icell (gt (x.T.set t _) s) ∧ (0 < (gt (x.T.set t _) s).length → (gt (x.tv.set t _) s).ba < c.nT ∧ (gt (x.tv.set t _) s).ba ≠ c.v6.ba)
      rw [gt_set (by rw [hI.tl]; exact ht), gt_set htl]
      obtain ⟨hr1, hr2⟩ := hI.rows s hs
      by_cases e : s = t
      · subst e
        rw [if_pos rfl, if_pos rfl, hl, tlV_ba hr1.ln]
        have h3 := p2.ro hI.wf Nat.zero_lt_one hr1 fun h0 => hnp _ (hr2 h0).1 (hr2 h0).2
        exact ⟨h3.tl hk, fun h0 => hr2 (by rw [List.length_drop] at h0; omega)⟩
      · rw [if_neg e, if_neg e]
        exact ⟨p2.ro hI.wf Nat.zero_lt_one hr1 fun h0 => hnp _ (hr2 h0).1 (hr2 h0).2, hr2⟩
    pr := hI.pr.trans p2
    wf := p2.wf hI.wf }
theorem RI.at_ {i j:Nat} {T Q O:List (List Int)} {F:List Int} {tv qs os:List V} (hI:RI c g n h ⟨i,T,Q,O,F,tv,qs,os⟩):RI c g n h ⟨j,T,Q,O,F,tv,qs,os⟩ :=
 { mac:=hI.mac,gp:=hI.gp,fr:=hI.fr,td:=hI.td,tl:=hI.tl,rows:=hI.rows,pr:=hI.pr,wf:=hI.wf }
end
theorem step_less2 {ev:List Ev_} {rmw:List (Int × Int)} {T Q O:List (List Int)} {F:List Int} {t:Nat} (hq:t<Q.length) (hd:(stepP ev rmw Q O F t (gt T t)).done=true):2*(stepP ev rmw Q O F t (gt T t)).l.length+(gt (stepP ev rmw Q O F t (gt T t)).Q t).length<2*(gt T t).length+(gt Q t).length:=by
 cases hx:gt T t with
 | nil=>rw[hx]at hd;cases hd
 | cons x r =>
  rw[hx]at hd
  rw[stepP_cons]at hd ⊢
  by_cases h:waits ev rmw x∧gt Q t≠[]
  ·rw[if_pos h]at hd;cases hd
  ·rw[if_neg h]
   simp only
   have h1:(if 0≤secV x rmw then r.drop 1 else r).length≤r.length:=by
    split
    ·rw[List.length_drop];omega
    ·exact Nat.le_refl _
   have h2:(gt (if 0≤secV x rmw∨(gt ev x.toNat).kind≠2 then Q else Q.set t (gt Q t++[x])) t).length≤(gt Q t).length+1:=by
    split
    ·omega
    ·rw[gt_set hq,if_pos rfl];simp
   rw[List.length_cons]
   omega
theorem Gw.blk_some {α:Type} [Inhabited α] {h:H} {n0 sz:Nat} {v:V} {ty:TypeId} {c:α→Nat→V} {l:List α} (hg:Gw h n0 v sz ty c l) (h0:0<l.length):v.blk=some v.ba:=by
 rcases hg.own with⟨_,rfl⟩ | ⟨b,o,rfl,_⟩
 ·exact absurd h0 (Nat.lt_irrefl _)
 ·rfl
def s110 : Sc:=(.seq (.region [Y 3 (.bx 111 (.t 1)) [1],Y 4 (.mv (.c .np)) []])
  (.seq (.mix [(Y 9 (.mv (.t 0)) [0],.q [none]),(Y 10 (.nc (.t 9)) [9],.q [none]),
 (Y 11 (.fa (.t 10) 0) [10],.q [none]),(Y 12 (.ld (.t 11)) [11],.q [none]),(Y 13 (.ld (.t 3)) [3],.q [none]),
 (Y 14 (.nc (.t 13)) [13],.q [none]),(Y 15 (.fa (.t 14) 0) [14],.q [none]),
 (Y 16 (.ld (.t 15)) [15],.q [none]),(Y 17 (.mx (.t 12) [.t 16]) [12,16],.q [none]),
 (Y 18 (.call 107 [.t 17]) [17],.e),(Y 5 (.al 111 [.np]) [],.soft),(⟨none,none,.st (.t 5) (.t 18) 1,[5,18]⟩,
 .e)]) (.seq (.seq (.region [Y 19 (.mv (.t 0)) [0],Y 20 (.nc (.t 19)) [19],Y 21 (.fa (.t 20) 1) [20],
 Y 22 (.ld (.t 21)) [21],Y 23 (.len (.t 22)) [22],Y 24 (.mv (.c (.i .i64 0))) []])
  (.block 0 (.loop (.seq (.region [Y 25 (.ar .lss (.t 24) (.t 23)) [24,23]])
  (.seq (.cond (.t 25) .skip (.exit 0)) (.seq (.block 1 (.seq (.region [Y 26 (.mv (.t 24)) [24],
 Y 27 (.ia (.t 22) (.t 24) 1) [22,24],Y 28 (.ld (.t 27)) [27],Y 6 (.al 3 [.i .i64 0]) [],⟨none,none,.st (.t 6)
  (.t 26) 1,[6,26]⟩,Y 7 (.mv (.t 28)) [28]]) (.seq (.region [Y 29 (.mv (.t 7)) [7],
 Y 30 (.call 184 [.t 29]) [29]]) (.block 2 (.range (.t 30) [31] (.region [Y 8 (.mv (.t 31)) [31]])
  (.block 3 (.seq (.region [Y 32 (.mv (.t 8)) [8],Y 33 (.ld (.t 3)) [3],Y 34 (.nc (.t 33)) [33],
 Y 35 (.fa (.t 34) 0) [34],Y 36 (.ld (.t 35)) [35],Y 37 (.ar .lss (.t 32) (.t 36)) [32,36]]) (.cond (.t 37)
  (.mix [(Y 38 (.ld (.t 5)) [5],.q [none,some 14]),(Y 39 (.nc (.t 38)) [38],.q [none,some 14]),
 (Y 40 (.fa (.t 39) 1) [39],.q [none,some 14]),(Y 41 (.ld (.t 40)) [40],.q [none,some 14]),
 (Y 42 (.ld (.t 6)) [6],.q [none,some 14]),(Y 43 (.ia (.t 41) (.t 42) 1) [41,42],.q [none,some 14]),
 (Y 44 (.ld (.t 43)) [43],.q [none,some 14]),(Y 45 (.ld (.t 3)) [3],.q [none]),
 (Y 46 (.nc (.t 45)) [45],.q [none]),(Y 47 (.fa (.t 46) 1) [46],.q [none]),
 (Y 48 (.ld (.t 47)) [47],.q [none]),(Y 49 (.mv (.t 8)) [8],.q [none]),(Y 50 (.ia (.t 48)
  (.t 49) 1) [48,49],.q [none]),(Y 51 (.ld (.t 50)) [50],.q [none]),
 (Y 52 (.bs 296 1 1 [.ns] [(0,1,.t 51)]) [51],.e),(Y 53 (.call 185 [.t 44,.t 52]) [44,52],.e)]) .skip))))))))
  (.region [Y 54 (.ar .add (.t 24) (.c (.i .i64 1))) [24],Y 24 (.mv (.t 54)) [54]])))))))
  (.seq (.region [Y 55 (.ld (.t 5)) [5],Y 4 (.mv (.t 55)) [55]]) .ret))))
set_option maxRecDepth 100000 in
theorem c110:fnB Tryz.prog 110=some (56,s110,[.t 4]):=by kernel_rfl
theorem Rl.low_ {h:H} {lo lo' hi b n:Nat} {vr:V} {vs:List V} {R:List Nat} (hr:Rl h lo hi b vr vs n R) (hl:lo'≤lo):Rl h lo' hi b vr vs n R:=⟨hr.ob.low hl,hr.ar.low hl,hr.vl,hr.rl,fun a ha=>(hr.rows a ha).low hl,hr.dis,hr.up,hr.fit,hr.sz⟩
set_option maxHeartbeats 0 in
theorem comp_rl {m:Bool} {h:H} {v w:V} {n:Nat} {R RB:List Nat} (hw:Wf h) (hT:TabP h) (hR:RelAt h v n R) (hQ:RelAt h w n RB):FX m Tryz.prog 110 [v,w] h fun r h'=>∃b vr vs R',r=.p b 0∧Rl h' h.next h'.next b vr vs n R'∧Kp h h'∧∀a c,a<n→c<n→(bt R' a c=true↔∃q,q<n∧bt R a q=true∧bt RB q c=true):=by
 obtain⟨bA,vrA,vsA,rfl,hBA,hrA,hvlA,hrowsA⟩:=hR.is
 obtain⟨bQ,vrQ,vsQ,rfl,hBQ,hrQ,hvlQ,hrowsQ⟩:=hQ.is
 have hsz:=hR.sz
 have e0:max (n:Int) (n:Int)=n:=by omega
 refine Fn.env c110 rfl ?_
 unfold s110
 refine go ?_
 refine ew_bx fun b5 hz ob5 kz=>?_
 have hwz:=kz.wf hw
 have hBAz:=hBA.kp kz hw
 have hBQz:=hBQ.kp kz hw
 have hB5z:=ob5.bx
 refine go ?_
 rw[e0]
 refine mC (rnew_spec hwz hsz) (fun r h1 ⟨b,vr,vs,e,hN,k1⟩=>⟨Lv.nil,?_⟩)
 subst e
 obtain⟨hi,hhi⟩:∃hi,hi=h1.next:=⟨_,rfl⟩
 rw[←hhi]at hN
 refine em_al fun b3 h2 ob3 k2=>?_
 refine go ?_
 refine em_st ob3 (vs:=[.p b 0]) (fun h3 ob3' m3=>?_)
 have k3:Kp h1 h3:=m3.kp k2 (fun k e=>by injection e with e;rw[←e];exact ob3.lo)
 have hP:RP hz hi b vr vs n [(b3,[.p b 0])] h3 (List.replicate n 0):=⟨hN.kp k3,k1.trans k3,by rw[hhi];exact k3.le,fun q hq=>by
  rw[List.mem_singleton.1 hq]
  exact⟨ob3'.bx,by rw[hhi];exact ob3.lo,ob3'.hi⟩⟩
 have hBA3:=hBAz.kp (k1.trans k3) hwz
 have hLA:=hrA.ln
 rw[hvlA]at hLA
 have hLQ:=hrQ.ln
 rw[hvlQ]at hLQ
 clear hBA hBAz hBQz hB5z
 refine go ?_
 refine Es.loop (X:=Nat × List Nat) (fun x=>n-x.1) (fun x=>[(0,.p bA 0),(3,.p b5 0),(5,.p b3 0),(22,vrA),(23,.i .i64 (n:Int)),(24,.i .i64 (x.1:Int))]) (fun x h'=>x.1≤n∧RP hz hi b vr vs n [(b3,[.p b 0])] h' x.2∧∀a c,a<n→c<n→(bt x.2 a c=true↔a<x.1∧∃q,q<n∧bt R a q=true∧bt RB q c=true)) (0,List.replicate n 0) ⟨rfl,rfl,rfl,rfl,rfl,rfl,trivial⟩ ⟨Nat.zero_le _,hP,fun a c ha _=>(zero_bt ha).trans ⟨False.elim,fun h=>absurd h.1 (Nat.not_lt_zero _)⟩⟩ fun x h4 hx=>?_
 clear hP hBA3 m3 ob3' ob3 hN k2 k3 k1 hhi
 obtain⟨i,R1⟩:=x
 obtain⟨hin,hP,hbt⟩:=hx
 simp only at hin hP hbt
 have kp4:=kz.trans hP.kp
 have hw4:=kp4.wf hw
 have hr4:=hrA.kp kp4 hw
 have hlo:=hP.lt
 refine go ?_
 refine cD (fun hlt=>?_) (fun hge=>?_)
 ·have hlt:i<n:=by omega
  have hc1:Ce h4 vrA.ba (vrA.of+i*1) (gt vsA i):=hr4.cs.eq i 0 (by rw[hvlA];exact hlt) Nat.zero_lt_one
  refine go ?_
  refine ew_al fun b4 h5 ob4 k5=>?_
  refine go ?_
  refine ew_st ob4 (vs:=[.i .i64 (i:Int)]) (fun h6 ob4' m6=>?_)
  have k6:Kp h4 h6:=m6.kp k5 (fun k e=>by injection e with e;rw[←e];exact ob4.lo)
  have hP6:=(hP.step k6).add ob4'.bx (Nat.le_trans hP.le ob4.lo) ob4'.hi
  have hw6:=k6.wf hw4
  have hrow:=(hrowsA i hlt).kp (kz.trans hP6.kp) hw
  refine go ?_
  refine stC (points_spec hw6 hrow) (fun r h7 ⟨bx,e,obx,k7⟩=>?_)
  subst e
  have hP7:=(hP6.step k7).add obx.bx (Nat.le_trans hP6.le obx.lo) obx.hi
  clear hP6 hP hr4 hc1 ob4 ob4' m6 k5 k6 hrow
  refine go ?_
  refine Es.rangeI (fun d h'=>∃R2,RP hz hi b vr vs n [(bx,[gt vsA i]),(b4,[.i .i64 (i:Int)]),(b3,[.p b 0])] h' R2∧∀a c,a<n→c<n→(bt R2 a c=true↔bt R1 a c=true∨(a=i∧∃q,q<n∧ci q∈d∧bt RB q c=true))) rfl (points_it (v:=gt vsA i) (x:=gt R i) (nW_le hsz)) ?_ ?_ ?_ ?_ ?_
  ·rintro d h' ⟨R2,hP,-⟩
   exact⟨(hP.bx (bx,[gt vsA i]) (by simp)).1,(hrowsA i hlt).kp (kz.trans hP.kp) hw,hT.kp (kz.trans hP.kp)⟩
  ·rintro d h' o hlt' ⟨R2,hP,hb⟩
   refine⟨R2,hP.put (Nat.le_trans hP7.le (Nat.le_refl _)) hlt' (fun q hq=>?_) hlo,hb⟩
   have:=(hP7.bx q hq).2.2
   omega
  ·intro o
   exact⟨R1,hP7.step kp_set,fun a c ha hc=>⟨.inl,fun h=>h.elim id fun ⟨_,q,_,h,_⟩=>absurd h List.not_mem_nil⟩⟩
  ·rintro d p r h8 hl hlt8 ⟨R2,hP,hb⟩
   obtain⟨q,rfl,hq,hbq⟩:=(pts_mem hR hlt (p:=p)).1 (by rw[hl];simp)
   have k8:=kz.trans hP.kp
   have hw8:=k8.wf hw
   have hB3:=(hP.bx (b3,[.p b 0]) (by simp)).1
   have hB4:=(hP.bx (b4,[.i .i64 (i:Int)]) (by simp)).1
   have hB5:=ob5.bx.kp hP.kp hwz
   have hBQ8:=hBQ.kp k8 hw
   have hrQ8:=hrQ.kp k8 hw
   have hBr:=hP.rl.ob.bx
   have hLr:=hP.rl.ar.ln
   rw[hP.rl.vl]at hLr
   have hc2:Ce h8 vr.ba (vr.of+i*1) (gt vs i):=hP.rl.ar.cs.eq i 0 (by rw[hP.rl.vl];exact hlt) Nat.zero_lt_one
   have hc3:Ce h8 vrQ.ba (vrQ.of+q*1) (gt vsQ q):=hrQ8.cs.eq q 0 (by rw[hvlQ];exact hq) Nat.zero_lt_one
   have hrow:=(hrowsQ q hq).kp k8 hw
   have hm:=fun a=>ci_mem (d:=d) (p:=ci q) rfl a
   unfold ci at hm ⊢
   refine gol ?_
   refine em_one hrow.ln.one (fun h9 k9=>?_) (fun vl h9 hA9 k9=>?_)
   ·repeat first | exact Lv.nil | refine Lv.cons (fun _=>FCe.of (Ce.kp k9 hw8 (by first | assumption | exact ce_b (by assumption) rfl))) ?_
   have hRl9:=hP.rl.kp k9
   have hrow9:=hrow.kp k9 hw8
   have hblk:(gt vs i).ba<h8.next:=(hP.rl.rows i hlt).blk.2.2
   have hdis:(gt vsQ q).ba≠(gt vs i).ba:=fun e=>by
    have h5:=(hRl9.rows i hlt).blk.2.1
    have h6:0<(wds (gt RB q) (nW n)).length:=by rw[wds_len];unfold nW;omega
    have h7:=((hrowsQ q hq).cs.eq 0 0 h6 Nat.zero_lt_one).lt hw
    have:=kz.le
    omega
   have hne:vl.ba≠(gt vs i).ba:=fun e=>by have:=hA9.blk.2.1;omega
   have hj:=join_spec (m:=true) (k9.wf hw8) (hRl9.rows i hlt) hA9.ro hne hrow9 (nW_le hsz) (.inl hdis)
   refine mC hj (fun r h10 ⟨e4,hA10,m10⟩=>⟨?_,?_⟩)
   ·repeat first | exact Lv.nil | refine Lv.cons (fun hk=>absurd hk (by decide)) ?_
   obtain⟨hR10,p10,hb10⟩:=hRl9.or hlt hA10 m10 (fun c hc=>hQ.fit q hq c hc)
   have hP10:=(hP.step k9).pr hR10 p10
   refine go ?_
   refine Nx.cut ⟨⟨_,hP10,fun a c ha hc=>?_⟩,by have:=k9.le;have:=p10.le;omega,?_⟩
   ·rw[hb10 a c,hb a c ha hc]
    unfold ci
    constructor
    ·rintro ((h1 | ⟨h1,q',h2,h3,h4⟩) | ⟨h1,h2⟩)
     ·exact .inl h1
     ·exact .inr ⟨h1,q',h2,(hm q').2 (.inl h3),h4⟩
     ·exact .inr ⟨h1,q,hq,(hm q).2 (.inr rfl),h2⟩
    ·rintro (h1 | ⟨h1,q',h2,h3,h4⟩)
     ·exact .inl (.inl h1)
     ·rcases (hm q').1 h3 with h3 | h3
      ·exact .inl (.inr ⟨h1,q',h2,h3,h4⟩)
      ·subst h3;exact .inr ⟨h1,h4⟩
   ·rw[p10.get _ (by have:=k9.le;omega) (fun hk=>by have:=hP7.le;omega)]
    exact k9.old.get _ hlt8
  ·rintro h8 hlt8 ⟨R2,hP,hb⟩
   have hP8:=hP.put (o:=none) (Nat.le_trans hP7.le (Nat.le_refl _)) hlt8 (fun q hq=>by have:=(hP7.bx q hq).2.2;omega) hlo
   refine go ?_
   refine Nx.inv (i+1,R2) (by simp only;omega) ⟨rfl,rfl,rfl,rfl,rfl,rfl,trivial⟩ ⟨by simp only;omega,hP8.drop.drop,fun a c ha hc=>?_⟩
   simp only
   rw[hb a c ha hc,hbt a c ha hc]
   constructor
   ·rintro (⟨h1,h2⟩ | ⟨rfl,q,h1,h2,h3⟩)
    ·exact⟨by omega,h2⟩
    ·obtain⟨q',h4,h5,h6⟩:=(pts_mem hR hlt).1 h2
     rw[←ci_inj h4]at h6
     exact⟨Nat.lt_succ_self _,q,h1,h6,h3⟩
   ·rintro⟨h1,q,h2,h3,h4⟩
    by_cases e:a=i
    ·subst e;exact .inr ⟨rfl,q,h2,(pts_mem hR hlt).2 ⟨q,rfl,h2,h3⟩,h4⟩
    ·exact .inl ⟨by omega,q,h2,h3,h4⟩
 ·have hB3:=(hP.bx (b3,[.p b 0]) (by simp)).1
  refine go ?_
  refine ret_1 ⟨b,vr,vs,R1,rfl,(hP.rl.low_ kz.le).up_ hP.le,kp4,fun a c ha hc=>(hbt a c ha hc).trans ⟨fun h=>h.2,fun h=>⟨by omega,h⟩⟩⟩
theorem comp_spec {m:Bool} {h:H} {v w:V} {n:Nat} {R RB:List Nat} (hw:Wf h) (hT:TabP h) (hR:RelAt h v n R) (hQ:RelAt h w n RB):FX m Tryz.prog 110 [v,w] h fun r h'=>RelS h' r n (fun a c=>∃q,q<n∧bt R a q=true∧bt RB q c=true)∧Kp h h' :=
 FX.mono (comp_rl hw hT hR hQ) fun r h' ⟨b,vr,vs,R',e,hR',k,hb⟩=>⟨⟨R',by rw[e];exact hR'.at_,hb⟩,k⟩
def s226 : Sc:=(.seq (.region [Y 1 (.bx 27 (.t 0)) [0],Y 2 (.mv (.c .nf)) []])
  (.seq (.region [Y 3 (.mf (.func 273) [] [.t 1]) [1],Y 2 (.mv (.t 3)) [3]]) .ret))
set_option maxRecDepth 100000 in
theorem c226:fnB Tryz.prog 226=some (4,s226,[.t 2]):=by kernel_rfl
def s227 : Sc:=(.seq (.region [Y 2 (.mv (.c .ns)) []]) (.seq (.region [Y 3 (.mv (.t 0)) [0],
 Y 4 (.call 274 [(.c .ns),.t 3]) [3],Y 2 (.mv (.t 4)) [4]]) .ret))
set_option maxRecDepth 100000 in
theorem c227:fnB Tryz.prog 227=some (5,s227,[.t 2]):=by kernel_rfl
def s273 : Sc:=(.seq (.region [Y 5 (.ld (.t 1)) [1],Y 6 (.len (.t 5)) [5],Y 7 (.mv (.c (.i .i64 0))) []])
  (.block 0 (.loop (.seq (.region [Y 8 (.ar .lss (.t 7) (.t 6)) [7,6]]) (.seq (.cond (.t 8) .skip (.exit 0))
  (.seq (.block 1 (.seq (.region [Y 9 (.ia (.t 5) (.t 7) 1) [5,7],Y 10 (.ld (.t 9)) [9],
 Y 4 (.mv (.t 10)) [10]]) (.seq (.region [Y 11 (.mv (.t 0)) [0],Y 12 (.mv (.t 4)) [4],
 Y 13 (.callv (.t 11) [.t 12]) [11,12],Y 14 (.nt (.t 13)) [13]]) (.cond (.t 14) .ret .skip))))
  (.region [Y 15 (.ar .add (.t 7) (.c (.i .i64 1))) [7],Y 7 (.mv (.t 15)) [15]])))))))
set_option maxRecDepth 100000 in
theorem c273:fnB Tryz.prog 273=some (16,s273,[]):=by kernel_rfl
def s274 : Sc:=(.seq (.region [Y 2 (.bx 27 (.t 0)) [0],Y 4 (.mv (.c .ns)) []]) (.seq (.seq (.region [Y 6 (.mv (.t 1)) [1]])
  (.block 0 (.range (.t 6) [7] (.region [Y 5 (.mv (.t 7)) [7]]) (.block 1 (.region [Y 8 (.ld (.t 2)) [2],
 Y 9 (.mv (.t 5)) [5],Y 10 (.bs 3 1 1 [.i .i64 0] [(0,1,.t 9)]) [9],Y 11 (.ap 3 1 8 (.t 8) (.t 10)) [8,10],
 ⟨none,none,.st (.t 2) (.t 11) 1,[2,11]⟩]))))) (.seq (.region [Y 12 (.ld (.t 2)) [2],
 Y 4 (.mv (.t 12)) [12]]) .ret)))
set_option maxRecDepth 100000 in
theorem c274:fnB Tryz.prog 274=some (13,s274,[.t 4]):=by kernel_rfl
theorem lowb_le:∀{f w i:Nat},w.testBit i=true→lowb f w≤i
 | 0,_,_,_=>Nat.zero_le _
 | f+1,w,i,h=>by
  unfold lowb
  split
  ·exact Nat.zero_le _
  ·rename_i e
   cases i with
   | zero =>
    rw[Nat.testBit_zero]at h
    exact absurd (of_decide_eq_true h) e
   | succ i =>
    rw[Nat.testBit_succ]at h
    exact Nat.succ_le_succ (lowb_le h)
theorem bitsOf_len:∀(m k w:Nat),64-k≤m→w<18446744073709551616→(∀i,w.testBit i=true→k≤i)→(bitsOf w).length≤64-k
 | m,k,0,_,_,_=>by rw[bitsOf_0];exact Nat.zero_le _
 | 0,k,w+1,hm,hw,hk=>by
  have h1:=low_at 64 (w+1) (by omega) hw
  have:=hk _ h1.2.1
  omega
 | m+1,k,w+1,hm,hw,hk=>by
  have h1:=low_at 64 (w+1) (by omega) hw
  have h2:=hk _ h1.2.1
  rw[bitsOf_s (Nat.succ_ne_zero w),List.length_cons]
  have h3:=bitsOf_len m (low (w+1)+1) ((w+1) &&& (w+1-1)) (by unfold low;omega) (Nat.lt_of_le_of_lt Nat.and_le_left hw) (fun i hi=>by
   have h4:=(and_pred (by omega) hw).1 hi
   have h5:=lowb_le (f:=64) h4.1
   have h6:=h4.2
   unfold low at h6 ⊢
   omega)
  have h7:=h1.1
  unfold low at h3
  have h8:(bitsOf ((w+1) &&& (w+1-1))).length≤64-(lowb 64 (w+1)+1):=h3
  show(bitsOf ((w+1) &&& (w+1-1))).length+1≤64-k
  omega
theorem ptsF_len {x:Nat}:∀{k i:Nat},(ptsF x k i).length≤64*k
 | 0,_=>Nat.zero_le _
 | k+1,i=>by
  unfold ptsF
  rw[List.length_append,List.length_map]
  have h1:=bitsOf_len 64 0 (wd x i) (by omega) (wd_lt _ _) (fun _ _=>Nat.zero_le _)
  have h2:=ptsF_len (x:=x) (k:=k) (i:=i+1)
  omega
def iv (q:Int):V:=.i .i64 q
set_option maxHeartbeats 0 in
theorem values_it {m:Bool} {bx:Nat} {v:V} {qs:List Int} (hn:qs.length<4611686018427387904):Iter m 273 [.p bx 0] (qs.map iv) fun h=>Bx h bx [v]∧Ro h v 1 icell qs:=⟨fun b h J h0 hJ hy=>by
 obtain⟨hB,hr⟩:=hJ _ _ h0
 have hL:=hr.ln
 refine Fn.env c273 rfl ?_
 unfold s273
 refine go ?_
 refine Es.loop (X:=Nat) (fun x=>qs.length-x) (fun x=>[(0,.y b),(1,.p bx 0),(5,v),(6,.i .i64 (qs.length:Int)),(7,.i .i64 (x:Int))]) (fun x h'=>x≤qs.length∧J ((qs.take x).map iv) h') 0 ⟨rfl,rfl,rfl,rfl,rfl,trivial⟩ ⟨Nat.zero_le _,h0⟩ fun i h1 hX=>?_
 obtain⟨hi,hj⟩:=hX
 clear hB hr
 obtain⟨hB,hr⟩:=hJ _ _ hj
 have hC:=hr.cs
 refine go ?_
 refine cD (fun hlt=>?_) (fun hge=>?_)
 ·have hlt:i<qs.length:=by omega
  have hl:qs.map iv=(qs.take i).map iv++iv (gt qs i) :: (qs.drop (i+1)).map iv:=by
   rw[←List.map_cons,←List.map_append]
   congr 1
   rw[gt_lt hlt,←List.drop_eq_getElem_cons hlt,List.take_append_drop]
  have e1:(qs.take i).map iv++[iv (gt qs i)]=(qs.take (i+1)).map iv:=by
   rw[take_gt hlt,List.map_append];rfl
  have hy':=hy _ _ _ _ hl hj
  rw[e1]at hy'
  refine go ?_
  refine ew_y .n rfl rfl hy' fun r h4 ⟨e1,hj4⟩=>?_
  subst e1
  refine go ?_
  exact Nx.inv (i+1) (by omega) ⟨rfl,rfl,rfl,rfl,rfl,trivial⟩ ⟨by omega,hj4⟩
 ·have e:i=qs.length:=by omega
  subst e
  rw[List.take_length]at hj
  refine go ?_
  first | exact ret_0 (R:=fun _ h=>J (qs.map iv) h) hj | exact end_0 (R:=fun _ h=>J (qs.map iv) h) hj⟩
set_option maxHeartbeats 0 in
theorem values_spec {m:Bool} {h:H} {v:V} (_hw:Wf h) (o1:v.one=true):FX m Tryz.prog 226 [v] h fun r h'=>∃bx,r=.fn (.func 273) [] [.p bx 0]∧Ob h' h.next bx 27 [v]∧Kp h h':=by
 refine Fn.env c226 rfl ?_
 unfold s226
 refine go ?_
 refine ew_bx (hv:=cells_one5 o1) (hz:=allOne_cons o1 rfl) fun bx h1 ob k1=>?_
 refine go ?_
 exact ret_1 ⟨bx,rfl,ob,k1⟩
set_option maxHeartbeats 0 in
theorem appseq_spec {m:Bool} {h:H} {g:FuncId} {cap:List V} {qs:List Int} {I:H→Prop} (_hw:Wf h) (it:Iter m g cap (qs.map iv) I) (hI:∀h',Kp h h'→I h') (hb:qs.length≤100000):FX m Tryz.prog 274 [.ns,.fn (.func g) [] cap] h fun r h'=>Gw h' h.next r 1 3 icell qs∧Kp h h':=by
 refine Fn.env c274 rfl ?_
 unfold s274
 refine go ?_
 refine ew_bx fun b2 h1 ob k1=>?_
 refine go ?_
 refine Es.rangeI (fun d h'=>∃vv ds,d=ds.map iv∧Ob h' h.next b2 27 [vv]∧Gw h' (h1.next+1) vv 1 3 icell ds∧Kp h h') rfl it ?_ ?_ ?_ ?_ ?_
 ·rintro d h' ⟨vv,ds,-,-,-,k⟩
  exact hI h' k
 ·rintro d h' o hlt ⟨vv,ds,e,hO,hG,k⟩
  have mp:=mo_put (o:=some o) hlt
  exact⟨vv,ds,e,hO.mo mp (fun e=>by injection e with e;have:=ob.hi;omega),hG.mo mp (fun j hj e=>by injection e with e;have:=(hG.blk j hj).1;omega),mp.kp k fun j e=>by injection e with e;have:=k1.le;omega⟩
 ·intro o
  exact⟨.ns,[],rfl,ob.mo (Mo.of_kp kp_set none) (fun e=>by cases e),.nil,k1.trans kp_set⟩
 ·rintro d p r h2 hl hlt ⟨vv,ds,e,hO,hG,k⟩
  have hB:=hO.bx
  have hx:∃q,p=iv q∧ds.length<qs.length:=by
   have h5:(qs.map iv).length=d.length+(r.length+1):=by rw[hl,List.length_append,List.length_cons]
   rw[List.length_map,e,List.length_map]at h5
   have hp:p∈qs.map iv:=by rw[hl];simp
   obtain⟨q,_,h6⟩:=List.mem_map.1 hp
   exact⟨q,h6.symm,by omega⟩
  obtain⟨q,rfl,hdl⟩:=hx
  have hLv:=hG.ln
  unfold iv
  refine go ?_
  refine ew_app (x:=q) (rows:=ds) hG rfl rfl rfl rfl rfl (by decide) (by omega) (by omega) fun v' h3 hG3 m3=>?_
  have hO3:=hO.mo m3 (fun e=>by have:=(hG.blk b2 e).1;have:=ob.hi;omega)
  have o3:=hG3.ln.one
  refine go ?_
  refine ew_st hO3 (vs:=[v']) (fun h4 hO4 m4=>?_) (hv:=cells_one5 o3) (h1:=allOne_cons o3 rfl)
  have hne:∀j,v'.blk=some j→some b2≠some j:=fun j hj e=>by injection e with e;have:=(hG3.blk j hj).1;have:=ob.hi;omega
  have hG4:=hG3.mo m4 hne
  have k3:=m3.kp k fun j hj=>by have:=(hG.blk j hj).1;have:=k1.le;omega
  have k4:=m4.kp k3 fun j e=>by injection e with e;rw[←e];exact ob.lo
  refine go ?_
  refine Nx.cut ⟨⟨v',ds++[q],by rw[e,List.map_append];rfl,hO4,hG4,k4⟩,by have:=m3.le;have:=m4.le;omega,?_⟩
  rw[m4.get _ (by have:=m3.le;omega) (fun e=>by injection e with e;have:=ob.hi;omega)]
  exact m3.get _ hlt (fun e=>by have:=(hG.blk _ e).1;omega)
 ·rintro h2 hlt ⟨vv,ds,e,hO,hG,k⟩
  have e2:qs=ds:=by
   have hinj:∀a b:List Int,a.map iv=b.map iv→a=b:=fun a=>by
    induction a with
    | nil=>intro b h;cases b with
     | nil=>rfl
     | cons y b=>cases h
    | cons x a ih=>intro b h;cases b with
     | nil=>cases h
     | cons y b =>
      rw[List.map_cons,List.map_cons]at h
      injection h with h3 h4
      unfold iv at h3
      injection h3 with _ h3
      rw[h3,ih b h4]
   exact hinj _ _ e
  subst e2
  have mp:=mo_put (o:=none) hlt
  have hO2:=hO.mo mp (fun e=>by injection e with e;have:=ob.hi;omega)
  have hG2:=(hG.mo mp (fun j hj e=>by injection e with e;have:=(hG.blk j hj).1;omega)).low (n1:=h.next) (by have:=k1.le;omega)
  have k2:Kp h _:=mp.kp k fun j e=>by injection e with e;have:=k1.le;omega
  have hB:=hO2.bx
  refine go ?_
  exact ret_1 ⟨hG2,k2⟩
set_option maxHeartbeats 0 in
theorem collect_spec {m:Bool} {h:H} {g:FuncId} {cap:List V} {qs:List Int} {I:H→Prop} (hw:Wf h) (it:Iter m g cap (qs.map iv) I) (hI:∀h',Kp h h'→I h') (hb:qs.length≤100000):FX m Tryz.prog 227 [.fn (.func g) [] cap] h fun r h'=>Gw h' h.next r 1 3 icell qs∧Kp h h':=by
 refine Fn.env c227 rfl ?_
 unfold s227
 refine go ?_
 refine stC (appseq_spec hw it hI hb) (fun r h1 ⟨hG,k⟩=>?_)
 refine go ?_
 exact ret_1 ⟨hG,k⟩
end Go.Proofs.YtkcdehffcddciaaGreatDoor.Vm
