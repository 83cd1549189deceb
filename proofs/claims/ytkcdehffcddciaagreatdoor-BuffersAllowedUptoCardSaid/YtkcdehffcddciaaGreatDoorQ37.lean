/- The state of a play of the program. -/
import Derived.Test.YtkcdehffcddciaaGreatDoorQ28
import Derived.Test.YtkcdehffcddciaaGreatDoorQ36
import Derived.Test.YtkcdehffcddciaaGreatDoorQ19
import Derived.Test.YtkcdehffcddciaaGreatDoorQ24
import Derived.Test.YtkcdehffcddciaaGreatDoorQ34
import Derived.Test.YtkcdehffcddciaaGreatDoorQ21
import Derived.Test.YtkcdehffcddciaaGreatDoorQ25
namespace Go.Proofs.YtkcdehffcddciaaGreatDoor.Vm
open Go Go.RowKit
structure PC where
 hS:H
 nT:Nat
 nR:Nat
 P:Nat→Prop
 vq:V
 vo:V
 v6:V
 bm:Nat
 mF:Nat
 c1:∀k,P k→nT≤k
 c2:¬P mF
 c3:nT≤mF
 c4:v6.ba<nT
 c5:¬P bm
 c6:nT≤bm
 c7:bm≠mF
structure PS where
 i:Nat
 T:List (List Int)
 Q:List (List Int)
 O:List (List Int)
 F:List Int
 tv:List V
 qs:List V
 os:List V
 ml:List (Int × V)
def FromM (ev:List Ev_) (F:List Int) (ml:List (Int × V)):Prop:=∀r:Nat,r<F.length→(mGet (r:Int) ml=none∧gt F r=0)∨mGet (r:Int) ml=some (.agg (upto (wc ev (gt F r)) 3 0))
theorem FromM.ins {ev:List Ev_} {F:List Int} {ml:List (Int × V)} (hm:FromM ev F ml) {x:Int} (h0:0≤x) (hx:x.toNat<F.length) (w:Int):FromM ev (F.set x.toNat w) (mIns x (.agg (upto (wc ev w) 3 0)) ml):=fun r hr=>by
 rw[List.length_set]at hr
 rw[gt_set hx,mGet_ins]
 by_cases e:r=x.toNat
 ·rw[if_pos e,if_pos (by omega)]
  exact .inr rfl
 ·rw[if_neg e,if_neg (by omega)]
  exact hm r hr
structure PI (c:PC) (g:Gr) (n:Nat) (h:H) (x:PS):Prop where
 mac:Mac h c.nT c.P c.vq c.vo 94 92 3 83 (wc g.ev) x.Q x.O x.qs x.os
 gp:Gp g n x.T x.Q x.O x.F
 mp:Mp h c.nT c.mF .i64 x.ml
 fr:FromM g.ev x.F x.ml
 td:Ar h c.nR c.v6 1 27 vcell x.tv
 tl:x.tv.length=n
 rows:∀t,t<n→Ro h (gt x.tv t) 1 icell (gt x.T t)∧(0<(gt x.T t).length→(gt x.tv t).ba<c.nT∧(gt x.tv t).ba≠c.v6.ba)
 pr:Pr (fun k=>c.P k∨k=c.mF∨k=c.v6.ba) c.hS h
 wf:Wf h
section
variable {c:PC} {g:Gr} {n:Nat} {h h1 h2:H} {t:Nat}
theorem PI.at_ {i j:Nat} {T Q O:List (List Int)} {F:List Int} {tv qs os:List V} {ml:List (Int × V)} (hI:PI c g n h ⟨i,T,Q,O,F,tv,qs,os,ml⟩):PI c g n h ⟨j,T,Q,O,F,tv,qs,os,ml⟩ :=
 { mac:=hI.mac,gp:=hI.gp,mp:=hI.mp,fr:=hI.fr,td:=hI.td,tl:=hI.tl,rows:=hI.rows,pr:=hI.pr,wf:=hI.wf }
theorem PI.flush {x : PS} (hI : PI c g n h x) (ht : t < n) {qs' os' : List V} (hm : Mac h1 c.nT c.P c.vq c.vo 94 92 3 83 (wc g.ev) (flushP g.ev x.Q x.O t).1 (flushP g.ev x.Q x.O t).2 qs' os') (p : Pr c.P h h1) (i : Nat) : PI c g n h1 ⟨i, x.T, (flushP g.ev x.Q x.O t).1, (flushP g.ev x.Q x.O t).2, x.F, x.tv, qs', os', x.ml⟩ :=
  { mac := hm
    gp := hI.gp.flush ht
    mp := p.mp hI.mp c.c2
    fr := hI.fr
    td := p.ar hI.td fun hp => by have := c.c1 _ hp; have := c.c4; omega
    tl := hI.tl
    rows := fun s hs => ⟨p.ro hI.wf Nat.zero_lt_one (hI.rows s hs).1 fun h0 hp => by have h5 : c.nT ≤ (gt x.tv s).ba := c.c1 _ hp; have h6 : (gt x.tv s).ba < c.nT := ((hI.rows s hs).2 h0).1; omega, (hI.rows s hs).2⟩
    pr := hI.pr.trans (p.sub fun k _ hp => .inl hp)
    wf := p.wf hI.wf }
theorem PI.kp {x : PS} (k : Kp h h1) (hI : PI c g n h x) : PI c g n h1 x :=
  { mac := hI.mac.kp k
    gp := hI.gp
    mp := hI.mp.kp k
    fr := hI.fr
    td := hI.td.mo (Mo.of_kp k none) (fun e => by cases e)
    tl := hI.tl
    rows := fun s hs => ⟨(hI.rows s hs).1.kp k hI.wf, (hI.rows s hs).2⟩
    pr := hI.pr.trans (Pr.of_kp k)
    wf := k.wf hI.wf }
theorem PI.step {b : Bool} {i : Nat} {T Q O : List (List Int)} {F : List Int} {tv qs os : List V} {ml ml' : List (Int × V)} (hI : PI c g n h ⟨i, T, Q, O, F, tv, qs, os, ml⟩) (hw : WF g b) (ht : t < n) {k : Nat} (hl : (stepP g.ev g.rmw Q O F t (gt T t)).l = (gt T t).drop k) (hk : k ≤ (gt T t).length) {qs' os' : List V}
    (hm : Mac h1 c.nT c.P c.vq c.vo 94 92 3 83 (wc g.ev) (stepP g.ev g.rmw Q O F t (gt T t)).Q (stepP g.ev g.rmw Q O F t (gt T t)).O qs' os') (hf : Mp h1 c.nT c.mF .i64 ml') (hfr : FromM g.ev (stepP g.ev g.rmw Q O F t (gt T t)).F ml') (p : Pr (fun k => c.P k ∨ k = c.mF) h h1)
    (hA : Ar h2 c.nR c.v6 1 27 vcell (tv.set t (tlV (gt tv t) k))) (m : Mo h1 h2 (some c.v6.ba)) (j : Nat) :
    PI c g n h2 ⟨j, T.set t (stepP g.ev g.rmw Q O F t (gt T t)).l, (stepP g.ev g.rmw Q O F t (gt T t)).Q, (stepP g.ev g.rmw Q O F t (gt T t)).O, (stepP g.ev g.rmw Q O F t (gt T t)).F, tv.set t (tlV (gt tv t) k), qs', os', ml'⟩ := by
  have c1 := c.c1
  have c3 := c.c3
  have c4 := c.c4
  have p2 : Pr (fun k => c.P k ∨ k = c.mF ∨ k = c.v6.ba) h h2 := (p.sub fun k _ hp => by rcases hp with h | h; exact .inl h; exact .inr (.inl h)).trans (Pr.of_mo m fun k hk => by injection hk with hk; exact .inr (.inr hk.symm))
  have hgp : Gp g n T Q O F := hI.gp
  have htl : t < T.length := by rw [hgp.tl]; exact ht
  have htv : tv.length = n := hI.tl
  have hnp : ∀ k, k < c.nT → k ≠ c.v6.ba → ¬ (c.P k ∨ k = c.mF ∨ k = c.v6.ba) := fun k h1 h2 h3 => by
    rcases h3 with h3 | h3 | h3
    · have := c1 k h3; omega
    · omega
    · exact h2 h3
  exact
  { mac := hm.mo m fun k hk hp => by injection hk with hk; subst hk; have := c1 _ hp; omega
    gp := hgp.step hw ht
    mp := hf.mo m fun e => by injection e with e; omega
    fr := hfr
    td := hA
    tl := by
      show (tv.set t _).length = n
      rw [List.length_set]; exact htv
    rows := fun s hs => by
      show Ro h2 (gt (tv.set t _) s) 1 icell (gt (T.set t _) s) ∧ (0 < (gt (T.set t _) s).length → (gt (tv.set t _) s).ba < c.nT ∧ (gt (tv.set t _) s).ba ≠ c.v6.ba)
      rw [gt_set (by omega), gt_set htl]
      obtain ⟨hr1, hr2⟩ := hI.rows s hs
      by_cases e : s = t
      · subst e
        rw [if_pos rfl, if_pos rfl, hl, tlV_ba hr1.ln]
        have h3 := p2.ro hI.wf Nat.zero_lt_one hr1 fun h0 => hnp _ (hr2 h0).1 (hr2 h0).2
        exact ⟨h3.tl hk, fun h0 => hr2 (by rw [List.length_drop] at h0; show 0 < (gt T s).length; omega)⟩
      · rw [if_neg e, if_neg e]
        exact ⟨p2.ro hI.wf Nat.zero_lt_one hr1 fun h0 => hnp _ (hr2 h0).1 (hr2 h0).2, hr2⟩
    pr := hI.pr.trans p2
    wf := p2.wf hI.wf }
end
theorem rmw_lt {g:Gr} {b:Bool} (hw:WF g b) {j:Nat}:∀{k:Nat},j<k→k<g.rmw.length→(gt g.rmw j).1<(gt g.rmw k).1
 | 0,h,_=>absurd h (Nat.not_lt_zero _)
 | k+1,h,hk=>by
  have h1:=(hw.rmw (k+1) hk).1 (Nat.zero_lt_succ _)
  rw[Nat.add_sub_cancel]at h1
  by_cases e:j=k
  ·rw[e];exact h1
  ·have:=rmw_lt hw (j:=j) (k:=k) (by omega) (by omega)
   omega
theorem sec_cases {g:Gr} {b:Bool} (hw:WF g b) {ml:List (Int × V)} (hm:SecM g.rmw g.rmw.length ml) (x:Int):(mGet x ml=none∧¬0≤secV x g.rmw)∨(mGet x ml=some (.i .i64 (secV x g.rmw))∧0≤secV x g.rmw):=by
 rcases hm x with⟨h1,h2⟩ | ⟨k,h1,h2,h3,h4⟩
 ·exact .inl ⟨h1,by rw[secV_no h2];decide⟩
 ·have h5:secV x g.rmw=(gt g.rmw k).2:=secV_at h1 (fun j hj=>by have:=rmw_lt hw hj h1;omega) h2
  rw[h5]
  exact .inr ⟨h3,(hw.rmw k h1).2.2.1.1⟩
section
variable {C:Cx} {b n0 j:Nat} {us:List Nat} {lm:List (So × Kd)} {e:Env} {hs h:H} {x y z:Rd} {st:List (Option Nat × H)} {ps:List Pd} {Q:Env→H→Prop} {k:IntKind} {ml:List (Int × V)} {p:Int} {vz:V}
theorem em_mu (hm:Mp h n0 b k ml) (hl:∀h1,Mo h h1 (some b)→Lv j h1.t ps) (hr:∀h1,Mp h1 n0 b k (mIns p vz ml)→Mo h h1 (some b)→Em C lm (j+1) e h1 h1 ((some j,h1) :: st) ps Q) (hx:x.lk e=some (.m b):=by exact rfl) (hy:y.lk e=some (.i k p):=by exact rfl) (hz:z.lk e=some vz:=by exact rfl):Em C ((⟨none,none,.mu x y z,us⟩,.e) :: lm) j e hs h st ps Q :=
 em_eu .n (od_mu hm.at_ hx hy hz) (hl _ (mo_set hm.hi)) (hr _ ⟨hm.lo,hm.hi,setM_at⟩ (mo_set hm.hi))
end
def s35 : Sc:=(.seq (.region [Y 4 (.mv (.c (.b false))) []]) (.seq (.region [Y 5 (.mv (.t 0)) [0],Y 6 (.nc (.t 5)) [5],
 Y 7 (.fa (.t 6) 1) [6],Y 8 (.ld (.t 7)) [7],Y 9 (.mv (.t 1)) [1],Y 10 (.ia (.t 8) (.t 9) 1) [8,9],
 Y 11 (.fa (.t 10) 0) [10],Y 12 (.ld (.t 11)) [11],Y 13 (.len (.t 12)) [12],Y 14 (.eq .int false (.t 13)
  (.c (.i .i64 0))) [13],Y 4 (.mv (.t 14)) [14]]) .ret))
set_option maxRecDepth 100000 in
theorem c35:fnB Tryz.prog 35=some (15,s35,[.t 4]):=by kernel_rfl
set_option maxHeartbeats 0 in
theorem empty_spec {m:Bool} {h:H} {bm t n:Nat} {vo vq:V} {qs:List V} (hB:Bx h bm [vo,vq]) (hq:Ro h vq 1 vcell qs) (ht:t<qs.length) (hl:Ln (gt qs t) 3 n):FX m Tryz.prog 35 [.p bm 0,.i .i64 (t:Int)] h fun v h'=>v=.b (decide ((n:Int)=0))∧h'=h:=by
 refine Fn.env c35 rfl ?_
 unfold s35
 obtain⟨hL,hC⟩:=hq
 have hl:Ln (vcell (gt qs t) 0) 3 n:=hl
 refine go ?_
 exact ret_1 ⟨rfl,rfl⟩
def s34 : Sc:=(.seq (.region [Y 7 (.mv (.c (.b false))) []]) (.seq (.region [Y 13 (.ld (.t 1)) [1],Y 14 (.mv (.t 0)) [0],
 Y 15 (.ia (.t 13) (.t 14) 1) [13,14],Y 16 (.ld (.t 15)) [15],Y 17 (.ia (.t 16) (.c (.i .i64 0)) 1) [16],
 Y 18 (.ld (.t 17)) [17],Y 8 (.mv (.t 18)) [18]]) (.seq (.region [Y 19 (.fa (.t 2) 1) [2],
 Y 20 (.ld (.t 19)) [19],Y 21 (.mv (.t 8)) [8],Y 22 (.ia (.t 20) (.t 21) 5) [20,21],
 Y 23 (.lds (.t 22) 5) [22],Y 9 (.al 37 [.i .i64 0,.i .i64 0,.i .i64 0,.i .u64 0,.i .i64 0]) [],
 ⟨none,none,.st (.t 9) (.t 23) 5,[9,23]⟩]) (.seq (.region [Y 10 (.mv (.c (.i .i64 1))) []])
  (.seq (.seq (.region [Y 25 (.ld (.t 3)) [3],Y 26 (.mv (.t 8)) [8],Y 27 (.lk (.t 25) (.t 26)
  (.i .i64 0) true) [25,26],Y 24 (.mv (.t 27)) [27],Y 28 (.ex (.t 24) 0) [24],Y 29 (.ex (.t 24) 1) [24],
 Y 11 (.mv (.t 28)) [28],Y 12 (.mv (.t 29)) [29]]) (.block 0 (.seq (.seq (.region [Y 31 (.mv (.t 12)) [12],
 Y 32 (.mv (.t 31)) [31],Z 32 true 33 (.ld (.t 4)) [4,32],Z 32 true 34 (.mv (.t 0)) [0,32],
 Z 32 true 35 (.call 35 [.t 33,.t 34]) [33,34,32],Z 32 true 36 (.nt (.t 35)) [35,32],Y 37 (.pk (.t 32) (.t 36)
  (.c (.b false))) [32,36],Y 30 (.mv (.t 37)) [37]]) (.cond (.t 30) .skip (.region [Y 38 (.fa (.t 9) 1) [9],
 Y 39 (.ld (.t 38)) [38],Y 40 (.eq .int false (.t 39) (.c (.i .i64 3))) [39],Y 41 (.mv (.t 40)) [40],
 Z 41 true 42 (.fa (.t 9) 4) [9,41],Z 41 true 43 (.ld (.t 42)) [42,41],
 Z 41 true 44 (.call 36 [.t 43]) [43,41],Y 45 (.pk (.t 41) (.t 44) (.c (.b false))) [41,44],
 Y 46 (.mv (.t 45)) [45],Z 46 true 47 (.ld (.t 4)) [4,46],Z 46 true 48 (.mv (.t 0)) [0,46],
 Z 46 true 49 (.call 35 [.t 47,.t 48]) [47,48,46],Z 46 true 50 (.nt (.t 49)) [49,46],Y 51 (.pk (.t 46) (.t 50)
  (.c (.b false))) [46,50],Y 30 (.mv (.t 51)) [51]]))) (.cond (.t 30)
  (.seq (.region [Y 7 (.mv (.c (.b false))) []]) .ret) (.seq (.region [Y 53 (.fa (.t 9) 1) [9],
 Y 54 (.ld (.t 53)) [53],Y 55 (.eq .int false (.t 54) (.c (.i .i64 1))) [54],Y 52 (.mv (.t 55)) [55]])
  (.cond (.t 52) (.seq (.mix [(Y 56 (.ld (.t 5)) [5],.q [none,some 6]),
 (Y 57 (.mv (.t 8)) [8],.q [none,some 6]),(Y 58 (.ld (.t 4)) [4],.q [none]),(Y 59 (.mv (.t 0)) [0],.q [none]),
 (Y 60 (.fa (.t 9) 2) [9],.q [none]),(Y 61 (.ld (.t 60)) [60],.q [none]),
 (Y 62 (.call 37 [.t 58,.t 59,.t 61]) [58,59,61],.e),(⟨none,none,.mu (.t 56) (.t 57) (.t 62),[56,57,62]⟩,.e)])
  (.seq (.region [Y 63 (.mv (.t 12)) [12]]) (.cond (.t 63) (.seq (.mix [(Y 64 (.ld (.t 4)) [4],.q [none]),
 (Y 65 (.nc (.t 64)) [64],.q [none]),(Y 66 (.fa (.t 65) 0) [65],.q [none]),
 (Y 67 (.fa (.t 9) 2) [9],.q [none]),(Y 68 (.ld (.t 67)) [67],.q [none]),(Y 69 (.mv (.t 11)) [11],.q [none]),
 (Y 70 (.fa (.t 2) 1) [2],.q [none]),(Y 71 (.ld (.t 70)) [70],.q [none]),(Y 72 (.mv (.t 11)) [11],.q [none]),
 (Y 73 (.ia (.t 71) (.t 72) 5) [71,72],.q [none]),(Y 74 (.fa (.t 73) 3) [73],.q [none]),
 (Y 75 (.ld (.t 74)) [74],.q [none]),(Y 76 (.bd [.i .i64 0,.i .i64 0,.i .u64 0] [(0,1,.t 68),(1,1,.t 69),
 (2,1,.t 75)]) [68,69,75],.q [none]),(Y 77 (.call 38 [.t 66,.t 76]) [66,76],.e)])
  (.region [Y 10 (.mv (.c (.i .i64 2))) []])) .skip))) (.seq (.region [Y 79 (.fa (.t 9) 1) [9],
 Y 80 (.ld (.t 79)) [79],Y 81 (.eq .int false (.t 80) (.c (.i .i64 2))) [80],Y 78 (.mv (.t 81)) [81]])
  (.cond (.t 78) (.mix [(Y 82 (.ld (.t 4)) [4],.q [none]),(Y 83 (.nc (.t 82)) [82],.q [none]),
 (Y 84 (.fa (.t 83) 1) [83],.q [none]),(Y 85 (.ld (.t 84)) [84],.q [none]),(Y 86 (.mv (.t 0)) [0],.q [none]),
 (Y 87 (.ia (.t 85) (.t 86) 1) [85,86],.q [none]),(Y 88 (.fa (.t 9) 2) [9],.q [none]),
 (Y 89 (.ld (.t 88)) [88],.q [none]),(Y 90 (.mv (.t 8)) [8],.q [none]),(Y 91 (.fa (.t 9) 3) [9],.q [none]),
 (Y 92 (.ld (.t 91)) [91],.q [none]),(Y 93 (.bd [.i .i64 0,.i .i64 0,.i .u64 0] [(0,1,.t 89),(1,1,.t 90),
 (2,1,.t 92)]) [89,90,92],.q [none]),(Y 94 (.call 39 [.t 87,.t 93]) [87,93],.e)]) .skip))))))))
  (.seq (.mix [(Y 95 (.ld (.t 1)) [1],.q [none]),(Y 96 (.mv (.t 0)) [0],.q [none]),
 (Y 97 (.ld (.t 1)) [1],.q [none]),(Y 98 (.mv (.t 0)) [0],.q [none]),(Y 99 (.ia (.t 97)
  (.t 98) 1) [97,98],.q [none]),(Y 100 (.ld (.t 99)) [99],.q [none]),(Y 101 (.mv (.t 10)) [10],.q [none]),
 (Y 102 (.s2 1 (.t 100) (some (.t 101)) none) [100,101],.q [none]),(Y 103 (.ia (.t 95)
  (.t 96) 1) [95,96],.q [none]),(⟨none,none,.st (.t 103) (.t 102) 1,[103,102]⟩,.e)])
  (.seq (.region [Y 7 (.mv (.c (.b true))) []]) .ret)))))))
set_option maxRecDepth 100000 in
theorem c34:fnB Tryz.prog 34=some (104,s34,[.t 7]):=by kernel_rfl
set_option maxHeartbeats 0 in
theorem put_spec2 {m:Bool} {h:H} {n0:Nat} {vq:V} {qs:List V} {t:Nat} {rows:List Int} {ev:List Ev_} {x:Int} (hw:Wf h) (hq:Ar h n0 vq 1 94 vcell qs) (ht:t<qs.length) (hg:Gw h n0 (gt qs t) 3 83 (wc ev) rows) (hne:V.blk (gt qs t)≠some vq.ba) (hn:rows.length≤1000000):FX m Tryz.prog 39 [.p vq.ba (vq.of+t*1),.agg (upto (wc ev x) 3 0)] h fun _v h'=>∃v',(∀k,v'.blk=some k→h.next≤k)∧Pr (fun k=>k=vq.ba∨(gt qs t).blk=some k) h h'∧Ar h' n0 vq 1 94 vcell (qs.set t v')∧Gw h' n0 v' 3 83 (wc ev) (rows++[x]):=by
 refine Fn.env c39 rfl ?_
 unfold s39
 refine Es.seq (Es.region (ew_bx fun b h1 ob k1=>?_))
 have hB:=ob.bx
 have hq1:=hq.mo (Mo.of_kp k1 none) (fun h=>by cases h)
 have hC:Ce h1 vq.ba (vq.of+t*1) (gt qs t):=hq1.cs.eq t 0 ht (by decide)
 have hg1:=hg.mo (Mo.of_kp k1 none) (fun k _ h=>by cases h)
 refine go ?_
 refine emN (mL ?_)
 refine go ?_
 refine em_bs (l:=upto (wc ev x) 3 0) rfl rfl rfl ⟨fun _=>FCe.of (hC.kp kp_new (k1.wf hw)),trivial⟩ ?_
 have k2:Kp h1 (h1.new 83 (upto (wc ev x) 3 0) false):=kp_new
 have hrw:Rw (h1.new 83 (upto (wc ev x) 3 0) false) h1.next (1*3) 0 (upto (wc ev x) 3 0):=rw_new3 rfl
 have e1:=hq.blk.2.1
 have e2:=hq.blk.2.2
 have e3:=k1.le
 have e4:=k2.le
 refine em_ap (n0:=n0) x (hg1.mo (Mo.of_kp k2 none) (fun k _ h=>by cases h)) rfl rfl hrw rfl (by decide) (by omega) (by omega) (fun h' _=>⟨fun (hk:some 7∈[none,some 6])=>absurd hk (by decide),trivial⟩) fun v' h3 hbk hG3 m3=>?_
 refine go ?_
 have hq2:=hq1.mo (Mo.of_kp k2 none) (fun h=>by cases h)
 have hq3:=hq2.mo m3 hne
 have o3:=hG3.ln.one
 refine em_arQ v' hq3 (i:=t) ht (fun h4 hA4 m4=>?_) (hv:=cells_one3 o3) (h1:=by show(v'.one&&true)=true;rw[o3];rfl) (hl:=fun h' _=>⟨fun (hk:some 10∈[none,some 6])=>absurd hk (by decide),trivial⟩)
 have hG4:=hG3.mo m4 fun k hk e=>by
  rw[hbk]at hk
  injection hk with hk
  injection e with e
  omega
 refine go ?_
 exact end_0 ⟨v',fun k hk=>by
  rw[hbk]at hk
  injection hk with hk
  omega,(((Pr.of_kp (k1.trans k2)).trans (Pr.of_mo m3 fun k hk=>.inr hk)).trans (Pr.of_mo m4 fun k hk=>by injection hk with hk;exact .inl hk.symm)),hA4,hG4⟩
set_option maxRecDepth 100000 in
set_option maxHeartbeats 0 in
theorem pstep_spec {m:Bool} {h:H} {c:PC} {n nS b6 b2 b7 b9 b10 bS i:Nat} {gl:List V} {g:Gr} {b:Bool} {t:Nat} {T Q O:List (List Int)} {F:List Int} {tv qs os:List V} {ml sml:List (Int × V)}
  (hI:PI c g n h ⟨i,T,Q,O,F,tv,qs,os,ml⟩) (hG:GrAt h gl g) (hwf:WF g b) (ht:t<n) (hTne:gt T t≠[])
  (hB6:Bx h b6 [c.v6]) (hB2:Bx h b2 gl) (hB7:Bx h b7 [.m bS]) (hB9:Bx h b9 [.p c.bm 0]) (hB10:Bx h b10 [.m c.mF]) (hBm:Bx h c.bm [c.vo,c.vq]) (hS:Mp h nS bS .i64 sml) (hsm:SecM g.rmw g.rmw.length sml)
  (hbm:c.bm<h.next) (hb6:b6<h.next∧¬(c.P b6∨b6=c.mF)) (hb2:b2<h.next∧¬(c.P b2∨b2=c.mF)) (hb9:b9<h.next∧¬(c.P b9∨b9=c.mF)) (hve:0<g.ev.length→∀ve,gl[1]?=some ve→¬(c.P ve.ba∨ve.ba=c.mF))
  (hP:∀k,h.next≤k→c.P k) (hn0:c.nT≤h.next):FX m Tryz.prog 34 [.i .i64 (t:Int),.p b6 0,.p b2 0,.p b7 0,.p b9 0,.p b10 0] h fun v h'=>v=.b (stepP g.ev g.rmw Q O F t (gt T t)).done∧∃tv' qs' os' ml',PI c g n h' ⟨i,T.set t (stepP g.ev g.rmw Q O F t (gt T t)).l,(stepP g.ev g.rmw Q O F t (gt T t)).Q,(stepP g.ev g.rmw Q O F t (gt T t)).O,(stepP g.ev g.rmw Q O F t (gt T t)).F,tv',qs',os',ml'⟩:=by
 have hw:=hI.wf
 have hmF:=hI.mp.hi
 have hg:Gp g n T Q O F:=hI.gp
 have hm:Mac h c.nT c.P c.vq c.vo 94 92 3 83 (wc g.ev) Q O qs os:=hI.mac
 have tql:t<Q.length:=by rw[hg.ql];exact ht
 have htv:tv.length=n:=hI.tl
 have htl:t<T.length:=by rw[hg.tl];exact ht
 obtain⟨hLr,hCr⟩:=(hI.rows t ht).1
 obtain⟨ve,vrf,vco,vrmw,vad,vda,vct,rfl,hev,-⟩:=hG.is
 have hve:=hve
 cases hT:gt T t with
 | nil=>exact absurd hT hTne
 | cons x r =>
 have hLr:Ln (gt tv t) 1 (gt T t).length:=hLr
 have hCr:Cs h (gt tv t) 1 (gt T t).length fun i k=>icell (gt (gt T t) i) k:=hCr
 rw[hT,List.length_cons]at hLr hCr
 have hrow:=hg.row ht hT
 obtain⟨x0,x1,x2,x3⟩:=ev_wf hwf hrow
 have hxc:Ce h (vcell (gt tv t) 0).ba (vcell (gt tv t) 0).of (.i .i64 x):=hCr.hd0 (Nat.zero_lt_succ _) (by decide)
 have hLv:Ln c.v6 1 tv.length:=hI.td.ln
 have hCv:Cs h c.v6 1 tv.length fun i k=>vcell (gt tv i) k:=hI.td.cs
 rw[htv]at hLv hCv
 obtain⟨hLe,hCe⟩:=hev
 refine Fn.env c34 rfl ?_
 unfold s34
 refine go ?_
 refine ew_al fun b13 h3 ob13 k3=>?_
 refine ew_st ob13 (fun h4 ob14 m4=>?_)
 have k4:Kp h h4:=m4.kp k3 fun j hj=>by injection hj with hj;subst hj;exact ob13.lo
 have e13:=ob13.lo
 have e14:=ob14.hi
 have e15:=k4.le
 have hBe:Bx h4 b13 (upto (ecell (gt g.ev x.toNat)) 5 0):=ob14.bx
 have hI4:=hI.kp k4
 have hw4:=k4.wf hw
 have hB6:=hB6.kp k4 hw
 have hB2:=hB2.kp k4 hw
 have hB7:=hB7.kp k4 hw
 have hB9:=hB9.kp k4 hw
 have hB10:=hB10.kp k4 hw
 have hBm:=hBm.kp k4 hw
 have hS4:=hS.kp k4
 have hG4:=hG.kp k4 hw
 have hm4:Mac h4 c.nT c.P c.vq c.vo 94 92 3 83 (wc g.ev) Q O qs os:=hm.kp k4
 have hql:=hm.ql
 have hP4:∀k,h4.next≤k→c.P k:=fun k hk=>hP k (by omega)
 have hCv:Cs h4 c.v6 1 n fun i k=>vcell (gt tv i) k:=hCv.kp k4 hw
 have hev4:Ro h4 ve 5 ecell g.ev:=(⟨hLe,hCe⟩:Ro h ve 5 ecell g.ev).kp k4 hw
 clear hI ob13 m4 k3 hCe hxc hCr hG hm hS
 have hsz:=hg.sz
 have hlq:=lenT_le tql
 have hQ0:gt Q t = []∨0<(gt Q t).length:=by
  cases gt Q t with
  | nil=>exact .inl rfl
  | cons=>exact .inr (Nat.zero_lt_succ _)
 have oo1:1≤r.length+1→(tlV (gt tv t) 1).one=true:=fun h=>by
  have:=((hI4.rows t ht).1.tl (m:=1) (by show 1≤(gt T t).length;rw[hT,List.length_cons];omega)).ln.one
  exact this
 have oo1:=oo1 (by omega)
 have hA4:Ar h4 c.nR c.v6 1 27 vcell tv:=hI4.td
 have hwt:∀hst:stepP g.ev g.rmw Q O F t (gt T t)=⟨x :: r,false,Q,O,F⟩,PI c g n h4 ⟨i,T.set t (stepP g.ev g.rmw Q O F t (x :: r)).l,(stepP g.ev g.rmw Q O F t (x :: r)).Q,(stepP g.ev g.rmw Q O F t (x :: r)).O,(stepP g.ev g.rmw Q O F t (x :: r)).F,tv,qs,os,ml⟩:=fun hst=>by
  rw[hT]at hst
  rw[hst]
  have:T.set t (x :: r)=T:=by rw[←hT];exact set_gt htl
  show PI c g n h4 ⟨i,T.set t (x :: r),Q,O,F,tv,qs,os,ml⟩
  rw[this]
  exact hI4
 rcases sec_cases hwf hsm x with⟨hmg,hs⟩ | ⟨hmg,hs⟩
 ·skip
  refine go ?_
  refine ew_s .n (od_lkf hS4.at_ rfl rfl hmg) ?_
  rcases x2 with hk | hk | hk
  ·have hst:=stepP_read (Q:=Q) (O:=O) (F:=F) (t:=t) (r:=r) hs hk
   obtain⟨lc,hlc⟩:∃lc:Nat,(gt g.ev x.toNat).loc=lc:=⟨(gt g.ev x.toNat).loc.toNat,by omega⟩
   have hlO:lc<O.length:=by have:=hg.ol;omega
   have hlk:(gt g.ev x.toNat).loc.toNat=lc:=by omega
   rw[hlk]at hst
   refine gol ?_
   refine mC (plook_spec (loc:=lc) hw4 hm4 hBm tql hlO (hg.o lc hlO).1 (by omega)) (fun v h6 ⟨hv,k6⟩=>⟨⟨fun _=>FCe.of (Ce.kp k6 hw4 (ce_b hB10 rfl)),trivial⟩,?_⟩) (ha:=congrArg (fun z:Int=>some [V.p c.bm 0,.i .i64 (t:Int),.i .i64 z]) hlc)
   subst hv
   have hI6:=hI4.kp k6
   have hM6:Mp h6 c.nT c.mF .i64 ml:=hI6.mp
   have e16:=k6.le
   refine em_mu hM6 (fun _ _=>⟨fun (hk:some 7∈[none,some 6])=>absurd hk (by decide),trivial⟩) (fun h7 hM7 m7=>?_)
   have p7:Pr (fun k=>c.P k∨k=c.mF) h4 h7:=(Pr.of_kp k6).trans (Pr.of_mo m7 fun k hk=>by injection hk with hk;exact .inr hk.symm)
   have hw7:=p7.wf hw4
   have hm7:Mac h7 c.nT c.P c.vq c.vo 94 92 3 83 (wc g.ev) Q O qs os:=(hm4.kp k6).mo m7 (fun k hk=>by injection hk with hk;subst hk;exact c.c2)
   have hfr7:FromM g.ev (F.set x.toNat (looksV g.ev Q O t lc)) (mIns x (.agg (upto (wc g.ev (looksV g.ev Q O t lc)) 3 0)) ml):=FromM.ins hI4.fr x0 (by rw[hg.fl];omega) _
   have hv6P:¬(c.P c.v6.ba∨c.v6.ba=c.mF):=fun hp=>by
    have h4:=c.c4
    have h3:=c.c3
    rcases hp with hp | hp
    ·have:=c.c1 _ hp;omega
    ·omega
   have hbmP:¬(c.P c.bm∨c.bm=c.mF):=fun hp=>by
    rcases hp with hp | hp
    ·exact c.c5 hp
    ·exact c.c7 hp
   have hA7:Ar h7 c.nR c.v6 1 27 vcell tv:=p7.ar hA4 hv6P
   have hB6:Bx h7 b6 [c.v6]:=p7.bx hB6 (by omega) hb6.2
   have hmFlt:c.mF<h.next:=hmF
   have hBe:Bx h7 b13 (upto (ecell (gt g.ev x.toNat)) 5 0):=⟨fun k v hk=>⟨(m7.cell (by omega) fun e=>by injection e with e;omega).trans ((hBe.kp k6 hw4).eq k v hk).eq⟩⟩
   have hCv:Cs h7 c.v6 1 n fun i k=>vcell (gt tv i) k:=by have:=hA7.cs;rwa [htv]at this
   refine go ?_
   refine emN (mS (v:=tlV (gt tv t) 1) (hd:=⟨fun _=>by exact od_tl hLr (by omega) rfl rfl⟩) ?_)
   refine go ?_
   refine em_arQ (tlV (gt tv t) 1) hA7 (i:=t) (by omega) (fun hZ hAZ mZ=>?_) (hv:=cells_one5 oo1) (h1:=allOne_cons oo1 rfl) (hl:=fun _ _=>trivial)
   refine go ?_
   have hfin:=PI.step (T:=T) (k:=1) hI4 hwf ht (by rw[hT,hst];rfl) (by rw[hT];simp) (by rw[hT,hst];exact hm7) hM7 (by rw[hT,hst];exact hfr7) p7 hAZ mZ i
   rw[hT]at hfin
   exact ret_1 ⟨by rw[hst],_,_,_,_,hfin⟩
  ·have hst:=stepP_write (Q:=Q) (O:=O) (F:=F) (t:=t) (r:=r) hs hk
   have hLq:=hm4.q.ln
   rw[hm4.ql]at hLq
   refine go ?_
   refine mC (put_spec2 (x:=x) hw4 hm4.q (by omega) (hm4.qr t tql) (fun e=>(hm4.qa t tql _ e).1 rfl) (by omega)) (fun v h7 ⟨v',hf7,p7,hA7,hG7⟩=>⟨trivial,?_⟩)
   obtain⟨hm7,p7'⟩:=hm4.setQ tql p7 hA7 hG7 fun k hk=>.inr ⟨hf7 k hk,hP4 k (hf7 k hk)⟩
   have hM7:Mp h7 c.nT c.mF .i64 ml:=p7'.mp hI4.mp c.c2
   have hv6P:¬c.P c.v6.ba:=fun hp=>by
    have h4:=c.c4
    have:=c.c1 _ hp
    omega
   have hA7':Ar h7 c.nR c.v6 1 27 vcell tv:=p7'.ar hA4 hv6P
   have hB6:Bx h7 b6 [c.v6]:=p7'.bx hB6 (by omega) fun hp=>hb6.2 (.inl hp)
   have hCv:Cs h7 c.v6 1 n fun i k=>vcell (gt tv i) k:=by have:=hA7'.cs;rwa [htv]at this
   refine go ?_
   refine emN (mS (v:=tlV (gt tv t) 1) (hd:=⟨fun _=>by exact od_tl hLr (by omega) rfl rfl⟩) ?_)
   refine go ?_
   refine em_arQ (tlV (gt tv t) 1) hA7' (i:=t) (by omega) (fun hZ hAZ mZ=>?_) (hv:=cells_one5 oo1) (h1:=allOne_cons oo1 rfl) (hl:=fun _ _=>trivial)
   refine go ?_
   have hfin:=PI.step (T:=T) (k:=1) hI4 hwf ht (by rw[hT,hst];rfl) (by rw[hT];simp) (by rw[hT,hst];exact hm7) hM7 (by rw[hT,hst];exact hI4.fr) (p7'.sub fun k _ hp=>.inl hp) hAZ mZ i
   rw[hT]at hfin
   exact ret_1 ⟨by rw[hst],_,_,_,_,hfin⟩
  ·have hM4:Mp h4 c.nT c.mF .i64 ml:=hI4.mp
   have hEw:(m:Bool)→m=m:=fun _=>rfl
   refine go ?_
   refine stC (pfull_spec (md:=(gt g.ev x.toNat).mode)) (fun v h5 ⟨hv,e⟩=>?_)
   obtain rfl:=e.symm
   by_cases hf:(gt g.ev x.toNat).mode=5∨(gt g.ev x.toNat).mode=15
   ·obtain rfl:v=.b true:=hv.trans (B_t hf).symm
    rcases hQ0 with hq | hq
    ·have hlq0:(gt Q t).length=0:=by rw[hq];rfl
     have hst:=stepP_fence (Q:=Q) (O:=O) (F:=F) (t:=t) (r:=r) (rmw:=g.rmw) hs hk fun h=>h.2 hq
     refine go ?_
     refine stC (empty_spec (t:=t) (n:=0) hBm hm4.q.ro (by omega) (by have:=(hm4.qr t tql).ln;rw[hlq0]at this;exact this)) (fun v h5 ⟨hv,e⟩=>?_)
     obtain rfl:=e.symm
     obtain rfl:v=.b true:=hv
     refine go ?_
     refine emN (mS (v:=tlV (gt tv t) 1) (hd:=⟨fun _=>by exact od_tl hLr (by omega) rfl rfl⟩) ?_)
     refine go ?_
     refine em_arQ (tlV (gt tv t) 1) hA4 (i:=t) (by omega) (fun hZ hAZ mZ=>?_) (hv:=cells_one5 oo1) (h1:=allOne_cons oo1 rfl) (hl:=fun _ _=>trivial)
     refine go ?_
     have hfin:=PI.step (T:=T) (k:=1) hI4 hwf ht (by rw[hT,hst];rfl) (by rw[hT];simp) (by rw[hT,hst];exact hm4) hM4 (by rw[hT,hst];exact hI4.fr) (.refl _ _) hAZ mZ i
     rw[hT]at hfin
     exact ret_1 ⟨by rw[hst],_,_,_,_,hfin⟩
    ·have hst:=stepP_wait (Q:=Q) (O:=O) (F:=F) (t:=t) (r:=r) (rmw:=g.rmw) ⟨.inr ⟨hk,hf⟩,fun e=>by rw[e]at hq;exact absurd hq (Nat.lt_irrefl _)⟩
     refine go ?_
     refine stC (empty_spec (t:=t) (n:=(gt Q t).length) hBm hm4.q.ro (by omega) (hm4.qr t tql).ln) (fun v h5 ⟨hv,e⟩=>?_)
     obtain rfl:=e.symm
     obtain rfl:v=.b false:=by rw[hv,decide_eq_false (by omega)]
     refine go ?_
     exact ret_1 ⟨by rw[hst],tv,qs,os,ml,hwt (by rw[hT];exact hst)⟩
   ·obtain rfl:v=.b false:=hv.trans (B_f hf).symm
    have hst:=stepP_fence (Q:=Q) (O:=O) (F:=F) (t:=t) (r:=r) (rmw:=g.rmw) hs hk fun h=>by
     rcases h.1 with h | h
     ·exact hs h
     ·exact hf h.2
    refine go ?_
    refine emN (mS (v:=tlV (gt tv t) 1) (hd:=⟨fun _=>by exact od_tl hLr (by omega) rfl rfl⟩) ?_)
    refine go ?_
    refine em_arQ (tlV (gt tv t) 1) hA4 (i:=t) (by omega) (fun hZ hAZ mZ=>?_) (hv:=cells_one5 oo1) (h1:=allOne_cons oo1 rfl) (hl:=fun _ _=>trivial)
    refine go ?_
    have hfin:=PI.step (T:=T) (k:=1) hI4 hwf ht (by rw[hT,hst];rfl) (by rw[hT];simp) (by rw[hT,hst];exact hm4) hM4 (by rw[hT,hst];exact hI4.fr) (.refl _ _) hAZ mZ i
    rw[hT]at hfin
    exact ret_1 ⟨by rw[hst],_,_,_,_,hfin⟩
 ·skip
  refine go ?_
  refine ew_s .n (od_lkt hS4.at_ rfl rfl hmg) ?_
  rcases hQ0 with hq | hq
  ·have hlq0:(gt Q t).length=0:=by rw[hq];rfl
   obtain⟨hx1,hx2,hx3,hx4⟩:=sec_wf hwf hs
   have hk:(gt g.ev x.toNat).kind=1:=hx1.2.2
   have hst:=stepP_pair (Q:=Q) (O:=O) (F:=F) (t:=t) (r:=r) hq hs hk
   obtain⟨r',hr'⟩:=hg.next ht hT hx3
   obtain⟨lc,hlc⟩:∃lc:Nat,(gt g.ev x.toNat).loc=lc:=⟨(gt g.ev x.toNat).loc.toNat,by omega⟩
   have hlO:lc<O.length:=by have:=hg.ol;omega
   have hlk:(gt g.ev x.toNat).loc.toNat=lc:=by omega
   rw[hlk]at hst
   have hlc2:(lc:Int)=(gt g.ev (secV x g.rmw).toNat).loc:=by rw[←hx4,hlc]
   have oo2:(tlV (gt tv t) 2).one=true:=((hI4.rows t ht).1.tl (m:=2) (by show 2≤(gt T t).length;rw[hT,hr'];simp)).ln.one
   have hrl:1≤r.length:=by rw[hr',List.length_cons];omega
   refine go ?_
   refine stC (empty_spec (t:=t) (n:=0) hBm hm4.q.ro (by omega) (by have:=(hm4.qr t tql).ln;rw[hlq0]at this;exact this)) (fun v h5 ⟨hv,e⟩=>?_)
   obtain rfl:=e.symm
   obtain rfl:v=.b true:=hv
   refine gol ?_
   refine mC (plook_spec (loc:=lc) hw4 hm4 hBm tql hlO (hg.o lc hlO).1 (by omega)) (fun v h6 ⟨hv,k6⟩=>⟨⟨fun _=>FCe.of (Ce.kp k6 hw4 (ce_b hB10 rfl)),trivial⟩,?_⟩) (ha:=congrArg (fun z:Int=>some [V.p c.bm 0,.i .i64 (t:Int),.i .i64 z]) hlc)
   subst hv
   have hI6:=hI4.kp k6
   have hM6:Mp h6 c.nT c.mF .i64 ml:=hI6.mp
   have e16:=k6.le
   refine em_mu hM6 (fun _ _=>⟨fun (hk:some 7∈[none,some 6])=>absurd hk (by decide),trivial⟩) (fun h7 hM7 m7=>?_)
   have p7:Pr (fun k=>c.P k∨k=c.mF) h4 h7:=(Pr.of_kp k6).trans (Pr.of_mo m7 fun k hk=>by injection hk with hk;exact .inr hk.symm)
   have hw7:=p7.wf hw4
   have hm7:Mac h7 c.nT c.P c.vq c.vo 94 92 3 83 (wc g.ev) Q O qs os:=(hm4.kp k6).mo m7 (fun k hk=>by injection hk with hk;subst hk;exact c.c2)
   have hfr7:FromM g.ev (F.set x.toNat (looksV g.ev Q O t lc)) (mIns x (.agg (upto (wc g.ev (looksV g.ev Q O t lc)) 3 0)) ml):=FromM.ins hI4.fr x0 (by rw[hg.fl];omega) _
   have hv6P:¬(c.P c.v6.ba∨c.v6.ba=c.mF):=fun hp=>by
    have h4:=c.c4
    have h3:=c.c3
    rcases hp with hp | hp
    ·have:=c.c1 _ hp;omega
    ·omega
   have hbmP:¬(c.P c.bm∨c.bm=c.mF):=fun hp=>by
    rcases hp with hp | hp
    ·exact c.c5 hp
    ·exact c.c7 hp
   have hA7:Ar h7 c.nR c.v6 1 27 vcell tv:=p7.ar hA4 hv6P
   have hB6:Bx h7 b6 [c.v6]:=p7.bx hB6 (by omega) hb6.2
   have hmFlt:c.mF<h.next:=hmF
   have hBe:Bx h7 b13 (upto (ecell (gt g.ev x.toNat)) 5 0):=⟨fun k v hk=>⟨(m7.cell (by omega) fun e=>by injection e with e;omega).trans ((hBe.kp k6 hw4).eq k v hk).eq⟩⟩
   have hB9:Bx h7 b9 [.p c.bm 0]:=p7.bx hB9 (by omega) hb9.2
   have hB2:Bx h7 b2 [.i .i64 g.cells,ve,vrf,vco,vrmw,vad,vda,vct]:=p7.bx hB2 (by omega) hb2.2
   have hBm:Bx h7 c.bm [c.vo,c.vq]:=p7.bx hBm (by omega) hbmP
   obtain⟨hLe,hCe⟩:=p7.ro hw4 (by decide) hev4 (fun h0=>hve h0 ve rfl)
   have hle4:Ce h7 b13 2 (.i .i64 (lc:Int)):=⟨by rw[←hlc];exact(hBe.eq 2 _ rfl).eq⟩
   have hx21:=hx2.1
   have hx22:=hx2.2.1
   have hg7:=p7.le
   refine go ?_
   refine mC (come_spec (x:=secV x g.rmw) (lc:=lc) hw7 hm7 hBm (by omega) c.c5 hlc2.symm hlO (fun k hk=>hP4 k (by omega)) (by omega) (by omega)) (fun v h8 ⟨_,⟨os',hm8⟩,p8⟩=>⟨trivial,?_⟩) (ha:=congrArg (fun z:Int=>some [V.p c.bm 0,V.agg [.i .i64 z,.i .i64 (secV x g.rmw),.i .u64 (gt g.ev (secV x g.rmw).toNat).val]]) hlc2)
   have hM8:=p8.mp hM7 c.c2
   have hA8:Ar h8 c.nR c.v6 1 27 vcell tv:=p8.ar hA7 fun hp=>hv6P (.inl hp)
   have hB6:Bx h8 b6 [c.v6]:=p8.bx hB6 (by omega) fun hp=>hb6.2 (.inl hp)
   have hCv:Cs h8 c.v6 1 n fun i k=>vcell (gt tv i) k:=by have:=hA8.cs;rwa [htv]at this
   clear hCe hle4 hBe hB2 hBm hB9
   refine go ?_
   refine emN (mS (v:=tlV (gt tv t) 2) (hd:=⟨fun _=>by exact od_tl hLr (by omega) rfl rfl⟩) ?_)
   refine go ?_
   refine em_arQ (tlV (gt tv t) 2) hA8 (i:=t) (by omega) (fun hZ hAZ mZ=>?_) (hv:=cells_one5 oo2) (h1:=allOne_cons oo2 rfl) (hl:=fun _ _=>trivial)
   refine go ?_
   have hfin:=PI.step (T:=T) (k:=2) hI4 hwf ht (by rw[hT,hst];rfl) (by rw[hT,hr'];simp) (by rw[hT,hst];exact hm8) hM8 (by rw[hT,hst];exact hfr7) (p7.trans (p8.sub fun k _ hp=>.inl hp)) hAZ mZ i
   rw[hT]at hfin
   exact ret_1 ⟨by rw[hst],_,_,_,_,hfin⟩
  ·skip
   refine go ?_
   refine stC (empty_spec (n:=(gt Q t).length) hBm hm4.q.ro (by omega) (hm4.qr t tql).ln) (fun v h5 ⟨hv,e⟩=>?_)
   obtain rfl:=e.symm
   obtain rfl:v=.b false:=by rw[hv,decide_eq_false (by omega)]
   refine go ?_
   have hst:=stepP_wait (Q:=Q) (O:=O) (F:=F) (t:=t) (r:=r) (ev:=g.ev) ⟨.inl hs,fun e=>by rw[e]at hq;exact absurd hq (Nat.lt_irrefl _)⟩
   exact ret_1 ⟨by rw[hst],tv,qs,os,ml,hwt (by rw[hT];exact hst)⟩
structure Sz_ (g:Gr):Prop where
 ev:g.ev.length≤10000000
 rf:g.rf.length≤10000000
 co:g.co.length≤10000000
 row:∀c,c<g.co.length→(gt g.co c).length≤10000000
 rmw:g.rmw.length≤10000000
 addr:g.addr.length≤10000000
 data:g.data.length≤10000000
 ctrl:g.ctrl.length≤10000000
theorem flush_less {ev:List Ev_} {Q O:List (List Int)} {t:Nat} (ht:t<Q.length) (h:gt Q t≠[]):(gt (flushP ev Q O t).1 t).length<(gt Q t).length:=by
 cases hq:gt Q t with
 | nil=>exact absurd hq h
 | cons w r =>
  rw[flushP_cons hq]
  show(gt (Q.set t r) t).length<_
  rw[gt_set ht,if_pos rfl,List.length_cons]
  omega
end Go.Proofs.YtkcdehffcddciaaGreatDoor.Vm
