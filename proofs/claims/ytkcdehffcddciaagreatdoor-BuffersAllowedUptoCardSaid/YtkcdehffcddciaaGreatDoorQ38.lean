/- The program's machine: all that waits comes to memory; the orders; a new machine. -/
import Derived.Test.YtkcdehffcddciaaGreatDoorQ36
import Derived.Test.YtkcdehffcddciaaGreatDoorQ37
import Derived.Test.YtkcdehffcddciaaGreatDoorQ28
import Derived.Test.YtkcdehffcddciaaGreatDoorQ25
namespace Go.Proofs.YtkcdehffcddciaaGreatDoor.Vm
open Go Go.RowKit
def s42 : Sc:=(.seq (.region [Y 3 (.mv (.t 0)) [0],Y 4 (.nc (.t 3)) [3],Y 5 (.fa (.t 4) 1) [4],Y 6 (.ld (.t 5)) [5],
 Y 7 (.len (.t 6)) [6],Y 8 (.mv (.c (.i .i64 0))) []]) (.block 0 (.loop (.seq (.region [Y 9 (.ar .lss (.t 8)
  (.t 7)) [8,7]]) (.seq (.cond (.t 9) .skip (.exit 0)) (.seq (.block 1 (.seq (.region [Y 10 (.mv (.t 8)) [8],
 Y 2 (.mv (.t 10)) [10]]) (.block 2 (.loop (.seq (.seq (.region [Y 11 (.mv (.t 0)) [0],Y 12 (.mv (.t 2)) [2],
 Y 13 (.call 35 [.t 11,.t 12]) [11,12],Y 14 (.nt (.t 13)) [13]]) (.cond (.t 14) .skip (.exit 2)))
  (.block 3 (.region [Y 15 (.mv (.t 0)) [0],Y 16 (.mv (.t 2)) [2],
 Y 17 (.call 41 [.t 15,.t 16]) [15,16]]))))))) (.region [Y 18 (.ar .add (.t 8) (.c (.i .i64 1))) [8],
 Y 8 (.mv (.t 18)) [18]])))))))
set_option maxRecDepth 100000 in
theorem c42:fnB Tryz.prog 42=some (19,s42,[]):=by kernel_rfl
def s44 : Sc:=(.seq (.region [Y 2 (.mv (.c (.i .i64 0))) []]) (.seq (.region [Y 3 (.mv (.t 0)) [0],
 Y 2 (.mv (.t 3)) [3]]) .ret))
set_option maxRecDepth 100000 in
theorem c44:fnB Tryz.prog 44=some (4,s44,[.t 2]):=by kernel_rfl
def s43 : Sc:=(.seq (.region [Y 4 (.mv (.c .ns)) []]) (.seq (.region [Y 10 (.mv (.t 0)) [0],Y 11 (.nc (.t 10)) [10],
 Y 12 (.fa (.t 11) 0) [11],Y 13 (.fa (.t 12) 0) [12],Y 14 (.ld (.t 13)) [13],Y 15 (.len (.t 14)) [14],
 Y 16 (.ms 27 1 24 [.ns] (.t 15) (.t 15)) [15,15],Y 5 (.mv (.t 16)) [16]])
  (.seq (.seq (.region [Y 17 (.mv (.t 0)) [0],Y 18 (.nc (.t 17)) [17],Y 19 (.fa (.t 18) 0) [18],
 Y 20 (.fa (.t 19) 0) [19],Y 21 (.ld (.t 20)) [20],Y 22 (.len (.t 21)) [21],Y 23 (.mv (.c (.i .i64 0))) []])
  (.block 0 (.loop (.seq (.region [Y 24 (.ar .lss (.t 23) (.t 22)) [23,22]])
  (.seq (.cond (.t 24) .skip (.exit 0)) (.seq (.block 1 (.seq (.region [Y 25 (.mv (.t 23)) [23],
 Y 26 (.ia (.t 21) (.t 23) 1) [21,23],Y 27 (.ld (.t 26)) [26],Y 6 (.mv (.t 25)) [25],Y 7 (.mv (.t 27)) [27]])
  (.seq (.region [Y 28 (.mv (.t 7)) [7],Y 29 (.len (.t 28)) [28],Y 30 (.mv (.c (.i .i64 0))) []])
  (.block 2 (.loop (.seq (.region [Y 31 (.ar .lss (.t 30) (.t 29)) [30,29]])
  (.seq (.cond (.t 31) .skip (.exit 2)) (.seq (.block 3 (.seq (.region [Y 32 (.ia (.t 28) (.t 30) 3) [28,30],
 Y 33 (.lds (.t 32) 3) [32],Y 9 (.al 83 [.i .i64 0,.i .i64 0,.i .u64 0]) [],⟨none,none,.st (.t 9)
  (.t 33) 3,[9,33]⟩]) (.mix [(Y 34 (.mv (.t 5)) [5],.q [none,some 9,some 10,some 11]),
 (Y 35 (.mv (.t 6)) [6],.q [none,some 9,some 10,some 11]),(Y 36 (.mv (.t 5)) [5],.q [none,some 9,some 10]),
 (Y 37 (.mv (.t 6)) [6],.q [none,some 9,some 10]),(Y 38 (.ia (.t 36)
  (.t 37) 1) [36,37],.q [none,some 9,some 10]),(Y 39 (.ld (.t 38)) [38],.q [none,some 9,some 10]),
 (Y 40 (.mv (.t 1)) [1],.q [none]),(Y 41 (.fa (.t 9) 1) [9],.q [none]),(Y 42 (.ld (.t 41)) [41],.q [none]),
 (Y 43 (.callv (.t 40) [.t 42]) [40,42],.e),(Y 44 (.bs 3 1 1 [.i .i64 0] [(0,1,.t 43)]) [43],.e),
 (Y 45 (.ap 3 1 8 (.t 39) (.t 44)) [39,44],.e),(Y 46 (.ia (.t 34) (.t 35) 1) [34,35],.q [some 11]),
 (⟨none,none,.st (.t 46) (.t 45) 1,[46,45]⟩,.e)]))) (.region [Y 47 (.ar .add (.t 30) (.c (.i .i64 1))) [30],
 Y 30 (.mv (.t 47)) [47]]))))))))) (.region [Y 48 (.ar .add (.t 23) (.c (.i .i64 1))) [23],
 Y 23 (.mv (.t 48)) [48]]))))))) (.seq (.region [Y 49 (.mv (.t 5)) [5],Y 4 (.mv (.t 49)) [49]]) .ret))))
set_option maxRecDepth 100000 in
theorem c43:fnB Tryz.prog 43=some (50,s43,[.t 4]):=by kernel_rfl
set_option maxHeartbeats 0 in
theorem pend_spec {m:Bool} {h:H} {n0 n bm:Nat} {P:Nat→Prop} {vq vo:V} {qs os:List V} {T Q O:List (List Int)} {F ps:List Int} {g:Gr} (hw:Wf h) (hm:Mac h n0 P vq vo 94 92 3 83 (wc g.ev) Q O qs os) (hB:Bx h bm [vo,vq]) (hbm:bm<h.next) (hbP:¬P bm) (hg:Gp g n T Q O F) (hn:n≤64)
  (hP:∀k,h.next≤k→P k) (hn0:n0≤h.next):FX m Tryz.prog 42 [.p bm 0] h fun v h'=>v=.u∧(∃Q' O' qs' os',Mac h' n0 P vq vo 94 92 3 83 (wc g.ev) Q' O' qs' os'∧Gp g n T Q' O' F∧Leads g ps n ⟨.en 0,T,Q,O,F⟩ ⟨.en n,T,Q',O',F⟩)∧Pr P h h':=by
 refine Fn.env c42 rfl ?_
 unfold s42
 have hLn:=hm.q.ln
 rw[hm.ql,hg.ql]at hLn
 refine go ?_
 refine Es.loop (X:=Nat × List (List Int) × List (List Int) × List V × List V) (fun x=>n-x.1) (fun x=>[(0,.p bm 0),(7,.i .i64 (n:Int)),(8,.i .i64 (x.1:Int))]) (fun x h'=>x.1≤n∧Mac h' n0 P vq vo 94 92 3 83 (wc g.ev) x.2.1 x.2.2.1 x.2.2.2.1 x.2.2.2.2∧Gp g n T x.2.1 x.2.2.1 F∧Leads g ps n ⟨.en 0,T,Q,O,F⟩ ⟨.en x.1,T,x.2.1,x.2.2.1,F⟩∧Pr P h h') (0,Q,O,qs,os) ⟨rfl,rfl,rfl,trivial⟩ ⟨Nat.zero_le _,hm,hg,.refl _,.refl _ _⟩ fun x h2 hx=>?_
 obtain⟨t,Q2,O2,qs2,os2⟩:=x
 clear hm hg hLn
 obtain⟨htn,hm2,hg2,hL2,p2⟩:=hx
 simp only at htn hm2 hg2 hL2 ⊢
 refine go ?_
 refine cD (fun hlt=>?_) (fun hge=>?_)
 ·skip
  refine go ?_
  refine Es.loop (X:=List (List Int) × List (List Int) × List V × List V) (fun y=>(gt y.1 t).length) (fun y=>[(0,.p bm 0),(2,.i .i64 (t:Int)),(7,.i .i64 (n:Int)),(8,.i .i64 (t:Int))]) (fun y h'=>Mac h' n0 P vq vo 94 92 3 83 (wc g.ev) y.1 y.2.1 y.2.2.1 y.2.2.2∧Gp g n T y.1 y.2.1 F∧Leads g ps n ⟨.en 0,T,Q,O,F⟩ ⟨.en t,T,y.1,y.2.1,F⟩∧Pr P h h') (Q2,O2,qs2,os2) ⟨rfl,rfl,rfl,rfl,trivial⟩ ⟨hm2,hg2,hL2,p2⟩ fun y h3 hy=>?_
  obtain⟨Q3,O3,qs3,os3⟩:=y
  clear hm2 hg2 hL2 p2
  obtain⟨hm3,hg3,hL3,p3⟩:=hy
  simp only at hm3 hg3 hL3 ⊢
  have hw3:=p3.wf hw
  have hB3:=p3.bx hB hbm hbP
  have e3:=p3.le
  have ht:t<n:=by omega
  have ht3:t<Q3.length:=by rw[hg3.ql];exact ht
  have hql:=hm3.ql
  refine go ?_
  refine stC (empty_spec (n:=(gt Q3 t).length) hB3 hm3.q.ro (by omega) (hm3.qr t ht3).ln) (fun v h4 ⟨hv,e⟩=>?_)
  obtain rfl:=e.symm
  subst hv
  refine go ?_
  refine cN (fun hne0=>?_) (fun he0=>?_)
  ·have hne:gt Q3 t≠[]:=fun e=>by rw[e]at hne0;exact hne0 rfl
   refine go ?_
   refine stC (pflush_spec hw3 hm3 hB3 (by omega) hbP ht3 (fun x hx=>?_) (fun k hk=>hP k (by omega)) (by omega) (by have:=hg3.sz;omega)) (fun v h4 ⟨_,⟨qs4,os4,hm4⟩,p4⟩=>?_)
   ·have h5:=hg3.q t ht x hx
    have h6:=hg3.ol
    exact⟨h5.1,h5.2.1,h5.2.2.2.1,by rw[h6];exact h5.2.2.2.2⟩
   ·skip
    refine go ?_
    exact Nx.inv ((flushP g.ev Q3 O3 t).1,(flushP g.ev Q3 O3 t).2,qs4,os4) (flush_less ht3 hne) ⟨rfl,rfl,rfl,rfl,trivial⟩ ⟨hm4,hg3.flush ht,hL3.next (next_enf ht hne),p3.trans p4⟩
  ·have he:gt Q3 t = []:=List.length_eq_zero_iff.1 (by omega)
   refine go ?_
   exact Nx.inv (t+1,Q3,O3,qs3,os3) (by simp only;omega) ⟨rfl,rfl,rfl,trivial⟩ ⟨by simp only;omega,hm3,hg3,hL3.next (next_ene ht he),p3⟩
 ·obtain rfl:t=n:=by omega
  refine go ?_
  exact end_0 ⟨rfl,⟨Q2,O2,qs2,os2,hm2,hg2,hL2⟩,p2⟩
theorem id_spec {m:Bool} {h:H} {x:Int}:FX m Tryz.prog 44 [.i .i64 x] h fun v h'=>v=.i .i64 x∧h'=h:=by
 refine Fn.env c44 rfl ?_
 unfold s44
 refine go ?_
 exact ret_1 ⟨rfl,rfl⟩
structure Fil (h:H) (n0:Nat) (cs:List V) (O:List (List Int)) (n:Nat):Prop where
 len:cs.length=O.length
 row:∀i,i<n→Gw h n0 (gt cs i) 1 3 icell (gt O i)
 dis:∀i j,i<n→j<n→i≠j→∀k,(gt cs i).blk=some k→(gt cs j).blk≠some k
 rest:∀i,n≤i→i<O.length→gt cs i=V.ns
set_option maxHeartbeats 0 in
theorem orders_spec {m : Bool} {h : H} {n0 bm : Nat} {P : Nat → Prop} {vq vo : V} {qs os : List V} {Q O : List (List Int)} {ev : List Ev_} (hw : Wf h) (hm : Mac h n0 P vq vo 94 92 3 83 (wc ev) Q O qs os) (hB : Bx h bm [vo, vq]) (hO : O.length ≤ 4096) (hsz : lenT O ≤ 1000000) :
    FX m Tryz.prog 43 [.p bm 0, .fn (.func 44) [] []] h fun v h' => (∃ cs, Ar h' h.next v 1 27 vcell cs ∧ Fil h' h.next cs O O.length) ∧ Kp h h' := by
  refine Fn.env c43 rfl ?_
  unfold s43
  have hLo := hm.o.ln
  rw [hm.ol] at hLo
  refine go ?_
  refine ew_ms (α := V) (c := vcell) (n := O.length) .ns (fun v5 h1 hA1 k1 => ?_) (by omega) (by omega)
  have hw1 := k1.wf hw
  have hB1 := hB.kp k1 hw
  have hm1 := hm.kp k1
  have hCo := hm1.o.cs
  rw [hm.ol] at hCo
  have e1 := hA1.blk.2.1
  have e2 := hA1.blk.2.2
  have e3 := k1.le
  refine go ?_
  refine Es.loop (X := Nat × List V) (fun x => O.length - x.1) (fun x => [(0, .p bm 0), (1, .fn (.func 44) [] []), (5, v5), (21, vo), (22, .i .i64 (O.length : Int)), (23, .i .i64 (x.1 : Int))]) (fun x h' => x.1 ≤ O.length ∧ Pr (fun k => k = v5.ba) h1 h' ∧ Ar h' h.next v5 1 27 vcell x.2 ∧ Fil h' h1.next x.2 O x.1) (0, List.replicate O.length V.ns) ⟨rfl, rfl, rfl, rfl, rfl, rfl, trivial⟩ ⟨Nat.zero_le _, .refl _ _, hA1, ⟨List.length_replicate, fun i hi => absurd hi (Nat.not_lt_zero _), fun i j hi => absurd hi (Nat.not_lt_zero _), fun i _ hi => gt_rep hi⟩⟩ fun x hl hx => ?_
  obtain ⟨i, cs⟩ := x
  clear hA1
  obtain ⟨hi, pX, hA, hF⟩ := hx
  simp only at hi hA hF ⊢
  have kX := pX.kp k1 fun k hk => by omega
  have hwX := pX.wf hw1
  have hmX := hm.kp kX
  have hCo := hmX.o.cs
  rw [hm.ol] at hCo
  refine go ?_
  refine cD (fun hlt => ?_) (fun hge => ?_)
  · have hlt' : i < O.length := by omega
    have hrow := lenT_le hlt'
    obtain ⟨hLr, hCr⟩ := (hmX.or_ i hlt').ro
    have hLr : Ln (vcell (gt os i) 0) 3 (gt O i).length := hLr
    refine go ?_
    refine Es.loop (X := Nat × List V) (fun y => (gt O i).length - y.1) (fun y => [(0, .p bm 0), (1, .fn (.func 44) [] []), (5, v5), (6, .i .i64 (i : Int)), (7, vcell (gt os i) 0), (21, vo), (22, .i .i64 (O.length : Int)), (23, .i .i64 (i : Int)), (28, vcell (gt os i) 0), (29, .i .i64 ((gt O i).length : Int)), (30, .i .i64 (y.1 : Int))]) (fun y h' => y.1 ≤ (gt O i).length ∧ Pr (fun k => k = v5.ba) hl h' ∧ Ar h' h.next v5 1 27 vcell (cs.set i (gt y.2 0)) ∧ Gw h' hl.next (gt y.2 0) 1 3 icell ((gt O i).take y.1)) (0, [.ns]) ⟨rfl, rfl, rfl, rfl, rfl, rfl, rfl, rfl, rfl, rfl, rfl, trivial⟩ ⟨Nat.zero_le _, .refl _ _, by
      have h1 : cs.set i (gt [V.ns] 0) = cs := by
        have h2 : gt [V.ns] 0 = gt cs i := (hF.rest i (Nat.le_refl _) hlt').symm
        rw [h2]
        exact set_gt (by rw [hF.len]; exact hlt')
      rw [h1]
      exact hA, by rw [List.take_zero]; exact .nil⟩ fun y hy hJ => ?_
    obtain ⟨j, w1⟩ := y
    obtain ⟨hj, pY, hAY, hGY⟩ := hJ
    simp only at hj hAY hGY ⊢
    obtain ⟨w, hww⟩ : ∃ w, gt w1 0 = w := ⟨_, rfl⟩
    rw [hww] at hAY hGY
    clear hww w1
    have kY := (pX.trans pY).kp k1 fun k hk => by omega
    have hwY := pY.wf hwX
    have hmY := hm.kp kY
    have hCr : Cs hy (vcell (gt os i) 0) 3 (gt O i).length fun j k => wc ev (gt (gt O i) j) k := (hmY.or_ i hlt').ro.cs
    have hLv := hAY.ln
    rw [List.length_set, hF.len] at hLv
    have hCv : Ce hy v5.ba (v5.of + i * 1) w := by
      have := hAY.cs.eq i 0 (by rw [List.length_set, hF.len]; exact hlt') (by decide)
      rw [gt_set (by rw [hF.len]; exact hlt'), if_pos rfl] at this
      exact this
    clear hCo
    refine go ?_
    refine cD (fun hlt2 => ?_) (fun hge2 => ?_)
    · skip
      refine go ?_
      refine ew_al fun b9 h2 ob9 k2 => ?_
      refine ew_st ob9 fun h3 obA m3 => ?_
      have k3 : Kp hy h3 := m3.kp k2 fun j hj => by injection hj with hj; subst hj; exact ob9.lo
      have hw3 := k3.wf hwY
      have f1 := ob9.lo
      have hB9 : Bx h3 b9 (upto (wc ev (gt (gt O i) j)) 3 0) := obA.bx
      have hCv3 : Ce h3 v5.ba (v5.of + i * 1) w := hCv.kp k3 hwY
      have hA3 := hAY.mo (Mo.of_kp k3 none) (fun e => by cases e)
      have hG3 := hGY.mo (Mo.of_kp k3 none) (fun _ _ e => by cases e)
      have f2 := k3.le
      have f3 := pY.le
      have f4 := pX.le
      clear hCr hCv
      refine gol ?_
      refine em_cv .n rfl rfl (id_spec (x := gt (gt O i) j)) (fun v h4 ⟨hv, e⟩ => ⟨⟨fun _ => by rw [e]; exact FCe.of hCv3, trivial⟩, ?_⟩)
      obtain rfl := e.symm
      subst hv
      refine em_bs (l := upto (icell (gt (gt O i) j)) 1 0) rfl rfl rfl ⟨fun _ => FCe.of (Ce.kp kp_new hw3 hCv3), trivial⟩ ?_
      have k4 : Kp h3 (h3.new 3 (upto (icell (gt (gt O i) j)) 1 0) false) := kp_new
      have hrw : Rw (h3.new 3 (upto (icell (gt (gt O i) j)) 1 0) false) h3.next (1 * 1) 0 (upto (icell (gt (gt O i) j)) 1 0) := rw_new3 rfl
      have hG4 := hG3.mo (Mo.of_kp k4 none) (fun _ _ e => by cases e)
      have hA4 := hA3.mo (Mo.of_kp k4 none) (fun e => by cases e)
      have f5 := k4.le
      have htk : ((gt O i).take j).length = j := by rw [List.length_take]; omega
      refine em_gx (n0 := hl.next) (gt (gt O i) j) hG4.gx rfl rfl hrw ione' (by decide) (by omega) (by omega) (fun h9 m9 => ⟨fun (hk : some 11 ∈ [none, some 9, some 10]) => absurd hk (by decide), trivial⟩) fun v' h5 hbk5 hG5 m5 => ?_
      rw [← take_gt (by omega)] at hG5
      refine go ?_
      have o5 := hG5.ln.one
      have hwv : ∀ k, w.blk = some k → hl.next ≤ k := fun k hk => (hGY.blk k hk).1
      have hA5 := hA4.mo m5 fun e => by have := hwv _ e; omega
      refine em_arQ v' hA5 (i := i) (by rw [List.length_set, hF.len]; exact hlt') (fun h6 hA6 m6 => ?_) (hv := cells_one5 o5) (h1 := allOne_cons o5 rfl) (hl := fun h' _ => ⟨fun (hk : some 13 ∈ [none, some 9, some 10]) => absurd hk (by decide), trivial⟩)
      rw [List.set_set] at hA6
      refine go ?_
      exact Nx.inv (j + 1, [v']) (by simp only; omega) ⟨rfl, rfl, rfl, rfl, rfl, rfl, rfl, rfl, rfl, rfl, rfl, trivial⟩ ⟨by simp only; omega, (((pY.trans (Pr.of_kp k3)).trans (Pr.of_kp k4)).mo_hi m5 fun k hk => .inr (hwv k hk)).trans (Pr.of_mo m6 fun k hk => by injection hk with hk; exact hk.symm), hA6, hG5.mo m6 fun k hk e => by injection e with e; have := (hG5.blk k hk).1; omega⟩
    · obtain rfl : j = (gt O i).length := by omega
      rw [List.take_length] at hGY
      refine go ?_
      have hne : ∀ s, s < i → ∀ k, (gt cs s).blk = some k → k < hl.next := fun s hs k hk => ((hF.row s hs).blk k hk).2
      have f6 := pX.le
      exact Nx.inv (i + 1, cs.set i w) (by simp only; omega) ⟨rfl, rfl, rfl, rfl, rfl, rfl, trivial⟩ ⟨by simp only; omega, pX.trans pY, hAY,
        { len := by rw [List.length_set]; exact hF.len
          row := fun s hs => by
            simp only at hs ⊢
            rw [gt_set (by rw [hF.len]; exact hlt')]
            by_cases e : s = i
            · rw [if_pos e, e]; exact hGY.low f6
            · rw [if_neg e]; exact pY.gw (hF.row s (by omega)) fun k hk e2 => by have := ((hF.row s (by omega)).blk k hk).1; omega
          dis := fun s r hs hr hsr k hk => by
            simp only at hs hr
            rw [gt_set (by rw [hF.len]; exact hlt')] at hk ⊢
            by_cases e : s = i
            · rw [if_pos e] at hk
              rw [if_neg (by omega)]
              exact fun e2 => by have := hne r (by omega) k e2; have := (hGY.blk k hk).1; omega
            · rw [if_neg e] at hk
              by_cases e2 : r = i
              · rw [if_pos e2]
                exact fun e3 => by have := hne s (by omega) k hk; have := (hGY.blk k e3).1; omega
              · rw [if_neg e2]; exact hF.dis s r (by omega) (by omega) hsr k hk
          rest := fun s hs hs2 => by
            simp only at hs
            rw [gt_set (by rw [hF.len]; exact hlt'), if_neg (by omega)]
            exact hF.rest s (by omega) hs2 }⟩
  · obtain rfl : i = O.length := by omega
    refine go ?_
    exact ret_1 ⟨⟨cs, hA, { hF with row := fun s hs => (hF.row s hs).low e3 }⟩, kX⟩
def s97 : Sc:=(.seq (.region [Y 2 (.al 88 [.ns]) []]) (.seq (.region [Y 5 (.mv (.t 0)) [0],Y 6 (.ms 92 1 24 [.ns] (.t 5)
  (.t 5)) [5,5],Y 7 (.bd [.ns] [(0,1,.t 6)]) [6],Y 3 (.al 88 [.ns]) [],⟨none,none,.st (.t 3) (.t 7) 1,[3,7]⟩])
  (.seq (.seq (.region [Y 8 (.fa (.t 3) 0) [3],Y 9 (.ld (.t 8)) [8],Y 10 (.len (.t 9)) [9],
 Y 11 (.mv (.c (.i .i64 0))) []]) (.block 0 (.loop (.seq (.region [Y 12 (.ar .lss (.t 11) (.t 10)) [11,10]])
  (.seq (.cond (.t 12) .skip (.exit 0)) (.seq (.block 1 (.seq (.region [Y 13 (.mv (.t 11)) [11],
 Y 4 (.mv (.t 13)) [13]]) (.region [Y 14 (.fa (.t 3) 0) [3],Y 15 (.ld (.t 14)) [14],Y 16 (.mv (.t 4)) [4],
 Y 17 (.mv (.t 4)) [4],Y 18 (.mv (.t 4)) [4],Y 19 (.bd [.i .i64 0,.i .i64 0,.i .u64 0] [(0,1,.t 17),
 (1,1,.t 18),(2,1,.c (.i .u64 0))]) [17,18],
 Y 20 (.bs 83 1 3 [.i .i64 0,.i .i64 0,.i .u64 0] [(0,3,.t 19)]) [19],Y 21 (.ia (.t 15) (.t 16) 1) [15,16],
 ⟨none,none,.st (.t 21) (.t 20) 1,[21,20]⟩]))) (.region [Y 22 (.ar .add (.t 11) (.c (.i .i64 1))) [11],
 Y 11 (.mv (.t 22)) [22]]))))))) (.seq (.region [Y 23 (.lds (.t 3) 1) [3],⟨none,none,.st (.t 2)
  (.t 23) 1,[2,23]⟩]) .ret))))
set_option maxRecDepth 100000 in
theorem c97:fnB Tryz.prog 97=some (24,s97,[.c (.lds (.t 2) 1)]):=by kernel_rfl
def s33 : Sc:=(.seq (.region [Y 4 (.mv (.c .np)) []]) (.seq (.mix [(Y 5 (.mv (.t 0)) [0],.q [none]),
 (Y 6 (.call 97 [.t 5]) [5],.e),(Y 7 (.mv (.t 1)) [1],.q [none,some 1]),(Y 8 (.ms 94 1 24 [.ns] (.t 7)
  (.t 7)) [7,7],.soft),(Y 9 (.bd [.ns,.ns] [(0,1,.t 6),(1,1,.t 8)]) [6,8],.q [some 1]),
 (Y 10 (.bx 91 (.t 9)) [9],.e),(Y 4 (.mv (.t 10)) [10],.q [some 5])]) .ret))
set_option maxRecDepth 100000 in
theorem c33:fnB Tryz.prog 33=some (11,s33,[.t 4]):=by kernel_rfl
structure LiG (h:H) (n0:Nat) (v:V) (sz:Nat) (c:Int→Nat→V) (x:Int):Prop where
 is:∃b,v=.sl b 0 1 1 true sz∧n0≤b∧b<h.next
 ro:Ro h v sz c [x]
section
variable {h h':H} {n0 sz:Nat} {v:V} {c:Int→Nat→V} {x:Int}
theorem LiG.mo {b:Option Nat} (m:Mo h h' b) (hl:LiG h n0 v sz c x) (hb:∀k,v.blk=some k→b≠some k):LiG h' n0 v sz c x:=by
 obtain⟨⟨b',rfl,h1,h2⟩,h3⟩:=hl
 exact⟨⟨b',rfl,h1,Nat.lt_of_lt_of_le h2 m.le⟩,h3.ln,h3.cs.mo m fun _=>⟨h2,hb b' rfl⟩⟩
theorem LiG.low {n1:Nat} (hl:LiG h n0 v sz c x) (hn:n1≤n0):LiG h n1 v sz c x:=by
 obtain⟨⟨b',h0,h1,h2⟩,h3⟩:=hl
 exact⟨⟨b',h0,Nat.le_trans hn h1,h2⟩,h3⟩
theorem LiG.gx {ty:TypeId} (hl:LiG h n0 v sz c x):Gx h n0 v sz ty c [x]:=by
 obtain⟨⟨b,rfl,h1,h2⟩,h3⟩:=hl
 exact⟨h3.ln,h3.cs,.inr (.inr ⟨b,rfl,Nat.zero_lt_one,h1,h2⟩)⟩
theorem LiG.cell (hl:LiG h n0 v sz c x) (hsz:0<sz) {k:Nat} (hk:v.blk=some k):h.cell k 0=some (c x 0)∧n0≤k∧k<h.next:=by
 obtain⟨⟨b,rfl,h1,h2⟩,h3⟩:=hl
 injection hk with hk
 subst hk
 have:=(h3.cs.eq 0 0 Nat.zero_lt_one hsz).eq
 rw[Nat.zero_mul]at this
 exact⟨this,h1,h2⟩
theorem lit_new {ty:TypeId} {l:List V} (hl:l=upto (c x) sz 0):LiG (h.new ty l false) h.next (.sl h.next 0 1 1 true sz) sz c x:=by
 refine⟨⟨h.next,rfl,Nat.le_refl _,Nat.lt_succ_self _⟩,.sl (Nat.le_refl _),⟨fun i k hi hk=>⟨?_⟩⟩⟩
 obtain rfl:i=0:=by simp only[List.length_singleton]at hi;omega
 show(h.new ty l false).cell h.next (0+0*sz+k)=_
 rw[new_cell,if_pos rfl,show 0+0*sz+k=k by rw[Nat.zero_mul];omega,hl,upto_get _ _ _ _ hk,Nat.zero_add]
 rfl
theorem Mac.newG {n cn : Nat} {vq vo : V} {tq to_ ty : TypeId} {ws : List V} (hsz : 0 < sz) (hq : Ar h n0 vq 1 tq vcell (List.replicate n V.ns)) (ho : Ar h n0 vo 1 to_ vcell ws) (hne : vq.ba ≠ vo.ba) (hl : ws.length = cn) (hr : ∀ i, i < cn → LiG h n0 (gt ws i) sz c i) (hc : ∀ i, i < cn → c i 0 = .i .i64 i) : Mac h n0 (fun k => n0 ≤ k) vq vo tq to_ sz ty c (List.replicate n []) (begO cn) (List.replicate n V.ns) ws := by
  have hol : (begO cn).length = cn := by unfold begO; rw [List.length_map, List.length_range]
  have hns : ∀ t, t < (List.replicate n ([] : List Int)).length → gt (List.replicate n V.ns) t = V.ns := fun t ht => by
    rw [List.length_replicate] at ht
    exact gt_rep ht
  have hqc : ∀ x : Int, h.cell vq.ba 0 ≠ some (.i .i64 x) := fun x e => by
    obtain ⟨b, p, hb, h1, h2, h3⟩ := hq.own
    cases n with
    | zero =>
      rw [hb] at e
      have := cell_hi h3 (o := 0) (Nat.le_of_eq rfl)
      rw [show (V.sl b 0 (List.replicate 0 V.ns).length (List.replicate 0 V.ns).length true 1).ba = b from rfl, this] at e
      cases e
    | succ n =>
      have h4 := (hq.cs.eq 0 0 (by rw [List.length_replicate]; omega) Nat.zero_lt_one).eq
      rw [hb] at h4 e
      have h4 : h.cell b 0 = some (gt (List.replicate (n + 1) V.ns) 0) := h4
      have e : h.cell b 0 = some (.i .i64 x) := e
      rw [h4, gt_rep (Nat.zero_lt_succ _)] at e
      cases e
  have hoc : 0 < cn → ∀ x : Int, h.cell vo.ba 0 ≠ some (.i .i64 x) := fun h0 x e => by
    obtain ⟨b, p, hb, h1, h2, h3⟩ := ho.own
    have h4 := (ho.cs.eq 0 0 (by omega) Nat.zero_lt_one).eq
    rw [hb] at h4 e
    have h4 : h.cell b 0 = some (gt ws 0) := h4
    have e : h.cell b 0 = some (.i .i64 x) := e
    obtain ⟨⟨b', h5, _⟩, _⟩ := hr 0 h0
    rw [h4, h5] at e
    cases e
  exact
  { q := hq
    o := ho
    ql := by rw [List.length_replicate, List.length_replicate]
    ol := by rw [hl, hol]
    qr := fun t ht => by
      rw [hns t ht]
      rw [List.length_replicate] at ht
      rw [gt_rep ht]
      exact .nil
    or_ := fun x hx => by
      rw [hol] at hx
      have : gt (begO cn) x = [(x : Int)] := gt_mapR hx
      rw [this]
      exact (hr x hx).gx
    hd := hne
    qa := fun t ht k hk => by rw [hns t ht] at hk; cases hk
    oa := fun x hx k hk => by
      rw [hol] at hx
      obtain ⟨h1, h2, -⟩ := (hr x hx).cell hsz hk
      rw [hc x hx] at h1
      exact ⟨fun e => hqc x (by rw [← e]; exact h1), fun e => hoc (by omega) x (by rw [← e]; exact h1), h2⟩
    qq := fun s t hs ht hne k hk => by rw [hns s hs] at hk; cases hk
    oo := fun s t hs ht hne k hk hk' => by
      rw [hol] at hs ht
      have h1 := ((hr s hs).cell hsz hk).1
      have h2 := ((hr t ht).cell hsz hk').1
      rw [h1, hc s hs, hc t ht] at h2
      injection h2 with h2
      injection h2 with _ h2
      omega
    qo := fun s t hs ht k hk => by rw [hns s hs] at hk; cases hk
    pq := hq.blk.2.1
    po := ho.blk.2.1 }
end
set_option maxHeartbeats 0 in
theorem newmem_spec {m:Bool} {h:H} {c:Nat} {ev:List Ev_} (hw:Wf h) (hc:c≤4096) (hin:∀i,i<c→(gt ev i).loc=i∧(gt ev i).val=0):FX m Tryz.prog 97 [.i .i64 (c:Int)] h fun v h'=>(∃vo ws,v=.agg [vo]∧Ar h' h.next vo 1 92 vcell ws∧ws.length=c∧∀i,i<c→LiG h' h.next (gt ws i) 3 (wc ev) i)∧Kp h h':=by
 refine Fn.env c97 rfl ?_
 unfold s97
 refine Es.seq (Es.region (ew_al fun b2 h1 ob2 k1=>?_))
 refine go ?_
 refine ew_ms (α:=V) (c:=vcell) (n:=c) .ns (fun vo h2 hO2 k2=>?_) (by omega) (by omega)
 have o1:=hO2.ln.one
 have hfl:fillL [.ns] [(0,1,vo)]=some [vo]:=by
  simp only[fillL,cells_one5 o1]
  rfl
 refine ewN (stS (v:=.agg [vo]) (hd:=od_bd rfl hfl) ?_)
 refine ew_al fun b3 h3 ob3 k3=>?_
 refine ew_st ob3 (fun h4 ob4 m4=>?_) (h1:=allOne_cons o1 rfl)
 have k4:Kp h2 h4:=m4.kp k3 fun k hk=>by injection hk with hk;subst hk;exact ob3.lo
 have e1:=ob2.lo
 have e2:=ob2.hi
 have e3:=ob3.lo
 have e4:=k1.le
 have e5:=k2.le
 have e6:=hO2.blk.2.1
 have e7:=hO2.blk.2.2
 have e8:=k4.le
 have e9:=ob4.hi
 have k04:=k1.trans (k2.trans k4)
 have hB3:Bx h4 b3 [vo]:=ob4.bx
 have hO4:=hO2.mo (Mo.of_kp k4 none) (fun e=>by cases e)
 have ob2:=ob2.mo (Mo.of_kp (k2.trans k4) none) (fun e=>by cases e)
 have hLo:=hO4.ln
 rw[List.length_replicate]at hLo
 have hw4:=k04.wf hw
 refine go ?_
 refine Es.loop (X:=Nat × List V) (fun x=>c-x.1) (fun x=>[(2,.p b2 0),(3,.p b3 0),(10,.i .i64 (c:Int)),(11,.i .i64 (x.1:Int))]) (fun x h'=>x.1≤c∧Pr (fun k=>k=vo.ba) h4 h'∧Ar h' h1.next vo 1 92 vcell x.2∧x.2.length=c∧∀i,i<x.1→LiG h' h4.next (gt x.2 i) 3 (wc ev) i) (0,List.replicate c .ns) ⟨rfl,rfl,rfl,rfl,trivial⟩ ⟨Nat.zero_le _,.refl _ _,hO4,List.length_replicate,fun i hi=>absurd hi (Nat.not_lt_zero _)⟩ fun x hl hx=>?_
 obtain⟨i,ws⟩:=x
 clear hO4
 obtain⟨hic,pX,hO,hwl,hI⟩:=hx
 simp only at hic hO hwl hI ⊢
 have hB:=pX.bx hB3 (by omega) (by omega)
 have hwX:=pX.wf hw4
 refine go ?_
 refine cD (fun hlt=>?_) (fun hge=>?_)
 ·have hli:i<c:=by omega
  refine go ?_
  refine ew_s .n (od_bs (l:=[.i .i64 (i:Int),.i .i64 (i:Int),.i .u64 0]) rfl rfl rfl) ?_
  have hval:[V.i .i64 (i:Int),V.i .i64 (i:Int),V.i .u64 0]=upto (wc ev (i:Int)) 3 0:=by
   show _ = [wc ev (i:Int) 0,wc ev (i:Int) 1,wc ev (i:Int) 2]
   unfold wc
   rw[Int.toNat_natCast,(hin i hli).1,(hin i hli).2]
   rfl
  have hle0:=pX.le
  have hli':=lit_new (h:=hl) (ty:=83) hval
  have kn:Kp hl (hl.new 83 [.i .i64 (i:Int),.i .i64 (i:Int),.i .u64 0] false):=kp_new
  have hO:=hO.mo (Mo.of_kp kn none) (fun e=>by cases e)
  have hI:∀j,j<i→LiG (hl.new 83 [.i .i64 (i:Int),.i .i64 (i:Int),.i .u64 0] false) h4.next (gt ws j) 3 (wc ev) j:=fun j hj=>(hI j hj).mo (Mo.of_kp kn none) fun k _ h=>by cases h
  have pX:=pX.trans (Pr.of_kp (P:=fun k=>k=vo.ba) kn)
  have hle:=pX.le
  generalize hvv:(.sl hl.next 0 1 1 true 3:V)=vv at hli' ⊢
  generalize hl.new 83 [.i .i64 (i:Int),.i .i64 (i:Int),.i .u64 0] false=h7 at hli' hO hI pX hle ⊢
  have hv1:vv.one=true:=by rw[←hvv];rfl
  clear kn hB
  refine go ?_
  refine ew_ar vv hO (i:=i) (by omega) (fun h8 hO8 m8=>?_) (hv:=cells_one5 hv1) (h1:=allOne_cons hv1 rfl)
  have hne:∀k,h4.next≤k→some vo.ba≠some k:=fun k hk e=>by injection e with e;omega
  refine go ?_
  exact Nx.inv (i+1,ws.set i vv) (by simp only;omega) ⟨rfl,rfl,rfl,rfl,trivial⟩ ⟨by simp only;omega,pX.trans (Pr.of_mo m8 fun k hk=>by injection hk with hk;exact hk.symm),hO8,by rw[List.length_set];exact hwl,fun s hs=>by
   simp only at hs ⊢
   rw[gt_set (by omega)]
   by_cases e:s=i
   ·rw[if_pos e,e]
    exact(hli'.mo m8 fun k hk=>hne k (by have:=(hli'.cell (by decide) hk).2.1;omega)).low hle0
   ·rw[if_neg e]
    exact(hI s (by omega)).mo m8 fun k hk=>hne k ((hI s (by omega)).cell (by decide) hk).2.1⟩
 ·obtain rfl:i=c:=by omega
  have ob2X:=pX.ob ob2 (by omega)
  have hle:=pX.le
  refine go ?_
  refine ew_st ob2X (fun h7 ob7 m7=>?_) (h1:=allOne_cons o1 rfl)
  have hB7:Bx h7 b2 [vo]:=ob7.bx
  have kZ:=m7.kp (pX.kp k04 fun k hk=>by omega) fun k hk=>by injection hk with hk;omega
  refine go ?_
  exact ret_c (v:=.agg [vo]) (od_lds rfl (rw_b hB7 rfl)) ⟨⟨vo,ws,rfl,(hO.mo m7 fun e=>by injection e with e;omega).low (by omega),hwl,fun s hs=>((hI s hs).mo m7 fun k hk e=>by injection e with e;have:=((hI s hs).cell (by decide) hk).2.1;omega).low (by omega)⟩,kZ⟩
set_option maxHeartbeats 0 in
theorem newmach_spec {m:Bool} {h:H} {c n:Nat} {ev:List Ev_} (hw:Wf h) (hc:c≤4096) (hn:n≤64) (hin:∀i,i<c→(gt ev i).loc=i∧(gt ev i).val=0):FX m Tryz.prog 33 [.i .i64 (c:Int),.i .i64 (n:Int)] h fun v h'=>(∃bm vq vo ws,v=.p bm 0∧Ob h' h.next bm 91 [vo,vq]∧Mac h' h.next (fun k=>h.next≤k∧k≠bm) vq vo 94 92 3 83 (wc ev) (List.replicate n []) (begO c) (List.replicate n .ns) ws)∧Kp h h':=by
 refine Fn.env c33 rfl ?_
 unfold s33
 refine go ?_
 refine mC (newmem_spec hw hc hin) (fun v h1 ⟨⟨vo,ws,hv,hO,hwl,hI⟩,k1⟩=>⟨trivial,?_⟩)
 subst hv
 refine go ?_
 refine em_ms (α:=V) (c:=vcell) (n:=n) .ns (fun vq h2 hQ k2=>?_) (by omega) (by omega)
 have o1:=hO.ln.one
 have o2:=hQ.ln.one
 have hfl:fillL [.ns,.ns] [(0,1,.agg [vo]),(1,1,vq)]=some [vo,vq]:=by
  simp only[fillL,cells_one5 o2]
  rfl
 refine emN (mS (v:=.agg [vo,vq]) (hd:=⟨fun _=>od_bd rfl hfl⟩) ?_)
 refine em_bx (fun bm h3 ob3 k3=>?_) (hz:=allOne_cons o1 (allOne_cons o2 rfl))
 have e1:=k1.le
 have e2:=k2.le
 have e3:=k3.le
 have e4:=ob3.lo
 have e5:=hO.blk.2.2
 have e6:=hQ.blk.2.1
 have hM:=Mac.newG (ty:=83) (n:=n) (by decide) (hQ.low e1) (hO.mo (Mo.of_kp k2 none) fun e=>by cases e) (by omega) hwl (fun i hi=>(hI i hi).mo (Mo.of_kp k2 none) fun k _ h=>by cases h) (fun i hi=>by
  show V.i .i64 (gt ev (i:Int).toNat).loc=_
  rw[Int.toNat_natCast,(hin i hi).1])
 have hM2:=(hM.chP (P':=fun k=>h.next≤k∧k≠bm) fun k hk hp=>⟨hp,by omega⟩).kp k3
 refine go ?_
 exact ret_1 ⟨⟨bm,vq,vo,ws,rfl,ob3.low (by omega),hM2⟩,k1.trans (k2.trans k3)⟩
def s30 : Sc:=(.seq (.region [Y 1 (.bx 26 (.t 0)) [0],Y 2 (.mv (.c .ns)) []])
  (.seq (.region [Y 3 (.mv (.c (.i .i64 0))) []]) (.seq (.seq (.region [Y 9 (.fa (.t 1) 1) [1],
 Y 10 (.ld (.t 9)) [9],Y 11 (.len (.t 10)) [10],Y 12 (.mv (.c (.i .i64 0))) []])
  (.block 0 (.loop (.seq (.region [Y 13 (.ar .lss (.t 12) (.t 11)) [12,11]])
  (.seq (.cond (.t 13) .skip (.exit 0)) (.seq (.block 1 (.seq (.region [Y 14 (.ia (.t 10) (.t 12) 5) [10,12],
 Y 15 (.lds (.t 14) 5) [14],Y 5 (.al 37 [.i .i64 0,.i .i64 0,.i .i64 0,.i .u64 0,.i .i64 0]) [],
 ⟨none,none,.st (.t 5) (.t 15) 5,[5,15]⟩]) (.region [Y 16 (.mv (.t 3)) [3],Y 17 (.fa (.t 5) 0) [5],
 Y 18 (.ld (.t 17)) [17],Y 19 (.ar .add (.t 18) (.c (.i .i64 1))) [18],Y 20 (.mx (.t 16) [.t 19]) [16,19],
 Y 3 (.mv (.t 20)) [20]]))) (.region [Y 21 (.ar .add (.t 12) (.c (.i .i64 1))) [12],
 Y 12 (.mv (.t 21)) [21]]))))))) (.seq (.region [Y 22 (.mv (.t 3)) [3],Y 23 (.ms 27 1 24 [.ns] (.t 22)
  (.t 22)) [22,22],Y 6 (.mv (.t 23)) [23]]) (.seq (.seq (.region [Y 24 (.fa (.t 1) 1) [1],
 Y 25 (.ld (.t 24)) [24],Y 26 (.len (.t 25)) [25],Y 27 (.mv (.c (.i .i64 0))) []])
  (.block 2 (.loop (.seq (.region [Y 28 (.ar .lss (.t 27) (.t 26)) [27,26]])
  (.seq (.cond (.t 28) .skip (.exit 2)) (.seq (.block 3 (.seq (.region [Y 29 (.mv (.t 27)) [27],
 Y 30 (.ia (.t 25) (.t 27) 5) [25,27],Y 31 (.lds (.t 30) 5) [30],
 Y 8 (.al 37 [.i .i64 0,.i .i64 0,.i .i64 0,.i .u64 0,.i .i64 0]) [],Y 7 (.mv (.t 29)) [29],
 ⟨none,none,.st (.t 8) (.t 31) 5,[8,31]⟩]) (.seq (.region [Y 32 (.fa (.t 8) 0) [8],Y 33 (.ld (.t 32)) [32],
 Y 34 (.ar .geq (.t 33) (.c (.i .i64 0))) [33]]) (.cond (.t 34)
  (.mix [(Y 35 (.mv (.t 6)) [6],.q [none,some 9,some 10]),(Y 36 (.fa (.t 8) 0) [8],.q [none,some 9,some 10]),
 (Y 37 (.ld (.t 36)) [36],.q [none,some 9,some 10]),(Y 38 (.mv (.t 6)) [6],.q [none,some 9]),
 (Y 39 (.fa (.t 8) 0) [8],.q [none,some 9]),(Y 40 (.ld (.t 39)) [39],.q [none,some 9]),(Y 41 (.ia (.t 38)
  (.t 40) 1) [38,40],.q [none,some 9]),(Y 42 (.ld (.t 41)) [41],.q [none,some 9]),
 (Y 43 (.mv (.t 7)) [7],.q [none]),(Y 44 (.bs 3 1 1 [.i .i64 0] [(0,1,.t 43)]) [43],.e),
 (Y 45 (.ap 3 1 8 (.t 42) (.t 44)) [42,44],.e),(Y 46 (.ia (.t 35) (.t 37) 1) [35,37],.q [some 10]),
 (⟨none,none,.st (.t 46) (.t 45) 1,[46,45]⟩,.e)]) .skip)))) (.region [Y 47 (.ar .add (.t 27)
  (.c (.i .i64 1))) [27],Y 27 (.mv (.t 47)) [47]]))))))) (.seq (.region [Y 48 (.mv (.t 6)) [6],
 Y 2 (.mv (.t 48)) [48]]) .ret))))))
set_option maxRecDepth 100000 in
theorem c30:fnB Tryz.prog 30=some (49,s30,[.t 2]):=by kernel_rfl
theorem rw_newn {h:H} {ty:TypeId} {l:List V} {n:Nat} (hn:l.length=n):Rw (h.new ty l false) h.next n 0 l:=⟨by
 have:=rowC_of (h:=h.new ty l false) (b:=h.next) (o:=0) (l:=l) fun j _=>by rw[new_cell,if_pos rfl,Nat.zero_add]
 rwa [hn]at this⟩
set_option maxHeartbeats 0 in
theorem pthreads_spec {m:Bool} {h:H} {gl:List V} {g:Gr} (hw:Wf h) (hg:GrAt h gl g) (hn:g.ev.length≤256) (ht:∀i,i<g.ev.length→-1≤(gt g.ev i).thread∧(gt g.ev i).thread<64) (n:Nat) (hN:thrN g.ev g.ev.length=n):FX m Tryz.prog 30 [.agg gl] h fun v h'=>(∃vs:List V,Ar h' h.next v 1 27 vcell vs∧vs.length=n∧∀t,t<n→Gw h' h.next (gt vs t) 1 3 icell (threadL g.ev t g.ev.length))∧Kp h h':=by
 have hone:=hg.one
 obtain⟨ve,vrf,vco,vrmw,vad,vda,vct,rfl,he,-⟩:=hg.is
 refine Fn.env c30 rfl ?_
 unfold s30
 refine Es.seq (Es.region (ew_bx (hz:=hone) fun b1 h1 ob1 k1=>?_))
 have hw1:=k1.wf hw
 have hB1:=ob1.bx
 obtain⟨hL,hC1⟩:=he.kp k1 hw
 have e1:=ob1.lo
 have e2:=ob1.hi
 have e3:=k1.le
 refine go ?_
 refine Es.toB (X:=Unit) (fun _=>[(1,.p b1 0),(3,.i .i64 (n:Int))]) (fun _ h'=>Kp h1 h') ?_ fun _ hL2 k2=>?_
 ·refine Es.loop (X:=Nat) (fun x=>g.ev.length-x) (fun x=>[(1,.p b1 0),(3,.i .i64 (thrN g.ev x)),(10,ve),(11,.i .i64 (g.ev.length:Int)),(12,.i .i64 (x:Int))]) (fun x h'=>x≤g.ev.length∧Kp h1 h') 0 ⟨rfl,rfl,rfl,rfl,rfl,trivial⟩ ⟨Nat.zero_le _,.refl _⟩ fun i h2 hx=>?_
  obtain⟨hi,k2⟩:=hx
  have hw2:=k2.wf hw1
  have hC:=hC1.kp k2 hw1
  refine go ?_
  refine cD (fun hlt=>?_) (fun hge=>?_)
  ·have hti:=ht i (by omega)
   refine go ?_
   refine ew_al fun b5 h3 ob3 k3=>?_
   refine ew_st ob3 fun h4 ob4 m4=>?_
   have k4:Kp h2 h4:=m4.kp k3 fun j hj=>by injection hj with hj;subst hj;exact ob3.lo
   have hB5:Bx h4 b5 (upto (ecell (gt g.ev i)) 5 0):=ob4.bx
   have hct:Ce h4 b5 0 (.i .i64 (gt g.ev i).thread):=hB5.eq 0 _ rfl
   clear hB5
   refine go ?_
   exact Nx.inv (i+1) (by omega) ⟨rfl,rfl,rfl,rfl,rfl,trivial⟩ ⟨by omega,k2.trans k4⟩
  ·obtain rfl:i=g.ev.length:=by omega
   rw[hN]
   refine go ?_
   exact Nx.to () ⟨rfl,rfl,trivial⟩ k2
 have hw2:=k2.wf hw1
 have hB2:=hB1.kp k2 hw1
 have hC2:=hC1.kp k2 hw1
 have hn64:n≤64:=by
  have:=(thrN_le (l:=g.ev) (n:=g.ev.length) fun i hi=>(ht i hi).2).2
  omega
 refine go ?_
 refine ew_ms (α:=V) (c:=vcell) (n:=n) .ns (fun v6 h3 hA3 k3=>?_) (by omega) (by omega)
 have hw3:=k3.wf hw2
 have hB3:=hB2.kp k3 hw2
 have hC3:=hC2.kp k3 hw2
 have k03:=k1.trans (k2.trans k3)
 have e4:=k2.le
 have e5:=k3.le
 have e6:=hA3.blk.2.1
 have e7:=hA3.blk.2.2
 have hve:Ro h3 ve 5 ecell g.ev:=he.kp k03 hw
 have hveP:0<g.ev.length→ve.ba≠v6.ba:=fun h0 e=>by
  have:=(he.cs.eq 0 0 h0 (by decide)).lt hw
  omega
 clear hC1 hC2 hB2
 refine go ?_
 refine Es.loop (X:=Nat × List V) (fun x=>g.ev.length-x.1) (fun x=>[(6,v6),(25,ve),(26,.i .i64 (g.ev.length:Int)),(27,.i .i64 (x.1:Int))]) (fun x h'=>x.1≤g.ev.length∧Pr (fun k=>k=v6.ba) h3 h'∧Ar h' hL2.next v6 1 27 vcell x.2∧x.2.length=n∧(∀t,t<n→Gw h' h3.next (gt x.2 t) 1 3 icell (threadL g.ev t x.1))∧∀s t,s<n→t<n→s≠t→∀k,(gt x.2 s).blk=some k→(gt x.2 t).blk≠some k) (0,List.replicate n .ns) ⟨rfl,rfl,rfl,rfl,trivial⟩ ⟨Nat.zero_le _,.refl _ _,hA3,List.length_replicate,fun t htn=>by
  show Gw h3 h3.next (gt (List.replicate n V.ns) t) 1 3 icell []
  rw[gt_rep htn]
  exact .nil,fun s t hs htn hne k hk=>by
  have hk:(gt (List.replicate n V.ns) s).blk=some k:=hk
  rw[gt_rep hs]at hk
  cases hk⟩ fun x hl hx=>?_
 obtain⟨i,vs⟩:=x
 clear hA3
 obtain⟨hi,pX,hA,hvl,hR,hD⟩:=hx
 simp only at hi hA hvl hR hD ⊢
 have hwX:=pX.wf hw3
 obtain⟨_,hC⟩:=pX.ro hw3 (by decide) hve hveP
 refine go ?_
 refine cD (fun hlt=>?_) (fun hge=>?_)
 ·have hi':i<g.ev.length:=by omega
  have hti:=ht i hi'
  refine go ?_
  refine ew_al fun b8 h4 ob4 k4=>?_
  refine go ?_
  refine ew_st ob4 fun h5 ob5 m5=>?_
  have k5:Kp hl h5:=m5.kp k4 fun j hj=>by injection hj with hj;subst hj;exact ob4.lo
  have hw5:=k5.wf hwX
  have f1:=ob4.lo
  have f2:=ob5.hi
  have f3:=k5.le
  have f4:=pX.le
  have hB8:Bx h5 b8 (upto (ecell (gt g.ev i)) 5 0):=ob5.bx
  have hct:Ce h5 b8 0 (.i .i64 (gt g.ev i).thread):=hB8.eq 0 _ rfl
  have hA5:=hA.mo (Mo.of_kp k5 none) (fun e=>by cases e)
  have hR5:∀t,t<n→Gw h5 h3.next (gt vs t) 1 3 icell (threadL g.ev t i):=fun t htn=>(hR t htn).mo (Mo.of_kp k5 none) (fun _ _ e=>by cases e)
  clear hB8 hC
  refine go ?_
  refine cD (fun h0=>?_) (fun h0=>?_)
  ·obtain⟨tn,htn⟩:∃tn:Nat,(gt g.ev i).thread=tn:=⟨(gt g.ev i).thread.toNat,by omega⟩
   have htlt:tn<n:=by
    have key:∀m,i<m→m≤g.ev.length→(gt g.ev i).thread+1≤thrN g.ev m:=by
     intro m
     induction m with
     | zero=>intro h;omega
     | succ m ih =>
      intro h1 h2
      show _≤max (thrN g.ev m) ((gt g.ev m).thread+1)
      by_cases e:i=m
      ·subst e;omega
      ·have:=ih (by omega) (by omega);omega
    have:=key g.ev.length hi' (Nat.le_refl _)
    omega
   rw[htn]at hct
   have hLv:=hA5.ln
   rw[hvl]at hLv
   have hCv:=hA5.cs
   rw[hvl]at hCv
   have hlen:=threadL_len g.ev (tn:Int) i
   refine gol ?_
   refine em_bs (l:=upto (icell (i:Int)) 1 0) rfl rfl rfl ⟨fun _=>FCe.of (Ce.kp kp_new hw5 (ce_s0 hCv htlt (by decide))),⟨fun _=>FCe.of (Ce.kp kp_new hw5 hct),⟨fun _=>FCe.of (Ce.kp kp_new hw5 hct),trivial⟩⟩⟩ ?_
   have k6:Kp h5 (h5.new 3 (upto (icell (i:Int)) 1 0) false):=kp_new
   have hrw:Rw (h5.new 3 (upto (icell (i:Int)) 1 0) false) h5.next (1*1) 0 (upto (icell (i:Int)) 1 0):=rw_newn rfl
   have hct6:=hct.kp k6 hw5
   have f5:=k6.le
   have hR6:∀t,t<n→Gw (h5.new 3 (upto (icell (i:Int)) 1 0) false) h3.next (gt vs t) 1 3 icell (threadL g.ev t i):=fun t htn=>(hR5 t htn).mo (Mo.of_kp k6 none) (fun _ _ e=>by cases e)
   have hA6:=hA5.mo (Mo.of_kp k6 none) (fun e=>by cases e)
   have hbR:∀t,t<n→∀k,(gt vs t).blk=some k→h3.next≤k∧k<hl.next:=fun t htn k hk=>(hR t htn).blk k hk
   refine em_gx (n0:=h3.next) (i:Int) (hR6 tn htlt).gx rfl rfl hrw ione' (by decide) (by omega) (by omega) (fun h9 m9=>⟨fun (hk:some 10∈[none,some 9])=>absurd hk (by decide),⟨fun (hk:some 10∈[none,some 9])=>absurd hk (by decide),⟨fun _=>FCe.of ⟨(m9.cell (by omega) fun e=>by have:=(hbR tn htlt _ e).2;omega).trans hct6.eq⟩,trivial⟩⟩⟩) fun v' h7 hbk7 hG7 m7=>?_
   refine go ?_
   have o4:=hG7.ln.one
   have hA7:=hA6.mo m7 fun e=>by have:=(hbR tn htlt _ e).1;omega
   have hR7:∀t,t<n→t≠tn→Gw h7 h3.next (gt vs t) 1 3 icell (threadL g.ev t i):=fun t htn hne=>(hR6 t htn).mo m7 fun k hk=>hD t tn htn htlt hne k hk
   refine em_arQ v' hA7 (i:=tn) (by omega) (fun h8 hA8 m8=>?_) (hv:=cells_one5 o4) (h1:=allOne_cons o4 rfl) (hl:=fun h' _=>⟨fun (hk:some 12∈[none,some 9])=>absurd hk (by decide),⟨fun (hk:some 12∈[none,some 9])=>absurd hk (by decide),⟨fun (hk:some 12∈[none,some 9,some 10])=>absurd hk (by decide),trivial⟩⟩⟩)
   have hne8:∀k,h3.next≤k→some v6.ba≠some k:=fun k hk e=>by injection e with e;omega
   have hnew:∀k,v'.blk=some k→hl.next≤k:=fun k hk=>by
    rw[hbk7]at hk
    injection hk with hk
    omega
   refine go ?_
   exact Nx.inv (i+1,vs.set tn v') (by simp only;omega) ⟨rfl,rfl,rfl,rfl,trivial⟩ ⟨by simp only;omega,(((pX.trans (Pr.of_kp k5)).trans (Pr.of_kp k6)).mo_hi m7 fun k hk=>.inr (hbR tn htlt k hk).1).trans (Pr.of_mo m8 fun k hk=>by injection hk with hk;exact hk.symm),hA8,by rw[List.length_set];exact hvl,fun t ht'=>by
    simp only
    rw[gt_set (by omega)]
    by_cases e:t=tn
    ·rw[if_pos e,e,threadL_y htn]
     exact hG7.mo m8 fun k hk=>hne8 k (by have:=hnew k hk;omega)
    ·rw[if_neg e,threadL_n (by omega)]
     exact(hR7 t ht' e).mo m8 fun k hk=>hne8 k (hbR t ht' k hk).1,fun s t hs ht' hne k hk=>by
    simp only at hk ⊢
    rw[gt_set (by omega)]at hk ⊢
    by_cases e:s=tn
    ·rw[if_pos e]at hk
     rw[if_neg (by omega)]
     exact fun e2=>by have:=hnew k hk;have:=(hbR t ht' k e2).2;omega
    ·rw[if_neg e]at hk
     by_cases e2:t=tn
     ·rw[if_pos e2]
      exact fun e3=>by have:=hnew k e3;have:=(hbR s hs k hk).2;omega
     ·rw[if_neg e2];exact hD s t hs ht' hne k hk⟩
  ·skip
   refine go ?_
   exact Nx.inv (i+1,vs) (by simp only;omega) ⟨rfl,rfl,rfl,rfl,trivial⟩ ⟨by simp only;omega,pX.trans (Pr.of_kp k5),hA5,hvl,fun t ht'=>by
    simp only
    rw[threadL_n (by omega)]
    exact hR5 t ht',hD⟩
 ·obtain rfl:i=g.ev.length:=by omega
  have kZ:=pX.kp k03 fun k hk=>by omega
  refine go ?_
  exact ret_1 ⟨⟨vs,hA.low (by omega),hvl,fun t ht'=>(hR t ht').low (by omega)⟩,kZ⟩
structure Gy {α:Type} [Inhabited α] (h:H) (n0:Nat) (v:V) (sz:Nat) (ty:TypeId) (c:α→Nat→V) (l:List α):Prop where
 ln:Ln v sz l.length
 cs:Cs h v sz l.length fun i k=>c (gt l i) k
 own:(v=.ns∧l = [])∨(∃b o,v=.sl b o l.length l.length false sz∧n0≤b∧b<h.next∧h.row b=some (ty,o+l.length*sz,true))∨∃b,v=.sl b 0 0 0 true sz∧l = []∧n0≤b∧b<h.next∧h.row b=some (ty,0,false)
section
variable {α:Type} [Inhabited α] {h h':H} {n0 sz:Nat} {v:V} {ty:TypeId} {c:α→Nat→V} {l:List α}
theorem Gw.gy (hg:Gw h n0 v sz ty c l):Gy h n0 v sz ty c l:=⟨hg.ln,hg.cs,hg.own.imp id .inl⟩
theorem Gy.gw (hg:Gy h n0 v sz ty c l) (hl:l = []→v=.ns):Gw h n0 v sz ty c l:=⟨hg.ln,hg.cs,by
 rcases hg.own with h1 | h1 | ⟨b,rfl,h2,_⟩
 ·exact .inl h1
 ·exact .inr h1
 ·cases hl h2⟩
theorem Gy.ro (hg:Gy h n0 v sz ty c l):Ro h v sz c l:=⟨hg.ln,hg.cs⟩
theorem Gy.blk (hg:Gy h n0 v sz ty c l):∀k,V.blk v=some k→n0≤k∧k<h.next:=fun k hk=>by
 rcases hg.own with⟨rfl,_⟩ | ⟨b,o,rfl,h1,h2,_⟩ | ⟨b,rfl,_,h1,h2,_⟩
 ·cases hk
 ·injection hk with hk
  subst hk
  exact⟨h1,h2⟩
 ·injection hk with hk
  subst hk
  exact⟨h1,h2⟩
theorem Gy.low {n1:Nat} (hg:Gy h n0 v sz ty c l) (hn:n1≤n0):Gy h n1 v sz ty c l:=⟨hg.ln,hg.cs,by
 rcases hg.own with h1 | ⟨b,o,h1,h2,h3⟩ | ⟨b,h1,h2,h3,h4⟩
 ·exact .inl h1
 ·exact .inr (.inl ⟨b,o,h1,Nat.le_trans hn h2,h3⟩)
 ·exact .inr (.inr ⟨b,h1,h2,Nat.le_trans hn h3,h4⟩)⟩
theorem Gy.mo {b:Option Nat} (hg:Gy h n0 v sz ty c l) (m:Mo h h' b) (hb:∀k,V.blk v=some k→b≠some k):Gy h' n0 v sz ty c l:=by
 rcases hg.own with⟨rfl,rfl⟩ | ⟨b',o,rfl,h1,h2,h3⟩ | ⟨b',rfl,rfl,h1,h2,h3⟩
 ·exact Gw.gy .nil
 ·have hne:=hb b' rfl
  exact⟨hg.ln,hg.cs.mo m fun _=>⟨h2,hne⟩,.inr (.inl ⟨b',o,rfl,h1,Nat.lt_of_lt_of_le h2 m.le,by rw[m.row h2 hne];exact h3⟩)⟩
 ·have hne:=hb b' rfl
  exact⟨hg.ln,⟨fun i k hi=>absurd hi (Nat.not_lt_zero _)⟩,.inr (.inr ⟨b',rfl,rfl,h1,Nat.lt_of_lt_of_le h2 m.le,by rw[m.row h2 hne];exact h3⟩)⟩
theorem Pr.gy {P:Nat→Prop} (a:Pr P h h') (hg:Gy h n0 v sz ty c l) (hP:∀k,v.blk=some k→¬P k):Gy h' n0 v sz ty c l:=by
 rcases hg.own with⟨rfl,rfl⟩ | ⟨b',o,rfl,h1,h2,h3⟩ | ⟨b',rfl,rfl,h1,h2,h3⟩
 ·exact Gw.gy .nil
 ·have hne:=hP b' rfl
  exact⟨hg.ln,⟨fun i k hi hk=>⟨(a.cell (b:=b') h2 hne).trans (hg.cs.eq i k hi hk).eq⟩⟩,.inr (.inl ⟨b',o,rfl,h1,Nat.lt_of_lt_of_le h2 a.le,by rw[a.row h2 hne];exact h3⟩)⟩
 ·have hne:=hP b' rfl
  exact⟨hg.ln,⟨fun i k hi=>absurd hi (Nat.not_lt_zero _)⟩,.inr (.inr ⟨b',rfl,rfl,h1,Nat.lt_of_lt_of_le h2 a.le,by rw[a.row h2 hne];exact h3⟩)⟩
theorem Gy.ron (hg:Gy h n0 v sz ty c l):RoN h n0 v sz c l:=⟨hg.ro,fun h0=>by
 rcases hg.own with⟨_,rfl⟩ | ⟨b,o,rfl,h1,_⟩ | ⟨b,rfl,rfl,h1,_⟩
 ·exact absurd h0 (Nat.lt_irrefl _)
 ·exact h1
 ·exact h1⟩
theorem Gy.row_ (hg:Gy h n0 v sz ty c l) (k:Nat) (hk:v.blk=some k):∃hi p,h.row k=some (ty,hi,p):=by
 rcases hg.own with⟨rfl,_⟩ | ⟨b,o,rfl,h1,h2,h3⟩ | ⟨b,rfl,_,h1,h2,h3⟩
 ·cases hk
 ·injection hk with hk
  subst hk
  exact⟨_,_,h3⟩
 ·injection hk with hk
  subst hk
  exact⟨_,_,h3⟩
theorem Gy.ne {β:Type} [Inhabited β] {n1 sz':Nat} {v':V} {ty':TypeId} {c':β→Nat→V} {l':List β} (hg:Gy h n0 v sz ty c l) (hg':Gy h n1 v' sz' ty' c' l') (ht:ty≠ty') (k:Nat) (hk:v.blk=some k):v'.blk≠some k:=fun hk'=>by
 obtain⟨_,_,h1⟩:=hg.row_ k hk
 obtain⟨_,_,h2⟩:=hg'.row_ k hk'
 rw[h1]at h2
 injection h2 with h2
 injection h2 with h3
 exact ht h3
end
end Go.Proofs.YtkcdehffcddciaaGreatDoor.Vm
