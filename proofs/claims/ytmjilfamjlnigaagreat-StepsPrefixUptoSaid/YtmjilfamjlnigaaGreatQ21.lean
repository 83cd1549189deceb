/- WALKS: what a wish is turned into: a closure. -/
import Derived.Test.YtmjilfamjlnigaaGreatQ20
import Derived.Test.YtmjilfamjlnigaaGreatQ02
namespace Go.Proofs.YtmjilfamjlnigaaGreat.RunW
open Go Go.RowKit Go.Proofs.YtmjilfamjlnigaaGreat.Kit Go.Proofs.YtmjilfamjlnigaaGreat.SrcP Go.Proofs.YtmjilfamjlnigaaGreat.SrcW Go.Proofs.YtmjilfamjlnigaaGreat.MchW Go.Proofs.YtmjilfamjlnigaaGreat.OwnR

/-- What a closure holds. -/
structure Clo (w : World) (gr t gt : Nat) (wt : Want) (b1 b2 b3 b4 : Nat) : Prop where
  cr : Blk w b1 75 #[.pointer (some ⟨gr, 0, none⟩)]
  ct : Blk w b2 3 #[.int .i64 (t : Int)]
  cw : Blk w b3 100 #[.int .i64 wt.what, .int .i64 wt.loc, .int .i64 wt.mode, .int .u64 wt.val, .bool wt.ex, .bool wt.one]
  cx : Blk w b4 122 #[.pointer (some ⟨gt, 0, none⟩)]
section
variable {M : Type} {X : Mk M} {K : Kd M} {base gr nc : Nat} {w w' w1 : World} {who who' : Nat → Option Pt} {V V' : RV} {r r' : Rn M}
def cloV (K : Kd M) (r : Rn M) (x : Th M) (wt : Want) (b1 b2 b3 b4 : Nat) : Value :=
  if wt.what = 1 then .func (.func 84) #[] #[ptrV b1, ptrV b2, ptrV b3, ptrV b4]
  else if wt.what = 2 then
    if K.words = true ∧ wt.ex = true ∧ (r.lastW wt : Int) ≠ x.ex then .func (.func 87) #[] #[ptrV b4] else .func (.func 88) #[] #[ptrV b1, ptrV b2, ptrV b3]
  else if wt.what = 3 then .func (.func 89) #[] #[ptrV b1, ptrV b2, ptrV b3, ptrV b4]
  else if wt.what = 4 then .func (.func 91) #[] #[ptrV b1, ptrV b2, ptrV b3, ptrV b4]
  else .func (.func 92) #[] #[]
def ActP (K : Kd M) (r : Rn M) (x : Th M) (gr t gt : Nat) (wt : Want) (w : World) (v : Value) (w' : World) : Prop :=
  Below w.heap.size w w' ∧ ∃ b1 b2 b3 b4, Clo w' gr t gt wt b1 b2 b3 b4 ∧ (w.heap.size ≤ b1 ∧ w.heap.size ≤ b2 ∧ w.heap.size ≤ b3 ∧ w.heap.size ≤ b4) ∧ v = if r.can wt then cloV K r x wt b1 b2 b3 b4 else .nilFunc
theorem Clo.below {gr t gt : Nat} {wt : Want} {b1 b2 b3 b4 : Nat} (h : Clo w gr t gt wt b1 b2 b3 b4) (hb : Below w.heap.size w w') : Clo w' gr t gt wt b1 b2 b3 b4 :=
  ⟨h.cr.below' hb, h.ct.below' hb, h.cw.below' hb, h.cx.below' hb⟩
theorem ActP.mk {x : Th M} {gr t gt : Nat} {wt : Want} {b1 b2 b3 b4 : Nat} {v : Value} (hb : Below w.heap.size w w1) (h : Clo w1 gr t gt wt b1 b2 b3 b4) (hs : w.heap.size ≤ b1 ∧ w.heap.size ≤ b2 ∧ w.heap.size ≤ b3 ∧ w.heap.size ≤ b4) (hb' : Below w1.heap.size w1 w') (hv : v = if r.can wt then cloV K r x wt b1 b2 b3 b4 else .nilFunc) : ActP K r x gr t gt wt w v w' :=
  ⟨Kit.Below.then hb hb', b1, b2, b3, b4, h.below hb', hs, hv⟩
theorem can_loc {wt : Want} (h : wt.what = 1 ∨ wt.what = 2) : r.can wt = decide (0 ≤ wt.loc ∧ wt.loc < (r.cells.length : Int)) := if_pos h
set_option maxRecDepth 100000 in
set_option maxHeartbeats 0 in
theorem act_any (hX : MkM X) (h : RunW X K base gr nc w who V r) {t : Nat} {x : Th M} (hx : r.ths[t]? = some x) {gt : Nat} (hgt : V.gt[t]? = some gt) (wt : Want) (hlc : r.last.length = r.cells.length) :
    Calls Tryz.prog 55 #[ptrV gr, .int .i64 (t : Int), .agg #[.int .i64 wt.what, .int .i64 wt.loc, .int .i64 wt.mode, .int .u64 wt.val, .bool wt.ex, .bool wt.one]] w fun e w' => ∃ v, e = .returned v ∧ ActP K r x gr t gt wt w v w' := by
  unfold ptrV
  have htl := (List.getElem?_eq_some_iff.1 hx).1
  go_enter Tryz.func55, Tryz.ntmps55
  go_upto_region 1 with fail
  obtain ⟨w0, hw0⟩ : ∃ y, y = ((w.alloc (.cells #[.pointer (some ⟨gr, 0, none⟩)] 75)).alloc (.cells #[.int .i64 (t : Int)] 3)).alloc (.cells #[.int .i64 wt.what, .int .i64 wt.loc, .int .i64 wt.mode, .int .u64 wt.val, .bool wt.ex, .bool wt.one] 100) := ⟨_, rfl⟩
  have hb0 : Below w.heap.size w w0 := by rw [hw0]; exact Kit.Below.al (Kit.Below.al (Kit.Below.al (Below.refl _ _) _) _) _
  have c1 : Blk w0 w.heap.size 75 #[.pointer (some ⟨gr, 0, none⟩)] := by rw [hw0]; exact ((Blk.new w _ _).alloc _).alloc _
  have c2 : Blk w0 (w.heap.size + 1) 3 #[.int .i64 (t : Int)] := by rw [hw0]; exact (Blk.newAt (sizeA w _) _ _).alloc _
  have c3 : Blk w0 (w.heap.size + 1 + 1) 100 #[.int .i64 wt.what, .int .i64 wt.loc, .int .i64 wt.mode, .int .u64 wt.val, .bool wt.ex, .bool wt.one] := by rw [hw0]; exact Blk.newAt (by rw [sizeA, sizeA]) _ _
  obtain ⟨hR0, hm0⟩ := h.below' hX hb0
  have HS0 : Hid (w0.heap.size = w.heap.size + 3) := Lib.hid (by rw [hw0, sizeA, sizeA, sizeA])
  obtain ⟨gth, capth, gt', gm, hvth, hgt', hgm, hjt⟩ := hR0.thr hx
  rw [hgt] at hgt'
  obtain rfl := Option.some.inj hgt'
  rw [← hw0]
  clear hw0 h
  obtain ⟨b3, hb3⟩ : ∃ y, y = w.heap.size + 1 + 1 := ⟨_, rfl⟩
  rw [← hb3] at c3 ⊢
  obtain ⟨b2, hb2⟩ : ∃ y, y = w.heap.size + 1 := ⟨_, rfl⟩
  rw [← hb2] at c2 ⊢
  obtain ⟨b1, hb1⟩ : ∃ y, y = w.heap.size := ⟨_, rfl⟩
  rw [← hb1] at c1 ⊢
  have hbs : w.heap.size ≤ b1 ∧ w.heap.size ≤ b2 ∧ w.heap.size ≤ b3 ∧ w.heap.size ≤ w0.heap.size := by have := HS0.out; omega
  have HBS := Lib.hid hbs
  clear hb1 hb2 hb3 hbs HS0
  have k1 : ∀ p : Cls (Below w0.heap.size w0), p.w.cell? ⟨b1, 0, none⟩ = some (.pointer (some ⟨gr, 0, none⟩)) := fun p => c1.cls 0 p
  have k0 : ∀ p : Cls (Below w0.heap.size w0), p.w.cell? ⟨b2, 0, none⟩ = some (.int .i64 (t : Int)) := fun p => c2.cls 0 p
  have k2 : ∀ p : Cls (Below w0.heap.size w0), p.w.cell? ⟨gr, 2, none⟩ = some (.slice (some ⟨gth, 0, none⟩) r.ths.length capth) := fun p => by
    rw [hR0.seeRun (hR0.seesB p) (fun e => e) 2, ← hvth]; rfl
  have kt : ∀ p : Cls (Below w0.heap.size w0), p.w.cell? ⟨gth, t, none⟩ = some (.pointer (some ⟨gt, 0, none⟩)) := fun p => hR0.seeRow (hR0.seesB p) (fun e => e) (q := .thr) hvth t _ hjt
  have b5 : (0 : Int) ≤ (t : Int) := by omega
  have b6 : (t : Int) < (r.ths.length : Int) := by omega
  have HGT := Lib.hid hgt
  clear hvth hjt hgt
  refine wp_region_float_at (Below w0.heap.size w0) 8 1 [0, 1, 2, 3, 4, 5, 6] [] (Below_drewN _ 1) (by kernel_rfl) (by kernel_rfl) ?_
  intro hne
  simp only [pickL, List.map_cons, List.map_nil, List.getElem?_cons_succ, List.getElem?_cons_zero, Option.getD_some]
  repeat (go_big_quiet_step (fail))
  refine wpQuiet_nil ?_
  clear k1 k0 k2 kt b5 b6
  refine floatG_one (i := 7) (by kernel_rfl) (by decide) rfl ?_
  go_wp2_with fail
  have hb4 : Below w0.heap.size w0 ((World.drewN w0 1).alloc (.cells #[.pointer none] 122)) := Kit.Below.al (Kit.Below.dn (Below.refl _ _)) _
  have c4 : Blk ((World.drewN w0 1).alloc (.cells #[.pointer none] 122)) w0.heap.size 122 #[.pointer none] := Blk.new (World.drewN w0 1) _ _
  refine onG_mk (fun _ => ⟨⟨_, hb4⟩, rfl⟩) ?_
  generalize (World.drewN w0 1).alloc (.cells #[.pointer none] 122) = wB at *
  have kf := fun i => c4.frozen i
  have k4 : wB.cell? ⟨w0.heap.size, 0, none⟩ = some (.pointer none) := c4.cell 0
  refine (show tailG _ _ _ _ _ _ _ from ⟨by kernel_rfl, ?_⟩)
  simp only [List.drop_succ_cons, List.drop_zero]
  go_upto_region 2 with fail
  have hb5 := Kit.Below.setN hb4 (Nat.le_refl _) (o := 0) (.pointer (some ⟨gt, 0, none⟩))
  have c5 := c4.set 0 (.pointer (some ⟨gt, 0, none⟩))
  generalize wB.setCell ⟨w0.heap.size, 0, none⟩ (.pointer (some ⟨gt, 0, none⟩)) = w1 at *
  obtain ⟨b4, hb4e⟩ : ∃ y, y = w0.heap.size := ⟨_, rfl⟩
  rw [← hb4e] at c5 HBS ⊢
  have hC1 : Clo w1 gr t gt wt b1 b2 b3 b4 := ⟨c1.below' hb5, c2.below' hb5, c3.below' hb5, c5⟩
  obtain ⟨hR1, hm1⟩ := hR0.below' hX hb5
  have HB := Lib.hid (Kit.Below.then hb0 hb5)
  clear hb4 c4 kf k4 hb5 c5 hb4e c1 c2 c3 hR0 hm1 hm0 hb0
  have e0 : w1.cell? ⟨b3, 0, none⟩ = some (.int .i64 wt.what) := hC1.cw.cell 0
  by_cases q1 : wt.what = 1
  · rw [q1] at e0
    obtain ⟨A, cA, hev, _⟩ := own_slice (hR1.own .cells)
    simp only [RV.val, rowN] at hev
    have f1 : ∀ p : Cls (Below w1.heap.size w1), p.w.cell? ⟨b3, 1, none⟩ = some (.int .i64 wt.loc) := fun p => hC1.cw.cls 1 p
    have kR : ∀ p : Cls (Below w1.heap.size w1), p.w.cell? ⟨b1, 0, none⟩ = some (.pointer (some ⟨gr, 0, none⟩)) := fun p => hC1.cr.cls 0 p
    have k3 : ∀ p : Cls (Below w1.heap.size w1), p.w.cell? ⟨gr, 3, none⟩ = some (.slice A r.cells.length cA) := fun p => by
      rw [hR1.seeRun (hR1.seesB p) (fun e => e) 3, ← hev]; rfl
    clear hev
    go_upto_region 5 with fail
    clear e0
    by_cases g1 : wt.loc < 0
    · have hd : decide (wt.loc < 0) = true := decide_eq_true g1
      refine wp_region_cls (Below w1.heap.size w1) (Below_drewN _ 1) (by kernel_rfl) (by kernel_rfl) ?_
      intro hne
      repeat (go_big_quiet_step ((fail)))
      refine wpQuiet_nil ?_
      intro w2 h2
      clear hne
      clear f1 kR k3
      go_wp2_with fail
      go_ret
      exact ⟨_, rfl, ActP.mk HB.out hC1 HBS.out h2 (by rw [can_loc (.inl q1), if_neg (by simp only [decide_eq_true_eq]; omega)]; rfl)⟩
    have hd : decide (wt.loc < 0) = false := decide_eq_false g1
    by_cases g2 : (r.cells.length : Int) ≤ wt.loc
    · have hd2 : decide ((r.cells.length : Int) ≤ wt.loc) = true := decide_eq_true g2
      refine wp_region_cls (Below w1.heap.size w1) (Below_drewN _ 1) (by kernel_rfl) (by kernel_rfl) ?_
      intro hne
      repeat (go_big_quiet_step ((fail)))
      refine wpQuiet_nil ?_
      intro w2 h2
      clear hne
      clear f1 kR k3
      go_wp2_with fail
      go_ret
      exact ⟨_, rfl, ActP.mk HB.out hC1 HBS.out h2 (by rw [can_loc (.inl q1), if_neg (by simp only [decide_eq_true_eq]; omega)]; rfl)⟩
    have hd2 : decide ((r.cells.length : Int) ≤ wt.loc) = false := decide_eq_false g2
    refine wp_region_cls (Below w1.heap.size w1) (Below_drewN _ 1) (by kernel_rfl) (by kernel_rfl) ?_
    intro hne
    repeat (go_big_quiet_step ((fail)))
    refine wpQuiet_nil ?_
    intro w2 h2
    clear hne
    clear f1 kR k3 hd hd2
    have hcan : r.can wt = true := by rw [can_loc (.inl q1)]; simp only [decide_eq_true_eq]; omega
    obtain ⟨c, hc⟩ := Int.eq_ofNat_of_zero_le (show (0 : Int) ≤ wt.loc by omega)
    have hcl : c < r.cells.length := by omega
    have HC := Lib.hid hc
    have hC2 := hC1.below h2
    obtain ⟨hR2, hb2⟩ := hR1.below' hX h2
    clear hc
    have e0 : w2.cell? ⟨b3, 0, none⟩ = some (.int .i64 1) := by rw [hC2.cw.cell 0, ← q1]; rfl
    go_wp2_with fail
    go_ret
    exact ⟨_, rfl, ActP.mk HB.out hC1 HBS.out h2 (by rw [if_pos hcan]; unfold cloV; rw [if_pos q1]; rfl)⟩
  by_cases q2 : wt.what = 2
  · rw [q2] at e0
    obtain ⟨A, cA, hev, _⟩ := own_slice (hR1.own .cells)
    simp only [RV.val, rowN] at hev
    have f1 : ∀ p : Cls (Below w1.heap.size w1), p.w.cell? ⟨b3, 1, none⟩ = some (.int .i64 wt.loc) := fun p => hC1.cw.cls 1 p
    have kR : ∀ p : Cls (Below w1.heap.size w1), p.w.cell? ⟨b1, 0, none⟩ = some (.pointer (some ⟨gr, 0, none⟩)) := fun p => hC1.cr.cls 0 p
    have k3 : ∀ p : Cls (Below w1.heap.size w1), p.w.cell? ⟨gr, 3, none⟩ = some (.slice A r.cells.length cA) := fun p => by
      rw [hR1.seeRun (hR1.seesB p) (fun e => e) 3, ← hev]; rfl
    clear hev
    go_upto_region 5 with fail
    clear e0
    by_cases g1 : wt.loc < 0
    · have hd : decide (wt.loc < 0) = true := decide_eq_true g1
      refine wp_region_cls (Below w1.heap.size w1) (Below_drewN _ 1) (by kernel_rfl) (by kernel_rfl) ?_
      intro hne
      repeat (go_big_quiet_step ((fail)))
      refine wpQuiet_nil ?_
      intro w2 h2
      clear hne
      clear f1 kR k3
      go_wp2_with fail
      go_ret
      exact ⟨_, rfl, ActP.mk HB.out hC1 HBS.out h2 (by rw [can_loc (.inr q2), if_neg (by simp only [decide_eq_true_eq]; omega)]; rfl)⟩
    have hd : decide (wt.loc < 0) = false := decide_eq_false g1
    by_cases g2 : (r.cells.length : Int) ≤ wt.loc
    · have hd2 : decide ((r.cells.length : Int) ≤ wt.loc) = true := decide_eq_true g2
      refine wp_region_cls (Below w1.heap.size w1) (Below_drewN _ 1) (by kernel_rfl) (by kernel_rfl) ?_
      intro hne
      repeat (go_big_quiet_step ((fail)))
      refine wpQuiet_nil ?_
      intro w2 h2
      clear hne
      clear f1 kR k3
      go_wp2_with fail
      go_ret
      exact ⟨_, rfl, ActP.mk HB.out hC1 HBS.out h2 (by rw [can_loc (.inr q2), if_neg (by simp only [decide_eq_true_eq]; omega)]; rfl)⟩
    have hd2 : decide ((r.cells.length : Int) ≤ wt.loc) = false := decide_eq_false g2
    refine wp_region_cls (Below w1.heap.size w1) (Below_drewN _ 1) (by kernel_rfl) (by kernel_rfl) ?_
    intro hne
    repeat (go_big_quiet_step ((fail)))
    refine wpQuiet_nil ?_
    intro w2 h2
    clear hne
    clear f1 kR k3 hd hd2
    have hcan : r.can wt = true := by rw [can_loc (.inr q2)]; simp only [decide_eq_true_eq]; omega
    obtain ⟨c, hc⟩ := Int.eq_ofNat_of_zero_le (show (0 : Int) ≤ wt.loc by omega)
    have hcl : c < r.cells.length := by omega
    have HC := Lib.hid hc
    have hC2 := hC1.below h2
    obtain ⟨hR2, hb2⟩ := hR1.below' hX h2
    clear hc
    have e0 : w2.cell? ⟨b3, 0, none⟩ = some (.int .i64 2) := by rw [hC2.cw.cell 0, ← q2]; rfl
    go_upto_region 9 with fail
    obtain ⟨gl, capl, hvl, _⟩ := hR2.slice .last (by show 0 < r.last.length; omega)
    simp only [RV.val, rowN] at hvl
    have hjl : (rowX V r .last)[c]? = some (.int .i64 (r.last.getD c 0 : Nat)) := by
      show (r.last.map i64V)[c]? = _
      rw [List.getElem?_map, List.getElem?_eq_getElem (by omega), List.getD_eq_getElem?_getD, List.getElem?_eq_getElem (by omega)]; rfl
    obtain ⟨gt', gm', hgt', hgm', _⟩ := hR2.thOf hx
    have hgg := HGT.out
    rw [hgt'] at hgg
    obtain rfl := Option.some.inj hgg.symm
    obtain ⟨lv, hlv⟩ : ∃ y, y = r.last.getD c 0 := ⟨_, rfl⟩
    rw [← hlv] at hjl
    have HLV := Lib.hid hlv
    have f0 : ∀ p : Cls (Below w2.heap.size w2), p.w.cell? ⟨b3, 0, none⟩ = some (.int .i64 2) := fun p => by rw [hC2.cw.cls 0 p, ← q2]; rfl
    have f1 : ∀ p : Cls (Below w2.heap.size w2), p.w.cell? ⟨b3, 1, none⟩ = some (.int .i64 (c : Int)) := fun p => by rw [hC2.cw.cls 1 p, ← HC.out]; rfl
    have f4 : ∀ p : Cls (Below w2.heap.size w2), p.w.cell? ⟨b3, 4, none⟩ = some (.bool wt.ex) := fun p => hC2.cw.cls 4 p
    have kR : ∀ p : Cls (Below w2.heap.size w2), p.w.cell? ⟨b1, 0, none⟩ = some (.pointer (some ⟨gr, 0, none⟩)) := fun p => hC2.cr.cls 0 p
    have kX : ∀ p : Cls (Below w2.heap.size w2), p.w.cell? ⟨b4, 0, none⟩ = some (.pointer (some ⟨gt, 0, none⟩)) := fun p => hC2.cx.cls 0 p
    have k0 : ∀ p : Cls (Below w2.heap.size w2), p.w.cell? ⟨gr, 0, none⟩ = some (.bool K.words) := fun p => by rw [hR2.seeRun (hR2.seesB p) (fun e => e) 0]; rfl
    have k4 : ∀ p : Cls (Below w2.heap.size w2), p.w.cell? ⟨gr, 4, none⟩ = some (.slice (some ⟨gl, 0, none⟩) r.last.length capl) := fun p => by
      rw [hR2.seeRun (hR2.seesB p) (fun e => e) 4, ← hvl]; rfl
    have kl : ∀ p : Cls (Below w2.heap.size w2), p.w.cell? ⟨gl, c, none⟩ = some (.int .i64 (lv : Int)) := fun p => hR2.seeRow (hR2.seesB p) (fun e => e) (q := .last) hvl c _ hjl
    have kx : ∀ p : Cls (Below w2.heap.size w2), p.w.cell? ⟨gt, 2, none⟩ = some (.int .i64 x.ex) := fun p => by rw [hR2.seeTh (hR2.seesB p) (fun e => e) hx hgt' hgm' 2]; rfl
    have b7 : (0 : Int) ≤ (c : Int) := by omega
    have b8 : (c : Int) < (r.last.length : Int) := by omega
    have hlw : r.lastW wt = lv := by unfold Rn.lastW; rw [HC.out, Int.toNat_natCast, HLV.out]
    have HLW := Lib.hid hlw
    have H2' := Lib.hid h2
    clear hvl hjl hlv hgt' hgm' hgg hlw e0 hb2 h2
    cases hwd : K.words with
    | false =>
      rw [hwd] at k0
      refine wp_region_cls (Below w2.heap.size w2) (Below_drewN _ 1) (by kernel_rfl) (by kernel_rfl) ?_
      intro hne
      repeat (go_big_quiet_step ((fail)))
      refine wpQuiet_nil ?_
      intro w3 h3
      clear hne
      clear f0 f1 f4 kR kX k0 k4 kl kx b7 b8
      have e0 : w3.cell? ⟨b3, 0, none⟩ = some (.int .i64 2) := by rw [(hC2.below h3).cw.cell 0, ← q2]; rfl
      go_wp2_with fail
      go_ret
      exact ⟨_, rfl, ActP.mk HB.out hC1 HBS.out (Kit.Below.then H2'.out h3) (by rw [if_pos hcan]; unfold cloV; rw [if_neg q1, if_pos q2, if_neg (fun h => Bool.false_ne_true (hwd.symm.trans h.1))]; rfl)⟩
    | true =>
      rw [hwd] at k0
      cases hex : wt.ex with
      | false =>
        rw [hex] at f4
        refine wp_region_cls (Below w2.heap.size w2) (Below_drewN _ 1) (by kernel_rfl) (by kernel_rfl) ?_
        intro hne
        repeat (go_big_quiet_step ((fail)))
        refine wpQuiet_nil ?_
        intro w3 h3
        clear hne
        clear f0 f1 f4 kR kX k0 k4 kl kx b7 b8
        have e0 : w3.cell? ⟨b3, 0, none⟩ = some (.int .i64 2) := by rw [(hC2.below h3).cw.cell 0, ← q2]; rfl
        go_wp2_with fail
        go_ret
        exact ⟨_, rfl, ActP.mk HB.out hC1 HBS.out (Kit.Below.then H2'.out h3) (by rw [if_pos hcan]; unfold cloV; rw [if_neg q1, if_pos q2, if_neg (fun h => Bool.false_ne_true (hex.symm.trans h.2.1))]; rfl)⟩
      | true =>
        rw [hex] at f4
        by_cases hne : (lv : Int) = x.ex
        · have hdn : decide ((lv : Int) = x.ex) = true := decide_eq_true hne
          refine wp_region_cls (Below w2.heap.size w2) (Below_drewN _ 1) (by kernel_rfl) (by kernel_rfl) ?_
          intro hne
          repeat (go_big_quiet_step ((fail)))
          refine wpQuiet_nil ?_
          intro w3 h3
          clear hne
          clear f0 f1 f4 kR kX k0 k4 kl kx b7 b8
          have e0 : w3.cell? ⟨b3, 0, none⟩ = some (.int .i64 2) := by rw [(hC2.below h3).cw.cell 0, ← q2]; rfl
          go_wp2_with fail
          go_ret
          exact ⟨_, rfl, ActP.mk HB.out hC1 HBS.out (Kit.Below.then H2'.out h3) (by rw [if_pos hcan]; unfold cloV; rw [if_neg q1, if_pos q2, if_neg (fun h => h.2.2 (by rw [HLW.out]; exact hne))]; rfl)⟩
        · have hdn : decide ((lv : Int) = x.ex) = false := decide_eq_false hne
          refine wp_region_cls (Below w2.heap.size w2) (Below_drewN _ 1) (by kernel_rfl) (by kernel_rfl) ?_
          intro hne
          repeat (go_big_quiet_step ((fail)))
          refine wpQuiet_nil ?_
          intro w3 h3
          clear hne
          clear f0 f1 f4 kR kX k0 k4 kl kx b7 b8
          go_wp2_with fail
          go_ret
          exact ⟨_, rfl, ActP.mk HB.out hC1 HBS.out (Kit.Below.then H2'.out h3) (by rw [if_pos hcan]; unfold cloV; rw [if_neg q1, if_pos q2, if_pos ⟨hwd, hex, by rw [HLW.out]; exact hne⟩]; rfl)⟩
  by_cases q3 : wt.what = 3
  · rw [q3] at e0
    go_upto_region 9 with fail
    have f0 : ∀ p : Cls (Below w1.heap.size w1), p.w.cell? ⟨b3, 0, none⟩ = some (.int .i64 3) := fun p => by rw [hC1.cw.cls 0 p, ← q3]; rfl
    refine wp_region_cls (Below w1.heap.size w1) (Below_drewN _ 1) (by kernel_rfl) (by kernel_rfl) ?_
    intro hne
    repeat (go_big_quiet_step ((fail)))
    refine wpQuiet_nil ?_
    intro w2 h2
    clear hne
    clear f0 e0
    have e0 : w2.cell? ⟨b3, 0, none⟩ = some (.int .i64 3) := by rw [(hC1.below h2).cw.cell 0, ← q3]; rfl
    go_wp2_with fail
    go_ret
    exact ⟨_, rfl, ActP.mk HB.out hC1 HBS.out h2 (by rw [if_pos (by unfold Rn.can; rw [q3, if_neg (by decide)]; rfl)]; unfold cloV; simp only [q3]; rfl)⟩
  by_cases q4 : wt.what = 4
  · rw [q4] at e0
    go_upto_region 9 with fail
    have f0 : ∀ p : Cls (Below w1.heap.size w1), p.w.cell? ⟨b3, 0, none⟩ = some (.int .i64 4) := fun p => by rw [hC1.cw.cls 0 p, ← q4]; rfl
    refine wp_region_cls (Below w1.heap.size w1) (Below_drewN _ 1) (by kernel_rfl) (by kernel_rfl) ?_
    intro hne
    repeat (go_big_quiet_step ((fail)))
    refine wpQuiet_nil ?_
    intro w2 h2
    clear hne
    clear f0 e0
    have e0 : w2.cell? ⟨b3, 0, none⟩ = some (.int .i64 4) := by rw [(hC1.below h2).cw.cell 0, ← q4]; rfl
    go_wp2_with fail
    go_ret
    exact ⟨_, rfl, ActP.mk HB.out hC1 HBS.out h2 (by rw [if_pos (by unfold Rn.can; rw [q4, if_neg (by decide)]; rfl)]; unfold cloV; simp only [q4]; rfl)⟩
  by_cases q6 : wt.what = 6
  · rw [q6] at e0
    go_upto_region 9 with fail
    have f0 : ∀ p : Cls (Below w1.heap.size w1), p.w.cell? ⟨b3, 0, none⟩ = some (.int .i64 6) := fun p => by rw [hC1.cw.cls 0 p, ← q6]; rfl
    refine wp_region_cls (Below w1.heap.size w1) (Below_drewN _ 1) (by kernel_rfl) (by kernel_rfl) ?_
    intro hne
    repeat (go_big_quiet_step ((fail)))
    refine wpQuiet_nil ?_
    intro w2 h2
    clear hne
    clear f0 e0
    have e0 : w2.cell? ⟨b3, 0, none⟩ = some (.int .i64 6) := by rw [(hC1.below h2).cw.cell 0, ← q6]; rfl
    go_wp2_with fail
    go_ret
    exact ⟨_, rfl, ActP.mk HB.out hC1 HBS.out h2 (by rw [if_pos (by unfold Rn.can; rw [q6, if_neg (by decide)]; rfl)]; unfold cloV; simp only [q6]; rfl)⟩
  go_upto_region 9 with fail
  have f0 : ∀ p : Cls (Below w1.heap.size w1), p.w.cell? ⟨b3, 0, none⟩ = some (.int .i64 wt.what) := fun p => hC1.cw.cls 0 p
  have hd2 : decide (wt.what = 2) = false := decide_eq_false q2
  refine wp_region_cls (Below w1.heap.size w1) (Below_drewN _ 1) (by kernel_rfl) (by kernel_rfl) ?_
  intro hne
  repeat (go_big_quiet_step ((fail)))
  refine wpQuiet_nil ?_
  intro w2 h2
  clear hne
  clear f0 e0
  have e0 : w2.cell? ⟨b3, 0, none⟩ = some (.int .i64 wt.what) := (hC1.below h2).cw.cell 0
  go_wp2_with fail
  go_ret
  exact ⟨_, rfl, ActP.mk HB.out hC1 HBS.out h2 (by
    rw [if_neg (by unfold Rn.can; rw [if_neg (by simp [q1, q2])]; simp [q3, q4, q6])]
    rfl)⟩
end
end Go.Proofs.YtmjilfamjlnigaaGreat.RunW
/- PLAIN: how long a run's parts are. No program in sight. -/
namespace Go.Proofs.YtmjilfamjlnigaaGreat.SrcP
open Go

section
variable {M : Type} {K : Kd M} {nc : Nat} {r : Rn M}
structure RnOk (nc : Nat) (r : Rn M) : Prop where
  cells : r.cells.length = nc
  last : r.last.length = nc
  co : r.co.length = nc
  outs : r.outs.length = r.ths.length
  vals : ∀ c ∈ r.cells, c < M64
  nums : ∀ x ∈ r.ths, x.nums.length ≤ r.events.length
  rf : r.rf.length ≤ r.events.length
  rmw : r.rmw.length ≤ r.events.length
  coi : ∀ l ∈ r.co, l.length ≤ r.events.length
  outi : ∀ l ∈ r.outs, l.length ≤ r.used
  log : r.log.length ≤ r.used + r.events.length
theorem mem_getD {α : Type} {l : List α} {P : α → Prop} (h : ∀ x ∈ l, P x) (d : α) (hd : P d) (i : Nat) : P (l.getD i d) := by
  rw [List.getD_eq_getElem?_getD]
  by_cases hi : i < l.length
  · rw [List.getElem?_eq_getElem hi]; exact h _ (List.getElem_mem hi)
  · rw [List.getElem?_eq_none (by omega)]; exact hd
theorem mem_set {α : Type} {l : List α} {P : α → Prop} (h : ∀ x ∈ l, P x) {d : α} (hd : P d) (i : Nat) : ∀ x ∈ l.set i d, P x := fun x hx => by
  rcases List.mem_or_eq_of_mem_set hx with h1 | h1
  · exact h x h1
  · rw [h1]; exact hd
theorem RnOk.thN (h : RnOk nc r) (t : Nat) : (r.th K t).nums.length ≤ r.events.length := mem_getD h.nums _ (Nat.zero_le _) t
theorem RnOk.cellV (h : RnOk nc r) (c : Nat) : r.cells.getD c 0 < M64 := mem_getD h.vals 0 (by decide) c
theorem RnOk.setT (h : RnOk nc r) (t : Nat) {x : Th M} (hx : x.nums.length ≤ r.events.length) : RnOk nc (r.setT t x) :=
  ⟨h.cells, h.last, h.co, by simpa [Rn.setT] using h.outs, h.vals, mem_set h.nums hx t, h.rf, h.rmw, h.coi, h.outi, h.log⟩
theorem RnOk.setM (h : RnOk nc r) (t : Nat) (m : M) : RnOk nc (r.setM K t m) := h.setT t (h.thN t)
theorem RnOk.ask (h : RnOk nc r) (t : Nat) : RnOk nc (r.ask K t) := h.setM t _
theorem RnOk.feed (h : RnOk nc r) (t v : Nat) : RnOk nc (r.feed K t v) := h.setM t _
theorem RnOk.event (h : RnOk nc r) (t : Nat) (k l : Int) (v : Nat) (m : Int) : RnOk nc (r.event K t k l v m) := by
  have hl : (r.event K t k l v m).events.length = r.events.length + 1 := by simp [Rn.event]
  refine ⟨h.cells, h.last, h.co, by simpa [Rn.event] using h.outs, h.vals, ?_, ?_, ?_, ?_, h.outi, ?_⟩
  · rw [hl]
    refine mem_set (fun x hx => Nat.le_succ_of_le (h.nums x hx)) ?_ t
    simpa using h.thN t
  · rw [hl]; exact Nat.le_succ_of_le h.rf
  · rw [hl]; exact Nat.le_succ_of_le h.rmw
  · rw [hl]; exact fun l hl' => Nat.le_succ_of_le (h.coi l hl')
  · rw [hl]; exact Nat.le_succ_of_le h.log
theorem RnOk.exd (h : RnOk nc r) (t : Nat) (w : Want) : RnOk nc (r.exd K t w) := by
  unfold Rn.exd
  split
  · exact h.setT t (h.thN t)
  · exact h
theorem RnOk.load (h : RnOk nc r) (t : Nat) (w : Want) : RnOk nc (r.load K t w) := by
  have h1 := h.event (K := K) t 1 w.loc (r.cell w) w.mode
  have h2 : RnOk nc ((r.event K t 1 w.loc (r.cell w) w.mode).read r.events.length w) :=
    ⟨h1.cells, h1.last, h1.co, h1.outs, h1.vals, h1.nums, by have := h.rf; simp [Rn.read, Rn.event]; omega, h1.rmw, h1.coi, h1.outi, h1.log⟩
  exact (h2.exd t w).feed t _
theorem RnOk.wrote (h : RnOk nc r) (t : Nat) (k l : Int) (v : Nat) (m : Int) (w : Want) (hv : w.val < M64) : RnOk nc ((r.event K t k l v m).wrote r.events.length w) := by
  have h1 := h.event (K := K) t k l v m
  refine ⟨by simpa [Rn.wrote] using h1.cells, by simpa [Rn.wrote] using h1.last, by simpa [Rn.wrote] using h1.co, h1.outs, mem_set h1.vals hv _, h1.nums, h1.rf, h1.rmw, ?_, h1.outi, h1.log⟩
  refine mem_set h1.coi ?_ _
  have := mem_getD (P := fun l => l.length ≤ r.events.length) h.coi [] (Nat.zero_le _) w.loc.toNat
  simp only [Rn.event, List.length_append, List.length_singleton] at this ⊢
  omega
theorem RnOk.store (h : RnOk nc r) (t : Nat) (w : Want) (hv : w.val < M64) : RnOk nc (r.store K t w) := (h.wrote t 2 w.loc w.val w.mode w hv).feed t 1
theorem store_events (t : Nat) (w : Want) : (r.store K t w).events.length = r.events.length + 1 := by simp [Rn.store, Rn.feed, Rn.setM, Rn.setT, Rn.wrote, Rn.event]
theorem load_events (t : Nat) (w : Want) : (r.load K t w).events.length = r.events.length + 1 := by
  have : ∀ r' : Rn M, (r'.exd K t w).events = r'.events := fun r' => by unfold Rn.exd; split <;> rfl
  simp [Rn.load, Rn.feed, Rn.setM, Rn.setT, this, Rn.read, Rn.event]
theorem RnOk.second (h : RnOk nc r) (t n : Nat) (hv : (r.wants K t).val < M64) : RnOk nc (r.second K t n) := by
  unfold Rn.second
  simp only
  split
  · exact h
  · have h3 := h.store (K := K) t (r.wants K t) hv
    have e1 := store_events (K := K) (r := r) t (r.wants K t)
    have e2 : (r.store K t (r.wants K t)).rmw = r.rmw := rfl
    have e3 : (r.store K t (r.wants K t)).log = r.log := rfl
    have e4 : (r.store K t (r.wants K t)).used = r.used := rfl
    have i1 := h.rmw
    have i2 := h.log
    split
    · exact h3
    · split
      · exact ⟨h3.cells, h3.last, h3.co, h3.outs, h3.vals, h3.nums, h3.rf, by simp only [e1, e2, List.length_append, List.length_singleton]; omega, h3.coi, h3.outi, h3.log⟩
      · exact ⟨h3.cells, h3.last, h3.co, h3.outs, h3.vals, h3.nums, h3.rf, by simp only [e1, e2, List.length_append, List.length_singleton]; omega, h3.coi, h3.outi, by simp only [e1, e3, e4, List.length_append, List.length_singleton]; omega⟩
theorem RnOk.did (h : RnOk nc r) (t : Nat) : RnOk nc (r.did t) := by
  have i := h.log
  exact ⟨h.cells, h.last, h.co, h.outs, h.vals, h.nums, h.rf, h.rmw, h.coi, fun l hl => Nat.le_succ_of_le (h.outi l hl), by simp only [Rn.did, List.length_append, List.length_singleton]; omega⟩
theorem RnOk.didOut (h : RnOk nc r) (t v : Nat) : RnOk nc ((r.did t).out t v) := by
  have h1 := h.did t
  refine ⟨h1.cells, h1.last, h1.co, by simpa [Rn.out] using h1.outs, h1.vals, h1.nums, h1.rf, h1.rmw, h1.coi, ?_, h1.log⟩
  refine mem_set h1.outi ?_ _
  have := mem_getD (P := fun l => l.length ≤ r.used) h.outi [] (Nat.zero_le _) t
  simp only [Rn.did, List.length_append, List.length_singleton]
  exact Nat.succ_le_succ this
theorem RnOk.didDoo (h : RnOk nc r) (t : Nat) (w : Want) (hv : w.val < M64) (hv2 : w.what = 1 → ((((r.did t).load K t w).ask K t).wants K t).val < M64) : RnOk nc ((r.did t).doo K t w) := by
  have h1 := h.did t
  unfold Rn.doo
  by_cases c1 : w.what = 1
  · rw [if_pos c1]
    by_cases c2 : (if K.words then w.one else w.ex) = false
    · rw [if_pos c2]; exact h1.load t w
    · rw [if_neg c2]; exact ((h1.load t w).ask t).second t _ (hv2 c1)
  · rw [if_neg c1]
    split
    · split
      · exact h1.feed t 0
      · exact h1.store t w hv
    · split
      · exact (h1.event t _ _ _ _).feed t 0
      · split
        · exact (h.didOut t _).feed t 0
        · exact h1
theorem RnOk.pick (h : RnOk nc r) (t : Int) (hv : ∀ t : Nat, ((r.ask K t).wants K t).val < M64) (hv2 : ∀ t : Nat, ((r.ask K t).wants K t).what = 1 → (((((r.ask K t).did t).load K t ((r.ask K t).wants K t)).ask K t).wants K t).val < M64) : RnOk nc (r.pick K t) := by
  unfold Rn.pick
  simp only
  split
  · exact h
  · split
    · exact (h.ask t.toNat).didDoo t.toNat _ (hv _) (hv2 _)
    · exact h.ask t.toNat
theorem doo_used (t : Nat) (w : Want) : (r.doo K t w).used = r.used := by
  have h1 : ∀ r' : Rn M, (r'.load K t w).used = r'.used := fun r' => by
    have : ∀ r' : Rn M, (r'.exd K t w).used = r'.used := fun r' => by unfold Rn.exd; split <;> rfl
    show (((r'.event K t 1 w.loc (r'.cell w) w.mode).read r'.events.length w).exd K t w).used = _
    rw [this]; rfl
  unfold Rn.doo Rn.second
  simp only
  repeat' split
  all_goals first | rfl | exact h1 r
theorem pick_used (t : Int) : (r.pick K t).used ≤ r.used + 1 := by
  unfold Rn.pick
  simp only
  split
  · exact Nat.le_succ _
  · split
    · rw [doo_used]; exact Nat.le_refl _
    · exact Nat.le_succ _
theorem doo_events (t : Nat) (w : Want) : (r.doo K t w).events.length ≤ r.events.length + 2 := by
  have h1 := load_events (K := K) (r := r) t w
  have h2 := store_events (K := K) (r := r) t w
  unfold Rn.doo
  by_cases c1 : w.what = 1
  · rw [if_pos c1]
    by_cases c2 : (if K.words then w.one else w.ex) = false
    · rw [if_pos c2]; omega
    · rw [if_neg c2]
      unfold Rn.second
      simp only
      have h3 : ((r.load K t w).ask K t).events = (r.load K t w).events := rfl
      have h4 := store_events (K := K) (r := (r.load K t w).ask K t) t (((r.load K t w).ask K t).wants K t)
      rw [h3] at h4
      split
      · rw [h3]; omega
      · split
        · omega
        · split <;> simp only <;> omega
  · rw [if_neg c1]
    split
    · split
      · exact Nat.le_add_right _ 2
      · omega
    · split
      · simp [Rn.feed, Rn.setM, Rn.setT, Rn.event]
      · split
        · exact Nat.le_add_right _ 2
        · exact Nat.le_add_right _ 2
theorem pick_events (t : Int) : (r.pick K t).events.length ≤ r.events.length + 2 := by
  unfold Rn.pick
  simp only
  split
  · exact Nat.le_add_right _ 2
  · split
    · exact doo_events _ _
    · exact Nat.le_add_right _ 2
theorem RnOk.start (K : Kd M) (n : Nat) (ms : List M) : RnOk n (K.start n ms) := by
  rw [K.start_eq]
  refine ⟨by simp [Kd.beginR], by simp [Kd.beginR], by simp [Kd.beginR], by simp, ?_, ?_, by simp [Kd.beginR], by simp [Kd.beginR], ?_, ?_, by simp [Kd.beginR]⟩
  · intro c hc
    simp only [Kd.beginR, List.mem_replicate] at hc
    rw [hc.2]; decide
  · intro x hx
    simp only [List.mem_map] at hx
    obtain ⟨m, _, rfl⟩ := hx
    exact Nat.zero_le _
  · intro l hl
    simp only [Kd.beginR, List.mem_map, List.mem_range] at hl
    obtain ⟨a, ha, rfl⟩ := hl
    simp [Kd.beginR]; omega
  · intro l hl
    simp only [List.mem_map] at hl
    obtain ⟨m, _, rfl⟩ := hl
    exact Nat.zero_le _
end
end Go.Proofs.YtmjilfamjlnigaaGreat.SrcP
