/- WALKS: what a whole program is: an act. -/
import Derived.Test.YtmjilfamjlnigaaGreatQ05
namespace Go.Proofs.YtmjilfamjlnigaaGreat.SrcW
open Go Go.RowKit Go.Proofs.YtmjilfamjlnigaaGreat.Kit Go.Proofs.YtmjilfamjlnigaaGreat.SrcP

set_option maxRecDepth 100000 in
set_option maxHeartbeats 0 in
theorem wholeAct_any (a : SrcP.Act) (vi ve vf vt : Value) (cells : Int) (hc : 0 ≤ cells ∧ cells ≤ 4096) (locals n : Nat) (hloc : locals ≤ 24) (hn : n ≤ 65536) (A : Option Addr) (c : Nat) (w : World) (ha : ActV w vi ve vf a) :
    Calls Tryz.prog 59 #[.agg (actC a vi ve vf), .agg #[.int .i64 cells, vt], .agg #[.int .i64 locals, .slice A n c]] w fun r w' => r = .returned (.bool (actOk cells locals n a)) ∧ Below w.heap.size w w' := by
  have HPL : ∀ w2, Below w.heap.size w w2 → Hid (Calls Tryz.prog 97 #[.agg (actC a vi ve vf), .agg #[.int .i64 cells, vt], .int .i64 locals] w2 fun r w' => r = .returned (.bool (placeOk cells locals a)) ∧ Below w2.heap.size w2 w') :=
    fun w2 hb2 => Lib.hid (wholePlace_any a vi ve vf vt cells hc locals hloc w2 (ha.below hb2))
  unfold actC at HPL ⊢
  have HA := Lib.hid ha
  obtain ⟨op, dst, base, size, index, e, f, mode, to_, line, col⟩ := a
  simp only at HA HPL ⊢
  have hP := Lib.hid (rfl : placeOk cells locals ⟨op, dst, base, size, index, e, f, mode, to_, line, col⟩ = placeOk cells locals ⟨op, dst, base, size, index, e, f, mode, to_, line, col⟩)
  clear ha
  have HMAY := fun w => Lib.hid (may_any op mode w)
  by_cases h1 : op < 1
  · have d1 : ¬ (1 ≤ op ∧ op ≤ 10) := by omega
    have D1 := Lib.hid d1
    clear d1
    replace HMAY := HMAY w
    go_enter Tryz.func59, Tryz.ntmps59
    go_wp2_with (first | (go_at_call 95; refine HMAY.out.mono ?_; rintro e w2 ⟨rfl, rfl⟩))
    go_ret
    refine ⟨congrArg (fun x : Bool => Ending.returned (.bool x)) (?_ : false = actOk cells locals n _), by repeat (first | exact Below.refl _ _ | refine Kit.Below.al ?_ _)⟩
    simp [actOk, D1.out]
  by_cases h10 : 10 < op
  · have d1 : ¬ (1 ≤ op ∧ op ≤ 10) := by omega
    have D1 := Lib.hid d1
    clear d1
    replace HMAY := HMAY w
    go_enter Tryz.func59, Tryz.ntmps59
    go_wp2_with (first | (go_at_call 95; refine HMAY.out.mono ?_; rintro e w2 ⟨rfl, rfl⟩))
    go_ret
    refine ⟨congrArg (fun x : Bool => Ending.returned (.bool x)) (?_ : false = actOk cells locals n _), by repeat (first | exact Below.refl _ _ | refine Kit.Below.al ?_ _)⟩
    simp [actOk, D1.out]
  have D10 := Lib.hid (show 1 ≤ op ∧ op ≤ 10 by omega)
  cases hm : mayB op mode with
  | false =>
    have HM := Lib.hid hm
    replace HMAY := HMAY (((w.alloc (.cells #[.int .i64 op, .int .i64 dst, .int .i64 base, .int .i64 size, vi, ve, vf, .int .i64 mode, .int .i64 to_, .int .i64 line, .int .i64 col] 58)).alloc (.cells #[.int .i64 cells, vt] 24)).alloc (.cells #[.int .i64 locals, .slice A n c] 60))
    rw [hm] at HMAY
    clear hm
    go_enter Tryz.func59, Tryz.ntmps59
    go_wp2_with (first | (go_at_call 95; refine HMAY.out.mono ?_; rintro e w2 ⟨rfl, rfl⟩))
    go_ret
    refine ⟨congrArg (fun x : Bool => Ending.returned (.bool x)) (?_ : false = actOk cells locals n _), by repeat (first | exact Below.refl _ _ | refine Kit.Below.al ?_ _)⟩
    simp [actOk, HM.out]
  | true =>
    have HACT : Hid (actOk cells locals n ⟨op, dst, base, size, index, e, f, mode, to_, line, col⟩ =
        ((if hasDst op then decide (0 ≤ dst ∧ dst < (locals : Int)) else dst == 0)
        && (if hasPlace op then placeOk cells locals ⟨op, dst, base, size, index, e, f, mode, to_, line, col⟩ else base == 0 && size == 0 && index.isEmpty)
        && ((hasE op == !e.isEmpty) && (hasF op == !f.isEmpty) && (!hasE op || exprOk e locals) && (!hasF op || exprOk f locals))
        && (if hasTo op then decide (0 ≤ to_ ∧ to_ ≤ (n : Int)) else to_ == 0))) := Lib.hid (by
      have := D10.out
      simp only [actOk, hm, this, and_self, decide_true, Bool.true_and, Bool.and_assoc])
    replace HMAY := HMAY (((w.alloc (.cells #[.int .i64 op, .int .i64 dst, .int .i64 base, .int .i64 size, vi, ve, vf, .int .i64 mode, .int .i64 to_, .int .i64 line, .int .i64 col] 58)).alloc (.cells #[.int .i64 cells, vt] 24)).alloc (.cells #[.int .i64 locals, .slice A n c] 60))
    rw [hm] at HMAY
    clear hm
    have HPA := fun w => Lib.hid (parts_any op D10.out.1 D10.out.2 w)
    unfold hasV at HPA
    generalize hasDst op = b0 at *
    generalize hasPlace op = b1 at *
    generalize hasE op = b2 at *
    generalize hasF op = b3 at *
    generalize hasTo op = b4 at *
    go_enter Tryz.func59, Tryz.ntmps59
    go_upto_block 0 with (first | (go_at_call 95; refine HMAY.out.mono ?_; rintro e w2 ⟨rfl, rfl⟩) | (go_at_call 96; refine (HPA _).out.mono ?_; rintro e w4 ⟨rfl, hb4⟩))
    obtain ⟨w0, hw0⟩ : ∃ x, x = ((w.alloc (.cells #[.int .i64 op, .int .i64 dst, .int .i64 base, .int .i64 size, vi, ve, vf, .int .i64 mode, .int .i64 to_, .int .i64 line, .int .i64 col] 58)).alloc (.cells #[.int .i64 cells, vt] 24)).alloc (.cells #[.int .i64 locals, .slice A n c] 60) := ⟨_, rfl⟩
    have hb0 : Below w.heap.size w w0 := by rw [hw0]; exact Kit.Below.al (Kit.Below.al (Kit.Below.al (Below.refl _ _) _) _) _
    have hA0 : Blk w0 w.heap.size 58 #[.int .i64 op, .int .i64 dst, .int .i64 base, .int .i64 size, vi, ve, vf, .int .i64 mode, .int .i64 to_, .int .i64 line, .int .i64 col] := by rw [hw0]; exact ((Blk.new w _ _).alloc _).alloc _
    have hP0 : Blk w0 (w.heap.size + 1) 24 #[.int .i64 cells, vt] := by rw [hw0]; exact (Blk.newAt (sizeA w _) _ _).alloc _
    have hT0 : Blk w0 (w.heap.size + 1 + 1) 60 #[.int .i64 locals, .slice A n c] := by rw [hw0]; exact Blk.newAt (by rw [sizeA, sizeA]) _ _
    rw [← hw0] at hb4
    clear hw0 HMAY HPA
    have hb5 := Kit.Below.al (Kit.Below.then hb0 hb4) (.cells #[.bool b0, .bool b1, .bool b2, .bool b3, .bool b4] 199)
    have hA5 := (hA0.below' hb4).alloc (.cells #[.bool b0, .bool b1, .bool b2, .bool b3, .bool b4] 199)
    have hP5 := (hP0.below' hb4).alloc (.cells #[.bool b0, .bool b1, .bool b2, .bool b3, .bool b4] 199)
    have hT5 := (hT0.below' hb4).alloc (.cells #[.bool b0, .bool b1, .bool b2, .bool b3, .bool b4] 199)
    have hH5 := Blk.new w4 199 #[.bool b0, .bool b1, .bool b2, .bool b3, .bool b4]
    generalize w4.alloc (.cells #[.bool b0, .bool b1, .bool b2, .bool b3, .bool b4] 199) = w5 at *
    clear hb4 hb0 hA0 hP0 hT0
    have hlt1 := hA5.lt
    have hlt2 := hP5.lt
    have hlt3 := hT5.lt
    have hlt4 := hH5.lt
    generalize w4.heap.size = gh at *
    generalize hga : w.heap.size = ga at *
    generalize hgp : ga + 1 = gp at *
    generalize hgt : gp + 1 = gt at *
    have HGA := Lib.hid hga
    clear hga hgp hgt
    have hbr := Below.refl w5.heap.size w5
    refine wp_block ?_
    refine wp_seq_k fun K1 HK1 => ?_
    go_cut [27] (fun s27 wz => s27 = .bool (!(if b0 = true then decide (0 ≤ dst ∧ dst < (locals : Int)) else dst == 0)) ∧ Below w5.heap.size w5 wz)
    case first =>
      have ka1 : w5.cell? ⟨ga, 1, none⟩ = some (.int .i64 dst) := (hA5.below' hbr).cell 1
      have kt0 : w5.cell? ⟨gt, 0, none⟩ = some (.int .i64 locals) := (hT5.below' hbr).cell 0
      have kh0 : w5.cell? ⟨gh, 0, none⟩ = some (.bool b0) := (hH5.below' hbr).cell 0
      cases b0
      · by_cases hd : dst = 0
        · subst hd
          go_wp2_with fail
          go_meet
          exact ⟨by first | rfl | (simp; done) | (simp; omega), hbr⟩
        · have q1 : (dst != 0) = true := by simp [hd]
          have q2 : (dst == 0) = false := by simp [hd]
          go_wp2_with fail
          go_meet
          exact ⟨by first | rfl | (simp; done) | (simp; omega), hbr⟩
      · by_cases hd : dst < 0
        · skip
          go_wp2_with fail
          go_meet
          exact ⟨by first | rfl | (simp; done) | (simp; omega), hbr⟩
        · by_cases hd2 : (locals : Int) ≤ dst
          · skip
            go_wp2_with fail
            go_meet
            exact ⟨by first | rfl | (simp; done) | (simp; omega), hbr⟩
          · skip
            go_wp2_with fail
            go_meet
            exact ⟨by first | rfl | (simp; done) | (simp; omega), hbr⟩
    case rest =>
      obtain ⟨rfl, hbz⟩ := hcut
      generalize (if b0 = true then decide (0 ≤ dst ∧ dst < (locals : Int)) else dst == 0) = x0 at *
      have hbw := hb5.trans (hbz.mono (Nat.le_of_lt hlt1))
      cases x0 with
      | false =>
        go_wp2_with fail
        go_ret
        exact ⟨congrArg (fun x : Bool => Ending.returned (.bool x)) (show false = _ by rw [HACT.out]; simp), by rw [HGA.out]; exact hbw⟩
      | true =>
        refine HK1 _ _ ?_
        go_step
        refine wp_seq_k fun K2 HK2 => ?_
        go_cut [50] (fun s50 wz => s50 = .bool (!(if b1 = true then placeOk cells locals ⟨op, dst, base, size, index, e, f, mode, to_, line, col⟩ else base == 0 && size == 0 && index.isEmpty)) ∧ Below w5.heap.size w5 wz)
        case first =>
          have ka0 : wc.cell? ⟨ga, 0, none⟩ = some (.int .i64 op) := (hA5.below' hbz).cell 0
          have ka1 : wc.cell? ⟨ga, 1, none⟩ = some (.int .i64 dst) := (hA5.below' hbz).cell 1
          have ka2 : wc.cell? ⟨ga, 2, none⟩ = some (.int .i64 base) := (hA5.below' hbz).cell 2
          have ka3 : wc.cell? ⟨ga, 3, none⟩ = some (.int .i64 size) := (hA5.below' hbz).cell 3
          have ka4 : wc.cell? ⟨ga, 4, none⟩ = some vi := (hA5.below' hbz).cell 4
          have ka5 : wc.cell? ⟨ga, 5, none⟩ = some ve := (hA5.below' hbz).cell 5
          have ka6 : wc.cell? ⟨ga, 6, none⟩ = some vf := (hA5.below' hbz).cell 6
          have ka7 : wc.cell? ⟨ga, 7, none⟩ = some (.int .i64 mode) := (hA5.below' hbz).cell 7
          have ka8 : wc.cell? ⟨ga, 8, none⟩ = some (.int .i64 to_) := (hA5.below' hbz).cell 8
          have ka9 : wc.cell? ⟨ga, 9, none⟩ = some (.int .i64 line) := (hA5.below' hbz).cell 9
          have ka10 : wc.cell? ⟨ga, 10, none⟩ = some (.int .i64 col) := (hA5.below' hbz).cell 10
          have kp0 : wc.cell? ⟨gp, 0, none⟩ = some (.int .i64 cells) := (hP5.below' hbz).cell 0
          have kp1 : wc.cell? ⟨gp, 1, none⟩ = some vt := (hP5.below' hbz).cell 1
          have kt0 : wc.cell? ⟨gt, 0, none⟩ = some (.int .i64 locals) := (hT5.below' hbz).cell 0
          have kh1 : wc.cell? ⟨gh, 1, none⟩ = some (.bool b1) := (hH5.below' hbz).cell 1
          cases b1
          · by_cases hd : base = 0
            · subst hd
              by_cases hs : size = 0
              · subst hs
                obtain ⟨I, ci, hvi, _⟩ := HA.out.index
                simp only at hvi
                subst hvi
                cases index with
                | nil =>
                  go_wp2_with fail
                  go_meet
                  exact ⟨by first | rfl | (simp; done) | (simp; omega), hbz⟩
                | cons n0 index =>
                  have hpl : (0 : Int) < ((index.length + 1 : Nat) : Int) := by omega
                  have q5 : (0 : Int) < ((n0 :: index).length : Int) := by rw [List.length_cons]; exact hpl
                  clear hpl HPL
                  generalize hL : (n0 :: index).length = L at *
                  go_wp2_with fail
                  go_meet
                  exact ⟨by first | rfl | (simp; done) | (simp; omega), hbz⟩
              · have q1 : (size != 0) = true := by simp [hs]
                have q2 : (size == 0) = false := by simp [hs]
                go_wp2_with fail
                go_meet
                exact ⟨by first | rfl | (simp; done) | (simp; omega), hbz⟩
            · have q1 : (base != 0) = true := by simp [hd]
              have q2 : (base == 0) = false := by simp [hd]
              go_wp2_with fail
              go_meet
              exact ⟨by first | rfl | (simp; done) | (simp; omega), hbz⟩
          · have HPL2 := HPL _ hbw
            generalize placeOk cells locals ⟨op, dst, base, size, index, e, f, mode, to_, line, col⟩ = xp at *
            cases xp
            · go_wp2_with (go_at_call 97; refine HPL2.out.mono ?_; rintro e w2 ⟨rfl, hb2⟩)
              go_meet
              exact ⟨by first | rfl | (simp [*]; done) | (simp; omega), Kit.Below.then hbz hb2⟩
            · go_wp2_with (go_at_call 97; refine HPL2.out.mono ?_; rintro e w2 ⟨rfl, hb2⟩; have kh1' : w2.cell? ⟨gh, 1, none⟩ = some (.bool true) := (hH5.below' (Kit.Below.then hbz hb2)).cell 1)
              go_meet
              exact ⟨by first | rfl | (simp [*]; done) | (simp; omega), Kit.Below.then hbz hb2⟩
        case rest =>
          obtain ⟨rfl, hbz⟩ := hcut
          generalize (if b1 = true then placeOk cells locals ⟨op, dst, base, size, index, e, f, mode, to_, line, col⟩ else base == 0 && size == 0 && index.isEmpty) = x1 at *
          have hbw := hb5.trans (hbz.mono (Nat.le_of_lt hlt1))
          clear HPL
          cases x1 with
          | false =>
            go_wp2_with fail
            go_ret
            exact ⟨congrArg (fun x : Bool => Ending.returned (.bool x)) (show false = _ by rw [HACT.out]; simp), by rw [HGA.out]; exact hbw⟩
          | true =>
            obtain ⟨E, ce, hve, _⟩ := HA.out.e
            simp only at hve
            subst hve
            obtain ⟨F, cf, hvf, _⟩ := HA.out.f
            simp only at hvf
            subst hvf
            have HEe : ∀ w2, Below ga w w2 → Hid (Calls Tryz.prog 98 #[.slice E e.length ce, .int .i64 locals] w2 fun r w' => r = .returned (.bool (exprOk e locals)) ∧ Below w2.heap.size w2 w') :=
              fun w2 hb2 => Lib.hid (expression_any E ce e locals hloc HA.out.he w2 (HA.out.e.below (HGA.out.symm ▸ hb2)))
            have HEf : ∀ w2, Below ga w w2 → Hid (Calls Tryz.prog 98 #[.slice F f.length cf, .int .i64 locals] w2 fun r w' => r = .returned (.bool (exprOk f locals)) ∧ Below w2.heap.size w2 w') :=
              fun w2 hb2 => Lib.hid (expression_any F cf f locals hloc HA.out.hf w2 (HA.out.f.below (HGA.out.symm ▸ hb2)))
            have hze : (!e.isEmpty) = decide (0 < e.length) := by cases e <;> simp
            have hzf : (!f.isEmpty) = decide (0 < f.length) := by cases f <;> simp
            rw [hze, hzf] at HACT
            clear hze hzf HA
            generalize exprOk e locals = xe at *
            generalize exprOk f locals = xf at *
            generalize e.length = le at *
            generalize f.length = lf at *
            refine HK2 _ _ ?_
            go_step
            refine wp_seq_k fun K3 HK3 => ?_
            go_cut [80] (fun s80 wz => s80 = .bool (!((b2 == decide (0 < le)) && (b3 == decide (0 < lf)) && (!b2 || xe) && (!b3 || xf))) ∧ Below w5.heap.size w5 wz)
            case first =>
              have ka5 : wc.cell? ⟨ga, 5, none⟩ = some (.slice E le ce) := (hA5.below' hbz).cell 5
              have ka6 : wc.cell? ⟨ga, 6, none⟩ = some (.slice F lf cf) := (hA5.below' hbz).cell 6
              have kt0 : wc.cell? ⟨gt, 0, none⟩ = some (.int .i64 locals) := (hT5.below' hbz).cell 0
              have kh2 : wc.cell? ⟨gh, 2, none⟩ = some (.bool b2) := (hH5.below' hbz).cell 2
              have kh3 : wc.cell? ⟨gh, 3, none⟩ = some (.bool b3) := (hH5.below' hbz).cell 3
              clear HACT HGA D10
              have hgz : ga ≤ wc.heap.size := by have := hbz.size; omega
              by_cases h2 : 0 < le
              · have g2 : (0 : Int) < (le : Int) := by omega
                cases b2
                · skip
                  go_wp2_with fail
                  go_meet
                  exact ⟨by first | rfl | (simp [*]; done) | (simp; omega), hbz⟩
                · skip
                  by_cases h3 : 0 < lf
                  · have g3 : (0 : Int) < (lf : Int) := by omega
                    cases b3
                    · skip
                      go_wp2_with fail
                      go_meet
                      exact ⟨by first | rfl | (simp [*]; done) | (simp; omega), hbz⟩
                    · cases xe
                      · skip
                        go_wp2_with (go_at_call 98; refine (HEe _ hbw).out.mono ?_; rintro e w2 ⟨rfl, hb2⟩; have hbz2 := Kit.Below.then hbz hb2; have kf3 : w2.cell? ⟨gh, 3, none⟩ = some (.bool true) := (hH5.below' hbz2).cell 3)
                        go_meet
                        exact ⟨by first | rfl | (simp [*]; done) | (simp; omega), Kit.Below.then hbz hb2⟩
                      · skip
                        go_upto_region 13 with (go_at_call 98; refine (HEe _ hbw).out.mono ?_; rintro e w2 ⟨rfl, hb2⟩; have hbz2 := Kit.Below.then hbz hb2; have kf3 : w2.cell? ⟨gh, 3, none⟩ = some (.bool true) := (hH5.below' hbz2).cell 3; have kf6 : w2.cell? ⟨ga, 6, none⟩ = some (.slice F lf cf) := (hA5.below' hbz2).cell 6; have kf0 : w2.cell? ⟨gt, 0, none⟩ = some (.int .i64 locals) := (hT5.below' hbz2).cell 0; have hbw2 := hbw.trans (hb2.mono hgz); clear ka5 ka6 kt0 kh2 kh3)
                        go_wp2_with (go_at_call 98; refine (HEf _ hbw2).out.mono ?_; rintro e w3 ⟨rfl, hb3⟩)
                        go_meet
                        exact ⟨by first | rfl | (simp [*]; done) | (simp; omega), Kit.Below.then hbz2 hb3⟩
                  · have g3 : ¬ (0 : Int) < (lf : Int) := by omega
                    cases b3
                    · cases xe
                      · skip
                        go_wp2_with (go_at_call 98; refine (HEe _ hbw).out.mono ?_; rintro e w2 ⟨rfl, hb2⟩; have hbz2 := Kit.Below.then hbz hb2; have kf3 : w2.cell? ⟨gh, 3, none⟩ = some (.bool false) := (hH5.below' hbz2).cell 3)
                        go_meet
                        exact ⟨by first | rfl | (simp [*]; done) | (simp; omega), Kit.Below.then hbz hb2⟩
                      · skip
                        go_wp2_with (go_at_call 98; refine (HEe _ hbw).out.mono ?_; rintro e w2 ⟨rfl, hb2⟩; have hbz2 := Kit.Below.then hbz hb2; have kf3 : w2.cell? ⟨gh, 3, none⟩ = some (.bool false) := (hH5.below' hbz2).cell 3)
                        go_meet
                        exact ⟨by first | rfl | (simp [*]; done) | (simp; omega), Kit.Below.then hbz hb2⟩
                    · skip
                      go_wp2_with fail
                      go_meet
                      exact ⟨by first | rfl | (simp [*]; done) | (simp; omega), hbz⟩
              · have g2 : ¬ (0 : Int) < (le : Int) := by omega
                cases b2
                · skip
                  by_cases h3 : 0 < lf
                  · have g3 : (0 : Int) < (lf : Int) := by omega
                    cases b3
                    · skip
                      go_wp2_with fail
                      go_meet
                      exact ⟨by first | rfl | (simp [*]; done) | (simp; omega), hbz⟩
                    · skip
                      go_wp2_with (go_at_call 98; refine (HEf _ hbw).out.mono ?_; rintro e w3 ⟨rfl, hb3⟩)
                      go_meet
                      exact ⟨by first | rfl | (simp [*]; done) | (simp; omega), Kit.Below.then hbz hb3⟩
                  · have g3 : ¬ (0 : Int) < (lf : Int) := by omega
                    cases b3
                    · skip
                      go_wp2_with fail
                      go_meet
                      exact ⟨by first | rfl | (simp [*]; done) | (simp; omega), hbz⟩
                    · skip
                      go_wp2_with fail
                      go_meet
                      exact ⟨by first | rfl | (simp [*]; done) | (simp; omega), hbz⟩
                · skip
                  go_wp2_with fail
                  go_meet
                  exact ⟨by first | rfl | (simp [*]; done) | (simp; omega), hbz⟩
            case rest =>
              obtain ⟨rfl, hbz⟩ := hcut
              generalize ((b2 == decide (0 < le)) && (b3 == decide (0 < lf)) && (!b2 || xe) && (!b3 || xf)) = x2 at *
              have hbw := hb5.trans (hbz.mono (Nat.le_of_lt hlt1))
              cases x2 with
              | false =>
                go_wp2_with fail
                go_ret
                exact ⟨congrArg (fun x : Bool => Ending.returned (.bool x)) (show false = _ by rw [HACT.out]; simp), by rw [HGA.out]; exact hbw⟩
              | true =>
                refine HK3 _ _ ?_
                go_step
                refine wp_seq_k fun K4 HK4 => ?_
                go_cut [115] (fun s115 wz => s115 = .bool (!(if b4 = true then decide (0 ≤ to_ ∧ to_ ≤ (n : Int)) else to_ == 0)) ∧ Below w5.heap.size w5 wz)
                case first =>
                  have ka8 : wc.cell? ⟨ga, 8, none⟩ = some (.int .i64 to_) := (hA5.below' hbz).cell 8
                  have kt1 : wc.cell? ⟨gt, 1, none⟩ = some (.slice A n c) := (hT5.below' hbz).cell 1
                  have kh4 : wc.cell? ⟨gh, 4, none⟩ = some (.bool b4) := (hH5.below' hbz).cell 4
                  cases b4
                  · by_cases hd : to_ = 0
                    · subst hd
                      go_wp2_with fail
                      go_meet
                      exact ⟨by first | rfl | (simp; done) | (simp; omega), hbz⟩
                    · have q1 : (to_ != 0) = true := by simp [hd]
                      have q2 : (to_ == 0) = false := by simp [hd]
                      go_wp2_with fail
                      go_meet
                      exact ⟨by first | rfl | (simp; done) | (simp; omega), hbz⟩
                  · by_cases hd : to_ < 0
                    · skip
                      go_wp2_with fail
                      go_meet
                      exact ⟨by first | rfl | (simp; done) | (simp; omega), hbz⟩
                    · by_cases hd2 : (n : Int) < to_
                      · skip
                        go_wp2_with fail
                        go_meet
                        exact ⟨by first | rfl | (simp; done) | (simp; omega), hbz⟩
                      · skip
                        go_wp2_with fail
                        go_meet
                        exact ⟨by first | rfl | (simp; done) | (simp; omega), hbz⟩
                case rest =>
                  obtain ⟨rfl, hbz⟩ := hcut
                  generalize (if b4 = true then decide (0 ≤ to_ ∧ to_ ≤ (n : Int)) else to_ == 0) = x3 at *
                  have hbw := hb5.trans (hbz.mono (Nat.le_of_lt hlt1))
                  cases x3 with
                  | false =>
                    go_wp2_with fail
                    go_ret
                    exact ⟨congrArg (fun x : Bool => Ending.returned (.bool x)) (show false = _ by rw [HACT.out]; simp), by rw [HGA.out]; exact hbw⟩
                  | true =>
                    go_wp2_with fail
                    go_ret
                    exact ⟨congrArg (fun x : Bool => Ending.returned (.bool x)) (show true = _ by rw [HACT.out]; simp), by rw [HGA.out]; exact hbw⟩
end Go.Proofs.YtmjilfamjlnigaaGreat.SrcW
