/- WALKS: the reference of chapter 5: its small functions on runes and bytes. -/
import Derived.Test.YtpamnnllijkpfaaDoorLexC
namespace Go.Proofs.YtpamnnllijkpfaaDoor.LexW
open Go Go.RowKit Go.Proofs.YtpamnnllijkpfaaDoor.Kit Go.Proofs.YtpamnnllijkpfaaDoor.LexP

/-- A rune as the reference keeps it. -/
def runeV (r a n l c : Int) : Value := .agg #[.int .i64 r, .int .i64 a, .int .i64 n, .int .i64 l, .int .i64 c]

set_option maxHeartbeats 400000 in
theorem rdigit_any (r a n l c : Int) (w : World) :
    Calls Tryd.prog 25 #[runeV r a n l c] w fun e w' => e = .returned (.bool (decide (0 < n) && digB r)) ∧ Below w.heap.size w w' := by
  unfold runeV
  go_enter Tryd.func25, Tryd.ntmps25
  go_wp2
  all_goals go_ret
  all_goals refine ⟨ret_bool ?_, Kit.Below.al (Below.refl _ _) _⟩
  all_goals unfold digB
  all_goals first | (rw [Bool.eq_iff_iff]; simp_all; done) | (rw [Bool.eq_iff_iff]; simp_all; omega) | (symm; simp_all; done) | (symm; simp_all; omega) | (simp_all; done) | (simp_all; omega)
set_option maxHeartbeats 400000 in
theorem rletter_any (r a n l c : Int) (w : World) :
    Calls Tryd.prog 27 #[runeV r a n l c] w fun e w' => e = .returned (.bool (decide (0 < n) && letB r)) ∧ Below w.heap.size w w' := by
  unfold runeV
  go_enter Tryd.func27, Tryd.ntmps27
  go_wp2
  all_goals go_ret
  all_goals refine ⟨ret_bool ?_, Kit.Below.al (Below.refl _ _) _⟩
  all_goals unfold letB
  all_goals first | (rw [Bool.eq_iff_iff]; simp_all; done) | (rw [Bool.eq_iff_iff]; simp_all; omega) | (symm; simp_all; done) | (symm; simp_all; omega) | (simp_all; done) | (simp_all; omega)
set_option maxHeartbeats 400000 in
theorem rblank_any (r a n l c : Int) (w : World) :
    Calls Tryd.prog 46 #[runeV r a n l c] w fun e w' => e = .returned (.bool (decide (0 < n) && blkB r)) ∧ Below w.heap.size w w' := by
  unfold runeV
  go_enter Tryd.func46, Tryd.ntmps46
  go_wp2
  all_goals go_ret
  all_goals refine ⟨ret_bool ?_, Kit.Below.al (Below.refl _ _) _⟩
  all_goals unfold blkB
  all_goals first | (rw [Bool.eq_iff_iff]; simp_all; done) | (rw [Bool.eq_iff_iff]; simp_all; omega) | (symm; simp_all; done) | (symm; simp_all; omega) | (simp_all; done) | (simp_all; omega)

set_option maxHeartbeats 400000 in
theorem rsixteen_any (r a n l c : Int) (w : World) (h0 : -2147483648 ≤ r) (h1 : r ≤ 2147483647) :
    Calls Tryd.prog 47 #[runeV r a n l c] w fun e w' => e = .returned (.int .i64 (if 0 < n then (six r : Nat) else (16 : Nat) : Nat)) ∧ Below w.heap.size w w' := by
  have hD := fun w => rdigit_any r a n l c w
  unfold runeV at hD ⊢
  go_enter Tryd.func47, Tryd.ntmps47
  go_wp2_with fail
  refine (hD _).mono ?_
  rintro e w' ⟨rfl, hw⟩
  have B0 := (Blk.new w 52 #[.int .i64 r, .int .i64 a, .int .i64 n, .int .i64 l, .int .i64 c]).below' hw
  have c0 : w'.cell? ⟨w.heap.size, 0, none⟩ = some (.int .i64 r) := B0.cell 0
  have c2 : w'.cell? ⟨w.heap.size, 2, none⟩ = some (.int .i64 n) := B0.cell 2
  have hb := Kit.Below.then (Kit.Below.al (Below.refl w.heap.size w) _) hw
  clear hD B0 hw
  cases hd : decide (0 < n) && digB r with
  | true =>
    have hh : 0 < n ∧ (48 ≤ r ∧ r ≤ 57) := by simpa [digB] using hd
    obtain ⟨hn, h2, h3⟩ := hh
    clear hd
    go_wp2
    go_ret
    exact ⟨ret_int (by unfold six; (repeat' split) <;> omega), hb⟩
  | false =>
    have hh : ¬(0 < n ∧ (48 ≤ r ∧ r ≤ 57)) := by simpa [digB] using hd
    clear hd
    go_wp2
    all_goals go_ret
    all_goals exact ⟨ret_int (by first | rfl | (unfold six; (repeat' split) <;> omega)), hb⟩

theorem here_any (r a n l c : Int) (w : World) :
    Calls Tryd.prog 31 #[runeV r a n l c] w fun e w' => e = .returned (.agg #[.int .i64 20, .int .i64 l, .int .i64 c]) ∧ Below w.heap.size w w' := by
  unfold runeV
  go_enter Tryd.func31, Tryd.ntmps31
  go_wp2
  refine bodyPost_ret (v := .agg #[.int .i64 20, .int .i64 l, .int .i64 c]) (by simp [results, Tryd.results31, go_sem]) rfl ⟨rfl, ?_⟩
  repeat (first | with_reducible exact Below.refl _ _ | with_reducible refine Kit.Below.al ?_ _)

end Go.Proofs.YtpamnnllijkpfaaDoor.LexW
