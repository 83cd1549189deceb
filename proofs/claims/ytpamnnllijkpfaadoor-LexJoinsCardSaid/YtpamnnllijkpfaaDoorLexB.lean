/- WALKS: the runes' predicates of package lex. -/
import Derived.Test.YtpamnnllijkpfaaDoorProg
import Derived.Test.YtpamnnllijkpfaaDoorKit
import Derived.Test.YtpamnnllijkpfaaDoorLexA
import Derived.Outline
namespace Go.Proofs.YtpamnnllijkpfaaDoor.LexW
open Go Go.RowKit Go.Proofs.YtpamnnllijkpfaaDoor.Kit Go.Proofs.YtpamnnllijkpfaaDoor.LexP

theorem ret_bool {a b : Bool} (h : a = b) : Ending.returned (.bool a) = Ending.returned (.bool b) := by rw [h]
theorem ret_int {k : IntKind} {a b : Int} (h : a = b) : Ending.returned (.int k a) = Ending.returned (.int k b) := by rw [h]

set_option maxHeartbeats 400000 in
theorem isDigit_any (r : Int) (w : World) :
    Calls Tryd.prog 33 #[.int .i32 r] w fun e w' => e = .returned (.bool (digB r)) ∧ w = w' := by
  go_enter Tryd.func33, Tryd.ntmps33
  go_wp2
  all_goals go_ret
  all_goals refine ⟨ret_bool ?_, rfl⟩
  all_goals unfold digB
  all_goals first | (rw [Bool.eq_iff_iff]; simp; done) | (rw [Bool.eq_iff_iff]; simp; omega) | (symm; simp; done) | (symm; simp; omega)

set_option maxHeartbeats 400000 in
theorem isLetter_any (r : Int) (w : World) :
    Calls Tryd.prog 32 #[.int .i32 r] w fun e w' => e = .returned (.bool (letB r)) ∧ w = w' := by
  go_enter Tryd.func32, Tryd.ntmps32
  go_wp2
  all_goals go_ret
  all_goals refine ⟨ret_bool ?_, rfl⟩
  all_goals unfold letB
  all_goals first | (rw [Bool.eq_iff_iff]; simp; done) | (rw [Bool.eq_iff_iff]; simp; omega) | (symm; simp; done) | (symm; simp; omega)

theorem blanks1_any (r : Int) (w : World) :
    Calls Tryd.prog 37 #[.int .i32 r] w fun e w' => e = .returned (.bool (blkB r)) ∧ w = w' := by
  go_enter Tryd.func37, Tryd.ntmps37
  go_wp2
  all_goals go_ret
  all_goals refine ⟨ret_bool ?_, rfl⟩
  all_goals unfold blkB
  all_goals first | (rw [Bool.eq_iff_iff]; simp_all; omega) | (rw [Bool.eq_iff_iff]; simp_all; done) | (symm; simp_all; done) | (symm; simp_all; omega)
theorem blanks2_any (r : Int) (w : World) :
    Calls Tryd.prog 39 #[.int .i32 r] w fun e w' => e = .returned (.bool (lineB r)) ∧ w = w' := by
  go_enter Tryd.func39, Tryd.ntmps39
  go_wp2
  all_goals go_ret
  all_goals refine ⟨ret_bool ?_, rfl⟩
  all_goals unfold lineB
  all_goals (rw [Bool.eq_iff_iff]; simp)
theorem token1_any (r : Int) (w : World) :
    Calls Tryd.prog 42 #[.int .i32 r] w fun e w' => e = .returned (.bool (nameB r)) ∧ w = w' := by
  go_enter Tryd.func42, Tryd.ntmps42
  go_wp2_with (first | (go_at_call 32; refine (isLetter_any _ _).mono ?_; rintro e w' ⟨rfl, rfl⟩) | (go_at_call 33; refine (isDigit_any _ _).mono ?_; rintro e w' ⟨rfl, rfl⟩))
  all_goals go_ret
  all_goals refine ⟨ret_bool ?_, rfl⟩
  all_goals unfold nameB
  all_goals simp_all
theorem sixteen_any (r : Int) (w : World) (h0 : -2147483648 ≤ r) (h1 : r ≤ 2147483647) :
    Calls Tryd.prog 54 #[.int .i32 r] w fun e w' => e = .returned (.int .u64 (six r)) ∧ w = w' := by
  by_cases hd : 48 ≤ r ∧ r ≤ 57
  · obtain ⟨a, b⟩ := hd
    have hdb : digB r = true := by simp [digB, a, b]
    go_enter Tryd.func54, Tryd.ntmps54
    go_wp2_with (go_at_call 33; refine (isDigit_any _ _).mono ?_; rintro e w' ⟨rfl, rfl⟩)
    go_ret
    exact ⟨ret_int (by simp [six, a, b]; omega), rfl⟩
  · have hdb : digB r = false := by simp [digB]; omega
    go_enter Tryd.func54, Tryd.ntmps54
    go_wp2_with (go_at_call 33; refine (isDigit_any _ _).mono ?_; rintro e w' ⟨rfl, rfl⟩)
    all_goals go_ret
    all_goals exact ⟨ret_int (by unfold six; (repeat' split) <;> omega), rfl⟩
theorem number1_any (r : Int) (w : World) (h0 : -2147483648 ≤ r) (h1 : r ≤ 2147483647) :
    Calls Tryd.prog 53 #[.int .i32 r] w fun e w' => e = .returned (.bool (hexB r)) ∧ w = w' := by
  go_enter Tryd.func53, Tryd.ntmps53
  go_wp2_with (go_at_call 54; refine (sixteen_any _ _ h0 h1).mono ?_; rintro e w' ⟨rfl, rfl⟩)
  go_ret
  exact ⟨ret_bool (by unfold hexB; rw [Bool.eq_iff_iff]; simp; omega), rfl⟩
end Go.Proofs.YtpamnnllijkpfaaDoor.LexW
