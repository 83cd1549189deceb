/- WALKS: lex.IsName; what every law asks first: awake. -/
import Derived.Test.YtpamnnllijkpfaaDoorLexP
import Derived.Test.YtpamnnllijkpfaaDoorLexQ
namespace Go.Proofs.YtpamnnllijkpfaaDoor.LexP
open Go
/-- All runes are letters, or digits behind the first. -/
def nmS (first : Bool) (l : List UInt8) : Bool :=
  if _h : l = [] then true else if (letB ((Lib.decodeL l).1 : Nat) || (!first && digB ((Lib.decodeL l).1 : Nat))) = true then nmS false (l.drop (Lib.decodeL l).2) else false
termination_by l.length
decreasing_by
  have h1 := Lib.decodeL_width l
  have h2 : 0 < l.length := List.length_pos_iff.2 _h
  simp
  omega
theorem nmS_nil (first : Bool) : nmS first [] = true := by rw [nmS, dif_pos rfl]
theorem nmS_yes {first : Bool} {l : List UInt8} (h : l ≠ []) (hy : (letB ((Lib.decodeL l).1 : Nat) || (!first && digB ((Lib.decodeL l).1 : Nat))) = true) : nmS first l = nmS false (l.drop (Lib.decodeL l).2) := by
  rw [nmS, dif_neg h, if_pos hy]
theorem nmS_no {first : Bool} {l : List UInt8} (h : l ≠ []) (hy : (letB ((Lib.decodeL l).1 : Nat) || (!first && digB ((Lib.decodeL l).1 : Nat))) = false) : nmS first l = false := by
  rw [nmS, dif_neg h, if_neg (by simp only [hy]; decide)]
/-- P5.5 -/
def isNameS (l : List UInt8) : Bool := nmS true l && (!l.isEmpty && !wordB l)
end Go.Proofs.YtpamnnllijkpfaaDoor.LexP
namespace Go.Proofs.YtpamnnllijkpfaaDoor.LexW
open Go Go.RowKit Go.Proofs.YtpamnnllijkpfaaDoor.Kit Go.Proofs.YtpamnnllijkpfaaDoor.LexP

def NRel (s : ByteArray) (w : World) (m : Nat) (wr : World) : Prop :=
  ∃ pos : Nat, wr = w.iter s pos ∧ nmS (decide (pos = 0)) (s.data.toList.drop pos) = nmS true s.data.toList ∧ m = s.size - pos

set_option maxHeartbeats 1000000 in
theorem IsName_any (s : ByteArray) (hs : s.size ≤ 140737488355328) (w : World) (hE : Env w) :
    Calls Tryd.prog 18 #[.string s] w fun e w' => e = .returned (.bool (isNameS s.data.toList)) ∧ Below w.heap.size w w' := by
  go_enter Tryd.func18, Tryd.ntmps18
  go_wp2_with fail
  go_loopg [] s.size (fun m wr => NRel s w m wr)
  case atStart => exact ⟨0, rfl, by simp, rfl⟩
  case round =>
    obtain ⟨pos, rfl, hn, hm⟩ := hrel
    have HN := Lib.hid hn
    have HM := Lib.hid hm
    clear hn hm
    by_cases hp : pos < s.size
    · have hnx : ∀ ty, (Instr.next (.pointer (some ⟨w.heap.size, 0, none⟩)) true ty).run Tryd.prog (w.iter s pos) = _ := fun ty => run_next_any w s pos ty hp
      have hne : s.data.toList.drop pos ≠ [] := by
        intro h0
        have := congrArg List.length h0
        rw [List.length_drop, ← Lib.size_eq] at this
        simp at this
        omega
      have hd := Lib.decodeL_drop s pos
      have hwd := Lib.decodeL_width (s.data.toList.drop pos)
      rw [hd] at hwd
      have hL := isLetter_any ((Utf8.decode s pos).1 : Nat)
      have hD := isDigit_any ((Utf8.decode s pos).1 : Nat)
      have hyes := nmS_yes (first := decide (pos = 0)) hne
      have hno := nmS_no (first := decide (pos = 0)) hne
      rw [hd, HN.out, List.drop_drop] at hyes
      rw [hd, HN.out] at hno
      generalize (Utf8.decode s pos).1 = r at *
      generalize (Utf8.decode s pos).2 = n at *
      have HY := Lib.hid hyes
      have HO := Lib.hid hno
      clear hyes hno hd hne HN
      cases hl : letB (r : Nat) with
      | true =>
        have HL : Hid (∀ w, Calls Tryd.prog 32 #[.int .i32 (r : Nat)] w fun e w' => e = .returned (.bool true) ∧ w = w') := fun w => by have := hL w; rwa [hl] at this
        have HZ := Lib.hid (HY.out (by rw [hl]; rfl))
        clear hL hD hl HO HY
        go_wp2_with (go_at_call 32; refine (HL.out _).mono ?_; rintro e w' ⟨rfl, rfl⟩)
        go_roundg (s.size - (pos + n))
        case measure => have := HM.out; omega
        case rel => exact ⟨pos + n, rfl, by rw [HZ.out, decide_eq_false (by omega)], rfl⟩
      | false =>
        have HL : Hid (∀ w, Calls Tryd.prog 32 #[.int .i32 (r : Nat)] w fun e w' => e = .returned (.bool false) ∧ w = w') := fun w => by have := hL w; rwa [hl] at this
        by_cases h0 : pos = 0
        · have HZ := Lib.hid (HO.out (by rw [hl, h0]; rfl))
          have h0' : ((pos : Int) == 0) = true := by simp [h0]
          clear hL hD hl HO HY h0
          go_wp2_with (go_at_call 32; refine (HL.out _).mono ?_; rintro e w' ⟨rfl, rfl⟩)
          go_ret
          exact ⟨by unfold isNameS; rw [HZ.out]; rfl, (Below.refl _ _).alloc (Nat.le_refl _) _⟩
        · have h0' : ((pos : Int) == 0) = false := by simp; exact h0
          cases hd : digB (r : Nat) with
          | true =>
            have HD : Hid (∀ w, Calls Tryd.prog 33 #[.int .i32 (r : Nat)] w fun e w' => e = .returned (.bool true) ∧ w = w') := fun w => by have := hD w; rwa [hd] at this
            have HZ := Lib.hid (HY.out (by rw [hl, hd, decide_eq_false h0]; rfl))
            clear hL hD hl hd HO HY h0
            go_wp2_with (first | (go_at_call 32; refine (HL.out _).mono ?_; rintro e w' ⟨rfl, rfl⟩) | (go_at_call 33; refine (HD.out _).mono ?_; rintro e w' ⟨rfl, rfl⟩))
            go_roundg (s.size - (pos + n))
            case measure => have := HM.out; omega
            case rel => exact ⟨pos + n, rfl, by rw [HZ.out, decide_eq_false (by omega)], rfl⟩
          | false =>
            have HD : Hid (∀ w, Calls Tryd.prog 33 #[.int .i32 (r : Nat)] w fun e w' => e = .returned (.bool false) ∧ w = w') := fun w => by have := hD w; rwa [hd] at this
            have HZ := Lib.hid (HO.out (by rw [hl, hd]; simp))
            clear hL hD hl hd HO HY h0
            go_wp2_with (first | (go_at_call 32; refine (HL.out _).mono ?_; rintro e w' ⟨rfl, rfl⟩) | (go_at_call 33; refine (HD.out _).mono ?_; rintro e w' ⟨rfl, rfl⟩))
            go_ret
            exact ⟨by unfold isNameS; rw [HZ.out]; rfl, (Below.refl _ _).alloc (Nat.le_refl _) _⟩
    · have hnx : ∀ ty, (Instr.next (.pointer (some ⟨w.heap.size, 0, none⟩)) true ty).run Tryd.prog (w.iter s pos) = _ := fun ty => run_next_end w s pos ty hp
      have hz : nmS true s.data.toList = true := by
        rw [← HN.out, List.drop_eq_nil_of_le (by rw [← Lib.size_eq]; omega), nmS_nil]
      have HZ := Lib.hid hz
      clear hz HN HM
      have hEi : Env (w.iter s pos) := hE.below ((Below.refl _ _).alloc (Nat.le_refl _) _)
      have HC : Hid (Calls Tryd.prog 34 #[.string ⟨wordsL.toArray⟩, .string (⟨#[32]⟩ ++ s ++ ⟨#[32]⟩)] (w.iter s pos) fun e w' => e = .returned (.bool (wordB s.data.toList)) ∧ w' = w.iter s pos) := by
        have h := Contains_any ⟨wordsL.toArray⟩ (⟨#[32]⟩ ++ s ++ ⟨#[32]⟩) (w.iter s pos) hEi (by decide)
        have hsub : ((⟨#[32]⟩ : ByteArray) ++ s ++ ⟨#[32]⟩).data.toList = 32 :: (s.data.toList ++ [32]) := by simp [ByteArray.data_append]
        rwa [hsub] at h
      by_cases he : s.data.toList = []
      · have hem : s.toList.isEmpty = true := by rw [Lib.toList_data, he]; rfl
        have HEM := Lib.hid he
        clear he
        go_wp2_with fail
        go_ret
        exact ⟨by unfold isNameS; rw [HZ.out, HEM.out]; rfl, (Below.refl _ _).alloc (Nat.le_refl _) _⟩
      · have hem : s.toList.isEmpty = false := by rw [Lib.toList_data, List.isEmpty_eq_false_iff]; exact he
        have hem2 : s.data.toList.isEmpty = false := by rw [List.isEmpty_eq_false_iff]; exact he
        have HEM := Lib.hid hem2
        clear he hem2
        go_wp2_with (go_at_call 34; refine HC.out.mono ?_; rintro e w' ⟨rfl, rfl⟩)
        go_ret
        exact ⟨by unfold isNameS; rw [HZ.out, HEM.out]; simp, (Below.refl _ _).alloc (Nat.le_refl _) _⟩
end Go.Proofs.YtpamnnllijkpfaaDoor.LexW
