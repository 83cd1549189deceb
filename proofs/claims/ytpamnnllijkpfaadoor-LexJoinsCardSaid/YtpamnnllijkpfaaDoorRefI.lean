/- WALKS: the reference's skipped. -/
import Derived.Test.YtpamnnllijkpfaaDoorRefH
namespace Go.Proofs.YtpamnnllijkpfaaDoor.LexP
open Go
theorem stn_le (s : St) (k : Nat) : (stn s k).le s := by
  induction k with
  | zero => exact St.le_refl s
  | succ k ih => exact St.le_trans (step_le _) ih
theorem stn_drop (l : List UInt8) (a b k : Nat) : l.drop (l.length - (stn ⟨l, a, b⟩ k).rest.length) = (stn ⟨l, a, b⟩ k).rest := by
  obtain ⟨i, hi, e⟩ := stn_le ⟨l, a, b⟩ k
  simp only at hi e
  have h := congrArg List.length e
  rw [List.length_drop] at h
  rw [h, e]
  congr 1
  omega
theorem stn_len (l : List UInt8) (a b k : Nat) : (stn ⟨l, a, b⟩ k).rest.length ≤ l.length := St.le_len (stn_le ⟨l, a, b⟩ k)
theorem goes_blk (s : St) : s.goes blkB = (decide ((0 : Int) < ((dec s.rest).2 : Nat)) && blkB (dec s.rest).1) := by
  unfold St.goes
  cases h : blkB (dec s.rest).1 with
  | false => simp
  | true =>
    have : 0 ≤ (dec s.rest).1 := by simp [blkB] at h; omega
    simp [this]
theorem goes_line (s : St) : s.goes lineB = (decide (0 < (dec s.rest).2) && (decide ((dec s.rest).1 ≠ 10) && decide (0 ≤ (dec s.rest).1))) := by
  unfold St.goes lineB
  rw [Bool.and_comm (decide ((dec s.rest).1 ≠ 10))]
theorem blanks_step {s : St} (h : s.goes blkB = true) : s.blanks = s.step.blanks := by
  cases hs : slash (s.while blkB).rest with
  | true => rw [blanks_yes hs, blanks_yes (s := s.step) (by rw [← while_yes h]; exact hs), while_yes h]
  | false => rw [blanks_no hs, blanks_no (s := s.step) (by rw [← while_yes h]; exact hs), while_yes h]
theorem blanks_stay {s : St} (h : s.goes blkB = false) (hs : slash s.rest = false) : s.blanks = s := by
  rw [blanks_no (by rw [while_no h]; exact hs), while_no h]
theorem blanks_line {s : St} (h : s.goes blkB = false) (hs : slash s.rest = true) : s.blanks = (s.while lineB).blanks := by
  rw [blanks_yes (by rw [while_no h]; exact hs), while_no h]
theorem slash_goes {s : St} (h : slash s.rest = true) : s.goes lineB = true := by
  obtain ⟨t, e⟩ := slash_cons h
  have hd : dec s.rest = (47, 1) := by rw [e, dec_ascii (by decide)]; rfl
  unfold St.goes
  rw [hd]
  decide
theorem blanks_bad {s : St} (h : (dec s.rest).1 < 0) : s.blanks = s := by
  refine blanks_stay ?_ ?_
  · unfold St.goes
    rw [decide_eq_false (show ¬ 0 ≤ (dec s.rest).1 by omega)]
    simp
  · rw [← Bool.not_eq_true]
    intro hs
    obtain ⟨t, e⟩ := slash_cons hs
    have hd : dec s.rest = (47, 1) := by rw [e, dec_ascii (by decide)]; rfl
    rw [hd] at h
    simp at h
end Go.Proofs.YtpamnnllijkpfaaDoor.LexP
namespace Go.Proofs.YtpamnnllijkpfaaDoor.LexW
open Go Go.RowKit Go.Proofs.YtpamnnllijkpfaaDoor.Kit Go.Proofs.YtpamnnllijkpfaaDoor.LexP

def KpRel (l : List UInt8) (K k : Nat) (w : World) (m : Nat) (sk : Value) (wr : World) : Prop :=
  ∃ j : Nat, sk = .int .i64 j ∧ Below w.heap.size w wr ∧ k ≤ j ∧ j ≤ K ∧ m = K - j ∧ (stn ⟨l, 1, 1⟩ j).blanks = (stn ⟨l, 1, 1⟩ k).blanks
def KiRel (l : List UInt8) (K k : Nat) (w : World) (m : Nat) (sk : Value) (wr : World) : Prop :=
  ∃ j : Nat, sk = .int .i64 j ∧ wr = w ∧ k ≤ j ∧ j ≤ K ∧ m = K - j ∧ (stn ⟨l, 1, 1⟩ j).while lineB = (stn ⟨l, 1, 1⟩ k).while lineB

set_option maxHeartbeats 1000000 in
set_option maxRecDepth 10000 in
theorem skipped_any (A : Option Addr) (n c : Nat) (l : List UInt8) (g cap K k : Nat) (w : World) (hl : Bytes w A n l) (hlen : l.length ≤ 1048576) (hcr : (∀ k, k < K → (stn ⟨l, 1, 1⟩ k).rest ≠ []) ∧ (stn ⟨l, 1, 1⟩ K).rest = [])
    (hK : K ≤ 1048576) (hR : Runes w g l.length ⟨l, 1, 1⟩ (K + 1)) (hk : k ≤ K) :
    Calls Tryd.prog 24 #[.slice A n c, .slice (some ⟨g, 0, none⟩) (K + 1 : Nat) cap, .int .i64 k] w
      fun e w' => Below w.heap.size w w' ∧ ∃ j : Nat, e = .returned (.int .i64 j) ∧ k ≤ j ∧ j ≤ K ∧ stn ⟨l, 1, 1⟩ j = (stn ⟨l, 1, 1⟩ k).blanks := by
  have HCR := Lib.hid hcr
  clear hcr
  go_enter Tryd.func24, Tryd.ntmps24
  go_wp2_with fail
  go_loopg [2] (K - k) (fun m sk wr => KpRel l K k w m sk wr)
  case atStart => exact ⟨k, rfl, Below.refl _ _, Nat.le_refl _, hk, rfl, rfl⟩
  case round =>
    obtain ⟨j, rfl, hbw, hkj, hj, hm, hbl⟩ := hrel
    have hlr := hl.below hbw
    have hRr := hR.below hbw
    have hg := hRr.1
    have hce := fun w' (hw' : Below wr.heap.size wr w') => (hRr.below hw').2 j (by omega)
    have hB := fun w => rblank_any (dec (stn ⟨l, 1, 1⟩ j).rest).1 (l.length - (stn ⟨l, 1, 1⟩ j).rest.length : Nat) (dec (stn ⟨l, 1, 1⟩ j).rest).2 (stn ⟨l, 1, 1⟩ j).line (stn ⟨l, 1, 1⟩ j).col w
    have hS := fun w' (hw' : Below wr.heap.size wr w') => begins_any A n c l (l.length - (stn ⟨l, 1, 1⟩ j).rest.length) ⟨#[47, 47]⟩ w' (hlr.below hw') (by omega) hlen (by decide)
    rw [stn_drop] at hS
    have hgb := goes_blk (stn ⟨l, 1, 1⟩ j)
    have hend : 0 < (dec (stn ⟨l, 1, 1⟩ j).rest).2 → j < K := by
      intro h
      rcases Nat.lt_or_ge j K with h1 | h1
      · exact h1
      · have : j = K := by omega
        rw [this, HCR.out.2, dec_nil] at h
        cases h
    unfold runeV at hB
    have a1 : (0 : Int) ≤ (j : Int) := by omega
    have a2 : (j : Int) < (K : Int) + 1 := by omega
    have HBL := Lib.hid hbl
    have HGB := Lib.hid hgb
    have HM := Lib.hid hm
    have HEND := Lib.hid hend
    have HR := Lib.hid hR
    have HL := Lib.hid hl
    have HLR := Lib.hid hlr
    have HRR := Lib.hid hRr
    clear hbl hgb hm hend hR hl hlr hRr
    have hslash : Hid (slash (stn ⟨l, 1, 1⟩ j).rest = Lib.hasPrefix (stn ⟨l, 1, 1⟩ j).rest [47, 47]) := rfl
    have hS : ∀ w', Below wr.heap.size wr w' → Calls Tryd.prog 30 #[.slice A n c, .int .i64 (l.length - (stn ⟨l, 1, 1⟩ j).rest.length : Nat), .string ⟨#[47, 47]⟩] w' fun e w'' => e = .returned (.bool (slash (stn ⟨l, 1, 1⟩ j).rest)) ∧ Below w'.heap.size w' w'' := hS
    cases hbk : (stn ⟨l, 1, 1⟩ j).goes blkB with
    | true =>
      rw [HGB.out] at hbk
      rw [hbk] at hB
      have hjK := HEND.out (by simp at hbk; omega)
      have HBK := Lib.hid hbk
      obtain ⟨c0, c1, c2, c3, c4⟩ := hce _ (Below.refl _ _)
      clear hce hS hbk hslash
      generalize (dec (stn ⟨l, 1, 1⟩ j).rest).1 = r at *
      generalize (dec (stn ⟨l, 1, 1⟩ j).rest).2 = d at *
      generalize (stn ⟨l, 1, 1⟩ j).line = ln at *
      generalize (stn ⟨l, 1, 1⟩ j).col = cl at *
      generalize l.length - (stn ⟨l, 1, 1⟩ j).rest.length = at0 at *
      go_wp2_with fail
      refine (hB _).mono ?_
      rintro e w' ⟨rfl, hw'⟩
      have hb3 := Kit.Below.then hbw hw'
      clear hB c0 c1 c2 c3 c4
      go_wp2_with fail
      go_roundg (K - (j + 1))
      case measure => have := HM.out; omega
      case rel => exact ⟨j + 1, rfl, hb3, by omega, by omega, rfl, by rw [← HBL.out, blanks_step (s := stn ⟨l, 1, 1⟩ j) (by rw [HGB.out]; exact HBK.out)]; rfl⟩
    | false =>
      have HNB := Lib.hid hbk
      rw [HGB.out] at hbk
      rw [hbk] at hB
      clear hbk hslash
      cases hsl : slash (stn ⟨l, 1, 1⟩ j).rest with
      | false =>
        rw [hsl] at hS
        have HSL := Lib.hid hsl
        clear hsl
        have hst := blanks_stay HNB.out HSL.out
        have HST := Lib.hid hst
        clear hst
        obtain ⟨c0, c1, c2, c3, c4⟩ := hce _ (Below.refl _ _)
        generalize (dec (stn ⟨l, 1, 1⟩ j).rest).1 = r at *
        generalize (dec (stn ⟨l, 1, 1⟩ j).rest).2 = d at *
        generalize (stn ⟨l, 1, 1⟩ j).line = ln at *
        generalize (stn ⟨l, 1, 1⟩ j).col = cl at *
        generalize l.length - (stn ⟨l, 1, 1⟩ j).rest.length = at0 at *
        have HCE := Lib.hid hce
        clear hce
        go_wp2_with fail
        refine (hB _).mono ?_
        rintro e w' ⟨rfl, hw'⟩
        have hb3 := Kit.Below.then hbw hw'
        clear hB c0 c1 c2 c3 c4
        obtain ⟨c0, c1, c2, c3, c4⟩ := HCE.out _ hw'
        go_wp2_with fail
        refine (hS _ hw').mono ?_
        rintro e w2 ⟨rfl, hw2⟩
        have hb4 := Kit.Below.then hb3 hw2
        clear hS c0 c1 c2 c3 c4
        go_wp2_with fail
        go_ret
        exact ⟨hb4, j, rfl, hkj, hj, by rw [← HBL.out, HST.out]⟩
      | true =>
        rw [hsl] at hS
        have HSL := Lib.hid hsl
        have HSG := Lib.hid (slash_goes hsl)
        clear hsl
        obtain ⟨c0, c1, c2, c3, c4⟩ := hce _ (Below.refl _ _)
        have HCE := Lib.hid hce
        clear hce
        generalize (dec (stn ⟨l, 1, 1⟩ j).rest).1 = r at *
        generalize (dec (stn ⟨l, 1, 1⟩ j).rest).2 = d at *
        generalize (stn ⟨l, 1, 1⟩ j).line = ln at *
        generalize (stn ⟨l, 1, 1⟩ j).col = cl at *
        generalize l.length - (stn ⟨l, 1, 1⟩ j).rest.length = at0 at *
        go_wp2_with fail
        refine (hB _).mono ?_
        rintro e w' ⟨rfl, hw'⟩
        have hb3 := Kit.Below.then hbw hw'
        clear hB c0 c1 c2 c3 c4
        obtain ⟨c0, c1, c2, c3, c4⟩ := HCE.out _ hw'
        go_wp2_with fail
        refine (hS _ hw').mono ?_
        rintro e w2 ⟨rfl, hw2⟩
        have hb4 := Kit.Below.then hb3 hw2
        have hR2 := HR.out.below hb4
        clear hS c0 c1 c2 c3 c4
        clear HCE
        go_wp2_with fail
        go_loopg [2] (K - j) (fun m sk wr => KiRel l K j w2 m sk wr)
        case atStart => exact ⟨j, rfl, rfl, Nat.le_refl _, hj, rfl, rfl⟩
        case round =>
          obtain ⟨i, rfl, rfl, hji, hi, hmi, hwi⟩ := hrel
          clear a1 a2
          have a1 : (0 : Int) ≤ (i : Int) := by omega
          have a2 : (i : Int) < (K : Int) + 1 := by omega
          obtain ⟨c0, c1, c2, c3, c4⟩ := hR2.2 i (by omega)
          have hgl := goes_line (stn ⟨l, 1, 1⟩ i)
          have HWI := Lib.hid hwi
          have HMI := Lib.hid hmi
          have hz : (dec (stn ⟨l, 1, 1⟩ i).rest).2 = 0 → (dec (stn ⟨l, 1, 1⟩ i).rest).1 = 0 := by
            intro h
            have : (stn ⟨l, 1, 1⟩ i).rest = [] := by
              by_cases h2 : (stn ⟨l, 1, 1⟩ i).rest = []
              · exact h2
              · have := dec_pos h2; omega
            rw [this, dec_nil]
          have hend : 0 < (dec (stn ⟨l, 1, 1⟩ i).rest).2 → i < K := by
            intro h
            rcases Nat.lt_or_ge i K with h1 | h1
            · exact h1
            · have : i = K := by omega
              rw [this, HCR.out.2, dec_nil] at h
              cases h
          have hbad : (dec (stn ⟨l, 1, 1⟩ i).rest).1 < 0 → (stn ⟨l, 1, 1⟩ i).blanks = stn ⟨l, 1, 1⟩ i := blanks_bad
          have HBAD := Lib.hid hbad
          clear hwi hmi hR2 c1 c3 c4 hbad
          generalize (dec (stn ⟨l, 1, 1⟩ i).rest).1 = r2 at *
          generalize (dec (stn ⟨l, 1, 1⟩ i).rest).2 = d2 at *
          have HZ := Lib.hid hz
          have HEND2 := Lib.hid hend
          have hstop : ∀ (_ : St.goes lineB (stn ⟨l, 1, 1⟩ i) = false), j < i ∧ (stn ⟨l, 1, 1⟩ i).blanks = (stn ⟨l, 1, 1⟩ k).blanks ∧ stn ⟨l, 1, 1⟩ i = (stn ⟨l, 1, 1⟩ j).while lineB := by
            intro h
            have e1 : stn ⟨l, 1, 1⟩ i = (stn ⟨l, 1, 1⟩ j).while lineB := by rw [← HWI.out, while_no h]
            refine ⟨?_, ?_, e1⟩
            · rcases Nat.lt_or_ge j i with h1 | h1
              · exact h1
              · have : i = j := by omega
                rw [this, HSG.out] at h
                cases h
            · rw [e1, ← blanks_line HNB.out HSL.out, HBL.out]
          have HST := Lib.hid hstop
          clear hz hend hstop
          by_cases hd2 : 0 < d2
          · by_cases h10 : r2 = 10
            · subst h10
              have hno : St.goes lineB (stn ⟨l, 1, 1⟩ i) = false := by rw [hgl]; simp
              obtain ⟨hji2, hb2, _⟩ := HST.out hno
              have HB2 := Lib.hid hb2
              have b1 : (0 : Int) < (d2 : Int) := by omega
              clear hgl hno hb2
              go_wp2_with fail
              go_roundg (K - i)
              case measure => have := HM.out; omega
              case rel => exact ⟨i, rfl, hb4, by omega, hi, rfl, HB2.out⟩
            · have b0 : ¬ (r2 = 10) := h10
              have b0' : (r2 == 10) = false := by simpa using h10
              have b0'' : (r2 != 10) = true := by simpa using h10
              have b1 : (0 : Int) < (d2 : Int) := by omega
              by_cases hr0 : r2 < 0
              · have hno : St.goes lineB (stn ⟨l, 1, 1⟩ i) = false := by rw [hgl, decide_eq_false (show ¬ 0 ≤ r2 by omega)]; simp
                obtain ⟨hji2, hb2, _⟩ := HST.out hno
                have HB2 := Lib.hid ((HBAD.out hr0).symm.trans hb2)
                have b2 : ¬ ((0 : Int) ≤ r2) := by omega
                clear hgl hno hb2
                go_wp2_with fail
                go_ret
                exact ⟨hb4, i, rfl, by omega, hi, HB2.out⟩
              · have hyes : St.goes lineB (stn ⟨l, 1, 1⟩ i) = true := by rw [hgl, decide_eq_true (show 0 ≤ r2 by omega), decide_eq_true hd2, decide_eq_true h10]; rfl
                have HY := Lib.hid hyes
                have b2 : ((0 : Int) ≤ r2) := by omega
                clear hgl hyes hr0
                go_wp2_with fail
                go_roundg (K - (i + 1))
                case measure => have := HMI.out; have := HEND2.out hd2; omega
                case rel => exact ⟨i + 1, rfl, rfl, by omega, by have := HEND2.out hd2; omega, rfl, by rw [← HWI.out, while_yes HY.out]; rfl⟩
          · obtain rfl : d2 = 0 := by omega
            obtain rfl := HZ.out rfl
            have hno : St.goes lineB (stn ⟨l, 1, 1⟩ i) = false := by rw [hgl]; simp
            obtain ⟨hji2, hb2, _⟩ := HST.out hno
            have HB2 := Lib.hid hb2
            clear hgl hno hb2
            go_wp2_with fail
            go_roundg (K - i)
            case measure => have := HM.out; omega
            case rel => exact ⟨i, rfl, hb4, by omega, hi, rfl, HB2.out⟩
end Go.Proofs.YtpamnnllijkpfaaDoor.LexW
