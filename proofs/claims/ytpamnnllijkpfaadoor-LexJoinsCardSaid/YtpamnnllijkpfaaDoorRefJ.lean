/- PLAIN: the reference's number is the scanner's. -/
import Derived.Test.YtpamnnllijkpfaaDoorRefI
namespace Go.Proofs.YtpamnnllijkpfaaDoor.LexP
open Go
theorem asc_step {s : St} (h0 : 0 < (dec s.rest).2) (h1 : 0 ≤ (dec s.rest).1) (h2 : (dec s.rest).1 < 128) : ∃ c t, s.rest = c :: t ∧ s.step.rest = t ∧ dec s.rest = ((c.toNat : Int), 1) := by
  obtain ⟨c, t, e, hc⟩ := dec_low h0 h1 h2
  have hd : dec s.rest = ((c.toNat : Int), 1) := by rw [e, dec_ascii hc]
  exact ⟨c, t, e, by rw [step_rest, hd, e]; rfl, hd⟩
theorem dec_ne {l : List UInt8} (h : (dec l).1 ≠ 0) : 0 < (dec l).2 := by
  refine dec_pos_iff.2 ?_
  rintro rfl
  exact h (by rw [dec_nil])
theorem upTo_cons {is : Int → Bool} (his : ∀ r, is r = true → r < 128) {s : St} (hg : s.goes is = true) :
    ∃ c : UInt8, (dec s.rest).1 = (c.toNat : Int) ∧ upTo s (s.while is) = c :: upTo s.step (s.step.while is) := by
  have hg2 := hg
  simp only [St.goes, Bool.and_eq_true, decide_eq_true_eq] at hg2
  obtain ⟨h0, h1, h2⟩ := hg2
  obtain ⟨c, t, e, e2, hd⟩ := asc_step h0 h1 (his _ h2)
  refine ⟨c, by rw [hd], ?_⟩
  have hle := while_len is s.step
  rw [while_yes hg]
  unfold upTo
  rw [e2] at hle ⊢
  rw [e]
  have e3 : (c :: t).length - (s.step.while is).rest.length = (t.length - (s.step.while is).rest.length) + 1 := by
    simp only [List.length_cons]
    omega
  rw [e3, List.take_succ_cons]
theorem upTo_stop {is : Int → Bool} {s : St} (hg : s.goes is = false) : upTo s (s.while is) = [] := by
  rw [while_no hg]
  simp [upTo]

/-- The two ways in which a number is written. -/
def BaseIs (base : Nat) (is : Int → Bool) : Prop := (base = 10 ∧ is = digB) ∨ (base = 16 ∧ is = hexB)
theorem BaseIs.low {base : Nat} {is : Int → Bool} (h : BaseIs base is) : ∀ r, is r = true → r < 128 := by
  rcases h with ⟨_, rfl⟩ | ⟨_, rfl⟩
  · exact digB_low
  · exact hexB_low
theorem BaseIs.six {base : Nat} {is : Int → Bool} (h : BaseIs base is) (r : Int) : is r = decide (six r < base) := by
  rcases h with ⟨rfl, rfl⟩ | ⟨rfl, rfl⟩
  · rw [Bool.eq_iff_iff]
    simp only [digB, decide_eq_true_eq]
    unfold LexP.six
    split
    · omega
    · split
      · omega
      · split <;> omega
  · rfl
theorem BaseIs.goes {base : Nat} {is : Int → Bool} (h : BaseIs base is) (s : St) : s.goes is = decide ((if (0 : Int) < ((dec s.rest).2 : Nat) then LexP.six (dec s.rest).1 else 16) < base) := by
  have h16 : ¬ (16 < base) := by rcases h with ⟨rfl, _⟩ | ⟨rfl, _⟩ <;> omega
  unfold St.goes
  rw [h.six]
  by_cases hd : 0 < (dec s.rest).2
  · rw [decide_eq_true hd, if_pos (by omega), Bool.true_and]
    by_cases hs : LexP.six (dec s.rest).1 < base
    · have : 0 ≤ (dec s.rest).1 := by
        unfold LexP.six at hs
        split at hs
        · omega
        · split at hs
          · omega
          · split at hs <;> omega
      rw [decide_eq_true this, Bool.true_and]
    · rw [decide_eq_false hs, Bool.and_false]
  · rw [decide_eq_false hd, if_neg (by omega), decide_eq_false h16]
    rfl
theorem val_step {base : Nat} {is : Int → Bool} (h : BaseIs base is) {s : St} (hg : s.goes is = true) (v : Nat) :
    valS base v (upTo s (s.while is)) = if v * base + six (dec s.rest).1 < 18446744073709551616 then valS base (v * base + six (dec s.rest).1) (upTo s.step (s.step.while is)) else none := by
  obtain ⟨c, e, e2⟩ := upTo_cons h.low hg
  rw [e2, e]
  rfl
theorem numS_of {s s0 s1 : St} {base : Nat} {is : Int → Bool} (hb : (if hexP s.rest then s.step.step else s) = s0 ∧ (if hexP s.rest then 16 else 10) = base ∧ (if hexP s.rest then hexB else digB) = is) (h1 : s0.while is = s1) :
    numS s = if upTo s0 s1 = [] then .error (s1.line, s1.col) else match valS base 0 (upTo s0 s1) with
      | none => .error (s.line, s.col)
      | some v => if 0 < (dec s1.rest).2 ∧ nameB (dec s1.rest).1 = true then .error (s1.line, s1.col) else .ok (v, s1) := by
  obtain ⟨e1, e2, e3⟩ := hb
  unfold numS
  simp only [e1, e2, e3, h1]
  rfl
theorem hexP_ref (s : St) : hexP s.rest = (decide ((dec s.rest).1 = 48) && (decide (0 < (dec s.step.rest).2) && (decide ((dec s.step.rest).1 = 120) || decide ((dec s.step.rest).1 = 88)))) := by
  rw [Bool.eq_iff_iff]
  constructor
  · intro h
    have hc : ∃ c t, s.rest = 48 :: c :: t ∧ (c = 120 ∨ c = 88) := by
      unfold hexP Lib.hasPrefix at h
      match hs : s.rest, h with
      | [], h => cases h
      | [a], h => simp at h
      | a :: b :: t, h =>
        simp at h
        rcases h with h | h
        · exact ⟨b, t, by rw [← h.1], .inl h.2.symm⟩
        · exact ⟨b, t, by rw [← h.1], .inr h.2.symm⟩
    obtain ⟨c, t, e, hc⟩ := hc
    have hd : dec s.rest = (48, 1) := by rw [e, dec_ascii (by decide)]; rfl
    have e2 : s.step.rest = c :: t := by rw [step_rest, hd, e]; rfl
    have hc2 : c.toNat < 128 := by rcases hc with rfl | rfl <;> decide
    rw [hd, e2, dec_ascii hc2]
    rcases hc with rfl | rfl <;> rfl
  · intro h
    simp only [Bool.and_eq_true, Bool.or_eq_true, decide_eq_true_eq] at h
    obtain ⟨h1, h2, h3⟩ := h
    obtain ⟨c, t, e, e2, hd⟩ := asc_step (dec_ne (by omega)) (by omega : 0 ≤ (dec s.rest).1) (by omega)
    obtain ⟨c2, t2, e3, _, hd2⟩ := asc_step (s := s.step) h2 (by omega) (by omega)
    rw [hd] at h1
    rw [hd2] at h3
    rw [e2] at e3
    subst e3
    have hc : c = 48 := by
      apply UInt8.toNat_inj.1
      simp at h1
      exact_mod_cast h1
    subst hc
    rw [e]
    rcases h3 with h3 | h3
    · have hc : c2 = 120 := by
        apply UInt8.toNat_inj.1
        simp at h3
        exact_mod_cast h3
      subst hc
      rfl
    · have hc : c2 = 88 := by
        apply UInt8.toNat_inj.1
        simp at h3
        exact_mod_cast h3
      subst hc
      unfold hexP Lib.hasPrefix
      simp [List.isPrefixOf]
/-- The digit that the reference reads at s. -/
def sixN (s : St) : Nat := if (0 : Int) < ((dec s.rest).2 : Nat) then six (dec s.rest).1 else 16
theorem sixN_le (s : St) : sixN s ≤ 16 := by
  unfold sixN
  split
  · exact six_le _
  · omega
theorem goes_sixN {base : Nat} {is : Int → Bool} (h : BaseIs base is) (s : St) : s.goes is = decide (sixN s < base) := h.goes s
theorem val_sixN {base : Nat} {is : Int → Bool} (h : BaseIs base is) {s s1 : St} (hg : s.goes is = true) (hs : s.while is = s1) (v : Nat) :
    valS base v (upTo s s1) = if v * base + sixN s < 18446744073709551616 then valS base (v * base + sixN s) (upTo s.step s1) else none := by
  subst hs
  have h0 : 0 < (dec s.rest).2 := by
    have := hg
    simp only [St.goes, Bool.and_eq_true, decide_eq_true_eq] at this
    exact this.1
  have e : sixN s = six (dec s.rest).1 := if_pos (by omega)
  rw [val_step h hg, while_yes hg, e]
theorem numS_start {s s0 s1 : St} {base : Nat} {is : Int → Bool} (hb : (if hexP s.rest then s.step.step else s) = s0 ∧ (if hexP s.rest then 16 else 10) = base ∧ (if hexP s.rest then hexB else digB) = is) (hB : BaseIs base is)
    (hg : s0.goes is = true) (h1 : s0.while is = s1) :
    numS s = match valS base 0 (upTo s0 s1) with
      | none => .error (s.line, s.col)
      | some v => if 0 < (dec s1.rest).2 ∧ nameB (dec s1.rest).1 = true then .error (s1.line, s1.col) else .ok (v, s1) := by
  rw [numS_of hb h1, if_neg]
  obtain ⟨c, _, e⟩ := upTo_cons hB.low hg
  rw [← h1, e]
  simp
/-- What the reference asks before it goes on: is it too great? -/
theorem great_iff (v d base : Nat) (hb : 0 < base) (hd : d < 16) : ((18446744073709551615 - d) / base < v) ↔ ¬ (v * base + d < 18446744073709551616) := by
  rw [Nat.div_lt_iff_lt_mul hb]
  omega
end Go.Proofs.YtpamnnllijkpfaaDoor.LexP
