/- PLAIN: where the tokens stand. -/
import Derived.Test.YtpamnnllijkpfaaDoorRefP
namespace Go.Proofs.YtpamnnllijkpfaaDoor.LexP
open Go

theorem stn_nil {s : St} (h : s.rest = []) (k : Nat) : stn s k = s := by
  induction k with
  | zero => rfl
  | succ k ih =>
    show (stn s k).step = s
    rw [ih]
    unfold St.step
    rw [h, dec_nil]
    rfl
/-- Behind the end all steps are none. -/
theorem stn_sat {s : St} {K : Nat} (h : (stn s K).rest = []) {j : Nat} (hj : K ≤ j) : stn s j = stn s K := by
  obtain ⟨d, rfl⟩ : ∃ d, j = K + d := ⟨j - K, by omega⟩
  rw [← LexW.stn_add, stn_nil h]
theorem while_stn (is : Int → Bool) (s : St) : ∃ m, s.while is = stn s m := by
  generalize hn : s.rest.length = n
  induction n using Nat.strongRecOn generalizing s with
  | ind n ih =>
    subst hn
    by_cases h : s.goes is = true
    · have hg := h
      simp only [St.goes, Bool.and_eq_true, decide_eq_true_eq] at hg
      obtain ⟨m, hm⟩ := ih _ (step_len (dec_pos_iff.1 hg.1)) s.step rfl
      exact ⟨m + 1, by rw [while_yes h, hm, stn_step]⟩
    · exact ⟨0, while_no (by simpa using h)⟩
theorem blanks_stn (s : St) : ∃ m, s.blanks = stn s m := by
  generalize hn : s.rest.length = n
  induction n using Nat.strongRecOn generalizing s with
  | ind n ih =>
    subst hn
    obtain ⟨a, ha⟩ := while_stn blkB s
    by_cases h : slash (s.while blkB).rest = true
    · obtain ⟨b, hb⟩ := while_stn lineB (s.while blkB)
      have h1 := while_len blkB s
      have h2 := slash_less h
      obtain ⟨c, hc⟩ := ih _ (by omega) ((s.while blkB).while lineB) rfl
      exact ⟨a + (b + c), by rw [blanks_yes h, hc, hb, ha, LexW.stn_add, LexW.stn_add]⟩
    · exact ⟨a, by rw [blanks_no (by simpa using h), ha]⟩

/-- What a token is. -/
structure IsTok (s : St) (t : Tok) (s1 : St) : Prop where
  text : t.text = upTo s s1
  line : t.line = s.line
  col : t.col = s.col
  next : ∃ m, s1 = stn s m
  last : t.kind = 5 ↔ s.rest = []
theorem numS_next {s s1 : St} {v : Nat} (h : numS s = .ok (v, s1)) : ∃ m, s1 = stn s m := by
  unfold numS at h
  simp only at h
  have h0 : ∃ m, (if hexP s.rest = true then s.step.step else s) = stn s m := by
    split
    · exact ⟨2, rfl⟩
    · exact ⟨0, rfl⟩
  obtain ⟨a, ha⟩ := h0
  rw [ha] at h
  obtain ⟨b, hb⟩ := while_stn (if hexP s.rest = true then hexB else digB) (stn s a)
  rw [hb] at h
  split at h
  · cases h
  · split at h
    · cases h
    · split at h
      · cases h
      · injection h with h
        injection h with _ h
        exact ⟨a + b, by rw [← h, LexW.stn_add]⟩
theorem tokenS_is {s s1 : St} {t : Tok} (h : tokenS s = .ok (t, s1)) : IsTok s t s1 := by
  by_cases hne : s.rest = []
  · rw [tokenS_end hne] at h
    injection h with h
    injection h with h1 h2
    subst h1 h2
    exact ⟨by simp [upTo], rfl, rfl, ⟨0, rfl⟩, by simp [hne]⟩
  · cases hd : digB (dec s.rest).1 with
    | true =>
      rw [tokenS_digit hne hd] at h
      split at h
      · cases h
      · rename_i v s2 hn
        injection h with h
        injection h with h1 h2
        subst h1 h2
        exact ⟨rfl, rfl, rfl, numS_next hn, by simp [hne]⟩
    | false =>
      cases hl : letB (dec s.rest).1 with
      | true =>
        rw [tokenS_name hne hd hl] at h
        injection h with h
        injection h with h1 h2
        subst h1 h2
        refine ⟨rfl, rfl, rfl, while_stn _ _, ?_⟩
        simp only [hne, iff_false]
        split <;> decide
      | false =>
        rw [tokenS_sign hne hd hl] at h
        cases hs : sgnF s.rest with
        | none => rw [hs] at h; cases h
        | some x =>
          rw [hs] at h
          injection h with h
          injection h with h1 h2
          subst h1 h2
          exact ⟨(sgn_upTo hs).1.symm, rfl, rfl, ⟨_, rfl⟩, by simp [hne]⟩

/-- Places rise. -/
theorem place_step {s : St} (h : s.rest ≠ []) : s.line < s.step.line ∨ (s.line = s.step.line ∧ s.col < s.step.col) := by
  have := dec_pos h
  unfold St.step
  split
  · exact .inl (Nat.lt_succ_self _)
  · rw [if_pos (by omega)]
    exact .inr ⟨rfl, Nat.lt_succ_self _⟩
theorem place_lt {s : St} {K : Nat} (hK : ∀ k, k < K → (stn s k).rest ≠ []) {i j : Nat} (hij : i < j) (hj : j ≤ K) : (stn s i).line < (stn s j).line ∨ ((stn s i).line = (stn s j).line ∧ (stn s i).col < (stn s j).col) := by
  obtain ⟨d, rfl⟩ : ∃ d, j = i + 1 + d := ⟨j - i - 1, by omega⟩
  induction d with
  | zero => exact place_step (hK i (by omega))
  | succ d ih =>
    have h1 := ih (by omega) (by omega)
    have h2 := place_step (hK (i + 1 + d) (by omega))
    have e : stn s (i + 1 + (d + 1)) = (stn s (i + 1 + d)).step := rfl
    rw [e]
    omega

/-- The tokens stand in the text, from rune k and byte e on. -/
def Placed (b : List UInt8) (K : Nat) : Nat → Nat → List Tok → Prop
  | k, _, [] => (stn ⟨b, 1, 1⟩ k).rest = []
  | k, e, t :: ts => ∃ j, k ≤ j ∧ j ≤ K ∧ t.line = (stn ⟨b, 1, 1⟩ j).line ∧ t.col = (stn ⟨b, 1, 1⟩ j).col ∧ t.text.length ≤ (stn ⟨b, 1, 1⟩ j).rest.length ∧ t.text = (stn ⟨b, 1, 1⟩ j).rest.take t.text.length ∧
      (t.text.length = 0 ↔ t.kind = 5) ∧ e ≤ b.length - (stn ⟨b, 1, 1⟩ j).rest.length ∧ (ts = [] → t.kind = 5) ∧ Placed b K j (b.length - (stn ⟨b, 1, 1⟩ j).rest.length + t.text.length) ts

theorem upTo_take (s s1 : St) (h : s1.rest.length ≤ s.rest.length) : (upTo s s1).length = s.rest.length - s1.rest.length ∧ upTo s s1 = s.rest.take (upTo s s1).length := by
  have h1 : (upTo s s1).length = s.rest.length - s1.rest.length := by
    unfold upTo
    rw [List.length_take]
    omega
  refine ⟨h1, ?_⟩
  rw [h1]
  rfl
theorem placed_loop (b : List UInt8) (K : Nat) (hK : (∀ k, k < K → (stn ⟨b, 1, 1⟩ k).rest ≠ []) ∧ (stn ⟨b, 1, 1⟩ K).rest = []) :
    ∀ (n : Nat) (j k e : Nat) (toks : List Tok), (stn ⟨b, 1, 1⟩ j).rest.length = n → j ≤ K → k ≤ j → e ≤ b.length - (stn ⟨b, 1, 1⟩ j).rest.length → lexLoop (stn ⟨b, 1, 1⟩ j) = .ok toks → Placed b K k e toks := by
  intro n
  induction n using Nat.strongRecOn with
  | ind n ih =>
    intro j k e toks hn hj hkj he h
    subst hn
    obtain ⟨m, hm⟩ := blanks_stn (stn ⟨b, 1, 1⟩ j)
    rw [LexW.stn_add] at hm
    obtain ⟨j1, hj1, hjj1, hm1⟩ : ∃ j1, j1 ≤ K ∧ j ≤ j1 ∧ (stn ⟨b, 1, 1⟩ j).blanks = stn ⟨b, 1, 1⟩ j1 := by
      rcases Nat.lt_or_ge K (j + m) with h1 | h1
      · exact ⟨K, Nat.le_refl _, hj, by rw [hm, stn_sat hK.2 (by omega)]⟩
      · exact ⟨j + m, h1, by omega, hm⟩
    have hbl := blanks_len (stn ⟨b, 1, 1⟩ j)
    rw [hm1] at hbl
    cases ht : tokenS (stn ⟨b, 1, 1⟩ j).blanks with
    | error f => rw [lexLoop_bad ht] at h; cases h
    | ok p =>
      obtain ⟨t, s1⟩ := p
      have hI := tokenS_is (by rw [hm1] at ht; exact ht)
      have hle := tokenS_leq (by rw [hm1] at ht; exact ht)
      have hup := upTo_take _ _ hle
      have htl : t.text.length = (stn ⟨b, 1, 1⟩ j1).rest.length - s1.rest.length := by rw [hI.text]; exact hup.1
      have htt : t.text = (stn ⟨b, 1, 1⟩ j1).rest.take t.text.length := by rw [hI.text]; exact hup.2
      have hb1 := stn_len b 1 1 j1
      by_cases hk : t.kind = 5
      · have hnil := hI.last.1 hk
        rw [lexLoop_end ht hk] at h
        injection h with h
        subst h
        refine ⟨j1, by omega, hj1, hI.line, hI.col, by rw [htl]; omega, htt, ?_, by omega, fun _ => hk, hnil⟩
        rw [htl, hnil]
        simp [hk]
      · have hls := tokenS_less (by rw [hm1] at ht; exact ht) hk
        rw [lexLoop_more ht hk] at h
        cases h3 : lexLoop s1 with
        | error f => rw [h3] at h; cases h
        | ok l1 =>
          rw [h3] at h
          injection h with h
          subst h
          obtain ⟨m2, hm2⟩ := hI.next
          rw [LexW.stn_add] at hm2
          obtain ⟨j2, hj2, hjj2, hm3⟩ : ∃ j2, j2 ≤ K ∧ j1 ≤ j2 ∧ s1 = stn ⟨b, 1, 1⟩ j2 := by
            rcases Nat.lt_or_ge K (j1 + m2) with h1 | h1
            · exact ⟨K, Nat.le_refl _, hj1, by rw [hm2, stn_sat hK.2 (by omega)]⟩
            · exact ⟨j1 + m2, h1, by omega, hm2⟩
          subst hm3
          refine ⟨j1, by omega, hj1, hI.line, hI.col, by rw [htl]; omega, htt, ?_, by omega, ?_, ih _ (by omega) j2 j1 _ l1 rfl hj2 hjj2 (by rw [htl]; omega) h3⟩
          · rw [htl]
            constructor
            · intro h; omega
            · intro h; exact absurd h hk
          · rintro rfl
            have := LexW.lexLoop_pos _ _ h3
            simp at this
end Go.Proofs.YtpamnnllijkpfaaDoor.LexP
