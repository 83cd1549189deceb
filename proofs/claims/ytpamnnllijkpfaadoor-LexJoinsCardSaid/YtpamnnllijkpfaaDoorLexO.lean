/- PLAIN: all tokens of a text. -/
import Derived.Test.YtpamnnllijkpfaaDoorLexA
namespace Go.Proofs.YtpamnnllijkpfaaDoor.LexP
open Go

theorem step_less {s : St} (h : (dec s.rest).2 ≠ 0) : s.step.rest.length < s.rest.length :=
  step_len (dec_pos_iff.1 (by omega))
theorem step_leq (s : St) : s.step.rest.length ≤ s.rest.length := by
  have := St.le_len (step_le s)
  exact this
theorem while_less {is : Int → Bool} {s : St} (h : s.goes is = true) : (s.while is).rest.length < s.rest.length := by
  have h1 := while_len is s.step
  have h0 := h
  simp only [St.goes, Bool.and_eq_true, decide_eq_true_eq] at h0
  have h2 := step_less (s := s) (by omega)
  rw [while_yes h]
  omega
theorem upTo_pos {s t : St} (h : upTo s t ≠ []) : t.rest.length < s.rest.length := by
  unfold upTo at h
  rcases Nat.lt_or_ge t.rest.length s.rest.length with h1 | h1
  · exact h1
  · exfalso
    apply h
    rw [Nat.sub_eq_zero_of_le h1, List.take_zero]

theorem numS_less {s s1 : St} {v : Nat} (h : numS s = .ok (v, s1)) : s1.rest.length < s.rest.length := by
  unfold numS at h
  simp only at h
  have h0 : (if hexP s.rest = true then s.step.step else s).rest.length ≤ s.rest.length := by
    have := step_leq s
    have := step_leq s.step
    split <;> omega
  generalize (if hexP s.rest = true then s.step.step else s) = s0 at *
  generalize (if hexP s.rest = true then hexB else digB) = is at *
  generalize (if hexP s.rest = true then 16 else 10) = base at *
  by_cases hne : upTo s0 (s0.while is) = []
  · rw [if_pos hne] at h
    cases h
  · rw [if_neg hne] at h
    cases hv : valS base 0 (upTo s0 (s0.while is)) with
    | none => rw [hv] at h; cases h
    | some v2 =>
      rw [hv] at h
      simp only at h
      split at h
      · cases h
      · injection h with h
        injection h with _ h
        subst h
        have h1 := upTo_pos hne
        omega

theorem tokenS_less {s s1 : St} {t : Tok} (h : tokenS s = .ok (t, s1)) (hk : t.kind ≠ 5) : s1.rest.length < s.rest.length := by
  unfold tokenS at h
  split at h
  · injection h with h
    injection h with h _
    subst h
    exact absurd rfl hk
  · rename_i hn
    split at h
    · split at h
      · cases h
      · rename_i v s2 hnum
        injection h with h
        injection h with _ h
        subst h
        exact numS_less hnum
    · split at h
      · rename_i hl
        injection h with h
        injection h with _ h
        subst h
        refine while_less ?_
        unfold St.goes nameB
        have h0 : 0 ≤ (dec s.rest).1 := by
          simp only [letB, decide_eq_true_eq] at hl
          omega
        rw [hl]
        simp only [Bool.true_or, Bool.and_true, Bool.and_eq_true, decide_eq_true_eq]
        exact ⟨by omega, h0⟩
      · split at h
        · injection h with h
          injection h with _ h
          subst h
          have h1 := step_less hn
          have h2 := step_leq s.step
          omega
        · split at h
          · injection h with h
            injection h with _ h
            subst h
            exact step_less hn
          · cases h

theorem tokenS_leq {s s1 : St} {t : Tok} (h : tokenS s = .ok (t, s1)) : s1.rest.length ≤ s.rest.length := by
  by_cases hk : t.kind = 5
  · unfold tokenS at h
    split at h
    · injection h with h
      injection h with _ h
      subst h
      omega
    · exfalso
      split at h
      · split at h
        · cases h
        · injection h with h
          injection h with h _
          subst h
          cases hk
      · split at h
        · injection h with h
          injection h with h _
          subst h
          simp only at hk
          split at hk <;> cases hk
        · split at h
          · injection h with h
            injection h with h _
            subst h
            cases hk
          · split at h
            · injection h with h
              injection h with h _
              subst h
              cases hk
            · cases h
  · exact Nat.le_of_lt (tokenS_less h hk)

theorem blanks_len (s : St) : s.blanks.rest.length ≤ s.rest.length := by
  generalize hn : s.rest.length = n
  induction n using Nat.strongRecOn generalizing s with
  | ind n ih =>
    subst hn
    have h1 := while_len blkB s
    by_cases h : slash (s.while blkB).rest = true
    · rw [blanks_yes h]
      have h2 := slash_less h
      exact Nat.le_trans (ih _ (by omega) _ rfl) (by omega)
    · rw [blanks_no (by simpa using h)]
      exact h1

/-- All tokens, from s on. -/
def lexLoop (s : St) : Except (Nat × Nat) (List Tok) :=
  match _h : tokenS s.blanks with
  | .error f => .error f
  | .ok (t, s1) => if _hk : t.kind = 5 then .ok [t] else match lexLoop s1 with
    | .error f => .error f
    | .ok l => .ok (t :: l)
termination_by s.rest.length
decreasing_by
  have h1 := tokenS_less _h _hk
  have h2 := blanks_len s
  omega

theorem lexLoop_bad {s : St} {f : Nat × Nat} (h : tokenS s.blanks = .error f) : lexLoop s = .error f := by
  rw [lexLoop]
  split
  · rename_i f' h'
    rw [h] at h'
    injection h' with h'
    rw [h']
  · rename_i t s1 h'
    rw [h] at h'
    cases h'
theorem lexLoop_end {s s1 : St} {t : Tok} (h : tokenS s.blanks = .ok (t, s1)) (hk : t.kind = 5) : lexLoop s = .ok [t] := by
  rw [lexLoop]
  split
  · rename_i f' h'
    rw [h] at h'
    cases h'
  · rename_i t' s1' h'
    rw [h] at h'
    injection h' with h'
    injection h' with h1 h2
    subst h1 h2
    rw [dif_pos hk]
theorem lexLoop_more {s s1 : St} {t : Tok} (h : tokenS s.blanks = .ok (t, s1)) (hk : t.kind ≠ 5) : lexLoop s = match lexLoop s1 with | .error f => .error f | .ok l => .ok (t :: l) := by
  conv => lhs; rw [lexLoop]
  split
  · rename_i f' h'
    rw [h] at h'
    cases h'
  · rename_i t' s1' h'
    rw [h] at h'
    injection h' with h'
    injection h' with h1 h2
    subst h1 h2
    rw [dif_neg hk]

/-- Chapter 5's answer: the tokens, or the fault: its number and its place. -/
def lexS (b : List UInt8) : Except (Nat × Nat × Nat) (List Tok) :=
  if 65536 < b.length then .error (32, 1, 1) else match lexLoop ⟨b, 1, 1⟩ with
    | .error (l, c) => .error (20, l, c)
    | .ok ts => .ok ts

end Go.Proofs.YtpamnnllijkpfaaDoor.LexP
