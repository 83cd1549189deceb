/- PLAIN: what stands behind a line's end changes nothing ahead of it. -/
import Derived.Test.YtpamnnllijkpfaaDoorMetaA
namespace Go.Proofs.YtpamnnllijkpfaaDoor.LexP
open Go

/-- The same place, more behind. -/
def St.ext (s : St) (x : List UInt8) : St := ⟨s.rest ++ x, s.line, s.col⟩
theorem ext_dec {s : St} {x : List UInt8} (h : s.rest ≠ []) (hx : Sep x) : dec (s.ext x).rest = dec s.rest := dec_sep h hx
theorem ext_step {s : St} {x : List UInt8} (h : s.rest ≠ []) (hx : Sep x) : (s.ext x).step = s.step.ext x := by
  have hd := ext_dec h hx
  have hle := dec_le s.rest
  have hdr : (s.ext x).rest.drop (dec s.rest).2 = s.rest.drop (dec s.rest).2 ++ x := List.drop_append_of_le_length hle
  unfold St.step
  rw [hd, hdr]
  split
  · rfl
  · split
    · rfl
    · have := dec_pos h; omega
theorem ext_goes {s : St} {x : List UInt8} (h : s.rest ≠ []) (hx : Sep x) (is : Int → Bool) : (s.ext x).goes is = s.goes is := by
  unfold St.goes
  rw [ext_dec h hx]
theorem goes_ne {is : Int → Bool} {s : St} (h : s.goes is = true) : s.rest ≠ [] := by
  simp only [St.goes, Bool.and_eq_true, decide_eq_true_eq] at h
  exact dec_pos_iff.1 h.1
theorem ext_while {is : Int → Bool} {x : List UInt8} (hx : Sep x) (hno : ∀ l c, St.goes is ⟨x, l, c⟩ = false) (s : St) : (s.ext x).while is = (s.while is).ext x := by
  generalize hn : s.rest.length = n
  induction n using Nat.strongRecOn generalizing s with
  | ind n ih =>
    subst hn
    by_cases h : s.goes is = true
    · have hne := goes_ne h
      rw [while_yes h, while_yes (by rw [ext_goes hne hx]; exact h), ext_step hne hx]
      exact ih _ (step_len hne) s.step rfl
    · have h' : s.goes is = false := by simpa using h
      rw [while_no h']
      by_cases hne : s.rest = []
      · rw [while_no]
        have e : s.ext x = ⟨x, s.line, s.col⟩ := by unfold St.ext; rw [hne]; rfl
        rw [e]
        exact hno _ _
      · rw [while_no (by rw [ext_goes hne hx]; exact h')]
theorem dec_head {h : UInt8} {t : List UInt8} (hl : h.toNat < 128) : dec (h :: t) = ((h.toNat : Int), 1) := dec_ascii hl
theorem sep_no {is : Int → Bool} (h10 : is 10 = false) (h32 : is 32 = false) (h47 : is 47 = false) {x : List UInt8} (hx : Sep x) : ∀ l c, St.goes is ⟨x, l, c⟩ = false := by
  intro l c
  unfold St.goes
  rcases hx with rfl | ⟨a, t, rfl, rfl | rfl | rfl⟩
  · simp [dec_nil]
  · rw [dec_head (by decide)]; show (_ && (_ && is 10)) = false; rw [h10]; simp
  · rw [dec_head (by decide)]; show (_ && (_ && is 32)) = false; rw [h32]; simp
  · rw [dec_head (by decide)]; show (_ && (_ && is 47)) = false; rw [h47]; simp
theorem sep_digit {x : List UInt8} (hx : Sep x) : ∀ l c, St.goes digB ⟨x, l, c⟩ = false := sep_no (by decide) (by decide) (by decide) hx
theorem sep_hex {x : List UInt8} (hx : Sep x) : ∀ l c, St.goes hexB ⟨x, l, c⟩ = false := sep_no (by decide) (by decide) (by decide) hx
theorem sep_name {x : List UInt8} (hx : Sep x) : ∀ l c, St.goes nameB ⟨x, l, c⟩ = false := sep_no (by decide) (by decide) (by decide) hx

theorem ext_upTo {s s1 : St} (x : List UInt8) (h : s1.rest.length ≤ s.rest.length) : upTo (s.ext x) (s1.ext x) = upTo s s1 := by
  unfold upTo St.ext
  simp only [List.length_append]
  rw [show s.rest.length + x.length - (s1.rest.length + x.length) = s.rest.length - s1.rest.length by omega, List.take_append_of_le_length (by omega)]
theorem ext_hexP {p x : List UInt8} (hp : p ≠ []) (hx : Sep x) : hexP (p ++ x) = hexP p := by
  match p, hp with
  | [a], _ =>
    rcases hx with rfl | ⟨h, t, rfl, rfl | rfl | rfl⟩
    · rfl
    all_goals
      unfold hexP Lib.hasPrefix
      simp [List.isPrefixOf]
  | a :: b :: t, _ =>
    unfold hexP Lib.hasPrefix
    simp [List.isPrefixOf]
theorem name_behind {s : St} {x : List UInt8} (hx : Sep x) : (0 < (dec (s.ext x).rest).2 ∧ nameB (dec (s.ext x).rest).1 = true) ↔ (0 < (dec s.rest).2 ∧ nameB (dec s.rest).1 = true) := by
  by_cases h : s.rest = []
  · have h1 := sep_name hx s.line s.col
    have e : (s.ext x).rest = x := by unfold St.ext; rw [h]; rfl
    rw [e, h, dec_nil]
    constructor
    · rintro ⟨h2, h3⟩
      exfalso
      unfold St.goes at h1
      simp only [decide_eq_true h2, h3, Bool.true_and, Bool.and_true, decide_eq_false_iff_not] at h1
      have : 0 ≤ (dec x).1 := by
        unfold nameB at h3
        simp only [Bool.or_eq_true] at h3
        rcases h3 with h3 | h3
        · simp [letB] at h3; omega
        · simp [digB] at h3; omega
      exact h1 this
    · rintro ⟨h2, _⟩
      exact absurd h2 (by decide)
  · rw [ext_dec h hx]

/-- The token with more behind. -/
def extR {α : Type} (x : List UInt8) : Except (Nat × Nat) (α × St) → Except (Nat × Nat) (α × St)
  | .error f => .error f
  | .ok (t, s1) => .ok (t, s1.ext x)
theorem ext_numS {s : St} {x : List UInt8} (hne : s.rest ≠ []) (hx : Sep x) : numS (s.ext x) = extR x (numS s) := by
  have hh : hexP (s.ext x).rest = hexP s.rest := ext_hexP hne hx
  have h0 : (if hexP s.rest = true then (s.ext x).step.step else s.ext x) = (if hexP s.rest = true then s.step.step else s).ext x := by
    cases h : hexP s.rest with
    | true =>
      have hr := hexP_ref s
      rw [h] at hr
      have h2 : s.step.rest ≠ [] := by
        have : 0 < (dec s.step.rest).2 := by
          simp only [Bool.true_eq, Bool.and_eq_true, decide_eq_true_eq] at hr
          exact hr.2.1
        exact dec_pos_iff.1 this
      simp only [if_true]
      rw [ext_step hne hx, ext_step h2 hx]
    | false => rfl
  unfold numS
  simp only [hh, h0]
  generalize (if hexP s.rest = true then s.step.step else s) = s0
  have hw : (s0.ext x).while (if hexP s.rest = true then hexB else digB) = (s0.while (if hexP s.rest = true then hexB else digB)).ext x := by
    refine ext_while hx ?_ s0
    split
    · exact sep_hex hx
    · exact sep_digit hx
  rw [hw]
  have hle := while_len (if hexP s.rest = true then hexB else digB) s0
  generalize s0.while (if hexP s.rest = true then hexB else digB) = s1 at *
  rw [ext_upTo x hle]
  split
  · rfl
  · split
    · rfl
    · have hb := name_behind (s := s1) hx
      by_cases hc : 0 < (dec s1.rest).2 ∧ nameB (dec s1.rest).1 = true
      · rw [if_pos (hb.2 hc), if_pos hc]; rfl
      · rw [if_neg (fun h => hc (hb.1 h)), if_neg hc]; rfl
theorem ext_sgnF {p x : List UInt8} (hp : p ≠ []) (hx : Sep x) : sgnF (p ++ x) = sgnF p := by
  unfold sgnF
  rw [signs_split, List.find?_append, List.find?_append]
  match p, hp with
  | [a], _ =>
    rw [find_dbl1, find_sgl]
    rcases hx with rfl | ⟨h, t, rfl, hh⟩
    · rw [List.append_nil, find_dbl1, find_sgl]
    · have e : [a] ++ h :: t = a :: h :: t := rfl
      rw [e, find_dbl, find_sgl]
      have : dbls.contains [a, h] = false := by
        rw [← Bool.not_eq_true]
        intro hc
        have hm := List.contains_iff_mem.1 hc
        simp only [dbls, signsW, List.take_succ_cons, List.take_zero, List.mem_cons, List.cons.injEq, List.not_mem_nil, or_false, and_true] at hm
        rcases hh with rfl | rfl | rfl <;> rcases hm with ⟨_, hm⟩ | ⟨_, hm⟩ | ⟨_, hm⟩ | ⟨_, hm⟩ | ⟨_, hm⟩ | ⟨_, hm⟩ <;> cases hm
      rw [this]
      rfl
  | a :: b :: t, _ =>
    have e : (a :: b :: t) ++ x = a :: b :: (t ++ x) := rfl
    rw [e, find_dbl, find_sgl, find_dbl, find_sgl]
theorem sgn_two {s : St} {t : List UInt8} (h : sgnF s.rest = some t) (h2 : t.length = 2) : s.step.rest ≠ [] := by
  obtain ⟨h7, h8⟩ := sgn_mem h
  obtain ⟨u, e⟩ := List.isPrefixOf_iff_prefix.1 h8
  have hl := (signs_low t h7).2
  match t, h2, hl, e with
  | [a, b], _, hl, e =>
    have ha := hl a (List.mem_cons_self ..)
    have hd : dec s.rest = ((a.toNat : Int), 1) := by rw [← e]; exact dec_ascii ha
    rw [step_rest, hd, ← e]
    simp
theorem ext_tokenS {s : St} {x : List UInt8} (hne : s.rest ≠ []) (hx : Sep x) : tokenS (s.ext x) = extR x (tokenS s) := by
  have hne2 : (s.ext x).rest ≠ [] := by unfold St.ext; simp [hne]
  have hd := ext_dec hne hx
  cases h1 : digB (dec s.rest).1 with
  | true =>
    rw [tokenS_digit hne2 (by rw [hd]; exact h1), tokenS_digit hne h1, ext_numS hne hx]
    cases hn : numS s with
    | error f => rfl
    | ok p =>
      obtain ⟨v, s1⟩ := p
      obtain ⟨m, hm⟩ := numS_next hn
      show Except.ok _ = Except.ok _
      rw [ext_upTo x (by rw [hm]; exact St.le_len (stn_le s m))]
      rfl
  | false =>
    cases h2 : letB (dec s.rest).1 with
    | true =>
      rw [tokenS_name hne2 (by rw [hd]; exact h1) (by rw [hd]; exact h2), tokenS_name hne h1 h2, ext_while hx (sep_name hx), ext_upTo x (while_len nameB s)]
      rfl
    | false =>
      rw [tokenS_sign hne2 (by rw [hd]; exact h1) (by rw [hd]; exact h2), tokenS_sign hne h1 h2]
      have e : sgnF (s.ext x).rest = sgnF s.rest := ext_sgnF hne hx
      rw [e]
      cases hs : sgnF s.rest with
      | none => rfl
      | some t =>
        have hst : stn (s.ext x) t.length = (stn s t.length).ext x := by
          rcases (sgn_upTo hs).2.1 with h3 | h3
          · rw [h3]; exact ext_step hne hx
          · rw [h3]
            show (s.ext x).step.step = s.step.step.ext x
            rw [ext_step hne hx, ext_step (sgn_two hs h3) hx]
        show Except.ok _ = Except.ok _
        rw [hst]
        rfl
end Go.Proofs.YtpamnnllijkpfaaDoor.LexP
