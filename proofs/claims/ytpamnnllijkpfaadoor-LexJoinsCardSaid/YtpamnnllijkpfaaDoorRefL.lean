/- PLAIN: the reference's signs and names are the scanner's. -/
import Derived.Test.YtpamnnllijkpfaaDoorRefK
namespace Go.Proofs.YtpamnnllijkpfaaDoor.LexP
open Go

/-- The sign that a text begins with. -/
def sgnF (l : List UInt8) : Option (List UInt8) := signsW.find? (fun t => t.isPrefixOf l)

theorem find_eq (L : List (List UInt8)) (x : List UInt8) (p : List UInt8 → Bool) (h : ∀ t ∈ L, p t = (t == x)) : L.find? p = if L.contains x then some x else none := by
  induction L with
  | nil => rfl
  | cons a L ih =>
    rw [List.find?_cons, h a (List.mem_cons_self ..), ih (fun t ht => h t (List.mem_cons_of_mem _ ht)), List.contains_cons]
    by_cases e : a = x
    · subst e; simp
    · have e1 : (a == x) = false := by rw [beq_eq_false_iff_ne]; exact e
      have e2 : (x == a) = false := by rw [beq_eq_false_iff_ne]; exact fun h => e h.symm
      rw [e1, e2]
      rfl
theorem find_none (L : List (List UInt8)) (p : List UInt8 → Bool) (h : ∀ t ∈ L, p t = false) : L.find? p = none := by
  rw [List.find?_eq_none]
  intro t ht
  simp [h t ht]

def dbls : List (List UInt8) := signsW.take 6
def sgls : List (List UInt8) := signsW.drop 6
theorem signs_split : signsW = dbls ++ sgls := by decide
theorem dbl_six (a b : UInt8) : Lib.contains doubleL [32, a, b, 32] = dbls.contains [a, b] := by
  unfold doubleL
  simp only [contains_cons, contains_nil [32, a, b, 32] (by simp)]
  simp [dbls, signsW, List.isPrefixOf]
  cases h1 : (a == 60) <;> cases h2 : (b == 60) <;> cases h3 : (a == 62) <;> cases h4 : (b == 62) <;> cases h5 : (a == 61) <;> cases h6 : (b == 61) <;> cases h7 : (a == 33) <;> simp_all
theorem mem_len (L : List (List UInt8)) (n : Nat) (h : L.all (fun x => x.length == n) = true) : ∀ x ∈ L, x.length = n := fun x hx => by simpa using (List.all_eq_true.1 h) x hx
theorem find_dbl (a b : UInt8) (t : List UInt8) : dbls.find? (fun x => x.isPrefixOf (a :: b :: t)) = if dbls.contains [a, b] then some [a, b] else none := by
  refine find_eq _ _ _ (fun x hx => ?_)
  have hl := mem_len dbls 2 (by decide) x hx
  match x, hl with
  | [p, q], _ => rw [Bool.eq_iff_iff]; simp [List.isPrefixOf]
theorem find_dbl1 (a : UInt8) : dbls.find? (fun x => x.isPrefixOf [a]) = none := by
  refine find_none _ _ (fun x hx => ?_)
  have hl := mem_len dbls 2 (by decide) x hx
  match x, hl with
  | [p, q], _ => simp [List.isPrefixOf]
theorem find_sgl (a : UInt8) (t : List UInt8) : sgls.find? (fun x => x.isPrefixOf (a :: t)) = if sgls.contains [a] then some [a] else none := by
  refine find_eq _ _ _ (fun x hx => ?_)
  have hl := mem_len sgls 1 (by decide) x hx
  match x, hl with
  | [p], _ => rw [Bool.eq_iff_iff]; simp [List.isPrefixOf]
theorem sg_byte : ∀ n : Fin 256, decide (0 ≤ Lib.indexByte singleL (UInt8.ofNat n.val)) = sgls.contains [UInt8.ofNat n.val] := by decide +kernel
theorem sg_low : ∀ n : Fin 256, sgls.contains [UInt8.ofNat n.val] = true → 0 < n.val ∧ n.val < 128 := by decide +kernel
theorem dbl_low : ∀ x ∈ dbls, ∀ c ∈ x, c.toNat < 128 := by decide +kernel
theorem byte_of (a : UInt8) : UInt8.ofNat a.toNat = a := UInt8.toNat_inj.1 (by simp)
theorem sg1_sgl (a : UInt8) (t : List UInt8) : (0 < (dec (a :: t)).1 ∧ sg1 (dec (a :: t)).1 = true) ↔ sgls.contains [a] = true := by
  have hb := sg_byte ⟨a.toNat, UInt8.toNat_lt a⟩
  have hlo := sg_low ⟨a.toNat, UInt8.toNat_lt a⟩
  simp only [byte_of] at hb hlo
  by_cases h : a.toNat < 128
  · rw [dec_ascii h]
    unfold sg1
    have e : ((a.toNat : Int).toNat).toUInt8 = a := byte_of a
    rw [e, hb]
    constructor
    · rintro ⟨_, h2⟩
      simp only [Bool.and_eq_true] at h2
      exact h2.1
    · intro h2
      refine ⟨by have := (hlo h2).1; simp only; omega, ?_⟩
      rw [h2, decide_eq_true (by omega)]
      rfl
  · constructor
    · rintro ⟨h1, h2⟩
      exfalso
      unfold sg1 at h2
      simp only [Bool.and_eq_true, decide_eq_true_eq] at h2
      obtain ⟨c, t', e, hc⟩ := dec_low (dec_ne (l := a :: t) (by omega)) (by omega) h2.2
      injection e with e _
      subst e
      exact h hc
    · intro h2
      exact absurd (hlo h2).2 h

theorem tokenS_sign {s : St} (hne : s.rest ≠ []) (hd : digB (dec s.rest).1 = false) (hl : letB (dec s.rest).1 = false) :
    tokenS s = match sgnF s.rest with | some t => .ok (⟨4, t, 0, s.line, s.col⟩, stn s t.length) | none => .error (s.line, s.col) := by
  have h0 : (dec s.rest).2 ≠ 0 := by have := dec_pos hne; omega
  unfold tokenS
  rw [if_neg h0, hd, hl, if_neg (by decide), if_neg (by decide)]
  unfold sgnF
  rw [signs_split, List.find?_append]
  match hr : s.rest, hne with
  | [a], _ =>
    rw [find_dbl1, find_sgl]
    have hdb : dblB [a] = false := rfl
    rw [hdb, if_neg (by decide)]
    have h1 := sg1_sgl a []
    by_cases hs : sgls.contains [a] = true
    · rw [if_pos (h1.2 hs), if_pos hs]
      rfl
    · rw [if_neg (fun h => hs (h1.1 h)), if_neg hs]
      rfl
  | a :: b :: t, _ =>
    rw [find_dbl, find_sgl]
    have hdb : dblB (a :: b :: t) = dbls.contains [a, b] := by
      unfold dblB
      rw [← dbl_six a b]
      simp
    rw [hdb]
    by_cases h2 : dbls.contains [a, b] = true
    · rw [if_pos h2, if_pos h2]
      rfl
    · rw [if_neg h2, if_neg h2]
      have h1 := sg1_sgl a (b :: t)
      by_cases hs : sgls.contains [a] = true
      · rw [if_pos (h1.2 hs), if_pos hs]
        rfl
      · rw [if_neg (fun h => hs (h1.1 h)), if_neg hs]
        rfl

theorem sgn_mem {l t : List UInt8} (h : sgnF l = some t) : t ∈ signsW ∧ t.isPrefixOf l = true := by
  unfold sgnF at h
  exact ⟨List.mem_of_find?_eq_some h, List.find?_some (p := fun (t : List UInt8) => t.isPrefixOf l) h⟩
theorem signs_low : ∀ x ∈ signsW, (x.length = 1 ∨ x.length = 2) ∧ ∀ c ∈ x, c.toNat < 128 := by decide +kernel
/-- Behind bytes below 128. -/
theorem stn_ascii (t : List UInt8) : ∀ (s : St) (u : List UInt8), s.rest = t ++ u → (∀ c ∈ t, c.toNat < 128) → (stn s t.length).rest = u := by
  induction t with
  | nil => intro s u h _; exact h
  | cons a t ih =>
    intro s u h hc
    have ha := hc a (List.mem_cons_self ..)
    have hd : dec s.rest = ((a.toNat : Int), 1) := by rw [h, List.cons_append, dec_ascii ha]
    have e : s.step.rest = t ++ u := by rw [step_rest, hd, h]; rfl
    have := ih s.step u e (fun c h => hc c (List.mem_cons_of_mem _ h))
    rwa [stn_step] at this
/-- The token of a sign. -/
theorem sgn_upTo {s : St} {t : List UInt8} (h : sgnF s.rest = some t) : upTo s (stn s t.length) = t ∧ (t.length = 1 ∨ t.length = 2) ∧ s.rest.length = t.length + (stn s t.length).rest.length := by
  obtain ⟨h1, h2⟩ := sgn_mem h
  obtain ⟨u, e⟩ := List.isPrefixOf_iff_prefix.1 h2
  have hl := signs_low t h1
  have e2 := stn_ascii t s u e.symm hl.2
  have e3 : s.rest.length = t.length + u.length := by rw [← e, List.length_append]
  refine ⟨?_, hl.1, by rw [e2]; exact e3⟩
  unfold upTo
  rw [e2, e3, ← e]
  simp

/-- No blank in a name. -/
theorem name_blank (s : St) : (32 : UInt8) ∉ upTo s (s.while nameB) := by
  generalize hn : s.rest.length = n
  induction n using Nat.strongRecOn generalizing s with
  | ind n ih =>
    subst hn
    by_cases h : s.goes nameB = true
    · have hg := h
      simp only [St.goes, Bool.and_eq_true, decide_eq_true_eq] at hg
      obtain ⟨h0, h1, h2⟩ := hg
      have hne := dec_pos_iff.1 h0
      have h3 := ih _ (step_len hne) s.step rfl
      have hle := while_len nameB s.step
      have hdl := dec_le s.rest
      have hb := no_blank s.rest (by
        rw [← let_dec _ hne, ← dig_dec _ hne]
        unfold nameB at h2
        simpa using h2)
      rw [← drop_dec _ hne] at hb
      rw [while_yes h]
      unfold upTo at h3 ⊢
      rw [step_rest] at h3 hle
      rw [List.length_drop] at h3 hle
      have e : s.rest.length - (s.step.while nameB).rest.length = (dec s.rest).2 + (s.rest.length - (dec s.rest).2 - (s.step.while nameB).rest.length) := by omega
      rw [e, List.take_add, List.mem_append]
      rintro (h4 | h4)
      · exact hb h4
      · exact h3 h4
    · rw [while_no (by simpa using h)]
      simp [upTo]
theorem goes_name (s : St) : s.goes nameB = ((decide ((0 : Int) < ((dec s.rest).2 : Nat)) && letB (dec s.rest).1) || (decide ((0 : Int) < ((dec s.rest).2 : Nat)) && digB (dec s.rest).1)) := by
  unfold St.goes nameB
  cases hl : letB (dec s.rest).1 with
  | true =>
    have : 0 ≤ (dec s.rest).1 := by simp [letB] at hl; omega
    simp [this]
    exact fun h _ => h
  | false =>
    cases hd : digB (dec s.rest).1 with
    | true =>
      have : 0 ≤ (dec s.rest).1 := by simp [digB] at hd; omega
      simp [this]
    | false => simp
theorem tokenS_name {s : St} (hne : s.rest ≠ []) (hd : digB (dec s.rest).1 = false) (hl : letB (dec s.rest).1 = true) :
    tokenS s = .ok (⟨if wordsW.contains (upTo s (s.while nameB)) then 3 else 1, upTo s (s.while nameB), 0, s.line, s.col⟩, s.while nameB) := by
  have h0 : (dec s.rest).2 ≠ 0 := by have := dec_pos hne; omega
  unfold tokenS
  rw [if_neg h0, hd, hl, if_neg (by decide), if_pos rfl, wordB_list _ (name_blank s)]
theorem tokenS_digit {s : St} (hne : s.rest ≠ []) (hd : digB (dec s.rest).1 = true) :
    tokenS s = match numS s with | .error f => .error f | .ok (v, s1) => .ok (⟨2, upTo s s1, v, s.line, s.col⟩, s1) := by
  have h0 : (dec s.rest).2 ≠ 0 := by have := dec_pos hne; omega
  unfold tokenS
  rw [if_neg h0, hd, if_pos rfl]
  rfl
theorem tokenS_end {s : St} (hne : s.rest = []) : tokenS s = .ok (⟨5, [], 0, s.line, s.col⟩, s) := by
  unfold tokenS
  rw [hne, dec_nil, if_pos rfl]
end Go.Proofs.YtpamnnllijkpfaaDoor.LexP
