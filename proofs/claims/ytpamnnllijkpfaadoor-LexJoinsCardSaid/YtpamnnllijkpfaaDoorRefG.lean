/- PLAIN: the words within one text, and the words in a list, are the same words. -/
import Derived.Test.YtpamnnllijkpfaaDoorRefF
namespace Go.Proofs.YtpamnnllijkpfaaDoor.LexP
open Go

theorem contains_nil (sub : List UInt8) (h : sub ≠ []) : Lib.contains [] sub = false := by
  unfold Lib.contains Lib.index
  cases sub with
  | nil => exact absurd rfl h
  | cons a t => rfl
theorem contains_cons (b : UInt8) (l sub : List UInt8) : Lib.contains (b :: l) sub = (sub.isPrefixOf (b :: l) || Lib.contains l sub) := by
  unfold Lib.contains
  have hge := Lib.index_ge l sub
  conv => lhs; rw [Lib.index]
  split
  · rename_i h
    simp [h]
  · rename_i h
    have h' : sub.isPrefixOf (b :: l) = false := Bool.eq_false_iff.2 h
    rw [h', Bool.false_or]
    split
    · rename_i h2
      have : Lib.index l sub = -1 := by simpa using h2
      rw [this]
    · rename_i h2
      have : Lib.index l sub ≠ -1 := by simpa using h2
      rw [decide_eq_decide]
      omega
/-- Behind a word without the byte 32. -/
theorem contains_past (w r t : List UInt8) (hw : (32 : UInt8) ∉ w) : Lib.contains (w ++ r) (32 :: t) = Lib.contains r (32 :: t) := by
  induction w with
  | nil => rfl
  | cons a w ih =>
    rw [List.cons_append, contains_cons, ih (fun h => hw (List.mem_cons_of_mem _ h))]
    have ha : ((32 : UInt8) == a) = false := by
      rw [beq_eq_false_iff_ne]
      rintro rfl
      exact hw (List.mem_cons_self ..)
    simp [List.isPrefixOf, ha]
theorem prefix_word (t w r : List UInt8) (ht : (32 : UInt8) ∉ t) (hw : (32 : UInt8) ∉ w) : (t ++ [32]).isPrefixOf (w ++ 32 :: r) = (t == w) := by
  induction t generalizing w with
  | nil =>
    cases w with
    | nil => simp [List.isPrefixOf]
    | cons a w =>
      have ha : ((32 : UInt8) == a) = false := by
        rw [beq_eq_false_iff_ne]
        rintro rfl
        exact hw (List.mem_cons_self ..)
      simp [List.isPrefixOf, ha]
  | cons b t ih =>
    cases w with
    | nil =>
      have hb : (b == (32 : UInt8)) = false := by
        rw [beq_eq_false_iff_ne]
        rintro rfl
        exact ht (List.mem_cons_self ..)
      simp [List.isPrefixOf, hb]
    | cons a w =>
      have := ih w (fun h => ht (List.mem_cons_of_mem _ h)) (fun h => hw (List.mem_cons_of_mem _ h))
      simp only [List.cons_append, List.isPrefixOf, this]
      by_cases hab : b = a
      · subst hab; simp
      · have : (b == a) = false := by rw [beq_eq_false_iff_ne]; exact hab
        rw [this]
        symm
        simp [hab]
/-- A text of words, a blank around each. -/
theorem contains_words (W : List (List UInt8)) (hW : ∀ w ∈ W, (32 : UInt8) ∉ w) (t : List UInt8) (ht : (32 : UInt8) ∉ t) :
    Lib.contains (32 :: W.flatMap (· ++ [32])) (32 :: (t ++ [32])) = W.contains t := by
  induction W with
  | nil => 
    rw [List.flatMap_nil, contains_cons, contains_nil _ (by simp)]
    cases t <;> simp [List.isPrefixOf]
  | cons w W ih =>
    have hw := hW w (List.mem_cons_self ..)
    rw [List.flatMap_cons, contains_cons, List.append_assoc, contains_past _ _ _ hw, List.singleton_append, ih (fun x hx => hW x (List.mem_cons_of_mem _ hx))]
    have := prefix_word t w (W.flatMap (· ++ [32])) ht hw
    simp only [List.isPrefixOf, this, List.contains_cons]
    simp
theorem wordB_list (t : List UInt8) (ht : (32 : UInt8) ∉ t) : wordB t = wordsW.contains t := by
  have h := contains_words wordsW (by decide) t ht
  exact h
theorem decodeN_bytes (n b0 b1 b2 b3 : Nat) : (Lib.decodeN n b0 b1 b2 b3).2 ≤ 4 ∧ ((Lib.decodeN n b0 b1 b2 b3).2 = 1 ∧ (Lib.decodeN n b0 b1 b2 b3).1 = b0 ∨ (Lib.decodeN n b0 b1 b2 b3) = (65533, 1) ∨ (128 ≤ b0 ∧ (1 < (Lib.decodeN n b0 b1 b2 b3).2 → 128 ≤ b1) ∧ (2 < (Lib.decodeN n b0 b1 b2 b3).2 → 128 ≤ b2) ∧ (3 < (Lib.decodeN n b0 b1 b2 b3).2 → 128 ≤ b3))) := by
  unfold Lib.decodeN
  split
  · simp
  · split
    · split
      · simp only; omega
      · simp
    · split
      · split
        · simp only; omega
        · simp
      · split
        · split
          · simp only; omega
          · simp
        · simp
/-- No byte 32 is in a rune that is a letter or a digit. -/
theorem no_blank (l : List UInt8) (h : letB ((Lib.decodeL l).1 : Nat) = true ∨ digB ((Lib.decodeL l).1 : Nat) = true) : (32 : UInt8) ∉ l.take (Lib.decodeL l).2 := by
  intro hm
  obtain ⟨j, hj, he⟩ := List.mem_iff_getElem.1 hm
  rw [List.getElem_take] at he
  simp only [List.length_take] at hj
  have hg : (l.getD j 0) = 32 := by
    rw [List.getD, List.getElem?_eq_getElem (by omega), he]; rfl
  have hB := decodeN_bytes l.length (l.getD 0 0).toNat (l.getD 1 0).toNat (l.getD 2 0).toNat (l.getD 3 0).toNat
  rw [← Lib.decodeL_N] at hB
  have hr : letB (32 : Int) = false ∧ digB (32 : Int) = false ∧ letB (65533 : Int) = false ∧ digB (65533 : Int) = false := by decide
  generalize hd : Lib.decodeL l = d at *
  obtain ⟨r, n⟩ := d
  simp only at h hB hj
  rcases hB with ⟨h4, ⟨h1, h2⟩ | h1 | ⟨h1, h2, h3, h5⟩⟩
  · have : j = 0 := by omega
    subst this
    rw [hg] at h2
    subst h2
    rcases h with h | h
    · exact absurd (hr.1.symm.trans h) (by decide)
    · exact absurd (hr.2.1.symm.trans h) (by decide)
  · injection h1 with h1 _
    subst h1
    rcases h with h | h
    · exact absurd (hr.2.2.1.symm.trans h) (by decide)
    · exact absurd (hr.2.2.2.symm.trans h) (by decide)
  · have h32 : (l.getD j 0).toNat = 32 := by rw [hg]; rfl
    have : j = 0 ∨ j = 1 ∨ j = 2 ∨ j = 3 := by omega
    rcases this with rfl | rfl | rfl | rfl <;> omega
theorem nmS_blank (first : Bool) (l : List UInt8) (h : nmS first l = true) : (32 : UInt8) ∉ l := by
  generalize hn : l.length = n
  induction n using Nat.strongRecOn generalizing l first with
  | ind n ih =>
    subst hn
    by_cases hl : l = []
    · subst hl; simp
    · cases hy : (letB ((Lib.decodeL l).1 : Nat) || (!first && digB ((Lib.decodeL l).1 : Nat))) with
      | false => rw [nmS_no hl hy] at h; cases h
      | true =>
        rw [nmS_yes hl hy] at h
        have hw := Lib.decodeL_width l
        have hp : 0 < l.length := List.length_pos_iff.2 hl
        have h1 := ih _ (by simp; omega) false _ h rfl
        have h2 := no_blank l (by
          simp only [Bool.or_eq_true, Bool.and_eq_true] at hy
          rcases hy with hy | ⟨_, hy⟩
          · exact .inl hy
          · exact .inr hy)
        intro hm
        rw [← List.take_append_drop (Lib.decodeL l).2 l, List.mem_append] at hm
        rcases hm with hm | hm
        · exact h2 hm
        · exact h1 hm
/-- P5.5: the program's answer is the reference's. -/
theorem isNameS_ref (l : List UInt8) : isNameS l = (nmS true l && (decide (1 < cnt ⟨l, 1, 1⟩ + 1) && !wordsW.contains l)) := by
  unfold isNameS
  cases hn : nmS true l with
  | false => rfl
  | true =>
    rw [wordB_list l (nmS_blank _ _ hn)]
    have : (!l.isEmpty) = decide (1 < cnt ⟨l, 1, 1⟩ + 1) := by
      by_cases hl : l = []
      · subst hl
        rw [cnt_nil rfl]
        rfl
      · rw [cnt_cons (s := ⟨l, 1, 1⟩) hl, decide_eq_true (by omega)]
        cases l with
        | nil => exact absurd rfl hl
        | cons a t => rfl
    rw [this]
end Go.Proofs.YtpamnnllijkpfaaDoor.LexP
