/- PLAIN: the scanner of chapter 5 as functions over lists of bytes. No program in sight. -/
import Derived.Lib.TrimUEq
import Derived.Lib.MapLaws
import Derived.Lib.IndexMore
import Derived.Lib.Bytealg
namespace Go.Proofs.YtpamnnllijkpfaaDoor.LexP
open Go

/-- The rune that comes next (-1: none there), and its bytes; (0, 0) at the end. -/
def dec (l : List UInt8) : Int × Nat :=
  if l = [] then (0, 0) else if Lib.decodeL l = (65533, 1) then (-1, 1) else ((Lib.decodeL l).1, (Lib.decodeL l).2)

def letB (r : Int) : Bool := decide (97 ≤ r ∧ r ≤ 122 ∨ 65 ≤ r ∧ r ≤ 90 ∨ r = 95 ∨ 945 ≤ r ∧ r ≤ 969)
def digB (r : Int) : Bool := decide (48 ≤ r ∧ r ≤ 57)
def six (r : Int) : Nat := if 48 ≤ r ∧ r ≤ 57 then (r - 48).toNat else if 97 ≤ r ∧ r ≤ 102 then (r - 87).toNat else if 65 ≤ r ∧ r ≤ 70 then (r - 55).toNat else 16
def blkB (r : Int) : Bool := decide (r = 32 ∨ r = 9 ∨ r = 10 ∨ r = 13)
def lineB (r : Int) : Bool := decide (r ≠ 10)
def nameB (r : Int) : Bool := letB r || digB r
def hexB (r : Int) : Bool := decide (six r < 16)

/-- Where the scanner stands: what is left, and the place. -/
structure St where
  rest : List UInt8
  line : Nat
  col : Nat

def St.step (s : St) : St :=
  if (dec s.rest).1 = 10 then ⟨s.rest.drop (dec s.rest).2, s.line + 1, 1⟩
  else if 0 < (dec s.rest).2 then ⟨s.rest.drop (dec s.rest).2, s.line, s.col + 1⟩
  else s

theorem dec_nil : dec [] = (0, 0) := by simp [dec]
theorem dec_pos {l : List UInt8} (h : l ≠ []) : 1 ≤ (dec l).2 := by
  have := Lib.decodeL_width l
  unfold dec
  rw [if_neg h]
  split
  · simp
  · exact this
theorem dec_le (l : List UInt8) : (dec l).2 ≤ l.length := by
  unfold dec
  by_cases h : l = []
  · simp [h]
  · have h1 := Lib.decodeL_le l h
    have h2 : 0 < l.length := List.length_pos_iff.2 h
    rw [if_neg h]
    split
    · exact h2
    · exact h1
theorem dec_lo (l : List UInt8) : -1 ≤ (dec l).1 := by
  unfold dec
  split
  · simp
  · split
    · simp
    · show (-1 : Int) ≤ ((Lib.decodeL l).1 : Int)
      omega
theorem dec_hi (l : List UInt8) : (dec l).1 ≤ 1114111 := by
  have := Lib.decodeL_rune l
  unfold dec
  split
  · simp
  · split
    · simp
    · show ((Lib.decodeL l).1 : Int) ≤ 1114111
      omega
theorem dec_pos_iff {l : List UInt8} : 0 < (dec l).2 ↔ l ≠ [] := by
  constructor
  · rintro h rfl
    simp [dec_nil] at h
  · intro h
    exact dec_pos h

theorem step_len {s : St} (h : s.rest ≠ []) : s.step.rest.length < s.rest.length := by
  have h1 := dec_pos h
  have h2 : 0 < s.rest.length := List.length_pos_iff.2 h
  unfold St.step
  split
  · simp; omega
  · rw [if_pos (by omega)]
    simp; omega
theorem step_rest (s : St) : s.step.rest = s.rest.drop (dec s.rest).2 := by
  unfold St.step
  split
  · rfl
  · split
    · rfl
    · have : (dec s.rest).2 = 0 := by omega
      simp [this]

def St.goes (is : Int → Bool) (s : St) : Bool := decide (0 < (dec s.rest).2) && (decide (0 ≤ (dec s.rest).1) && is (dec s.rest).1)

def St.while (is : Int → Bool) (s : St) : St :=
  if _h : s.goes is = true then (s.step).while is else s
termination_by s.rest.length
decreasing_by
  have : 0 < (dec s.rest).2 := by
    simp only [St.goes, Bool.and_eq_true, decide_eq_true_eq] at _h
    exact _h.1
  exact step_len (dec_pos_iff.1 this)

theorem while_yes {is : Int → Bool} {s : St} (h : s.goes is = true) : s.while is = (s.step).while is := by rw [St.while, dif_pos h]
theorem while_no {is : Int → Bool} {s : St} (h : s.goes is = false) : s.while is = s := by rw [St.while, dif_neg (by simp [h])]

/-- t stands behind s: what is left of t is a part of what is left of s. -/
def St.le (t s : St) : Prop := ∃ k, k ≤ s.rest.length ∧ t.rest = s.rest.drop k
theorem St.le_refl (s : St) : s.le s := ⟨0, by omega, by simp⟩
theorem St.le_trans {a b c : St} (h : a.le b) (k : b.le c) : a.le c := by
  obtain ⟨i, hi, e⟩ := h
  obtain ⟨j, hj, f⟩ := k
  rw [f] at hi
  rw [f, List.drop_drop] at e
  simp at hi
  exact ⟨j + i, by omega, e⟩
theorem step_le (s : St) : s.step.le s := ⟨(dec s.rest).2, dec_le _, step_rest s⟩
theorem St.le_len {a b : St} (h : a.le b) : a.rest.length ≤ b.rest.length := by
  obtain ⟨i, _, e⟩ := h
  rw [e]; simp
theorem while_le (is : Int → Bool) (s : St) : (s.while is).le s := by
  generalize hn : s.rest.length = n
  induction n using Nat.strongRecOn generalizing s with
  | ind n ih =>
    subst hn
    by_cases h : s.goes is = true
    · rw [while_yes h]
      have hne : s.rest ≠ [] := by
        simp only [St.goes, Bool.and_eq_true, decide_eq_true_eq] at h
        exact dec_pos_iff.1 h.1
      have hl := step_len hne
      exact St.le_trans (ih _ hl s.step rfl) (step_le s)
    · rw [while_no (by simpa using h)]
      exact St.le_refl s

/-- A remark begins here. -/
def slash (l : List UInt8) : Bool := Lib.hasPrefix l [47, 47]

theorem dec_ascii {c : UInt8} {t : List UInt8} (h : c.toNat < 128) : dec (c :: t) = ((c.toNat : Int), 1) := by
  have e : Lib.decodeL (c :: t) = (c.toNat, 1) := by
    rw [Lib.decodeL_N]
    unfold Lib.decodeN
    rw [if_pos (by exact h)]
    rfl
  unfold dec
  rw [if_neg (by simp), e, if_neg]
  rintro h2
  injection h2 with h3 _
  omega

theorem slash_cons {l : List UInt8} (h : slash l = true) : ∃ t, l = 47 :: 47 :: t := by
  unfold slash Lib.hasPrefix at h
  match l, h with
  | [], h => cases h
  | [a], h => simp at h
  | a :: b :: t, h =>
    simp at h
    exact ⟨t, by rw [← h.1, ← h.2]⟩

theorem while_len (is : Int → Bool) (s : St) : (s.while is).rest.length ≤ s.rest.length := St.le_len (while_le is s)

theorem slash_less {s : St} (h : slash s.rest = true) : (s.while lineB).rest.length < s.rest.length := by
  obtain ⟨t, e⟩ := slash_cons h
  have hd : dec s.rest = (47, 1) := by rw [e, dec_ascii (by decide)]; rfl
  have hg : s.goes lineB = true := by
    unfold St.goes
    rw [hd]
    decide
  rw [while_yes hg]
  have h1 := while_len lineB s.step
  have h2 := step_len (s := s) (by rw [e]; simp)
  omega

def St.blanks (s : St) : St :=
  if _h : slash (s.while blkB).rest = true then ((s.while blkB).while lineB).blanks else s.while blkB
termination_by s.rest.length
decreasing_by
  have h1 := while_len blkB s
  have h2 := slash_less _h
  omega

theorem blanks_yes {s : St} (h : slash (s.while blkB).rest = true) : s.blanks = ((s.while blkB).while lineB).blanks := by rw [St.blanks, dif_pos h]
theorem blanks_no {s : St} (h : slash (s.while blkB).rest = false) : s.blanks = s.while blkB := by rw [St.blanks, dif_neg (by simp [h])]

/-- The number of digits in a base; none: it is too great. -/
def valS (base : Nat) (v : Nat) : List UInt8 → Option Nat
  | [] => some v
  | c :: t => if v * base + six c.toNat < 18446744073709551616 then valS base (v * base + six c.toNat) t else none

theorem six_le (r : Int) : six r ≤ 16 := by
  unfold six
  split
  · omega
  · split
    · omega
    · split <;> omega

/-- It is written in base 16. -/
def hexP (l : List UInt8) : Bool := Lib.hasPrefix l [48, 120] || Lib.hasPrefix l [48, 88]
/-- The bytes from s up to t. -/
def upTo (s t : St) : List UInt8 := s.rest.take (s.rest.length - t.rest.length)

/-- A number that begins at s: its value, and where the scanner stands behind it; or the fault's place. -/
def numS (s : St) : Except (Nat × Nat) (Nat × St) :=
  let s0 := if hexP s.rest then s.step.step else s
  let s1 := s0.while (if hexP s.rest then hexB else digB)
  if upTo s0 s1 = [] then .error (s1.line, s1.col)
  else match valS (if hexP s.rest then 16 else 10) 0 (upTo s0 s1) with
    | none => .error (s.line, s.col)
    | some v => if 0 < (dec s1.rest).2 ∧ nameB (dec s1.rest).1 = true then .error (s1.line, s1.col) else .ok (v, s1)

/-- " shared thread let load store xchg fadd cas fence print if else while rlx acq rel acqrel sc " -/
def wordsL : List UInt8 := [32, 115, 104, 97, 114, 101, 100, 32, 116, 104, 114, 101, 97, 100, 32, 108, 101, 116, 32, 108, 111, 97, 100, 32, 115, 116, 111, 114, 101, 32, 120, 99, 104, 103, 32, 102, 97, 100, 100, 32, 99, 97, 115, 32, 102, 101, 110, 99, 101, 32, 112, 114, 105, 110, 116, 32, 105, 102, 32, 101, 108, 115, 101, 32, 119, 104, 105, 108, 101, 32, 114, 108, 120, 32, 97, 99, 113, 32, 114, 101, 108, 32, 97, 99, 113, 114, 101, 108, 32, 115, 99, 32]
def doubleL : List UInt8 := [32, 60, 60, 32, 62, 62, 32, 61, 61, 32, 33, 61, 32, 60, 61, 32, 62, 61, 32]
def singleL : List UInt8 := [43, 45, 42, 38, 94, 124, 126, 33, 60, 62, 61, 40, 41, 91, 93, 123, 125, 44, 59]
def wordB (t : List UInt8) : Bool := Lib.contains wordsL (32 :: (t ++ [32]))
def dblB (l : List UInt8) : Bool := decide (2 ≤ l.length) && Lib.contains doubleL (32 :: (l.take 2 ++ [32]))
/-- Is it one of the signs of one byte? -/
def sg1 (r : Int) : Bool := decide (0 ≤ Lib.indexByte singleL r.toNat.toUInt8) && decide (r < 128)

structure Tok where
  kind : Nat
  text : List UInt8
  val : Nat
  line : Nat
  col : Nat

/-- The token that begins at s (no blank stands there), and where the scanner stands behind it; or the fault's place. -/
def tokenS (s : St) : Except (Nat × Nat) (Tok × St) :=
  if (dec s.rest).2 = 0 then .ok (⟨5, [], 0, s.line, s.col⟩, s)
  else if digB (dec s.rest).1 then
    match numS s with
    | .error f => .error f
    | .ok (v, s1) => .ok (⟨2, upTo s s1, v, s.line, s.col⟩, s1)
  else if letB (dec s.rest).1 then .ok (⟨if wordB (upTo s (s.while nameB)) then 3 else 1, upTo s (s.while nameB), 0, s.line, s.col⟩, s.while nameB)
  else if dblB s.rest then .ok (⟨4, s.rest.take 2, 0, s.line, s.col⟩, s.step.step)
  else if 0 < (dec s.rest).1 ∧ sg1 (dec s.rest).1 = true then .ok (⟨4, s.rest.take 1, 0, s.line, s.col⟩, s.step)
  else .error (s.line, s.col)

/-- The scanner at byte k of a text. -/
def stOf (b : ByteArray) (k ln cl : Nat) : St := ⟨b.data.toList.drop k, ln, cl⟩

theorem stOf_len (b : ByteArray) (k ln cl : Nat) : (stOf b k ln cl).rest.length = b.size - k := by
  unfold stOf
  rw [List.length_drop, ← Lib.size_eq]

theorem step_st (b : ByteArray) (k ln cl : Nat) : (stOf b k ln cl).step = stOf b (k + (dec (b.data.toList.drop k)).2) (if (dec (b.data.toList.drop k)).1 = 10 then ln + 1 else ln)
    (if (dec (b.data.toList.drop k)).1 = 10 then 1 else if 0 < (dec (b.data.toList.drop k)).2 then cl + 1 else cl) := by
  unfold stOf St.step
  simp only [List.drop_drop]
  split
  · rfl
  · split
    · rfl
    · have h0 : (dec (List.drop k b.data.toList)).2 = 0 := by omega
      rw [h0]
      rfl

/-- The place is small enough that nothing wraps. -/
def Pos (b : ByteArray) (k ln cl : Nat) : Prop := k ≤ b.size ∧ b.size ≤ 65536 ∧ ln + (b.size - k) ≤ 65537 ∧ cl + (b.size - k) ≤ 65537

theorem Pos.step {b : ByteArray} {k ln cl : Nat} (h : Pos b k ln cl) : Pos b (k + (dec (b.data.toList.drop k)).2) (if (dec (b.data.toList.drop k)).1 = 10 then ln + 1 else ln)
    (if (dec (b.data.toList.drop k)).1 = 10 then 1 else if 0 < (dec (b.data.toList.drop k)).2 then cl + 1 else cl) := by
  obtain ⟨h1, h2, h3, h4⟩ := h
  have hl : b.data.toList.length = b.size := (Lib.size_eq b).symm
  have hn := dec_le (b.data.toList.drop k)
  rw [List.length_drop, hl] at hn
  have hp : (dec (b.data.toList.drop k)).1 = 10 → 0 < (dec (b.data.toList.drop k)).2 := by
    intro h
    rcases Nat.eq_zero_or_pos (dec (b.data.toList.drop k)).2 with h0 | h0
    · have : b.data.toList.drop k = [] := by
        by_cases hh : b.data.toList.drop k = []
        · exact hh
        · have := dec_pos hh
          omega
      rw [this, dec_nil] at h
      cases h
    · exact h0
  refine ⟨by omega, h2, ?_, ?_⟩
  · split
    · rename_i h; have := hp h; omega
    · omega
  · split
    · rename_i h; have := hp h; omega
    · split <;> omega

theorem upTo_st (b : ByteArray) (k ln cl k1 l1 e1 : Nat) (h : k ≤ k1) (h1 : k1 ≤ b.size) : upTo (stOf b k ln cl) (stOf b k1 l1 e1) = (b.extract k k1).data.toList := by
  unfold upTo
  rw [stOf_len, stOf_len, Lib.extract_data]
  unfold stOf
  congr 1
  omega

theorem decodeN_high (n b0 b1 b2 b3 : Nat) (h : 128 ≤ b0) : 128 ≤ (Lib.decodeN n b0 b1 b2 b3).1 := by
  unfold Lib.decodeN
  rw [if_neg (by omega)]
  split
  · split
    · rename_i h; exact h
    · decide
  · split
    · split
      · rename_i h; simp only; omega
      · decide
    · split
      · split
        · rename_i h; simp only; omega
        · decide
      · decide

theorem dec_low {l : List UInt8} (h0 : 0 < (dec l).2) (h1 : 0 ≤ (dec l).1) (h2 : (dec l).1 < 128) : ∃ c t, l = c :: t ∧ c.toNat < 128 := by
  match l with
  | [] => simp [dec_nil] at h0
  | c :: t =>
    refine ⟨c, t, rfl, ?_⟩
    rcases Nat.lt_or_ge c.toNat 128 with h | h
    · exact h
    · exfalso
      have hN := decodeN_high (c :: t).length ((c :: t).getD 0 0).toNat ((c :: t).getD 1 0).toNat ((c :: t).getD 2 0).toNat ((c :: t).getD 3 0).toNat h
      rw [← Lib.decodeL_N] at hN
      unfold dec at h1 h2
      rw [if_neg (by simp)] at h1 h2
      split at h1
      · simp at h1
      · rename_i hc
        rw [if_neg hc] at h2
        simp only at h2
        omega

/-- A while over bytes below 128. -/
theorem while_asc {is : Int → Bool} (his : ∀ r, is r = true → r < 128) (s : St) : ∀ c ∈ upTo s (s.while is), c.toNat < 128 := by
  generalize hn : s.rest.length = n
  induction n using Nat.strongRecOn generalizing s with
  | ind n ih =>
    subst hn
    by_cases h : s.goes is = true
    · rw [while_yes h]
      simp only [St.goes, Bool.and_eq_true, decide_eq_true_eq] at h
      obtain ⟨h0, h1, h2⟩ := h
      obtain ⟨c, t, e, hc⟩ := dec_low h0 h1 (his _ h2)
      have hd : dec s.rest = ((c.toNat : Int), 1) := by rw [e, dec_ascii hc]
      have hr : s.step.rest = t := by rw [step_rest, hd, e]; rfl
      have hlt : s.step.rest.length < s.rest.length := by rw [hr, e]; simp
      intro x hx
      have hle := St.le_len (while_le is s.step)
      unfold upTo at hx
      rw [e] at hx
      have e2 : (c :: t).length - (s.step.while is).rest.length = (s.step.rest.length - (s.step.while is).rest.length) + 1 := by
        rw [hr] at hle ⊢
        simp only [List.length_cons]
        omega
      rw [e2, List.take_succ_cons, List.mem_cons] at hx
      rcases hx with rfl | hx
      · exact hc
      · exact ih _ hlt s.step rfl x (by unfold upTo; rw [← hr] at hx; exact hx)
    · rw [while_no (by simpa using h)]
      intro x hx
      simp [upTo] at hx

theorem numS_at {b : ByteArray} {k ln cl k0 l0 e0 k1 l1 e1 : Nat} (hx : Bool) (h : hexP (b.data.toList.drop k) = hx) (h0 : (if hx then (stOf b k ln cl).step.step else stOf b k ln cl) = stOf b k0 l0 e0)
    (hw : (stOf b k0 l0 e0).while (if hx then hexB else digB) = stOf b k1 l1 e1) (hk : k0 ≤ k1) (hk1 : k1 ≤ b.size) :
    numS (stOf b k ln cl) = if k1 = k0 then .error (l1, e1) else match valS (if hx then 16 else 10) 0 (b.extract k0 k1).data.toList with
      | none => .error (ln, cl)
      | some v => if 0 < (dec (b.data.toList.drop k1)).2 ∧ nameB (dec (b.data.toList.drop k1)).1 = true then .error (l1, e1) else .ok (v, stOf b k1 l1 e1) := by
  unfold numS
  have e : hexP (stOf b k ln cl).rest = hx := h
  simp only [e, h0, hw]
  rw [upTo_st b k0 l0 e0 k1 l1 e1 hk hk1]
  have e3 : ((b.extract k0 k1).data.toList = []) ↔ k1 = k0 := by
    rw [Lib.extract_data, ← List.length_eq_zero_iff, List.length_take, List.length_drop, ← Lib.size_eq]
    omega
  by_cases hz : k1 = k0
  · rw [if_pos (e3.2 hz), if_pos hz]
    rfl
  · rw [if_neg (fun h => hz (e3.1 h)), if_neg hz]
    rfl

theorem digB_low (r : Int) (h : digB r = true) : r < 128 := by simp [digB] at h; omega
theorem hexB_low (r : Int) (h : hexB r = true) : r < 128 := by
  simp only [hexB, decide_eq_true_eq] at h
  unfold six at h
  split at h
  · omega
  · split at h
    · omega
    · split at h <;> omega

end Go.Proofs.YtpamnnllijkpfaaDoor.LexP
