/- PLAIN: what a rune depends on. -/
import Derived.Test.YtpamnnllijkpfaaDoorRefQ
namespace Go.Proofs.YtpamnnllijkpfaaDoor.LexP
open Go

theorem decodeN_congr {n n' b0 b1 b2 b3 c1 c2 c3 : Nat} (h1 : (1 < n ∧ b1 / 64 = 2) ↔ (1 < n' ∧ c1 / 64 = 2)) (e1 : (1 < n ∧ b1 / 64 = 2) → b1 = c1)
    (h2 : (1 < n ∧ b1 / 64 = 2) → ((2 < n ∧ b2 / 64 = 2) ↔ (2 < n' ∧ c2 / 64 = 2))) (e2 : (1 < n ∧ b1 / 64 = 2) → (2 < n ∧ b2 / 64 = 2) → b2 = c2)
    (h3 : (1 < n ∧ b1 / 64 = 2) → (2 < n ∧ b2 / 64 = 2) → ((3 < n ∧ b3 / 64 = 2) ↔ (3 < n' ∧ c3 / 64 = 2))) (e3 : (1 < n ∧ b1 / 64 = 2) → (2 < n ∧ b2 / 64 = 2) → (3 < n ∧ b3 / 64 = 2) → b3 = c3) :
    Lib.decodeN n b0 b1 b2 b3 = Lib.decodeN n' b0 c1 c2 c3 := by
  unfold Lib.decodeN
  by_cases k1 : 1 < n ∧ b1 / 64 = 2
  · have k1' := h1.1 k1
    obtain rfl := e1 k1
    by_cases k2 : 2 < n ∧ b2 / 64 = 2
    · have k2' := (h2 k1).1 k2
      obtain rfl := e2 k1 k2
      by_cases k3 : 3 < n ∧ b3 / 64 = 2
      · have k3' := (h3 k1 k2).1 k3
        obtain rfl := e3 k1 k2 k3
        simp only [k1, k1', k2, k2', k3, k3', and_self, and_true]
      · have k3' : ¬ (3 < n' ∧ c3 / 64 = 2) := fun h => k3 ((h3 k1 k2).2 h)
        simp only [k1, k1', k2, k2', k3, k3', and_self, and_true, and_false, if_false]
    · have k2' : ¬ (2 < n' ∧ c2 / 64 = 2) := fun h => k2 ((h2 k1).2 h)
      simp only [k1, k1', k2, k2', and_self, and_true, and_false, false_and, if_false]
  · have k1' : ¬ (1 < n' ∧ c1 / 64 = 2) := fun h => k1 (h1.2 h)
    simp only [k1, k1', and_false, false_and, if_false]

/-- Nothing, or what begins with a byte that belongs to no rune, name, number or sign of what stands ahead. -/
def Sep (x : List UInt8) : Prop := x = [] ∨ ∃ h t, x = h :: t ∧ (h = 10 ∨ h = 32 ∨ h = 47)
theorem Sep.low {x : List UInt8} (h : Sep x) : (x.getD 0 0).toNat < 128 := by
  rcases h with rfl | ⟨a, t, rfl, rfl | rfl | rfl⟩ <;> exact of_decide_eq_true rfl

theorem getD_left (p x : List UInt8) (j : Nat) (h : j < p.length) : (p ++ x).getD j 0 = p.getD j 0 := by
  simp [List.getD, List.getElem?_append_left h]
theorem getD_at (p x : List UInt8) : (p ++ x).getD p.length 0 = x.getD 0 0 := by
  simp [List.getD, List.getElem?_append_right]
theorem getD_none (p : List UInt8) (j : Nat) (h : p.length ≤ j) : p.getD j 0 = 0 := by
  simp [List.getD, List.getElem?_eq_none h]

theorem decodeL_sep {p x : List UInt8} (hp : p ≠ []) (hx : Sep x) : Lib.decodeL (p ++ x) = Lib.decodeL p := by
  rw [Lib.decodeL_N, Lib.decodeL_N]
  have hlo := hx.low
  have hpos : 0 < p.length := List.length_pos_iff.2 hp
  have g0 := getD_left p x 0 hpos
  rw [g0]
  have hat := getD_at p x
  have hn := getD_none p
  have hl := getD_left p x
  have hlen : (p ++ x).length = p.length + x.length := List.length_append
  have cont : ∀ j, j < p.length → ((j < (p ++ x).length ∧ ((p ++ x).getD j 0).toNat / 64 = 2) ↔ (j < p.length ∧ (p.getD j 0).toNat / 64 = 2)) := by
    intro j hj
    rw [hl j hj]
    constructor
    · rintro ⟨_, h⟩; exact ⟨hj, h⟩
    · rintro ⟨_, h⟩; exact ⟨by omega, h⟩
  have stop : ¬ (p.length < (p ++ x).length ∧ ((p ++ x).getD p.length 0).toNat / 64 = 2) := by
    rw [hat]
    rintro ⟨_, h⟩
    omega
  rcases Nat.lt_or_ge 1 p.length with h1 | h1
  · rcases Nat.lt_or_ge 2 p.length with h2 | h2
    · rcases Nat.lt_or_ge 3 p.length with h3 | h3
      · exact decodeN_congr (cont 1 h1) (fun _ => by rw [hl 1 h1]) (fun _ => cont 2 h2) (fun _ _ => by rw [hl 2 h2]) (fun _ _ => cont 3 h3) (fun _ _ _ => by rw [hl 3 h3])
      · have e : p.length = 3 := by omega
        rw [e] at stop
        exact decodeN_congr (cont 1 h1) (fun _ => by rw [hl 1 h1]) (fun _ => cont 2 h2) (fun _ _ => by rw [hl 2 h2]) (fun _ _ => ⟨fun h => absurd h stop, fun h => by omega⟩) (fun _ _ h => absurd h stop)
    · have e : p.length = 2 := by omega
      rw [e] at stop
      exact decodeN_congr (cont 1 h1) (fun _ => by rw [hl 1 h1]) (fun _ => ⟨fun h => absurd h stop, fun h => by omega⟩) (fun _ h => absurd h stop) (fun _ h => absurd h stop) (fun _ h => absurd h stop)
  · have e : p.length = 1 := by omega
    rw [e] at stop
    exact decodeN_congr ⟨fun h => absurd h stop, fun h => by omega⟩ (fun h => absurd h stop) (fun h => absurd h stop) (fun h => absurd h stop) (fun h => absurd h stop) (fun h => absurd h stop)

/-- A rune ahead of a byte below 128 is the same without it. -/
theorem dec_sep {p x : List UInt8} (hp : p ≠ []) (hx : Sep x) : dec (p ++ x) = dec p := by
  unfold dec
  rw [if_neg (by simp [hp]), if_neg hp, decodeL_sep hp hx]

theorem decodeN_valid {n b0 b1 b2 b3 : Nat} (h : Lib.decodeN n b0 b1 b2 b3 ≠ (65533, 1)) :
    ((Lib.decodeN n b0 b1 b2 b3).2 = 1 ∧ b0 < 128) ∨ ((Lib.decodeN n b0 b1 b2 b3).2 = 2 ∧ b0 / 32 = 6 ∧ (1 < n ∧ b1 / 64 = 2)) ∨
    ((Lib.decodeN n b0 b1 b2 b3).2 = 3 ∧ b0 / 16 = 14 ∧ (1 < n ∧ b1 / 64 = 2) ∧ (2 < n ∧ b2 / 64 = 2)) ∨ ((Lib.decodeN n b0 b1 b2 b3).2 = 4 ∧ b0 / 8 = 30 ∧ (1 < n ∧ b1 / 64 = 2) ∧ (2 < n ∧ b2 / 64 = 2) ∧ (3 < n ∧ b3 / 64 = 2)) := by
  unfold Lib.decodeN at h ⊢
  split
  · rename_i h0; exact .inl ⟨rfl, h0⟩
  · rename_i h0
    rw [if_neg h0] at h
    split
    · rename_i h1
      rw [if_pos h1] at h
      split
      · exact .inr (.inl ⟨rfl, h1⟩)
      · rename_i h2; rw [if_neg h2] at h; exact absurd rfl h
    · rename_i h1
      rw [if_neg h1] at h
      split
      · rename_i h2
        rw [if_pos h2] at h
        split
        · exact .inr (.inr (.inl ⟨rfl, h2⟩))
        · rename_i h3; rw [if_neg h3] at h; exact absurd rfl h
      · rename_i h2
        rw [if_neg h2] at h
        split
        · rename_i h3
          rw [if_pos h3] at h
          split
          · exact .inr (.inr (.inr ⟨rfl, h3⟩))
          · rename_i h4; rw [if_neg h4] at h; exact absurd rfl h
        · rename_i h3; rw [if_neg h3] at h; exact absurd rfl h
theorem decodeN_w2 {n b0 b1 b2 b3 : Nat} (h0 : b0 / 32 = 6) (h1 : 1 < n ∧ b1 / 64 = 2) : Lib.decodeN n b0 b1 b2 b3 = if b0 % 32 * 64 + b1 % 64 ≥ 128 then (b0 % 32 * 64 + b1 % 64, 2) else (65533, 1) := by
  unfold Lib.decodeN
  rw [if_neg (by omega), if_pos ⟨h0, h1⟩]
theorem decodeN_w3 {n b0 b1 b2 b3 : Nat} (h0 : b0 / 16 = 14) (h1 : 1 < n ∧ b1 / 64 = 2) (h2 : 2 < n ∧ b2 / 64 = 2) : Lib.decodeN n b0 b1 b2 b3 = Lib.decodeN 3 b0 b1 b2 0 := by
  unfold Lib.decodeN
  have k1 : (1 < 3 ∧ b1 / 64 = 2) := ⟨by omega, h1.2⟩
  have k2 : (2 < 3 ∧ b2 / 64 = 2) := ⟨by omega, h2.2⟩
  have k3 : ¬ (b0 / 32 = 6) := by omega
  have k4 : ¬ (b0 / 8 = 30) := by omega
  simp only [h0, h1, h2, k1, k2, k3, k4, and_self, true_and, false_and, if_true, if_false]
theorem decodeN_w4 {n b0 b1 b2 b3 : Nat} (h0 : b0 / 8 = 30) (h1 : 1 < n ∧ b1 / 64 = 2) (h2 : 2 < n ∧ b2 / 64 = 2) (h3 : 3 < n ∧ b3 / 64 = 2) : Lib.decodeN n b0 b1 b2 b3 = Lib.decodeN 4 b0 b1 b2 b3 := by
  unfold Lib.decodeN
  have k1 : (1 < 4 ∧ b1 / 64 = 2) := ⟨by omega, h1.2⟩
  have k2 : (2 < 4 ∧ b2 / 64 = 2) := ⟨by omega, h2.2⟩
  have k5 : (3 < 4 ∧ b3 / 64 = 2) := ⟨by omega, h3.2⟩
  have k3 : ¬ (b0 / 32 = 6) := by omega
  have k4 : ¬ (b0 / 16 = 14) := by omega
  simp only [h0, h1, h2, h3, k1, k2, k3, k4, k5, and_self, true_and, false_and, if_true, if_false]
theorem decodeN_same {n n' b0 b1 b2 b3 c1 c2 c3 : Nat} (hv : Lib.decodeN n b0 b1 b2 b3 ≠ (65533, 1)) (hn : (Lib.decodeN n b0 b1 b2 b3).2 ≤ n')
    (e1 : 1 < (Lib.decodeN n b0 b1 b2 b3).2 → b1 = c1) (e2 : 2 < (Lib.decodeN n b0 b1 b2 b3).2 → b2 = c2) (e3 : 3 < (Lib.decodeN n b0 b1 b2 b3).2 → b3 = c3) :
    Lib.decodeN n' b0 c1 c2 c3 = Lib.decodeN n b0 b1 b2 b3 := by
  rcases decodeN_valid hv with ⟨hw, h0⟩ | ⟨hw, h0, h1⟩ | ⟨hw, h0, h1, h2⟩ | ⟨hw, h0, h1, h2, h3⟩
  · unfold Lib.decodeN
    rw [if_pos h0, if_pos h0]
  · have := e1 (by omega)
    subst this
    rw [decodeN_w2 h0 h1, decodeN_w2 h0 ⟨by omega, h1.2⟩]
  · have q1 := e1 (by omega)
    have q2 := e2 (by omega)
    subst q1 q2
    rw [decodeN_w3 h0 h1 h2, decodeN_w3 h0 ⟨by omega, h1.2⟩ ⟨by omega, h2.2⟩]
  · have q1 := e1 (by omega)
    have q2 := e2 (by omega)
    have q3 := e3 (by omega)
    subst q1 q2 q3
    rw [decodeN_w4 h0 h1 h2 h3, decodeN_w4 h0 ⟨by omega, h1.2⟩ ⟨by omega, h2.2⟩ ⟨by omega, h3.2⟩]
/-- A rune that is one, whole within p, is the same whatever stands behind. -/
theorem dec_within {p u x : List UInt8} (hr : 0 ≤ (dec (p ++ u)).1) (hd : (dec (p ++ u)).2 ≤ p.length) (hd0 : 0 < (dec (p ++ u)).2) : dec (p ++ x) = dec (p ++ u) := by
  have hne : p ≠ [] := by
    rintro rfl
    rw [List.length_nil] at hd
    omega
  have hne1 : p ++ u ≠ [] := by simp [hne]
  have hne2 : p ++ x ≠ [] := by simp [hne]
  have hpos : 0 < p.length := List.length_pos_iff.2 hne
  unfold dec at hr hd ⊢
  rw [if_neg hne1] at hr hd ⊢
  rw [if_neg hne2]
  by_cases hv : Lib.decodeL (p ++ u) = (65533, 1)
  · rw [if_pos hv] at hr
    simp at hr
  · rw [if_neg hv] at hd
    have e : Lib.decodeL (p ++ x) = Lib.decodeL (p ++ u) := by
      rw [Lib.decodeL_N] at hv hd ⊢
      rw [Lib.decodeL_N (p ++ u)]
      have h0 : ((p ++ x).getD 0 0) = ((p ++ u).getD 0 0) := by rw [getD_left _ _ _ hpos, getD_left _ _ _ hpos]
      rw [h0]
      have hj : ∀ j, j < p.length → ((p ++ u).getD j 0).toNat = ((p ++ x).getD j 0).toNat := fun j h => by rw [getD_left _ _ _ h, getD_left _ _ _ h]
      exact decodeN_same hv (by have : (p ++ x).length = p.length + x.length := List.length_append; omega) (fun h => hj 1 (by omega)) (fun h => hj 2 (by omega)) (fun h => hj 3 (by omega))
    rw [e]
end Go.Proofs.YtpamnnllijkpfaaDoor.LexP
