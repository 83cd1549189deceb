/- PLAIN: the reference's rune is the scanner's. -/
import Derived.Test.YtpamnnllijkpfaaDoorRefB
import Derived.Lib.DecodeN
namespace Go.Proofs.YtpamnnllijkpfaaDoor.LexP
open Go

theorem moreB_iff {l : List UInt8} {i lo hi : Nat} : moreB l i lo hi = true ↔ i < l.length ∧ lo ≤ (l.getD i 0).toNat ∧ (l.getD i 0).toNat ≤ hi := by simp [moreB]
theorem rloop_step (l : List UInt8) (i n k v lo hi : Nat) (h : k < n) :
    rloop l i n k v lo hi = if i + k < l.length ∧ lo ≤ (l.getD (i + k) 0).toNat ∧ (l.getD (i + k) 0).toNat ≤ hi then rloop l i n (k + 1) (v * 64 + (l.getD (i + k) 0).toNat - 128) 128 191 else (-1, 1) := by
  cases hm : moreB l (i + k) lo hi with
  | true => rw [rloop_go h hm, if_pos (moreB_iff.1 hm)]
  | false => rw [rloop_bad h hm, if_neg (fun h2 => by rw [moreB_iff.2 h2] at hm; cases hm)]

/-- The reference's rune of up to four bytes. -/
def rnN (n b0 b1 b2 b3 : Nat) : Int × Nat :=
  if b0 < 128 then ((b0 : Int), 1)
  else if 194 ≤ b0 ∧ b0 ≤ 223 then if 1 < n ∧ 128 ≤ b1 ∧ b1 ≤ 191 then ((((b0 - 192) * 64 + b1 - 128 : Nat) : Int), 2) else (-1, 1)
  else if 224 ≤ b0 ∧ b0 ≤ 239 then if 1 < n ∧ (if b0 = 224 then 160 else 128) ≤ b1 ∧ b1 ≤ (if b0 = 237 then 159 else 191) then
    if 2 < n ∧ 128 ≤ b2 ∧ b2 ≤ 191 then (((((b0 - 224) * 64 + b1 - 128) * 64 + b2 - 128 : Nat) : Int), 3) else (-1, 1) else (-1, 1)
  else if 240 ≤ b0 ∧ b0 ≤ 244 then if 1 < n ∧ (if b0 = 240 then 144 else 128) ≤ b1 ∧ b1 ≤ (if b0 = 244 then 143 else 191) then
    if 2 < n ∧ 128 ≤ b2 ∧ b2 ≤ 191 then if 3 < n ∧ 128 ≤ b3 ∧ b3 ≤ 191 then ((((((b0 - 240) * 64 + b1 - 128) * 64 + b2 - 128) * 64 + b3 - 128 : Nat) : Int), 4) else (-1, 1) else (-1, 1) else (-1, 1)
  else (-1, 1)

theorem rn0_N (l : List UInt8) (i : Nat) (h : i < l.length) :
    rn0 l i = rnN (l.drop i).length ((l.drop i).getD 0 0).toNat ((l.drop i).getD 1 0).toNat ((l.drop i).getD 2 0).toNat ((l.drop i).getD 3 0).toNat := by
  have hg : ∀ j, (l.drop i).getD j 0 = l.getD (i + j) 0 := fun j => by simp [List.getD, List.getElem?_drop]
  have hn : ∀ j, (i + j < l.length) = (j < (l.drop i).length) := fun j => by rw [List.length_drop]; exact propext ⟨fun _ => by omega, fun _ => by omega⟩
  rw [hg, hg, hg, hg]
  unfold rn0 rnN
  simp only [Nat.add_zero]
  rw [rloop_step l i 2 1 _ _ _ (by omega), rloop_step l i 3 1 _ _ _ (by omega), rloop_step l i 4 1 _ _ _ (by omega)]
  simp only [Nat.reduceAdd]
  rw [rloop_end (n := 2) (k := 2) (by omega), rloop_step l i 3 2 _ _ _ (by omega), rloop_step l i 4 2 _ _ _ (by omega)]
  simp only [Nat.reduceAdd]
  rw [rloop_end (n := 3) (k := 3) (by omega), rloop_step l i 4 3 _ _ _ (by omega)]
  simp only [Nat.reduceAdd]
  rw [rloop_end (n := 4) (k := 4) (by omega)]
  simp only [hn]

theorem fin_ok {d : Nat × Nat} {v k : Nat} (h : d = (v, k)) (hk : v ≠ 65533 ∨ k ≠ 1) : (((v : Nat) : Int), k) = if d = (65533, 1) then (-1, 1) else ((d.1 : Int), d.2) := by
  subst h
  rw [if_neg (by rintro e; injection e with e1 e2; omega)]
theorem fin_bad {d : Nat × Nat} (h : d = (65533, 1)) : ((-1 : Int), 1) = if d = (65533, 1) then (-1, 1) else ((d.1 : Int), d.2) := by rw [if_pos h]

set_option maxHeartbeats 4000000 in
theorem rnN_decode (n b0 b1 b2 b3 : Nat) (h0 : b0 < 256) (h1 : b1 < 256) (h2 : b2 < 256) (h3 : b3 < 256) :
    rnN n b0 b1 b2 b3 = if Lib.decodeN n b0 b1 b2 b3 = (65533, 1) then (-1, 1) else (((Lib.decodeN n b0 b1 b2 b3).1 : Int), (Lib.decodeN n b0 b1 b2 b3).2) := by
  unfold rnN
  by_cases c1 : b0 < 128
  · rw [if_pos c1]
    exact fin_ok (by unfold Lib.decodeN; rw [if_pos c1]) (by omega)
  rw [if_neg c1]
  by_cases c2 : 194 ≤ b0 ∧ b0 ≤ 223
  · rw [if_pos c2]
    by_cases c3 : 1 < n ∧ 128 ≤ b1 ∧ b1 ≤ 191
    · rw [if_pos c3]
      refine fin_ok ?_ (by omega)
      unfold Lib.decodeN
      rw [if_neg c1, if_pos (by omega), if_pos (by omega)]
      exact Prod.ext (by simp only; omega) rfl
    · rw [if_neg c3]
      refine fin_bad ?_
      unfold Lib.decodeN
      rw [if_neg c1, if_neg (by omega), if_neg (by omega), if_neg (by omega)]
  rw [if_neg c2]
  by_cases c3 : 224 ≤ b0 ∧ b0 ≤ 239
  · rw [if_pos c3]
    by_cases c4 : 1 < n ∧ (if b0 = 224 then 160 else 128) ≤ b1 ∧ b1 ≤ (if b0 = 237 then 159 else 191)
    · rw [if_pos c4]
      have c4' : 1 < n ∧ 128 ≤ b1 ∧ b1 ≤ 191 ∧ (b0 = 224 → 160 ≤ b1) ∧ (b0 = 237 → b1 ≤ 159) := by split at c4 <;> split at c4 <;> omega
      clear c4
      by_cases c5 : 2 < n ∧ 128 ≤ b2 ∧ b2 ≤ 191
      · rw [if_pos c5]
        refine fin_ok ?_ (by omega)
        unfold Lib.decodeN
        rw [if_neg c1, if_neg (by omega), if_pos (by omega), if_pos (by omega)]
        exact Prod.ext (by simp only; omega) rfl
      · rw [if_neg c5]
        refine fin_bad ?_
        unfold Lib.decodeN
        rw [if_neg c1, if_neg (by omega), if_neg (by omega), if_neg (by omega)]
    · rw [if_neg c4]
      have c4' : ¬ (1 < n ∧ 128 ≤ b1 ∧ b1 ≤ 191 ∧ (b0 = 224 → 160 ≤ b1) ∧ (b0 = 237 → b1 ≤ 159)) := by
        rintro ⟨e1, e2, e3, e4, e5⟩
        refine c4 ⟨e1, ?_, ?_⟩
        · split <;> omega
        · split <;> omega
      clear c4
      refine fin_bad ?_
      unfold Lib.decodeN
      by_cases c5 : (1 < n ∧ b1 / 64 = 2) ∧ (2 < n ∧ b2 / 64 = 2)
      · rw [if_neg c1, if_neg (by omega), if_pos (by omega), if_neg (by omega)]
      · rw [if_neg c1, if_neg (by omega), if_neg (by omega), if_neg (by omega)]
  rw [if_neg c3]
  by_cases c4 : 240 ≤ b0 ∧ b0 ≤ 244
  · rw [if_pos c4]
    by_cases c5 : 1 < n ∧ (if b0 = 240 then 144 else 128) ≤ b1 ∧ b1 ≤ (if b0 = 244 then 143 else 191)
    · rw [if_pos c5]
      have c5' : 1 < n ∧ 128 ≤ b1 ∧ b1 ≤ 191 ∧ (b0 = 240 → 144 ≤ b1) ∧ (b0 = 244 → b1 ≤ 143) := by split at c5 <;> split at c5 <;> omega
      clear c5
      by_cases c6 : 2 < n ∧ 128 ≤ b2 ∧ b2 ≤ 191
      · rw [if_pos c6]
        by_cases c7 : 3 < n ∧ 128 ≤ b3 ∧ b3 ≤ 191
        · rw [if_pos c7]
          refine fin_ok ?_ (by omega)
          unfold Lib.decodeN
          rw [if_neg c1, if_neg (by omega), if_neg (by omega), if_pos (by omega), if_pos (by omega)]
          exact Prod.ext (by simp only; omega) rfl
        · rw [if_neg c7]
          refine fin_bad ?_
          unfold Lib.decodeN
          rw [if_neg c1, if_neg (by omega), if_neg (by omega), if_neg (by omega)]
      · rw [if_neg c6]
        refine fin_bad ?_
        unfold Lib.decodeN
        rw [if_neg c1, if_neg (by omega), if_neg (by omega), if_neg (by omega)]
    · rw [if_neg c5]
      have c5' : ¬ (1 < n ∧ 128 ≤ b1 ∧ b1 ≤ 191 ∧ (b0 = 240 → 144 ≤ b1) ∧ (b0 = 244 → b1 ≤ 143)) := by
        rintro ⟨e1, e2, e3, e4, e5⟩
        refine c5 ⟨e1, ?_, ?_⟩
        · split <;> omega
        · split <;> omega
      clear c5
      refine fin_bad ?_
      unfold Lib.decodeN
      by_cases c6 : (1 < n ∧ b1 / 64 = 2) ∧ (2 < n ∧ b2 / 64 = 2) ∧ (3 < n ∧ b3 / 64 = 2)
      · rw [if_neg c1, if_neg (by omega), if_neg (by omega), if_pos (by omega), if_neg (by omega)]
      · rw [if_neg c1, if_neg (by omega), if_neg (by omega), if_neg (by omega)]
  rw [if_neg c4]
  refine fin_bad ?_
  unfold Lib.decodeN
  rw [if_neg c1]
  by_cases d1 : b0 / 32 = 6 ∧ (1 < n ∧ b1 / 64 = 2)
  · rw [if_pos d1, if_neg (by omega)]
  rw [if_neg d1, if_neg (by omega)]
  by_cases d2 : b0 / 8 = 30 ∧ (1 < n ∧ b1 / 64 = 2) ∧ (2 < n ∧ b2 / 64 = 2) ∧ (3 < n ∧ b3 / 64 = 2)
  · rw [if_pos d2, if_neg (by omega)]
  rw [if_neg d2]

theorem rn0_dec {l : List UInt8} {i : Nat} (h : i < l.length) : rn0 l i = dec (l.drop i) := by
  rw [rn0_N l i h, rnN_decode _ _ _ _ _ (UInt8.toNat_lt _) (UInt8.toNat_lt _) (UInt8.toNat_lt _) (UInt8.toNat_lt _)]
  have hne : l.drop i ≠ [] := by
    intro h0
    have := congrArg List.length h0
    simp at this
    omega
  unfold dec
  rw [if_neg hne, Lib.decodeL_N]
end Go.Proofs.YtpamnnllijkpfaaDoor.LexP
