/- WALKS: the reference of chapter 5: more, rune0. -/
import Derived.Test.YtpamnnllijkpfaaDoorRefA
import Derived.Test.YtpamnnllijkpfaaDoorLexP
namespace Go.Proofs.YtpamnnllijkpfaaDoor.LexP
open Go
/-- Byte i is there, and within these. -/
def moreB (l : List UInt8) (i lo hi : Nat) : Bool := decide (i < l.length ∧ lo ≤ (l.getD i 0).toNat ∧ (l.getD i 0).toNat ≤ hi)
/-- The bytes behind the first. -/
def rloop (l : List UInt8) (i n k v lo hi : Nat) : Int × Nat :=
  if _h : k < n then if moreB l (i + k) lo hi then rloop l i n (k + 1) (v * 64 + (l.getD (i + k) 0).toNat - 128) 128 191 else (-1, 1) else ((v : Int), n)
termination_by n - k
theorem rloop_bad {l : List UInt8} {i n k v lo hi : Nat} (h : k < n) (hm : moreB l (i + k) lo hi = false) : rloop l i n k v lo hi = (-1, 1) := by
  rw [rloop, dif_pos h, if_neg (by simp [hm])]
theorem rloop_go {l : List UInt8} {i n k v lo hi : Nat} (h : k < n) (hm : moreB l (i + k) lo hi = true) : rloop l i n k v lo hi = rloop l i n (k + 1) (v * 64 + (l.getD (i + k) 0).toNat - 128) 128 191 := by
  rw [rloop, dif_pos h, if_pos hm]
theorem rloop_end {l : List UInt8} {i n k v lo hi : Nat} (h : n ≤ k) : rloop l i n k v lo hi = ((v : Int), n) := by
  rw [rloop, dif_neg (by omega)]
/-- The rune that begins at byte i. -/
def rn0 (l : List UInt8) (i : Nat) : Int × Nat :=
  let c := (l.getD i 0).toNat
  if c < 128 then ((c : Int), 1)
  else if 194 ≤ c ∧ c ≤ 223 then rloop l i 2 1 (c - 192) 128 191
  else if 224 ≤ c ∧ c ≤ 239 then rloop l i 3 1 (c - 224) (if c = 224 then 160 else 128) (if c = 237 then 159 else 191)
  else if 240 ≤ c ∧ c ≤ 244 then rloop l i 4 1 (c - 240) (if c = 240 then 144 else 128) (if c = 244 then 143 else 191)
  else (-1, 1)
end Go.Proofs.YtpamnnllijkpfaaDoor.LexP
namespace Go.Proofs.YtpamnnllijkpfaaDoor.LexW
open Go Go.RowKit Go.Proofs.YtpamnnllijkpfaaDoor.Kit Go.Proofs.YtpamnnllijkpfaaDoor.LexP

theorem more_any (A : Option Addr) (n c : Nat) (l : List UInt8) (i lo hi : Nat) (w : World) (hl : Bytes w A n l) :
    Calls Tryd.prog 50 #[.slice A n c, .int .i64 i, .int .u8 lo, .int .u8 hi] w fun e w' => e = .returned (.bool (moreB l i lo hi)) ∧ w' = w := by
  obtain ⟨rfl, hc⟩ := hl
  by_cases hi1 : i < l.length
  · obtain ⟨ad, rfl, hlt, hb⟩ := hc i hi1
    have hg : (l.getD i 0).toNat = l[i].toNat := by simp [hi1]
    have HG := Lib.hid hg
    generalize l[i].toNat = x at *
    clear hg hc
    have h1 : (i : Int) < (l.length : Int) := by omega
    have h2 : (0 : Int) ≤ (i : Int) := by omega
    go_enter Tryd.func50, Tryd.ntmps50
    go_wp2
    all_goals go_ret
    all_goals refine ⟨ret_bool ?_, rfl⟩
    all_goals unfold moreB
    all_goals rw [HG.out, Bool.eq_iff_iff]
    all_goals simp
    all_goals omega
  · have h1 : (l.length : Int) ≤ (i : Int) := by omega
    go_enter Tryd.func50, Tryd.ntmps50
    go_wp2
    all_goals go_ret
    all_goals refine ⟨ret_bool ?_, rfl⟩
    all_goals unfold moreB
    all_goals rw [Bool.eq_iff_iff]
    all_goals simp
    all_goals omega


def ZRel (l : List UInt8) (i n : Nat) (want : Int × Nat) (w : World) (m : Nat) (slo shi sv sk : Value) (wr : World) : Prop :=
  ∃ k v lo hi : Nat, slo = .int .u8 lo ∧ shi = .int .u8 hi ∧ sv = .int .i64 v ∧ sk = .int .i64 k ∧ wr = w ∧ m = n - k ∧ rloop l i n k v lo hi = want ∧ 1 ≤ k ∧ k ≤ n ∧ 128 ≤ lo ∧ lo ≤ 255 ∧ hi ≤ 191 ∧
    (k = 1 → v < 64) ∧ (k = 2 → v < 4096) ∧ (k = 3 → v < 262144)


set_option maxHeartbeats 1000000 in
set_option maxRecDepth 10000 in
theorem rune0_any (A : Option Addr) (n c : Nat) (l : List UInt8) (i : Nat) (w : World) (hl : Bytes w A n l) (hi1 : i < l.length) (hlen : l.length ≤ 140737488355328) :
    Calls Tryd.prog 35 #[.slice A n c, .int .i64 i] w fun e w' => e = .returned (.tuple #[.int .i64 (rn0 l i).1, .int .i64 (rn0 l i).2]) ∧ w' = w := by
  have HM := Lib.hid fun (i lo hi : Nat) (w2 : World) (h : w2 = w) => h ▸ more_any A n c l i lo hi w hl
  have HL := Lib.hid hl
  obtain ⟨rfl, hc⟩ := hl
  obtain ⟨ad, rfl, hlt, hb⟩ := hc i hi1
  have hg : (l.getD i 0).toNat = l[i].toNat := by simp [hi1]
  have hx256 : l[i].toNat < 256 := UInt8.toNat_lt _
  have HG := Lib.hid hg
  generalize l[i].toNat = x at *
  clear hg hc
  have h1 : (i : Int) < (l.length : Int) := by omega
  have h2 : (0 : Int) ≤ (i : Int) := by omega
  by_cases c1 : x < 128
  · have a1 : (x : Int) < 128 := by omega
    have HR := Lib.hid (show rn0 l i = ((x : Int), 1) by unfold rn0; rw [HG.out]; simp only [if_pos c1])
    go_enter Tryd.func35, Tryd.ntmps35
    go_wp2_with fail
    go_ret2
    rw [HR.out]
    exact ⟨rfl, rfl⟩
  by_cases c2 : x < 194
  · have a1 : ¬ ((x : Int) < 128) := by omega
    have a2 : ¬ ((194 : Int) ≤ x) := by omega
    have a3 : ¬ ((224 : Int) ≤ x) := by omega
    have a4 : ¬ ((240 : Int) ≤ x) := by omega
    have HR := Lib.hid (show rn0 l i = (-1, 1) by unfold rn0; rw [HG.out]; simp only; (repeat' split) <;> first | rfl | (exfalso; omega))
    go_enter Tryd.func35, Tryd.ntmps35
    go_wp2_with fail
    go_ret2
    rw [HR.out]
    exact ⟨rfl, rfl⟩
  by_cases c3 : 244 < x
  · have a1 : ¬ ((x : Int) < 128) := by omega
    have a2 : ((194 : Int) ≤ x) := by omega
    have a3 : ¬ ((x : Int) ≤ 223) := by omega
    have a4 : ((224 : Int) ≤ x) := by omega
    have a5 : ¬ ((x : Int) ≤ 239) := by omega
    have a6 : ((240 : Int) ≤ x) := by omega
    have a7 : ¬ ((x : Int) ≤ 244) := by omega
    have HR := Lib.hid (show rn0 l i = (-1, 1) by unfold rn0; rw [HG.out]; simp only; (repeat' split) <;> first | rfl | (exfalso; omega))
    go_enter Tryd.func35, Tryd.ntmps35
    go_wp2_with fail
    go_ret2
    rw [HR.out]
    exact ⟨rfl, rfl⟩
  by_cases c4 : x ≤ 223
  · have a1 : ¬ ((x : Int) < 128) := by omega
    have a2 : ((194 : Int) ≤ x) := by omega
    have a3 : ((x : Int) ≤ 223) := by omega
    go_enter Tryd.func35, Tryd.ntmps35
    go_wp2_with fail
    go_loopg [7, 8, 10, 11] (2 - 1) (fun m slo shi sv sk wr => ZRel l i 2 (rn0 l i) w m slo shi sv sk wr)
    case atStart =>
      refine ⟨1, x - 192, 128, 191, rfl, rfl, congrArg (Value.int .i64) (by omega), rfl, rfl, rfl, ?_, by omega, by omega, by omega, by omega, by omega, by omega, by omega, by omega⟩
      unfold rn0
      rw [HG.out]
      try dsimp only
      (repeat' split) <;> first | rfl | (exfalso; omega) | trace_state
    case round =>
      obtain ⟨k, v, lo, hi, rfl, rfl, rfl, rfl, rfl, hm, hw, hk1, hkn, hlo1, hlo, hhi, hv1, hv2, hv3⟩ := hrel
      by_cases hk : k < 2
      · have hmo := HM.out (i + k) lo hi _ rfl
        rw [Int.natCast_add] at hmo
        cases hB : moreB l (i + k) lo hi with
        | false =>
          rw [hB] at hmo
          have HW := Lib.hid ((rloop_bad hk hB).symm.trans hw)
          have HMo := Lib.hid hmo
          clear hw hmo
          go_wp2_with (go_at_call 50; refine HMo.out.mono ?_; rintro e w' ⟨rfl, rfl⟩)
          go_ret2
          rw [← HW.out]
          exact ⟨rfl, rfl⟩
        | true =>
          rw [hB] at hmo
          have HW := Lib.hid ((rloop_go hk hB).symm.trans hw)
          have HMo := Lib.hid hmo
          clear hw hmo
          have hin : i + k < l.length ∧ lo ≤ (l.getD (i + k) 0).toNat ∧ (l.getD (i + k) 0).toNat ≤ hi := by simpa [moreB] using hB
          obtain ⟨hik, hy1, hy2⟩ := hin
          obtain ⟨ad', he, _, hcell⟩ := HL.out.2 (i + k) hik
          injection he with he
          subst he
          have hgy : (l.getD (i + k) 0).toNat = l[i + k].toNat := by simp [hik]
          rw [hgy] at hy1 hy2 HW
          have hy256 : l[i + k].toNat < 256 := UInt8.toNat_lt _
          generalize l[i + k].toNat = y at *
          clear hgy hB
          go_wp2_with (go_at_call 50; refine HMo.out.mono ?_; rintro e w' ⟨rfl, rfl⟩)
          go_roundg (2 - (k + 1))
          case measure => omega
          case rel => exact ⟨k + 1, v * 64 + y - 128, 128, 191, rfl, rfl, congrArg (Value.int .i64) (by omega), rfl, rfl, rfl, HW.out, by omega, by omega, by omega, by omega, by omega, by omega, by omega, by omega⟩
      · have HW := Lib.hid ((rloop_end (by omega : 2 ≤ k)).symm.trans hw)
        clear hw
        have hkk : k = 2 := by omega
        subst hkk
        go_wp2_with fail
        go_ret2
        rw [← HW.out]
        exact ⟨rfl, rfl⟩
  by_cases c5 : x = 224
  · subst c5
    go_enter Tryd.func35, Tryd.ntmps35
    go_wp2_with fail
    go_loopg [7, 8, 10, 11] (3 - 1) (fun m slo shi sv sk wr => ZRel l i 3 (rn0 l i) w m slo shi sv sk wr)
    case atStart =>
      refine ⟨1, 224 - 224, 160, 191, rfl, rfl, congrArg (Value.int .i64) (by omega), rfl, rfl, rfl, ?_, by omega, by omega, by omega, by omega, by omega, by omega, by omega, by omega⟩
      unfold rn0
      rw [HG.out]
      try dsimp only
      (repeat' split) <;> first | rfl | (exfalso; omega) | trace_state
    case round =>
      obtain ⟨k, v, lo, hi, rfl, rfl, rfl, rfl, rfl, hm, hw, hk1, hkn, hlo1, hlo, hhi, hv1, hv2, hv3⟩ := hrel
      by_cases hk : k < 3
      · have hmo := HM.out (i + k) lo hi _ rfl
        rw [Int.natCast_add] at hmo
        cases hB : moreB l (i + k) lo hi with
        | false =>
          rw [hB] at hmo
          have HW := Lib.hid ((rloop_bad hk hB).symm.trans hw)
          have HMo := Lib.hid hmo
          clear hw hmo
          go_wp2_with (go_at_call 50; refine HMo.out.mono ?_; rintro e w' ⟨rfl, rfl⟩)
          go_ret2
          rw [← HW.out]
          exact ⟨rfl, rfl⟩
        | true =>
          rw [hB] at hmo
          have HW := Lib.hid ((rloop_go hk hB).symm.trans hw)
          have HMo := Lib.hid hmo
          clear hw hmo
          have hin : i + k < l.length ∧ lo ≤ (l.getD (i + k) 0).toNat ∧ (l.getD (i + k) 0).toNat ≤ hi := by simpa [moreB] using hB
          obtain ⟨hik, hy1, hy2⟩ := hin
          obtain ⟨ad', he, _, hcell⟩ := HL.out.2 (i + k) hik
          injection he with he
          subst he
          have hgy : (l.getD (i + k) 0).toNat = l[i + k].toNat := by simp [hik]
          rw [hgy] at hy1 hy2 HW
          have hy256 : l[i + k].toNat < 256 := UInt8.toNat_lt _
          generalize l[i + k].toNat = y at *
          clear hgy hB
          go_wp2_with (go_at_call 50; refine HMo.out.mono ?_; rintro e w' ⟨rfl, rfl⟩)
          go_roundg (3 - (k + 1))
          case measure => omega
          case rel => exact ⟨k + 1, v * 64 + y - 128, 128, 191, rfl, rfl, congrArg (Value.int .i64) (by omega), rfl, rfl, rfl, HW.out, by omega, by omega, by omega, by omega, by omega, by omega, by omega, by omega⟩
      · have HW := Lib.hid ((rloop_end (by omega : 3 ≤ k)).symm.trans hw)
        clear hw
        have hkk : k = 3 := by omega
        subst hkk
        go_wp2_with fail
        go_ret2
        rw [← HW.out]
        exact ⟨rfl, rfl⟩
  by_cases c6 : x = 237
  · subst c6
    go_enter Tryd.func35, Tryd.ntmps35
    go_wp2_with fail
    go_loopg [7, 8, 10, 11] (3 - 1) (fun m slo shi sv sk wr => ZRel l i 3 (rn0 l i) w m slo shi sv sk wr)
    case atStart =>
      refine ⟨1, 237 - 224, 128, 159, rfl, rfl, congrArg (Value.int .i64) (by omega), rfl, rfl, rfl, ?_, by omega, by omega, by omega, by omega, by omega, by omega, by omega, by omega⟩
      unfold rn0
      rw [HG.out]
      try dsimp only
      (repeat' split) <;> first | rfl | (exfalso; omega) | trace_state
    case round =>
      obtain ⟨k, v, lo, hi, rfl, rfl, rfl, rfl, rfl, hm, hw, hk1, hkn, hlo1, hlo, hhi, hv1, hv2, hv3⟩ := hrel
      by_cases hk : k < 3
      · have hmo := HM.out (i + k) lo hi _ rfl
        rw [Int.natCast_add] at hmo
        cases hB : moreB l (i + k) lo hi with
        | false =>
          rw [hB] at hmo
          have HW := Lib.hid ((rloop_bad hk hB).symm.trans hw)
          have HMo := Lib.hid hmo
          clear hw hmo
          go_wp2_with (go_at_call 50; refine HMo.out.mono ?_; rintro e w' ⟨rfl, rfl⟩)
          go_ret2
          rw [← HW.out]
          exact ⟨rfl, rfl⟩
        | true =>
          rw [hB] at hmo
          have HW := Lib.hid ((rloop_go hk hB).symm.trans hw)
          have HMo := Lib.hid hmo
          clear hw hmo
          have hin : i + k < l.length ∧ lo ≤ (l.getD (i + k) 0).toNat ∧ (l.getD (i + k) 0).toNat ≤ hi := by simpa [moreB] using hB
          obtain ⟨hik, hy1, hy2⟩ := hin
          obtain ⟨ad', he, _, hcell⟩ := HL.out.2 (i + k) hik
          injection he with he
          subst he
          have hgy : (l.getD (i + k) 0).toNat = l[i + k].toNat := by simp [hik]
          rw [hgy] at hy1 hy2 HW
          have hy256 : l[i + k].toNat < 256 := UInt8.toNat_lt _
          generalize l[i + k].toNat = y at *
          clear hgy hB
          go_wp2_with (go_at_call 50; refine HMo.out.mono ?_; rintro e w' ⟨rfl, rfl⟩)
          go_roundg (3 - (k + 1))
          case measure => omega
          case rel => exact ⟨k + 1, v * 64 + y - 128, 128, 191, rfl, rfl, congrArg (Value.int .i64) (by omega), rfl, rfl, rfl, HW.out, by omega, by omega, by omega, by omega, by omega, by omega, by omega, by omega⟩
      · have HW := Lib.hid ((rloop_end (by omega : 3 ≤ k)).symm.trans hw)
        clear hw
        have hkk : k = 3 := by omega
        subst hkk
        go_wp2_with fail
        go_ret2
        rw [← HW.out]
        exact ⟨rfl, rfl⟩
  by_cases c7 : x = 240
  · subst c7
    go_enter Tryd.func35, Tryd.ntmps35
    go_wp2_with fail
    go_loopg [7, 8, 10, 11] (4 - 1) (fun m slo shi sv sk wr => ZRel l i 4 (rn0 l i) w m slo shi sv sk wr)
    case atStart =>
      refine ⟨1, 240 - 240, 144, 191, rfl, rfl, congrArg (Value.int .i64) (by omega), rfl, rfl, rfl, ?_, by omega, by omega, by omega, by omega, by omega, by omega, by omega, by omega⟩
      unfold rn0
      rw [HG.out]
      try dsimp only
      (repeat' split) <;> first | rfl | (exfalso; omega) | trace_state
    case round =>
      obtain ⟨k, v, lo, hi, rfl, rfl, rfl, rfl, rfl, hm, hw, hk1, hkn, hlo1, hlo, hhi, hv1, hv2, hv3⟩ := hrel
      by_cases hk : k < 4
      · have hmo := HM.out (i + k) lo hi _ rfl
        rw [Int.natCast_add] at hmo
        cases hB : moreB l (i + k) lo hi with
        | false =>
          rw [hB] at hmo
          have HW := Lib.hid ((rloop_bad hk hB).symm.trans hw)
          have HMo := Lib.hid hmo
          clear hw hmo
          go_wp2_with (go_at_call 50; refine HMo.out.mono ?_; rintro e w' ⟨rfl, rfl⟩)
          go_ret2
          rw [← HW.out]
          exact ⟨rfl, rfl⟩
        | true =>
          rw [hB] at hmo
          have HW := Lib.hid ((rloop_go hk hB).symm.trans hw)
          have HMo := Lib.hid hmo
          clear hw hmo
          have hin : i + k < l.length ∧ lo ≤ (l.getD (i + k) 0).toNat ∧ (l.getD (i + k) 0).toNat ≤ hi := by simpa [moreB] using hB
          obtain ⟨hik, hy1, hy2⟩ := hin
          obtain ⟨ad', he, _, hcell⟩ := HL.out.2 (i + k) hik
          injection he with he
          subst he
          have hgy : (l.getD (i + k) 0).toNat = l[i + k].toNat := by simp [hik]
          rw [hgy] at hy1 hy2 HW
          have hy256 : l[i + k].toNat < 256 := UInt8.toNat_lt _
          generalize l[i + k].toNat = y at *
          clear hgy hB
          go_wp2_with (go_at_call 50; refine HMo.out.mono ?_; rintro e w' ⟨rfl, rfl⟩)
          go_roundg (4 - (k + 1))
          case measure => omega
          case rel => exact ⟨k + 1, v * 64 + y - 128, 128, 191, rfl, rfl, congrArg (Value.int .i64) (by omega), rfl, rfl, rfl, HW.out, by omega, by omega, by omega, by omega, by omega, by omega, by omega, by omega⟩
      · have HW := Lib.hid ((rloop_end (by omega : 4 ≤ k)).symm.trans hw)
        clear hw
        have hkk : k = 4 := by omega
        subst hkk
        go_wp2_with fail
        go_ret2
        rw [← HW.out]
        exact ⟨rfl, rfl⟩
  by_cases c8 : x = 244
  · subst c8
    go_enter Tryd.func35, Tryd.ntmps35
    go_wp2_with fail
    go_loopg [7, 8, 10, 11] (4 - 1) (fun m slo shi sv sk wr => ZRel l i 4 (rn0 l i) w m slo shi sv sk wr)
    case atStart =>
      refine ⟨1, 244 - 240, 128, 143, rfl, rfl, congrArg (Value.int .i64) (by omega), rfl, rfl, rfl, ?_, by omega, by omega, by omega, by omega, by omega, by omega, by omega, by omega⟩
      unfold rn0
      rw [HG.out]
      try dsimp only
      (repeat' split) <;> first | rfl | (exfalso; omega) | trace_state
    case round =>
      obtain ⟨k, v, lo, hi, rfl, rfl, rfl, rfl, rfl, hm, hw, hk1, hkn, hlo1, hlo, hhi, hv1, hv2, hv3⟩ := hrel
      by_cases hk : k < 4
      · have hmo := HM.out (i + k) lo hi _ rfl
        rw [Int.natCast_add] at hmo
        cases hB : moreB l (i + k) lo hi with
        | false =>
          rw [hB] at hmo
          have HW := Lib.hid ((rloop_bad hk hB).symm.trans hw)
          have HMo := Lib.hid hmo
          clear hw hmo
          go_wp2_with (go_at_call 50; refine HMo.out.mono ?_; rintro e w' ⟨rfl, rfl⟩)
          go_ret2
          rw [← HW.out]
          exact ⟨rfl, rfl⟩
        | true =>
          rw [hB] at hmo
          have HW := Lib.hid ((rloop_go hk hB).symm.trans hw)
          have HMo := Lib.hid hmo
          clear hw hmo
          have hin : i + k < l.length ∧ lo ≤ (l.getD (i + k) 0).toNat ∧ (l.getD (i + k) 0).toNat ≤ hi := by simpa [moreB] using hB
          obtain ⟨hik, hy1, hy2⟩ := hin
          obtain ⟨ad', he, _, hcell⟩ := HL.out.2 (i + k) hik
          injection he with he
          subst he
          have hgy : (l.getD (i + k) 0).toNat = l[i + k].toNat := by simp [hik]
          rw [hgy] at hy1 hy2 HW
          have hy256 : l[i + k].toNat < 256 := UInt8.toNat_lt _
          generalize l[i + k].toNat = y at *
          clear hgy hB
          go_wp2_with (go_at_call 50; refine HMo.out.mono ?_; rintro e w' ⟨rfl, rfl⟩)
          go_roundg (4 - (k + 1))
          case measure => omega
          case rel => exact ⟨k + 1, v * 64 + y - 128, 128, 191, rfl, rfl, congrArg (Value.int .i64) (by omega), rfl, rfl, rfl, HW.out, by omega, by omega, by omega, by omega, by omega, by omega, by omega, by omega⟩
      · have HW := Lib.hid ((rloop_end (by omega : 4 ≤ k)).symm.trans hw)
        clear hw
        have hkk : k = 4 := by omega
        subst hkk
        go_wp2_with fail
        go_ret2
        rw [← HW.out]
        exact ⟨rfl, rfl⟩
  have a1 : ¬ ((x : Int) < 128) := by omega
  have a2 : ((194 : Int) ≤ x) := by omega
  have a3 : ¬ ((x : Int) ≤ 223) := by omega
  have a4 : ((224 : Int) ≤ x) := by omega
  by_cases c9 : x ≤ 239
  · have a5 : ((x : Int) ≤ 239) := by omega
    have a6 : ((x : Int) == 224) = false := by simp; omega
    have a7 : ((x : Int) == 237) = false := by simp; omega
    go_enter Tryd.func35, Tryd.ntmps35
    go_wp2_with fail
    go_loopg [7, 8, 10, 11] (3 - 1) (fun m slo shi sv sk wr => ZRel l i 3 (rn0 l i) w m slo shi sv sk wr)
    case atStart =>
      refine ⟨1, x - 224, 128, 191, rfl, rfl, congrArg (Value.int .i64) (by omega), rfl, rfl, rfl, ?_, by omega, by omega, by omega, by omega, by omega, by omega, by omega, by omega⟩
      unfold rn0
      rw [HG.out]
      try dsimp only
      (repeat' split) <;> first | rfl | (exfalso; omega) | trace_state
    case round =>
      obtain ⟨k, v, lo, hi, rfl, rfl, rfl, rfl, rfl, hm, hw, hk1, hkn, hlo1, hlo, hhi, hv1, hv2, hv3⟩ := hrel
      by_cases hk : k < 3
      · have hmo := HM.out (i + k) lo hi _ rfl
        rw [Int.natCast_add] at hmo
        cases hB : moreB l (i + k) lo hi with
        | false =>
          rw [hB] at hmo
          have HW := Lib.hid ((rloop_bad hk hB).symm.trans hw)
          have HMo := Lib.hid hmo
          clear hw hmo
          go_wp2_with (go_at_call 50; refine HMo.out.mono ?_; rintro e w' ⟨rfl, rfl⟩)
          go_ret2
          rw [← HW.out]
          exact ⟨rfl, rfl⟩
        | true =>
          rw [hB] at hmo
          have HW := Lib.hid ((rloop_go hk hB).symm.trans hw)
          have HMo := Lib.hid hmo
          clear hw hmo
          have hin : i + k < l.length ∧ lo ≤ (l.getD (i + k) 0).toNat ∧ (l.getD (i + k) 0).toNat ≤ hi := by simpa [moreB] using hB
          obtain ⟨hik, hy1, hy2⟩ := hin
          obtain ⟨ad', he, _, hcell⟩ := HL.out.2 (i + k) hik
          injection he with he
          subst he
          have hgy : (l.getD (i + k) 0).toNat = l[i + k].toNat := by simp [hik]
          rw [hgy] at hy1 hy2 HW
          have hy256 : l[i + k].toNat < 256 := UInt8.toNat_lt _
          generalize l[i + k].toNat = y at *
          clear hgy hB
          go_wp2_with (go_at_call 50; refine HMo.out.mono ?_; rintro e w' ⟨rfl, rfl⟩)
          go_roundg (3 - (k + 1))
          case measure => omega
          case rel => exact ⟨k + 1, v * 64 + y - 128, 128, 191, rfl, rfl, congrArg (Value.int .i64) (by omega), rfl, rfl, rfl, HW.out, by omega, by omega, by omega, by omega, by omega, by omega, by omega, by omega⟩
      · have HW := Lib.hid ((rloop_end (by omega : 3 ≤ k)).symm.trans hw)
        clear hw
        have hkk : k = 3 := by omega
        subst hkk
        go_wp2_with fail
        go_ret2
        rw [← HW.out]
        exact ⟨rfl, rfl⟩
  · have a5 : ¬ ((x : Int) ≤ 239) := by omega
    have a6 : ((240 : Int) ≤ x) := by omega
    have a7 : ((x : Int) ≤ 244) := by omega
    have a8 : ((x : Int) == 240) = false := by simp; omega
    have a9 : ((x : Int) == 244) = false := by simp; omega
    go_enter Tryd.func35, Tryd.ntmps35
    go_wp2_with fail
    go_loopg [7, 8, 10, 11] (4 - 1) (fun m slo shi sv sk wr => ZRel l i 4 (rn0 l i) w m slo shi sv sk wr)
    case atStart =>
      refine ⟨1, x - 240, 128, 191, rfl, rfl, congrArg (Value.int .i64) (by omega), rfl, rfl, rfl, ?_, by omega, by omega, by omega, by omega, by omega, by omega, by omega, by omega⟩
      unfold rn0
      rw [HG.out]
      try dsimp only
      (repeat' split) <;> first | rfl | (exfalso; omega) | trace_state
    case round =>
      obtain ⟨k, v, lo, hi, rfl, rfl, rfl, rfl, rfl, hm, hw, hk1, hkn, hlo1, hlo, hhi, hv1, hv2, hv3⟩ := hrel
      by_cases hk : k < 4
      · have hmo := HM.out (i + k) lo hi _ rfl
        rw [Int.natCast_add] at hmo
        cases hB : moreB l (i + k) lo hi with
        | false =>
          rw [hB] at hmo
          have HW := Lib.hid ((rloop_bad hk hB).symm.trans hw)
          have HMo := Lib.hid hmo
          clear hw hmo
          go_wp2_with (go_at_call 50; refine HMo.out.mono ?_; rintro e w' ⟨rfl, rfl⟩)
          go_ret2
          rw [← HW.out]
          exact ⟨rfl, rfl⟩
        | true =>
          rw [hB] at hmo
          have HW := Lib.hid ((rloop_go hk hB).symm.trans hw)
          have HMo := Lib.hid hmo
          clear hw hmo
          have hin : i + k < l.length ∧ lo ≤ (l.getD (i + k) 0).toNat ∧ (l.getD (i + k) 0).toNat ≤ hi := by simpa [moreB] using hB
          obtain ⟨hik, hy1, hy2⟩ := hin
          obtain ⟨ad', he, _, hcell⟩ := HL.out.2 (i + k) hik
          injection he with he
          subst he
          have hgy : (l.getD (i + k) 0).toNat = l[i + k].toNat := by simp [hik]
          rw [hgy] at hy1 hy2 HW
          have hy256 : l[i + k].toNat < 256 := UInt8.toNat_lt _
          generalize l[i + k].toNat = y at *
          clear hgy hB
          go_wp2_with (go_at_call 50; refine HMo.out.mono ?_; rintro e w' ⟨rfl, rfl⟩)
          go_roundg (4 - (k + 1))
          case measure => omega
          case rel => exact ⟨k + 1, v * 64 + y - 128, 128, 191, rfl, rfl, congrArg (Value.int .i64) (by omega), rfl, rfl, rfl, HW.out, by omega, by omega, by omega, by omega, by omega, by omega, by omega, by omega⟩
      · have HW := Lib.hid ((rloop_end (by omega : 4 ≤ k)).symm.trans hw)
        clear hw
        have hkk : k = 4 := by omega
        subst hkk
        go_wp2_with fail
        go_ret2
        rw [← HW.out]
        exact ⟨rfl, rfl⟩
end Go.Proofs.YtpamnnllijkpfaaDoor.LexW
