/- WALKS: value, the number of digits. -/
import Derived.Test.YtpamnnllijkpfaaDoorLexE
import Derived.Laws.Externs
namespace Go.Proofs.YtpamnnllijkpfaaDoor.LexW
open Go Go.RowKit Go.Proofs.YtpamnnllijkpfaaDoor.Kit Go.Proofs.YtpamnnllijkpfaaDoor.LexP

theorem add64_0 (x y : Nat) (w : World) : (callFunc 60 #[.int .u64 x, .int .u64 y, .int .u64 0]).run Tryd.prog w =
    .ok (.value (.tuple #[.int .u64 (((x + y) % 18446744073709551616 : Nat) : Int), .int .u64 (((x + y) / 18446744073709551616 : Nat) : Int)])) w := by
  rw [run_callFunc_extern Tryd.func60 (by kernel_rfl) (by kernel_rfl) (by kernel_rfl) (e := add64Entry) (by kernel_rfl)]
  have h := run_add64 (P := Tryd.prog) x y 0 (by omega) (by omega) (by omega) (by omega) w
  rw [h]
  simp only [Result.andThen]
  congr 5 <;> omega

/-- Digits: bytes below 128. -/
def Asc (s : ByteArray) : Prop := ∀ (j : Nat) (h : j < s.size), (s[j]'h).toNat < 128

def ValDone (base : Nat) (s : ByteArray) (e : Ending) : Prop :=
  (∃ v, valS base 0 s.data.toList = some v ∧ e = .returned (.tuple #[.int .u64 v, .bool true])) ∨ (valS base 0 s.data.toList = none ∧ e = .returned (.tuple #[.int .u64 0, .bool false]))

def VRel (base : Nat) (s : ByteArray) (w : World) (m : Nat) (v : Value) (wr : World) : Prop :=
  ∃ pos n : Nat, wr = w.iter s pos ∧ v = .int .u64 n ∧ n < 18446744073709551616 ∧ valS base n (s.data.toList.drop pos) = valS base 0 s.data.toList ∧ m = s.size - pos

theorem drop_cons_at (s : ByteArray) (pos : Nat) (h : pos < s.size) : s.data.toList.drop pos = (s[pos]'h) :: s.data.toList.drop (pos + 1) := by
  have h1 : pos < s.data.toList.length := by rw [← Lib.size_eq]; exact h
  rw [List.drop_eq_getElem_cons h1]
  rfl

set_option maxHeartbeats 800000 in
theorem value_any (base : Nat) (hbase : base ≤ 16) (s : ByteArray) (ha : Asc s) (w : World) :
    Calls Tryd.prog 55 #[.string s, .int .u64 base] w fun e w' => ValDone base s e ∧ Below w.heap.size w w' := by
  go_enter Tryd.func55, Tryd.ntmps55
  go_wp2
  go_loopg [6] s.size (fun m v wr => VRel base s w m v wr)
  case atStart => exact ⟨0, 0, rfl, rfl, by decide, by simp, rfl⟩
  case round =>
    obtain ⟨pos, n, rfl, rfl, hn, hv, hm⟩ := hrel
    have HV := Lib.hid hv
    have HM := Lib.hid hm
    clear hv hm
    by_cases hp : pos < s.size
    · have hx : (s[pos]'hp).toNat < 128 := ha pos hp
      have hnx : ∀ ty, (Instr.next (.pointer (some ⟨w.heap.size, 0, none⟩)) true ty).run Tryd.prog (w.iter s pos) = _ := fun ty => run_next_ascii w s pos ty hp hx
      have hc := drop_cons_at s pos hp
      generalize (s[pos]'hp) = c at *
      have hS : Hid (∀ w, Calls Tryd.prog 54 #[.int .i32 (c.toNat : Int)] w fun e w' => e = .returned (.int .u64 (six c.toNat : Nat)) ∧ w = w') := fun w => sixteen_any c.toNat w (by omega) (by omega)
      have hd := six_le c.toNat
      have hM : Hid (∀ w, Calls Tryd.prog 59 #[.int .u64 n, .int .u64 base] w fun e w' => e = .returned (.tuple #[.int .u64 (n * base / 18446744073709551616 : Nat), .int .u64 (n * base % 18446744073709551616 : Nat)]) ∧ w' = w) := fun w => Tryd.bits_Mul64 n base hn (by omega) w
      have hA : Hid (∀ w, (callFunc 60 #[.int .u64 (n * base % 18446744073709551616 : Nat), .int .u64 (six c.toNat : Nat), .int .u64 0]).run Tryd.prog w = .ok (.value (.tuple #[.int .u64 (((n * base % 18446744073709551616 + six c.toNat) % 18446744073709551616 : Nat) : Int), .int .u64 (((n * base % 18446744073709551616 + six c.toNat) / 18446744073709551616 : Nat) : Int)])) w) := fun w => add64_0 _ _ w
      have hle : n * base ≤ 18446744073709551615 * 16 := Nat.mul_le_mul (by omega) hbase
      have e1 : n * base / 18446744073709551616 ≤ 16 := by omega
      have e2 : (n * base % 18446744073709551616 + six c.toNat) / 18446744073709551616 ≤ 1 := by omega
      have hi : n * base + six c.toNat < 18446744073709551616 ↔ n * base / 18446744073709551616 + (n * base % 18446744073709551616 + six c.toNat) / 18446744073709551616 = 0 := by omega
      have hsum : n * base + six c.toNat < 18446744073709551616 → (n * base % 18446744073709551616 + six c.toNat) % 18446744073709551616 = n * base + six c.toNat := by omega
      rw [hc] at HV
      have HV2 : Hid ((if n * base + six c.toNat < 18446744073709551616 then valS base (n * base + six c.toNat) (s.data.toList.drop (pos + 1)) else none) = valS base 0 s.data.toList) := HV.out
      generalize n * base / 18446744073709551616 = HI at *
      generalize (n * base % 18446744073709551616 + six c.toNat) / 18446744073709551616 = C at *
      generalize (n * base % 18446744073709551616 + six c.toNat) % 18446744073709551616 = S at *
      generalize n * base % 18446744073709551616 = LO at *
      have HSUM := Lib.hid hsum
      have hI := Lib.hid hi
      clear hsum hi hle hn hc HV
      generalize n * base + six c.toNat = T at *
      generalize six c.toNat = D at *
      by_cases hz : HI + C = 0
      · obtain rfl : HI = 0 := by omega
        obtain rfl : C = 0 := by omega
        have hT := hI.out.2 (by omega)
        have hS2 := HSUM.out hT
        subst hS2
        have HT := Lib.hid hT
        clear hT hI HSUM hz
        go_wp2_with fail
        refine (hM.out _).mono ?_
        rintro e w' ⟨rfl, rfl⟩
        go_wp2_with fail
        refine (hS.out _).mono ?_
        rintro e w' ⟨rfl, rfl⟩
        have hA2 := hA.out
        go_wp2_with fail
        clear hA2
        go_roundg (s.size - (pos + 1))
        case measure => have := HM.out; omega
        case rel => exact ⟨pos + 1, S, rfl, rfl, HT.out, by rw [← HV2.out, if_pos HT.out], rfl⟩
      · have hT : ¬ T < 18446744073709551616 := fun h => hz (hI.out.1 h)
        have hnone : valS base 0 s.data.toList = none := by rw [← HV2.out, if_neg hT]
        have HN := Lib.hid hnone
        have hgt : (0 : Int) < (HI : Int) + (C : Int) := by omega
        clear hT hI HSUM HV2 hnone hz
        go_wp2_with fail
        refine (hM.out _).mono ?_
        rintro e w' ⟨rfl, rfl⟩
        go_wp2_with fail
        refine (hS.out _).mono ?_
        rintro e w' ⟨rfl, rfl⟩
        have hA2 := hA.out
        go_wp2_with fail
        go_ret2
        exact ⟨.inr ⟨HN.out, rfl⟩, (Below.refl _ _).alloc (Nat.le_refl _) _⟩
    · have hnx : ∀ ty, (Instr.next (.pointer (some ⟨w.heap.size, 0, none⟩)) true ty).run Tryd.prog (w.iter s pos) = _ := fun ty => run_next_end w s pos ty hp
      have he : s.data.toList.drop pos = [] := List.drop_eq_nil_of_le (by rw [← Lib.size_eq]; omega)
      have hv2 := HV.out
      rw [he] at hv2
      have HV2 := Lib.hid hv2
      clear hv2 he HV
      go_wp2_with fail
      go_ret2
      exact ⟨.inl ⟨n, HV2.out.symm, rfl⟩, (Below.refl _ _).alloc (Nat.le_refl _) _⟩
end Go.Proofs.YtpamnnllijkpfaaDoor.LexW
