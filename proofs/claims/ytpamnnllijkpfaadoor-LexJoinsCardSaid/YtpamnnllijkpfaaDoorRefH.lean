/- WALKS: the reference's begins. -/
import Derived.Test.YtpamnnllijkpfaaDoorRefG
namespace Go.Proofs.YtpamnnllijkpfaaDoor.LexP
open Go
theorem prefix_step (t l : List UInt8) (at0 i : Nat) (hi : i < t.length) (hl : at0 + i < l.length) :
    (t.drop i).isPrefixOf (l.drop (at0 + i)) = ((t[i] == l[at0 + i]) && (t.drop (i + 1)).isPrefixOf (l.drop (at0 + (i + 1)))) := by
  rw [List.drop_eq_getElem_cons hi, List.drop_eq_getElem_cons hl]
  rfl
end Go.Proofs.YtpamnnllijkpfaaDoor.LexP
namespace Go.Proofs.YtpamnnllijkpfaaDoor.LexW
open Go Go.RowKit Go.Proofs.YtpamnnllijkpfaaDoor.Kit Go.Proofs.YtpamnnllijkpfaaDoor.LexP

def BgRel (l t : List UInt8) (at0 : Nat) (w : World) (m : Nat) (si : Value) (wr : World) : Prop :=
  ∃ i q : Nat, si = .int .i64 i ∧ wr = w.drewN q ∧ i ≤ t.length ∧ m = t.length - i ∧ t.isPrefixOf (l.drop at0) = (t.drop i).isPrefixOf (l.drop (at0 + i))

set_option maxHeartbeats 400000 in
set_option maxRecDepth 10000 in
theorem begins_any (A : Option Addr) (n c : Nat) (l : List UInt8) (at0 : Nat) (s : ByteArray) (w : World) (hl : Bytes w A n l) (hat : at0 ≤ l.length) (hlen : l.length ≤ 1048576) (hs : s.size ≤ 16) :
    Calls Tryd.prog 30 #[.slice A n c, .int .i64 at0, .string s] w fun e w' => e = .returned (.bool (Lib.hasPrefix (l.drop at0) s.data.toList)) ∧ Below w.heap.size w w' := by
  obtain ⟨rfl, hc⟩ := hl
  unfold Lib.hasPrefix
  have HSZ := Lib.hid (Lib.size_eq s)
  go_enter Tryd.func30, Tryd.ntmps30
  by_cases h1 : l.length - at0 < s.size
  · have h1' : (l.length : Int) - (at0 : Int) < (s.size : Int) := by omega
    have hr : s.data.toList.isPrefixOf (l.drop at0) = false := by
      rw [← Bool.not_eq_true]
      intro h
      have := (List.isPrefixOf_iff_prefix.1 h).length_le
      rw [List.length_drop, ← HSZ.out] at this
      omega
    have HR := Lib.hid hr
    clear hr
    go_wp2_with fail
    go_ret
    exact ⟨by rw [HR.out]; rfl, Below.refl _ _⟩
  · have h1' : ¬ ((l.length : Int) - (at0 : Int) < (s.size : Int)) := by omega
    go_wp2_with fail
    go_loopg [7] s.size (fun m si wr => BgRel l s.data.toList at0 w m si wr)
    case atStart => exact ⟨0, 0, rfl, rfl, by omega, by rw [← HSZ.out]; rfl, rfl⟩
    case round =>
      obtain ⟨i, q, rfl, rfl, hi, hm, hp⟩ := hrel
      rw [← HSZ.out] at hi hm
      by_cases hlt : i < s.size
      · obtain ⟨ad, rfl, hbl, hb⟩ := hc (at0 + i) (by omega)
        have hps := prefix_step s.data.toList l at0 i (by rw [← HSZ.out]; omega) (by omega)
        have hix : ∀ w : World, (Instr.index 9 (.string s) (.int .i64 (i : Int))).run Tryd.prog w = .ok (.int .u8 (s.data.toList[i]'(by rw [← HSZ.out]; exact hlt)).toNat) w := by
          intro w
          rw [run_index_string w 9 s .i64 i Tryd.underlying9, dif_pos ⟨by omega, by omega⟩]
          rfl
        have hadd : w.cell? (ad.add ((at0 : Int) + (i : Int)).toNat) = some (.int .u8 (l[at0 + i]).toNat) := hb
        have a1 : (i : Int) < (s.size : Int) := by omega
        have a2 : (0 : Int) ≤ (i : Int) := by omega
        have a3 : (0 : Int) ≤ (at0 : Int) + (i : Int) := by omega
        have a4 : (at0 : Int) + (i : Int) < (l.length : Int) := by omega
        have HP := Lib.hid hps
        have HQ := Lib.hid hp
        have HM := Lib.hid hm
        have HC := Lib.hid hc
        clear hps hp hm hc
        have hgx : (s.data.toList[i]'(by rw [← HSZ.out]; exact hlt)).toNat < 256 := UInt8.toNat_lt _
        by_cases hx : (s.data.toList[i]'(by rw [← HSZ.out]; exact hlt)) = l[at0 + i]
        · have HX := Lib.hid hx
          rw [hx] at hix
          clear hx hgx
          generalize hg : (l[at0 + i]).toNat = x at *
          clear hg
          have ex : ((x : Int) != (x : Int)) = false := by simp
          go_wp2_with fail
          go_quiet (fail)
          go_wp2_with fail
          go_roundg (s.size - (i + 1))
          case measure => have := HM.out; omega
          case rel => exact ⟨i + 1, _, rfl, rfl, by rw [← HSZ.out]; omega, by rw [← HSZ.out], by rw [HQ.out, HP.out, HX.out]; simp⟩
        · have hne : ((s.data.toList[i]'(by rw [← HSZ.out]; exact hlt)) == l[at0 + i]) = false := by rw [beq_eq_false_iff_ne]; exact hx
          have hn2 : (l[at0 + i]).toNat ≠ (s.data.toList[i]'(by rw [← HSZ.out]; exact hlt)).toNat := fun h => hx (UInt8.toNat_inj.1 h.symm)
          have HX := Lib.hid hne
          clear hx hgx hne
          generalize (s.data.toList[i]'(by rw [← HSZ.out]; exact hlt)).toNat = y at *
          generalize (l[at0 + i]).toNat = x at *
          have ex : ((x : Int) != (y : Int)) = true := by simp; omega
          clear hn2
          go_wp2_with fail
          go_quiet (fail)
          go_wp2_with fail
          go_ret
          exact ⟨by rw [HQ.out, HP.out, HX.out]; rfl, Kit.Below.dn (Kit.Below.dn (Below.refl _ _))⟩
      · obtain rfl : i = s.size := by omega
        have a1 : ¬ ((s.size : Int) < (s.size : Int)) := by omega
        have HQ := Lib.hid hp
        clear hp hc
        go_wp2_with fail
        go_ret
        exact ⟨by rw [HQ.out, List.drop_eq_nil_of_le (by rw [← HSZ.out]; omega)]; rfl, Kit.Below.dn (Below.refl _ _)⟩
end Go.Proofs.YtpamnnllijkpfaaDoor.LexW
