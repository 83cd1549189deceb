/- WALKS: the scanner's blanks. -/
import Derived.Test.YtpamnnllijkpfaaDoorLexD
namespace Go.Proofs.YtpamnnllijkpfaaDoor.LexW
open Go Go.RowKit Go.Proofs.YtpamnnllijkpfaaDoor.Kit Go.Proofs.YtpamnnllijkpfaaDoor.LexP

theorem HasPrefix_any (s p : ByteArray) (w : World) : Calls Tryd.prog 38 #[.string s, .string p] w fun e w' => e = .returned (.bool (Lib.hasPrefix s.data.toList p.data.toList)) ∧ w' = w := Tryd.strings_HasPrefix s p w

def BRel (g : Nat) (b : ByteArray) (out : Value) (tgt : St) (w : World) (m : Nat) (wr : World) : Prop :=
  ∃ k ln cl, Blk wr g 55 (scs b k ln cl out) ∧ Pos b k ln cl ∧ Kept g w wr ∧ (stOf b k ln cl).blanks = tgt ∧ m = b.size - k

/-- What a call leaves that moves the scanner and answers nothing. -/
def Moved (g : Nat) (b : ByteArray) (out : Value) (tgt : St) (w : World) (e : Ending) (w' : World) : Prop :=
  e = .returned (.tuple #[]) ∧ ∃ k ln cl, tgt = stOf b k ln cl ∧ Pos b k ln cl ∧ Blk w' g 55 (scs b k ln cl out) ∧ Kept g w w'

set_option maxHeartbeats 800000 in
theorem blanks_any (g : Nat) (b : ByteArray) (k ln cl : Nat) (out : Value) (w : World) (hE : Env w) (hg : 3 ≤ g)
    (hB : Blk w g 55 (scs b k ln cl out)) (hp : Pos b k ln cl) :
    Calls Tryd.prog 22 #[.pointer (some ⟨g, 0, none⟩)] w (Moved g b out (stOf b k ln cl).blanks w) := by
  go_enter Tryd.func22, Tryd.ntmps22
  go_wp2_with fail
  go_loopg [] (b.size - k) (fun m wr => BRel g b out (stOf b k ln cl).blanks w m wr)
  case atStart => exact ⟨k, ln, cl, hB, hp, Kept.refl g w, rfl, rfl⟩
  case round =>
    generalize (stOf b k ln cl).blanks = tgt at *
    obtain ⟨k1, l1, e1, hB1, hp1, hK1, ht, hm⟩ := hrel
    clear hB hp
    have HE1 := Lib.hid (hE.kept hK1 hg)
    have HT := Lib.hid ht
    have HM := Lib.hid hm
    have HW := Lib.hid (while_blanks1 g b k1 l1 e1 out wr HE1.out hg hB1 hp1)
    clear ht hm hB1
    go_wp2_with fail
    refine HW.out.mono ?_
    rintro e w2 ⟨k2, l2, e2, ht2, hk2, hp2, rfl, hB2, hK2⟩
    clear HW
    go_wp2_with fail
    have c0 : w2.cell? ⟨g, 0, none⟩ = some (.string b) := hB2.cell 0
    have c1 : w2.cell? ⟨g, 1, none⟩ = some (.int .i64 k2) := hB2.cell 1
    have a1 : (0 : Int) ≤ (k2 : Int) := by omega
    have a2 : (k2 : Int) ≤ (b.size : Int) := by have := hp2.1; omega
    have hx : (b.extract k2 b.size).data.toList = b.data.toList.drop k2 := Lib.extract_to_end b k2
    have HP : Hid (∀ w, Calls Tryd.prog 38 #[.string (b.extract k2 b.size), .string ⟨#[47, 47]⟩] w fun e w' => e = .returned (.bool (slash (b.data.toList.drop k2))) ∧ w' = w) := fun w => by
      have := HasPrefix_any (b.extract k2 b.size) ⟨#[47, 47]⟩ w
      rwa [hx] at this
    have HT2 := Lib.hid ht2
    clear ht2 hx
    have HE2 := Lib.hid (HE1.out.kept hK2 hg)
    by_cases hs : slash (b.data.toList.drop k2) = true
    · rw [hs] at HP
      have HS := Lib.hid hs
      clear hs
      go_quiet ((go_at_call 38; exact Calls.quiet_of_same (HP.out _)))
      go_wp2_with fail
      have HW := Lib.hid (while_blanks2 g b k2 l2 e2 out (w2.drewN nq) HE2.out hg (hB2.drewN nq) hp2)
      refine HW.out.mono ?_
      rintro e w3 ⟨k3, l3, e3, ht3, hk3, hp3, rfl, hB3, hK3⟩
      clear HW
      have HT3 := Lib.hid ht3
      clear ht3
      go_wp2_with fail
      go_roundg (b.size - k3)
      case measure =>
        have h := slash_less (s := stOf b k2 l2 e2) HS.out
        rw [HT3.out] at h
        rw [stOf_len, stOf_len] at h
        have h3 := HM.out
        omega
      case rel => exact ⟨k3, l3, e3, hB3, hp3, hK1.trans (hK2.trans ((Kept.of_below g (Below_drewN _ nq)).trans hK3)), by
        have h := blanks_yes (s := stOf b k1 l1 e1) (by rw [HT2.out]; exact HS.out)
        rw [HT2.out, HT3.out] at h
        rw [← h]; exact HT.out, rfl⟩
    · have hs' : slash (b.data.toList.drop k2) = false := by simpa using hs
      rw [hs'] at HP
      have HS := Lib.hid hs'
      clear hs hs'
      go_quiet ((go_at_call 38; exact Calls.quiet_of_same (HP.out _)))
      go_wp2_with fail
      refine bodyPost_ret (results_none rfl _ _ _) rfl ⟨rfl, k2, l2, e2, ?_, hp2, hB2.drewN nq, hK1.trans (hK2.trans (Kept.of_below g (Below_drewN _ nq)))⟩
      rw [← HT.out, blanks_no (by rw [HT2.out]; exact HS.out)]; exact HT2.out
end Go.Proofs.YtpamnnllijkpfaaDoor.LexW
