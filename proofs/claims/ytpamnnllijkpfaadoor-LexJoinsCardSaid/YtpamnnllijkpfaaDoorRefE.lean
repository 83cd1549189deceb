/- WALKS: the reference's words and signs. -/
import Derived.Test.YtpamnnllijkpfaaDoorRefA
import Derived.Test.YtpamnnllijkpfaaDoorLexP
namespace Go.Proofs.YtpamnnllijkpfaaDoor.LexP
open Go
def wordsW : List (List UInt8) := [[115, 104, 97, 114, 101, 100], [116, 104, 114, 101, 97, 100], [108, 101, 116], [108, 111, 97, 100], [115, 116, 111, 114, 101], [120, 99, 104, 103], [102, 97, 100, 100], [99, 97, 115],
  [102, 101, 110, 99, 101], [112, 114, 105, 110, 116], [105, 102], [101, 108, 115, 101], [119, 104, 105, 108, 101], [114, 108, 120], [97, 99, 113], [114, 101, 108], [97, 99, 113, 114, 101, 108], [115, 99]]
def signsW : List (List UInt8) := [[60, 60], [62, 62], [61, 61], [33, 61], [60, 61], [62, 61], [43], [45], [42], [38], [94], [124], [126], [33], [60], [62], [61], [40], [41], [91], [93], [123], [125], [44], [59]]
end Go.Proofs.YtpamnnllijkpfaaDoor.LexP
namespace Go.Proofs.YtpamnnllijkpfaaDoor.LexW
open Go Go.RowKit Go.Proofs.YtpamnnllijkpfaaDoor.Kit Go.Proofs.YtpamnnllijkpfaaDoor.LexP
def rowS (L : List (List UInt8)) : Array Value := (L.map fun t => Value.string ⟨t.toArray⟩).toArray

theorem rwords_any (w : World) : Calls Tryd.prog 48 #[] w fun e w' => e = .returned (.slice (some ⟨w.heap.size, 0, none⟩) 18 18) ∧ w' = w.alloc (.cells (rowS wordsW) 9) := by
  go_enter Tryd.func48, Tryd.ntmps48
  go_wp2_with fail
  go_ret
  exact ⟨rfl, rfl⟩

theorem signs_any (w : World) : Calls Tryd.prog 29 #[] w fun e w' => e = .returned (.slice (some ⟨w.heap.size, 0, none⟩) 25 25) ∧ w' = w.alloc (.cells (rowS signsW) 9) := by
  go_enter Tryd.func29, Tryd.ntmps29
  go_wp2_with fail
  go_ret
  exact ⟨rfl, rfl⟩

def SRel (t : List UInt8) (W : World) (m : Nat) (si : Value) (wr : World) : Prop :=
  ∃ i : Nat, si = .int .i64 i ∧ wr = W ∧ i ≤ 18 ∧ m = 18 - i ∧ (wordsW.take i).contains t = false

theorem take_contains (L : List (List UInt8)) (t : List UInt8) (i : Nat) (h : i < L.length) : (L.take (i + 1)).contains t = ((L.take i).contains t || (t == L[i])) := by
  rw [List.take_succ_eq_append_getElem h]
  simp only [List.contains_eq_any_beq, List.any_append, List.any_cons, List.any_nil, Bool.or_false]

set_option maxHeartbeats 400000 in
theorem IsWord_any (s : ByteArray) (w : World) : Calls Tryd.prog 28 #[.string s] w fun e w' => e = .returned (.bool (wordsW.contains s.data.toList)) ∧ Below w.heap.size w w' := by
  go_enter Tryd.func28, Tryd.ntmps28
  go_wp2_with fail
  refine (rwords_any _).mono ?_
  rintro e w' ⟨rfl, rfl⟩
  have B0 := Blk.new w 9 (rowS wordsW)
  have hb := Kit.Below.al (Below.refl w.heap.size w) (.cells (rowS wordsW) 9)
  generalize w.alloc (.cells (rowS wordsW) 9) = W at *
  go_wp2_with fail
  go_loopg [4] 18 (fun m si wr => SRel s.data.toList W m si wr)
  case atStart => exact ⟨0, rfl, rfl, by omega, rfl, rfl⟩
  case round =>
    obtain ⟨i, rfl, rfl, hi, hm, hc⟩ := hrel
    by_cases hlt : i < 18
    · have hlt' : i < wordsW.length := hlt
      have hcell : wr.cell? ⟨w.heap.size, i, none⟩ = some (.string ⟨(wordsW[i]).toArray⟩) := by
        rw [B0.cell i]
        simp [rowS, hlt']
      have htc := take_contains wordsW s.data.toList i hlt'
      have hin : wordsW[i] ∈ wordsW := List.getElem_mem hlt'
      have a1 : (i : Int) < 18 := by omega
      have a2 : (0 : Int) ≤ (i : Int) := by omega
      rw [hc, Bool.false_or] at htc
      by_cases hx : (⟨(wordsW[i]).toArray⟩ : ByteArray) = s
      · have hr : wordsW.contains s.data.toList = true := by
          rw [← hx]
          simp
        have HR := Lib.hid hr
        rw [hx] at hcell
        clear hr htc hin hx hc hm B0
        go_wp2_with fail
        go_ret
        exact ⟨by rw [HR.out]; rfl, hb⟩
      · have hne : (s.data.toList == wordsW[i]) = false := by
          rw [beq_eq_false_iff_ne]
          intro h
          apply hx
          rw [← h]
        have HT := Lib.hid (htc.trans hne)
        clear htc hin hne hc
        generalize (⟨(wordsW[i]).toArray⟩ : ByteArray) = x at *
        have e1 : (x.toList == s.toList) = false := by
          rw [beq_eq_false_iff_ne, Lib.toList_data, Lib.toList_data]
          intro h
          apply hx
          cases x
          cases s
          simp at h
          rw [h]
        have HX := Lib.hid hx
        clear hx B0
        go_wp2_with fail
        go_roundg (18 - (i + 1))
        case measure => omega
        case rel => exact ⟨i + 1, rfl, rfl, by omega, rfl, HT.out⟩
    · obtain rfl : i = 18 := by omega
      have hr : wordsW.contains s.data.toList = false := hc
      have HR := Lib.hid hr
      clear hr hc B0
      go_wp2_with fail
      go_ret
      exact ⟨by rw [HR.out]; rfl, hb⟩
end Go.Proofs.YtpamnnllijkpfaaDoor.LexW
