/- FROM AN ARGUMENT OF BYTES, READ OUT OF MEMORY, TO WHAT THE WALKS ASK. -/
import Derived.Test.YtpamnnllijkpfaaDoorLexLift
import Derived.Test.YtpamnnllijkpfaaDoorLexP
import Derived.Carry
import Derived.ChangeSlices
namespace Go.Proofs.YtpamnnllijkpfaaDoor.Lift
open Go Go.ChangeShapes Go.WideShapes Go.ChangeAt Go.RowKit Go.Proofs.YtpamnnllijkpfaaDoor.Kit Go.Proofs.YtpamnnllijkpfaaDoor.LexW

theorem laidOut : laidOutB Tryd.prog = true := by kernel_rfl
theorem cells_u8 : Tryd.prog.cellsOf 5 = 1 := by kernel_rfl
theorem bulk_one {H : Type} (d : DataW H) : 1 ≤ Rows.uptoBulk d := by
  cases d with
  | lit l => cases l <;> simp [Rows.uptoBulk]
  | _ => simp [Rows.uptoBulk]
theorem bulk_len {H : Type} (l : List (DataW H)) : l.length ≤ Rows.uptoBulkAll l := by
  induction l with
  | nil => simp [Rows.uptoBulkAll]
  | cons x r ih => have := bulk_one x; simp only [Rows.uptoBulkAll, List.length_cons]; omega

theorem u8_wf {z : Int} (h : (Lit.int .u8 z).wf = true) : 0 ≤ z ∧ z ≤ 255 := by simpa [Lit.wf, IntKind.min, IntKind.max, IntKind.signed, IntKind.bits] using h

theorem bytes_of {H : Type} {enc : TypeId × Value → H} {W : World} {a0 : Option Addr} {n c : Nat} {d : DataW H} {ps : List MemPlace} (h : DataW.Trod enc Tryd.prog W 0 (fun _ => true) true 32 (.slice a0 n c) d ps) (hb : Rows.uptoBulk d ≤ 1048576) :
    ∃ l : List UInt8, Bytes W a0 n l ∧ n ≤ c ∧ l.length ≤ 1048576 := by
  obtain ⟨fuel, hf⟩ := h
  rcases open_ints Tryd.underlying32 Tryd.underlying5 cells_u8 hf with ⟨hcs, _⟩ | ⟨a, len', cap', zs, hcs, _, hl, hm, hz, hx, hcell, hwz⟩
  · simp [Value.cells] at hcs
    obtain ⟨rfl, rfl, rfl⟩ := hcs
    exact ⟨[], ⟨rfl, fun j hj => by simp at hj⟩, Nat.le_refl _, by simp⟩
  · simp [Value.cells] at hcs
    obtain ⟨rfl, rfl, rfl⟩ := hcs
    simp only [Prod.mk.injEq] at hx
    obtain ⟨rfl, _⟩ := hx
    simp only [if_true] at hz
    simp only [Rows.uptoBulk] at hb
    have h1 := bulk_len (lits (H := H) .u8 (zs.take n))
    simp only [lits, List.length_map, List.length_take] at h1
    have hn : n ≤ 1048576 := by
      rw [Nat.min_eq_left (by omega)] at h1
      unfold lits at hb
      omega
    refine ⟨(zs.take n).map fun z => UInt8.ofNat z.toNat, ⟨by simp; omega, fun j hj => ?_⟩, hl, by simp; omega⟩
    simp only [List.length_map, List.length_take] at hj
    have hjz : j < zs.length := by omega
    have hc := hcell j hjz
    refine ⟨a, rfl, ?_, ?_⟩
    · have := World.block_lt_of_cell? W _ hc
      rwa [LexW.block_add] at this
    · rw [hc]
      have hg : zs.getD j 0 = zs[j] := by simp [List.getD, hjz]
      have hw := u8_wf (hwz _ (List.getElem_mem hjz))
      simp only [List.getElem_map, List.getElem_take, hg]
      congr 2
      have : (UInt8.ofNat (zs[j]).toNat).toNat = (zs[j]).toNat := by
        rw [UInt8.toNat_ofNat']
        omega
      rw [this]
      omega

theorem bytes_any {H : Type} {enc : TypeId × Value → H} {W : World} {a0 : Option Addr} {n c : Nat} {d : DataW H} {ps : List MemPlace} (h : DataW.Trod enc Tryd.prog W 0 (fun _ => true) true 32 (.slice a0 n c) d ps) :
    ∃ l : List UInt8, Bytes W a0 n l ∧ n ≤ c ∧ (a0 = none → c = 0) ∧ n ≤ maxLen := by
  obtain ⟨fuel, hf⟩ := h
  rcases open_ints Tryd.underlying32 Tryd.underlying5 cells_u8 hf with ⟨hcs, _⟩ | ⟨a, len', cap', zs, hcs, _, hl, hm, hz, hx, hcell, hwz⟩
  · simp [Value.cells] at hcs
    obtain ⟨rfl, rfl, rfl⟩ := hcs
    exact ⟨[], ⟨rfl, fun j hj => by simp at hj⟩, Nat.le_refl _, fun _ => rfl, by unfold maxLen; omega⟩
  · simp [Value.cells] at hcs
    obtain ⟨rfl, rfl, rfl⟩ := hcs
    simp only [if_true] at hz
    refine ⟨(zs.take n).map fun z => UInt8.ofNat z.toNat, ⟨by simp; omega, fun j hj => ?_⟩, hl, (fun h => by cases h), by omega⟩
    simp only [List.length_map, List.length_take] at hj
    have hjz : j < zs.length := by omega
    have hc := hcell j hjz
    refine ⟨a, rfl, ?_, ?_⟩
    · have := World.block_lt_of_cell? W _ hc
      rwa [LexW.block_add] at this
    · rw [hc]
      have hg : zs.getD j 0 = zs[j] := by simp [List.getD, hjz]
      have hw := u8_wf (hwz _ (List.getElem_mem hjz))
      simp only [List.getElem_map, List.getElem_take, hg]
      congr 2
      have : (UInt8.ofNat (zs[j]).toNat).toNat = (zs[j]).toNat := by
        rw [UInt8.toNat_ofNat']
        omega
      rw [this]
      omega

/-- An argument of bytes reads behind the call as it did. -/
theorem bytes_back {H : Type} {enc : TypeId × Value → H} {W W' : World} {v : Value} {d : DataW H} {ps : List MemPlace} (h : DataW.Trod enc Tryd.prog W 0 (fun _ => true) true 32 v d ps) (hb : Below W.heap.size W W') (hlt : ∀ x ∈ ps, x.block < W.heap.size) :
    DataW.Trod enc Tryd.prog W' 0 (fun b => decide (b < W.heap.size)) true 32 v d ps :=
  Below.trod laidOut (by kernel_rfl) (of_decide_eq_true (by kernel_rfl)) h hb hlt
end Go.Proofs.YtpamnnllijkpfaaDoor.Lift
