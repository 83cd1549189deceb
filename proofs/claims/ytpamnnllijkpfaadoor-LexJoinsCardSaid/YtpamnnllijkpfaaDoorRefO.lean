/- WALKS: the law's same, fault, marked, left. -/
import Derived.Test.YtpamnnllijkpfaaDoorRefN
namespace Go.Proofs.YtpamnnllijkpfaaDoor.LexW
open Go Go.RowKit Go.Proofs.YtpamnnllijkpfaaDoor.Kit Go.Proofs.YtpamnnllijkpfaaDoor.LexP
def tokV (t : Tok) : Value := .agg #[.int .i64 (t.kind : Nat), .string ⟨t.text.toArray⟩, .int .u64 (t.val : Nat), .int .i64 (t.line : Nat), .int .i64 (t.col : Nat)]

set_option maxHeartbeats 1000000 in
set_option maxRecDepth 10000 in
theorem lsame_eq (t : Tok) (w : World) : Calls Tryd.prog 16 #[tokV t, tokV t] w fun e w' => e = .returned (.bool true) ∧ Below w.heap.size w w' := by
  unfold tokV
  generalize (⟨t.text.toArray⟩ : ByteArray) = x
  go_enter Tryd.func16, Tryd.ntmps16
  go_wp2
  go_ret
  refine ⟨ret_bool (by simp), ?_⟩
  repeat (first | with_reducible exact Below.refl _ _ | with_reducible refine Kit.Below.al ?_ _)

set_option maxHeartbeats 1000000 in
set_option maxRecDepth 10000 in
theorem lfault_eq (q ln cl : Int) (w : World) : Calls Tryd.prog 15 #[.agg #[.int .i64 q, .int .i64 ln, .int .i64 cl], .agg #[.int .i64 q, .int .i64 ln, .int .i64 cl]] w fun e w' => e = .returned (.bool true) ∧ Below w.heap.size w w' := by
  go_enter Tryd.func15, Tryd.ntmps15
  go_wp2
  go_ret
  refine ⟨ret_bool (by simp), ?_⟩
  repeat (first | with_reducible exact Below.refl _ _ | with_reducible refine Kit.Below.al ?_ _)

theorem bytesWorld_there (w : World) (s : ByteArray) (o : Obj) (j : Nat) (hj : j < grownCap w s.size 0 5) :
    (((Lib.bytesWorld w 5 s).alloc o).cell? ⟨w.heap.size, j, none⟩).isSome = true ∧ ((Lib.bytesWorld w 5 s).alloc o).frozen? ⟨w.heap.size, j, none⟩ = false := by
  have hge := grownCap_ge w s.size 0 5
  have hsz : (Lib.bytesCells w 5 s).size = grownCap w s.size 0 5 := by
    unfold Lib.bytesCells
    rw [Array.size_append, Array.size_map, Array.size_replicate]
    have : s.data.size = s.size := rfl
    omega
  have hh : ((Lib.bytesWorld w 5 s).alloc o).heap[w.heap.size]? = some (.cells (Lib.bytesCells w 5 s) 5 ((Lib.bytesCells w 5 s).size, (Lib.bytesCells w 5 s).size + 1)) := by
    rw [Below.heap_alloc _ _ _ (by rw [Lib.bytesWorld_size]; omega), Lib.bytesWorld_at_new]
  refine ⟨?_, ?_⟩
  · rw [cell_of_row _ _ _ _ _ _ hh, Array.getElem?_eq_getElem (by rw [hsz]; exact hj)]
    rfl
  · unfold World.frozen?
    rw [hh]
    simp
    omega

set_option maxHeartbeats 1000000 in
set_option maxRecDepth 10000 in
theorem marked_any (A : Option Addr) (n c : Nat) (l : List UInt8) (w : World) (hl : Bytes w A n l) (hlen : l.length ≤ 1048576) :
    Calls Tryd.prog 14 #[.slice A n c] w fun e w' => Below w.heap.size w w' ∧ ∃ g cap : Nat, e = .returned (.slice (some ⟨g, 0, none⟩) (l.length + 4 : Nat) cap) ∧ Bytes w' (some ⟨g, 0, none⟩) (l.length + 4) (l ++ [1, 2, 3, 4]) ∧ l.length + 4 ≤ cap := by
  have hcv := hl.conv c
  have hcb := Lib.run_convert_string_bytes (P := Tryd.prog) w 9 32 5 ⟨l.toArray⟩ Tryd.underlying9 Tryd.underlying32 Tryd.underlying5
  have hs : (⟨l.toArray⟩ : ByteArray).size = l.length := by simp [ByteArray.size]
  obtain ⟨g, cap', w', hrun, hB, hbw, hcap⟩ := append_run ((Lib.bytesWorld w 5 ⟨l.toArray⟩).alloc (.cells #[.int .u8 1, .int .u8 2, .int .u8 3, .int .u8 4] 5)) w.heap.size l.length (grownCap w l.length 0 5) 4 4 l [1, 2, 3, 4] ⟨w.heap.size + 1, 0, none⟩ rfl rfl (by simp [Lib.bytesWorld_size]; omega) (grownCap_ge _ _ _ _)
    (fun j hj => by
      have := Lib.bytesWorld_cell w 5 ⟨l.toArray⟩ j (by rw [hs]; exact hj)
      rw [cellA1 this]
      simp [List.getD, hj])
    (fun j _ hj => bytesWorld_there w ⟨l.toArray⟩ _ j (by rw [hs]; exact hj))
    (fun j hj => by
      have e : w.heap.size + 1 = (Lib.bytesWorld w 5 ⟨l.toArray⟩).heap.size := (Lib.bytesWorld_size _ _ _).symm
      have hadd : (⟨w.heap.size + 1, 0, none⟩ : Addr).add j = ⟨(Lib.bytesWorld w 5 ⟨l.toArray⟩).heap.size, j, none⟩ := by rw [← e]; unfold Addr.add; split <;> simp_all
      rw [hadd, World.cell?_alloc_new]
      simp only [List.length_cons, List.length_nil] at hj
      match j, hj with
      | 0, _ => rfl
      | 1, _ => rfl
      | 2, _ => rfl
      | 3, _ => rfl) (by omega)
  rw [hs] at hcb
  have hbw2 := (Kit.Below.al (below_bytesWorld w ⟨l.toArray⟩) (.cells #[.int .u8 1, .int .u8 2, .int .u8 3, .int .u8 4] 5)).trans hbw
  have hbz := Lib.bytesWorld_size w 5 ⟨l.toArray⟩
  have HB := Lib.hid hB
  clear hB hs hbw hl
  go_enter Tryd.func14, Tryd.ntmps14
  have HRUN := Lib.hid hrun
  clear hrun
  go_wp2_with (first | (at_builtin; refine wpList_append_given (by rfl) _ _ _ (by rfl) rfl rfl HRUN.out ?_))
  go_ret
  exact ⟨hbw2, g, cap', rfl, HB.out, hcap⟩

set_option maxHeartbeats 1000000 in
set_option maxRecDepth 10000 in
theorem left_any (ga capa : Nat) (A : Option Addr) (n c : Nat) (l : List UInt8) (w : World) (ha : Bytes w (some ⟨ga, 0, none⟩) (l.length + 4) (l ++ [1, 2, 3, 4])) (hcap : l.length + 4 ≤ capa) (hl : Bytes w A n l) (hlen : l.length ≤ 1048576) :
    Calls Tryd.prog 17 #[.slice (some ⟨ga, 0, none⟩) (l.length + 4 : Nat) capa, .slice A n c] w fun e w' => e = .returned (.bool true) ∧ Below w.heap.size w w' := by
  have hc1 : ∀ q, (convert 32 9 (.slice A n c)).run Tryd.prog (w.drewN q) = .ok (.string ⟨l.toArray⟩) (w.drewN q) := fun q => (hl.below (Below_drewN _ q)).conv c
  have hc2 : ∀ q, (convert 32 9 (.slice (some ⟨ga, 0, none⟩) l.length capa)).run Tryd.prog (w.drewN q) = .ok (.string ⟨l.toArray⟩) (w.drewN q) := by
    intro q
    have h := (((ha.below (Below_drewN _ q)).sub 0 l.length (by omega) (by simp)).conv capa)
    simpa [Addr.add] using h
  have hc3 : ∀ q, (convert 32 9 (.slice (some ⟨ga, l.length, none⟩) 4 (capa - l.length))).run Tryd.prog (w.drewN q) = .ok (.string ⟨#[1, 2, 3, 4]⟩) (w.drewN q) := by
    intro q
    have h := (((ha.below (Below_drewN _ q)).sub l.length (l.length + 4) (by omega) (by simp)).conv (capa - l.length))
    have e : (⟨ga, 0, none⟩ : Addr).add l.length = ⟨ga, l.length, none⟩ := by unfold Addr.add; split <;> simp_all
    rw [e] at h
    simpa using h
  obtain rfl := hl.1
  clear ha hl
  have b1 : ¬ (capa = l.length) := by omega
  have b2 : ¬ (capa = 0) := by omega
  have b3 : (l.length : Int) ≤ (capa : Int) := by omega
  generalize (⟨l.toArray⟩ : ByteArray) = x at *
  go_enter Tryd.func17, Tryd.ntmps17
  have hc1' := hc1 0
  have hc2' := hc2 0
  have hc3' := hc3 0
  simp only [World.drewN_zero] at hc1' hc2' hc3'
  go_wp2_with fail
  go_quiet (fail)
  go_wp2_with fail
  go_ret
  exact ⟨rfl, Kit.Below.dn (Below.refl _ _)⟩
end Go.Proofs.YtpamnnllijkpfaaDoor.LexW
