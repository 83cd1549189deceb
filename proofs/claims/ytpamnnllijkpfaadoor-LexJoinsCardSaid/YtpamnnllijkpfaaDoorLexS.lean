/- WALKS: what every law asks first: awake. -/
import Derived.Test.YtpamnnllijkpfaaDoorLexR
import Derived.Lib.SlBytesConst
namespace Go.Proofs.YtpamnnllijkpfaaDoor.LexP
open Go
theorem lex_text2 : lexS [97, 32, 36] = .error (20, 1, 3) := lexE_eq (f := 40) (by kernel_rfl) (by decide)
theorem isName_1 : isNameS [95] = true := by
  unfold isNameS
  rw [nmS_yes (by simp) (by decide +kernel)]
  have : List.drop (Lib.decodeL [95]).2 [95] = ([] : List UInt8) := by decide +kernel
  rw [this, nmS_nil]
  decide +kernel
theorem isName_2 : isNameS [115, 99] = false := by
  unfold isNameS
  have : wordB [115, 99] = true := by decide +kernel
  rw [this]
  simp
end Go.Proofs.YtpamnnllijkpfaaDoor.LexP
namespace Go.Proofs.YtpamnnllijkpfaaDoor.LexW
open Go Go.RowKit Go.Proofs.YtpamnnllijkpfaaDoor.Kit Go.Proofs.YtpamnnllijkpfaaDoor.LexP

theorem ownsRow_at {w : World} {base e size n : Nat} {v : Value} {xs : List Value} (h : w.ownsRow base e size v n xs) (hn : 0 < n) : ∃ g cap, v = .slice (some ⟨g, 0, none⟩) n cap ∧ base ≤ g ∧ g < w.heap.size ∧ n ≤ cap ∧ ∀ j u, xs[j]? = some u → w.cell? ⟨g, j, none⟩ = some u := by
  have hh := h
  rcases h.2 with ⟨_, h0⟩ | ⟨g, cap, cur, rfl, hb, hc, hcap, _, hsz, htake⟩
  · omega
  · refine ⟨g, cap, rfl, hb, ?_, hcap, fun j u hj => ?_⟩
    · rcases Nat.lt_or_ge g w.heap.size with h | h
      · exact h
      · rw [Array.getElem?_eq_none h] at hc; cases hc
    · rw [cell_of_row w g j cur e (0, 0) hc]
      rw [← htake, List.getElem?_take] at hj
      split at hj
      · rw [← Array.getElem?_toList]; exact hj
      · cases hj

def bytesC (l : List UInt8) : Array Value := (l.map fun b => Value.int .u8 (b.toNat : Nat)).toArray
theorem Bytes.new (w : World) (l : List UInt8) (fr : Nat × Nat) : Bytes (w.alloc (.cells (bytesC l) 5 fr)) (some ⟨w.heap.size, 0, none⟩) l.length l := by
  refine ⟨rfl, fun j hj => ⟨_, rfl, by simp, ?_⟩⟩
  have hadd : (⟨w.heap.size, 0, none⟩ : Addr).add j = ⟨w.heap.size, j, none⟩ := by unfold Addr.add; split <;> simp_all
  rw [hadd, cell_of_row _ w.heap.size j (bytesC l) 5 fr (heap_alloc_new w _)]
  simp [bytesC, hj]

set_option maxHeartbeats 1000000 in
set_option maxRecDepth 10000 in
theorem awake_any (w : World) (hE : Env w) : Calls Tryd.prog 9 #[] w fun e w' => e = .returned (.bool true) ∧ Below w.heap.size w w' := by
  have kc := fun (w : World) (C : Array Value) (n c : Nat) => Lib.run_convert_bytes_const (P := Tryd.prog) w 32 5 C n c Tryd.underlying32 Tryd.underlying5
  have kc2 := fun (w : World) (o : Obj) (C : Array Value) (n c : Nat) => kc (w.alloc o) C n c
  simp only [sizeA] at kc2
  go_enter Tryd.func9, Tryd.ntmps9
  go_wp2_with fail
  refine (Lex_any _ _ _ text1 _ (hE.below (Kit.Below.al (Below.refl _ _) _)) (Bytes.new w text1 (15, 16))).mono ?_
  rintro e w1 ⟨hb1, hcase⟩
  rcases hcase with ⟨q, l0, c0, hl, rfl⟩ | ⟨toks, v, hl, rfl, hown⟩
  · rw [lex_text1] at hl
    cases hl
  rw [lex_text1] at hl
  injection hl with hl
  subst hl
  obtain ⟨g', cap, rfl, hg', hgl, hcap, hcell⟩ := ownsRow_at hown (by decide)
  have hbw := Kit.Below.then (Kit.Below.al (Below.refl w.heap.size w) _) hb1
  have x6 := cellA1 (hcell 6 _ rfl)
  have x5 := cellA1 (hcell 5 _ rfl)
  have x9 := cellA1 (hcell 9 _ rfl)
  have x17 := cellA1 (hcell 17 _ rfl)
  have x29 := cellA1 (hcell 29 _ rfl)
  go_wp2_with fail
  have hb2 := Kit.Below.al hbw (.cells #[.int .i64 0, .int .i64 0, .int .i64 0] 29)
  have BF := (Blk.new w1 29 #[.int .i64 0, .int .i64 0, .int .i64 0]).alloc (.cells (bytesC [97, 32, 36]) 5 (3, 4))
  have hn2 := Bytes.new (w1.alloc (.cells #[.int .i64 0, .int .i64 0, .int .i64 0] 29)) [97, 32, 36] (3, 4)
  rw [sizeA] at hn2
  refine (Lex_any _ _ _ [97, 32, 36] _ (hE.below (Kit.Below.al hb2 _)) hn2).mono ?_
  rintro e w2 ⟨hb3, hcase⟩
  clear x6 x5 x9 x17 x29 hcell hn2 hown
  rcases hcase with ⟨q, l0, c0, hl, rfl⟩ | ⟨toks, v, hl, rfl, hown⟩
  · rw [lex_text2] at hl
    injection hl with hl
    injection hl with h1 hl
    injection hl with h2 h3
    subst h1 h2 h3
    have BF2 := BF.below' hb3
    have hb4 := Kit.Below.then (Kit.Below.al hb2 _) hb3
    have y0 : w2.cell? ⟨w1.heap.size, 0, none⟩ = some (.int .i64 0) := BF2.cell 0
    have y1 : w2.cell? ⟨w1.heap.size, 1, none⟩ = some (.int .i64 0) := BF2.cell 1
    have y2 : w2.cell? ⟨w1.heap.size, 2, none⟩ = some (.int .i64 0) := BF2.cell 2
    have yz := fun i => BF2.frozen i
    clear BF BF2 hb2 hb3 kc kc2
    go_wp2_with fail
    have hs1 := hbw.size
    have hW := fun u1 u2 u3 => Kit.Below.setN (o := 2) (Kit.Below.setN (o := 1) (Kit.Below.setN (o := 0) hb4 hs1 u1) hs1 u2) hs1 u3
    refine (IsName_any ⟨#[95]⟩ (by decide) _ (hE.below (hW _ _ _))).mono ?_
    rintro e w3 ⟨rfl, h3⟩
    have h4 := Kit.Below.then (hW _ _ _) h3
    rw [isName_1]
    go_wp2_with fail
    refine (IsName_any ⟨#[115, 99]⟩ (by decide) _ (hE.below h4)).mono ?_
    rintro e w5 ⟨rfl, h5⟩
    rw [isName_2]
    go_wp2_with fail
    go_ret
    exact ⟨rfl, Kit.Below.then h4 h5⟩
  · rw [lex_text2] at hl
    cases hl
end Go.Proofs.YtpamnnllijkpfaaDoor.LexW
