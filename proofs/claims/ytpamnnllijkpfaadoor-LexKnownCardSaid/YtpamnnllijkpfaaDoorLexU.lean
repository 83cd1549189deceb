/- WALKS: the law LexKnown. -/
import Derived.Test.YtpamnnllijkpfaaDoorLexT
namespace Go.Proofs.YtpamnnllijkpfaaDoor.LexP
open Go
theorem lex_k1 : lexS [97, 60, 60, 61, 98, 32, 47, 47, 32, 120, 10] = .ok [⟨1, [97], 0, 1, 1⟩, ⟨4, [60, 60], 0, 1, 2⟩, ⟨4, [61], 0, 1, 4⟩, ⟨1, [98], 0, 1, 5⟩, ⟨5, [], 0, 2, 1⟩] := lexE_eq (f := 60) (by kernel_rfl) (by decide)
theorem lex_k2 : lexS [] = .ok [⟨5, [], 0, 1, 1⟩] := lexE_eq (f := 60) (by kernel_rfl) (by decide)
theorem lex_k3 : lexS [95, 32, 115, 99, 120, 32, 115, 99] = .ok [⟨1, [95], 0, 1, 1⟩, ⟨1, [115, 99, 120], 0, 1, 3⟩, ⟨3, [115, 99], 0, 1, 7⟩, ⟨5, [], 0, 1, 9⟩] := lexE_eq (f := 60) (by kernel_rfl) (by decide)
theorem lex_r1 : lexS [49, 50, 97] = .error (20, 1, 3) := lexE_eq (f := 60) (by kernel_rfl) (by decide)
theorem lex_r2 : lexS [48, 120] = .error (20, 1, 3) := lexE_eq (f := 60) (by kernel_rfl) (by decide)
theorem lex_r3 : lexS [48, 120, 103] = .error (20, 1, 3) := lexE_eq (f := 60) (by kernel_rfl) (by decide)
theorem lex_r4 : lexS [49, 56, 52, 52, 54, 55, 52, 52, 48, 55, 51, 55, 48, 57, 53, 53, 49, 54, 49, 54] = .error (20, 1, 1) := lexE_eq (f := 60) (by kernel_rfl) (by decide)
theorem lex_r5 : lexS [255] = .error (20, 1, 1) := lexE_eq (f := 60) (by kernel_rfl) (by decide)
theorem lex_r6 : lexS [195, 169] = .error (20, 1, 1) := lexE_eq (f := 60) (by kernel_rfl) (by decide)
theorem lex_r7 : lexS [206, 177, 206] = .error (20, 1, 2) := lexE_eq (f := 60) (by kernel_rfl) (by decide)
theorem lex_last : lexS [49, 56, 52, 52, 54, 55, 52, 52, 48, 55, 51, 55, 48, 57, 53, 53, 49, 54, 49, 53, 32, 48, 48, 55, 32, 48, 120, 48, 48, 48, 48, 48, 48, 48, 48, 48, 48, 48, 48, 48, 48, 48, 48, 48, 48, 48, 49] = .ok [⟨2, [49, 56, 52, 52, 54, 55, 52, 52, 48, 55, 51, 55, 48, 57, 53, 53, 49, 54, 49, 53], 18446744073709551615, 1, 1⟩, ⟨2, [48, 48, 55], 7, 1, 22⟩, ⟨2, [48, 120, 48, 48, 48, 48, 48, 48, 48, 48, 48, 48, 48, 48, 48, 48, 48, 48, 48, 48, 48, 49], 1, 1, 26⟩, ⟨5, [], 0, 1, 48⟩] := lexE_eq (f := 60) (by kernel_rfl) (by decide)
end Go.Proofs.YtpamnnllijkpfaaDoor.LexP
namespace Go.Proofs.YtpamnnllijkpfaaDoor.LexW
open Go Go.RowKit Go.Proofs.YtpamnnllijkpfaaDoor.Kit Go.Proofs.YtpamnnllijkpfaaDoor.LexP

theorem Ints.new (w : World) (ks : List Nat) : Ints (w.alloc (.cells (ks.map fun (n : Nat) => Value.int .i64 n).toArray 3)) w.heap.size ks := by
  refine ⟨by simp, fun j hj => ?_⟩
  rw [cell_of_row _ w.heap.size j _ 3 (0, 0) (heap_alloc_new w _)]
  simp [hj]

set_option maxHeartbeats 2000000 in
set_option maxRecDepth 10000 in
theorem LexKnown_any (w : World) (hE : Env w) : Calls Tryd.prog 3 #[] w fun e w' => e = .returned (.bool true) ∧ Below w.heap.size w w' := by
  have kc := fun (w : World) (C : Array Value) (n c : Nat) => Lib.run_convert_bytes_const (P := Tryd.prog) w 32 5 C n c Tryd.underlying32 Tryd.underlying5
  go_enter Tryd.func3, Tryd.ntmps3
  go_wp2_with fail
  refine (awake_any _ hE).mono ?_
  rintro e w1 ⟨rfl, hb⟩
  go_wp2_with fail
  have hb' := Kit.Below.al hb (.cells ([1, 4, 4, 1, 5].map fun (n : Nat) => Value.int .i64 n).toArray 3)
  refine (kinds_any ⟨#[97, 60, 60, 61, 98, 32, 47, 47, 32, 120, 10]⟩ _ lex_k1 _ _ (by decide) (by decide) _ (hE.below hb') (Ints.new _ [1, 4, 4, 1, 5])).mono ?_
  rintro e w2 ⟨rfl, hx⟩
  have hb := Kit.Below.then hb' hx
  clear hb' hx
  go_wp2_with fail
  have hb' := Kit.Below.al hb (.cells ([5].map fun (n : Nat) => Value.int .i64 n).toArray 3)
  refine (kinds_any ⟨#[]⟩ _ lex_k2 _ _ (by decide) (by decide) _ (hE.below hb') (Ints.new _ [5])).mono ?_
  rintro e w3 ⟨rfl, hx⟩
  have hb := Kit.Below.then hb' hx
  clear hb' hx
  go_wp2_with fail
  have hb' := Kit.Below.al hb (.cells ([1, 1, 3, 5].map fun (n : Nat) => Value.int .i64 n).toArray 3)
  refine (kinds_any ⟨#[95, 32, 115, 99, 120, 32, 115, 99]⟩ _ lex_k3 _ _ (by decide) (by decide) _ (hE.below hb') (Ints.new _ [1, 1, 3, 5])).mono ?_
  rintro e w4 ⟨rfl, hx⟩
  have hb := Kit.Below.then hb' hx
  clear hb' hx
  go_wp2_with fail
  refine (refused_any ⟨#[49, 50, 97]⟩ 1 3 lex_r1 _ (hE.below hb)).mono ?_
  rintro e w5 ⟨rfl, hx⟩
  have hb := Kit.Below.then hb hx
  clear hx
  go_wp2_with fail
  refine (refused_any ⟨#[48, 120]⟩ 1 3 lex_r2 _ (hE.below hb)).mono ?_
  rintro e w6 ⟨rfl, hx⟩
  have hb := Kit.Below.then hb hx
  clear hx
  go_wp2_with fail
  refine (refused_any ⟨#[48, 120, 103]⟩ 1 3 lex_r3 _ (hE.below hb)).mono ?_
  rintro e w7 ⟨rfl, hx⟩
  have hb := Kit.Below.then hb hx
  clear hx
  go_wp2_with fail
  refine (refused_any ⟨#[49, 56, 52, 52, 54, 55, 52, 52, 48, 55, 51, 55, 48, 57, 53, 53, 49, 54, 49, 54]⟩ 1 1 lex_r4 _ (hE.below hb)).mono ?_
  rintro e w8 ⟨rfl, hx⟩
  have hb := Kit.Below.then hb hx
  clear hx
  go_wp2_with fail
  refine (refused_any ⟨#[255]⟩ 1 1 lex_r5 _ (hE.below hb)).mono ?_
  rintro e w9 ⟨rfl, hx⟩
  have hb := Kit.Below.then hb hx
  clear hx
  go_wp2_with fail
  refine (refused_any ⟨#[195, 169]⟩ 1 1 lex_r6 _ (hE.below hb)).mono ?_
  rintro e w10 ⟨rfl, hx⟩
  have hb := Kit.Below.then hb hx
  clear hx
  go_wp2_with fail
  refine (refused_any ⟨#[206, 177, 206]⟩ 1 2 lex_r7 _ (hE.below hb)).mono ?_
  rintro e w11 ⟨rfl, hx⟩
  have hb := Kit.Below.then hb hx
  clear hx
  go_wp2_with fail
  refine (Lex_any _ _ _ [49, 56, 52, 52, 54, 55, 52, 52, 48, 55, 51, 55, 48, 57, 53, 53, 49, 54, 49, 53, 32, 48, 48, 55, 32, 48, 120, 48, 48, 48, 48, 48, 48, 48, 48, 48, 48, 48, 48, 48, 48, 48, 48, 48, 48, 48, 49] _ (hE.below (Kit.Below.al hb _)) (Bytes.new w11 [49, 56, 52, 52, 54, 55, 52, 52, 48, 55, 51, 55, 48, 57, 53, 53, 49, 54, 49, 53, 32, 48, 48, 55, 32, 48, 120, 48, 48, 48, 48, 48, 48, 48, 48, 48, 48, 48, 48, 48, 48, 48, 48, 48, 48, 48, 49] (47, 48))).mono ?_
  rintro e w12 ⟨hb1, hcase⟩
  have hb2 := Kit.Below.then (Kit.Below.al hb _) hb1
  rcases hcase with ⟨q, l0, c0, hl, rfl⟩ | ⟨toks, v, hl, rfl, hown⟩
  · rw [lex_last] at hl
    cases hl
  rw [lex_last] at hl
  injection hl with hl
  subst hl
  obtain ⟨g', cap, rfl, hg', hgl, hcap, hcell⟩ := ownsRow_at hown (by decide)
  have x2 := cellA1 (hcell 2 _ rfl)
  have x7 := cellA1 (hcell 7 _ rfl)
  have x12 := cellA1 (hcell 12 _ rfl)
  clear hcell hown kc
  go_wp2_with fail
  go_ret
  exact ⟨rfl, Kit.Below.al hb2 _⟩
end Go.Proofs.YtpamnnllijkpfaaDoor.LexW
