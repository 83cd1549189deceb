/- WALKS: refused, kinds. -/
import Derived.Test.YtpamnnllijkpfaaDoorLexS
import Derived.Lib.ConvBytes
namespace Go.Proofs.YtpamnnllijkpfaaDoor.LexW
open Go Go.RowKit Go.Proofs.YtpamnnllijkpfaaDoor.Kit Go.Proofs.YtpamnnllijkpfaaDoor.LexP

theorem below_bytesWorld (w : World) (s : ByteArray) : Below w.heap.size w (Lib.bytesWorld w 5 s) := by
  refine ⟨?_, ?_, ?_, by rw [Lib.bytesWorld_size]; omega, fun k hk => Lib.bytesWorld_at_old w 5 s k hk⟩ <;>
  · unfold Lib.bytesWorld World.freeze
    rw [if_neg (by decide)]
    rfl
theorem Bytes.conv_new (w : World) (s : ByteArray) : Bytes (Lib.bytesWorld w 5 s) (some ⟨w.heap.size, 0, none⟩) s.size s.data.toList := by
  refine ⟨Lib.size_eq s, fun j hj => ⟨_, rfl, by rw [Lib.bytesWorld_size]; exact Nat.lt_succ_self _, ?_⟩⟩
  have hadd : (⟨w.heap.size, 0, none⟩ : Addr).add j = ⟨w.heap.size, j, none⟩ := by unfold Addr.add; split <;> simp_all
  rw [hadd, Lib.bytesWorld_cell w 5 s j (by rw [Lib.size_eq]; exact hj)]
  rw [List.getD_eq_getElem?_getD, List.getElem?_eq_getElem hj]
  rfl

set_option maxHeartbeats 1000000 in
theorem refused_any (s : ByteArray) (ln cl : Nat) (hl : lexS s.data.toList = .error (20, ln, cl)) (w : World) (hE : Env w) :
    Calls Tryd.prog 11 #[.string s, .int .i64 ln, .int .i64 cl] w fun e w' => e = .returned (.bool true) ∧ Below w.heap.size w w' := by
  have hcb := fun (W : World) => Lib.run_convert_string_bytes (P := Tryd.prog) W 9 32 5 s Tryd.underlying9 Tryd.underlying32 Tryd.underlying5
  have hbw := below_bytesWorld w s
  have HL := Lib.hid hl
  clear hl
  go_enter Tryd.func11, Tryd.ntmps11
  go_wp2_with fail
  refine (Lex_any _ _ _ s.data.toList _ (hE.below hbw) (Bytes.conv_new w s)).mono ?_
  rintro e w1 ⟨hb1, hcase⟩
  have hb2 := Kit.Below.then hbw hb1
  rcases hcase with ⟨q, l0, c0, hl, rfl⟩ | ⟨toks, v, hl, rfl, hown⟩
  · rw [HL.out] at hl
    injection hl with hl
    injection hl with h1 hl
    injection hl with h2 h3
    subst h1 h2 h3
    clear hcb HL hbw
    go_wp2_with fail
    go_ret
    exact ⟨rfl, Kit.Below.al hb2 _⟩
  · rw [HL.out] at hl
    cases hl

/-- A row of kinds. -/
def Ints (w : World) (b : Nat) (ks : List Nat) : Prop := b < w.heap.size ∧ ∀ j (_ : j < ks.length), w.cell? ⟨b, j, none⟩ = some (.int .i64 (ks[j] : Nat))
theorem Ints.below {w w' : World} {b : Nat} {ks : List Nat} (h : Ints w b ks) (hb : Below w.heap.size w w') : Ints w' b ks :=
  ⟨Nat.lt_of_lt_of_le h.1 hb.size, fun j hj => (hb.cell (p := ⟨b, j, none⟩) h.1).trans (h.2 j hj)⟩

theorem toks_kind {toks : List Tok} {k : Nat} (hk : k < toks.length) : (toksC toks)[k * 5]? = some (.int .i64 (toks[k].kind : Nat)) := by
  induction toks generalizing k with
  | nil => simp at hk
  | cons t l ih =>
    cases k with
    | zero => rfl
    | succ k =>
      have e : (toksC (t :: l)) = tokC t ++ toksC l := rfl
      rw [e, List.getElem?_append_right (by simp [tokC]; omega)]
      have e2 : (k + 1) * 5 - (tokC t).length = k * 5 := by simp [tokC]; omega
      rw [e2, ih (by simpa using hk)]
      rfl

def KRel (toks : List Tok) (W : World) (m : Nat) (i : Value) (wr : World) : Prop :=
  ∃ k q : Nat, wr = W.drewN q ∧ k ≤ toks.length ∧ i = .int .i64 k ∧ m = toks.length - k

set_option maxHeartbeats 1000000 in
theorem kinds_any (s : ByteArray) (toks : List Tok) (hl : lexS s.data.toList = .ok toks) (b c : Nat) (h0 : 0 < toks.length) (hlen : toks.length ≤ 1000) (w : World) (hE : Env w) (hI : Ints w b (toks.map (·.kind))) :
    Calls Tryd.prog 10 #[.string s, .slice (some ⟨b, 0, none⟩) toks.length c] w fun e w' => e = .returned (.bool true) ∧ Below w.heap.size w w' := by
  have hcb := fun (W : World) => Lib.run_convert_string_bytes (P := Tryd.prog) W 9 32 5 s Tryd.underlying9 Tryd.underlying32 Tryd.underlying5
  have hbw := below_bytesWorld w s
  have HL := Lib.hid hl
  clear hl
  go_enter Tryd.func10, Tryd.ntmps10
  go_wp2_with fail
  refine (Lex_any _ _ _ s.data.toList _ (hE.below hbw) (Bytes.conv_new w s)).mono ?_
  rintro e w1 ⟨hb1, hcase⟩
  have hb2 := Kit.Below.then hbw hb1
  rcases hcase with ⟨q, l0, c0, hl, rfl⟩ | ⟨toks2, v, hl, rfl, hown⟩
  · rw [HL.out] at hl
    cases hl
  · rw [HL.out] at hl
    injection hl with hl
    subst hl
    have hI2 := (hI.below hb2).below (Kit.Below.al (Below.refl w1.heap.size w1) (.cells #[.int .i64 0, .int .i64 0, .int .i64 0] 29))
    obtain ⟨g', cap, rfl, hg', hgl, hcap, hcell⟩ := ownsRow_at hown h0
    have hkind : ∀ o k (hk : k < toks.length), (w1.alloc o).cell? ⟨g', k * 5, none⟩ = some (.int .i64 (toks[k].kind : Nat)) := fun o k hk => cellA1 (hcell _ _ (toks_kind hk)) o
    have hb3 := Kit.Below.al hb2 (.cells #[.int .i64 0, .int .i64 0, .int .i64 0] 29)
    clear hcb hbw hb1 hb2 hown hcell hI hE HL
    go_wp2_with fail
    have hkind := fun k hk => hkind (.cells #[.int .i64 0, .int .i64 0, .int .i64 0] 29) k hk
    generalize w1.alloc (.cells #[.int .i64 0, .int .i64 0, .int .i64 0] 29) = W at *
    go_loopg [7] toks.length (fun m i wr => KRel toks W m i wr)
    case atStart => exact ⟨0, 0, rfl, Nat.zero_le _, rfl, rfl⟩
    case round =>
      obtain ⟨k, q, rfl, hk, rfl, hm⟩ := hrel
      have HM := Lib.hid hm
      clear hm
      by_cases hlt : k < toks.length
      · have x1 := hkind k hlt
        have x2 := hI2.2 k (by simpa using hlt)
        simp only [List.getElem_map] at x2
        have a1 : (0 : Int) ≤ (k : Int) := by omega
        have a2 : (k : Int) < (toks.length : Int) := by omega
        clear hkind hI2
        go_wp2_with fail
        go_quiet (fail)
        go_wp2_with fail
        go_roundg (toks.length - (k + 1))
        case measure => have := HM.out; omega
        case rel => exact ⟨k + 1, _, rfl, by omega, by go_num, rfl⟩
      · have a2 : (toks.length : Int) ≤ (k : Int) := by omega
        clear hkind hI2
        go_wp2_with fail
        go_ret
        exact ⟨rfl, Kit.Below.dn hb3⟩
end Go.Proofs.YtpamnnllijkpfaaDoor.LexW
