/- WALKS: bytes of the call's own: appended to, read as bytes. -/
import Derived.Test.YtpamnnllijkpfaaDoorRefN
import Derived.Lib.AppendStr
namespace Go.Proofs.YtpamnnllijkpfaaDoor.LexW
open Go Go.RowKit Go.Proofs.YtpamnnllijkpfaaDoor.Kit Go.Proofs.YtpamnnllijkpfaaDoor.LexP

/-- A slice of bytes that the call owns. -/
def Owns (w : World) (base : Nat) (v : Value) (l : List UInt8) : Prop := w.ownsRow base 5 1 v l.length (bytesV l)
theorem Owns.bytes {w : World} {base : Nat} {v : Value} {l : List UInt8} (h : Owns w base v l) : ∃ A c, v = .slice A l.length c ∧ Bytes w A l.length l ∧ l.length ≤ c := by
  rcases h.2 with ⟨rfl, h0⟩ | ⟨g, cap, cur, rfl, hb, hh, hcap, hm, hsz, htake⟩
  · exact ⟨none, 0, by rw [h0], ⟨rfl, fun j hj => by omega⟩, by omega⟩
  · refine ⟨_, _, rfl, ⟨rfl, fun j hj => ⟨_, rfl, ?_, ?_⟩⟩, hcap⟩
    · rcases Nat.lt_or_ge g w.heap.size with h | h
      · exact h
      · rw [Array.getElem?_eq_none h] at hh; cases hh
    · have hadd : (⟨g, 0, none⟩ : Addr).add j = ⟨g, j, none⟩ := by unfold Addr.add; split <;> simp_all
      rw [hadd, cell_of_row w g j cur 5 (0, 0) hh]
      have h1 : (bytesV l)[j]? = some (.int .u8 ((l[j]).toNat : Nat)) := by simp [bytesV, hj]
      rw [← htake, List.getElem?_take] at h1
      split at h1
      · rw [← Array.getElem?_toList]; exact h1
      · cases h1
theorem Owns.below {w w' : World} {base : Nat} {v : Value} {l : List UInt8} (h : Owns w base v l) (hb : Below w.heap.size w w') : Owns w' base v l := by
  refine ⟨h.1, ?_⟩
  rcases h.2 with h2 | ⟨g, cap, cur, rfl, hb2, hh, r⟩
  · exact .inl h2
  · refine .inr ⟨g, cap, cur, rfl, hb2, ?_, r⟩
    have hlt : g < w.heap.size := by
      rcases Nat.lt_or_ge g w.heap.size with h | h
      · exact h
      · rw [Array.getElem?_eq_none h] at hh; cases hh
    exact (hb.block g hlt).trans hh
/-- Bytes appended to bytes of the call's own. -/
theorem append_owned (W : World) (base : Nat) (v : Value) (l : List UInt8) (A2 : Option Addr) (m c2 : Nat) (l2 : List UInt8) (hown : Owns W base v l) (hb : Bytes W A2 m l2) (hbase : base ≤ W.heap.size) (hsz : l.length + m ≤ 4194304) :
    ∃ v' w', (Builtin.append_ #[32, 32] 32 #[v, .slice A2 m c2]).run Tryd.prog W = .ok v' w' ∧ Owns w' base v' (l ++ l2) ∧ W.grownBy w' v.ownBlock ∧ (∀ b, v'.ownBlock = some b → v.ownBlock = some b ∨ W.heap.size ≤ b) := by
  obtain ⟨i0, hi0, hz0, hz1, hz2⟩ := info_parts info_u8
  obtain ⟨rfl, hb2⟩ := hb
  by_cases hm : l2.length = 0
  · have h0 : l2 = [] := List.eq_nil_of_length_eq_zero hm
    subst h0
    obtain ⟨A, c, rfl, hB, hc⟩ := hown.bytes
    have hs : Src Tryd.prog i0.size 32 (.slice A2 0 c2) 0 [] W := by
      cases A2 with
      | none => exact Src.ofNil W Tryd.underlying32 c2
      | some ad => exact Src.ofSlice W Tryd.underlying32 ad 0 c2 [] (by simp) (fun j u h => by simp at h) (fun _ h => by cases h)
    refine ⟨_, _, run_append_nothing (P := Tryd.prog) W 32 32 32 5 i0 Tryd.underlying32 hi0 A l.length c hc _ hs, by rw [List.append_nil]; exact hown, ⟨rfl, rfl, rfl, Nat.le_refl _, fun _ _ _ => rfl⟩, fun b h => .inl h⟩
  · obtain ⟨ad, rfl, _, _⟩ := hb2 0 (by omega)
    have hnews : ∀ j u, (bytesV l2)[j]? = some u → W.cell? (ad.add j) = some u := fun j u h => by
      obtain ⟨hj, rfl⟩ := bytesV_get _ _ _ h
      obtain ⟨ad', e, _, hc⟩ := hb2 j hj
      injection e with e
      subst e
      exact hc
    obtain ⟨g, cap, w', hrun, h2, h3, h4, _⟩ := run_append_lies (P := Tryd.prog) W 32 32 base 5 i0 (.int .u8 0) 1 1 Tryd.underlying32 hi0 hz0 hz1 hz2 rfl (by omega) v l.length (bytesV l) hown ad l2.length c2 (bytesV l2) (by rw [bytesV_len]; omega) hnews
      (fun u hu => by
        simp only [bytesV, List.mem_map] at hu
        obtain ⟨_, _, rfl⟩ := hu
        rfl) (by omega) (by unfold maxLen; omega) (by omega) hbase _ rfl
    refine ⟨_, _, hrun, ?_, h3, fun b h => ?_⟩
    · unfold Owns
      rw [List.length_append, show bytesV (l ++ l2) = bytesV l ++ bytesV l2 by simp [bytesV]]
      exact h2
    · have : g = b := by simpa [Value.ownBlock] using h
      subst this
      rcases h4 with h4 | h4
      · exact .inl h4
      · exact .inr (by omega)
/-- A text appended to bytes of the call's own. -/
theorem append_text (W : World) (base : Nat) (v : Value) (l : List UInt8) (s : ByteArray) (hown : Owns W base v l) (hbase : base ≤ W.heap.size) (hsz : l.length + s.size ≤ 4194304) :
    ∃ v' w', (Builtin.append_ #[32, 9] 32 #[v, .string s]).run Tryd.prog W = .ok v' w' ∧ Owns w' base v' (l ++ s.data.toList) ∧ W.grownBy w' v.ownBlock := by
  obtain ⟨i0, hi0, hz0, hz1, hz2⟩ := info_parts info_u8
  obtain ⟨v', w', hrun, h2, h3, _⟩ := Lib.run_append_own_string (P := Tryd.prog) W base 32 9 32 5 i0 Tryd.underlying32 Tryd.underlying9 hi0 hz0 hz1 hz2 v l.length (bytesV l) hown s (by unfold maxLen; omega) (by omega) hbase
  refine ⟨v', w', hrun, ?_, h3⟩
  unfold Owns
  rw [List.length_append, show bytesV (l ++ s.data.toList) = bytesV l ++ Lib.strCells s by simp [bytesV, Lib.strCells], ← Lib.size_eq]
  exact h2
theorem Owns.base {w : World} {base k : Nat} {v : Value} {l : List UInt8} (h : Owns w base v l) (hk : v.ownBlock = some k) : base ≤ k := ownsRow_base h hk
/-- What is below the base is as it was. -/
theorem grown_below {W w w' : World} {base : Nat} {v : Value} {l : List UInt8} (h : Owns w base v l) (hb : Below base W w) (hg : w.grownBy w' v.ownBlock) (hbase : base ≤ w.heap.size) : Below base W w' :=
  hb.grown hg hbase (fun _ hj => h.base hj)
end Go.Proofs.YtpamnnllijkpfaaDoor.LexW
