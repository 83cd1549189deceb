/- WALKS: bytes appended to bytes, whether there is room or not. -/
import Derived.Test.YtpamnnllijkpfaaDoorRefM
import Derived.Deep.Upon
namespace Go.Proofs.YtpamnnllijkpfaaDoor.LexW
open Go Go.RowKit Go.Proofs.YtpamnnllijkpfaaDoor.Kit Go.Proofs.YtpamnnllijkpfaaDoor.LexP

theorem info_u8 : (Tryd.prog.info? 5).map (fun i => (i.zero, i.size, i.bytes)) = some (some (.int .u8 0), 1, 1) := by kernel_rfl

theorem Below_setCells (b : Nat) : ∀ (vs : List Value) (o : Nat) (w0 w : World), Below b w0 w → Below b w0 (w.setCells b o vs)
  | [], _, _, _, h => h
  | _ :: r, o, w0, _, h => Below_setCells b r (o + 1) w0 _ (h.setCell (Nat.le_refl _) _)

def bytesV (l : List UInt8) : List Value := l.map fun b => .int .u8 (b.toNat : Nat)
theorem bytesV_len (l : List UInt8) : (bytesV l).length = l.length := by simp [bytesV]
theorem bytesV_get (l : List UInt8) (j : Nat) (u : Value) (h : (bytesV l)[j]? = some u) : ∃ hj : j < l.length, u = .int .u8 ((l[j]).toNat : Nat) := by
  simp only [bytesV, List.getElem?_map, Option.map_eq_some_iff] at h
  obtain ⟨x, h1, rfl⟩ := h
  obtain ⟨hj, rfl⟩ := List.getElem?_eq_some_iff.1 h1
  exact ⟨hj, rfl⟩

theorem wpList_append_given {P : Program} {w : World} {ops : Array Oper} {rest : List Oper} {o : Oper} {a : Act} {Q : Exit → Act → World → Prop} (hgd : o.guard = none) (s x : Operand) (t : TypeId)
    (ho : o.op = .call { callee := .builtin .append, args := #[s, x], argTypes := #[t, t] }) {vs vx v' : Value} {w' : World} (hs : a.eval s = vs) (hx : a.eval x = vx)
    (hrun : (Builtin.append_ #[t, t] o.type #[vs, vx]).run P w = .ok v' w') (hK : wpList P ops Q rest (a.put o.dst v') w') : wpList P ops Q (o :: rest) a w := by
  refine wpList_plain hgd fun K hK' => ?_
  unfold Oper.wp
  simp [execOp, ho, resolve, invoke, builtin, hs, hx, hrun, Result.andThen]
  exact hK' _ _ hK

theorem append_run (W : World) (b n cap m c2 : Nat) (l l2 : List UInt8) (ad : Addr) (hn : n = l.length) (hm : m = l2.length) (hb : b < W.heap.size) (hncap : n ≤ cap)
    (hcells : ∀ j (h : j < l.length), W.cell? ⟨b, j, none⟩ = some (.int .u8 ((l[j]).toNat : Nat)))
    (hspare : ∀ j, n ≤ j → j < cap → (W.cell? ⟨b, j, none⟩).isSome = true ∧ W.frozen? ⟨b, j, none⟩ = false)
    (hsrc : ∀ j (h : j < l2.length), W.cell? (ad.add j) = some (.int .u8 ((l2[j]).toNat : Nat))) (hsz : n + m ≤ 4194304) :
    ∃ g cap' w', (Builtin.append_ #[32, 32] 32 #[.slice (some ⟨b, 0, none⟩) n cap, .slice (some ad) m c2]).run Tryd.prog W = .ok (.slice (some ⟨g, 0, none⟩) (n + m : Nat) cap') w' ∧
      Bytes w' (some ⟨g, 0, none⟩) (n + m) (l ++ l2) ∧ Below b W w' ∧ n + m ≤ cap' := by
  obtain ⟨i0, hi0, hz0, hz1, hz2⟩ := info_parts info_u8
  have hs : Src Tryd.prog i0.size 32 (.slice (some ad) m c2) m (bytesV l2) W :=
    Src.ofSlice W Tryd.underlying32 ad m c2 (bytesV l2) (by rw [bytesV_len, hz1]; omega) (fun j u h => by
      obtain ⟨hj, rfl⟩ := bytesV_get _ _ _ h
      exact hsrc j hj) (fun u hu => by
      simp only [bytesV, List.mem_map] at hu
      obtain ⟨_, _, rfl⟩ := hu
      rfl)
  subst hn hm
  by_cases hroom : l.length + l2.length ≤ cap
  · have hrun := run_append_room_src (P := Tryd.prog) W 32 32 32 5 i0 Tryd.underlying32 hi0 b 0 l.length cap _ _ _ hs hroom
      (fun j hj => by rw [bytesV_len] at hj; rw [hz1]; exact (hspare _ (by omega) (by omega)).1) (fun j hj => by rw [bytesV_len] at hj; rw [hz1]; exact (hspare _ (by omega) (by omega)).2)
    refine ⟨b, cap, _, hrun, ⟨by simp, fun j hj => ⟨_, rfl, ?_, ?_⟩⟩, Below_setCells _ _ _ _ _ (Below.refl _ _), hroom⟩
    · exact Nat.lt_of_lt_of_le hb (Below_setCells b _ _ W W (Below.refl _ _)).size
    · have hadd : (⟨b, 0, none⟩ : Addr).add j = ⟨b, j, none⟩ := by unfold Addr.add; split <;> simp_all
      rw [hadd, hz1]
      by_cases h1 : j < l.length
      · rw [World.cell?_setCells_out b _ _ _ _ (fun _ _ => Or.inl (by show j < 0 + l.length * 1; omega)), hcells j h1, List.getElem_append_left h1]
      · have h2 : j - l.length < l2.length := by rw [List.length_append] at hj; omega
        have := World.cell?_setCells_in b (bytesV l2) (0 + l.length * 1) W (fun j hj => by rw [bytesV_len] at hj; exact (hspare _ (by omega) (by omega)).1) (j - l.length) (by rw [bytesV_len]; exact h2)
        rw [show 0 + l.length * 1 + (j - l.length) = j by omega] at this
        rw [this]
        simp [bytesV, List.getElem_append_right (show l.length ≤ j by omega)]
  · have hold := run_firstCells_some (P := Tryd.prog) W.drew i0.size l.length ⟨b, 0, none⟩ l.length cap (bytesV l) (by rw [bytesV_len, hz1]; omega) (fun j u h => by
      obtain ⟨hj, rfl⟩ := bytesV_get _ _ _ h
      have hadd : (⟨b, 0, none⟩ : Addr).add j = ⟨b, j, none⟩ := by unfold Addr.add; split <;> simp_all
      rw [hadd]
      exact hcells j hj)
    have hg : cap < l.length + l2.length := by omega
    have hrun := run_append_grow_src (P := Tryd.prog) W 32 32 32 5 i0 (.int .u8 0) Tryd.underlying32 hi0 hz0 (some ⟨b, 0, none⟩) l.length cap (bytesV l) hold _ _ _ hs hg (by omega) (growslice_fits hg (by rw [hz2]; omega))
    refine ⟨W.heap.size, _, _, hrun, ⟨by simp, fun j hj => ⟨_, rfl, by simp, ?_⟩⟩, ((Below.refl b W).drew).alloc (by simp; omega) _, grownCap_ge _ _ _ _⟩
    have hadd : (⟨W.heap.size, 0, none⟩ : Addr).add j = ⟨W.heap.size, j, none⟩ := by unfold Addr.add; split <;> simp_all
    rw [hadd]
    have e1 : ∀ (cs : Array Value), (W.drew.alloc (.cells cs 5)).cell? ⟨W.heap.size, j, none⟩ = cs[j]? := fun cs => World.cell?_alloc_new W.drew _ _ j
    rw [e1, Array.getElem?_append_left (by simp [bytesV]; rw [List.length_append] at hj; exact hj)]
    simp only [List.getElem?_toArray]
    rw [show bytesV l ++ bytesV l2 = bytesV (l ++ l2) by simp [bytesV]]
    simp only [bytesV, List.getElem?_map, List.getElem?_eq_getElem hj, Option.map_some]
end Go.Proofs.YtpamnnllijkpfaaDoor.LexW
