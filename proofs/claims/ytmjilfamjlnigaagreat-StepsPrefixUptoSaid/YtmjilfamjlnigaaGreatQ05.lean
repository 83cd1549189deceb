/- WALKS: what a whole program is: an act's place. -/
import Derived.Test.YtmjilfamjlnigaaGreatQ04
namespace Go.Proofs.YtmjilfamjlnigaaGreat.SrcW
open Go Go.RowKit Go.Proofs.YtmjilfamjlnigaaGreat.Kit Go.Proofs.YtmjilfamjlnigaaGreat.SrcP

/-- An act's cells: its three lists are slices that are read. -/
def actC (a : SrcP.Act) (vi ve vf : Value) : Array Value := #[.int .i64 a.op, .int .i64 a.dst, .int .i64 a.base, .int .i64 a.size, vi, ve, vf, .int .i64 a.mode, .int .i64 a.to, .int .i64 a.line, .int .i64 a.col]
/-- A slice that is nil has no room. -/
def NilOk (v : Value) : Prop := ∀ n c, v = .slice none n c → c = 0
structure ActV (w : World) (vi ve vf : Value) (a : SrcP.Act) : Prop where
  index : NodesAt w vi a.index
  e : NodesAt w ve a.e
  f : NodesAt w vf a.f
  hi : a.index.length ≤ 1048576
  he : a.e.length ≤ 1048576
  hf : a.f.length ≤ 1048576
  ni : NilOk vi
  ne : NilOk ve
  nf : NilOk vf
theorem ActV.below {w w' : World} {vi ve vf : Value} {a : SrcP.Act} (h : ActV w vi ve vf a) (hb : Below w.heap.size w w') : ActV w' vi ve vf a := ⟨h.index.below hb, h.e.below hb, h.f.below hb, h.hi, h.he, h.hf, h.ni, h.ne, h.nf⟩

theorem ofInt_i64 (a : Nat) (ha : a < 9223372036854775808) : (BitVec.ofInt 64 (a : Int)).toNat = a := by
  rw [BitVec.ofInt_natCast, BitVec.toNat_ofNat]; exact Nat.mod_eq_of_lt (by omega)
theorem i64_and_nat (a b : Nat) (ha : a < 9223372036854775808) (hb : b < 9223372036854775808) : bits .and .i64 (a : Int) (b : Int) = ((a &&& b : Nat) : Int) := by
  have hx : a &&& b < 2 ^ 63 := Nat.and_lt_two_pow _ (by omega)
  show IntKind.i64.wrap ((BitVec.ofInt 64 (a : Int) &&& BitVec.ofInt 64 (b : Int)).toNat : Int) = _
  rw [BitVec.toNat_and, ofInt_i64 a ha, ofInt_i64 b hb, IntKind.wrap_i64]
  omega
theorem i64_and_pow (n : Nat) (h : n ≤ 1024) : bits .and .i64 (n : Int) ((n : Int) - 1) = (((n : Int).toNat &&& ((n : Int) - 1).toNat : Nat) : Int) := by
  rcases Nat.eq_zero_or_pos n with rfl | hp
  · decide
  · have e : ((n : Int) - 1) = ((n - 1 : Nat) : Int) := by omega
    rw [e, i64_and_nat n (n - 1) (by omega) (by omega)]
    simp

set_option maxRecDepth 100000 in
set_option maxHeartbeats 4000000 in
/-- A cell alone. -/
theorem wholePlace_one (a : SrcP.Act) (vi ve vf vt : Value) (cells : Int) (hc : 0 ≤ cells ∧ cells ≤ 4096) (locals : Nat) (w : World) (h0 : a.size = 0) (ha : ActV w vi ve vf a) :
    Calls Tryz.prog 97 #[.agg (actC a vi ve vf), .agg #[.int .i64 cells, vt], .int .i64 locals] w fun r w' => r = .returned (.bool (placeOk cells locals a)) ∧ Below w.heap.size w w' := by
  unfold actC
  have HA := Lib.hid ha
  obtain ⟨op, dst, base, size, index, e, f, mode, to_, line, col⟩ := a
  simp only at HA h0 ⊢
  subst h0
  clear ha
  have hp0 : placeOk cells locals ⟨op, dst, base, 0, index, e, f, mode, to_, line, col⟩ = (!decide (base < 0) && !decide (cells - 1 < base) && index.isEmpty) := by
    have : max (1:Int) 0 = 1 := by decide
    unfold placeOk
    simp only [this]
    by_cases h4 : base < 0 <;> by_cases h5 : cells - 1 < base <;> simp [h4, h5] <;> omega
  have HP0 := Lib.hid hp0
  clear hp0
  have q3 : (bits .and .i64 0 (0 - 1) != 0) = false := by decide
  have q3' : (bits .and .i64 0 (-1) != 0) = false := by decide
  by_cases h4 : base < 0
  · skip
    go_enter Tryz.func97, Tryz.ntmps97
    go_wp2_with fail
    go_ret
    refine ⟨congrArg (fun x : Bool => Ending.returned (.bool x)) (?_ : false = placeOk cells locals _), Kit.Below.al (Kit.Below.al (Below.refl _ _) _) _⟩
    rw [HP0.out]; simp [h4]
  by_cases h5 : cells - 1 < base
  · skip
    go_enter Tryz.func97, Tryz.ntmps97
    go_wp2_with fail
    go_ret
    refine ⟨congrArg (fun x : Bool => Ending.returned (.bool x)) (?_ : false = placeOk cells locals _), Kit.Below.al (Kit.Below.al (Below.refl _ _) _) _⟩
    rw [HP0.out]; simp [h5]
  obtain ⟨I, ci, hvi, _⟩ := HA.out.index
  simp only at hvi
  subst hvi
  cases index with
  | nil =>
    go_enter Tryz.func97, Tryz.ntmps97
    go_wp2_with fail
    go_ret
    refine ⟨congrArg (fun x : Bool => Ending.returned (.bool x)) (?_ : true = placeOk cells locals _), Kit.Below.al (Kit.Below.al (Below.refl _ _) _) _⟩
    rw [HP0.out]; simp [h4, h5]
  | cons n0 index =>
    have hpl : ((index.length + 1 : Nat) : Int) ≠ 0 := by omega
    have q5 : (((n0 :: index).length : Int) == 0) = false := by rw [List.length_cons]; simpa using hpl
    have HP1 : Hid (placeOk cells locals ⟨op, dst, base, 0, n0 :: index, e, f, mode, to_, line, col⟩ = false) := Lib.hid (by rw [HP0.out]; simp)
    generalize hL : (n0 :: index).length = L at *
    go_enter Tryz.func97, Tryz.ntmps97
    go_wp2_with fail
    go_ret
    exact ⟨congrArg (fun x : Bool => Ending.returned (.bool x)) HP1.out.symm, Kit.Below.al (Kit.Below.al (Below.refl _ _) _) _⟩

set_option maxRecDepth 100000 in
set_option maxHeartbeats 4000000 in
/-- An array. -/
theorem wholePlace_arr (a : SrcP.Act) (vi ve vf vt : Value) (cells : Int) (hc : 0 ≤ cells ∧ cells ≤ 4096) (locals : Nat) (hloc : locals ≤ 24) (w : World) (h0 : a.size ≠ 0) (ha : ActV w vi ve vf a) :
    Calls Tryz.prog 97 #[.agg (actC a vi ve vf), .agg #[.int .i64 cells, vt], .int .i64 locals] w fun r w' => r = .returned (.bool (placeOk cells locals a)) ∧ Below w.heap.size w w' := by
  unfold actC
  have HA := Lib.hid ha
  obtain ⟨op, dst, base, size, index, e, f, mode, to_, line, col⟩ := a
  simp only at HA h0 ⊢
  clear ha
  by_cases h1 : size < 0
  · skip
    go_enter Tryz.func97, Tryz.ntmps97
    go_wp2_with fail
    go_ret
    refine ⟨congrArg (fun x : Bool => Ending.returned (.bool x)) (?_ : false = placeOk cells locals _), Kit.Below.al (Kit.Below.al (Below.refl _ _) _) _⟩
    simp [placeOk, h1]
  by_cases h2 : 1024 < size
  · skip
    go_enter Tryz.func97, Tryz.ntmps97
    go_wp2_with fail
    go_ret
    refine ⟨congrArg (fun x : Bool => Ending.returned (.bool x)) (?_ : false = placeOk cells locals _), Kit.Below.al (Kit.Below.al (Below.refl _ _) _) _⟩
    simp [placeOk, h2]
  obtain ⟨n, rfl⟩ := Int.eq_ofNat_of_zero_le (Int.not_lt.1 h1)
  have hn0 : 0 < n := by omega
  have hand := i64_and_pow n (by omega)
  by_cases h3 : bits .and .i64 (n : Int) ((n : Int) - 1) = 0
  · have q3 : (bits .and .i64 (n : Int) ((n : Int) - 1) != 0) = false := by simp [h3]
    have h3' : (n : Int).toNat &&& ((n : Int) - 1).toNat = 0 := by rw [hand] at h3; exact_mod_cast h3
    have hmx2 : max 1 (n : Int) = n := by omega
    have hp0 : placeOk cells locals ⟨op, dst, base, n, index, e, f, mode, to_, line, col⟩ = (!decide (base < 0) && !decide (cells - (n : Int) < base) && exprOk index locals) := by
      unfold placeOk
      simp only [hmx2, h3']
      have q6 : (0 : Int) < n := by omega
      have q7 : ¬ ((n : Int) = 0) := by omega
      have q8 : ((n : Int) == 0) = false := by simp; omega
      by_cases h4 : base < 0 <;> by_cases h5 : cells - (n : Int) < base <;> simp [h1, h2, h4, h5, hn0, q6, q7, q8] <;> omega
    have HP0 := Lib.hid hp0
    clear h3' hand h3 hmx2 hp0
    by_cases h4 : base < 0
    · skip
      go_enter Tryz.func97, Tryz.ntmps97
      go_wp2_with fail
      go_ret
      refine ⟨congrArg (fun x : Bool => Ending.returned (.bool x)) (?_ : false = placeOk cells locals _), Kit.Below.al (Kit.Below.al (Below.refl _ _) _) _⟩
      rw [HP0.out]; simp [h4]
    have hn1 : ¬ ((n : Int) < 1) := by omega
    have hn2 : (1 : Int) ≤ n := by omega
    have qmx : (if (1 : Int) < n then (n : Int) else 1) = n := by split <;> omega
    by_cases h5 : cells - (n : Int) < base
    · skip
      go_enter Tryz.func97, Tryz.ntmps97
      go_wp2_with fail
      go_ret
      refine ⟨congrArg (fun x : Bool => Ending.returned (.bool x)) (?_ : false = placeOk cells locals _), Kit.Below.al (Kit.Below.al (Below.refl _ _) _) _⟩
      rw [HP0.out]; simp [h5]
    have q5 : ((n : Int) == 0) = false := by simp; omega
    have q6 : (0 : Int) < n := by omega
    have HP := Lib.hid (show placeOk cells locals ⟨op, dst, base, n, index, e, f, mode, to_, line, col⟩ = exprOk index locals by rw [HP0.out]; simp [h4, h5])
    obtain ⟨I, ci, hvi, _⟩ := HA.out.index
    simp only at hvi
    subst hvi
    have HE : ∀ w2, Below w.heap.size w w2 → Hid (Calls Tryz.prog 98 #[.slice I index.length ci, .int .i64 locals] w2 fun r w' => r = .returned (.bool (exprOk index locals)) ∧ Below w2.heap.size w2 w') :=
      fun w2 hb2 => Lib.hid (expression_any I ci index locals hloc HA.out.hi w2 (HA.out.index.below hb2))
    generalize hL : index.length = L at *
    have HB := Kit.Below.al (Kit.Below.al (Below.refl w.heap.size w) (.cells #[.int .i64 op, .int .i64 dst, .int .i64 base, .int .i64 n, .slice I L ci, ve, vf, .int .i64 mode, .int .i64 to_, .int .i64 line, .int .i64 col] 58)) (.cells #[.int .i64 cells, vt] 24)
    have HE2 := HE _ HB
    clear HE
    go_enter Tryz.func97, Tryz.ntmps97
    go_wp2_with (go_at_call 98; refine HE2.out.mono ?_; rintro e w2 ⟨rfl, hb2⟩)
    go_ret
    exact ⟨congrArg (fun x : Bool => Ending.returned (.bool x)) HP.out.symm, Kit.Below.then HB hb2⟩
  · have q3 : (bits .and .i64 (n : Int) ((n : Int) - 1) != 0) = true := by simp [h3]
    have h3' : (n : Int).toNat &&& ((n : Int) - 1).toNat ≠ 0 := by rw [hand] at h3; exact_mod_cast h3
    have H3 := Lib.hid h3'
    clear h3' hand
    go_enter Tryz.func97, Tryz.ntmps97
    go_wp2_with fail
    go_ret
    refine ⟨congrArg (fun x : Bool => Ending.returned (.bool x)) (?_ : false = placeOk cells locals _), Kit.Below.al (Kit.Below.al (Below.refl _ _) _) _⟩
    simp only [placeOk, H3.out, ne_eq, not_false_eq_true, true_or, or_true, if_true]

theorem wholePlace_any (a : SrcP.Act) (vi ve vf vt : Value) (cells : Int) (hc : 0 ≤ cells ∧ cells ≤ 4096) (locals : Nat) (hloc : locals ≤ 24) (w : World) (ha : ActV w vi ve vf a) :
    Calls Tryz.prog 97 #[.agg (actC a vi ve vf), .agg #[.int .i64 cells, vt], .int .i64 locals] w fun r w' => r = .returned (.bool (placeOk cells locals a)) ∧ Below w.heap.size w w' := by
  by_cases h0 : a.size = 0
  · exact wholePlace_one a vi ve vf vt cells hc locals w h0 ha
  · exact wholePlace_arr a vi ve vf vt cells hc locals hloc w h0 ha
end Go.Proofs.YtmjilfamjlnigaaGreat.SrcW
/- MEMORY: a whole program of the source, as it lies; what stays of it. -/
namespace Go.Proofs.YtmjilfamjlnigaaGreat.SrcP
theorem exprOk_evals (l : List SrcP.Node) (locals : Nat) (h : exprOk l locals = true) : EvalsAll locals l := by
  simp only [exprOk, Bool.and_eq_true, decide_eq_true_eq] at h
  refine ⟨h.2.1, fun i n hi => ?_⟩
  have hn := nodesOk_all locals l 0 h.1 i n hi
  rw [Nat.zero_add] at hn
  unfold nodeOk at hn
  unfold Evals
  split at hn
  · exact .inl (by assumption)
  · split at hn
    · rename_i h2
      simp only [Bool.and_eq_true, decide_eq_true_eq] at hn
      exact .inr (.inl ⟨h2, by omega⟩)
    · split at hn
      · rename_i h3
        simp only [Bool.and_eq_true, decide_eq_true_eq] at hn
        exact .inr (.inr (.inl ⟨h3.1, h3.2, hn.1⟩))
      · simp only [Bool.and_eq_true, decide_eq_true_eq] at hn
        exact .inr (.inr (.inr ⟨hn.2.2.1.1, hn.1.1, hn.1.2, hn.2.1.1, hn.2.1.2⟩))
end Go.Proofs.YtmjilfamjlnigaaGreat.SrcP
namespace Go.Proofs.YtmjilfamjlnigaaGreat.SrcW
open Go Go.RowKit Go.Proofs.YtmjilfamjlnigaaGreat.Kit Go.Proofs.YtmjilfamjlnigaaGreat.SrcP

/-- A slice of acts, read. -/
def ActsAt (w : World) (v : Value) (l : List SrcP.Act) : Prop :=
  ∃ A c, v = .slice A l.length c ∧ ∀ i a, l[i]? = some a → ∃ ad vi ve vf, A = some ad ∧ CellsAt w (ad.add (i * 11)) (actC a vi ve vf).toList ∧ ActV w vi ve vf a
theorem ActsAt.below {w w' : World} {v : Value} {l : List SrcP.Act} (h : ActsAt w v l) (hb : Below w.heap.size w w') : ActsAt w' v l := by
  obtain ⟨A, c, rfl, h⟩ := h
  refine ⟨A, c, rfl, fun i a hi => ?_⟩
  obtain ⟨ad, vi, ve, vf, h1, h2, h3⟩ := h i a hi
  exact ⟨ad, vi, ve, vf, h1, h2.below hb, h3.below hb⟩
/-- A slice of threads, read. -/
def ThreadsAt (w : World) (v : Value) (l : List SrcP.Thread) : Prop :=
  ∃ A c, v = .slice A l.length c ∧ ∀ i t, l[i]? = some t → ∃ ad va, A = some ad ∧ CellsAt w (ad.add (i * 2)) [.int .i64 t.locals, va] ∧ ActsAt w va t.acts ∧ (t.acts.length ≤ 1048576 ∧ NilOk va)
theorem ThreadsAt.below {w w' : World} {v : Value} {l : List SrcP.Thread} (h : ThreadsAt w v l) (hb : Below w.heap.size w w') : ThreadsAt w' v l := by
  obtain ⟨A, c, rfl, h⟩ := h
  refine ⟨A, c, rfl, fun i a hi => ?_⟩
  obtain ⟨ad, va, h1, h2, h3, h4⟩ := h i a hi
  exact ⟨ad, va, h1, h2.below hb, h3.below hb, h4⟩

/-! What holds acts and their nodes stays. -/
def Still (T : TypeId → Prop) (w w' : World) : Prop := ∀ (k : Nat) (cs : Array Value) (t : TypeId) (fr : Nat × Nat), w.heap[k]? = some (Obj.cells cs t fr) → T t → w'.heap[k]? = some (Obj.cells cs t fr)
section
variable {T : TypeId → Prop}
theorem Still.refl (w : World) : Still T w w := fun _ _ _ _ h _ => h
theorem Still.trans {w w1 w2 : World} (h : Still T w w1) (h' : Still T w1 w2) : Still T w w2 := fun k cs t fr hk ht => h' k cs t fr (h k cs t fr hk ht) ht
theorem Still.sub {T' : TypeId → Prop} {w w' : World} (h : Still T w w') (hs : ∀ t, T' t → T t) : Still T' w w' := fun k cs t fr hk ht => h k cs t fr hk (hs t ht)
theorem Still.below {w w' : World} (h : Below w.heap.size w w') : Still T w w' := fun k cs t fr hk _ => by
  rw [h.block k]
  · exact hk
  · rcases Nat.lt_or_ge k w.heap.size with h | h
    · exact h
    · rw [Array.getElem?_eq_none h] at hk; cases hk
theorem Still.al (w : World) (o : Obj) : Still T w (w.alloc o) := Still.below (Kit.Below.al (Below.refl _ _) _)
theorem Still.dn (w : World) (n : Nat) : Still T w (w.drewN n) := fun _ _ _ _ h _ => h
theorem Still.set {w : World} {g o : Nat} {t : TypeId} {cs : Array Value} (h : Blk w g t cs) (ht : ¬ T t) (u : Value) : Still T w (w.setCell ⟨g, o, none⟩ u) := fun k cs' t' fr hk hh => by
  rw [Below.heap_setCell w ⟨g, o, none⟩ u k, hk]
  rintro rfl
  unfold Blk at h
  rw [h] at hk
  injection hk with hk
  injection hk with _ hk
  subst hk
  exact ht hh
/-- An array of another element's type stays, turned or not. -/
theorem Still.grown {w w' : World} {row : Option Nat} (h : w.grownBy w' row) (hr : ∀ k, row = some k → ∀ (cs : Array Value) (t : TypeId) (fr : Nat × Nat), w.heap[k]? = some (Obj.cells cs t fr) → ¬ T t) : Still T w w' := fun k cs t fr hk hh => by
  rw [h.block k]
  · exact hk
  · rcases Nat.lt_or_ge k w.heap.size with h | h
    · exact h
    · rw [Array.getElem?_eq_none h] at hk; cases hk
  · intro e
    exact hr k e.symm cs t fr hk hh
end
def TN (t : TypeId) : Prop := t = 112
def TA (t : TypeId) : Prop := t = 58 ∨ t = 112
def NodesS (w : World) (v : Value) (l : List SrcP.Node) : Prop := ∀ w', Still TN w w' → NodesAt w' v l
def ActVS (w : World) (vi ve vf : Value) (a : SrcP.Act) : Prop := ∀ w', Still TA w w' → ActV w' vi ve vf a
def ActsS (w : World) (v : Value) (l : List SrcP.Act) : Prop :=
  ∃ A c, v = .slice A l.length c ∧ ∀ i a, l[i]? = some a → ∃ ad vi ve vf, A = some ad ∧ (∀ w', Still TA w w' → CellsAt w' (ad.add (i * 11)) (actC a vi ve vf).toList) ∧ ActVS w vi ve vf a
theorem ActVS.still {w w' : World} {vi ve vf : Value} {a : SrcP.Act} (h : ActVS w vi ve vf a) (hs : Still TA w w') : ActVS w' vi ve vf a := fun w2 h2 => h w2 (hs.trans h2)
theorem ActVS.here {w : World} {vi ve vf : Value} {a : SrcP.Act} (h : ActVS w vi ve vf a) : ActV w vi ve vf a := h w (Still.refl w)
theorem ActsS.still {w w' : World} {v : Value} {l : List SrcP.Act} (h : ActsS w v l) (hs : Still TA w w') : ActsS w' v l := by
  obtain ⟨A, c, rfl, h⟩ := h
  refine ⟨A, c, rfl, fun i a hi => ?_⟩
  obtain ⟨ad, vi, ve, vf, h1, h2, h3⟩ := h i a hi
  exact ⟨ad, vi, ve, vf, h1, fun w2 hw2 => h2 w2 (hs.trans hw2), h3.still hs⟩
theorem NodesS.still {w w' : World} {v : Value} {l : List SrcP.Node} (h : NodesS w v l) (hs : Still TN w w') : NodesS w' v l := fun w2 h2 => h w2 (hs.trans h2)
theorem NodesS.here {w : World} {v : Value} {l : List SrcP.Node} (h : NodesS w v l) : NodesAt w v l := h w (Still.refl w)
end Go.Proofs.YtmjilfamjlnigaaGreat.SrcW
/- PLAIN: a thread that is well stays well. No program in sight. -/
namespace Go.Proofs.YtmjilfamjlnigaaGreat.SrcP
open Go Go.Proofs.YtmjilfamjlnigaaGreat.SrcW

theorem nodeV_lt (locals v : List Nat) (n : SrcP.Node) (hl : ∀ x ∈ locals, x < M64) (hv : ∀ x ∈ v, x < M64) (hn : n.val < M64) : nodeV locals v n < M64 := by
  have hg : ∀ (l : List Nat) (i : Nat), (∀ x ∈ l, x < M64) → l.getD i 0 < M64 := fun l i h => by
    rw [List.getD]
    cases hi : l[i]? with
    | none => decide
    | some x => exact h x (List.mem_of_getElem? hi)
  unfold nodeV
  split
  · exact hn
  · split
    · exact hg _ _ hl
    · split
      · exact one_lt _ _ (hg _ _ hv)
      · exact two_lt _ _ _ (hg _ _ hv) (hg _ _ hv)
theorem evalL_lt (locals : List Nat) (hl : ∀ x ∈ locals, x < M64) (e : List SrcP.Node) : ∀ v : List Nat, (∀ x ∈ v, x < M64) → (∀ n ∈ e, n.val < M64) → ∀ x ∈ evalL locals e v, x < M64 := by
  induction e with
  | nil => intro v hv _; exact hv
  | cons n e ih =>
    intro v hv hn
    unfold evalL
    refine ih _ ?_ (fun m hm => hn m (by simp [hm]))
    intro x hx
    rw [List.mem_append, List.mem_singleton] at hx
    rcases hx with hx | rfl
    · exact hv x hx
    · exact nodeV_lt _ _ _ hl hv (hn n (by simp))
theorem value_lt (e : List SrcP.Node) (locals : List Nat) (hl : ∀ x ∈ locals, x < M64) (hn : ∀ n ∈ e, n.val < M64) : value e locals < M64 := by
  unfold value
  have h := evalL_lt locals hl e [] (by simp) hn
  rw [List.getLastD_eq_getLast?]
  cases hx : (evalL locals e []).getLast? with
  | none => decide
  | some x => exact h x (List.mem_of_getLast? hx)

theorem pow_size : ∀ n : Nat, n < 1025 → n &&& (n - 1) = 0 → n = 0 ∨ n = 2 ^ n.log2 := by decide +kernel
/-- A place's mask. -/
theorem and_size (n x : Nat) (h1 : 0 < n) (h2 : n ≤ 1024) (h3 : n &&& (n - 1) = 0) : x &&& (n - 1) = x % n := by
  rcases pow_size n (by omega) h3 with h | h
  · omega
  · rw [h]
    exact Nat.and_two_pow_sub_one_eq_mod x _

/-- An act that may be, its numbers in their bounds. -/
structure ActWell (cells nl n : Nat) (a : SrcP.Act) : Prop where
  ok : actOk cells nl n a = true
  li : ∀ x ∈ a.index, x.val < M64
  le : ∀ x ∈ a.e, x.val < M64
  lf : ∀ x ∈ a.f, x.val < M64
structure MchW (cells nl : Nat) (m : Mch) : Prop where
  hnl : nl ≤ 24
  len : m.locals.length = nl
  lt : ∀ x ∈ m.locals, x < M64
  at_ : m.at_ ≤ m.acts.length
  alen : m.acts.length ≤ 65536
  acts : ∀ a ∈ m.acts, ActWell cells nl m.acts.length a
  old : m.old < M64
  nval : m.now.val < M64
  opn : m.opn = true → ∃ a, m.acts[m.at_]? = some a ∧ (a.op = 4 ∨ a.op = 5 ∨ a.op = 6)
/-- What it wants is what its act wants. -/
def NowOk (m : Mch) : Prop := m.now.what ≠ 5 → m.now.what ≠ 6 → ∃ a, m.acts[m.at_]? = some a ∧ ownB a = false ∧ m.now = wantS m a
structure MchOk (cells nl : Nat) (m : Mch) : Prop extends MchW cells nl m where
  now : m.asked = true → NowOk m

section
variable {cells nl n : Nat} {a : SrcP.Act}
theorem ActWell.parts (h : ActWell cells nl n a) : (1 ≤ a.op ∧ a.op ≤ 10) ∧ mayB a.op a.mode = true ∧ (if hasDst a.op = true then decide (0 ≤ a.dst ∧ a.dst < (nl : Int)) else a.dst == 0) = true
    ∧ (if hasPlace a.op = true then placeOk cells nl a else a.base == 0 && a.size == 0 && a.index.isEmpty) = true
    ∧ (hasE a.op = true → exprOk a.e nl = true) ∧ (hasF a.op = true → exprOk a.f nl = true) ∧ (if hasTo a.op = true then decide (0 ≤ a.to ∧ a.to ≤ (n : Int)) else a.to == 0) = true := by
  have h1 := h.ok
  simp only [actOk, Bool.and_eq_true, decide_eq_true_eq, Bool.or_eq_true, Bool.not_eq_true'] at h1
  obtain ⟨⟨⟨⟨⟨⟨⟨⟨h1, h2⟩, h3⟩, h4⟩, h5⟩, h6⟩, h7⟩, h8⟩, h9⟩ := h1
  exact ⟨h1, h2, h3, h4, fun he => by rw [he] at h7; simpa using h7, fun he => by rw [he] at h8; simpa using h8, h9⟩
theorem ActWell.e (h : ActWell cells nl n a) (he : hasE a.op = true) : EvalsAll nl a.e := exprOk_evals _ _ (h.parts.2.2.2.2.1 he)
theorem ActWell.f (h : ActWell cells nl n a) (he : hasF a.op = true) : EvalsAll nl a.f := exprOk_evals _ _ (h.parts.2.2.2.2.2.1 he)
theorem ActWell.dst (h : ActWell cells nl n a) (he : hasDst a.op = true) : 0 ≤ a.dst ∧ a.dst < (nl : Int) := by have := h.parts.2.2.1; rw [if_pos he] at this; simpa using this
theorem ActWell.to_ (h : ActWell cells nl n a) (he : hasTo a.op = true) : 0 ≤ a.to ∧ a.to ≤ (n : Int) := by have := h.parts.2.2.2.2.2.2; rw [if_pos he] at this; simpa using this
theorem ActWell.place (h : ActWell cells nl n a) (he : hasPlace a.op = true) : placeOk cells nl a = true := by have := h.parts.2.2.2.1; rwa [if_pos he] at this
end
theorem place_parts {cells nl : Nat} {a : SrcP.Act} (h : placeOk cells nl a = true) : (0 ≤ a.size ∧ a.size ≤ 1024) ∧ (a.size.toNat &&& (a.size.toNat - 1)) = 0 ∧ 0 ≤ a.base ∧ a.base + max 1 a.size ≤ (cells : Int) ∧ (a.size ≠ 0 → EvalsAll nl a.index) := by
  unfold placeOk at h
  split at h
  · cases h
  · rename_i h1
    simp only [not_or, Int.not_lt, ne_eq, Decidable.not_not] at h1
    obtain ⟨h1, h2, h3, h4, h5⟩ := h1
    have e : (a.size - 1).toNat = a.size.toNat - 1 := by omega
    rw [e] at h3
    refine ⟨⟨h1, h2⟩, h3, h4, by omega, fun hs => ?_⟩
    simp only [Bool.or_eq_true, Bool.and_eq_true, beq_iff_eq, decide_eq_true_eq] at h
    rcases h with h | h
    · exact absurd h.1 hs
    · exact exprOk_evals _ _ h.2
theorem locS_range {cells nl : Nat} {a : SrcP.Act} (h : placeOk cells nl a = true) (locals : List Nat) : 0 ≤ locS a locals ∧ locS a locals < (cells : Int) := by
  obtain ⟨⟨h1, h2⟩, _, h3, h4, _⟩ := place_parts h
  unfold locS
  split
  · rename_i hs; rw [hs] at h4; omega
  · rename_i hs
    have : value a.index locals % a.size.toNat < a.size.toNat := Nat.mod_lt _ (by omega)
    have : max 1 a.size = a.size := by omega
    omega
theorem wantS_what (m : Mch) (a : SrcP.Act) : 1 ≤ (wantS m a).what ∧ (wantS m a).what ≤ 4 := by
  unfold wantS
  repeat' split
  all_goals exact ⟨by simp, by simp⟩
theorem wantS_val {cells nl n : Nat} (m : Mch) (a : SrcP.Act) (hl : ∀ x ∈ m.locals, x < M64) (ha : ActWell cells nl n a) : (wantS m a).val < M64 := by
  have he := value_lt a.e m.locals hl ha.le
  have hf := value_lt a.f m.locals hl ha.lf
  have h0 : 0 < M64 := by decide
  unfold wantS
  repeat' split
  all_goals first | exact he | exact hf | exact h0 | exact Nat.mod_lt _ h0
theorem set_lt {l : List Nat} {i x : Nat} (hl : ∀ y ∈ l, y < M64) (hx : x < M64) : ∀ y ∈ l.set i x, y < M64 := fun y hy => by
  rcases List.mem_or_eq_of_mem_set hy with h | rfl
  · exact hl y h
  · exact hx
theorem at_lt {m : Mch} {a : SrcP.Act} (h : m.acts[m.at_]? = some a) : m.at_ < m.acts.length := (List.getElem?_eq_some_iff.1 h).1
theorem MchW.well {cells nl : Nat} {m : Mch} (h : MchW cells nl m) {a : SrcP.Act} (ha : m.acts[m.at_]? = some a) : ActWell cells nl m.acts.length a := h.acts a (List.mem_of_getElem? ha)
theorem MchW.notOpen {cells nl : Nat} {m : Mch} (h : MchW cells nl m) {a : SrcP.Act} (ha : m.acts[m.at_]? = some a) (ho : ¬ (a.op = 4 ∨ a.op = 5 ∨ a.op = 6)) : m.opn = false := by
  cases hh : m.opn with
  | false => rfl
  | true =>
    obtain ⟨b, hb, h2⟩ := h.opn hh
    rw [ha] at hb
    cases hb
    exact absurd h2 ho
theorem own_op {a : SrcP.Act} (h : ownB a = true) : a.op = 1 ∨ a.op = 9 ∨ a.op = 10 := by
  simp only [ownB, Bool.or_eq_true, beq_iff_eq] at h
  omega
theorem ownS_w {cells nl : Nat} {m : Mch} (h : MchW cells nl m) {a : SrcP.Act} (ha : m.acts[m.at_]? = some a) (ho : ownB a = true) : MchW cells nl (ownS m a) := by
  have hw := h.well ha
  have hop := own_op ho
  have hn := h.notOpen ha (by omega)
  have hlt := at_lt ha
  unfold ownS
  split
  · exact ⟨h.hnl, by simpa using h.len, set_lt h.lt (value_lt _ _ h.lt hw.le), hlt, h.alen, h.acts, h.old, h.nval, fun h2 => by simp [hn] at h2⟩
  · rename_i h1
    have ht : 0 ≤ a.to ∧ a.to ≤ (m.acts.length : Int) := hw.to_ (by unfold hasTo; simp; omega)
    split
    · exact ⟨h.hnl, h.len, h.lt, by simp only; omega, h.alen, h.acts, h.old, h.nval, fun h2 => by simp [hn] at h2⟩
    · split
      · exact ⟨h.hnl, h.len, h.lt, by simp only; omega, h.alen, h.acts, h.old, h.nval, fun h2 => by simp [hn] at h2⟩
      · exact ⟨h.hnl, h.len, h.lt, hlt, h.alen, h.acts, h.old, h.nval, fun h2 => by simp [hn] at h2⟩
theorem setNow_w {cells nl : Nat} {m : Mch} (h : MchW cells nl m) (x : Want) (hx : x.val < M64) : MchW cells nl { m with now := x } := ⟨h.hnl, h.len, h.lt, h.at_, h.alen, h.acts, h.old, hx, h.opn⟩
theorem nextL_ok {cells nl : Nat} : ∀ (k : Nat) {m : Mch}, MchW cells nl m → MchW cells nl (nextL k m) ∧ NowOk (nextL k m) := by
  have h0 : 0 < M64 := by decide
  intro k
  induction k with
  | zero =>
    intro m h
    unfold nextL
    cases ha : m.acts[m.at_]? with
    | none => exact ⟨setNow_w h _ h0, fun h5 => by simp at h5⟩
    | some a =>
      simp only
      split
      · exact ⟨setNow_w h _ h0, fun _ h6 => by simp at h6⟩
      · rename_i ho
        exact ⟨setNow_w h _ (wantS_val m a h.lt (h.well ha)), fun _ _ => ⟨a, ha, by simpa using ho, rfl⟩⟩
  | succ k ih =>
    intro m h
    unfold nextL
    cases ha : m.acts[m.at_]? with
    | none => exact ⟨setNow_w h _ h0, fun h5 => by simp at h5⟩
    | some a =>
      simp only
      split
      · rename_i ho
        exact ih (ownS_w h ha ho)
      · rename_i ho
        exact ⟨setNow_w h _ (wantS_val m a h.lt (h.well ha)), fun _ _ => ⟨a, ha, by simpa using ho, rfl⟩⟩
theorem nextS_ok {cells nl : Nat} {m : Mch} (h : MchOk cells nl m) : MchOk cells nl (nextS m) := by
  unfold nextS
  split
  · exact h
  · have hw : MchW cells nl { m with asked := true } := ⟨h.hnl, h.len, h.lt, h.at_, h.alen, h.acts, h.old, h.nval, h.opn⟩
    obtain ⟨h1, h2⟩ := nextL_ok 100000 hw
    exact ⟨h1, fun _ => h2⟩
theorem wants_op {m : Mch} {a : SrcP.Act} : (wantS m a).ex = true → a.op ≠ 2 ∧ a.op ≠ 3 ∧ a.op ≠ 7 ∧ a.op ≠ 8 := by
  unfold wantS
  intro h
  split at h
  · cases h
  · split at h
    · cases h
    · split at h
      · cases h
      · split at h
        · cases h
        · exact ⟨by assumption, by assumption, by assumption, by assumption⟩
theorem wants_pair {m : Mch} {a : SrcP.Act} (h : a.op = 4 ∨ a.op = 5 ∨ a.op = 6) : (wantS m a).ex = true ∧ (wantS m a).what = if m.opn = true then 2 else 1 := by
  unfold wantS
  rw [if_neg (by omega), if_neg (by omega), if_neg (by omega), if_neg (by omega)]
  cases m.opn <;> exact ⟨rfl, rfl⟩
theorem feedS_ok {cells nl : Nat} {m : Mch} (h : MchOk cells nl m) (hasked : m.asked = true) (h5 : m.now.what ≠ 5) (h6 : m.now.what ≠ 6) (v : Nat) (hv : v < M64) : MchOk cells nl (feedS m v) := by
  obtain ⟨a, ha, ho, hnow⟩ := h.now hasked h5 h6
  have hw := h.well ha
  have hlt := at_lt ha
  have hop := hw.parts.1
  have hown : ¬ (a.op = 1 ∨ a.op = 9 ∨ a.op = 10) := by
    simp only [ownB, Bool.or_eq_false_iff, beq_eq_false_iff_ne] at ho
    omega
  unfold feedS
  rw [ha]
  simp only
  split
  · rename_i hc
    have hex := wants_op (hnow ▸ hc.2.1)
    exact ⟨⟨h.hnl, h.len, h.lt, h.at_, h.alen, h.acts, hv, h.nval, fun _ => ⟨a, ha, by omega⟩⟩, fun h => by simp at h⟩
  · have hold : (if m.now.what = 1 ∧ m.now.ex = true then v else m.old) < M64 := by split; exact hv; exact h.old
    split
    · exact ⟨⟨h.hnl, by simpa using h.len, set_lt h.lt hold, hlt, h.alen, h.acts, hold, h.nval, fun h => by simp at h⟩, fun h => by simp at h⟩
    · rename_i hc
      have hno : m.opn = false := by
        cases hh : m.opn with
        | false => rfl
        | true =>
          obtain ⟨b, hb, h2⟩ := h.opn hh
          rw [ha] at hb
          cases hb
          exact absurd ⟨by rw [hnow]; exact (wants_pair h2).1, hh⟩ hc
      split
      · exact ⟨⟨h.hnl, by simpa using h.len, set_lt h.lt hv, hlt, h.alen, h.acts, hold, h.nval, fun h => by simp [hno] at h⟩, fun h => by simp at h⟩
      · exact ⟨⟨h.hnl, h.len, h.lt, hlt, h.alen, h.acts, hold, h.nval, fun h => by simp [hno] at h⟩, fun h => by simp at h⟩
end Go.Proofs.YtmjilfamjlnigaaGreat.SrcP
