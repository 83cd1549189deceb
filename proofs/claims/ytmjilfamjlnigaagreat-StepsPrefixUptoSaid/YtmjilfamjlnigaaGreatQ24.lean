/- WALKS: nodes are copied. -/
import Derived.Test.YtmjilfamjlnigaaGreatQ05
import Derived.Deep.AppendLies
import Derived.Test.YtmjilfamjlnigaaGreatQ11
namespace Go.Proofs.YtmjilfamjlnigaaGreat.NewW
open Go Go.RowKit Go.Proofs.YtmjilfamjlnigaaGreat.Kit Go.Proofs.YtmjilfamjlnigaaGreat.SrcP Go.Proofs.YtmjilfamjlnigaaGreat.SrcW

theorem nilOk_some (ad : Addr) (n c : Nat) : NilOk (.slice (some ad) n c) := fun n' c' h => by
  injection h with h
  cases h
theorem nilOk_none (n : Nat) : NilOk (.slice none n 0) := fun n' c' h => by
  injection h with _ _ h
  exact h.symm
theorem flat_get {α : Type} (f : α → List Value) (k : Nat) (hf : ∀ a, (f a).length = k) (l : List α) : ∀ (i r : Nat) (a : α), l[i]? = some a → r < k → (l.flatMap f)[i * k + r]? = (f a)[r]? := by
  induction l with
  | nil => intro i r a h; simp at h
  | cons b l ih =>
    intro i r a h hr
    rw [List.flatMap_cons]
    cases i with
    | zero =>
      simp only [List.getElem?_cons_zero, Option.some.injEq] at h
      subst h
      rw [Nat.zero_mul, Nat.zero_add, List.getElem?_append_left (by rw [hf]; exact hr)]
    | succ i =>
      simp only [List.getElem?_cons_succ] at h
      rw [List.getElem?_append_right (by rw [hf, Nat.succ_mul]; omega), hf]
      rw [show (i + 1) * k + r - k = i * k + r by rw [Nat.succ_mul]; omega]
      exact ih i r a h hr
theorem flat_len {α : Type} (f : α → List Value) (k : Nat) (hf : ∀ a, (f a).length = k) (l : List α) : (l.flatMap f).length = l.length * k := by
  induction l with
  | nil => simp
  | cons b l ih => rw [List.flatMap_cons, List.length_append, hf, ih, List.length_cons, Nat.succ_mul]; omega
theorem flat_some {α : Type} (f : α → List Value) (k : Nat) (hk : 0 < k) (hf : ∀ a, (f a).length = k) (l : List α) (j : Nat) (u : Value) (h : (l.flatMap f)[j]? = some u) : ∃ i r a, j = i * k + r ∧ r < k ∧ l[i]? = some a ∧ (f a)[r]? = some u := by
  have hj : j < l.length * k := by
    have := (List.getElem?_eq_some_iff.1 h).1
    rwa [flat_len f k hf] at this
  have hi : j / k < l.length := by rw [Nat.div_lt_iff_lt_mul hk]; exact hj
  have hr : j % k < k := Nat.mod_lt _ hk
  have e : j / k * k + j % k = j := by rw [Nat.mul_comm]; exact Nat.div_add_mod j k
  refine ⟨j / k, j % k, l[j / k], e.symm, hr, by simp [hi], ?_⟩
  rw [← flat_get f k hf l (j / k) (j % k) l[j / k] (by simp [hi]) hr, e]
  exact h
theorem add_add (a : Addr) (n m : Nat) : (a.add n).add m = a.add (n + m) := by
  unfold Addr.add
  split <;> split <;> simp_all <;> omega
/-- An owned row of nodes is what they are. -/
theorem nodes_own {w : World} {base n : Nat} {v : Value} {l : List SrcP.Node} (h : w.ownsRow base 112 4 v n (l.flatMap nodeC)) (hn : n = l.length) (hlt : ∀ x ∈ l, x.val < M64) : NodesS w v l := by
  subst hn
  intro w' hs
  rcases h.2 with ⟨rfl, h0⟩ | ⟨g, cap, cur, rfl, _, hb, hc, _, _, ht⟩
  · refine ⟨none, 0, by rw [h0], fun i a hi => ?_⟩
    have := (List.getElem?_eq_some_iff.1 hi).1
    omega
  · refine ⟨some ⟨g, 0, none⟩, cap, rfl, fun i a hi => ⟨hlt a (List.mem_of_getElem? hi), _, rfl, fun j u hj => ?_⟩⟩
    have hb' := hs g cur 112 (0, 0) hb rfl
    have hj4 : j < 4 := (List.getElem?_eq_some_iff.1 hj).1
    have hget := flat_get nodeC 4 (fun _ => rfl) l i j a hi hj4
    rw [hj, ← ht, List.getElem?_take] at hget
    split at hget
    · rw [add_add, show Addr.add ⟨g, 0, none⟩ (i * 4 + j) = ⟨g, i * 4 + j, none⟩ by unfold Addr.add; split <;> simp_all]
      rw [World.cell?, hb']
      simpa using hget
    · cases hget
theorem info_node : (Tryz.prog.info? 112).map (fun i => (i.zero, i.size, i.bytes)) = some (some (.agg #[.int .i64 0, .int .u64 0, .int .i64 0, .int .i64 0]), 4, 32) := by kernel_rfl
theorem nil_nodes (w : World) : (binOp .eql 56 (.slice none 0 0) (.slice none 0 0)).run Tryz.prog w = .ok (.bool true) w := by kernel_rfl
theorem some_nodes (ad : Addr) (n c : Nat) (w : World) : (binOp .eql 56 (.slice (some ad) n c) (.slice none 0 0)).run Tryz.prog w = .ok (.bool false) w := by kernel_rfl
theorem nil_acts (w : World) : (binOp .eql 55 (.slice none 0 0) (.slice none 0 0)).run Tryz.prog w = .ok (.bool true) w := by kernel_rfl
theorem some_acts (ad : Addr) (n c : Nat) (w : World) : (binOp .eql 55 (.slice (some ad) n c) (.slice none 0 0)).run Tryz.prog w = .ok (.bool false) w := by kernel_rfl
set_option maxRecDepth 100000 in
set_option maxHeartbeats 4000000 in
theorem cloneNode_any (w : World) (v : Value) (l : List SrcP.Node) (hl : NodesAt w v l) (hnil : NilOk v) (hlen : l.length ≤ 1048576) :
    Calls Tryz.prog 61 #[v] w fun r w' => ∃ B d, r = .returned (.slice B l.length d) ∧ NodesS w' (.slice B l.length d) l ∧ NilOk (.slice B l.length d) ∧ Below w.heap.size w w' := by
  obtain ⟨A, c, rfl, hE⟩ := hl
  cases A with
  | none =>
    cases l with
    | cons n l => obtain ⟨_, ad, h, _⟩ := hE 0 n rfl; cases h
    | nil =>
      obtain rfl : c = 0 := hnil _ _ rfl
      clear hnil
      simp only [List.length_nil]
      have hnn := nil_nodes w
      go_enter Tryz.func61, Tryz.ntmps61
      go_wp2_with fail
      go_ret
      exact ⟨none, 0, rfl, fun w' _ => ⟨none, 0, rfl, fun i n h => by simp at h⟩, nilOk_none _, Below.refl _ _⟩
  | some ad =>
    have hE2 : ∀ i n, l[i]? = some n → n.val < M64 ∧ CellsAt w (ad.add (i * 4)) (nodeC n) := fun i n hi => by
      obtain ⟨h1, ad', h3, h2⟩ := hE i n hi
      injection h3 with h3
      subst h3
      exact ⟨h1, h2⟩
    clear hE hnil
    have hsn := fun n c w => some_nodes ad n c w
    obtain ⟨i0, hi0, hz0, hz1, hz2⟩ := info_parts info_node
    have hlt : ∀ x ∈ l, x.val < M64 := fun x hx => by
      obtain ⟨i, hi⟩ := List.getElem?_of_mem hx
      exact (hE2 i x hi).1
    by_cases hl0 : l = []
    · subst hl0
      simp only [List.length_nil]
      go_enter Tryz.func61, Tryz.ntmps61
      go_wp2_with fail
      go_ret
      exact ⟨some ⟨w.heap.size, 0, none⟩, 0, rfl, fun w' _ => ⟨_, _, rfl, fun i n h => by simp at h⟩, nilOk_some _ _ _, Kit.Below.al (Below.refl _ _) _⟩
    · have hpos : 0 < l.length := List.length_pos_iff.2 hl0
      have HO : (w.alloc (.cells #[] 112)).ownsRow w.heap.size 112 4 (.slice (some ⟨w.heap.size, 0, none⟩) 0 0) 0 [] :=
        ⟨rfl, .inr ⟨w.heap.size, 0, #[], rfl, Nat.le_refl _, heap_alloc_new w _, Nat.le_refl _, by decide, rfl, rfl⟩⟩
      have HN : ∀ j u, (l.flatMap nodeC)[j]? = some u → (w.alloc (.cells #[] 112)).cell? (ad.add j) = some u := fun j u h => by
        obtain ⟨i, r, a, rfl, hr, hi, hu⟩ := flat_some nodeC 4 (by omega) (fun _ => rfl) l j u h
        rw [← add_add]
        exact cellA1 ((hE2 i a hi).2 r u hu) _
      have H1 : ∀ u ∈ l.flatMap nodeC, u.oneCell' = true := fun u hu => by
        rw [List.mem_flatMap] at hu
        obtain ⟨a, _, hu⟩ := hu
        simp only [nodeC, List.mem_cons, List.not_mem_nil, or_false] at hu
        rcases hu with rfl | rfl | rfl | rfl <;> rfl
      have hml : (1048576 : Nat) ≤ maxLen := by decide
      have HL := flat_len nodeC 4 (fun _ => rfl) l
      have HO := Lib.hid HO
      have HN := Lib.hid HN
      have HLN := Lib.hid HL
      have H1 := Lib.hid H1
      clear HL
      go_enter Tryz.func61, Tryz.ntmps61
      go_wp2_with (at_builtin; refine wpList_append_lies _ (by rfl) _ _ _ (by rfl) w.heap.size 112 i0 _ 4 32 Tryz.underlying56 hi0 hz0 hz1 hz2 rfl (by omega) (.slice (some ⟨w.heap.size, 0, none⟩) 0 0) 0 [] (by rfl) HO.out ad l.length c (l.flatMap nodeC) (by rfl) HLN.out HN.out H1.out (by omega) (by omega) (by omega) (by simp) _ rfl ?_; intro g' cap w6 hown6 hgrow hat hlt6)
      rw [Nat.zero_add, List.nil_append] at hown6
      go_ret
      exact ⟨_, cap, rfl, nodes_own hown6 rfl hlt, nilOk_some _ _ _, (Kit.Below.al (Below.refl w.heap.size w) _).grown hgrow (by simp) (fun j hj => OwnR.own_base HO.out hj)⟩

theorem choose_list {α β : Type} (l : List α) : ∀ (P : Nat → α → β → Prop), (∀ i a, l[i]? = some a → ∃ b, P i a b) → ∃ vs : List β, vs.length = l.length ∧ ∀ i a b, l[i]? = some a → vs[i]? = some b → P i a b := by
  induction l with
  | nil => intro P _; exact ⟨[], rfl, fun i a b h => by simp at h⟩
  | cons x l ih =>
    intro P h
    obtain ⟨b, hb⟩ := h 0 x rfl
    obtain ⟨vs, h1, h2⟩ := ih (fun i => P (i + 1)) (fun i a hi => h (i + 1) a (by simpa using hi))
    refine ⟨b :: vs, by simp [h1], fun i a c hi hc => ?_⟩
    cases i with
    | zero =>
      simp only [List.getElem?_cons_zero, Option.some.injEq] at hi hc
      subst hi hc
      exact hb
    | succ i =>
      simp only [List.getElem?_cons_succ] at hi hc
      exact h2 i a c hi hc
abbrev VVV := Value × Value × Value
def actP (p : SrcP.Act × VVV) : List Value := (actC p.1 p.2.1 p.2.2.1 p.2.2.2).toList
def actsC (l : List SrcP.Act) (vs : List VVV) : List Value := (l.zip vs).flatMap actP
theorem info_act : (Tryz.prog.info? 58).map (fun i => (i.zero, i.size, i.bytes)) = some (some (.agg #[.int .i64 0, .int .i64 0, .int .i64 0, .int .i64 0, .slice none 0 0, .slice none 0 0, .slice none 0 0, .int .i64 0, .int .i64 0, .int .i64 0, .int .i64 0]), 11, 136) := by kernel_rfl
theorem actP_one {w : World} {a : SrcP.Act} {t : VVV} (h : ActV w t.1 t.2.1 t.2.2 a) : ∀ u ∈ actP (a, t), u.oneCell' = true := by
  obtain ⟨vi, ve, vf⟩ := t
  obtain ⟨I, ci, h1, _⟩ := h.index
  obtain ⟨E, ce, h2, _⟩ := h.e
  obtain ⟨F, cf, h3, _⟩ := h.f
  simp only at h1 h2 h3
  subst h1 h2 h3
  intro u hu
  simp only [actP, actC, List.mem_cons, List.not_mem_nil, or_false] at hu
  rcases hu with rfl | rfl | rfl | rfl | rfl | rfl | rfl | rfl | rfl | rfl | rfl <;> rfl
set_option maxRecDepth 100000 in
set_option maxHeartbeats 4000000 in
theorem cloneAct_any (w0 w : World) (hbw : Below w0.heap.size w0 w) (v : Value) (l : List SrcP.Act) (hl : ActsAt w0 v l) (hnil : NilOk v) (hlen : l.length ≤ 1048576) :
    Calls Tryz.prog 60 #[v] w fun r w' => ∃ B d vs, r = .returned (.slice B l.length d) ∧ vs.length = l.length ∧ w'.ownsRow w.heap.size 58 11 (.slice B l.length d) l.length (actsC l vs) ∧ (∀ (i : Nat) (a : SrcP.Act) (t : VVV), l[i]? = some a → vs[i]? = some t → ActV w0 t.1 t.2.1 t.2.2 a) ∧ NilOk (.slice B l.length d) ∧ Below w.heap.size w w' := by
  obtain ⟨A, c, rfl, hE⟩ := hl
  cases A with
  | none =>
    cases l with
    | cons n l => obtain ⟨ad, _, _, _, h, _⟩ := hE 0 n rfl; cases h
    | nil =>
      obtain rfl : c = 0 := hnil _ _ rfl
      clear hnil
      simp only [List.length_nil]
      have hnn := nil_acts w
      go_enter Tryz.func60, Tryz.ntmps60
      go_wp2_with fail
      go_ret
      exact ⟨none, 0, [], rfl, rfl, ⟨rfl, .inl ⟨rfl, rfl⟩⟩, fun i a t h => by simp at h, nilOk_none _, Below.refl _ _⟩
  | some ad =>
    obtain ⟨vs, hvl, hvs⟩ := choose_list (β := VVV) l (fun i a t => CellsAt w0 (ad.add (i * 11)) (actC a t.1 t.2.1 t.2.2).toList ∧ ActV w0 t.1 t.2.1 t.2.2 a) (fun i a hi => by
      obtain ⟨ad', vi, ve, vf, h3, h1, h2⟩ := hE i a hi
      injection h3 with h3
      subst h3
      exact ⟨(vi, ve, vf), h1, h2⟩)
    clear hE hnil
    have hsn := fun n c w => some_acts ad n c w
    obtain ⟨i0, hi0, hz0, hz1, hz2⟩ := info_parts info_act
    have HVS := Lib.hid hvs
    clear hvs
    by_cases hl0 : l = []
    · subst hl0
      simp only [List.length_nil]
      go_enter Tryz.func60, Tryz.ntmps60
      go_wp2_with fail
      go_ret
      exact ⟨some ⟨w.heap.size, 0, none⟩, 0, [], rfl, rfl, ⟨rfl, .inr ⟨w.heap.size, 0, #[], rfl, Nat.le_refl _, heap_alloc_new w _, Nat.le_refl _, by decide, rfl, rfl⟩⟩, fun i a t h => by simp at h, nilOk_some _ _ _, Kit.Below.al (Below.refl _ _) _⟩
    · have hpos : 0 < l.length := List.length_pos_iff.2 hl0
      have hzl : (l.zip vs).length = l.length := by rw [List.length_zip, hvl, Nat.min_self]
      have HO : (w.alloc (.cells #[] 58)).ownsRow w.heap.size 58 11 (.slice (some ⟨w.heap.size, 0, none⟩) 0 0) 0 [] :=
        ⟨rfl, .inr ⟨w.heap.size, 0, #[], rfl, Nat.le_refl _, heap_alloc_new w _, Nat.le_refl _, by decide, rfl, rfl⟩⟩
      have hz : ∀ i (p : SrcP.Act × VVV), (l.zip vs)[i]? = some p → l[i]? = some p.1 ∧ vs[i]? = some p.2 := fun i p hp => by
        rw [List.getElem?_zip_eq_some] at hp
        exact hp
      have HN : ∀ j u, (actsC l vs)[j]? = some u → (w.alloc (.cells #[] 58)).cell? (ad.add j) = some u := fun j u h => by
        obtain ⟨i, r, p, rfl, hr, hi, hu⟩ := flat_some actP 11 (by omega) (fun _ => rfl) (l.zip vs) j u h
        rw [← add_add]
        obtain ⟨h1, h2⟩ := hz i p hi
        exact cellA1 (((HVS.out i p.1 p.2 h1 h2).1.below hbw) r u hu) _
      have H1 : ∀ u ∈ actsC l vs, u.oneCell' = true := fun u hu => by
        unfold actsC at hu
        rw [List.mem_flatMap] at hu
        obtain ⟨p, hp, hu⟩ := hu
        obtain ⟨i, hi⟩ := List.getElem?_of_mem hp
        obtain ⟨h1, h2⟩ := hz i p hi
        exact actP_one (HVS.out i p.1 p.2 h1 h2).2 u hu
      have hml : (1048576 : Nat) ≤ maxLen := by decide
      have HL : (actsC l vs).length = l.length * 11 := by unfold actsC; rw [flat_len actP 11 (fun _ => rfl), hzl]
      have HO := Lib.hid HO
      have HN := Lib.hid HN
      have HLN := Lib.hid HL
      have H1 := Lib.hid H1
      clear HL hz hzl
      go_enter Tryz.func60, Tryz.ntmps60
      go_wp2_with (at_builtin; refine wpList_append_lies _ (by rfl) _ _ _ (by rfl) w.heap.size 58 i0 _ 11 136 Tryz.underlying55 hi0 hz0 hz1 hz2 rfl (by omega) (.slice (some ⟨w.heap.size, 0, none⟩) 0 0) 0 [] (by rfl) HO.out ad l.length c (actsC l vs) (by rfl) HLN.out HN.out H1.out (by omega) (by omega) (by omega) (by simp) _ rfl ?_; intro g' cap w6 hown6 hgrow hat hlt6)
      rw [Nat.zero_add, List.nil_append] at hown6
      go_ret
      exact ⟨_, cap, vs, rfl, hvl, hown6, fun i a t h1 h2 => (HVS.out i a t h1 h2).2, nilOk_some _ _ _, (Kit.Below.al (Below.refl w.heap.size w) _).grown hgrow (by simp) (fun j hj => OwnR.own_base HO.out hj)⟩
end Go.Proofs.YtmjilfamjlnigaaGreat.NewW
/- WALKS: a thread is made (its acts' nodes are turned one by one). -/
namespace Go.Proofs.YtmjilfamjlnigaaGreat.NewW
open Go Go.RowKit Go.Proofs.YtmjilfamjlnigaaGreat.Kit Go.Proofs.YtmjilfamjlnigaaGreat.SrcP Go.Proofs.YtmjilfamjlnigaaGreat.SrcW Go.Proofs.YtmjilfamjlnigaaGreat.MchW

theorem actsC_cons (a : SrcP.Act) (l : List SrcP.Act) (t : VVV) (vs : List VVV) : actsC (a :: l) (t :: vs) = actP (a, t) ++ actsC l vs := by
  unfold actsC
  rw [List.zip_cons_cons, List.flatMap_cons]
theorem set_over {A R : List Value} {n i : Nat} (h : A.length = n) (x : Value) : (A ++ R).set (n + i) x = A ++ R.set i x := by
  rw [List.set_append_right _ _ (by omega), h, Nat.add_sub_cancel_left]
/-- An act's three lists are turned. -/
theorem actsC_set (l : List SrcP.Act) : ∀ (vs : List VVV) (k : Nat) (vi ve vf : Value), vs.length = l.length → k < l.length →
    (((actsC l vs).set (k * 11 + 5) ve).set (k * 11 + 6) vf).set (k * 11 + 4) vi = actsC l (vs.set k (vi, ve, vf)) := by
  induction l with
  | nil => intro vs k vi ve vf _ h; simp at h
  | cons a l ih =>
    intro vs k vi ve vf hv hk
    cases vs with
    | nil => simp at hv
    | cons t vs =>
      cases k with
      | zero =>
        rw [List.set_cons_zero, actsC_cons, actsC_cons]
        rfl
      | succ k =>
        rw [List.set_cons_succ, actsC_cons, actsC_cons]
        have hl : (actP (a, t)).length = 11 := rfl
        rw [show (k + 1) * 11 + 5 = 11 + (k * 11 + 5) by omega, show (k + 1) * 11 + 6 = 11 + (k * 11 + 6) by omega, show (k + 1) * 11 + 4 = 11 + (k * 11 + 4) by omega, set_over hl, set_over hl, set_over hl]
        rw [ih vs k vi ve vf (by simpa using hv) (by simpa using hk)]
theorem actsC_len (l : List SrcP.Act) (vs : List VVV) (h : vs.length = l.length) : (actsC l vs).length = l.length * 11 := by
  unfold actsC
  rw [flat_len actP 11 (fun _ => rfl), List.length_zip, h, Nat.min_self]
theorem actsC_get (l : List SrcP.Act) (vs : List VVV) (k : Nat) (a : SrcP.Act) (t : VVV) (ha : l[k]? = some a) (ht : vs[k]? = some t) (r : Nat) (hr : r < 11) : (actsC l vs)[k * 11 + r]? = (actC a t.1 t.2.1 t.2.2)[r]? := by
  unfold actsC
  rw [flat_get actP 11 (fun _ => rfl) (l.zip vs) k r (a, t) (by rw [List.getElem?_zip_eq_some]; exact ⟨ha, ht⟩) hr]
  simp [actP]
end Go.Proofs.YtmjilfamjlnigaaGreat.NewW
