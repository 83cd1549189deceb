/- The small machine's operations do what the model's do: memory that is written, made. -/
import Derived.Test.YtaadfppfjjkgbaaGreatDoorVmD
import Derived.Deep.AppendSrc
import Derived.Laws.IdiomCopy
namespace Go.Proofs.YtaadfppfjjkgbaaGreatDoor.Vm
open Go Go.RowKit

section
variable {A : Sub} {h : H} {w : World} {P : Program}
/-- Cells in the place of others. -/
def splice (cs : Array Value) (o : Nat) (ys : List Value) : Array Value := (cs.toList.take o ++ ys ++ cs.toList.drop (o + ys.length)).toArray
theorem splice_size {cs : Array Value} {o : Nat} {ys : List Value} (hl : o + ys.length ≤ cs.size) : (splice cs o ys).size = cs.size := by
  simp [splice]; omega
theorem splice_get {cs : Array Value} {o : Nat} {ys : List Value} (hl : o + ys.length ≤ cs.size) (j : Nat) : (splice cs o ys)[j]? = if o ≤ j ∧ j < o + ys.length then ys[j - o]? else cs[j]? := by
  have hlen : (cs.toList.take o).length = o := by simp; omega
  unfold splice
  rw [List.getElem?_toArray]
  by_cases h1 : j < o
  · rw [if_neg (by omega), List.append_assoc, List.getElem?_append_left (by omega), List.getElem?_take_of_lt h1]
    simp
  · by_cases h2 : j < o + ys.length
    · rw [if_pos ⟨by omega, h2⟩, List.getElem?_append_left (by rw [List.length_append, hlen]; omega), List.getElem?_append_right (by omega), hlen]
    · rw [if_neg (by omega), List.getElem?_append_right (by rw [List.length_append, hlen]; omega), List.length_append, hlen, List.getElem?_drop]
      rw [show o + ys.length + (j - (o + ys.length)) = j by omega]
      simp
theorem setCells_row {g o : Nat} {cs : Array Value} {e : TypeId} (hb : w.heap[g]? = some (.cells cs e (0, 0))) (ys : List Value) (hl : o + ys.length ≤ cs.size) (h1 : ∀ v ∈ ys, v.oneCell' = true) : w.setCells g o ys = w.setRow g (splice cs o ys) := by
  have e1 := run_storeCells_cells (P := default) g o ys 0 w (fun j hj => by rw [cell_of hb, Array.getElem?_eq_getElem (by omega)]; rfl) (fun j hj => frozen_of hb _) h1
  have e2 := run_storeCells_at (P := default) g o e ys 0 cs w hb (by omega) h1
  have e3 := e1.symm.trans e2
  simpa [splice] using e3
theorem cells_splice {n hi hi' i kk o : Nat} {e : TypeId} {p : Bool} {c : Tr V} {cs : Array Value} {l : List V} {ys : List Value} (hc : ∀ o, o < hi → ∃ v y, c.get o = some v ∧ cs[o]? = some y ∧ Rel A n v y ∧ v.one = true)
    (hk : p = true → cs.size = kk) (hl : RelL A n l ys) (ho : allOne l = true) (hsz : o + ys.length ≤ cs.size) (hhi : ∀ j, j < hi' → j < hi ∨ (o ≤ j ∧ j < o + l.length)) : ORel A n i kk (.cells e hi' p (Tr.putsL l c o)) (.cells (splice cs o ys) e (0, 0)) := by
  refine ⟨_, rfl, fun hp => by rw [splice_size hsz]; exact hk hp, fun j hj => ?_⟩
  rw [Tr.get_putsL, splice_get hsz, hl.length]
  by_cases hin : o ≤ j ∧ j < o + l.length
  · rw [if_pos hin, if_pos hin]
    have h1 : l[j - o]? = some l[j - o] := List.getElem?_eq_getElem (by omega)
    obtain ⟨y, hy, hr⟩ := hl.get h1
    exact ⟨_, y, h1, hy, hr, allOne_get ho h1⟩
  · rw [if_neg hin, if_neg hin]
    rcases hhi j hj with h1 | h1
    · exact hc j h1
    · exact absurd h1 hin
theorem storeL_some {β : Type} {b o : Nat} {l : List V} {ys : List Value} {K : H → Option β} {r : β} (hm : Mt A h w) (hl : RelL A h.next l ys) (hh : storeL h b o l K = some r) : ∃ h' w', K h' = some r ∧ h'.next = h.next ∧ Ev A h w A h' w' ∧
    (storeCells ⟨A.ι b, o, none⟩ ys).run P w = .ok () w' ∧ (∀ j, j < ys.length → (w.cell? ⟨A.ι b, o + j, none⟩).isSome = true) ∧ (∀ j, j < ys.length → w.frozen? ⟨A.ι b, o + j, none⟩ = false) ∧ (∀ v ∈ ys, v.oneCell' = true) ∧ w' = w.setCells (A.ι b) o ys := by
  unfold storeL at hh
  obtain ⟨e, hi, p, c, hb, hh⟩ := rowK_some hh
  obtain ⟨hle, hh⟩ := bb_some hh
  obtain ⟨hone, hh⟩ := bb_some hh
  rw [Tr.putL_eq, Tr.put_set] at hh
  obtain ⟨cs, h1, h2, h3, h4⟩ := hm.row hb
  have hle : o + l.length ≤ hi := Nat.le_of_ble_eq_true hle
  have hsz : o + ys.length ≤ cs.size := by rw [hl.length]; omega
  have h1c := hl.one hone
  have hrow := setCells_row h1 ys hsz h1c
  refine ⟨_, _, hh, rfl, Ev.upd hm hb rfl (cells_splice h3 h2 hl hone hsz (fun j hj => .inl hj)) (setRow_heap w _ cs _ _ _ h1) (fun k hk => setRow_other w _ k _ hk) (by simp) rfl rfl rfl, ?_, fun j hj => ?_, fun j _ => frozen_of h1 _, h1c, hrow.symm⟩
  · have := run_storeCells_at (P := P) (A.ι b) o e ys 0 cs w h1 (by omega) h1c
    simpa [splice] using this
  · rw [cell_of h1, Array.getElem?_eq_getElem (by omega)]; rfl
theorem store_ok {ty : TypeId} {x y : Operand} {rx ry : Rd} {n : Nat} {C : CallF} (hx : rdB x = some rx) (hy : rdB y = some ry) (hn : sizeB P ty = some n) :
    OpOk P C (.store ty x y) ⟨fun _ t h K => rdK t rx fun a => rdK t ry fun x => asP a fun pt o => bb (Nat.beq x.cells.length n) (storeL h pt o x.cells fun h => K .u h)⟩ := by
  intro o ho A h w N t a K q hm ht hk
  simp only [rdK_eq] at hk
  obtain ⟨b, o', hv, hk⟩ := asP_some hk
  obtain ⟨hlen, hk⟩ := bb_some hk
  have hr := rd_rel ht hx
  rw [hv] at hr
  obtain ⟨h1, _⟩ := hr.of_p
  have hcl := (rd_rel ht hy).cells
  obtain ⟨h', w', h2, h3, h4, h5, _⟩ := storeL_some (P := P) hm hcl hk
  refine ⟨_, _, h2, .skip (w' := w') ?_ ⟨A, h4, .u⟩⟩
  have hsz : (a.eval y).cells.size = n := by
    have := hcl.length
    rw [Array.length_toList] at this
    rw [this]
    exact Nat.eq_of_beq_eq_true hlen
  simp only [execOp, ho, h1, Instr.storeAt, Instr.sureAddr, storeVar, Sem.run_bind, Sem.run_pure, Result.andThen_ok, run_size hn, hsz, ne_eq, not_true, if_false, h5]
/-! ### New blocks -/
theorem newO_some {β : Type} {x : O} {K : Nat → H → Option β} {r : β} (hh : newO h x K = some r) : K h.next ⟨h.next + 1, h.t.set h.next (some x)⟩ = some r := by
  unfold newO at hh
  rw [Tr.put_set, fN_eq] at hh
  exact hh
theorem newRow_some {β : Type} {e : TypeId} {l : List V} {p : Bool} {K : Nat → H → Option β} {r : β} (hh : newRow h e l p K = some r) : allOne l = true ∧ K h.next ⟨h.next + 1, h.t.set h.next (some (.cells e l.length p (Tr.putsL l .e 0)))⟩ = some r := by
  unfold newRow at hh
  obtain ⟨h1, hh⟩ := bb_some hh
  rw [Tr.putL_eq, fN_eq] at hh
  exact ⟨h1, newO_some hh⟩
theorem row_new {n i kk : Nat} {e : TypeId} {l : List V} {ys zs : List Value} {p : Bool} (hl : RelL A n l ys) (ho : allOne l = true) (hk : p = true → (ys ++ zs).length = kk) : ORel A n i kk (.cells e l.length p (Tr.putsL l .e 0)) (.cells (ys ++ zs).toArray e (0, 0)) := by
  refine ⟨_, rfl, fun hp => by simpa using hk hp, fun j hj => ?_⟩
  have h1 : l[j]? = some l[j] := List.getElem?_eq_getElem hj
  obtain ⟨y, hy, hr⟩ := hl.get h1
  refine ⟨l[j], y, ?_, ?_, hr, allOne_get ho h1⟩
  · rw [Tr.get_putsL, if_pos ⟨Nat.zero_le _, by omega⟩]
    exact h1
  · rw [List.getElem?_toArray, List.getElem?_append_left (by rw [hl.length]; exact hj)]
    exact hy
theorem row_new0 {n i kk : Nat} {e : TypeId} {l : List V} {ys : Array Value} (hl : RelL A n l ys.toList) (ho : allOne l = true) : ORel A n i kk (.cells e l.length false (Tr.putsL l .e 0)) (.cells ys e (0, 0)) := by
  have := row_new (i := i) (kk := kk) (e := e) (p := false) (zs := []) hl ho (fun h => by cases h)
  simpa using this
theorem run_newVar (e : TypeId) (x : Value) : (newVar e x).run P w = .ok ⟨w.heap.size, 0, none⟩ (w.alloc (.cells x.cells e)) := by
  rfl
theorem ptr_new (A : Sub) (n g k : Nat) : Rel (A.ext n g k) (n + 1) (.p n 0) (.pointer (some ⟨g, 0, none⟩)) := by
  have : Rel (A.ext n g k) (n + 1) (.p n 0) (.pointer (some ⟨(A.ext n g k).ι n, 0, none⟩)) := .p n 0 (Nat.lt_succ_self _)
  simpa [Sub.ext] using this
theorem sl_new (A : Sub) (n g k len cap sz : Nat) : Rel (A.ext n g k) (n + 1) (.sl n 0 len cap true sz) (.slice (some ⟨g, 0, none⟩) len cap) := by
  have : Rel (A.ext n g k) (n + 1) (.sl n 0 len cap true sz) (.slice (some ⟨(A.ext n g k).ι n, 0, none⟩) len cap) := .slk n 0 len cap sz (Nat.lt_succ_self _)
  simpa [Sub.ext] using this
theorem alloc_ok {e : TypeId} {z : V} {C : CallF} (hz : zeroB P e = some z) : OpOk P C (.alloc e) ⟨fun _ _ h K => newRow h e z.cells false fun b h => K (.p b 0) h⟩ := by
  intro o ho A h w N t a K q hm ht hk
  obtain ⟨x, h1, h2⟩ := run_zero (w := w) hz
  obtain ⟨h3, hk⟩ := newRow_some hk
  have hr : Rel A h.next z x := ofVal_rel h2
  refine ⟨_, _, hk, .value (x := .pointer (some ⟨w.heap.size, 0, none⟩)) (w' := w.alloc (.cells x.cells e)) ?_ ⟨_, Ev.new (k := 0) hm (row_new0 hr.cells h3), ptr_new A h.next w.heap.size 0⟩⟩
  simp only [execOp, ho, Instr.alloc, Sem.run_bind, Sem.run_pure, Result.andThen_ok, h1, run_newVar]
theorem box_ok {e : TypeId} {x : Operand} {r : Rd} {C : CallF} (hx : rdB x = some r) : OpOk P C (.box e x) ⟨fun _ t h K => rdK t r fun x => newRow h e x.cells false fun b h => K (.p b 0) h⟩ := by
  intro o ho A h w N t a K q hm ht hk
  simp only [rdK_eq] at hk
  obtain ⟨h3, hk⟩ := newRow_some hk
  have hr := rd_rel ht hx
  refine ⟨_, _, hk, .value (x := .pointer (some ⟨w.heap.size, 0, none⟩)) (w' := w.alloc (.cells (a.eval x).cells e)) ?_ ⟨_, Ev.new (k := 0) hm (row_new0 hr.cells h3), ptr_new A h.next w.heap.size 0⟩⟩
  simp only [execOp, ho, Instr.box, Sem.run_bind, Sem.run_pure, Result.andThen_ok, run_newVar]
/-! ### Parts -/
theorem elem_und {t e : TypeId} (he : elemB P t = some e) : P.underlying t = some (.slice e) := by
  unfold elemB at he
  split at he
  · injection he with he; subst he; assumption
  · cases he
theorem cells_set {n : Nat} : ∀ (v : List V) (x : List Value) (l : List V) (xs : List Value) (off : Nat), RelL A n v x → RelL A n l xs → RelL A n (l.take off ++ (v ++ l.drop (off + v.length))) (xs.take off ++ (x ++ xs.drop (off + x.length))) := fun v x l xs off h1 h2 => by
  rw [h1.length]
  exact (h2.take off).append (h1.append (h2.drop _))
theorem foldl_set : ∀ (x : List Value) (k : Nat) (off : Nat) (cs : Array Value), off + k + x.length ≤ cs.size → (x.zipIdx k).foldl (fun cs (p : Value × Nat) => cs.setIfInBounds (off + p.2) p.1) cs = (cs.toList.take (off + k) ++ (x ++ cs.toList.drop (off + k + x.length))).toArray
  | [], k, off, cs, _ => by simp
  | y :: x, k, off, cs, h => by
    simp only [List.length_cons] at h
    rw [List.zipIdx_cons, List.foldl_cons, foldl_set x (k + 1) off _ (by simp; omega)]
    simp only [Array.toList_setIfInBounds]
    congr 1
    rw [show off + (k + 1) = off + k + 1 by omega, List.take_set, List.drop_set_of_lt (by omega)]
    have hlt : off + k < cs.toList.length := by simp; omega
    rw [List.take_add_one, List.getElem?_eq_getElem hlt]
    simp only [Option.toList_some, List.length_cons]
    rw [List.set_append_right _ _ (by simp; omega)]
    have e0 : off + k - (cs.toList.take (off + k)).length = 0 := by simp; omega
    rw [e0]
    simp only [List.set_cons_zero, List.append_assoc, List.cons_append, List.nil_append]
    rw [show off + k + 1 + x.length = off + k + (x.length + 1) by omega]
theorem fill_rel {n : Nat} : ∀ (ps : List (Nat × Nat × V)) (qs : List (Nat × Value)) (place : Nat → Option (Nat × Nat)) (l : List V) (xs : List Value) (r : List V), RelL A n l xs → fillL l ps = some r →
    (List.length qs = ps.length ∧ ∀ (j : Nat) (p : Nat × Nat × V), ps[j]? = some p → ∃ q : Nat × Value, qs[j]? = some q ∧ place q.1 = some (p.1, p.2.1) ∧ Rel A n p.2.2 q.2) → ∃ ys : List Value, Instr.fill place xs.toArray qs = some ys.toArray ∧ RelL A n r ys
  | [], qs, place, l, xs, r, hl, h, hq => by
    injection h with h
    subst h
    have : qs = [] := List.eq_nil_of_length_eq_zero hq.1
    subst this
    exact ⟨xs, rfl, hl⟩
  | (off, sz, v) :: ps, [], place, l, xs, r, hl, h, hq => by simp at hq
  | (off, sz, v) :: ps, (i, x) :: qs, place, l, xs, r, hl, h, hq => by
    simp only [fillL] at h
    obtain ⟨hc, h⟩ := bb_some h
    simp only [Bool.and_eq_true] at hc
    have h1 : v.cells.length = sz := Nat.eq_of_beq_eq_true hc.1
    have h2 : off + sz ≤ l.length := Nat.le_of_ble_eq_true hc.2
    obtain ⟨q, hq0, hq1, hq2⟩ := hq.2 0 (off, sz, v) rfl
    simp only [List.getElem?_cons_zero, Option.some.injEq] at hq0
    subst hq0
    have hvc := Rel.cells hq2
    have hxl : x.cells.size = sz := by have := hvc.length; rw [Array.length_toList] at this; rw [this, h1]
    have hxs := hl.length
    obtain ⟨ys, hy1, hy2⟩ := fill_rel ps qs place _ _ r (cells_set v.cells x.cells.toList l xs off hvc hl) (by rw [h1]; exact h) ⟨by simpa using hq.1, fun j p hp => by
      obtain ⟨q, hq3, hq4⟩ := hq.2 (j + 1) p (by simpa using hp)
      exact ⟨q, by simpa using hq3, hq4⟩⟩
    refine ⟨ys, ?_, hy2⟩
    simp only [Instr.fill, hq1]
    rw [if_neg (by rw [hxl]; simp; omega)]
    have hz : x.cells.zipIdx.foldl (fun cs (p : Value × Nat) => cs.setIfInBounds (off + p.2) p.1) xs.toArray = (x.cells.toList.zipIdx 0).foldl (fun cs (p : Value × Nat) => cs.setIfInBounds (off + p.2) p.1) xs.toArray := by
      rw [← Array.foldl_toList, Array.toList_zipIdx]
    have hf := foldl_set x.cells.toList 0 off xs.toArray (by simp [hxl]; omega)
    simp only [Nat.add_zero] at hf
    rw [show (fun cs (x : Value × Nat) => match x with | (c, j) => cs.setIfInBounds (off + j) c) = (fun (cs : Array Value) (p : Value × Nat) => cs.setIfInBounds (off + p.2) p.1) from rfl, hz, hf]
    exact hy1
theorem parts_rel {n N : Nat} {t : Tr V} {a : Act} (ht : TRel A n N t a.tmps) {place : Nat → Option (Nat × Nat)} : ∀ (l : List (Nat × Operand)) (ps : List (Nat × Nat × Rd)) (vs : List (Nat × Nat × V)), partsB place l = some ps → rdP t ps = some vs →
    (l.map fun x => (x.1, a.eval x.2)).length = vs.length ∧ ∀ (j : Nat) (p : Nat × Nat × V), vs[j]? = some p → ∃ q : Nat × Value, (l.map fun x => (x.1, a.eval x.2))[j]? = some q ∧ place q.1 = some (p.1, p.2.1) ∧ Rel A n p.2.2 q.2
  | [], ps, vs, h1, h2 => by
    unfold partsB at h1
    rw [mapO_nil h1] at h2
    unfold rdP at h2
    rw [mapO_nil h2]
    exact ⟨rfl, fun j p hp => by simp at hp⟩
  | x :: l, ps, vs, h1, h2 => by
    unfold partsB at h1
    obtain ⟨y, q, h3, h4, rfl⟩ := mapO_cons h1
    obtain ⟨p, hp, h3⟩ := ob_some h3
    obtain ⟨r, hr, h3⟩ := ob_some h3
    injection h3 with h3
    subst h3
    unfold rdP at h2
    obtain ⟨z, s, h5, h6, rfl⟩ := mapO_cons h2
    rw [rdK_eq] at h5
    injection h5 with h5
    subst h5
    obtain ⟨h7, h8⟩ := parts_rel ht l q s h4 h6
    refine ⟨by simpa using h7, fun j u9 hu => ?_⟩
    cases j with
    | zero =>
      simp only [List.getElem?_cons_zero, Option.some.injEq] at hu
      subst hu
      exact ⟨_, rfl, hp, rd_rel ht hr⟩
    | succ j =>
      obtain ⟨v, h9, h10⟩ := h8 j u9 (by simpa using hu)
      exact ⟨v, by simpa using h9, h10⟩
theorem rep_rel {n : Nat} {l : List V} {xs : List Value} (h : RelL A n l xs) : ∀ k, RelL A n (rep l k) (List.flatten (List.replicate k xs))
  | 0 => .nil
  | k + 1 => by
    rw [List.replicate_succ, List.flatten_cons]
    exact h.append (rep_rel h k)
theorem flat_get {α : Type} (xs : List α) (hx : 0 < xs.length) : ∀ (k j : Nat), j < k * xs.length → (List.flatten (List.replicate k xs))[j]? = xs[j % xs.length]?
  | 0, j, h => by simp at h
  | k + 1, j, h => by
    rw [List.replicate_succ, List.flatten_cons]
    by_cases hj : j < xs.length
    · rw [List.getElem?_append_left hj, Nat.mod_eq_of_lt hj]
    · have h' := Nat.succ_mul k xs.length
      rw [Nat.succ_eq_add_one] at h'
      rw [List.getElem?_append_right (by omega), flat_get xs hx k (j - xs.length) (by omega), ← Nat.mod_eq_sub_mod (by omega)]
theorem zero_rep (z : Array Value) (k sz : Nat) (hz : z.size = sz) (hs : 0 < sz) : ((Array.range (k * sz)).map fun i => z[i % z.size]!) = (List.flatten (List.replicate k z.toList)).toArray := by
  apply Array.ext'
  apply List.ext_getElem?
  intro j
  have hlen : (List.flatten (List.replicate k z.toList)).length = k * sz := by simp [List.length_flatten, hz]
  rcases Nat.lt_or_ge j (k * sz) with hj | hj
  · have hm : j % sz < z.size := by rw [hz]; exact Nat.mod_lt _ hs
    rw [show (List.flatten (List.replicate k z.toList)).toArray.toList = List.flatten (List.replicate k z.toList) from rfl, flat_get z.toList (by simp [hz]; exact hs) k j (by simpa [hz] using hj)]
    simp [hz, hj]
    rw [getElem!_pos z (j % sz) hm, Array.getElem?_eq_getElem hm]
  · rw [List.getElem?_eq_none (by simp; omega), List.getElem?_eq_none (by simp only [hlen]; exact hj)]
end
end Go.Proofs.YtaadfppfjjkgbaaGreatDoor.Vm
