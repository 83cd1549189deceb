/- The small machine's append does what the model's does. -/
import Derived.Test.YtmjilfamjlnigaaGreatQ04
import Derived.Deep.Upon
import Derived.Laws.AppendOwn
import Derived.Conc.MuLone
namespace Go.Proofs.YtmjilfamjlnigaaGreat.Vm
open Go Go.RowKit

section
variable {A : Sub} {h : H} {w : World} {P : Program}
theorem nsc_le {m c : Nat} (hc : c < m) : Builtin.nextslicecap m c ≤ 16 * m + 2880 := by
  unfold Builtin.nextslicecap
  split
  · omega
  · split
    · omega
    · rw [growBy_four]
      repeat' split
      all_goals omega
theorem sizeB_info {t : TypeId} {n : Nat} (hs : sizeB P t = some n) : ∃ i, P.info? t = some i ∧ i.size = n := by
  unfold sizeB at hs
  obtain ⟨i, hi, hs⟩ := ob_some hs
  rw [fN_eq] at hs
  injection hs with hs
  exact ⟨i, hi, hs⟩
theorem zeroB_info {t : TypeId} {v : V} (hz : zeroB P t = some v) : ∃ i x, P.info? t = some i ∧ i.zero = some x ∧ ofVal x = some v := by
  unfold zeroB at hz
  obtain ⟨i, hi, hz⟩ := ob_some hz
  obtain ⟨x, hx, hz⟩ := ob_some hz
  exact ⟨i, x, hi, hx, hz⟩
theorem newsK_some {sz : Nat} {y : V} {x : Value} {tx e' : TypeId} {β : Type} {K : Nat → List V → Option β} {r : β} (hm : Mt A h w) (hu : P.underlying tx = some (.slice e')) (hy : Rel A h.next y x) (hk : newsK sz h y K = some r) :
    ∃ n l ys, RelL A h.next l ys ∧ l.length = n * sz ∧ allOne l = true ∧ Src P sz tx x n ys w ∧ K n l = some r := by
  unfold newsK at hk
  split at hk
  · obtain ⟨hz, hk⟩ := bb_some hk
    have hz := Nat.eq_of_beq_eq_true hz
    subst hz
    obtain ⟨c, rfl, _, _, _⟩ := hy.of_sl
    obtain ⟨l, ys, h1, h2, h3, h4, hk⟩ := loadRow_some hm hk
    exact ⟨_, l, ys, h1, by rw [← h1.length]; exact h2, h3, Src.ofSlice w hu _ _ _ ys h2 h4 (h1.one h3), hk⟩
  · obtain rfl := hy.of_ns
    exact ⟨0, [], [], .nil, by simp, rfl, Src.ofNil w hu 0, hk⟩
  · cases hk
theorem zeros_size (z : Array Value) (k sz : Nat) (hz : z.size = sz) : (Builtin.zeroCells z k).size = k * sz := by
  simp [Builtin.zeroCells, hz]
/-- What a call of append owes. -/
structure App (P : Program) (sz by_ : Nat) (e ty xt e' : TypeId) (i : TypeInfo) (z : Value) : Prop where
  ht : P.underlying ty = some (.slice e)
  hx : P.underlying xt = some (.slice e')
  hi : P.info? e = some i
  hz : i.zero = some z
  hsz : i.size = sz
  hby : i.bytes = by_
  zs : z.cells.size = sz
  s0 : 0 < sz
  b0 : 0 < by_
theorem grow_some {sz by_ m c : Nat} {e ty xt e' tq : TypeId} {i : TypeInfo} {z : Value} {base : Option Addr} {len n : Nat} {l r : List V} {xs ys : List Value} {x : Value} {β : Type} {K : V → H → Option β} {q : β} (ha : App P sz by_ e ty xt e' i z) (hm : Mt A h w) (hl : RelL A h.next l xs) (hr : RelL A h.next r ys)
    (hll : l.length = len * sz) (hrl : r.length = n * sz) (hold : (Builtin.firstCells sz len (.slice base len c)).run P w.drew = .ok xs.toArray w.drew) (hs : Src P sz xt x n ys w) (hc : c < len + n) (hmm : m = len + n) (hb : m * by_ ≤ 1048576) (hk : growK sz e h m (l ++ r) K = some q) :
    ∃ v h' x' w', K v h' = some q ∧ (Builtin.append_ #[ty, xt] tq #[.slice base len c, x]).run P w = .ok x' w' ∧ Post A h w v h' x' w' := by
  subst hmm
  obtain ⟨h3, hk⟩ := newRow_some hk
  have hm1 : len + n ≤ 1048576 := by
    have h1 : len + n ≤ (len + n) * by_ := Nat.le_mul_of_pos_right _ ha.b0
    omega
  have hfit : Builtin.nextslicecap (len + n) c * i.bytes ≤ 281474976710656 := by
    rw [ha.hby]
    have h1 := nsc_le hc
    have h2 : by_ ≤ 1048576 := by
      have : by_ ≤ (len + n) * by_ := Nat.le_mul_of_pos_left _ (by omega)
      omega
    have h3 : Builtin.nextslicecap (len + n) c * by_ ≤ (16 * (len + n) + 2880) * by_ := Nat.mul_le_mul_right _ h1
    have h4 : (16 * (len + n) + 2880) * by_ = 16 * ((len + n) * by_) + 2880 * by_ := by rw [Nat.add_mul, Nat.mul_assoc]
    omega
  have hrun := run_append_grow_src (P := P) w ty xt tq e i z ha.ht ha.hi ha.hz base len c xs (by rw [ha.hsz]; exact hold) x n ys (by rw [ha.hsz]; exact hs) hc (by omega) hfit
  have hge := grownCap_ge w (len + n) c e
  have hlen : (xs ++ ys).length = (len + n) * sz := by rw [List.length_append, hl.length, hr.length, hll, hrl, Nat.add_mul]
  have hzs := zeros_size z.cells (grownCap w (len + n) c e - (len + n)) sz ha.zs
  have harr : ((xs ++ ys).toArray ++ Builtin.zeroCells z.cells (grownCap w (len + n) c e - (len + n))) = ((xs ++ ys) ++ (Builtin.zeroCells z.cells (grownCap w (len + n) c e - (len + n))).toList).toArray := by
    apply Array.ext'
    simp
  rw [harr] at hrun
  have hsize : ((xs ++ ys) ++ (Builtin.zeroCells z.cells (grownCap w (len + n) c e - (len + n))).toList).length = grownCap w (len + n) c e * sz := by
    rw [List.length_append, hlen, Array.length_toList, hzs, ← Nat.add_mul]
    congr 1
    omega
  have hmd : Mt A h w.drew := hm.same rfl
  have hnew := Ev.new hmd (row_new (kk := grownCap w (len + n) c e * sz) (e := e) (p := true) (hl.append hr) h3 (fun _ => hsize))
  have hdr : Ev A h w A h w.drew := Ev.same hm rfl rfl rfl rfl
  refine ⟨_, _, _, _, hk, hrun, _, hdr.trans hnew, ?_⟩
  have hs1 : (A.ext h.next w.drew.heap.size (grownCap w (len + n) c e * sz)).ι h.next = w.heap.size := by simp [Sub.ext]
  have hs2 : (A.ext h.next w.drew.heap.size (grownCap w (len + n) c e * sz)).κ h.next = grownCap w (len + n) c e * sz := by simp [Sub.ext]
  rw [← hs1]
  exact .slu _ _ _ _ _ _ (Nat.lt_succ_self _) (Nat.le_refl _) hge (by rw [hs2, Nat.zero_add])
theorem appendK_some {sz by_ : Nat} {e ty xt e' tq : TypeId} {i : TypeInfo} {z : Value} {vx vy : V} {x y : Value} {β : Type} {K : V → H → Option β} {q : β} (ha : App P sz by_ e ty xt e' i z) (hm : Mt A h w) (hx : Rel A h.next vx x) (hy : Rel A h.next vy y)
    (hk : appendK sz by_ e h vx vy K = some q) : ∃ v h' x' w', K v h' = some q ∧ (Builtin.append_ #[ty, xt] tq #[x, y]).run P w = .ok x' w' ∧ Post A h w v h' x' w' := by
  unfold appendK at hk
  obtain ⟨n, r, ys, hr, hrl, hro, hs, hk⟩ := newsK_some hm ha.hx hy hk
  have hs' : Src P i.size xt y n ys w := by rw [ha.hsz]; exact hs
  split at hk
  · obtain rfl := hx.of_ns
    cases n with
    | zero =>
      have hys : ys = [] := List.eq_nil_of_length_eq_zero (by rw [hr.length, hrl, Nat.zero_mul])
      subst hys
      exact ⟨_, _, _, _, hk, run_append_nothing w ty xt tq e i ha.ht ha.hi none 0 0 (Nat.le_refl _) y hs', .same hm .ns⟩
    | succ n =>
      obtain ⟨hb, hk⟩ := bb_some hk
      exact grow_some (l := []) (xs := []) ha hm .nil hr (by simp) hrl (run_firstCells_none _ _ _ _ _) hs (by omega) (by omega) (Nat.le_of_ble_eq_true hb) hk
  · rename_i b o len cap kn z' _
    obtain ⟨c, rfl, hbn, hkn, hunk⟩ := hx.of_sl
    obtain ⟨hz, hk1⟩ := bb_some hk
    clear hk
    have hz := Nat.eq_of_beq_eq_true hz
    subst hz
    obtain ⟨hb, hk2⟩ := bb_some hk1
    clear hk1
    have hb : (len + n + cap) * by_ ≤ 1048576 := Nat.le_of_ble_eq_true hb
    have hmb : (len + n) * by_ ≤ 1048576 := Nat.le_trans (Nat.mul_le_mul_right _ (Nat.le_add_right _ _)) hb
    rw [fN_eq] at hk2
    have hcap : cap ≤ c := by
      cases kn with
      | true => rw [hkn rfl]; exact Nat.le_refl _
      | false => exact (hunk rfl).2.1
    by_cases hroom : len + n ≤ cap
    · rw [show Nat.ble (Nat.add len n) cap = true from Nat.ble_eq_true_of_le hroom, br_t] at hk2
      obtain ⟨h', w', h1, h2, h3, _, h5, h6, _, h8⟩ := storeL_some (P := P) hm hr hk2
      refine ⟨_, _, .slice (some ⟨A.ι b, o, none⟩) (len + n) c, w', h1, ?_, A, h3, ?_⟩
      · have := run_append_room_src (P := P) w ty xt tq e i ha.ht ha.hi (A.ι b) o len c y n ys hs' (by omega) (by rw [ha.hsz]; exact h5) (by rw [ha.hsz]; exact h6)
        rw [ha.hsz] at this
        rw [this, h8]
        rfl
      · rw [h2]
        cases kn with
        | true => rw [hkn rfl]; exact .slk _ _ _ _ _ hbn
        | false => exact .slu _ _ _ _ _ _ hbn hroom hcap (hunk rfl).2.2
    · rw [show Nat.ble (Nat.add len n) cap = false from by
        cases hx : Nat.ble (Nat.add len n) cap with
        | false => rfl
        | true => exact absurd (Nat.le_of_ble_eq_true hx) hroom, br_f] at hk2
      cases kn with
      | true =>
        rw [br_t] at hk2
        obtain ⟨l, xs, h1, h2, h3, h4, hk3⟩ := loadRow_some hm hk2
        have hcc := hkn rfl
        rw [hcc]
        exact grow_some ha hm h1 hr (by rw [← h1.length]; exact h2) hrl (run_firstCells_some _ _ _ _ _ _ xs h2 h4) hs (by omega) rfl hmb hk3
      | false =>
        rw [br_f] at hk2
        obtain ⟨ho, hk3⟩ := bb_some hk2
        have ho := Nat.eq_of_beq_eq_true ho
        subst ho
        obtain ⟨e2, hi2, p, ct, hbl, hk4⟩ := rowK_some hk3
        obtain ⟨hp, hk5⟩ := bb_some hk4
        subst hp
        obtain ⟨he, hk6⟩ := bb_some hk5
        have he := Nat.eq_of_beq_eq_true he
        subst he
        obtain ⟨hh, hk7⟩ := bb_some hk6
        have hh : len * z' = hi2 := Nat.eq_of_beq_eq_true hh
        subst hh
        obtain ⟨hro', hk8⟩ := bb_some hk7
        rw [Tr.putL_eq, Tr.put_set, fN_eq] at hk8
        have hk9 := newO_some hk8
        obtain ⟨hu1, hu2, hu3⟩ := hunk rfl
        rw [Nat.zero_add] at hu3
        obtain ⟨cs, h1, h2, h3, h4⟩ := hm.row hbl
        have hcs := h2 rfl
        by_cases hin : len + n ≤ c
        · -- in place
          have hle : (len + n) * z' ≤ c * z' := Nat.mul_le_mul_right _ hin
          have hsz : len * z' + ys.length ≤ cs.size := by rw [hr.length, hrl, hcs, ← hu3, ← Nat.add_mul]; exact hle
          have hor := cells_splice (hi' := (len + n) * z') (e := e) (o := len * z') h3 h2 hr hro hsz (fun j hj => by
            rw [hrl, ← Nat.add_mul]
            omega)
          have h1c := hr.one hro
          have hrow := setCells_row h1 ys hsz h1c
          have hev := Ev.turn (w' := w.setCells (A.ι b) (len * z') ys) hm hbl hor (by rw [hrow]; exact setRow_heap w _ cs _ _ _ h1) (fun k hk => by rw [hrow]; exact setRow_other w _ k _ hk) (by rw [hrow]; simp) (by rw [hrow]; rfl) (by rw [hrow]; rfl) (by rw [hrow]; rfl)
          refine ⟨_, _, .slice (some ⟨A.ι b, 0, none⟩) (len + n) c, _, hk9, ?_, _, hev, ?_⟩
          · have := run_append_room_src (P := P) w ty xt tq e i ha.ht ha.hi (A.ι b) 0 len c y n ys hs' hin (fun j hj => by
              rw [ha.hsz, Nat.zero_add, cell_of h1, Array.getElem?_eq_getElem (by omega)]; rfl) (fun j _ => by rw [frozen_of h1])
            rw [ha.hsz, Nat.zero_add] at this
            exact this
          · have hs1 : (A.ext h.next (A.ι b) (A.κ b)).ι h.next = A.ι b := by simp [Sub.ext]
            have hs2 : (A.ext h.next (A.ι b) (A.κ b)).κ h.next = A.κ b := by simp [Sub.ext]
            have := Rel.slu (A := A.ext h.next (A.ι b) (A.κ b)) (n := h.next + 1) h.next 0 (len + n) (len + n) z' c (Nat.lt_succ_self _) (Nat.le_refl _) hin (by rw [hs2, Nat.zero_add]; exact hu3)
            rw [hs1] at this
            exact this
        · -- a new row
          have hc' : c < len + n := by omega
          have hm1 : len + n ≤ 1048576 := by
            have h1 : len + n ≤ (len + n) * by_ := Nat.le_mul_of_pos_right _ ha.b0
            omega
          have hfit : Builtin.nextslicecap (len + n) c * i.bytes ≤ 281474976710656 := by
            rw [ha.hby]
            have h1 := nsc_le hc'
            have h2 : by_ ≤ 1048576 := by
              have : by_ ≤ (len + n) * by_ := Nat.le_mul_of_pos_left _ (by omega)
              omega
            have h3 : Builtin.nextslicecap (len + n) c * by_ ≤ (16 * (len + n) + 2880) * by_ := Nat.mul_le_mul_right _ h1
            have h4 : (16 * (len + n) + 2880) * by_ = 16 * ((len + n) * by_) + 2880 * by_ := by rw [Nat.add_mul, Nat.mul_assoc]
            omega
          have holds : (cs.toList.take (len * z')).length = len * z' := by rw [List.length_take, Array.length_toList]; omega
          have hget : ∀ (j : Nat) (u9 : Value), (cs.toList.take (len * z'))[j]? = some u9 → w.cell? ((⟨A.ι b, 0, none⟩ : Addr).add j) = some u9 := fun j u9 hu => by
            rw [add_lit, Nat.zero_add, cell_of h1]
            rw [List.getElem?_take] at hu
            split at hu
            · simpa using hu
            · cases hu
          have hrun := run_append_grow_src (P := P) w ty xt tq e i z ha.ht ha.hi ha.hz (some ⟨A.ι b, 0, none⟩) len c (cs.toList.take (len * z')) (by rw [ha.hsz]; exact run_firstCells_some _ _ _ _ _ _ _ holds hget) y n ys hs' hc' (by omega) hfit
          have hge := grownCap_ge w (len + n) c e
          have hzs := zeros_size z.cells (grownCap w (len + n) c e - (len + n)) z' ha.zs
          have hsize : (((cs.toList.take (len * z')) ++ ys).toArray ++ Builtin.zeroCells z.cells (grownCap w (len + n) c e - (len + n))).size = grownCap w (len + n) c e * z' := by
            rw [Array.size_append, List.size_toArray, List.length_append, holds, hzs, hr.length, hrl, ← Nat.add_mul, ← Nat.add_mul]
            congr 1
            omega
          have hkl := Ev.kill hm b
          have hdr : Ev A ⟨h.next, h.t.set b none⟩ w A ⟨h.next, h.t.set b none⟩ w.drew := Ev.same hkl.mt rfl rfl rfl rfl
          have hor : ORel A h.next (grownCap w (len + n) c e * z') (.cells e ((len + n) * z') true (Tr.putsL r ct (len * z'))) (.cells (((cs.toList.take (len * z')) ++ ys).toArray ++ Builtin.zeroCells z.cells (grownCap w (len + n) c e - (len + n))) e (0, 0)) := by
            refine ⟨_, rfl, fun _ => hsize, fun j hj => ?_⟩
            rw [Tr.get_putsL]
            have harr : ∀ u9, ((cs.toList.take (len * z')) ++ ys)[j]? = some u9 → (((cs.toList.take (len * z')) ++ ys).toArray ++ Builtin.zeroCells z.cells (grownCap w (len + n) c e - (len + n)))[j]? = some u9 := fun u9 hu => by
              have hlt := (List.getElem?_eq_some_iff.1 hu).1
              rw [Array.getElem?_append_left (by simpa using hlt)]
              simpa using hu
            by_cases hj1 : len * z' ≤ j
            · rw [if_pos ⟨hj1, by rw [hrl, ← Nat.add_mul]; exact hj⟩]
              have hjr : j - len * z' < r.length := by rw [hrl]; rw [Nat.add_mul] at hj; omega
              have h5 : r[j - len * z']? = some r[j - len * z'] := List.getElem?_eq_getElem hjr
              obtain ⟨u9, hu, hru⟩ := hr.get h5
              exact ⟨_, u9, h5, harr u9 (by rw [List.getElem?_append_right (by omega), holds]; exact hu), hru, allOne_get hro h5⟩
            · rw [if_neg (by omega)]
              obtain ⟨v, u9, h5, h6, h7, h8⟩ := h3 j (by omega)
              exact ⟨v, u9, h5, harr u9 (by rw [List.getElem?_append_left (by omega), List.getElem?_take_of_lt (by omega)]; simpa using h6), h7, h8⟩
          have hnew := Ev.new hdr.mt hor
          refine ⟨_, _, .slice (some ⟨w.heap.size, 0, none⟩) (len + n) (grownCap w (len + n) c e), _, hk9, hrun, _, hkl.trans (hdr.trans hnew), ?_⟩
          have hs1 : (A.ext h.next w.drew.heap.size (grownCap w (len + n) c e * z')).ι h.next = w.heap.size := by simp [Sub.ext]
          have hs2 : (A.ext h.next w.drew.heap.size (grownCap w (len + n) c e * z')).κ h.next = grownCap w (len + n) c e * z' := by simp [Sub.ext]
          rw [← hs1]
          exact .slu _ _ _ _ _ _ (Nat.lt_succ_self _) (Nat.le_refl _) hge (by rw [hs2, Nat.zero_add])
  · cases hk
end
end Go.Proofs.YtmjilfamjlnigaaGreat.Vm
/- The small machine's operations do what the model's do: maps of whole numbers, calls. -/
namespace Go.Proofs.YtmjilfamjlnigaaGreat.Vm
open Go Go.RowKit

section
variable {A : Sub} {h : H} {w : World} {P : Program} {β : Type}
theorem mapK_some {r : Nat} {K : List En → Nat → Option β} {q : β} (hm : Mt A h w) (hk : mapK h r K = some q) : ∃ es c xs, h.t.get r = some (.map es c) ∧ w.heap[A.ι r]? = some (.map xs c) ∧ xs.size = es.length ∧
    (∀ (j : Nat) (e : En), es[j]? = some e → ∃ y, xs[j]? = some y ∧ EnRel A h.next e y) ∧ K es c = some q := by
  unfold mapK at hk
  obtain ⟨x, hx, hk⟩ := ob_some hk
  split at hk
  · rename_i es c
    obtain ⟨o, ho, xs, rfl, h1, h2⟩ := hm.obj r _ hx
    exact ⟨es, c, xs, hx, ho, h1, h2, hk⟩
  · cases hk
theorem run_getMap {r c : Nat} {xs : Array MapEntry} (hr : w.heap[r]? = some (.map xs c)) : (getObj r).run P w = .ok (.map xs c) w := by
  simp only [getObj, Sem.run, hr]
theorem run_setMap {r c : Nat} {xs : Array MapEntry} {o : Obj} (hr : w.heap[r]? = some (.map xs c)) : (setObj r o).run P w = .ok () { w with heap := w.heap.setIfInBounds r o } := by
  simp only [setObj, Sem.run, hr]
theorem keyInt_some {ty e : TypeId} (h : keyInt P ty = some e) : ∃ k q, P.underlying ty = some (.map k e) ∧ P.underlying k = some (.int q) := by
  unfold keyInt at h
  split at h
  · rename_i k e' hu
    split at h
    · rename_i q hq
      injection h with h
      subst h
      exact ⟨k, q, hu, hq⟩
    · cases h
  · cases h
theorem run_check {b : Bool} (d : Nat) {k : TypeId} {q j : IntKind} {n : Int} (hk : P.underlying k = some (.int q)) : (Instr.checkKey b (d + 1) k (.int j n)).run P w = .ok () w := by
  simp only [Instr.checkKey, Sem.run_bind, run_und hk, Result.andThen_ok, Sem.run_pure]
theorem find_none {n : Nat} {q k : IntKind} {m : Int} : ∀ (es : List En) (xs : List MapEntry) (i : Nat), xs.length = es.length → (∀ (j : Nat) (e : En), es[j]? = some e → ∃ y, xs[j]? = some y ∧ EnRel A n e y) → findE k m es = some none → Instr.findNow (.int q) (.int k m) xs i = some none
  | [], xs, i, hl, _, _ => by
    obtain rfl : xs = [] := List.eq_nil_of_length_eq_zero hl
    rfl
  | e :: es, [], i, hl, _, _ => by simp at hl
  | e :: es, x :: xs, i, hl, hr, hf => by
    simp only [findE] at hf
    obtain ⟨hk, hf⟩ := bb_some hf
    have hk := of_decide_eq_true hk
    obtain ⟨y, hy, h1, _, _⟩ := hr 0 e rfl
    simp only [List.getElem?_cons_zero, Option.some.injEq] at hy
    subst hy
    simp only [Instr.findNow, h1, Instr.sameNow, hk, if_true]
    cases hne : (m == e.n) with
    | true => rw [hne] at hf; simp at hf
    | false =>
      rw [hne] at hf
      simp only [cond_false] at hf
      rw [← hk]
      exact find_none es xs (i + 1) (by simpa using hl) (fun j e' he' => by simpa using hr (j + 1) e' (by simpa using he')) hf
theorem find_some {n : Nat} {q k : IntKind} {m : Int} {v : V} : ∀ (es : List En) (xs : List MapEntry) (i : Nat), xs.length = es.length → (∀ (j : Nat) (e : En), es[j]? = some e → ∃ y, xs[j]? = some y ∧ EnRel A n e y) → findE k m es = some (some v) →
    ∃ j y e, es[j]? = some e ∧ xs[j]? = some y ∧ e.v = v ∧ y.key = .int k m ∧ Rel A n v y.val ∧ Instr.findNow (.int q) (.int k m) xs i = some (some (i + j, y.val)) ∧ (∀ u9, putE m u9 es = es.set j { e with v := u9 })
  | [], xs, i, hl, _, hf => by simp [findE] at hf
  | e :: es, [], i, hl, _, _ => by simp at hl
  | e :: es, x :: xs, i, hl, hr, hf => by
    simp only [findE] at hf
    obtain ⟨hk, hf⟩ := bb_some hf
    have hk := of_decide_eq_true hk
    obtain ⟨y, hy, h1, h2, h3⟩ := hr 0 e rfl
    simp only [List.getElem?_cons_zero, Option.some.injEq] at hy
    subst hy
    cases hne : (m == e.n) with
    | true =>
      rw [hne] at hf
      simp only [cond_true, Option.some.injEq] at hf
      have hm : m = e.n := by simpa using hne
      refine ⟨0, x, e, rfl, rfl, hf, by rw [h1, hk, hm], by rw [← hf]; exact h2, ?_, fun u9 => by simp [putE, hne]⟩
      simp [Instr.findNow, h1, Instr.sameNow, hk, hm]
    | false =>
      rw [hne] at hf
      simp only [cond_false] at hf
      obtain ⟨j, y, e', h4, h5, h6, h7, h8, h9, h10⟩ := find_some (q := q) es xs (i + 1) (by simpa using hl) (fun j e' he' => by simpa using hr (j + 1) e' (by simpa using he')) hf
      refine ⟨j + 1, y, e', by simpa using h4, by simpa using h5, h6, h7, h8, ?_, fun u9 => by simp [putE, hne, h10]⟩
      simp only [Instr.findNow, h1, Instr.sameNow, ← hk, if_true, hne]
      rw [h9]
      congr 3
      omega
theorem newMap_ok {ty : TypeId} {C : CallF} : OpOk P C (.makeMap ty none) ⟨fun _ _ h K => newO h (.map [] 0) fun b h => K (.m b) h⟩ := by
  intro o ho A h w N t a K q hm ht hk
  have hk : newO h (.map [] 0) (fun b h => K (.m b) h) = some q := hk
  have hk := newO_some hk
  have hor : ORel A h.next 0 (.map [] 0) (.map #[] 0) := ⟨#[], rfl, rfl, fun j e he => by simp at he⟩
  refine ⟨_, _, hk, .value (x := .map (some w.heap.size)) (w' := w.alloc (.map #[] 0)) ?_ ⟨_, Ev.new (k := 0) hm hor, ?_⟩⟩
  · simp only [execOp, ho, Option.map_none, Instr.makeMap, Sem.run_bind, Sem.run_pure, Result.andThen_ok]
    rfl
  · have : Rel (A.ext h.next w.heap.size 0) (h.next + 1) (.m h.next) (.map (some ((A.ext h.next w.heap.size 0).ι h.next))) := .m _ (Nat.lt_succ_self _)
    simpa [Sub.ext] using this
theorem heap_set (w : World) (g : Nat) (o : Obj) (hg : g < w.heap.size) : ({ w with heap := w.heap.setIfInBounds g o } : World).heap[g]? = some o := by simp [hg]
theorem heap_set_ne (w : World) (g k : Nat) (o : Obj) (hk : k ≠ g) : ({ w with heap := w.heap.setIfInBounds g o } : World).heap[k]? = w.heap[k]? := by
  simp [Array.getElem?_setIfInBounds_ne (Ne.symm hk)]
theorem updK_some {ty e : TypeId} {vm vk vv : V} {m k v : Value} {K : H → Option β} {q : β} (hm : Mt A h w) (hu : keyInt P ty = some e) (h1 : Rel A h.next vm m) (h2 : Rel A h.next vk k) (h3 : Rel A h.next vv v) (hk : updK h vm vk vv K = some q) :
    ∃ h' w', K h' = some q ∧ (Instr.mapUpdate ty m k v).run P w = .ok () w' ∧ Ev A h w A h' w' ∧ h'.next = h.next := by
  unfold updK at hk
  split at hk
  · rename_i r
    obtain ⟨rfl, hr⟩ := h1.of_m
    obtain ⟨j, n, rfl, hk⟩ := asI_some hk
    obtain rfl := h2.of_i
    obtain ⟨es, c, xs, hb, hx, hsz, hes, hk⟩ := mapK_some hm hk
    obtain ⟨f, hf, hk⟩ := ob_some hk
    obtain ⟨kt, kq, ht, hkt⟩ := keyInt_some hu
    have hlt := hm.ilt hb
    cases f with
    | none =>
      have hk : fN (Nat.succ c) (fun c1 => Tr.put (some (.map (es ++ [⟨j, n, vv, c⟩]) c1)) h.t r fun t => K ⟨h.next, t⟩) = some q := hk
      rw [fN_eq, Tr.put_set] at hk
      have hfn := find_none (q := kq) (n := h.next) es xs.toList 0 (by simpa using hsz) (fun j e he => by simpa using hes j e he) hf
      refine ⟨_, { w with heap := w.heap.setIfInBounds (A.ι r) (.map (xs.push { key := .int j n, val := v, born := c }) (c + 1)) }, hk, ?_, Ev.upd hm hb ?_ (heap_set w _ _ hlt) (fun k hk => heap_set_ne w _ k _ hk) (by simp) rfl rfl rfl, rfl⟩
      · have hc := run_check (P := P) (w := w) (b := false) 9999 (j := j) (n := n) hkt
        simp only [Instr.mapUpdate, Sem.run_bind, run_und ht, Result.andThen_ok, run_getMap hx]
        rw [show (Instr.checkKey false 10000 kt (.int j n)).run P w = .ok () w from hc]
        simp only [Result.andThen_ok, Instr.findKey, Sem.run_bind, run_und hkt, hfn, Sem.run_pure, run_setMap hx]
      · refine ⟨_, rfl, by simp [hsz], fun i e he => ?_⟩
        by_cases hi : i < es.length
        · rw [List.getElem?_append_left hi] at he
          obtain ⟨y, hy, hr⟩ := hes i e he
          exact ⟨y, by rw [Array.getElem?_push_lt (by omega)]; rw [Array.getElem?_eq_getElem (by omega)] at hy; exact hy, hr⟩
        · have hi2 : i = es.length := by
            have := (List.getElem?_eq_some_iff.1 he).1
            simp at this
            omega
          subst hi2
          simp at he
          subst he
          refine ⟨{ key := .int j n, val := v, born := c }, by rw [← hsz]; simp, rfl, h3, rfl⟩
    | some u9 =>
      have hk : Tr.put (some (.map (putE n vv es) c)) h.t r (fun t => K ⟨h.next, t⟩) = some q := hk
      rw [Tr.put_set] at hk
      obtain ⟨i, y, e', h4, h5, h6, h7, h8, h9, h10⟩ := find_some (q := kq) (n := h.next) es xs.toList 0 (by simpa using hsz) (fun j e he => by simpa using hes j e he) hf
      rw [Nat.zero_add] at h9
      have h5 : xs[i]? = some y := by simpa using h5
      refine ⟨_, { w with heap := w.heap.setIfInBounds (A.ι r) (.map (xs.modify i fun e => { e with key := .int j n, val := v }) c) }, hk, ?_, Ev.upd hm hb ?_ (heap_set w _ _ hlt) (fun k hk => heap_set_ne w _ k _ hk) (by simp) rfl rfl rfl, rfl⟩
      · have hc := run_check (P := P) (w := w) (b := false) 9999 (j := j) (n := n) hkt
        simp only [Instr.mapUpdate, Sem.run_bind, run_und ht, Result.andThen_ok, run_getMap hx]
        rw [show (Instr.checkKey false 10000 kt (.int j n)).run P w = .ok () w from hc]
        simp only [Result.andThen_ok, Instr.findKey, Sem.run_bind, run_und hkt, h9, Sem.run_pure, h5, Option.map_some, Option.getD_some, h7]
        have hst : (Instr.keyThatStays (.int j n) (.int j n)).run P w = .ok (.int j n) w := by
          unfold Instr.keyThatStays
          rw [if_pos (by simp [Instr.sameBits])]
          rfl
        simp only [hst, Result.andThen_ok, run_setMap hx]
      · rw [h10]
        refine ⟨_, rfl, by simp [hsz], fun l e he => ?_⟩
        rw [List.getElem?_set] at he
        by_cases hl : i = l
        · subst hl
          rw [if_pos rfl] at he
          split at he
          · injection he with he
            subst he
            obtain ⟨y', hy', hr1, hr2, hr3⟩ := hes i e' h4
            rw [h5] at hy'
            injection hy' with hy'
            subst hy'
            refine ⟨{ y with key := .int j n, val := v }, by simp [Array.getElem?_modify, h5], ?_, h3, hr3⟩
            rw [← h7]; exact hr1
          · cases he
        · rw [if_neg hl] at he
          obtain ⟨y', hy', hr⟩ := hes l e he
          exact ⟨y', by rw [Array.getElem?_modify, if_neg hl]; exact hy', hr⟩
  · cases hk
theorem insert_ok {ty e : TypeId} {x y z : Operand} {rx ry rz : Rd} {C : CallF} (hx : rdB x = some rx) (hy : rdB y = some ry) (hz : rdB z = some rz) (hu : keyInt P ty = some e) :
    OpOk P C (.insert ty x y z) ⟨fun _ t h K => rdK t rx fun m => rdK t ry fun k => rdK t rz fun v => updK h m k v fun h => K .u h⟩ := by
  intro o ho A h w N t a K q hm ht hk
  simp only [rdK_eq] at hk
  obtain ⟨h', w', h1, h2, h3, _⟩ := updK_some hm hu (rd_rel ht hx) (rd_rel ht hy) (rd_rel ht hz) hk
  exact ⟨_, _, h1, .skip (w' := w') (by simp only [execOp, ho, Sem.run_bind, h2, Result.andThen_ok, Sem.run_pure]) ⟨A, h3, .u⟩⟩
theorem mapUpdate_ok {ty e : TypeId} {x y z : Operand} {rx ry rz : Rd} {C : CallF} (hx : rdB x = some rx) (hy : rdB y = some ry) (hz : rdB z = some rz) (hu : keyInt P ty = some e) :
    OpOk P C (.mapUpdate ty x y z) ⟨fun _ t h K => rdK t rx fun m => rdK t ry fun k => rdK t rz fun v => updK h m k v fun h => K .u h⟩ := by
  intro o ho A h w N t a K q hm ht hk
  simp only [rdK_eq] at hk
  obtain ⟨h', w', h1, h2, h3, _⟩ := updK_some hm hu (rd_rel ht hx) (rd_rel ht hy) (rd_rel ht hz) hk
  exact ⟨_, _, h1, .skip (w' := w') (by simp only [execOp, ho, Sem.run_bind, h2, Result.andThen_ok, Sem.run_pure]) ⟨A, h3, .u⟩⟩
theorem lookup_ok {ty e : TypeId} {x y : Operand} {ok : Bool} {rx ry : Rd} {z : V} {C : CallF} (hx : rdB x = some rx) (hy : rdB y = some ry) (hu : keyInt P ty = some e) (hz : zeroB P e = some z) :
    OpQ P C (.lookup ty x y ok) ⟨fun _ t h K => rdK t rx fun m => rdK t ry fun k => lookK h m k z ok fun v => K v h⟩ := by
  intro o ho A h w N t a K q hm ht hk
  simp only [rdK_eq] at hk
  unfold lookK at hk
  have hrx := rd_rel ht hx
  have hry := rd_rel ht hy
  obtain ⟨j, n, h1, hk⟩ := asI_some hk
  rw [h1] at hry
  have hry := hry.of_i
  obtain ⟨f, hf, hk⟩ := ob_some hk
  obtain ⟨kt, kq, htt, hkt⟩ := keyInt_some hu
  obtain ⟨zx, hz1, hz2⟩ := run_zero (w := w) hz
  have fin : ∀ (v : V) (x' : Value) (b : Bool), Rel A h.next v x' → (execOp a.eval o).run P w = .ok (.value (if ok = true then .tuple #[x', .bool b] else x')) w → br ok (K (.tup [v, .b b]) h) (K v h) = some q → ∃ v, K v h = some q ∧ ∃ x, (execOp a.eval o).run P w = .ok (.value x) w ∧ Rel A h.next v x := by
    intro v x' b hv he hk
    cases ok with
    | true =>
      rw [br_t] at hk
      exact ⟨_, hk, _, he, (.tup _ _ (.cons _ _ _ _ hv (.cons _ _ _ _ (.b _) .nil)))⟩
    | false =>
      rw [br_f] at hk
      exact ⟨_, hk, _, he, hv⟩
  have hc := fun b => run_check (P := P) (w := w) (b := b) 9999 (j := j) (n := n) hkt
  split at hf
  · rename_i hv
    rw [hv] at hrx
    have hrx := hrx.of_nm
    injection hf with hf
    subst hf
    refine fin z zx false (ofVal_rel hz2) ?_ hk
    simp only [execOp, ho, hrx, hry, Instr.lookup, Sem.run_bind, run_und htt, Result.andThen_ok, Sem.run_pure]
    rw [show (Instr.checkKey (#[] : Array MapEntry).isEmpty 10000 kt (.int j n)).run P w = .ok () w from hc _]
    simp only [Result.andThen_ok, Instr.findKey, Sem.run_bind, run_und hkt, Instr.findNow, Sem.run_pure, hz1]
  · rename_i r hv
    rw [hv] at hrx
    obtain ⟨hrx, hr⟩ := hrx.of_m
    obtain ⟨es, c, xs, hb, hx, hsz, hes, hf⟩ := mapK_some hm hf
    cases f with
    | none =>
      have hfn := find_none (q := kq) (n := h.next) es xs.toList 0 (by simpa using hsz) (fun j e he => by simpa using hes j e he) hf
      refine fin z zx false (ofVal_rel hz2) ?_ hk
      simp only [execOp, ho, hrx, hry, Instr.lookup, Sem.run_bind, run_und htt, Result.andThen_ok, run_getMap hx, Sem.run_pure]
      rw [show (Instr.checkKey xs.isEmpty 10000 kt (.int j n)).run P w = .ok () w from hc _]
      simp only [Result.andThen_ok, Instr.findKey, Sem.run_bind, run_und hkt, hfn, Sem.run_pure, hz1]
    | some v =>
      obtain ⟨i, y, e', h4, h5, h6, h7, h8, h9, h10⟩ := find_some (q := kq) (n := h.next) es xs.toList 0 (by simpa using hsz) (fun j e he => by simpa using hes j e he) hf
      refine fin v y.val true h8 ?_ hk
      simp only [execOp, ho, hrx, hry, Instr.lookup, Sem.run_bind, run_und htt, Result.andThen_ok, run_getMap hx, Sem.run_pure]
      rw [show (Instr.checkKey xs.isEmpty 10000 kt (.int j n)).run P w = .ok () w from hc _]
      simp only [Result.andThen_ok, Instr.findKey, Sem.run_bind, run_und hkt, h9, Sem.run_pure]
  · cases hf
theorem range_ok {ty e : TypeId} {x : Operand} {rx : Rd} {C : CallF} (hx : rdB x = some rx) (hu : keyInt P ty = some e) : OpOk P C (.range ty x) ⟨fun _ t h K => rdK t rx fun x => match x with
    | .m r => mapK h r fun _ c => newO h (.iter r c [] c) fun b h => K (.p b 0) h
    | _ => none⟩ := by
  intro o ho A h w N t a K q hm ht hk
  have hrx := rd_rel ht hx
  simp only [rdK_eq] at hk
  split at hk
  · rename_i r hv
    rw [hv] at hrx
    obtain ⟨hrx, hr⟩ := hrx.of_m
    obtain ⟨es, c, xs, hb, hx, hsz, hes, hk⟩ := mapK_some hm hk
    have hk := newO_some hk
    obtain ⟨kt, kq, htt, hkt⟩ := keyInt_some hu
    have hor : ORel A h.next 0 (.iter r c [] c) (.mapIter (some (A.ι r)) c #[] c) := ⟨hr, rfl⟩
    refine ⟨_, _, hk, .value (x := .pointer (some ⟨w.heap.size, 0, none⟩)) (w' := w.alloc (.mapIter (some (A.ι r)) c #[] c)) ?_ ⟨_, Ev.new (k := 0) hm hor, ptr_new A h.next w.heap.size 0⟩⟩
    simp only [execOp, ho, hrx, Instr.range, Sem.run_bind, run_und htt, Result.andThen_ok, run_getMap hx, Sem.run_pure]
    rfl
  · cases hk
theorem run_getIter {r s l : Nat} {m : Option Nat} {xs : Array Nat} (hr : w.heap[r]? = some (.mapIter m s xs l)) : (getObj r).run P w = .ok (.mapIter m s xs l) w := by
  simp only [getObj, Sem.run, hr]
theorem find_pt {n : Nat} {s : Nat} : ∀ (es : List En) (xs : List MapEntry), xs.length = es.length → (∀ (j : Nat) (e : En), es[j]? = some e → ∃ y, xs[j]? = some y ∧ EnRel A n e y) → ∀ e, es.find? (fun e => Nat.beq e.born s) = some e →
    ∃ y, xs.find? (fun e => e.born == s) = some y ∧ EnRel A n e y
  | [], xs, _, _, e, h => by simp at h
  | e0 :: es, [], hl, _, _, _ => by simp at hl
  | e0 :: es, x :: xs, hl, hr, e, h => by
    obtain ⟨y, hy, h1, h2, h3⟩ := hr 0 e0 rfl
    simp only [List.getElem?_cons_zero, Option.some.injEq] at hy
    subst hy
    rw [List.find?_cons] at h ⊢
    by_cases hb : e0.born = s
    · rw [beqT hb] at h
      simp only [Option.some.injEq] at h
      subst h
      rw [h3, hb]
      simp only [beq_self_eq_true]
      exact ⟨x, rfl, h1, h2, h3⟩
    · rw [beqF hb] at h
      simp only at h
      have : (x.born == s) = false := by rw [h3]; simpa using hb
      rw [this]
      exact find_pt es xs (by simpa using hl) (fun j e' he' => by simpa using hr (j + 1) e' (by simpa using he')) e h
theorem entry_ok {x : Operand} {rx : Rd} {C : CallF} (hx : rdB x = some rx) : OpQ P C (.entry x) ⟨fun _ t h K => rdK t rx fun x => asP x fun pt o => bb (Nat.beq o 0) (entryK h pt fun v => K v h)⟩ := by
  intro o ho A h w N t a K q hm ht hk
  have hrx := rd_rel ht hx
  simp only [rdK_eq] at hk
  obtain ⟨b, o', hv, hk⟩ := asP_some hk
  obtain ⟨ho', hk⟩ := bb_some hk
  have ho' := Nat.eq_of_beq_eq_true ho'
  subst ho'
  rw [hv] at hrx
  obtain ⟨hrx, hb⟩ := hrx.of_p
  unfold entryK at hk
  obtain ⟨y, hy, hk⟩ := ob_some hk
  split at hk
  · rename_i m since seen stepped
    obtain ⟨ob1, hob, hmn, rfl⟩ := hm.obj b _ hy
    obtain ⟨es, c, xs, hb2, hx2, hsz, hes, hk⟩ := mapK_some hm hk
    obtain ⟨hc, hk⟩ := bb_some hk
    have hc := Nat.eq_of_beq_eq_true hc
    obtain ⟨s, hs, hk⟩ := ob_some hk
    obtain ⟨e, he, hk⟩ := ob_some hk
    obtain ⟨z, hz, h1, h2, h3⟩ := find_pt (n := h.next) es xs.toList (by simpa using hsz) (fun j e he => by simpa using hes j e he) e he
    refine ⟨_, hk, .tuple #[.int e.k e.n, z.val], ?_, (.tup _ _ (.cons _ _ _ _ (.i _ _) (.cons _ _ _ _ h2 .nil)))⟩
    have hbk : seen.toArray.back? = some s := by simpa using hs
    have hfd : xs.find? (fun e => e.born == s) = some z := by rw [← Array.find?_toList]; exact hz
    simp only [execOp, ho, hrx, Instr.entry, Sem.run_bind, run_getIter hob, Result.andThen_ok, hbk, run_getMap hx2, hc, bne_self_eq_false, Bool.false_eq_true, if_false, hfd, h1, Sem.run_pure]
  · cases hk
end
end Go.Proofs.YtmjilfamjlnigaaGreat.Vm
/- The small machine's operations do what the model's do: calls; all operations. -/
namespace Go.Proofs.YtmjilfamjlnigaaGreat.Vm
open Go Go.RowKit

/-- Calls of the small machine are the model's. -/
def CallOk (P : Program) (C : CallF) : Prop := ∀ (f : FuncId) (args : List V) (h : H) (r : V × H), C f args h = some r → (∀ (xs : Array Value) (w : World), (callFunc f xs).run P w = .ok (.enter f xs) w) ∧
  ∀ (A : Sub) (w : World) (xs : List Value), Mt A h w → RelL A h.next args xs → Calls P f xs.toArray w fun e w' => ∃ x, e = .returned x ∧ Post A h w r.1 r.2 x w'
section
variable {P : Program} {C : CallF} {β : Type}
theorem mapO2 {α γ : Type} {f : α → Option γ} {l : List α} {x y : γ} (h : mapO f l = some [x, y]) : ∃ a b, l = [a, b] ∧ f a = some x ∧ f b = some y := by
  cases l with
  | nil => cases mapO_nil h
  | cons a l =>
    obtain ⟨u9, q, h1, h2, h3⟩ := mapO_cons h
    injection h3 with h3 h4
    subst h3 h4
    cases l with
    | nil => cases mapO_nil h2
    | cons b l =>
      obtain ⟨u9, q, h3, h4, h5⟩ := mapO_cons h2
      injection h5 with h5 h6
      subst h5 h6
      cases l with
      | nil => exact ⟨a, b, rfl, h1, h3⟩
      | cons c l =>
        obtain ⟨_, _, _, _, h⟩ := mapO_cons h4
        cases h
theorem mapO1 {α γ : Type} {f : α → Option γ} {l : List α} {x : γ} (h : mapO f l = some [x]) : ∃ a, l = [a] ∧ f a = some x := by
  cases l with
  | nil => cases mapO_nil h
  | cons a l =>
    obtain ⟨u9, q, h1, h2, h3⟩ := mapO_cons h
    injection h3 with h3 h4
    subst h3 h4
    cases l with
    | nil => exact ⟨a, rfl, h1⟩
    | cons b l =>
      obtain ⟨_, _, _, _, h⟩ := mapO_cons h2
      cases h
theorem arr_of {α : Type} {a : Array α} {l : List α} (h : a.toList = l) : a = l.toArray := by subst h; simp
theorem callB_value {c : Call} {f : Operand} {rf : Rd} {args : List Rd} (hC : CallOk P C) (hcal : c.callee = .value f) (ha : mapO rdB c.args.toList = some args) (hf : rdB f = some rf) : OpOk P C (.call c) ⟨fun C t h K => ob (rdL t args) fun args => rdK t rf fun f => match f with
      | .fn (.func f) first cap => ob (C f (first ++ (args ++ cap)) h) fun r => K r.1 r.2
      | _ => none⟩ := by
  intro o ho A h w N t a K q hm ht hk
  obtain ⟨vs, hvs, hk⟩ := ob_some hk
  simp only [rdK_eq] at hk
  have hrf := rd_rel ht hf
  have hargs := rdL_some ht _ _ _ ha hvs
  split at hk
  · rename_i g first cap hv
    obtain ⟨r, hr, hk⟩ := ob_some hk
    rw [hv] at hrf
    obtain ⟨xs, ys, h1, h2, h3⟩ := hrf.of_fn
    obtain ⟨h4, h5⟩ := hC _ _ _ _ hr
    have h6 := h5 A w _ hm (h2.append (hargs.append h3))
    refine ⟨_, _, hk, .enter (w' := w) (f := g) (args := (xs.toList ++ (c.args.toList.map a.eval ++ ys.toList)).toArray) ?_ h6⟩
    have e : (xs ++ c.args.map a.eval) ++ ys = (xs.toList ++ (c.args.toList.map a.eval ++ ys.toList)).toArray := by
      apply arr_of
      simp
    simp only [execOp, ho, resolve, hcal, h1, Deferred.ofValue, Sem.run_bind, Sem.run_pure, Result.andThen_ok, invoke, e, h4]
  · cases hk
theorem method_run {t : TypeId} {name : String} {f : FuncId} {v : Value} {w : World} (h : methodV P t name = some f) : (method (P.types.size + Made.depth) t v name).run P w = .ok (f, v) w := by
  unfold methodV at h
  obtain ⟨i, hi, h⟩ := ob_some h
  obtain ⟨m, hm, h⟩ := ob_some h
  obtain ⟨hp, h⟩ := bb_some h
  split at h
  · rename_i g e hf hu
    injection h with h
    subst h
    have hp : m.path = #[] := by simpa using hp
    rw [show P.types.size + Made.depth = (P.types.size + 99) + 1 from rfl]
    generalize P.types.size + 99 = n
    simp only [method, Sem.run_bind, typeInfo, run_program, Result.andThen_ok, hi, Sem.run_pure, hm, hp, Array.toList_empty, follow, hf, receiverAt, run_und hu, Place.get]
  · cases h
theorem callB_invoke {c : Call} {r : Operand} {rr : Rd} {name : String} {args : List Rd} (hC : CallOk P C) (hcal : c.callee = .invoke r name) (ha : mapO rdB c.args.toList = some args) (hr : rdB r = some rr) : OpOk P C (.call c) ⟨fun C t h K => ob (rdL t args) fun args => rdK t rr fun r => match r with
      | .iface ty v => ob (methodV P ty name) fun f => ob (C f (v :: args) h) fun r => K r.1 r.2
      | _ => none⟩ := by
  intro o ho A h w N t a K q hm ht hk
  obtain ⟨vs, hvs, hk⟩ := ob_some hk
  simp only [rdK_eq] at hk
  have hrr := rd_rel ht hr
  have hargs := rdL_some ht _ _ _ ha hvs
  split at hk
  · rename_i ty v hv
    obtain ⟨g, hg, hk⟩ := ob_some hk
    obtain ⟨r', hr', hk⟩ := ob_some hk
    rw [hv] at hrr
    obtain ⟨y, h1, h2⟩ := hrr.of_iface
    obtain ⟨h4, h5⟩ := hC _ _ _ _ hr'
    have h6 := h5 A w _ hm (.cons _ _ _ _ h2 hargs)
    refine ⟨_, _, hk, .enter (w' := w) (f := g) (args := (y :: c.args.toList.map a.eval).toArray) ?_ h6⟩
    have e0 : (#[Value.iface ty y] ++ c.args.map a.eval)[0]? = some (.iface ty y) := by rw [Array.getElem?_append_left (by simp)]; rfl
    have e : #[y] ++ (#[Value.iface ty y] ++ c.args.map a.eval).extract 1 (#[Value.iface ty y] ++ c.args.map a.eval).size = (y :: c.args.toList.map a.eval).toArray := by
      apply arr_of
      simp [List.extract_eq_take_drop]
      exact List.take_of_length_le (by simp)
    simp only [execOp, ho, resolve, hcal, h1, Sem.run_bind, Sem.run_pure, Result.andThen_ok, invoke, e0, callMethod, run_program, method_run hg]
    rw [e, h4]
  · cases hk
theorem call_builtin {c : Call} {b : Builtin} {o : Oper} {a : Act} {w w' : World} {x : Value} (ho : o.op = .call c) (hcal : c.callee = .builtin b) (h : (builtin b c.argTypes o.type (c.args.map fun | .const _ => true | _ => false) (c.args.map a.eval)).run P w = .ok (.value x) w') :
    (execOp a.eval o).run P w = .ok (.value x) w' := by
  simp only [execOp, ho, resolve, hcal, Sem.run_bind, Sem.run_pure, Result.andThen_ok, invoke]
  exact h
theorem foldI_min {A : Sub} {n : Nat} {k : IntKind} {w : World} : ∀ (l : List V) (xs : List Value) (m r : Int), RelL A n l xs → foldI (fun a c => if c < a then c else a) k m l = some r → (xs.foldlM Builtin.min2 (.int k m)).run P w = .ok (.int k r) w
  | [], xs, m, r, hl, h => by
    cases hl
    injection h with h
    subst h
    rfl
  | v :: l, xs, m, r, hl, h => by
    cases hl with
    | cons _ x _ xs h1 h2 =>
      cases v <;> simp only [foldI] at h <;> first | cases h | skip
      obtain ⟨hk, h3⟩ := bb_some h
      clear h
      have hk := of_decide_eq_true hk
      subst hk
      rw [fI_eq] at h3
      obtain rfl := h1.of_i
      rw [List.foldlM_cons]
      simp only [Sem.run_bind, Builtin.min2, Sem.run_pure, Result.andThen_ok]
      exact foldI_min l xs _ r h2 h3
theorem foldI_max {A : Sub} {n : Nat} {k : IntKind} {w : World} : ∀ (l : List V) (xs : List Value) (m r : Int), RelL A n l xs → foldI (fun a c => if c > a then c else a) k m l = some r → (xs.foldlM Builtin.max2 (.int k m)).run P w = .ok (.int k r) w
  | [], xs, m, r, hl, h => by
    cases hl
    injection h with h
    subst h
    rfl
  | v :: l, xs, m, r, hl, h => by
    cases hl with
    | cons _ x _ xs h1 h2 =>
      cases v <;> simp only [foldI] at h <;> first | cases h | skip
      obtain ⟨hk, h3⟩ := bb_some h
      clear h
      have hk := of_decide_eq_true hk
      subst hk
      rw [fI_eq] at h3
      obtain rfl := h1.of_i
      rw [List.foldlM_cons]
      simp only [Sem.run_bind, Builtin.max2, Sem.run_pure, Result.andThen_ok]
      exact foldI_max l xs _ r h2 h3
theorem callB_min {c : Call} {rx : Rd} {l : List Rd} (hcal : c.callee = .builtin .min) (ha : mapO rdB c.args.toList = some (rx :: l)) : OpQ P C (.call c) ⟨fun _ t h K => rdK t rx fun x => asI x fun k a => ob (rdL t l) fun l => ob (foldI (fun a c => if c < a then c else a) k a l) fun a => K (.i k a) h⟩ := by
  intro o ho A h w N t a K q hm ht hk
  simp only [rdK_eq] at hk
  obtain ⟨k, m, h1, hk⟩ := asI_some hk
  obtain ⟨vs, h2, hk⟩ := ob_some hk
  obtain ⟨r, h3, hk⟩ := ob_some hk
  have hargs := rdL_some ht _ _ (.i k m :: vs) ha (by rw [rdL_c, rdK_eq, h1, h2]; rfl)
  have h4 : c.args.map a.eval = (c.args.toList.map a.eval).toArray := arr_of (by simp)
  generalize c.args.toList.map a.eval = xs at hargs h4
  cases hargs with
  | cons _ x _ xs h5 h6 =>
    obtain rfl := h5.of_i
    refine ⟨_, hk, _, (call_builtin ho hcal ?_), (.i _ _)⟩
    rw [h4]
    simp only [builtin, Builtin.min_, Sem.run_bind, foldI_min (P := P) (w := w) vs xs m r h6 h3, Result.andThen_ok, Sem.run_pure]
theorem callB_max {c : Call} {rx : Rd} {l : List Rd} (hcal : c.callee = .builtin .max) (ha : mapO rdB c.args.toList = some (rx :: l)) : OpQ P C (.call c) ⟨fun _ t h K => rdK t rx fun x => asI x fun k a => ob (rdL t l) fun l => ob (foldI (fun a c => if c > a then c else a) k a l) fun a => K (.i k a) h⟩ := by
  intro o ho A h w N t a K q hm ht hk
  simp only [rdK_eq] at hk
  obtain ⟨k, m, h1, hk⟩ := asI_some hk
  obtain ⟨vs, h2, hk⟩ := ob_some hk
  obtain ⟨r, h3, hk⟩ := ob_some hk
  have hargs := rdL_some ht _ _ (.i k m :: vs) ha (by rw [rdL_c, rdK_eq, h1, h2]; rfl)
  have h4 : c.args.map a.eval = (c.args.toList.map a.eval).toArray := arr_of (by simp)
  generalize c.args.toList.map a.eval = xs at hargs h4
  cases hargs with
  | cons _ x _ xs h5 h6 =>
    obtain rfl := h5.of_i
    refine ⟨_, hk, _, (call_builtin ho hcal ?_), (.i _ _)⟩
    rw [h4]
    simp only [builtin, Builtin.max_, Sem.run_bind, foldI_max (P := P) (w := w) vs xs m r h6 h3, Result.andThen_ok, Sem.run_pure]
theorem callB_len {c : Call} {rx : Rd} {f : Fx} (hcal : c.callee = .builtin .len) (ha : mapO rdB c.args.toList = some [rx]) (h : (match c.argTypes.toList with
        | [ty] => match P.underlying ty with
          | some (.slice _) => some ⟨fun _ t h K => rdK t rx fun x => match x with
            | .sl _ _ n _ _ _ => K (.i .i64 (.ofNat n)) h
            | .ns => K (.i .i64 (.ofNat 0)) h
            | _ => none⟩
          | some .string => some ⟨fun _ t h K => rdK t rx fun x => match x with
            | .s x => mkI .i64 x.size fun v => K v h
            | _ => none⟩
          | _ => none
        | _ => none) = some f) : OpQ P C (.call c) f := by
  obtain ⟨x, hx, hrx⟩ := mapO1 ha
  split at h
  · rename_i ty hty
    have hty := arr_of hty
    split at h
    · rename_i e hu
      injection h with h
      subst h
      intro o ho A h w N t a K q hm ht hk
      have hr := rd_rel ht hrx
      simp only [rdK_eq] at hk
      split at hk
      · rename_i hv
        rw [hv] at hr
        obtain ⟨c', h1, _⟩ := hr.of_sl
        refine ⟨_, hk, _, call_builtin ho hcal ?_, .i _ _⟩
        simp [builtin, Builtin.len_, hty, arr_of hx, h1, run_und hu, goInt]
      · rename_i hv
        rw [hv] at hr
        have h1 := hr.of_ns
        refine ⟨_, hk, _, call_builtin ho hcal ?_, .i _ _⟩
        simp [builtin, Builtin.len_, hty, arr_of hx, h1, run_und hu, goInt]
      · cases hk
    · rename_i hu
      injection h with h
      subst h
      intro o ho A h w N t a K q hm ht hk
      have hr := rd_rel ht hrx
      simp only [rdK_eq] at hk
      split at hk
      · rename_i s hv
        rw [hv] at hr
        have h1 := hr.of_s
        rw [mkI_eq] at hk
        refine ⟨_, hk, _, call_builtin ho hcal ?_, .i _ _⟩
        simp [builtin, Builtin.len_, hty, arr_of hx, h1, run_und hu, goInt]
      · cases hk
    · cases h
  · cases h
theorem callB_quiet {c : Call} {f : Fx} (h : callB P c = some f) (hq : isE (.call c) = false) : OpQ P C (.call c) f := by
  unfold callB at h
  obtain ⟨args, ha, h⟩ := ob_some h
  simp only [isE] at hq
  split at h
  · rename_i g hcal
    rw [hcal] at hq
    cases hq
  · rename_i r name hcal
    rw [hcal] at hq
    cases hq
  · rename_i b hcal
    split at h
    · exact callB_len hcal ha h
    · injection h with h
      subst h
      exact callB_min hcal ha
    · injection h with h
      subst h
      exact callB_max hcal ha
    · rw [hcal] at hq
      cases hq
    · cases h
theorem callB_ok {c : Call} {f : Fx} (hC : CallOk P C) (h : callB P c = some f) : OpOk P C (.call c) f := by
  unfold callB at h
  obtain ⟨args, ha, h⟩ := ob_some h
  split at h
  · rename_i g hcal
    obtain ⟨rg, hg, h⟩ := ob_some h
    injection h with h
    subst h
    exact callB_value hC hcal ha hg
  · rename_i r name hcal
    obtain ⟨rr, hr, h⟩ := ob_some h
    injection h with h
    subst h
    exact callB_invoke hC hcal ha hr
  · rename_i b hcal
    split at h
    · exact (callB_len hcal ha h).ok
    · injection h with h
      subst h
      exact (callB_min hcal ha).ok
    · injection h with h
      subst h
      exact (callB_max hcal ha).ok
    · rename_i rx ry
      obtain ⟨x, y, hxy, hrx, hry⟩ := mapO2 ha
      split at h
      · rename_i ty xt hty
        have hty := arr_of hty
        obtain ⟨e, he, h⟩ := ob_some h
        obtain ⟨e', he', h⟩ := ob_some h
        obtain ⟨sz, hsz, h⟩ := ob_some h
        obtain ⟨by_, hby, h⟩ := ob_some h
        obtain ⟨z, hz, h⟩ := ob_some h
        obtain ⟨h0, h⟩ := bb_some h
        obtain ⟨h1, h⟩ := bb_some h
        obtain ⟨h2, h⟩ := bb_some h
        injection h with h
        subst h
        intro o ho A h w N t a K q hm ht hk
        simp only [rdK_eq] at hk
        obtain ⟨i, hi, hi1⟩ := sizeB_info hsz
        obtain ⟨i2, hi2, hi3⟩ := bytesB_some hby
        obtain ⟨i4, zx, hi4, hi5, hi6⟩ := zeroB_info hz
        rw [hi] at hi2 hi4
        injection hi2 with hi2
        injection hi4 with hi4
        subst hi2 hi4
        have hzr : RelL A h.next z.cells zx.cells.toList := (ofVal_rel hi6).cells
        have happ : App P sz by_ e ty xt e' i zx := ⟨elem_und he, elem_und he', hi, hi5, hi1, hi3, by
          have h3 := hzr.length
          rw [Array.length_toList] at h3
          have h4 := Nat.eq_of_beq_eq_true h2
          omega, Nat.le_of_ble_eq_true h0, Nat.le_of_ble_eq_true h1⟩
        obtain ⟨v, h', x', w', h3, h4, h5⟩ := appendK_some (tq := o.type) happ hm (rd_rel ht hrx) (rd_rel ht hry) hk
        refine ⟨_, _, h3, .value (w' := w') (call_builtin ho hcal ?_) h5⟩
        simp only [builtin, hty, arr_of hxy, List.map_toArray, List.map_cons, List.map_nil, Sem.run_bind, h4, Result.andThen_ok, Sem.run_pure]
      · cases h
    · cases h
theorem opB_ok {op : Op} {f : Fx} (hC : CallOk P C) (h : opB P op = some f) : OpOk P C op f := by
  unfold opB at h
  split at h
  · obtain ⟨rx, hx, h⟩ := ob_some h; injection h with h; subst h; exact (move_ok hx).ok
  · obtain ⟨rx, hx, h⟩ := ob_some h; injection h with h; subst h; exact (assign_ok hx).ok
  · obtain ⟨rx, hx, h⟩ := ob_some h; exact (load_ok hx h).ok
  · obtain ⟨rx, hx, h⟩ := ob_some h; obtain ⟨ry, hy, h⟩ := ob_some h; obtain ⟨n, hn, h⟩ := ob_some h; injection h with h; subst h; exact store_ok hx hy hn
  · obtain ⟨rx, hx, h⟩ := ob_some h; obtain ⟨ry, hy, h⟩ := ob_some h; exact (bin_ok hx hy h).ok
  · obtain ⟨rx, hx, h⟩ := ob_some h; obtain ⟨p, hp, h⟩ := ob_some h; obtain ⟨n, hn, h⟩ := ob_some h; obtain ⟨h0, h⟩ := bb_some h; injection h with h; subst h; exact (fieldAddr_ok hx hp hn (Nat.le_of_ble_eq_true h0)).ok
  · obtain ⟨rx, hx, h⟩ := ob_some h; obtain ⟨ry, hy, h⟩ := ob_some h; exact (indexAddr_ok hx hy h).ok
  · exact callB_ok hC h
  · obtain ⟨rx, hx, h⟩ := ob_some h; injection h with h; subst h; exact (nilCheck_ok hx).ok
  · obtain ⟨rx, hx, h⟩ := ob_some h; injection h with h; subst h; exact (extract_ok hx).ok
  · obtain ⟨rc, hc, h⟩ := ob_some h; obtain ⟨rx, hx, h⟩ := ob_some h; obtain ⟨ry, hy, h⟩ := ob_some h; injection h with h; subst h; exact (pick_ok hc hx hy).ok
  · obtain ⟨rx, hx, h⟩ := ob_some h
    split at h
    · injection h with h; subst h; exact (not_ok hx).ok
    · injection h with h; subst h; exact (neg_ok hx).ok
    · injection h with h; subst h; exact (xor_ok hx).ok
    · cases h
  · obtain ⟨z, hz, h⟩ := ob_some h; injection h with h; subst h; exact alloc_ok hz
  · obtain ⟨rx, hx, h⟩ := ob_some h; injection h with h; subst h; exact box_ok hx
  · obtain ⟨z, hz, h⟩ := ob_some h; exact (build_ok hz h).ok
  · obtain ⟨e, he, h⟩ := ob_some h; obtain ⟨sz, hsz, h⟩ := ob_some h; obtain ⟨z, hz, h⟩ := ob_some h; obtain ⟨h0, h⟩ := bb_some h; obtain ⟨h1, h⟩ := bb_some h; obtain ⟨h2, h⟩ := bb_some h; obtain ⟨ps, hps, h⟩ := ob_some h
    injection h with h; subst h
    exact buildSlice_ok he hsz hz (Nat.le_of_ble_eq_true h0) (Nat.eq_of_beq_eq_true h1) (Nat.le_of_ble_eq_true h2) hps
  · obtain ⟨rx, hx, h⟩ := ob_some h; obtain ⟨ry, hy, h⟩ := ob_some h; obtain ⟨e, he, h⟩ := ob_some h; obtain ⟨sz, hsz, h⟩ := ob_some h; obtain ⟨z, hz, h⟩ := ob_some h; obtain ⟨by_, hby, h⟩ := ob_some h; obtain ⟨h0, h⟩ := bb_some h; obtain ⟨h1, h⟩ := bb_some h
    injection h with h; subst h
    exact makeSlice_ok hx hy he hsz hz hby (Nat.le_of_ble_eq_true h0) (Nat.eq_of_beq_eq_true h1)
  · obtain ⟨rx, hx, h⟩ := ob_some h; obtain ⟨rl, hl, h⟩ := ob_some h; obtain ⟨rh, hh, h⟩ := ob_some h; exact (slice2_ok hx hl hh h).ok
  · obtain ⟨rx, hx, h⟩ := ob_some h; obtain ⟨rh, hh, h⟩ := ob_some h; obtain ⟨rm, hm, h⟩ := ob_some h; exact (slice3_ok hx hh hm h).ok
  · obtain ⟨rx, hx, h⟩ := ob_some h; obtain ⟨p, hp, h⟩ := ob_some h; obtain ⟨g, hg, h⟩ := ob_some h; injection h with h; subst h; exact (field_ok hx hp hg).ok
  · obtain ⟨rx, hx, h⟩ := ob_some h; obtain ⟨ri, hi, h⟩ := ob_some h; exact (index_ok hx hi h).ok
  · obtain ⟨rx, hx, h⟩ := ob_some h
    split at h
    · injection h with h; subst h; exact (convert_ok hx (by assumption) (by assumption)).ok
    · cases h
  · obtain ⟨rx, hx, h⟩ := ob_some h
    split at h
    · injection h with h; subst h; exact (makeInterface_ok hx (by assumption)).ok
    · cases h
  · obtain ⟨rx, hx, h⟩ := ob_some h; obtain ⟨ry, hy, h⟩ := ob_some h; injection h with h; subst h; exact (makeFunc_ok hx hy).ok
  · obtain ⟨rx, hx, h⟩ := ob_some h; obtain ⟨z, hz, h⟩ := ob_some h
    split at h
    · injection h with h; subst h; exact (typeAssert_ok hx hz (by assumption)).ok
    · cases h
  · injection h with h; subst h; exact newMap_ok
  · obtain ⟨rx, hx, h⟩ := ob_some h; obtain ⟨ry, hy, h⟩ := ob_some h; obtain ⟨rz, hz, h⟩ := ob_some h; obtain ⟨e, he, h⟩ := ob_some h; injection h with h; subst h; exact insert_ok hx hy hz he
  · obtain ⟨rx, hx, h⟩ := ob_some h; obtain ⟨ry, hy, h⟩ := ob_some h; obtain ⟨rz, hz, h⟩ := ob_some h; obtain ⟨e, he, h⟩ := ob_some h; injection h with h; subst h; exact mapUpdate_ok hx hy hz he
  · obtain ⟨rx, hx, h⟩ := ob_some h; obtain ⟨ry, hy, h⟩ := ob_some h; obtain ⟨e, he, h⟩ := ob_some h; obtain ⟨z, hz, h⟩ := ob_some h; injection h with h; subst h; exact (lookup_ok hx hy he hz).ok
  · obtain ⟨rx, hx, h⟩ := ob_some h; obtain ⟨e, he, h⟩ := ob_some h; injection h with h; subst h; exact range_ok hx he
  · obtain ⟨rx, hx, h⟩ := ob_some h; injection h with h; subst h; exact (entry_ok hx).ok
  · cases h
theorem opB_quiet {op : Op} {f : Fx} (h : opB P op = some f) (hq : isE op = false) (hs : isSoft op = false) : OpQ P C op f := by
  unfold opB at h
  split at h
  · obtain ⟨rx, hx, h⟩ := ob_some h; injection h with h; subst h; exact (move_ok hx)
  · obtain ⟨rx, hx, h⟩ := ob_some h; injection h with h; subst h; exact (assign_ok hx)
  · obtain ⟨rx, hx, h⟩ := ob_some h; exact (load_ok hx h)
  · cases hq
  · obtain ⟨rx, hx, h⟩ := ob_some h; obtain ⟨ry, hy, h⟩ := ob_some h; exact (bin_ok hx hy h)
  · obtain ⟨rx, hx, h⟩ := ob_some h; obtain ⟨p, hp, h⟩ := ob_some h; obtain ⟨n, hn, h⟩ := ob_some h; obtain ⟨h0, h⟩ := bb_some h; injection h with h; subst h; exact (fieldAddr_ok hx hp hn (Nat.le_of_ble_eq_true h0))
  · obtain ⟨rx, hx, h⟩ := ob_some h; obtain ⟨ry, hy, h⟩ := ob_some h; exact (indexAddr_ok hx hy h)
  · exact callB_quiet h hq
  · obtain ⟨rx, hx, h⟩ := ob_some h; injection h with h; subst h; exact (nilCheck_ok hx)
  · obtain ⟨rx, hx, h⟩ := ob_some h; injection h with h; subst h; exact (extract_ok hx)
  · obtain ⟨rc, hc, h⟩ := ob_some h; obtain ⟨rx, hx, h⟩ := ob_some h; obtain ⟨ry, hy, h⟩ := ob_some h; injection h with h; subst h; exact (pick_ok hc hx hy)
  · obtain ⟨rx, hx, h⟩ := ob_some h
    split at h
    · injection h with h; subst h; exact (not_ok hx)
    · injection h with h; subst h; exact (neg_ok hx)
    · injection h with h; subst h; exact (xor_ok hx)
    · cases h
  · cases hs
  · cases hq
  · obtain ⟨z, hz, h⟩ := ob_some h; exact (build_ok hz h)
  · obtain ⟨e, he, h⟩ := ob_some h; obtain ⟨sz, hsz, h⟩ := ob_some h; obtain ⟨z, hz, h⟩ := ob_some h; obtain ⟨h0, h⟩ := bb_some h; obtain ⟨h1, h⟩ := bb_some h; obtain ⟨h2, h⟩ := bb_some h; obtain ⟨ps, hps, h⟩ := ob_some h
    injection h with h; subst h
    cases hq
  · obtain ⟨rx, hx, h⟩ := ob_some h; obtain ⟨ry, hy, h⟩ := ob_some h; obtain ⟨e, he, h⟩ := ob_some h; obtain ⟨sz, hsz, h⟩ := ob_some h; obtain ⟨z, hz, h⟩ := ob_some h; obtain ⟨by_, hby, h⟩ := ob_some h; obtain ⟨h0, h⟩ := bb_some h; obtain ⟨h1, h⟩ := bb_some h
    injection h with h; subst h
    cases hq
  · obtain ⟨rx, hx, h⟩ := ob_some h; obtain ⟨rl, hl, h⟩ := ob_some h; obtain ⟨rh, hh, h⟩ := ob_some h; exact (slice2_ok hx hl hh h)
  · obtain ⟨rx, hx, h⟩ := ob_some h; obtain ⟨rh, hh, h⟩ := ob_some h; obtain ⟨rm, hm, h⟩ := ob_some h; exact (slice3_ok hx hh hm h)
  · obtain ⟨rx, hx, h⟩ := ob_some h; obtain ⟨p, hp, h⟩ := ob_some h; obtain ⟨g, hg, h⟩ := ob_some h; injection h with h; subst h; exact (field_ok hx hp hg)
  · obtain ⟨rx, hx, h⟩ := ob_some h; obtain ⟨ri, hi, h⟩ := ob_some h; exact (index_ok hx hi h)
  · obtain ⟨rx, hx, h⟩ := ob_some h
    split at h
    · injection h with h; subst h; exact (convert_ok hx (by assumption) (by assumption))
    · cases h
  · obtain ⟨rx, hx, h⟩ := ob_some h
    split at h
    · injection h with h; subst h; exact (makeInterface_ok hx (by assumption))
    · cases h
  · obtain ⟨rx, hx, h⟩ := ob_some h; obtain ⟨ry, hy, h⟩ := ob_some h; injection h with h; subst h; exact (makeFunc_ok hx hy)
  · obtain ⟨rx, hx, h⟩ := ob_some h; obtain ⟨z, hz, h⟩ := ob_some h
    split at h
    · injection h with h; subst h; exact (typeAssert_ok hx hz (by assumption))
    · cases h
  · cases hq
  · cases hq
  · cases hq
  · obtain ⟨rx, hx, h⟩ := ob_some h; obtain ⟨ry, hy, h⟩ := ob_some h; obtain ⟨e, he, h⟩ := ob_some h; obtain ⟨z, hz, h⟩ := ob_some h; injection h with h; subst h; exact (lookup_ok hx hy he hz)
  · cases hq
  · obtain ⟨rx, hx, h⟩ := ob_some h; injection h with h; subst h; exact (entry_ok hx)
  · cases h
end
end Go.Proofs.YtmjilfamjlnigaaGreat.Vm
