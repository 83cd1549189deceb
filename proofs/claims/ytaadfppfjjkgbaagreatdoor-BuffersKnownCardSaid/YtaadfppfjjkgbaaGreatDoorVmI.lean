/- The small machine's append does what the model's does. -/
import Derived.Test.YtaadfppfjjkgbaaGreatDoorVmH
import Derived.Deep.Upon
import Derived.Laws.AppendOwn
namespace Go.Proofs.YtaadfppfjjkgbaaGreatDoor.Vm
open Go Go.RowKit

section
variable {A : Sub} {h : H} {w : World} {P : Program}
theorem nsc_le {m c : Nat} (hc : c < m) : Builtin.nextslicecap m c ≤ 16 * m + 2880 := by
  unfold Builtin.nextslicecap
  split
  · omega
  · split
    · omega
    · rw [growBy_four]
      repeat' split
      all_goals omega
theorem sizeB_info {t : TypeId} {n : Nat} (hs : sizeB P t = some n) : ∃ i, P.info? t = some i ∧ i.size = n := by
  unfold sizeB at hs
  obtain ⟨i, hi, hs⟩ := ob_some hs
  rw [fN_eq] at hs
  injection hs with hs
  exact ⟨i, hi, hs⟩
theorem zeroB_info {t : TypeId} {v : V} (hz : zeroB P t = some v) : ∃ i x, P.info? t = some i ∧ i.zero = some x ∧ ofVal x = some v := by
  unfold zeroB at hz
  obtain ⟨i, hi, hz⟩ := ob_some hz
  obtain ⟨x, hx, hz⟩ := ob_some hz
  exact ⟨i, x, hi, hx, hz⟩
theorem newsK_some {sz : Nat} {y : V} {x : Value} {tx e' : TypeId} {β : Type} {K : Nat → List V → Option β} {r : β} (hm : Mt A h w) (hu : P.underlying tx = some (.slice e')) (hy : Rel A h.next y x) (hk : newsK sz h y K = some r) :
    ∃ n l ys, RelL A h.next l ys ∧ l.length = n * sz ∧ allOne l = true ∧ Src P sz tx x n ys w ∧ K n l = some r := by
  unfold newsK at hk
  split at hk
  · obtain ⟨hz, hk⟩ := bb_some hk
    have hz := Nat.eq_of_beq_eq_true hz
    subst hz
    obtain ⟨c, rfl, _, _, _⟩ := hy.of_sl
    obtain ⟨l, ys, h1, h2, h3, h4, hk⟩ := loadRow_some hm hk
    exact ⟨_, l, ys, h1, by rw [← h1.length]; exact h2, h3, Src.ofSlice w hu _ _ _ ys h2 h4 (h1.one h3), hk⟩
  · obtain rfl := hy.of_ns
    exact ⟨0, [], [], .nil, by simp, rfl, Src.ofNil w hu 0, hk⟩
  · cases hk
theorem zeros_size (z : Array Value) (k sz : Nat) (hz : z.size = sz) : (Builtin.zeroCells z k).size = k * sz := by
  simp [Builtin.zeroCells, hz]
/-- What a call of append owes. -/
structure App (P : Program) (sz by_ : Nat) (e ty xt e' : TypeId) (i : TypeInfo) (z : Value) : Prop where
  ht : P.underlying ty = some (.slice e)
  hx : P.underlying xt = some (.slice e')
  hi : P.info? e = some i
  hz : i.zero = some z
  hsz : i.size = sz
  hby : i.bytes = by_
  zs : z.cells.size = sz
  s0 : 0 < sz
  b0 : 0 < by_
theorem grow_some {sz by_ m c : Nat} {e ty xt e' tq : TypeId} {i : TypeInfo} {z : Value} {base : Option Addr} {len n : Nat} {l r : List V} {xs ys : List Value} {x : Value} {β : Type} {K : V → H → Option β} {q : β} (ha : App P sz by_ e ty xt e' i z) (hm : Mt A h w) (hl : RelL A h.next l xs) (hr : RelL A h.next r ys)
    (hll : l.length = len * sz) (hrl : r.length = n * sz) (hold : (Builtin.firstCells sz len (.slice base len c)).run P w.drew = .ok xs.toArray w.drew) (hs : Src P sz xt x n ys w) (hc : c < len + n) (hmm : m = len + n) (hb : m * by_ ≤ 1048576) (hk : growK sz e h m (l ++ r) K = some q) :
    ∃ v h' x' w', K v h' = some q ∧ (Builtin.append_ #[ty, xt] tq #[.slice base len c, x]).run P w = .ok x' w' ∧ Post A h w v h' x' w' := by
  subst hmm
  obtain ⟨h3, hk⟩ := newRow_some hk
  have hm1 : len + n ≤ 1048576 := by
    have h1 : len + n ≤ (len + n) * by_ := Nat.le_mul_of_pos_right _ ha.b0
    omega
  have hfit : Builtin.nextslicecap (len + n) c * i.bytes ≤ 281474976710656 := by
    rw [ha.hby]
    have h1 := nsc_le hc
    have h2 : by_ ≤ 1048576 := by
      have : by_ ≤ (len + n) * by_ := Nat.le_mul_of_pos_left _ (by omega)
      omega
    have h3 : Builtin.nextslicecap (len + n) c * by_ ≤ (16 * (len + n) + 2880) * by_ := Nat.mul_le_mul_right _ h1
    have h4 : (16 * (len + n) + 2880) * by_ = 16 * ((len + n) * by_) + 2880 * by_ := by rw [Nat.add_mul, Nat.mul_assoc]
    omega
  have hrun := run_append_grow_src (P := P) w ty xt tq e i z ha.ht ha.hi ha.hz base len c xs (by rw [ha.hsz]; exact hold) x n ys (by rw [ha.hsz]; exact hs) hc (by omega) hfit
  have hge := grownCap_ge w (len + n) c e
  have hlen : (xs ++ ys).length = (len + n) * sz := by rw [List.length_append, hl.length, hr.length, hll, hrl, Nat.add_mul]
  have hzs := zeros_size z.cells (grownCap w (len + n) c e - (len + n)) sz ha.zs
  have harr : ((xs ++ ys).toArray ++ Builtin.zeroCells z.cells (grownCap w (len + n) c e - (len + n))) = ((xs ++ ys) ++ (Builtin.zeroCells z.cells (grownCap w (len + n) c e - (len + n))).toList).toArray := by
    apply Array.ext'
    simp
  rw [harr] at hrun
  have hsize : ((xs ++ ys) ++ (Builtin.zeroCells z.cells (grownCap w (len + n) c e - (len + n))).toList).length = grownCap w (len + n) c e * sz := by
    rw [List.length_append, hlen, Array.length_toList, hzs, ← Nat.add_mul]
    congr 1
    omega
  have hmd : Mt A h w.drew := hm.same rfl
  have hnew := Ev.new hmd (row_new (kk := grownCap w (len + n) c e * sz) (e := e) (p := true) (hl.append hr) h3 (fun _ => hsize))
  have hdr : Ev A h w A h w.drew := Ev.same hm rfl rfl rfl rfl
  refine ⟨_, _, _, _, hk, hrun, _, hdr.trans hnew, ?_⟩
  have hs1 : (A.ext h.next w.drew.heap.size (grownCap w (len + n) c e * sz)).ι h.next = w.heap.size := by simp [Sub.ext]
  have hs2 : (A.ext h.next w.drew.heap.size (grownCap w (len + n) c e * sz)).κ h.next = grownCap w (len + n) c e * sz := by simp [Sub.ext]
  rw [← hs1]
  exact .slu _ _ _ _ _ _ (Nat.lt_succ_self _) (Nat.le_refl _) hge (by rw [hs2, Nat.zero_add])
theorem appendK_some {sz by_ : Nat} {e ty xt e' tq : TypeId} {i : TypeInfo} {z : Value} {vx vy : V} {x y : Value} {β : Type} {K : V → H → Option β} {q : β} (ha : App P sz by_ e ty xt e' i z) (hm : Mt A h w) (hx : Rel A h.next vx x) (hy : Rel A h.next vy y)
    (hk : appendK sz by_ e h vx vy K = some q) : ∃ v h' x' w', K v h' = some q ∧ (Builtin.append_ #[ty, xt] tq #[x, y]).run P w = .ok x' w' ∧ Post A h w v h' x' w' := by
  unfold appendK at hk
  obtain ⟨n, r, ys, hr, hrl, hro, hs, hk⟩ := newsK_some hm ha.hx hy hk
  have hs' : Src P i.size xt y n ys w := by rw [ha.hsz]; exact hs
  split at hk
  · obtain rfl := hx.of_ns
    cases n with
    | zero =>
      have hys : ys = [] := List.eq_nil_of_length_eq_zero (by rw [hr.length, hrl, Nat.zero_mul])
      subst hys
      exact ⟨_, _, _, _, hk, run_append_nothing w ty xt tq e i ha.ht ha.hi none 0 0 (Nat.le_refl _) y hs', .same hm .ns⟩
    | succ n =>
      obtain ⟨hb, hk⟩ := bb_some hk
      exact grow_some (l := []) (xs := []) ha hm .nil hr (by simp) hrl (run_firstCells_none _ _ _ _ _) hs (by omega) (by omega) (Nat.le_of_ble_eq_true hb) hk
  · rename_i b o len cap kn z' _
    obtain ⟨c, rfl, hbn, hkn, hunk⟩ := hx.of_sl
    obtain ⟨hz, hk1⟩ := bb_some hk
    clear hk
    have hz := Nat.eq_of_beq_eq_true hz
    subst hz
    obtain ⟨hb, hk2⟩ := bb_some hk1
    clear hk1
    have hb : (len + n + cap) * by_ ≤ 1048576 := Nat.le_of_ble_eq_true hb
    have hmb : (len + n) * by_ ≤ 1048576 := Nat.le_trans (Nat.mul_le_mul_right _ (Nat.le_add_right _ _)) hb
    rw [fN_eq] at hk2
    have hcap : cap ≤ c := by
      cases kn with
      | true => rw [hkn rfl]; exact Nat.le_refl _
      | false => exact (hunk rfl).2.1
    by_cases hroom : len + n ≤ cap
    · rw [show Nat.ble (Nat.add len n) cap = true from Nat.ble_eq_true_of_le hroom, br_t] at hk2
      obtain ⟨h', w', h1, h2, h3, _, h5, h6, _, h8⟩ := storeL_some (P := P) hm hr hk2
      refine ⟨_, _, .slice (some ⟨A.ι b, o, none⟩) (len + n) c, w', h1, ?_, A, h3, ?_⟩
      · have := run_append_room_src (P := P) w ty xt tq e i ha.ht ha.hi (A.ι b) o len c y n ys hs' (by omega) (by rw [ha.hsz]; exact h5) (by rw [ha.hsz]; exact h6)
        rw [ha.hsz] at this
        rw [this, h8]
        rfl
      · rw [h2]
        cases kn with
        | true => rw [hkn rfl]; exact .slk _ _ _ _ _ hbn
        | false => exact .slu _ _ _ _ _ _ hbn hroom hcap (hunk rfl).2.2
    · rw [show Nat.ble (Nat.add len n) cap = false from by
        cases hx : Nat.ble (Nat.add len n) cap with
        | false => rfl
        | true => exact absurd (Nat.le_of_ble_eq_true hx) hroom, br_f] at hk2
      cases kn with
      | true =>
        rw [br_t] at hk2
        obtain ⟨l, xs, h1, h2, h3, h4, hk3⟩ := loadRow_some hm hk2
        have hcc := hkn rfl
        rw [hcc]
        exact grow_some ha hm h1 hr (by rw [← h1.length]; exact h2) hrl (run_firstCells_some _ _ _ _ _ _ xs h2 h4) hs (by omega) rfl hmb hk3
      | false =>
        rw [br_f] at hk2
        obtain ⟨ho, hk3⟩ := bb_some hk2
        have ho := Nat.eq_of_beq_eq_true ho
        subst ho
        obtain ⟨e2, hi2, p, ct, hbl, hk4⟩ := rowK_some hk3
        obtain ⟨hp, hk5⟩ := bb_some hk4
        subst hp
        obtain ⟨he, hk6⟩ := bb_some hk5
        have he := Nat.eq_of_beq_eq_true he
        subst he
        obtain ⟨hh, hk7⟩ := bb_some hk6
        have hh : len * z' = hi2 := Nat.eq_of_beq_eq_true hh
        subst hh
        obtain ⟨hro', hk8⟩ := bb_some hk7
        rw [Tr.putL_eq, Tr.put_set, fN_eq] at hk8
        have hk9 := newO_some hk8
        obtain ⟨hu1, hu2, hu3⟩ := hunk rfl
        rw [Nat.zero_add] at hu3
        obtain ⟨cs, h1, h2, h3, h4⟩ := hm.row hbl
        have hcs := h2 rfl
        by_cases hin : len + n ≤ c
        · -- in place
          have hle : (len + n) * z' ≤ c * z' := Nat.mul_le_mul_right _ hin
          have hsz : len * z' + ys.length ≤ cs.size := by rw [hr.length, hrl, hcs, ← hu3, ← Nat.add_mul]; exact hle
          have hor := cells_splice (i := A.ι b) (hi' := (len + n) * z') (e := e) (o := len * z') h3 h2 hr hro hsz (fun j hj => by
            rw [hrl, ← Nat.add_mul]
            omega)
          have h1c := hr.one hro
          have hrow := setCells_row h1 ys hsz h1c
          have hev := Ev.turn (w' := w.setCells (A.ι b) (len * z') ys) hm hbl rfl hor (by rw [hrow]; exact setRow_heap w _ cs _ _ _ h1) (fun k hk => by rw [hrow]; exact setRow_other w _ k _ hk) (by rw [hrow]; simp) (by rw [hrow]; rfl) (by rw [hrow]; rfl) (by rw [hrow]; rfl)
          refine ⟨_, _, .slice (some ⟨A.ι b, 0, none⟩) (len + n) c, _, hk9, ?_, _, hev, ?_⟩
          · have := run_append_room_src (P := P) w ty xt tq e i ha.ht ha.hi (A.ι b) 0 len c y n ys hs' hin (fun j hj => by
              rw [ha.hsz, Nat.zero_add, cell_of h1, Array.getElem?_eq_getElem (by omega)]; rfl) (fun j _ => by rw [frozen_of h1])
            rw [ha.hsz, Nat.zero_add] at this
            exact this
          · have hs1 : (A.ext h.next (A.ι b) (A.κ b)).ι h.next = A.ι b := by simp [Sub.ext]
            have hs2 : (A.ext h.next (A.ι b) (A.κ b)).κ h.next = A.κ b := by simp [Sub.ext]
            have := Rel.slu (A := A.ext h.next (A.ι b) (A.κ b)) (n := h.next + 1) h.next 0 (len + n) (len + n) z' c (Nat.lt_succ_self _) (Nat.le_refl _) hin (by rw [hs2, Nat.zero_add]; exact hu3)
            rw [hs1] at this
            exact this
        · -- a new row
          have hc' : c < len + n := by omega
          have hm1 : len + n ≤ 1048576 := by
            have h1 : len + n ≤ (len + n) * by_ := Nat.le_mul_of_pos_right _ ha.b0
            omega
          have hfit : Builtin.nextslicecap (len + n) c * i.bytes ≤ 281474976710656 := by
            rw [ha.hby]
            have h1 := nsc_le hc'
            have h2 : by_ ≤ 1048576 := by
              have : by_ ≤ (len + n) * by_ := Nat.le_mul_of_pos_left _ (by omega)
              omega
            have h3 : Builtin.nextslicecap (len + n) c * by_ ≤ (16 * (len + n) + 2880) * by_ := Nat.mul_le_mul_right _ h1
            have h4 : (16 * (len + n) + 2880) * by_ = 16 * ((len + n) * by_) + 2880 * by_ := by rw [Nat.add_mul, Nat.mul_assoc]
            omega
          have holds : (cs.toList.take (len * z')).length = len * z' := by rw [List.length_take, Array.length_toList]; omega
          have hget : ∀ (j : Nat) (u9 : Value), (cs.toList.take (len * z'))[j]? = some u9 → w.cell? ((⟨A.ι b, 0, none⟩ : Addr).add j) = some u9 := fun j u9 hu => by
            rw [add_lit, Nat.zero_add, cell_of h1]
            rw [List.getElem?_take] at hu
            split at hu
            · simpa using hu
            · cases hu
          have hrun := run_append_grow_src (P := P) w ty xt tq e i z ha.ht ha.hi ha.hz (some ⟨A.ι b, 0, none⟩) len c (cs.toList.take (len * z')) (by rw [ha.hsz]; exact run_firstCells_some _ _ _ _ _ _ _ holds hget) y n ys hs' hc' (by omega) hfit
          have hge := grownCap_ge w (len + n) c e
          have hzs := zeros_size z.cells (grownCap w (len + n) c e - (len + n)) z' ha.zs
          have hsize : (((cs.toList.take (len * z')) ++ ys).toArray ++ Builtin.zeroCells z.cells (grownCap w (len + n) c e - (len + n))).size = grownCap w (len + n) c e * z' := by
            rw [Array.size_append, List.size_toArray, List.length_append, holds, hzs, hr.length, hrl, ← Nat.add_mul, ← Nat.add_mul]
            congr 1
            omega
          have hkl := Ev.kill hm b (fun O hO => by rw [hbl] at hO; injection hO with hO; subst hO; rfl)
          have hdr : Ev A ⟨h.next, h.t.set b none⟩ w A ⟨h.next, h.t.set b none⟩ w.drew := Ev.same hkl.mt rfl rfl rfl rfl
          have hor : ORel A h.next w.heap.size (grownCap w (len + n) c e * z') (.cells e ((len + n) * z') true (Tr.putsL r ct (len * z'))) (.cells (((cs.toList.take (len * z')) ++ ys).toArray ++ Builtin.zeroCells z.cells (grownCap w (len + n) c e - (len + n))) e (0, 0)) := by
            refine ⟨_, rfl, fun _ => hsize, fun j hj => ?_⟩
            rw [Tr.get_putsL]
            have harr : ∀ u9, ((cs.toList.take (len * z')) ++ ys)[j]? = some u9 → (((cs.toList.take (len * z')) ++ ys).toArray ++ Builtin.zeroCells z.cells (grownCap w (len + n) c e - (len + n)))[j]? = some u9 := fun u9 hu => by
              have hlt := (List.getElem?_eq_some_iff.1 hu).1
              rw [Array.getElem?_append_left (by simpa using hlt)]
              simpa using hu
            by_cases hj1 : len * z' ≤ j
            · rw [if_pos ⟨hj1, by rw [hrl, ← Nat.add_mul]; exact hj⟩]
              have hjr : j - len * z' < r.length := by rw [hrl]; rw [Nat.add_mul] at hj; omega
              have h5 : r[j - len * z']? = some r[j - len * z'] := List.getElem?_eq_getElem hjr
              obtain ⟨u9, hu, hru⟩ := hr.get h5
              exact ⟨_, u9, h5, harr u9 (by rw [List.getElem?_append_right (by omega), holds]; exact hu), hru, allOne_get hro h5⟩
            · rw [if_neg (by omega)]
              obtain ⟨v, u9, h5, h6, h7, h8⟩ := h3 j (by omega)
              exact ⟨v, u9, h5, harr u9 (by rw [List.getElem?_append_left (by omega), List.getElem?_take_of_lt (by omega)]; simpa using h6), h7, h8⟩
          have hnew := Ev.new hdr.mt hor
          refine ⟨_, _, .slice (some ⟨w.heap.size, 0, none⟩) (len + n) (grownCap w (len + n) c e), _, hk9, hrun, _, hkl.trans (hdr.trans hnew), ?_⟩
          have hs1 : (A.ext h.next w.drew.heap.size (grownCap w (len + n) c e * z')).ι h.next = w.heap.size := by simp [Sub.ext]
          have hs2 : (A.ext h.next w.drew.heap.size (grownCap w (len + n) c e * z')).κ h.next = grownCap w (len + n) c e * z' := by simp [Sub.ext]
          rw [← hs1]
          exact .slu _ _ _ _ _ _ (Nat.lt_succ_self _) (Nat.le_refl _) hge (by rw [hs2, Nat.zero_add])
  · cases hk
theorem run_zeros (t tx ty e : TypeId) (i : TypeInfo) (z : Value) (j k : IntKind) (ht : P.underlying t = some (.slice e)) (hx : P.underlying tx = some (.int j)) (hi : P.info? e = some i) (hz : i.zero = some z) (n : Nat) (hn : 0 < n) (hs : 0 < i.size) (h63 : n ≤ 1048576) (hb : n * i.bytes ≤ 1048576) (hfit : Builtin.nextslicecap n 0 * i.bytes ≤ 281474976710656) :
    (Builtin.append_ #[t, tx] ty #[.slice none 0 0, .int k (n : Int)]).run P w = .ok (.slice (some ⟨w.heap.size, 0, none⟩) n (grownCap w n 0 e)) (w.drew.alloc (.cells (Builtin.zeroCells z.cells n ++ Builtin.zeroCells z.cells (grownCap w n 0 e - n)) e)) := by
  have hw : IntKind.i64.wrap (n : Int) = (n : Int) := by rw [IntKind.wrap_i64]; omega
  have h0 : ¬ ((n : Int) < 0) := by omega
  have h1 : ¬ (281474976710656 < (n : Int) * (i.bytes : Int)) := by
    have : ((n * i.bytes : Nat) : Int) ≤ ((1048576 : Nat) : Int) := Int.ofNat_le.2 hb
    rw [Int.natCast_mul] at this
    omega
  have h2 : ¬ (n * i.size = 0) := Nat.mul_ne_zero (by omega) (by omega)
  have h3' : ¬ n = 0 := by omega
  have h4 : ¬ (9223372036854775807 < (n : Int)) := by omega
  have h5 : ¬ (281474976710656 < Builtin.nextslicecap n 0 * i.bytes) := by omega
  simp [Builtin.append_, run_underlying ht, run_underlying hx, sizeOf, typeInfo, zeroValue, hi, hz, asInt, asIntOf, hw, h0, h1, h2, h3', h4, h5, Question.forced, grownCap, Builtin.firstCells]
  rfl
theorem zeros_some {sz by_ n : Nat} {e ty xt tq : TypeId} {i : TypeInfo} {z : Value} {zv : V} {j k : IntKind} {β : Type} {K : V → H → Option β} {q : β} (ht : P.underlying ty = some (.slice e)) (hx : P.underlying xt = some (.int j)) (hi : P.info? e = some i) (hz : i.zero = some z) (hsz : i.size = sz) (hby : i.bytes = by_)
    (hzs : z.cells.size = sz) (h0 : 0 < sz) (hb0 : 0 < by_) (hzr : ∀ A n, RelL A n zv.cells z.cells.toList) (hm : Mt A h w) (hk : (Nat.rec (K .ns h) (fun _ _ => bb (Nat.ble (Nat.mul n by_) 1048576) (growK sz e h n (rep zv.cells n) K)) n : Option β) = some q) :
    ∃ v h' x' w', K v h' = some q ∧ (Builtin.append_ #[ty, xt] tq #[.slice none 0 0, .int k (n : Int)]).run P w = .ok x' w' ∧ Post A h w v h' x' w' := by
  cases n with
  | zero =>
    refine ⟨_, _, .slice none 0 0, w, hk, ?_, .same hm .ns⟩
    have hw : IntKind.i64.wrap 0 = 0 := by rw [IntKind.wrap_i64]; rfl
    simp [Builtin.append_, run_underlying ht, run_underlying hx, sizeOf, typeInfo, hi, asInt, asIntOf, hw]
  | succ m =>
    obtain ⟨hb, hk⟩ := bb_some (show bb (Nat.ble (Nat.mul (m + 1) by_) 1048576) (growK sz e h (m + 1) (rep zv.cells (m + 1)) K) = some q from hk)
    have hb : (m + 1) * by_ ≤ 1048576 := Nat.le_of_ble_eq_true hb
    obtain ⟨h3, hk⟩ := newRow_some hk
    have hm1 : m + 1 ≤ 1048576 := by
      have h1 : m + 1 ≤ (m + 1) * by_ := Nat.le_mul_of_pos_right _ hb0
      omega
    have hfit : Builtin.nextslicecap (m + 1) 0 * i.bytes ≤ 281474976710656 := by
      rw [hby]
      have h1 := nsc_le (show 0 < m + 1 by omega)
      have h2 : by_ ≤ 1048576 := by
        have : by_ ≤ (m + 1) * by_ := Nat.le_mul_of_pos_left _ (by omega)
        omega
      have h3 : Builtin.nextslicecap (m + 1) 0 * by_ ≤ (16 * (m + 1) + 2880) * by_ := Nat.mul_le_mul_right _ h1
      have h4 : (16 * (m + 1) + 2880) * by_ = 16 * ((m + 1) * by_) + 2880 * by_ := by rw [Nat.add_mul, Nat.mul_assoc]
      omega
    have hrun := run_zeros (P := P) (w := w) ty xt tq e i z j k ht hx hi hz (m + 1) (by omega) (by omega) hm1 (by rw [hby]; exact hb) hfit
    have hge := grownCap_ge w (m + 1) 0 e
    have hz1 : Builtin.zeroCells z.cells (m + 1) = (List.flatten (List.replicate (m + 1) z.cells.toList)).toArray := by
      unfold Builtin.zeroCells
      rw [show (m + 1) * z.cells.size = (m + 1) * sz by rw [hzs]]
      exact zero_rep z.cells (m + 1) sz hzs h0
    have hl : RelL A h.next (rep zv.cells (m + 1)) (List.flatten (List.replicate (m + 1) z.cells.toList)) := rep_rel (hzr A h.next) (m + 1)
    have hlen : (List.flatten (List.replicate (m + 1) z.cells.toList)).length = (m + 1) * sz := by simp [List.length_flatten, hzs]
    have hzl := zeros_size z.cells (grownCap w (m + 1) 0 e - (m + 1)) sz hzs
    have harr : (Builtin.zeroCells z.cells (m + 1) ++ Builtin.zeroCells z.cells (grownCap w (m + 1) 0 e - (m + 1))) = ((List.flatten (List.replicate (m + 1) z.cells.toList)) ++ (Builtin.zeroCells z.cells (grownCap w (m + 1) 0 e - (m + 1))).toList).toArray := by
      rw [hz1]
      apply Array.ext'
      simp
    rw [harr] at hrun
    have hsize : ((List.flatten (List.replicate (m + 1) z.cells.toList)) ++ (Builtin.zeroCells z.cells (grownCap w (m + 1) 0 e - (m + 1))).toList).length = grownCap w (m + 1) 0 e * sz := by
      rw [List.length_append, hlen, Array.length_toList, hzl, ← Nat.add_mul]
      congr 1
      omega
    have hl1 : (rep zv.cells (m + 1)).length = (m + 1) * sz := by rw [← hl.length]; exact hlen
    have hmd : Mt A h w.drew := hm.same rfl
    have hnew := Ev.new hmd (row_new (kk := grownCap w (m + 1) 0 e * sz) (e := e) (p := true) hl h3 (fun _ => hsize))
    have hdr : Ev A h w A h w.drew := Ev.same hm rfl rfl rfl rfl
    refine ⟨_, _, _, _, hk, hrun, _, hdr.trans hnew, ?_⟩
    have hs1 : (A.ext h.next w.drew.heap.size (grownCap w (m + 1) 0 e * sz)).ι h.next = w.heap.size := by simp [Sub.ext]
    have hs2 : (A.ext h.next w.drew.heap.size (grownCap w (m + 1) 0 e * sz)).κ h.next = grownCap w (m + 1) 0 e * sz := by simp [Sub.ext]
    rw [← hs1]
    exact .slu _ _ _ _ _ _ (Nat.lt_succ_self _) (Nat.le_refl _) hge (by rw [hs2, Nat.zero_add])
end
end Go.Proofs.YtaadfppfjjkgbaaGreatDoor.Vm
