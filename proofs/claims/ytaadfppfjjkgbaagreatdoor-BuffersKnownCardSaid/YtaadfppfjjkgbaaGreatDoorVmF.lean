/- The small machine's operations do what the model's do: reckoning, comparing, parts of values. -/
import Derived.Test.YtaadfppfjjkgbaaGreatDoorVmE
namespace Go.Proofs.YtaadfppfjjkgbaaGreatDoor.Vm
open Go Go.RowKit

section
variable {A : Sub} {h : H} {w : World} {P : Program} {β : Type}
theorem mkI_eq (k : IntKind) (n : Int) (K : V → Option β) : mkI k n K = K (.i k n) := fI_eq n _
theorem mkB_eq (b : Bool) (K : V → Option β) : mkB b K = K (.b b) := fB_eq b _
theorem arith_some {op : BinOp} {k : IntKind} {a c : Int} {K : V → Option β} {r : β} {n : Nat} (t : TypeId) (hop : op ≠ .shl ∧ op ≠ .shr) (h : arith op k a c K = some r) : ∃ v x, K v = some r ∧ Rel A n v x ∧ (binOp op t (.int k a) (.int k c)).run P w = .ok x w := by
  cases op <;> simp only [arith] at h <;> first
    | (rw [mkI_eq] at h; exact ⟨_, _, h, .i _ _, by simp [binOp, Op.intArith, Op.intBits]⟩)
    | (rw [mkB_eq] at h; exact ⟨_, _, h, .b _, by simp [binOp, Op.intCmp]⟩)
    | (obtain ⟨h0, h⟩ := bb_some h
       rw [mkI_eq] at h
       have h1 : c ≠ 0 := by simpa using h0
       exact ⟨_, _, h, .i _ _, by simp [binOp, Op.intDiv, h1]⟩)
    | (exact absurd rfl hop.1)
    | (exact absurd rfl hop.2)
    | cases h
theorem shift_some {op : BinOp} {k j : IntKind} {a c : Int} {K : V → Option β} {r : β} {n : Nat} (t : TypeId) (hop : op = .shl ∨ op = .shr) (h : shiftK op k a c K = some r) : ∃ v x, K v = some r ∧ Rel A n v x ∧ (binOp op t (.int k a) (.int j c)).run P w = .ok x w := by
  obtain ⟨h0, h⟩ := bb_some h
  have h1 : ¬ c < 0 := by simpa using h0
  rcases hop with rfl | rfl
  · simp only at h
    rw [mkI_eq] at h
    exact ⟨_, _, h, .i _ _, by simp [binOp, Op.shift, h1]⟩
  · simp only at h
    rw [mkI_eq] at h
    exact ⟨_, _, h, .i _ _, by simp [binOp, Op.shift, h1]⟩
theorem guard_int (op : BinOp) (t : TypeId) (x y : Operand) (k j : IntKind) (a c : Int) : (eqGuard op t x y (.int k a) (.int j c)).run P w = .ok () w := by
  unfold eqGuard
  cases op <;> simp
theorem bin_exec {o : Oper} {op : BinOp} {t u9 : TypeId} {x y : Operand} (ho : o.op = .binOp op t x y u9) {a : Act} {v : Value} (hg : (eqGuard op t x y (a.eval x) (a.eval y)).run P w = .ok () w) (hb : (binOp op t (a.eval x) (a.eval y)).run P w = .ok v w) :
    (execOp a.eval o).run P w = .ok (.value v) w := by
  simp only [execOp, ho, Sem.run_bind, hg, Result.andThen_ok, hb, Sem.run_pure]
/-! ### == -/
theorem eqField_some {f : Field} {j : Nat} {q : Bool} (h : eqField P (f, j) = some q) : f.name ≠ "_" ∧ f.offset = j ∧ (q = false → P.underlying f.type = some .bool) ∧ (q = true → ∃ k, P.underlying f.type = some (.int k)) := by
  unfold eqField at h
  obtain ⟨h1, h⟩ := bb_some h
  obtain ⟨h2, h⟩ := bb_some h
  refine ⟨by simpa using h1, Nat.eq_of_beq_eq_true h2, ?_, ?_⟩
  · rintro rfl
    split at h <;> first | assumption | cases h
  · rintro rfl
    split at h <;> first | exact ⟨_, by assumption⟩ | cases h
theorem eqFields_run {n : Nat} {xs ys : Array Value} (d : Nat) : ∀ (fs : List Field) (k : Nat) (ks : List Bool) (l r : List V) (b : Bool), mapO (eqField P) (fs.zipIdx k) = some ks →
    RelL A n l (xs.toList.drop k) → RelL A n r (ys.toList.drop k) → eqCells ks l r = some b → (Op.eqFields (d + 1) xs ys fs).run P w = .ok b w
  | [], k, ks, l, r, b, h0, _, _, h5 => by
    rw [mapO_nil h0] at h5
    cases l <;> cases r <;> simp only [eqCells] at h5 <;> first | cases h5 | skip
    rfl
  | f :: fs, k, ks, l, r, b, h0, h1, h2, h5 => by
    rw [List.zipIdx_cons] at h0
    obtain ⟨q, ks', h6, h7, rfl⟩ := mapO_cons h0
    obtain ⟨hn, hoff, hk0, hk1⟩ := eqField_some h6
    cases l with
    | nil => cases q <;> simp [eqCells] at h5
    | cons v l =>
    cases r with
    | nil => cases q <;> cases v <;> simp [eqCells] at h5
    | cons u9 r =>
    obtain ⟨x, hx, hvx⟩ := h1.get (j := 0) (v := v) rfl
    obtain ⟨y, hy, huy⟩ := h2.get (j := 0) (v := u9) rfl
    rw [List.getElem?_drop, Nat.add_zero] at hx hy
    have h1' : RelL A n l (xs.toList.drop (k + 1)) := by
      have := h1.drop 1
      simpa [List.drop_drop] using this
    have h2' : RelL A n r (ys.toList.drop (k + 1)) := by
      have := h2.drop 1
      simpa [List.drop_drop] using this
    have hag : (isAgg f.type).run P w = .ok false w := by
      cases q with
      | false => simp [isAgg, underlying, hk0 rfl]
      | true =>
        obtain ⟨q, hq⟩ := hk1 rfl
        simp [isAgg, underlying, hq]
    have p1 : (part f.type xs f.offset).run P w = .ok x w := by
      rw [hoff]
      have : xs[k]? = some x := by simpa using hx
      simp only [part, Sem.run_bind, hag, Result.andThen_ok, Bool.false_eq_true, if_false, this, Sem.run_pure]
    have p2 : (part f.type ys f.offset).run P w = .ok y w := by
      rw [hoff]
      have : ys[k]? = some y := by simpa using hy
      simp only [part, Sem.run_bind, hag, Result.andThen_ok, Bool.false_eq_true, if_false, this, Sem.run_pure]
    have step : ∀ (c : Bool), (Op.equalIn (d + 1) f.type x y).run P w = .ok c w → br c (eqCells ks' l r) (some false) = some b → (Op.eqFields (d + 1) xs ys (f :: fs)).run P w = .ok b w := by
      intro c hc h8
      simp only [Op.eqFields, if_pos hn, Sem.run_bind, p1, p2, hc, Result.andThen_ok]
      cases c with
      | false =>
        rw [br_f] at h8
        injection h8 with h8
        simp [← h8]
      | true =>
        rw [br_t] at h8
        simp only [Bool.not_true, Bool.false_eq_true, if_false]
        exact eqFields_run d fs (k + 1) ks' l r b h7 h1' h2' h8
    cases q with
    | false =>
      cases v <;> cases u9 <;> simp only [eqCells] at h5 <;> first | cases h5 | skip
      obtain rfl := hvx.of_b
      obtain rfl := huy.of_b
      exact step _ (run_equalIn_bool w d f.type _ _ (hk0 rfl)) h5
    | true =>
      cases v <;> cases u9 <;> simp only [eqCells] at h5 <;> first | cases h5 | skip
      obtain ⟨h8, h9⟩ := bb_some h5
      have h8 := of_decide_eq_true h8
      subst h8
      obtain rfl := hvx.of_i
      obtain rfl := huy.of_i
      obtain ⟨q, hq⟩ := hk1 rfl
      exact step _ (run_equalIn_int w d f.type _ q _ _ hq) h9
theorem eq_of {t : TypeId} {x y : Value} {b : Bool} (h1 : (binOp .eql t x y) = (do pure (.bool (← Op.equal t x y)))) (h2 : (binOp .neq t x y) = (do pure (.bool (!(← Op.equal t x y))))) (h : (Op.equalIn (9999 + 1) t x y).run P w = .ok b w) :
    (binOp .eql t x y).run P w = .ok (.bool b) w ∧ (binOp .neq t x y).run P w = .ok (.bool (!b)) w := by
  have e : (Op.equal t x y).run P w = .ok b w := h
  rw [h1, h2]
  exact ⟨by simp only [Sem.run_bind, e, Result.andThen_ok, Sem.run_pure], by simp only [Sem.run_bind, e, Result.andThen_ok, Sem.run_pure]⟩
section
variable (d : Nat) {t : TypeId}
theorem eqIn_ptr0 {e : TypeId} (ht : P.underlying t = some (.pointer e)) (b : Option Addr) : (Op.equalIn (d + 1) t (.pointer none) (.pointer b)).run P w = .ok b.isNone w := by
  simp only [Op.equalIn, Sem.run_bind, run_und ht, Result.andThen_ok, Sem.run_pure]
theorem eqIn_ptr1 {e : TypeId} (ht : P.underlying t = some (.pointer e)) (x : Addr) : (Op.equalIn (d + 1) t (.pointer (some x)) (.pointer none)).run P w = .ok false w := by
  simp only [Op.equalIn, Sem.run_bind, run_und ht, Result.andThen_ok, Sem.run_pure]
theorem eqIn_sl0 {e : TypeId} (ht : P.underlying t = some (.slice e)) (b : Option Addr) (n c : Nat) : (Op.equalIn (d + 1) t (.slice none 0 0) (.slice b n c)).run P w = .ok b.isNone w := by
  simp only [Op.equalIn, Sem.run_bind, run_und ht, Result.andThen_ok, Sem.run_pure]
theorem eqIn_sl1 {e : TypeId} (ht : P.underlying t = some (.slice e)) (x : Addr) (n c : Nat) : (Op.equalIn (d + 1) t (.slice (some x) n c) (.slice none 0 0)).run P w = .ok false w := by
  simp only [Op.equalIn, Sem.run_bind, run_und ht, Result.andThen_ok, Sem.run_pure]
theorem eqIn_map0 {k e : TypeId} (ht : P.underlying t = some (.map k e)) (b : Option Nat) : (Op.equalIn (d + 1) t (.map none) (.map b)).run P w = .ok b.isNone w := by
  simp only [Op.equalIn, Sem.run_bind, run_und ht, Result.andThen_ok, Sem.run_pure]
theorem eqIn_map1 {k e : TypeId} (ht : P.underlying t = some (.map k e)) (x : Nat) : (Op.equalIn (d + 1) t (.map (some x)) (.map none)).run P w = .ok false w := by
  simp only [Op.equalIn, Sem.run_bind, run_und ht, Result.andThen_ok, Sem.run_pure]
theorem eqIn_fn0 {a b : Array TypeId} {c : Bool} (ht : P.underlying t = some (.func a b c)) : (Op.equalIn (d + 1) t .nilFunc .nilFunc).run P w = .ok true w := by
  simp only [Op.equalIn, Sem.run_bind, run_und ht, Result.andThen_ok, Sem.run_pure]
theorem eqIn_fn1 {a b : Array TypeId} {c : Bool} (ht : P.underlying t = some (.func a b c)) (f : Fn) (x y : Array Value) : (Op.equalIn (d + 1) t .nilFunc (.func f x y)).run P w = .ok false w := by
  simp only [Op.equalIn, Sem.run_bind, run_und ht, Result.andThen_ok, Sem.run_pure]
theorem eqIn_fn2 {a b : Array TypeId} {c : Bool} (ht : P.underlying t = some (.func a b c)) (f : Fn) (x y : Array Value) : (Op.equalIn (d + 1) t (.func f x y) .nilFunc).run P w = .ok false w := by
  simp only [Op.equalIn, Sem.run_bind, run_und ht, Result.andThen_ok, Sem.run_pure]
theorem eqIn_if1 {m : Array (String × TypeId)} (ht : P.underlying t = some (.interface m)) (u9 : TypeId) (x : Value) : (Op.equalIn (d + 1) t .nilIface (.iface u9 x)).run P w = .ok false w := by
  simp only [Op.equalIn, Sem.run_bind, run_und ht, Result.andThen_ok, Sem.run_pure]
theorem eqIn_if2 {m : Array (String × TypeId)} (ht : P.underlying t = some (.interface m)) (u9 : TypeId) (x : Value) : (Op.equalIn (d + 1) t (.iface u9 x) .nilIface).run P w = .ok false w := by
  simp only [Op.equalIn, Sem.run_bind, run_und ht, Result.andThen_ok, Sem.run_pure]
end
theorem eqV_some {t : TypeId} {e : EqK} {v u9 : V} {b : Bool} {n : Nat} {x y : Value} {ox oy : Operand} (he : eqKind P t = some e) (h : eqV e v u9 = some b) (hv : Rel A n v x) (hu : Rel A n u9 y) :
    (∀ op, (eqGuard op t ox oy x y).run P w = .ok () w) ∧ (binOp .eql t x y).run P w = .ok (.bool b) w ∧ (binOp .neq t x y).run P w = .ok (.bool (!b)) w := by
  unfold eqKind at he
  split at he
  · rename_i ht
    injection he with he
    subst he
    cases v <;> cases u9 <;> simp only [eqV] at h <;> first | (injection h with h; subst h) | cases h | skip
    obtain rfl := hv.of_b
    obtain rfl := hu.of_b
    exact ⟨fun op => by cases op <;> rfl, eq_of rfl rfl (run_equalIn_bool w 9999 t _ _ ht)⟩
  · injection he with he
    subst he
    cases v <;> cases u9 <;> simp only [eqV] at h <;> first | (injection h with h; subst h) | cases h | skip
    obtain ⟨h1, h2⟩ := bb_some h
    have h1 := of_decide_eq_true h1
    subst h1
    injection h2 with h2
    subst h2
    obtain rfl := hv.of_i
    obtain rfl := hu.of_i
    exact ⟨fun op => by cases op <;> rfl, by simp [binOp, Op.intCmp], by simp [binOp, Op.intCmp, bne]⟩
  · injection he with he
    subst he
    cases v <;> cases u9 <;> simp only [eqV] at h <;> first | (injection h with h; subst h) | cases h | skip
    obtain rfl := hv.of_s
    obtain rfl := hu.of_s
    exact ⟨fun op => by cases op <;> rfl, by simp [binOp, Op.stringOp, beq_toListBytes], by simp [binOp, Op.stringOp, beq_toListBytes]⟩
  · rename_i ht
    injection he with he
    subst he
    cases v <;> cases u9 <;> simp only [eqV] at h <;> first | (injection h with h; subst h) | cases h | skip
    · obtain ⟨rfl, _⟩ := hv.of_p
      obtain rfl := hu.of_np
      exact ⟨fun op => by cases op <;> rfl, eq_of rfl rfl (eqIn_ptr1 9999 ht _)⟩
    · obtain rfl := hv.of_np
      obtain ⟨rfl, _⟩ := hu.of_p
      exact ⟨fun op => by cases op <;> rfl, eq_of rfl rfl (eqIn_ptr0 9999 ht _)⟩
    · obtain rfl := hv.of_np
      obtain rfl := hu.of_np
      exact ⟨fun op => by cases op <;> rfl, eq_of rfl rfl (eqIn_ptr0 9999 ht _)⟩
  · rename_i ht
    injection he with he
    subst he
    cases v <;> cases u9 <;> simp only [eqV] at h <;> first | (injection h with h; subst h) | cases h | skip
    · obtain ⟨_, rfl, _⟩ := hv.of_sl
      obtain rfl := hu.of_ns
      exact ⟨fun op => by cases op <;> rfl, eq_of rfl rfl (eqIn_sl1 9999 ht _ _ _)⟩
    · obtain rfl := hv.of_ns
      obtain ⟨_, rfl, _⟩ := hu.of_sl
      exact ⟨fun op => by cases op <;> rfl, eq_of rfl rfl (eqIn_sl0 9999 ht _ _ _)⟩
    · obtain rfl := hv.of_ns
      obtain rfl := hu.of_ns
      exact ⟨fun op => by cases op <;> rfl, eq_of rfl rfl (eqIn_sl0 9999 ht _ _ _)⟩
  · rename_i ht
    injection he with he
    subst he
    cases v <;> cases u9 <;> simp only [eqV] at h <;> first | (injection h with h; subst h) | cases h | skip
    · obtain ⟨rfl, _⟩ := hv.of_m
      obtain rfl := hu.of_nm
      exact ⟨fun op => by cases op <;> rfl, eq_of rfl rfl (eqIn_map1 9999 ht _)⟩
    · obtain rfl := hv.of_nm
      obtain ⟨rfl, _⟩ := hu.of_m
      exact ⟨fun op => by cases op <;> rfl, eq_of rfl rfl (eqIn_map0 9999 ht _)⟩
    · obtain rfl := hv.of_nm
      obtain rfl := hu.of_nm
      exact ⟨fun op => by cases op <;> rfl, eq_of rfl rfl (eqIn_map0 9999 ht _)⟩
  · rename_i ht
    injection he with he
    subst he
    cases v <;> cases u9 <;> simp only [eqV] at h <;> first | (injection h with h; subst h) | cases h | skip
    · obtain ⟨_, _, rfl, _⟩ := hv.of_fn
      cases hu
      exact ⟨fun op => by cases op <;> rfl, eq_of rfl rfl (eqIn_fn2 9999 ht _ _ _)⟩
    · cases hv
      obtain ⟨_, _, rfl, _⟩ := hu.of_fn
      exact ⟨fun op => by cases op <;> rfl, eq_of rfl rfl (eqIn_fn1 9999 ht _ _ _)⟩
    · cases hv
      cases hu
      exact ⟨fun op => by cases op <;> rfl, eq_of rfl rfl (eqIn_fn0 9999 ht)⟩
  · rename_i ht
    injection he with he
    subst he
    cases v <;> cases u9 <;> simp only [eqV] at h <;> first | (injection h with h; subst h) | cases h | skip
    · obtain ⟨_, rfl, _⟩ := hv.of_iface
      cases hu
      exact ⟨fun op => by cases op <;> rfl, eq_of rfl rfl (eqIn_if2 9999 ht _ _)⟩
    · cases hv
      obtain ⟨_, rfl, _⟩ := hu.of_iface
      exact ⟨fun op => by cases op <;> rfl, eq_of rfl rfl (eqIn_if1 9999 ht _ _)⟩
  · rename_i fs ht
    obtain ⟨h1, he⟩ := bb_some he
    obtain ⟨h2, he⟩ := bb_some he
    obtain ⟨ks, h3, he⟩ := ob_some he
    injection he with he
    subst he
    cases v <;> cases u9 <;> simp only [eqV] at h <;> first | (injection h with h; subst h) | cases h | skip
    obtain ⟨xs, rfl, hxs⟩ := hv.of_agg
    obtain ⟨ys, rfl, hys⟩ := hu.of_agg
    have hf : P.fieldsOf t = fs := by simp [Program.fieldsOf, ht]
    have hst : P.stoodInHeld t = false := by simpa using h1
    have hg : P.eqGuardType P.depth t = false := by simpa using h2
    refine ⟨fun op => ?_, eq_of rfl rfl ?_⟩
    · cases op <;> first | rfl | simp [eqGuard, hg]
    · rw [run_equalIn_struct w 9999 t xs ys (by rw [hf]; exact ht) hst, hf]
      exact eqFields_run 9998 fs.toList 0 ks _ _ b (by simpa using h3) (by simpa using hxs) (by simpa using hys) h
  · cases he
theorem bin_ok {op : BinOp} {ty u9 : TypeId} {x y : Operand} {rx ry : Rd} {f : Fx} {C : CallF} (hx : rdB x = some rx) (hy : rdB y = some ry) (hf : binB P op ty rx ry = some f) : OpQ P C (.binOp op ty x y u9) f := by
  intro o ho A h w N t a K q hm ht hk
  have hrx := rd_rel ht hx
  have hry := rd_rel ht hy
  have plain : ∀ (op' : BinOp), op' = op → op ≠ .shl ∧ op ≠ .shr → f = ⟨fun _ t h K => rdK t rx fun x => rdK t ry fun y => asI x fun k a => asI y fun j c => bb (decide (k = j)) (arith op' k a c fun v => K v h)⟩ → ∃ v, K v h = some q ∧ ∃ x, (execOp a.eval o).run P w = .ok (.value x) w ∧ Rel A h.next v x := by
    intro op' hop hns hff
    subst hop
    rw [hff] at hk
    simp only [rdK_eq] at hk
    obtain ⟨k, m, h1, hk⟩ := asI_some hk
    obtain ⟨j, c, h2, hk⟩ := asI_some hk
    obtain ⟨h3, hk2⟩ := bb_some hk
    have h3 := of_decide_eq_true h3
    subst h3
    rw [h1] at hrx
    rw [h2] at hry
    obtain ⟨v, z, h4, h5, h6⟩ := arith_some (P := P) (A := A) (w := w) (n := h.next) ty hns hk2
    refine ⟨_, h4, z, (bin_exec ho ?_ ?_), h5⟩
    · rw [hrx.of_i, hry.of_i]; exact guard_int _ _ _ _ _ _ _ _
    · rw [hrx.of_i, hry.of_i]; exact h6
  have shf : ∀ (op' : BinOp), op' = op → op = .shl ∨ op = .shr → f = ⟨fun _ t h K => rdK t rx fun x => rdK t ry fun y => asI x fun k a => asI y fun _ c => shiftK op' k a c fun v => K v h⟩ → ∃ v, K v h = some q ∧ ∃ x, (execOp a.eval o).run P w = .ok (.value x) w ∧ Rel A h.next v x := by
    intro op' hop hns hff
    subst hop
    rw [hff] at hk
    simp only [rdK_eq] at hk
    obtain ⟨k, m, h1, hk⟩ := asI_some hk
    obtain ⟨j, c, h2, hk⟩ := asI_some hk
    rw [h1] at hrx
    rw [h2] at hry
    obtain ⟨v, z, h4, h5, h6⟩ := shift_some (P := P) (A := A) (w := w) (n := h.next) (j := j) ty hns hk
    refine ⟨_, h4, z, (bin_exec ho ?_ ?_), h5⟩
    · rw [hrx.of_i, hry.of_i]; exact guard_int _ _ _ _ _ _ _ _
    · rw [hrx.of_i, hry.of_i]; exact h6
  cases op <;> simp only [binB] at hf
  case eql =>
    obtain ⟨e, he, hf⟩ := ob_some hf
    injection hf with hf
    subst hf
    simp only [rdK_eq] at hk
    obtain ⟨b, hb, hk⟩ := ob_some hk
    rw [mkB_eq] at hk
    obtain ⟨h1, h2, _⟩ := eqV_some (w := w) (ox := x) (oy := y) he hb hrx hry
    exact ⟨_, hk, _, (bin_exec ho (h1 _) h2), (.b _)⟩
  case neq =>
    obtain ⟨e, he, hf⟩ := ob_some hf
    injection hf with hf
    subst hf
    simp only [rdK_eq] at hk
    obtain ⟨b, hb, hk⟩ := ob_some hk
    rw [mkB_eq] at hk
    obtain ⟨h1, _, h2⟩ := eqV_some (w := w) (ox := x) (oy := y) he hb hrx hry
    exact ⟨_, hk, _, (bin_exec ho (h1 _) h2), (.b _)⟩
  case shl => injection hf with hf; exact shf _ rfl (.inl rfl) hf.symm
  case shr => injection hf with hf; exact shf _ rfl (.inr rfl) hf.symm
  all_goals
    injection hf with hf
    exact plain _ rfl ⟨by decide, by decide⟩ hf.symm
end
end Go.Proofs.YtaadfppfjjkgbaaGreatDoor.Vm
