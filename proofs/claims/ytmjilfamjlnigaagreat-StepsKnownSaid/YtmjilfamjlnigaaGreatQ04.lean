/- The small machine's operations do what the model's do: reckoning, comparing, parts of values. -/
import Derived.Test.YtmjilfamjlnigaaGreatQ03
import Derived.IntWalk
namespace Go.Proofs.YtmjilfamjlnigaaGreat.Vm
open Go Go.RowKit

section
variable {A : Sub} {h : H} {w : World} {P : Program} {β : Type}
theorem mkI_eq (k : IntKind) (n : Int) (K : V → Option β) : mkI k n K = K (.i k n) := fI_eq n _
theorem mkB_eq (b : Bool) (K : V → Option β) : mkB b K = K (.b b) := fB_eq b _
theorem arith_some {op : BinOp} {k : IntKind} {a c : Int} {K : V → Option β} {r : β} {n : Nat} (t : TypeId) (hop : op ≠ .shl ∧ op ≠ .shr) (h : arith op k a c K = some r) : ∃ v x, K v = some r ∧ Rel A n v x ∧ (binOp op t (.int k a) (.int k c)).run P w = .ok x w := by
  cases op <;> simp only [arith] at h <;> first
    | (rw [mkI_eq] at h; exact ⟨_, _, h, .i _ _, by simp [binOp, Op.intArith, Op.intBits]⟩)
    | (rw [mkB_eq] at h; exact ⟨_, _, h, .b _, by simp [binOp, Op.intCmp]⟩)
    | (obtain ⟨h0, h⟩ := bb_some h
       rw [mkI_eq] at h
       have h1 : c ≠ 0 := by simpa using h0
       exact ⟨_, _, h, .i _ _, by simp [binOp, Op.intDiv, h1]⟩)
    | (exact absurd rfl hop.1)
    | (exact absurd rfl hop.2)
    | cases h
theorem shift_some {op : BinOp} {k j : IntKind} {a c : Int} {K : V → Option β} {r : β} {n : Nat} (t : TypeId) (hop : op = .shl ∨ op = .shr) (h : shiftK op k a c K = some r) : ∃ v x, K v = some r ∧ Rel A n v x ∧ (binOp op t (.int k a) (.int j c)).run P w = .ok x w := by
  obtain ⟨h0, h⟩ := bb_some h
  have h1 : ¬ c < 0 := by simpa using h0
  rcases hop with rfl | rfl
  · simp only at h
    rw [mkI_eq] at h
    exact ⟨_, _, h, .i _ _, by simp [binOp, Op.shift, h1]⟩
  · simp only at h
    rw [mkI_eq] at h
    exact ⟨_, _, h, .i _ _, by simp [binOp, Op.shift, h1]⟩
theorem guard_int (op : BinOp) (t : TypeId) (x y : Operand) (k j : IntKind) (a c : Int) : (eqGuard op t x y (.int k a) (.int j c)).run P w = .ok () w := by
  unfold eqGuard
  cases op <;> simp
theorem bin_exec {o : Oper} {op : BinOp} {t u9 : TypeId} {x y : Operand} (ho : o.op = .binOp op t x y u9) {a : Act} {v : Value} (hg : (eqGuard op t x y (a.eval x) (a.eval y)).run P w = .ok () w) (hb : (binOp op t (a.eval x) (a.eval y)).run P w = .ok v w) :
    (execOp a.eval o).run P w = .ok (.value v) w := by
  simp only [execOp, ho, Sem.run_bind, hg, Result.andThen_ok, hb, Sem.run_pure]
/-! ### == -/
theorem eqField_some {f : Field} {j : Nat} {q : Bool} (h : eqField P (f, j) = some q) : f.name ≠ "_" ∧ f.offset = j ∧ (q = false → P.underlying f.type = some .bool) ∧ (q = true → ∃ k, P.underlying f.type = some (.int k)) := by
  unfold eqField at h
  obtain ⟨h1, h⟩ := bb_some h
  obtain ⟨h2, h⟩ := bb_some h
  refine ⟨by simpa using h1, Nat.eq_of_beq_eq_true h2, ?_, ?_⟩
  · rintro rfl
    split at h <;> first | assumption | cases h
  · rintro rfl
    split at h <;> first | exact ⟨_, by assumption⟩ | cases h
theorem eqFields_run {n : Nat} {xs ys : Array Value} (d : Nat) : ∀ (fs : List Field) (k : Nat) (ks : List Bool) (l r : List V) (b : Bool), mapO (eqField P) (fs.zipIdx k) = some ks →
    RelL A n l (xs.toList.drop k) → RelL A n r (ys.toList.drop k) → eqCells ks l r = some b → (Op.eqFields (d + 1) xs ys fs).run P w = .ok b w
  | [], k, ks, l, r, b, h0, _, _, h5 => by
    rw [mapO_nil h0] at h5
    cases l <;> cases r <;> simp only [eqCells] at h5 <;> first | cases h5 | skip
    rfl
  | f :: fs, k, ks, l, r, b, h0, h1, h2, h5 => by
    rw [List.zipIdx_cons] at h0
    obtain ⟨q, ks', h6, h7, rfl⟩ := mapO_cons h0
    obtain ⟨hn, hoff, hk0, hk1⟩ := eqField_some h6
    cases l with
    | nil => cases q <;> simp [eqCells] at h5
    | cons v l =>
    cases r with
    | nil => cases q <;> cases v <;> simp [eqCells] at h5
    | cons u9 r =>
    obtain ⟨x, hx, hvx⟩ := h1.get (j := 0) (v := v) rfl
    obtain ⟨y, hy, huy⟩ := h2.get (j := 0) (v := u9) rfl
    rw [List.getElem?_drop, Nat.add_zero] at hx hy
    have h1' : RelL A n l (xs.toList.drop (k + 1)) := by
      have := h1.drop 1
      simpa [List.drop_drop] using this
    have h2' : RelL A n r (ys.toList.drop (k + 1)) := by
      have := h2.drop 1
      simpa [List.drop_drop] using this
    have hag : (isAgg f.type).run P w = .ok false w := by
      cases q with
      | false => simp [isAgg, underlying, hk0 rfl]
      | true =>
        obtain ⟨q, hq⟩ := hk1 rfl
        simp [isAgg, underlying, hq]
    have p1 : (part f.type xs f.offset).run P w = .ok x w := by
      rw [hoff]
      have : xs[k]? = some x := by simpa using hx
      simp only [part, Sem.run_bind, hag, Result.andThen_ok, Bool.false_eq_true, if_false, this, Sem.run_pure]
    have p2 : (part f.type ys f.offset).run P w = .ok y w := by
      rw [hoff]
      have : ys[k]? = some y := by simpa using hy
      simp only [part, Sem.run_bind, hag, Result.andThen_ok, Bool.false_eq_true, if_false, this, Sem.run_pure]
    have step : ∀ (c : Bool), (Op.equalIn (d + 1) f.type x y).run P w = .ok c w → br c (eqCells ks' l r) (some false) = some b → (Op.eqFields (d + 1) xs ys (f :: fs)).run P w = .ok b w := by
      intro c hc h8
      simp only [Op.eqFields, if_pos hn, Sem.run_bind, p1, p2, hc, Result.andThen_ok]
      cases c with
      | false =>
        rw [br_f] at h8
        injection h8 with h8
        simp [← h8]
      | true =>
        rw [br_t] at h8
        simp only [Bool.not_true, Bool.false_eq_true, if_false]
        exact eqFields_run d fs (k + 1) ks' l r b h7 h1' h2' h8
    cases q with
    | false =>
      cases v <;> cases u9 <;> simp only [eqCells] at h5 <;> first | cases h5 | skip
      obtain rfl := hvx.of_b
      obtain rfl := huy.of_b
      exact step _ (run_equalIn_bool w d f.type _ _ (hk0 rfl)) h5
    | true =>
      cases v <;> cases u9 <;> simp only [eqCells] at h5 <;> first | cases h5 | skip
      obtain ⟨h8, h9⟩ := bb_some h5
      have h8 := of_decide_eq_true h8
      subst h8
      obtain rfl := hvx.of_i
      obtain rfl := huy.of_i
      obtain ⟨q, hq⟩ := hk1 rfl
      exact step _ (run_equalIn_int w d f.type _ q _ _ hq) h9
theorem eq_of {t : TypeId} {x y : Value} {b : Bool} (h1 : (binOp .eql t x y) = (do pure (.bool (← Op.equal t x y)))) (h2 : (binOp .neq t x y) = (do pure (.bool (!(← Op.equal t x y))))) (h : (Op.equalIn (9999 + 1) t x y).run P w = .ok b w) :
    (binOp .eql t x y).run P w = .ok (.bool b) w ∧ (binOp .neq t x y).run P w = .ok (.bool (!b)) w := by
  have e : (Op.equal t x y).run P w = .ok b w := h
  rw [h1, h2]
  exact ⟨by simp only [Sem.run_bind, e, Result.andThen_ok, Sem.run_pure], by simp only [Sem.run_bind, e, Result.andThen_ok, Sem.run_pure]⟩
section
variable (d : Nat) {t : TypeId}
theorem eqIn_ptr0 {e : TypeId} (ht : P.underlying t = some (.pointer e)) (b : Option Addr) : (Op.equalIn (d + 1) t (.pointer none) (.pointer b)).run P w = .ok b.isNone w := by
  simp only [Op.equalIn, Sem.run_bind, run_und ht, Result.andThen_ok, Sem.run_pure]
theorem eqIn_ptr1 {e : TypeId} (ht : P.underlying t = some (.pointer e)) (x : Addr) : (Op.equalIn (d + 1) t (.pointer (some x)) (.pointer none)).run P w = .ok false w := by
  simp only [Op.equalIn, Sem.run_bind, run_und ht, Result.andThen_ok, Sem.run_pure]
theorem eqIn_sl0 {e : TypeId} (ht : P.underlying t = some (.slice e)) (b : Option Addr) (n c : Nat) : (Op.equalIn (d + 1) t (.slice none 0 0) (.slice b n c)).run P w = .ok b.isNone w := by
  simp only [Op.equalIn, Sem.run_bind, run_und ht, Result.andThen_ok, Sem.run_pure]
theorem eqIn_sl1 {e : TypeId} (ht : P.underlying t = some (.slice e)) (x : Addr) (n c : Nat) : (Op.equalIn (d + 1) t (.slice (some x) n c) (.slice none 0 0)).run P w = .ok false w := by
  simp only [Op.equalIn, Sem.run_bind, run_und ht, Result.andThen_ok, Sem.run_pure]
theorem eqIn_map0 {k e : TypeId} (ht : P.underlying t = some (.map k e)) (b : Option Nat) : (Op.equalIn (d + 1) t (.map none) (.map b)).run P w = .ok b.isNone w := by
  simp only [Op.equalIn, Sem.run_bind, run_und ht, Result.andThen_ok, Sem.run_pure]
theorem eqIn_map1 {k e : TypeId} (ht : P.underlying t = some (.map k e)) (x : Nat) : (Op.equalIn (d + 1) t (.map (some x)) (.map none)).run P w = .ok false w := by
  simp only [Op.equalIn, Sem.run_bind, run_und ht, Result.andThen_ok, Sem.run_pure]
theorem eqIn_fn0 {a b : Array TypeId} {c : Bool} (ht : P.underlying t = some (.func a b c)) : (Op.equalIn (d + 1) t .nilFunc .nilFunc).run P w = .ok true w := by
  simp only [Op.equalIn, Sem.run_bind, run_und ht, Result.andThen_ok, Sem.run_pure]
theorem eqIn_fn1 {a b : Array TypeId} {c : Bool} (ht : P.underlying t = some (.func a b c)) (f : Fn) (x y : Array Value) : (Op.equalIn (d + 1) t .nilFunc (.func f x y)).run P w = .ok false w := by
  simp only [Op.equalIn, Sem.run_bind, run_und ht, Result.andThen_ok, Sem.run_pure]
theorem eqIn_fn2 {a b : Array TypeId} {c : Bool} (ht : P.underlying t = some (.func a b c)) (f : Fn) (x y : Array Value) : (Op.equalIn (d + 1) t (.func f x y) .nilFunc).run P w = .ok false w := by
  simp only [Op.equalIn, Sem.run_bind, run_und ht, Result.andThen_ok, Sem.run_pure]
theorem eqIn_if1 {m : Array (String × TypeId)} (ht : P.underlying t = some (.interface m)) (u9 : TypeId) (x : Value) : (Op.equalIn (d + 1) t .nilIface (.iface u9 x)).run P w = .ok false w := by
  simp only [Op.equalIn, Sem.run_bind, run_und ht, Result.andThen_ok, Sem.run_pure]
theorem eqIn_if2 {m : Array (String × TypeId)} (ht : P.underlying t = some (.interface m)) (u9 : TypeId) (x : Value) : (Op.equalIn (d + 1) t (.iface u9 x) .nilIface).run P w = .ok false w := by
  simp only [Op.equalIn, Sem.run_bind, run_und ht, Result.andThen_ok, Sem.run_pure]
end
theorem eqV_some {t : TypeId} {e : EqK} {v u9 : V} {b : Bool} {n : Nat} {x y : Value} {ox oy : Operand} (he : eqKind P t = some e) (h : eqV e v u9 = some b) (hv : Rel A n v x) (hu : Rel A n u9 y) :
    (∀ op, (eqGuard op t ox oy x y).run P w = .ok () w) ∧ (binOp .eql t x y).run P w = .ok (.bool b) w ∧ (binOp .neq t x y).run P w = .ok (.bool (!b)) w := by
  unfold eqKind at he
  split at he
  · rename_i ht
    injection he with he
    subst he
    cases v <;> cases u9 <;> simp only [eqV] at h <;> first | (injection h with h; subst h) | cases h | skip
    obtain rfl := hv.of_b
    obtain rfl := hu.of_b
    exact ⟨fun op => by cases op <;> rfl, eq_of rfl rfl (run_equalIn_bool w 9999 t _ _ ht)⟩
  · injection he with he
    subst he
    cases v <;> cases u9 <;> simp only [eqV] at h <;> first | (injection h with h; subst h) | cases h | skip
    obtain ⟨h1, h2⟩ := bb_some h
    have h1 := of_decide_eq_true h1
    subst h1
    injection h2 with h2
    subst h2
    obtain rfl := hv.of_i
    obtain rfl := hu.of_i
    exact ⟨fun op => by cases op <;> rfl, by simp [binOp, Op.intCmp], by simp [binOp, Op.intCmp, bne]⟩
  · injection he with he
    subst he
    cases v <;> cases u9 <;> simp only [eqV] at h <;> first | (injection h with h; subst h) | cases h | skip
    obtain rfl := hv.of_s
    obtain rfl := hu.of_s
    exact ⟨fun op => by cases op <;> rfl, by simp [binOp, Op.stringOp, beq_toListBytes], by simp [binOp, Op.stringOp, beq_toListBytes]⟩
  · rename_i ht
    injection he with he
    subst he
    cases v <;> cases u9 <;> simp only [eqV] at h <;> first | (injection h with h; subst h) | cases h | skip
    · obtain ⟨rfl, _⟩ := hv.of_p
      obtain rfl := hu.of_np
      exact ⟨fun op => by cases op <;> rfl, eq_of rfl rfl (eqIn_ptr1 9999 ht _)⟩
    · obtain rfl := hv.of_np
      obtain ⟨rfl, _⟩ := hu.of_p
      exact ⟨fun op => by cases op <;> rfl, eq_of rfl rfl (eqIn_ptr0 9999 ht _)⟩
    · obtain rfl := hv.of_np
      obtain rfl := hu.of_np
      exact ⟨fun op => by cases op <;> rfl, eq_of rfl rfl (eqIn_ptr0 9999 ht _)⟩
  · rename_i ht
    injection he with he
    subst he
    cases v <;> cases u9 <;> simp only [eqV] at h <;> first | (injection h with h; subst h) | cases h | skip
    · obtain ⟨_, rfl, _⟩ := hv.of_sl
      obtain rfl := hu.of_ns
      exact ⟨fun op => by cases op <;> rfl, eq_of rfl rfl (eqIn_sl1 9999 ht _ _ _)⟩
    · obtain rfl := hv.of_ns
      obtain ⟨_, rfl, _⟩ := hu.of_sl
      exact ⟨fun op => by cases op <;> rfl, eq_of rfl rfl (eqIn_sl0 9999 ht _ _ _)⟩
    · obtain rfl := hv.of_ns
      obtain rfl := hu.of_ns
      exact ⟨fun op => by cases op <;> rfl, eq_of rfl rfl (eqIn_sl0 9999 ht _ _ _)⟩
  · rename_i ht
    injection he with he
    subst he
    cases v <;> cases u9 <;> simp only [eqV] at h <;> first | (injection h with h; subst h) | cases h | skip
    · obtain ⟨rfl, _⟩ := hv.of_m
      obtain rfl := hu.of_nm
      exact ⟨fun op => by cases op <;> rfl, eq_of rfl rfl (eqIn_map1 9999 ht _)⟩
    · obtain rfl := hv.of_nm
      obtain ⟨rfl, _⟩ := hu.of_m
      exact ⟨fun op => by cases op <;> rfl, eq_of rfl rfl (eqIn_map0 9999 ht _)⟩
    · obtain rfl := hv.of_nm
      obtain rfl := hu.of_nm
      exact ⟨fun op => by cases op <;> rfl, eq_of rfl rfl (eqIn_map0 9999 ht _)⟩
  · rename_i ht
    injection he with he
    subst he
    cases v <;> cases u9 <;> simp only [eqV] at h <;> first | (injection h with h; subst h) | cases h | skip
    · obtain ⟨_, _, rfl, _⟩ := hv.of_fn
      cases hu
      exact ⟨fun op => by cases op <;> rfl, eq_of rfl rfl (eqIn_fn2 9999 ht _ _ _)⟩
    · cases hv
      obtain ⟨_, _, rfl, _⟩ := hu.of_fn
      exact ⟨fun op => by cases op <;> rfl, eq_of rfl rfl (eqIn_fn1 9999 ht _ _ _)⟩
    · cases hv
      cases hu
      exact ⟨fun op => by cases op <;> rfl, eq_of rfl rfl (eqIn_fn0 9999 ht)⟩
  · rename_i ht
    injection he with he
    subst he
    cases v <;> cases u9 <;> simp only [eqV] at h <;> first | (injection h with h; subst h) | cases h | skip
    · obtain ⟨_, rfl, _⟩ := hv.of_iface
      cases hu
      exact ⟨fun op => by cases op <;> rfl, eq_of rfl rfl (eqIn_if2 9999 ht _ _)⟩
    · cases hv
      obtain ⟨_, rfl, _⟩ := hu.of_iface
      exact ⟨fun op => by cases op <;> rfl, eq_of rfl rfl (eqIn_if1 9999 ht _ _)⟩
  · rename_i fs ht
    obtain ⟨h1, he⟩ := bb_some he
    obtain ⟨h2, he⟩ := bb_some he
    obtain ⟨ks, h3, he⟩ := ob_some he
    injection he with he
    subst he
    cases v <;> cases u9 <;> simp only [eqV] at h <;> first | (injection h with h; subst h) | cases h | skip
    obtain ⟨xs, rfl, hxs⟩ := hv.of_agg
    obtain ⟨ys, rfl, hys⟩ := hu.of_agg
    have hf : P.fieldsOf t = fs := by simp [Program.fieldsOf, ht]
    have hst : P.stoodInHeld t = false := by simpa using h1
    have hg : P.eqGuardType P.depth t = false := by simpa using h2
    refine ⟨fun op => ?_, eq_of rfl rfl ?_⟩
    · cases op <;> first | rfl | simp [eqGuard, hg]
    · rw [run_equalIn_struct w 9999 t xs ys (by rw [hf]; exact ht) hst, hf]
      exact eqFields_run 9998 fs.toList 0 ks _ _ b (by simpa using h3) (by simpa using hxs) (by simpa using hys) h
  · cases he
theorem bin_ok {op : BinOp} {ty u9 : TypeId} {x y : Operand} {rx ry : Rd} {f : Fx} {C : CallF} (hx : rdB x = some rx) (hy : rdB y = some ry) (hf : binB P op ty rx ry = some f) : OpQ P C (.binOp op ty x y u9) f := by
  intro o ho A h w N t a K q hm ht hk
  have hrx := rd_rel ht hx
  have hry := rd_rel ht hy
  have plain : ∀ (op' : BinOp), op' = op → op ≠ .shl ∧ op ≠ .shr → f = ⟨fun _ t h K => rdK t rx fun x => rdK t ry fun y => asI x fun k a => asI y fun j c => bb (decide (k = j)) (arith op' k a c fun v => K v h)⟩ → ∃ v, K v h = some q ∧ ∃ x, (execOp a.eval o).run P w = .ok (.value x) w ∧ Rel A h.next v x := by
    intro op' hop hns hff
    subst hop
    rw [hff] at hk
    simp only [rdK_eq] at hk
    obtain ⟨k, m, h1, hk⟩ := asI_some hk
    obtain ⟨j, c, h2, hk⟩ := asI_some hk
    obtain ⟨h3, hk2⟩ := bb_some hk
    have h3 := of_decide_eq_true h3
    subst h3
    rw [h1] at hrx
    rw [h2] at hry
    obtain ⟨v, z, h4, h5, h6⟩ := arith_some (P := P) (A := A) (w := w) (n := h.next) ty hns hk2
    refine ⟨_, h4, z, (bin_exec ho ?_ ?_), h5⟩
    · rw [hrx.of_i, hry.of_i]; exact guard_int _ _ _ _ _ _ _ _
    · rw [hrx.of_i, hry.of_i]; exact h6
  have shf : ∀ (op' : BinOp), op' = op → op = .shl ∨ op = .shr → f = ⟨fun _ t h K => rdK t rx fun x => rdK t ry fun y => asI x fun k a => asI y fun _ c => shiftK op' k a c fun v => K v h⟩ → ∃ v, K v h = some q ∧ ∃ x, (execOp a.eval o).run P w = .ok (.value x) w ∧ Rel A h.next v x := by
    intro op' hop hns hff
    subst hop
    rw [hff] at hk
    simp only [rdK_eq] at hk
    obtain ⟨k, m, h1, hk⟩ := asI_some hk
    obtain ⟨j, c, h2, hk⟩ := asI_some hk
    rw [h1] at hrx
    rw [h2] at hry
    obtain ⟨v, z, h4, h5, h6⟩ := shift_some (P := P) (A := A) (w := w) (n := h.next) (j := j) ty hns hk
    refine ⟨_, h4, z, (bin_exec ho ?_ ?_), h5⟩
    · rw [hrx.of_i, hry.of_i]; exact guard_int _ _ _ _ _ _ _ _
    · rw [hrx.of_i, hry.of_i]; exact h6
  cases op <;> simp only [binB] at hf
  case eql =>
    obtain ⟨e, he, hf⟩ := ob_some hf
    injection hf with hf
    subst hf
    simp only [rdK_eq] at hk
    obtain ⟨b, hb, hk⟩ := ob_some hk
    rw [mkB_eq] at hk
    obtain ⟨h1, h2, _⟩ := eqV_some (w := w) (ox := x) (oy := y) he hb hrx hry
    exact ⟨_, hk, _, (bin_exec ho (h1 _) h2), (.b _)⟩
  case neq =>
    obtain ⟨e, he, hf⟩ := ob_some hf
    injection hf with hf
    subst hf
    simp only [rdK_eq] at hk
    obtain ⟨b, hb, hk⟩ := ob_some hk
    rw [mkB_eq] at hk
    obtain ⟨h1, _, h2⟩ := eqV_some (w := w) (ox := x) (oy := y) he hb hrx hry
    exact ⟨_, hk, _, (bin_exec ho (h1 _) h2), (.b _)⟩
  case shl => injection hf with hf; exact shf _ rfl (.inl rfl) hf.symm
  case shr => injection hf with hf; exact shf _ rfl (.inr rfl) hf.symm
  all_goals
    injection hf with hf
    exact plain _ rfl ⟨by decide, by decide⟩ hf.symm
end
end Go.Proofs.YtmjilfamjlnigaaGreat.Vm
/- The small machine's operations do what the model's do: places, parts, slices, functions. -/
namespace Go.Proofs.YtmjilfamjlnigaaGreat.Vm
open Go Go.RowKit

section
variable {A : Sub} {h : H} {w : World} {P : Program}
theorem fieldB_some {s : TypeId} {f : Nat} {p : Nat × TypeId} (h : fieldB P s f = some p) : ∃ fs fd, P.underlying s = some (.struct fs) ∧ fs[f]? = some fd ∧ fd.offset = p.1 ∧ fd.type = p.2 := by
  unfold fieldB at h
  split at h
  · rename_i fs hu
    obtain ⟨fd, hfd, h⟩ := ob_some h
    rw [fN_eq] at h
    injection h with h
    subst h
    exact ⟨fs, fd, hu, hfd, rfl, rfl⟩
  · cases h
theorem fieldAddr_ok {s : TypeId} {x : Operand} {f : Nat} {rx : Rd} {p : Nat × TypeId} {n : Nat} {C : CallF} (hx : rdB x = some rx) (hp : fieldB P s f = some p) (hn : sizeB P p.2 = some n) (h0 : 0 < n) :
    OpQ P C (.fieldAddr s x f) ⟨fun _ t h K => rdK t rx fun x => asP x fun pt o => fN (Nat.add o p.1) fun o => K (.p pt o) h⟩ := by
  intro o ho A h w N t a K q hm ht hk
  simp only [rdK_eq] at hk
  obtain ⟨b, o', hv, hk⟩ := asP_some hk
  rw [fN_eq] at hk
  have hr := rd_rel ht hx
  rw [hv] at hr
  obtain ⟨h1, h2⟩ := hr.of_p
  obtain ⟨fs, fd, hu, hfd, h3, h4⟩ := fieldB_some hp
  rw [← h4] at hn
  have hn0 : n ≠ 0 := by omega
  refine ⟨_, hk, _, ?_, (.p b _ h2)⟩
  simp only [execOp, ho, h1, Instr.fieldAt, Sem.run_bind, run_und hu, Result.andThen_ok, hfd, Instr.sureAddr, Sem.run_pure, fieldPlace, run_size hn, if_neg hn0]
  rw [add_lit, h3]
  rfl
theorem indexAddr_ok {ty : TypeId} {x i : Operand} {rx ri : Rd} {f : Fx} {C : CallF} (hx : rdB x = some rx) (hi : rdB i = some ri) (hf : indexAddrB P ty rx ri = some f) : OpQ P C (.indexAddr ty x i) f := by
  intro o ho A h w N t a K q hm ht hk
  have hrx := rd_rel ht hx
  have hri := rd_rel ht hi
  unfold indexAddrB at hf
  split at hf
  · rename_i e hu
    obtain ⟨sz, hsz, hf⟩ := ob_some hf
    injection hf with hf
    subst hf
    simp only [rdK_eq] at hk
    obtain ⟨k, m, h1, hk⟩ := asN_some hk
    split at hk
    · rename_i b o' len cap kn z hv
      obtain ⟨hlt, hk⟩ := bb_some hk
      rw [fN_eq] at hk
      rw [hv] at hrx
      rw [h1] at hri
      obtain ⟨c, h2, h3, _⟩ := hrx.of_sl
      have h4 := hri.of_i
      have hlt : m < len := Nat.le_of_ble_eq_true hlt
      refine ⟨_, hk, _, ?_, (.p b _ h3)⟩
      simp only [execOp, ho, h2, h4, Instr.indexAt, asIntOf, Sem.run_bind, run_und hu, Result.andThen_ok, Sem.run_pure]
      have hb : (0 : Int) ≤ Int.ofNat m ∧ Int.ofNat m < (len : Int) := ⟨Int.natCast_nonneg m, by exact Int.ofNat_lt.2 hlt⟩
      simp only [hb, and_self, if_true, Sem.run_bind, run_size hsz, Result.andThen_ok, Sem.run_pure]
      rw [add_lit]
      rfl
    · cases hk
  · rename_i len e hu
    obtain ⟨sz, hsz, hf⟩ := ob_some hf
    injection hf with hf
    subst hf
    simp only [rdK_eq] at hk
    obtain ⟨k, m, h1, hk⟩ := asN_some hk
    obtain ⟨b, o', hv, hk⟩ := asP_some hk
    obtain ⟨hlt, hk⟩ := bb_some hk
    rw [fN_eq] at hk
    rw [hv] at hrx
    rw [h1] at hri
    obtain ⟨h2, h3⟩ := hrx.of_p
    have h4 := hri.of_i
    have hlt : m < len := Nat.le_of_ble_eq_true hlt
    refine ⟨_, hk, _, ?_, (.p b _ h3)⟩
    simp only [execOp, ho, h2, h4, Instr.indexAt, asIntOf, Sem.run_bind, run_und hu, Result.andThen_ok, Sem.run_pure, Instr.sureAddr]
    have hb : (0 : Int) ≤ Int.ofNat m ∧ Int.ofNat m < (len : Int) := ⟨Int.natCast_nonneg m, by exact Int.ofNat_lt.2 hlt⟩
    simp only [hb, and_self, if_true, Sem.run_bind, run_size hsz, Result.andThen_ok, Sem.run_pure]
    rw [add_lit]
    rfl
  · cases hf
theorem nilCheck_ok {x : Operand} {rx : Rd} {C : CallF} (hx : rdB x = some rx) : OpQ P C (.nilCheck x) ⟨fun _ t h K => rdK t rx fun x => match x with
    | .p pt o => K (.p pt o) h
    | .fn (.func f) a b => K (.fn (.func f) a b) h
    | .iface ty v => K (.iface ty v) h
    | _ => none⟩ := by
  intro o ho A h w N t a K q hm ht hk
  have hrx := rd_rel ht hx
  simp only [rdK_eq] at hk
  split at hk
  · rename_i b o' hv
    rw [hv] at hrx
    obtain ⟨h1, h2⟩ := hrx.of_p
    exact ⟨_, hk, _, (by simp only [execOp, ho, h1]; rfl), (.p _ _ h2)⟩
  · rename_i f l r hv
    rw [hv] at hrx
    obtain ⟨xs, ys, h1, h2, h3⟩ := hrx.of_fn
    exact ⟨_, hk, _, (by simp only [execOp, ho, h1]; rfl), (.fn _ _ _ _ _ h2 h3)⟩
  · rename_i ty v hv
    rw [hv] at hrx
    obtain ⟨y, h1, h2⟩ := hrx.of_iface
    exact ⟨_, hk, _, (by simp only [execOp, ho, h1]; rfl), (.iface _ _ _ h2)⟩
  · cases hk
theorem extract_ok {x : Operand} {i : Nat} {rx : Rd} {C : CallF} (hx : rdB x = some rx) : OpQ P C (.extract x i) ⟨fun _ t h K => rdK t rx fun x => asTup x fun l => ob l[i]? fun v => K v h⟩ := by
  intro o ho A h w N t a K q hm ht hk
  have hrx := rd_rel ht hx
  simp only [rdK_eq] at hk
  obtain ⟨l, hv, hk⟩ := asTup_some hk
  obtain ⟨v, hl, hk⟩ := ob_some hk
  rw [hv] at hrx
  obtain ⟨xs, h1, h2⟩ := hrx.of_tup
  obtain ⟨y, h3, h4⟩ := h2.get hl
  refine ⟨_, hk, y, ?_, h4⟩
  have h3 : xs[i]? = some y := by simpa using h3
  simp only [execOp, ho, h1, Instr.extract, h3, Sem.run_bind, Sem.run_pure, Result.andThen_ok]
theorem pick_ok {c x y : Operand} {rc rx ry : Rd} {C : CallF} (hc : rdB c = some rc) (hx : rdB x = some rx) (hy : rdB y = some ry) :
    OpQ P C (.pick c x y) ⟨fun _ t h K => rdK t rc fun c => asB c fun c => br c (rdK t rx fun v => K v h) (rdK t ry fun v => K v h)⟩ := by
  intro o ho A h w N t a K q hm ht hk
  have hrc := rd_rel ht hc
  simp only [rdK_eq] at hk
  obtain ⟨b, hv, hk⟩ := asB_some hk
  rw [hv] at hrc
  have h1 := hrc.of_b
  cases b with
  | true => exact ⟨_, hk, _, (by simp [execOp, ho, h1, asBool]), (rd_rel ht hx)⟩
  | false => exact ⟨_, hk, _, (by simp [execOp, ho, h1, asBool]), (rd_rel ht hy)⟩
theorem unary_arith {op : BinOp} {k : IntKind} {a c : Int} {β : Type} {K : V → Option β} {r : β} {n : Nat} (hop : op = .sub ∨ op = .xor) (h : arith op k a c K = some r) : ∃ v x, K v = some r ∧ Rel A n v x ∧ ((if op = .sub then Op.intArith op k a c else Op.intBits op k a c)).run P w = .ok x w := by
  rcases hop with rfl | rfl
  · simp only [arith, mkI_eq] at h
    exact ⟨_, _, h, .i _ _, by simp [Op.intArith]⟩
  · simp only [arith, mkI_eq] at h
    exact ⟨_, _, h, .i _ _, by simp [Op.intBits]⟩
theorem not_ok {ty : TypeId} {x : Operand} {rx : Rd} {C : CallF} (hx : rdB x = some rx) : OpQ P C (.unOp .not ty x) ⟨fun _ t h K => rdK t rx fun x => asB x fun x => mkB (!x) fun v => K v h⟩ := by
  intro o ho A h w N t a K q hm ht hk
  have hrx := rd_rel ht hx
  simp only [rdK_eq] at hk
  obtain ⟨b, hv, hk⟩ := asB_some hk
  rw [mkB_eq] at hk
  rw [hv] at hrx
  exact ⟨_, hk, _, (by simp [execOp, ho, hrx.of_b, Op.unary]), (.b _)⟩
theorem neg_ok {ty : TypeId} {x : Operand} {rx : Rd} {C : CallF} (hx : rdB x = some rx) : OpQ P C (.unOp .neg ty x) ⟨fun _ t h K => rdK t rx fun x => asI x fun k n => arith .sub k 0 n fun v => K v h⟩ := by
  intro o ho A h w N t a K q hm ht hk
  have hrx := rd_rel ht hx
  simp only [rdK_eq] at hk
  obtain ⟨k, n, hv, hk⟩ := asI_some hk
  rw [hv] at hrx
  obtain ⟨v, y, h1, h2, h3⟩ := unary_arith (P := P) (A := A) (w := w) (n := h.next) (.inl rfl) hk
  rw [if_pos rfl] at h3
  exact ⟨_, h1, _, (by simp only [execOp, ho, hrx.of_i, Op.unary, Sem.run_bind, h3, Result.andThen_ok, Sem.run_pure]), h2⟩
theorem xor_ok {ty : TypeId} {x : Operand} {rx : Rd} {C : CallF} (hx : rdB x = some rx) : OpQ P C (.unOp .xor ty x) ⟨fun _ t h K => rdK t rx fun x => asI x fun k n => arith .xor k (if k.signed then -1 else k.max) n fun v => K v h⟩ := by
  intro o ho A h w N t a K q hm ht hk
  have hrx := rd_rel ht hx
  simp only [rdK_eq] at hk
  obtain ⟨k, n, hv, hk⟩ := asI_some hk
  rw [hv] at hrx
  obtain ⟨v, y, h1, h2, h3⟩ := unary_arith (P := P) (A := A) (w := w) (n := h.next) (.inr rfl) hk
  rw [if_neg (by decide)] at h3
  exact ⟨_, h1, _, (by simp only [execOp, ho, hrx.of_i, Op.unary, Sem.run_bind, h3, Result.andThen_ok, Sem.run_pure]), h2⟩
/-! ### Aggregates -/
theorem placesB_some : ∀ (fs : List Field) (pl : List (Nat × Nat)), mapO (fun f : Field => ob (sizeB P f.type) fun n => fN f.offset fun o => some (o, n)) fs = some pl →
    (fs.mapM (m := Sem) fun f => do pure (f.offset, ← sizeOf f.type)).run P w = .ok pl w
  | [], pl, h => by rw [mapO_nil h]; rfl
  | f :: fs, pl, h => by
    obtain ⟨y, q, h1, h2, rfl⟩ := mapO_cons h
    obtain ⟨n, hn, h1⟩ := ob_some h1
    rw [fN_eq] at h1
    injection h1 with h1
    subst h1
    have ih := placesB_some fs q h2
    rw [List.mapM_cons]
    simp only [Sem.run_bind, run_size hn, Result.andThen_ok, Sem.run_pure, ih]
theorem build_ok {ty : TypeId} {parts : Array (Nat × Operand)} {z : V} {f : Fx} {C : CallF} (hz : zeroB P ty = some z) (hf : (match P.underlying ty with
      | some (.struct _) => ob (placesB P ty) fun pl => ob (partsB (pl[·]?) parts.toList) fun ps => some ⟨fun _ t h K => ob (rdP t ps) fun ps => ob (fillL z.cells ps) fun l => K (.agg l) h⟩
      | some (.array _ e) => ob (sizeB P e) fun sz => ob (partsB (fun i => some (i * sz, sz)) parts.toList) fun ps => some ⟨fun _ t h K => ob (rdP t ps) fun ps => ob (fillL z.cells ps) fun l => K (.agg l) h⟩
      | _ => none) = some f) : OpQ P C (.build ty parts) f := by
  intro o ho A h w N t a K q hm ht hk
  obtain ⟨x, hx1, hx2⟩ := run_zero (w := w) hz
  have hzr : RelL A h.next z.cells x.cells.toList := (ofVal_rel hx2).cells
  split at hf
  · rename_i fs hu
    obtain ⟨pl, hpl, hf⟩ := ob_some hf
    obtain ⟨ps, hps, hf⟩ := ob_some hf
    injection hf with hf
    subst hf
    obtain ⟨vs, hvs, hk⟩ := ob_some hk
    obtain ⟨l, hl, hk⟩ := ob_some hk
    unfold placesB at hpl
    rw [hu] at hpl
    have hplr := placesB_some (w := w) fs.toList pl hpl
    have hparts := parts_rel ht _ ps vs hps hvs
    obtain ⟨ys, h1, h2⟩ := fill_rel vs _ (fun i => pl[i]?) z.cells x.cells.toList l hzr hl hparts
    refine ⟨_, hk, .agg ys.toArray, ?_, (.agg _ _ h2)⟩
    have hmap : (fs.mapM (m := Sem) fun f => do pure (f.offset, ← sizeOf f.type)).run P w = .ok pl.toArray w := by
      rw [Array.mapM_eq_mapM_toList, Sem.run_map, hplr]
      rfl
    simp only [execOp, ho, Instr.build, Sem.run_bind, hx1, Result.andThen_ok, Sem.run_pure, run_und hu, hmap]
    have e : Instr.fill (fun i => pl.toArray[i]?) x.cells (parts.map fun (i, x) => (i, a.eval x)).toList = some ys.toArray := by
      rw [Array.toList_map]
      simpa using h1
    simp only [e, Sem.run_pure, Result.andThen_ok]
  · rename_i n e hu
    obtain ⟨sz, hsz, hf⟩ := ob_some hf
    obtain ⟨ps, hps, hf⟩ := ob_some hf
    injection hf with hf
    subst hf
    obtain ⟨vs, hvs, hk⟩ := ob_some hk
    obtain ⟨l, hl, hk⟩ := ob_some hk
    have hparts := parts_rel ht _ ps vs hps hvs
    obtain ⟨ys, h1, h2⟩ := fill_rel vs _ (fun i => some (i * sz, sz)) z.cells x.cells.toList l hzr hl hparts
    refine ⟨_, hk, .agg ys.toArray, ?_, (.agg _ _ h2)⟩
    simp only [execOp, ho, Instr.build, Sem.run_bind, hx1, Result.andThen_ok, Sem.run_pure, run_und hu, run_size hsz]
    have e : Instr.fill (fun i => some (i * sz, sz)) x.cells (parts.map fun (i, x) => (i, a.eval x)).toList = some ys.toArray := by
      rw [Array.toList_map]
      simpa using h1
    simp only [e, Sem.run_pure, Result.andThen_ok]
  · cases hf
theorem run_newRow (e : TypeId) (cs : Array Value) : (Go.newRow e cs).run P w = .ok ⟨w.heap.size, 0, none⟩ (w.alloc (.cells cs e)) := rfl
theorem buildSlice_ok {ty e : TypeId} {len sz : Nat} {parts : Array (Nat × Operand)} {z : V} {ps : List (Nat × Nat × Rd)} {C : CallF} (he : elemB P ty = some e) (hsz : sizeB P e = some sz) (hz : zeroB P e = some z) (h0 : 0 < sz) (hzl : z.cells.length = sz)
    (hb : len * sz ≤ 65536) (hps : partsB (fun i => some (i * sz, sz)) parts.toList = some ps) :
    OpOk P C (.buildSlice ty len parts) ⟨fun _ t h K => ob (rdP t ps) fun ps => ob (fillL (rep z.cells len) ps) fun l => Vm.newRow h e l false fun b h => K (.sl b 0 len len true sz) h⟩ := by
  intro o ho A h w N t a K q hm ht hk
  obtain ⟨x, hx1, hx2⟩ := run_zero (w := w) hz
  have hzr : RelL A h.next z.cells x.cells.toList := (ofVal_rel hx2).cells
  have hxs : x.cells.size = sz := by have := hzr.length; rw [Array.length_toList] at this; omega
  obtain ⟨vs, hvs, hk⟩ := ob_some hk
  obtain ⟨l, hl, hk⟩ := ob_some hk
  obtain ⟨h3, hk⟩ := newRow_some hk
  have hparts := parts_rel ht _ ps vs hps hvs
  obtain ⟨ys, h1, h2⟩ := fill_rel vs _ (fun i => some (i * sz, sz)) (rep z.cells len) _ l (rep_rel hzr len) hl hparts
  refine ⟨_, _, hk, .value (x := .slice (some ⟨w.heap.size, 0, none⟩) len len) (w' := w.alloc (.cells ys.toArray e)) ?_ ⟨_, Ev.new (k := 0) hm (row_new0 (by simpa using h2) h3), sl_new A h.next w.heap.size 0 len len sz⟩⟩
  have hu := elem_und he
  have hbig : ¬ (len * sz > 2 ^ 24) := by omega
  have e1 : Instr.fill (fun i => some (i * sz, sz)) (List.flatten (List.replicate len x.cells.toList)).toArray (parts.map fun (i, x) => (i, a.eval x)).toList = some ys.toArray := by
    rw [Array.toList_map]
    simpa using h1
  by_cases hl0 : len * sz = 0
  · have hlen : len = 0 := by
      rcases Nat.mul_eq_zero.1 hl0 with h | h
      · exact h
      · omega
    subst hlen
    have e2 : Instr.fill (fun i => some (i * sz, sz)) #[] (parts.map fun (i, x) => (i, a.eval x)).toList = some ys.toArray := by simpa using e1
    have e3 : (Array.map (fun _ => (default : Value)) (Array.range 0)) = #[] := by apply Array.ext'; simp
    simp at e2
    simp [execOp, ho, Instr.buildSlice, run_und hu, run_size hsz, e3, e2, run_newRow]
  · have e3 := zero_rep x.cells len sz hxs h0
    simp only [execOp, ho, Instr.buildSlice, Sem.run_bind, run_und hu, Result.andThen_ok, run_size hsz, if_neg hbig, if_neg hl0, hx1, Sem.run_pure]
    rw [e3, e1]
    simp only [Sem.run_bind, run_newRow, Result.andThen_ok, Sem.run_pure]
theorem bytesB_some {e : TypeId} {n : Nat} (h : bytesB P e = some n) : ∃ i, P.info? e = some i ∧ i.bytes = n := by
  unfold bytesB at h
  obtain ⟨i, hi, h⟩ := ob_some h
  rw [fN_eq] at h
  injection h with h
  exact ⟨i, hi, h⟩
end
end Go.Proofs.YtmjilfamjlnigaaGreat.Vm
/- The small machine's operations do what the model's do: slices, kinds, functions, interfaces. -/
namespace Go.Proofs.YtmjilfamjlnigaaGreat.Vm
open Go Go.RowKit

section
variable {A : Sub} {h : H} {w : World} {P : Program} {β : Type}
theorem makeSlice_ok {ty e : TypeId} {x y : Operand} {rx ry : Rd} {sz by_ : Nat} {z : V} {C : CallF} (hx : rdB x = some rx) (hy : rdB y = some ry) (he : elemB P ty = some e) (hsz : sizeB P e = some sz) (hz : zeroB P e = some z) (hby : bytesB P e = some by_)
    (h0 : 0 < sz) (hzl : z.cells.length = sz) :
    OpOk P C (.makeSlice ty x y) ⟨fun _ t h K => rdK t rx fun l => rdK t ry fun c => asN l fun l => asN c fun c => bb (Nat.ble l c) (bb (Nat.ble c 65536) (bb (Nat.ble (Nat.mul c by_) 1048576) (Vm.newRow h e (rep z.cells c) false fun b h => K (.sl b 0 l c true sz) h)))⟩ := by
  intro o ho A h w N t a K q hm ht hk
  have hrx := rd_rel ht hx
  have hry := rd_rel ht hy
  simp only [rdK_eq] at hk
  obtain ⟨k, l, h1, hk⟩ := asN_some hk
  obtain ⟨j, c, h2, hk⟩ := asN_some hk
  obtain ⟨hlc, hk⟩ := bb_some hk
  obtain ⟨hc6, hk⟩ := bb_some hk
  obtain ⟨hcb, hk⟩ := bb_some hk
  obtain ⟨h3, hk⟩ := newRow_some hk
  have hlc : l ≤ c := Nat.le_of_ble_eq_true hlc
  have hc6 : c ≤ 65536 := Nat.le_of_ble_eq_true hc6
  have hcb : c * by_ ≤ 1048576 := Nat.le_of_ble_eq_true hcb
  rw [h1] at hrx
  rw [h2] at hry
  obtain ⟨zx, hx1, hx2⟩ := run_zero (w := w) hz
  have hzr : RelL A h.next z.cells zx.cells.toList := (ofVal_rel hx2).cells
  have hxs : zx.cells.size = sz := by have := hzr.length; rw [Array.length_toList] at this; omega
  obtain ⟨i, hi, hib⟩ := bytesB_some hby
  have e1 : (Array.range (c * sz)).map (fun i => zx.cells[i % zx.cells.size]!) = (List.flatten (List.replicate c zx.cells.toList)).toArray := zero_rep zx.cells c sz hxs h0
  refine ⟨_, _, hk, .value (x := .slice (some ⟨w.heap.size, 0, none⟩) l c) (w' := w.alloc (.cells (List.flatten (List.replicate c zx.cells.toList)).toArray e)) ?_ ⟨_, Ev.new (k := 0) hm (row_new0 (by simpa using rep_rel hzr c) h3), sl_new A h.next w.heap.size 0 l c sz⟩⟩
  have hu := elem_und he
  have w1 : IntKind.i64.wrap (l : Int) = (l : Int) := IntWalk.i64_in _ ⟨by omega, by omega⟩
  have w2 : IntKind.i64.wrap (c : Int) = (c : Int) := IntWalk.i64_in _ ⟨by omega, by omega⟩
  have n1 : ¬ (c : Int) < 0 := by omega
  have n2 : ¬ (l : Int) < 0 := by omega
  have n3 : ¬ (c < l) := by omega
  have n4 : ¬ (281474976710656 < ((by_ : Int) * (c : Int))) := by
    have : (by_ : Int) * (c : Int) = ((c * by_ : Nat) : Int) := by rw [Nat.mul_comm]; push_cast; rfl
    omega
  have hrx := hrx.of_i
  have hry := hry.of_i
  rw [Int.ofNat_eq_natCast] at hrx hry
  by_cases hn : c * sz = 0
  · have hc0 : c = 0 := by
      rcases Nat.mul_eq_zero.1 hn with h | h
      · exact h
      · omega
    have hl0 : l = 0 := by omega
    subst hc0 hl0
    have e3 : (Array.map (fun _ => (default : Value)) (Array.range 0)) = #[] := by apply Array.ext'; simp
    have w0 : IntKind.i64.wrap 0 = 0 := by decide
    simp [execOp, ho, hrx, hry, Instr.makeSlice, asInt, asIntOf, run_und hu, typeInfo, hi, hib, w0, run_size hsz, e3, run_newRow]
  · simp [execOp, ho, hrx, hry, Instr.makeSlice, asInt, asIntOf, run_und hu, typeInfo, hi, hib, w1, w2, n1, n2, n3, n4, run_size hsz, hx1]
    rw [if_neg hn, e1]
    simp only [run_newRow, Result.andThen_ok]
theorem bound_some {n N : Nat} {t : Tr V} {a : Act} (ht : TRel A n N t a.tmps) {x : Option Operand} {rx : Option Rd} {d top : Nat} {K : Nat → Option β} {r : β} (hx : optB x = some rx) (h : boundK t rx d top K = some r) :
    (x = none ∧ K d = some r) ∨ ∃ y k m, x = some y ∧ a.eval y = .int k (.ofNat m) ∧ m ≤ top ∧ K m = some r := by
  cases x with
  | none =>
    injection hx with hx
    subst hx
    exact .inl ⟨rfl, h⟩
  | some y =>
    obtain ⟨ry, hy, hx⟩ := ob_some hx
    injection hx with hx
    subst hx
    have h : rdK t ry (fun v => asN v fun n => bb (Nat.ble n top) (K n)) = some r := h
    rw [rdK_eq] at h
    obtain ⟨k, m, h1, h⟩ := asN_some h
    obtain ⟨h2, h⟩ := bb_some h
    have h3 := rd_rel ht hy
    rw [h1] at h3
    exact .inr ⟨y, k, m, rfl, h3.of_i, Nat.le_of_ble_eq_true h2, h⟩
theorem run_bound {k : IntKind} {m y : Nat} {code : BoundsCode} (h : m ≤ y) : (Instr.sliceBound (.int k (m : Int)) y code).run P w = .ok m w := by
  have h1 : (0 : Int) ≤ (m : Int) ∧ (m : Int) ≤ (y : Int) := ⟨Int.natCast_nonneg m, by exact Int.ofNat_le.2 h⟩
  simp only [Instr.sliceBound, asIntOf, Sem.run_bind, Sem.run_pure, Result.andThen_ok, h1, and_self, if_true]
  rfl
/-- s[lo:hi], as the model has it. -/
theorem run_slice2 {ty e : TypeId} {sz : Nat} {ad : Option Addr} {len c hh l : Nat} {lo hi : Option Value} (hu : P.underlying ty = some (.slice e)) (hsz : sizeB P e = some sz)
    (hhi : (hi = none ∧ hh = len) ∨ ∃ k, hi = some (.int k (.ofNat hh)) ∧ hh ≤ c) (hlo : (lo = none ∧ l = 0) ∨ ∃ k, lo = some (.int k (.ofNat l)) ∧ l ≤ hh) :
    (Instr.sliceAt ty (.slice ad len c) lo hi none).run P w = .ok (.slice (if c = l then ad else ad.map (·.add (l * sz))) (hh - l) (c - l)) w := by
  have e1 : (Instr.sliceBounds true len c lo hi none).run P w = .ok (l, hh, c) w := by
    unfold Instr.sliceBounds
    rcases hhi with ⟨rfl, rfl⟩ | ⟨k, rfl, h1⟩ <;> rcases hlo with ⟨rfl, rfl⟩ | ⟨k', rfl, h2⟩
    · rfl
    · simp [run_bound h2]
    · simp [run_bound h1]
    · simp [run_bound h1, run_bound h2]
  simp only [Instr.sliceAt, Instr.slice, Sem.run_bind, run_und hu, Result.andThen_ok, e1, run_size hsz, Sem.run_pure]
theorem slice2_ok {ty : TypeId} {x : Operand} {lo hi : Option Operand} {rx : Rd} {rlo rhi : Option Rd} {f : Fx} {C : CallF} (hx : rdB x = some rx) (hlo : optB lo = some rlo) (hhi : optB hi = some rhi) (hf : slice2B P ty rx rlo rhi = some f) : OpQ P C (.slice ty x lo hi none) f := by
  intro o ho A h w N t a K q hm ht hk
  have hrx := rd_rel ht hx
  unfold slice2B at hf
  obtain ⟨e, he, hf⟩ := ob_some hf
  obtain ⟨sz, hsz, hf⟩ := ob_some hf
  injection hf with hf
  subst hf
  have hu := elem_und he
  simp only [rdK_eq] at hk
  split at hk
  · rename_i b o' len cap kn z hv
    rw [hv] at hrx
    obtain ⟨c, h1, h2, h3, h4⟩ := hrx.of_sl
    obtain ⟨hz, hk⟩ := bb_some hk
    have hz : z = sz := Nat.eq_of_beq_eq_true hz
    subst hz
    have hcap : cap ≤ c := by
      cases kn with
      | true => rw [h3 rfl]; exact Nat.le_refl _
      | false => exact (h4 rfl).2.1
    -- the bounds
    have key : ∀ (hh : Nat), ((hi = none ∧ hh = len) ∨ ∃ y k, hi = some y ∧ a.eval y = .int k (.ofNat hh) ∧ hh ≤ cap) → (boundK t rlo 0 hh fun l => fN (Nat.sub hh l) fun n => fN (Nat.sub cap l) fun c =>
        br (Nat.beq cap l) (bb (kn || Nat.beq l 0) (K (.sl b o' n c kn z) h)) (fN (Nat.add o' (Nat.mul l z)) fun o => K (.sl b o n c kn z) h)) = some q → ∃ v, K v h = some q ∧ ∃ x, (execOp a.eval o).run P w = .ok (.value x) w ∧ Rel A h.next v x := by
      intro hh hhh hk
      have hle : hh ≤ cap ∨ hi = none := by
        rcases hhh with ⟨h5, _⟩ | ⟨y, k, h5, _, h6⟩
        · exact .inr h5
        · exact .inl h6
      have hkl : ∀ l, ((lo = none ∧ l = 0) ∨ ∃ y k, lo = some y ∧ a.eval y = .int k (.ofNat l) ∧ l ≤ hh) → (fN (Nat.sub hh l) fun n => fN (Nat.sub cap l) fun c =>
        br (Nat.beq cap l) (bb (kn || Nat.beq l 0) (K (.sl b o' n c kn z) h)) (fN (Nat.add o' (Nat.mul l z)) fun o => K (.sl b o n c kn z) h)) = some q → ∃ v, K v h = some q ∧ ∃ x, (execOp a.eval o).run P w = .ok (.value x) w ∧ Rel A h.next v x := by
        intro l hll hk
        simp only [fN_eq] at hk
        rw [br_beq] at hk
        have hrun := run_slice2 (w := w) (ty := ty) (ad := some ⟨A.ι b, o', none⟩) (len := len) (c := c) (hh := hh) (l := l) (lo := lo.map a.eval) (hi := hi.map a.eval) hu hsz
          (by rcases hhh with ⟨rfl, h5⟩ | ⟨y, k, rfl, h5, h6⟩
              · exact .inl ⟨rfl, h5⟩
              · exact .inr ⟨k, by rw [Option.map_some, h5], by omega⟩)
          (by rcases hll with ⟨rfl, h5⟩ | ⟨y, k, rfl, h5, h6⟩
              · exact .inl ⟨rfl, h5⟩
              · exact .inr ⟨k, by rw [Option.map_some, h5], h6⟩)
        have hex : (execOp a.eval o).run P w = .ok (.value (.slice (if c = l then some ⟨A.ι b, o', none⟩ else some ⟨A.ι b, o' + l * z, none⟩) (hh - l) (c - l))) w := by
          simp only [execOp, ho, h1]
          simp only [Sem.run_bind, Option.map_none, hrun, Result.andThen_ok, Sem.run_pure, Option.map_some, add_lit]
        have hlh : l ≤ hh := by
          rcases hll with ⟨_, rfl⟩ | ⟨_, _, _, _, h6⟩
          · exact Nat.zero_le _
          · exact h6
        by_cases hcl : cap = l
        · rw [if_pos hcl] at hk
          obtain ⟨hkn, hk⟩ := bb_some hk
          refine ⟨_, hk, _, hex, ?_⟩
          have had : (if c = l then (some ⟨A.ι b, o', none⟩ : Option Addr) else some ⟨A.ι b, o' + l * z, none⟩) = some ⟨A.ι b, o', none⟩ := by
            by_cases hne : c = l
            · rw [if_pos hne]
            · rw [if_neg hne]
              cases kn with
              | true => exact absurd ((h3 rfl).trans hcl) hne
              | false =>
                have : l = 0 := Nat.eq_of_beq_eq_true (by simpa using hkn)
                subst this
                simp
          rw [had]
          cases kn with
          | true => rw [h3 rfl]; exact .slk b o' _ _ z h2
          | false =>
            have hl0 : l = 0 := Nat.eq_of_beq_eq_true (by simpa using hkn)
            obtain ⟨h5, h6, h7⟩ := h4 rfl
            refine .slu b o' _ _ z _ h2 ?_ ?_ ?_
            · show hh - l ≤ cap - l
              rcases hle with h8 | h8
              · omega
              · rcases hhh with ⟨_, h9⟩ | ⟨y, k, h9, _⟩
                · omega
                · rw [h8] at h9; cases h9
            · show cap - l ≤ c - l; omega
            · rw [hl0, Nat.sub_zero]; exact h7
        · rw [if_neg hcl] at hk
          refine ⟨_, hk, _, hex, ?_⟩
          have hlc : kn = true → l ≠ c := fun hkn e => hcl (by rw [← h3 hkn]; exact e.symm)
          cases kn with
          | true =>
            rw [if_neg (fun e => hlc rfl e.symm), h3 rfl]
            exact .slk b _ _ _ z h2
          | false =>
            obtain ⟨h5, h6, h7⟩ := h4 rfl
            have hhc : hh ≤ cap := by
              rcases hle with h8 | h8
              · exact h8
              · rcases hhh with ⟨_, h9⟩ | ⟨y, k, h9, _⟩
                · omega
                · rw [h8] at h9; cases h9
            rw [if_neg (by omega)]
            refine .slu b _ _ _ z _ h2 ?_ ?_ ?_
            · show hh - l ≤ cap - l; omega
            · show cap - l ≤ c - l; omega
            · show o' + l * z + (c - l) * z = A.κ b
              rw [← h7, Nat.sub_mul]
              have : l * z ≤ c * z := Nat.mul_le_mul_right z (by omega)
              omega
      rcases bound_some ht hlo hk with ⟨h5, h6⟩ | ⟨y, k, m, h5, h6, h7, h8⟩
      · exact hkl 0 (.inl ⟨h5, rfl⟩) h6
      · exact hkl m (.inr ⟨y, k, h5, h6, h7⟩) h8
    rcases bound_some ht hhi hk with ⟨h5, h6⟩ | ⟨y, k, m, h5, h6, h7, h8⟩
    · exact key len (.inl ⟨h5, rfl⟩) h6
    · exact key m (.inr ⟨y, k, h5, h6, h7⟩) h8
  · rename_i hv
    rw [hv] at hrx
    have h1 := hrx.of_ns
    have fin : ∀ hh l, ((hi = none ∧ hh = 0) ∨ ∃ y k, hi = some y ∧ a.eval y = .int k (.ofNat hh) ∧ hh ≤ 0) → ((lo = none ∧ l = 0) ∨ ∃ y k, lo = some y ∧ a.eval y = .int k (.ofNat l) ∧ l ≤ hh) → K .ns h = some q → ∃ v, K v h = some q ∧ ∃ x, (execOp a.eval o).run P w = .ok (.value x) w ∧ Rel A h.next v x := by
      intro hh l hhh hll hk
      have hh0 : hh = 0 := by rcases hhh with ⟨_, h5⟩ | ⟨_, _, _, _, h5⟩ <;> omega
      have hl0 : l = 0 := by rcases hll with ⟨_, h5⟩ | ⟨_, _, _, _, h5⟩ <;> omega
      have hrun := run_slice2 (w := w) (ty := ty) (ad := none) (len := 0) (c := 0) (hh := hh) (l := l) (lo := lo.map a.eval) (hi := hi.map a.eval) hu hsz
          (by rcases hhh with ⟨rfl, h5⟩ | ⟨y, k, rfl, h5, h6⟩
              · exact .inl ⟨rfl, h5⟩
              · exact .inr ⟨k, by rw [Option.map_some, h5], by omega⟩)
          (by rcases hll with ⟨rfl, h5⟩ | ⟨y, k, rfl, h5, h6⟩
              · exact .inl ⟨rfl, h5⟩
              · exact .inr ⟨k, by rw [Option.map_some, h5], h6⟩)
      rw [hh0, hl0] at hrun
      refine ⟨_, hk, .slice none 0 0, ?_, .ns⟩
      simp only [execOp, ho, h1]
      simp only [Sem.run_bind, Option.map_none, hrun, Result.andThen_ok, Sem.run_pure]
      simp
    rcases bound_some ht hhi hk with ⟨h5, h6⟩ | ⟨y, k, m, h5, h6, h7, h8⟩
    · rcases bound_some ht hlo h6 with ⟨h9, h10⟩ | ⟨y, k, m, h9, h10, h11, h12⟩
      · exact fin 0 0 (.inl ⟨h5, rfl⟩) (.inl ⟨h9, rfl⟩) h10
      · exact fin 0 m (.inl ⟨h5, rfl⟩) (.inr ⟨y, k, h9, h10, h11⟩) h12
    · rcases bound_some ht hlo h8 with ⟨h9, h10⟩ | ⟨y', k', m', h9, h10, h11, h12⟩
      · exact fin m 0 (.inr ⟨y, k, h5, h6, h7⟩) (.inl ⟨h9, rfl⟩) h10
      · exact fin m m' (.inr ⟨y, k, h5, h6, h7⟩) (.inr ⟨y', k', h9, h10, h11⟩) h12
  · cases hk
theorem run_slice3 {ty e : TypeId} {sz : Nat} {ad : Option Addr} {len c hh m : Nat} {k k' : IntKind} (hu : P.underlying ty = some (.slice e)) (hsz : sizeB P e = some sz) (h1 : m ≤ c) (h2 : hh ≤ m) :
    (Instr.sliceAt ty (.slice ad len c) none (some (.int k (.ofNat hh))) (some (.int k' (.ofNat m)))).run P w = .ok (.slice (if m = 0 then ad else ad.map (·.add (0 * sz))) hh m) w := by
  have e1 : (Instr.sliceBounds true len c none (some (.int k (.ofNat hh))) (some (.int k' (.ofNat m)))).run P w = .ok (0, hh, m) w := by
    unfold Instr.sliceBounds
    simp [run_bound h1, run_bound h2]
  simp only [Instr.sliceAt, Instr.slice, Sem.run_bind, run_und hu, Result.andThen_ok, e1, run_size hsz, Sem.run_pure, Nat.sub_zero]
theorem slice3_ok {ty : TypeId} {x hi mx : Operand} {rx rhi rmx : Rd} {f : Fx} {C : CallF} (hx : rdB x = some rx) (hhi : rdB hi = some rhi) (hmx : rdB mx = some rmx) (hf : slice3B P ty rx rhi rmx = some f) : OpQ P C (.slice ty x none (some hi) (some mx)) f := by
  intro o ho A h w N t a K q hm ht hk
  have hrx := rd_rel ht hx
  unfold slice3B at hf
  obtain ⟨e, he, hf⟩ := ob_some hf
  obtain ⟨sz, hsz, hf⟩ := ob_some hf
  injection hf with hf
  subst hf
  have hu := elem_und he
  have ohi : optB (some hi) = some (some rhi) := by simp [optB, ob, hhi]
  have omx : optB (some mx) = some (some rmx) := by simp [optB, ob, hmx]
  simp only [rdK_eq] at hk
  split at hk
  · rename_i b o' len cap kn z hv
    rw [hv] at hrx
    obtain ⟨c, h1, h2, h3, h4⟩ := hrx.of_sl
    obtain ⟨hz, hk⟩ := bb_some hk
    have hcap : cap ≤ c := by
      cases kn with
      | true => rw [h3 rfl]; exact Nat.le_refl _
      | false => exact (h4 rfl).2.1
    rcases bound_some ht omx hk with ⟨h5, _⟩ | ⟨y, k, m, h5, h6, h7, hk⟩
    · cases h5
    rcases bound_some ht ohi hk with ⟨h8, _⟩ | ⟨y', k', m', h8, h9, h10, hk⟩
    · cases h8
    injection h5 with h5
    injection h8 with h8
    subst h5 h8
    simp only [fN_eq] at hk
    have hrun := run_slice3 (w := w) (ty := ty) (ad := some ⟨A.ι b, o', none⟩) (len := len) (c := c) (hh := m') (m := m) (k := k') (k' := k) hu hsz (by omega) h10
    refine ⟨_, hk, .slice (some ⟨A.ι b, o', none⟩) m' m, ?_, (.slk b o' _ _ sz h2)⟩
    simp only [execOp, ho, h1, Option.map_none, Option.map_some, h6, h9]
    simp only [Sem.run_bind, hrun, Result.andThen_ok, Sem.run_pure]
    simp [Addr.add]
  · rename_i hv
    rw [hv] at hrx
    have h1 := hrx.of_ns
    rcases bound_some ht omx hk with ⟨h5, _⟩ | ⟨y, k, m, h5, h6, h7, hk⟩
    · cases h5
    rcases bound_some ht ohi hk with ⟨h8, _⟩ | ⟨y', k', m', h8, h9, h10, hk⟩
    · cases h8
    injection h5 with h5
    injection h8 with h8
    subst h5 h8
    have hm0 : m = 0 := by omega
    have hm1 : m' = 0 := by omega
    have hrun := run_slice3 (w := w) (ty := ty) (ad := none) (len := 0) (c := 0) (hh := m') (m := m) (k := k') (k' := k) hu hsz (by omega) h10
    refine ⟨_, hk, .slice none 0 0, ?_, .ns⟩
    simp only [execOp, ho, h1, Option.map_none, Option.map_some, h6, h9]
    simp only [Sem.run_bind, hrun, Result.andThen_ok, Sem.run_pure]
    simp [hm0, hm1]
  · cases hk
theorem partB_some {n : Nat} {ty : TypeId} {off : Nat} {g : List V → Option V} {l : List V} {xs : Array Value} {v : V} (hg : partB P ty off = some g) (hl : RelL A n l xs.toList) (hv : g l = some v) : ∃ y, (part ty xs off).run P w = .ok y w ∧ Rel A n v y := by
  unfold partB at hg
  obtain ⟨b, hb, hg⟩ := ob_some hg
  cases b with
  | false =>
    injection hg with hg
    subst hg
    obtain ⟨y, h1, h2⟩ := hl.get hv
    have h1 : xs[off]? = some y := by simpa using h1
    exact ⟨y, by simp only [part, Sem.run_bind, run_agg hb, Result.andThen_ok, Bool.false_eq_true, if_false, h1, Sem.run_pure], h2⟩
  | true =>
    obtain ⟨k, hk, hg⟩ := ob_some hg
    injection hg with hg
    subst hg
    injection hv with hv
    subst hv
    refine ⟨.agg (xs.extract off (off + k)), by simp only [part, Sem.run_bind, run_agg hb, Result.andThen_ok, if_true, run_size hk, Sem.run_pure], .agg _ _ ?_⟩
    have := (hl.drop off).take k
    rw [show (xs.extract off (off + k)).toList = (xs.toList.drop off).take k by simp [List.extract_eq_take_drop]]
    exact this
theorem field_ok {ty : TypeId} {x : Operand} {f : Nat} {rx : Rd} {p : Nat × TypeId} {g : List V → Option V} {C : CallF} (hx : rdB x = some rx) (hp : fieldB P ty f = some p) (hg : partB P p.2 p.1 = some g) :
    OpQ P C (.field ty x f) ⟨fun _ t h K => rdK t rx fun x => asAgg x fun l => ob (g l) fun v => K v h⟩ := by
  intro o ho A h w N t a K q hm ht hk
  have hrx := rd_rel ht hx
  simp only [rdK_eq] at hk
  obtain ⟨l, hv, hk⟩ := asAgg_some hk
  obtain ⟨v, hgl, hk⟩ := ob_some hk
  rw [hv] at hrx
  obtain ⟨xs, h1, h2⟩ := hrx.of_agg
  obtain ⟨fs, fd, hu, hfd, h3, h4⟩ := fieldB_some hp
  obtain ⟨y, h5, h6⟩ := partB_some (w := w) hg h2 hgl
  refine ⟨_, hk, y, ?_, h6⟩
  rw [← h3, ← h4] at h5
  simp only [execOp, ho, h1, Instr.field, Sem.run_bind, run_und hu, Result.andThen_ok, hfd, Go.asAgg, Sem.run_pure, h5]
theorem index_ok {ty : TypeId} {x i : Operand} {rx ri : Rd} {f : Fx} {C : CallF} (hx : rdB x = some rx) (hi : rdB i = some ri) (hf : indexB P ty rx ri = some f) : OpQ P C (.index ty x i) f := by
  intro o ho A h w N t a K q hm ht hk
  have hrx := rd_rel ht hx
  have hri := rd_rel ht hi
  unfold indexB at hf
  split at hf
  · rename_i len e hu
    obtain ⟨sz, hsz, hf⟩ := ob_some hf
    obtain ⟨g, hg, hf⟩ := ob_some hf
    have fin : ∀ (m : Nat) (l : List V) (xs : Array Value) (k : IntKind) (v : V), a.eval i = .int k (.ofNat m) → a.eval x = .agg xs → m < len → (∃ y, (part e xs (m * sz)).run P w = .ok y w ∧ Rel A h.next v y) → K v h = some q → ∃ v, K v h = some q ∧ ∃ x, (execOp a.eval o).run P w = .ok (.value x) w ∧ Rel A h.next v x := by
      rintro m l xs k v h1 h2 h3 ⟨y, h4, h5⟩ h6
      have hb : (0 : Int) ≤ Int.ofNat m ∧ Int.ofNat m < (len : Int) := ⟨Int.natCast_nonneg m, by exact Int.ofNat_lt.2 h3⟩
      refine ⟨_, h6, y, ?_, h5⟩
      simp only [execOp, ho, h1, h2, Instr.index, asIntOf, Sem.run_bind, run_und hu, Result.andThen_ok, Sem.run_pure, hb, and_self, if_true, run_size hsz]
      rw [show (Int.ofNat m).toNat = m from rfl, h4]
      rfl
    cases g with
    | true =>
      injection hf with hf
      subst hf
      simp only [rdK_eq] at hk
      obtain ⟨k, m, h1, hk⟩ := asN_some hk
      obtain ⟨l, hv, hk⟩ := asAgg_some hk
      obtain ⟨hlt, hk⟩ := bb_some hk
      rw [hv] at hrx
      rw [h1] at hri
      obtain ⟨xs, h2, h3⟩ := hrx.of_agg
      have hpb : partB P e (m * sz) = some fun l => some (.agg ((l.drop (m * sz)).take sz)) := by simp [partB, ob, hg, hsz, br]
      exact fin m l xs k _ hri.of_i h2 (Nat.le_of_ble_eq_true hlt) (partB_some hpb h3 rfl) hk
    | false =>
      injection hf with hf
      subst hf
      simp only [rdK_eq] at hk
      obtain ⟨k, m, h1, hk⟩ := asN_some hk
      obtain ⟨l, hv, hk⟩ := asAgg_some hk
      obtain ⟨hlt, hk⟩ := bb_some hk
      obtain ⟨v, hlv, hk⟩ := ob_some hk
      rw [hv] at hrx
      rw [h1] at hri
      obtain ⟨xs, h2, h3⟩ := hrx.of_agg
      have hpb : partB P e (m * sz) = some fun l => l[m * sz]? := by simp [partB, ob, hg, br]
      exact fin m l xs k _ hri.of_i h2 (Nat.le_of_ble_eq_true hlt) (partB_some hpb h3 hlv) hk
  · rename_i hu
    injection hf with hf
    subst hf
    simp only [rdK_eq] at hk
    obtain ⟨k, m, h1, hk⟩ := asN_some hk
    split at hk
    · rename_i s hv
      obtain ⟨c, hc, hk⟩ := ob_some hk
      rw [mkI_eq] at hk
      rw [hv] at hrx
      rw [h1] at hri
      refine ⟨_, hk, _, ?_, (.i _ _)⟩
      have hc' : s[m]? = some c := by
        have hlt : m < s.data.size := (Array.getElem?_eq_some_iff.1 hc).1
        have hv2 := (Array.getElem?_eq_some_iff.1 hc).2
        rw [getElem?_pos s m hlt]
        exact congrArg some hv2
      have h0 : (0 : Int) ≤ Int.ofNat m := Int.natCast_nonneg m
      simp only [execOp, ho, hri.of_i, hrx.of_s, Instr.index, asIntOf, Sem.run_bind, run_und hu, Result.andThen_ok, Sem.run_pure, h0, if_true]
      rw [show (Int.ofNat m).toNat = m from rfl, hc']
      rfl
    · cases hk
  · cases hf
theorem convert_ok {s d : TypeId} {x : Operand} {k' k : IntKind} {rx : Rd} {C : CallF} (hx : rdB x = some rx) (hs : P.underlying s = some (.int k')) (hd : P.underlying d = some (.int k)) :
    OpQ P C (.convert s d x) ⟨fun _ t h K => rdK t rx fun x => asI x fun _ n => mkI k (k.wrap n) fun v => K v h⟩ := by
  intro o ho A h w N t a K q hm ht hk
  have hrx := rd_rel ht hx
  simp only [rdK_eq] at hk
  obtain ⟨j, n, hv, hk⟩ := asI_some hk
  rw [mkI_eq] at hk
  rw [hv] at hrx
  refine ⟨_, hk, _, ?_, (.i _ _)⟩
  simp [execOp, ho, hrx.of_i, convert, run_und hs, run_und hd, Conv.intToInt]
theorem makeInterface_ok {ty e : TypeId} {x : Operand} {rx : Rd} {C : CallF} (hx : rdB x = some rx) (hu : P.underlying ty = some (.pointer e)) : OpQ P C (.makeInterface ty x) ⟨fun _ t h K => rdK t rx fun v => K (.iface ty v) h⟩ := by
  intro o ho A h w N t a K q hm ht hk
  have hrx := rd_rel ht hx
  simp only [rdK_eq] at hk
  refine ⟨_, hk, _, ?_, (.iface _ _ _ hrx)⟩
  simp [execOp, ho, Instr.makeInterface, run_und hu]
theorem rdL_n (t : Tr V) : rdL t [] = some [] := rfl
theorem rdL_c (t : Tr V) (r : Rd) (l : List Rd) : rdL t (r :: l) = rdK t r fun v => ob (rdL t l) fun l => some (v :: l) := rfl
theorem rdL_some {n N : Nat} {t : Tr V} {a : Act} (ht : TRel A n N t a.tmps) : ∀ (xs : List Operand) (rs : List Rd) (vs : List V), mapO rdB xs = some rs → rdL t rs = some vs → RelL A n vs (xs.map a.eval)
  | [], rs, vs, h1, h2 => by
    rw [mapO_nil h1, rdL_n] at h2
    injection h2 with h2
    subst h2
    exact .nil
  | x :: xs, rs, vs, h1, h2 => by
    obtain ⟨r, q, h3, h4, rfl⟩ := mapO_cons h1
    rw [rdL_c, rdK_eq] at h2
    obtain ⟨l, hl, h2⟩ := ob_some h2
    injection h2 with h2
    subst h2
    exact .cons _ _ _ _ (rd_rel ht h3) (rdL_some ht xs q l h4 hl)
theorem makeFunc_ok {f : Fn} {x y : Array Operand} {rx ry : List Rd} {C : CallF} (hx : mapO rdB x.toList = some rx) (hy : mapO rdB y.toList = some ry) : OpQ P C (.makeFunc f x y) ⟨fun _ t h K => ob (rdL t rx) fun a => ob (rdL t ry) fun b => K (.fn f a b) h⟩ := by
  intro o ho A h w N t a K q hm ht hk
  obtain ⟨l, hl, hk⟩ := ob_some hk
  obtain ⟨r, hr, hk⟩ := ob_some hk
  refine ⟨_, hk, .func f (x.map a.eval) (y.map a.eval), ?_, (.fn _ _ _ _ _ ?_ ?_)⟩
  · simp [execOp, ho, Instr.makeFunc]
  · rw [Array.toList_map]; exact rdL_some ht _ _ _ hx hl
  · rw [Array.toList_map]; exact rdL_some ht _ _ _ hy hr
theorem typeAssert_ok {ty xt e : TypeId} {x : Operand} {ok : Bool} {rx : Rd} {z : V} {C : CallF} (hx : rdB x = some rx) (hz : zeroB P ty = some z) (hu : P.underlying ty = some (.pointer e)) :
    OpQ P C (.typeAssert x xt ty ok) ⟨fun _ t h K => rdK t rx fun x => match x with
      | .iface tt v => br (Nat.beq tt ty) (br ok (K (.tup [v, .b true]) h) (K v h)) (bb ok (K (.tup [z, .b false]) h))
      | _ => none⟩ := by
  intro o ho A h w N t a K q hm ht hk
  have hrx := rd_rel ht hx
  simp only [rdK_eq] at hk
  split at hk
  · rename_i tt v hv
    rw [hv] at hrx
    obtain ⟨y, h1, h2⟩ := hrx.of_iface
    rw [br_beq] at hk
    by_cases htt : tt = ty
    · rw [if_pos htt] at hk
      cases ok with
      | true =>
        refine ⟨_, hk, .tuple #[y, .bool true], ?_, (.tup _ _ (.cons _ _ _ _ h2 (.cons _ _ _ _ (.b _) .nil)))⟩
        simp [execOp, ho, h1, Instr.typeAssert, run_und hu, htt]
      | false =>
        refine ⟨_, hk, y, ?_, h2⟩
        simp [execOp, ho, h1, Instr.typeAssert, run_und hu, htt]
    · rw [if_neg htt] at hk
      obtain ⟨hok, hk⟩ := bb_some hk
      subst hok
      obtain ⟨zx, h3, h4⟩ := run_zero (w := w) hz
      refine ⟨_, hk, .tuple #[zx, .bool false], ?_, (.tup _ _ (.cons _ _ _ _ (ofVal_rel h4) (.cons _ _ _ _ (.b _) .nil)))⟩
      simp [execOp, ho, h1, Instr.typeAssert, run_und hu, htt, h3]
  · cases hk
end
end Go.Proofs.YtmjilfamjlnigaaGreat.Vm
