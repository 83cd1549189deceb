/- The small machine's operations do what the model's do: reading, reckoning. -/
import Derived.Test.YtaadfppfjjkgbaaGreatDoorVmC
import Derived.Laws.Cells
import Derived.CallsIn
import Derived.Laws.StructEq
namespace Go.Proofs.YtaadfppfjjkgbaaGreatDoor.Vm
open Go Go.RowKit

/-- No fence but that of a round (or none). -/
def Wide (r : Option Nat) : Fence := { Fence.wide with round := r }
/-- What an operation does. -/
def Does (P : Program) (o : Oper) (a : Act) (w : World) (R : Value → World → Prop) : Prop := (∃ x w', (execOp a.eval o).run P w = .ok (.value x) w' ∧ R x w') ∨ (∃ w', (execOp a.eval o).run P w = .ok .skip w' ∧ R undef w') ∨
  (∃ f args w', (execOp a.eval o).run P w = .ok (.enter f args) w' ∧ Calls P f args w' fun e w'' => ∃ x, e = .returned x ∧ R x w'') ∨
  ∃ l f tmps assign body w', (execOp a.eval o).run P w = .ok (.round l f tmps assign body) w' ∧ ∀ (r : Option Nat) (n : Nat), RoundIn (Wide r) n P l f tmps assign body w' fun e w'' => ∃ x, e = .returned x ∧ R x w''
theorem Does.value {P : Program} {o : Oper} {a : Act} {w w' : World} {x : Value} {R : Value → World → Prop} (h : (execOp a.eval o).run P w = .ok (.value x) w') (hR : R x w') : Does P o a w R := .inl ⟨x, w', h, hR⟩
theorem Does.skip {P : Program} {o : Oper} {a : Act} {w w' : World} {R : Value → World → Prop} (h : (execOp a.eval o).run P w = .ok .skip w') (hR : R undef w') : Does P o a w R := .inr (.inl ⟨w', h, hR⟩)
theorem Does.enter {P : Program} {o : Oper} {a : Act} {w w' : World} {f : FuncId} {args : Array Value} {R : Value → World → Prop} (h : (execOp a.eval o).run P w = .ok (.enter f args) w')
    (hC : Calls P f args w' fun e w'' => ∃ x, e = .returned x ∧ R x w'') : Does P o a w R := .inr (.inr (.inl ⟨f, args, w', h, hC⟩))
theorem Does.round {P : Program} {o : Oper} {a : Act} {w w' : World} {l : Nat} {f : FuncId} {tmps : Array Value} {assign body : Code} {R : Value → World → Prop} (h : (execOp a.eval o).run P w = .ok (.round l f tmps assign body) w')
    (hC : ∀ (r : Option Nat) (n : Nat), RoundIn (Wide r) n P l f tmps assign body w' fun e w'' => ∃ x, e = .returned x ∧ R x w'') : Does P o a w R := .inr (.inr (.inr ⟨l, f, tmps, assign, body, w', h, hC⟩))
theorem Does.mono {P : Program} {o : Oper} {a : Act} {w : World} {R R' : Value → World → Prop} (h : Does P o a w R) (hR : ∀ x w', R x w' → R' x w') : Does P o a w R' := by
  rcases h with ⟨x, w', h1, h2⟩ | ⟨w', h1, h2⟩ | ⟨f, args, w', h1, h2⟩ | ⟨l, f, tmps, assign, body, w', h1, h2⟩
  · exact .value h1 (hR _ _ h2)
  · exact .skip h1 (hR _ _ h2)
  · exact .enter h1 (h2.mono fun e w'' ⟨x, he, hr⟩ => ⟨x, he, hR _ _ hr⟩)
  · exact .round h1 fun r n => (h2 r n).mono fun e w'' ⟨x, he, hr⟩ => ⟨x, he, hR _ _ hr⟩
def Post (A : Sub) (h : H) (w : World) (v : V) (h' : H) (x : Value) (w' : World) : Prop := ∃ A', Ev A h w A' h' w' ∧ Rel A' h'.next v x
/-- An operation's ready form does what the operation does. -/
def OpOk (P : Program) (C : CallF) (op : Op) (f : Fx) : Prop := ∀ (o : Oper), o.op = op → ∀ (A : Sub) (h : H) (w : World) (N : Nat) (t : Tr V) (a : Act) (K : V → H → Option (List Out)) (r : List Out), Mt A h w → TRel A h.next N t a.tmps → f.f C t h K = some r →
  ∃ v h', K v h' = some r ∧ Does P o a w (Post A h w v h')
/-- An operation that leaves memory alone. -/
def OpQ (P : Program) (C : CallF) (op : Op) (f : Fx) : Prop := ∀ (o : Oper), o.op = op → ∀ (A : Sub) (h : H) (w : World) (N : Nat) (t : Tr V) (a : Act) (K : V → H → Option (List Out)) (r : List Out), Mt A h w → TRel A h.next N t a.tmps → f.f C t h K = some r →
  ∃ v, K v h = some r ∧ ∃ x, (execOp a.eval o).run P w = .ok (.value x) w ∧ Rel A h.next v x
theorem Post.same {A : Sub} {h : H} {w : World} {v : V} {x : Value} (hm : Mt A h w) (hr : Rel A h.next v x) : Post A h w v h x w := ⟨A, .refl hm, hr⟩

theorem OpQ.ok {P : Program} {C : CallF} {op : Op} {f : Fx} (hq : OpQ P C op f) : OpOk P C op f := by
  intro o ho A h w N t a K r hm ht hk
  obtain ⟨v, h1, x, h2, h3⟩ := hq o ho A h w N t a K r hm ht hk
  exact ⟨v, h, h1, .value h2 (.same hm h3)⟩
section
variable {α β : Type}
theorem mapO_n (f : α → Option β) : mapO f [] = some [] := rfl
theorem mapO_c (f : α → Option β) (x : α) (l : List α) : mapO f (x :: l) = ob (f x) fun y => ob (mapO f l) fun r => some (y :: r) := rfl
theorem mapO_cons {f : α → Option β} {x : α} {l : List α} {r : List β} (h : mapO f (x :: l) = some r) : ∃ y q, f x = some y ∧ mapO f l = some q ∧ r = y :: q := by
  rw [mapO_c] at h
  obtain ⟨y, hy, h⟩ := ob_some h
  obtain ⟨q, hq, h⟩ := ob_some h
  injection h with h
  exact ⟨y, q, hy, hq, h.symm⟩
theorem mapO_nil {f : α → Option β} {r : List β} (h : mapO f [] = some r) : r = [] := by injection h with h; exact h.symm
end
theorem ofV1_rel {A : Sub} {n : Nat} {x : Value} {v : V} (h : ofV1 x = some v) : Rel A n v x := by
  unfold ofV1 at h
  split at h <;> first
    | (injection h with h; subst h; constructor; done)
    | cases h
theorem ofV1L_rel {A : Sub} {n : Nat} : ∀ {xs : List Value} {l : List V}, mapO ofV1 xs = some l → RelL A n l xs
  | [], _, h => by rw [mapO_nil h]; exact .nil
  | x :: xs, _, h => by
    obtain ⟨y, q, h1, h2, rfl⟩ := mapO_cons h
    exact .cons _ _ _ _ (ofV1_rel h1) (ofV1L_rel h2)
theorem ofVal_rel {A : Sub} {n : Nat} {x : Value} {v : V} (h : ofVal x = some v) : Rel A n v x := by
  unfold ofVal at h
  split at h
  · obtain ⟨l, hl, h⟩ := ob_some h
    injection h with h
    subst h
    exact .agg _ _ (ofV1L_rel hl)
  · exact ofV1_rel h
theorem rd_rel {A : Sub} {n N : Nat} {t : Tr V} {a : Act} (ht : TRel A n N t a.tmps) {x : Operand} {r : Rd} (h : rdB x = some r) : Rel A n (r.val t) (a.eval x) := by
  cases x with
  | tmp k =>
    injection h with h
    subst h
    exact ht.2 k
  | const v =>
    obtain ⟨u9, hu, h⟩ := ob_some h
    injection h with h
    subst h
    exact ofVal_rel hu
  | global g => cases h
  | func f =>
    injection h with h
    subst h
    exact .fn _ _ _ _ _ .nil .nil
section
variable {β : Type}
theorem asB_some {v : V} {K : Bool → Option β} {r : β} (h : asB v K = some r) : ∃ x, v = .b x ∧ K x = some r := by
  unfold asB at h
  split at h
  · exact ⟨_, rfl, h⟩
  · cases h
theorem asI_some {v : V} {K : IntKind → Int → Option β} {r : β} (h : asI v K = some r) : ∃ k n, v = .i k n ∧ K k n = some r := by
  unfold asI at h
  split at h
  · exact ⟨_, _, rfl, h⟩
  · cases h
theorem asN_some {v : V} {K : Nat → Option β} {r : β} (h : asN v K = some r) : ∃ k n, v = .i k (.ofNat n) ∧ K n = some r := by
  unfold asN at h
  split at h
  · exact ⟨_, _, rfl, h⟩
  · cases h
theorem asP_some {v : V} {K : Nat → Nat → Option β} {r : β} (h : asP v K = some r) : ∃ b o, v = .p b o ∧ K b o = some r := by
  unfold asP at h
  split at h
  · exact ⟨_, _, rfl, h⟩
  · cases h
theorem asAgg_some {v : V} {K : List V → Option β} {r : β} (h : asAgg v K = some r) : ∃ l, v = .agg l ∧ K l = some r := by
  unfold asAgg at h
  split at h
  · exact ⟨_, rfl, h⟩
  · cases h
theorem asTup_some {v : V} {K : List V → Option β} {r : β} (h : asTup v K = some r) : ∃ l, v = .tup l ∧ K l = some r := by
  unfold asTup at h
  split at h
  · exact ⟨_, rfl, h⟩
  · cases h
theorem rowK_some {h : H} {b : Nat} {K : TypeId → Nat → Bool → Tr V → Option β} {r : β} (hh : rowK h b K = some r) : ∃ e hi p c, h.t.get b = some (.cells e hi p c) ∧ K e hi p c = some r := by
  unfold rowK at hh
  obtain ⟨x, hx, hh⟩ := ob_some hh
  split at hh
  · exact ⟨_, _, _, _, hx, hh⟩
  · cases hh
theorem rowR_some {h : H} {b : Nat} {K : TypeId → Nat → Tr V → Option β} {r : β} (hh : rowR h b K = some r) : ∃ e hi c, ((∃ p, h.t.get b = some (.cells e hi p c)) ∨ ∃ pin, h.t.get b = some (.ro pin e hi c)) ∧ K e hi c = some r := by
  unfold rowR at hh
  obtain ⟨x, hx, hh⟩ := ob_some hh
  split at hh
  · exact ⟨_, _, _, .inl ⟨_, hx⟩, hh⟩
  · exact ⟨_, _, _, .inr ⟨_, hx⟩, hh⟩
  · cases hh
end
section
variable {A : Sub} {n : Nat} {x : Value}
theorem Rel.of_b {y : Bool} (h : Rel A n (.b y) x) : x = .bool y := by cases h; rfl
theorem Rel.of_i {k : IntKind} {m : Int} (h : Rel A n (.i k m) x) : x = .int k m := by cases h; rfl
theorem Rel.of_s {y : ByteArray} (h : Rel A n (.s y) x) : x = .string y := by cases h; rfl
theorem Rel.of_p {b o : Nat} (h : Rel A n (.p b o) x) : x = .pointer (some ⟨A.ι b, o, none⟩) ∧ b < n := by cases h; exact ⟨rfl, by assumption⟩
theorem Rel.of_np (h : Rel A n .np x) : x = .pointer none := by cases h; rfl
theorem Rel.of_se (h : Rel A n .se x) : ∃ ad c, x = .slice (some ad) 0 c := by cases h; exact ⟨_, _, rfl⟩
theorem Rel.of_ns (h : Rel A n .ns x) : x = .slice none 0 0 := by cases h; rfl
theorem Rel.of_sl {b o len cap sz : Nat} {k : Bool} (h : Rel A n (.sl b o len cap k sz) x) : ∃ c, x = .slice (some ⟨A.ι b, o, none⟩) len c ∧ b < n ∧ (k = true → c = cap) ∧ (k = false → len ≤ cap ∧ cap ≤ c ∧ o + c * sz = A.κ b) := by
  cases h with
  | slk _ _ _ _ _ h1 => exact ⟨cap, rfl, h1, fun _ => rfl, (fun h => by cases h)⟩
  | slu _ _ _ _ _ c h1 h2 h3 h4 => exact ⟨c, rfl, h1, (fun h => by cases h), fun _ => ⟨h2, h3, h4⟩⟩
theorem Rel.of_agg {l : List V} (h : Rel A n (.agg l) x) : ∃ xs : Array Value, x = .agg xs ∧ RelL A n l xs.toList := by
  cases h with
  | agg _ xs h => exact ⟨xs, rfl, h⟩
theorem Rel.of_tup {l : List V} (h : Rel A n (.tup l) x) : ∃ xs : Array Value, x = .tuple xs ∧ RelL A n l xs.toList := by
  cases h with
  | tup _ xs h => exact ⟨xs, rfl, h⟩
theorem Rel.of_m {r : Nat} (h : Rel A n (.m r) x) : x = .map (some (A.ι r)) ∧ r < n := by cases h; exact ⟨rfl, by assumption⟩
theorem Rel.of_y {b : Nat} (h : Rel A n (.y b) x) : x = .func (.yield (A.ι b)) #[] #[] ∧ b < n := by cases h; exact ⟨rfl, by assumption⟩
theorem Rel.of_nm (h : Rel A n .nm x) : x = .map none := by cases h; rfl
theorem Rel.of_iface {t : TypeId} {v : V} (h : Rel A n (.iface t v) x) : ∃ y, x = .iface t y ∧ Rel A n v y := by
  cases h with
  | iface _ _ y h => exact ⟨y, rfl, h⟩
theorem Rel.of_fn {f : Fn} {l r : List V} (h : Rel A n (.fn f l r) x) : ∃ xs ys : Array Value, x = .func f xs ys ∧ RelL A n l xs.toList ∧ RelL A n r ys.toList := by
  cases h with
  | fn _ _ _ xs ys h1 h2 => exact ⟨xs, ys, rfl, h1, h2⟩
end
/-! ### Cells -/
section
variable {A : Sub} {h : H} {w : World} {P : Program}
theorem Mt.row (hm : Mt A h w) {b : Nat} {e : TypeId} {hi : Nat} {p : Bool} {c : Tr V} (hb : h.t.get b = some (.cells e hi p c)) : ∃ cs : Array Value, w.heap[A.ι b]? = some (.cells cs e (0, 0)) ∧ (p = true → cs.size = A.κ b) ∧
    (∀ o, o < hi → ∃ v y, c.get o = some v ∧ cs[o]? = some y ∧ Rel A h.next v y ∧ v.one = true) ∧ hi ≤ cs.size := by
  obtain ⟨x, hx, cs, rfl, h1, h2⟩ := hm.obj b _ hb
  refine ⟨cs, hx, h1, h2, ?_⟩
  rcases Nat.eq_zero_or_pos hi with h0 | h0
  · omega
  · obtain ⟨v, y, _, h3, _⟩ := h2 (hi - 1) (by omega)
    have := (Array.getElem?_eq_some_iff.1 h3).1
    omega
theorem Mt.rowR (hm : Mt A h w) {b : Nat} {e : TypeId} {hi : Nat} {c : Tr V} (hb : (∃ p, h.t.get b = some (.cells e hi p c)) ∨ ∃ pin, h.t.get b = some (.ro pin e hi c)) : ∃ (cs : Array Value) (e' : TypeId) (fr : Nat × Nat), w.heap[A.ι b]? = some (.cells cs e' fr) ∧
    (∀ o, o < hi → ∃ v y, c.get o = some v ∧ cs[o]? = some y ∧ Rel A h.next v y ∧ v.one = true) := by
  rcases hb with ⟨p, hb⟩ | ⟨pin, hb⟩
  · obtain ⟨x, hx, cs, rfl, _, h2⟩ := hm.obj b _ hb
    exact ⟨cs, _, _, hx, h2⟩
  · obtain ⟨x, hx, _, cs, e', fr, rfl, h2⟩ := hm.obj b _ hb
    exact ⟨cs, e', fr, hx, h2⟩
theorem cell_of {n : Nat} {cs : Array Value} {e : TypeId} {fr : Nat × Nat} (hb : w.heap[n]? = some (.cells cs e fr)) (o : Nat) : w.cell? ⟨n, o, none⟩ = cs[o]? := by simp [World.cell?, hb]
theorem frozen_of {n : Nat} {cs : Array Value} {e : TypeId} (hb : w.heap[n]? = some (.cells cs e (0, 0))) (o : Nat) : w.frozen? ⟨n, o, none⟩ = false := by simp [World.frozen?, hb]
theorem add_lit (b o j : Nat) : (⟨b, o, none⟩ : Addr).add j = ⟨b, o + j, none⟩ := by unfold Addr.add; split <;> simp_all
theorem run_und {t : TypeId} {d : TypeDesc} (hu : P.underlying t = some d) : (underlying t).run P w = .ok d w := by simp [underlying, hu]
theorem run_size {t : TypeId} {n : Nat} (hs : sizeB P t = some n) : (sizeOf t).run P w = .ok n w := by
  unfold sizeB at hs
  obtain ⟨i, hi, hs⟩ := ob_some hs
  rw [fN_eq] at hs
  injection hs with hs
  simp [sizeOf, typeInfo, hi, hs]
theorem run_zero {t : TypeId} {v : V} (hz : zeroB P t = some v) : ∃ x, (zeroValue t).run P w = .ok x w ∧ ofVal x = some v := by
  unfold zeroB at hz
  obtain ⟨i, hi, hz⟩ := ob_some hz
  obtain ⟨x, hx, hz⟩ := ob_some hz
  exact ⟨x, by simp [zeroValue, typeInfo, hi, hx], hz⟩
theorem run_agg {t : TypeId} {g : Bool} (hg : aggB P t = some g) : (isAgg t).run P w = .ok g w := by
  unfold aggB at hg
  split at hg <;> first | cases hg | skip
  all_goals
    rename_i hu
    simp [isAgg, underlying, hu]
  all_goals
    split <;> first | rfl | (exfalso; simp_all)
theorem loadN_c (c : Tr V) (n o : Nat) : loadN c (n + 1) o = ob (c.get o) fun v => ob (loadN c n (o + 1)) fun l => some (v :: l) := rfl
/-- A run of cells. -/
theorem cells_rel {n : Nat} {c : Tr V} {cs : Array Value} {hi : Nat} (hc : ∀ o, o < hi → ∃ v y, c.get o = some v ∧ cs[o]? = some y ∧ Rel A n v y ∧ v.one = true) : ∀ (k o : Nat) (l : List V), o + k ≤ hi → loadN c k o = some l →
    ∃ ys : List Value, RelL A n l ys ∧ ys.length = k ∧ allOne l = true ∧ ∀ (j : Nat) (y : Value), ys[j]? = some y → cs[o + j]? = some y
  | 0, _, l, _, h => by
    injection h with h
    subst h
    exact ⟨[], .nil, rfl, rfl, fun j y hy => by simp at hy⟩
  | k + 1, o, l, hk, h => by
    rw [loadN_c] at h
    obtain ⟨v, hv, h⟩ := ob_some h
    obtain ⟨q, hq, h⟩ := ob_some h
    injection h with h
    subst h
    obtain ⟨u9, y, h1, h2, h3, h4⟩ := hc o (by omega)
    rw [hv] at h1
    injection h1 with h1
    subst h1
    obtain ⟨ys, h5, h6, h7, h8⟩ := cells_rel hc k (o + 1) q (by omega) hq
    refine ⟨y :: ys, .cons _ _ _ _ h3 h5, by simp [h6], by simp [allOne, h4, h7], fun j z hz => ?_⟩
    cases j with
    | zero => simpa using (by simpa using hz : y = z) ▸ h2
    | succ j => rw [show o + (j + 1) = o + 1 + j by omega]; exact h8 j z (by simpa using hz)
theorem loadRow_some {β : Type} {b o n : Nat} {K : List V → Option β} {r : β} (hm : Mt A h w) (hh : loadRow h b o n K = some r) : ∃ l ys, RelL A h.next l ys ∧ ys.length = n ∧ allOne l = true ∧ (∀ (j : Nat) (y : Value), ys[j]? = some y → w.cell? ((⟨A.ι b, o, none⟩ : Addr).add j) = some y) ∧ K l = some r := by
  unfold loadRow at hh
  obtain ⟨e, hi, c, hb, hh⟩ := rowR_some hh
  obtain ⟨hl, hh⟩ := bb_some hh
  obtain ⟨l, hl2, hh⟩ := ob_some hh
  obtain ⟨cs, e', fr, h1, h2⟩ := hm.rowR hb
  have hle : o + n ≤ hi := Nat.le_of_ble_eq_true hl
  obtain ⟨ys, h3, h4, h5, h6⟩ := cells_rel h2 n o l hle hl2
  exact ⟨l, ys, h3, h4, h5, fun j y hy => by rw [add_lit, cell_of h1]; exact h6 j y hy, hh⟩
theorem move_ok {x : Operand} {r : Rd} {C : CallF} (h : rdB x = some r) : OpQ P C (.move x) ⟨fun _ t h K => rdK t r fun v => K v h⟩ := by
  intro o ho A h w N t a K q hm ht hf
  simp only [rdK_eq] at hf
  exact ⟨_, hf, _, (by simp only [execOp, ho]; rfl), rd_rel ht ‹_›⟩
theorem assign_ok {x : Operand} {r : Rd} {C : CallF} (h : rdB x = some r) : OpQ P C (.assign x) ⟨fun _ t h K => rdK t r fun v => K v h⟩ := by
  intro o ho A h w N t a K q hm ht hf
  simp only [rdK_eq] at hf
  exact ⟨_, hf, _, (by simp only [execOp, ho]; rfl), rd_rel ht ‹_›⟩
theorem load_ok {ty : TypeId} {x : Operand} {r : Rd} {f : Fx} {C : CallF} (hx : rdB x = some r) (hf : loadB P ty r = some f) : OpQ P C (.load ty x) f := by
  intro o ho A h w N t a K q hm ht hk
  unfold loadB at hf
  obtain ⟨g, hg, hf⟩ := ob_some hf
  have hr := rd_rel ht hx
  cases g with
  | false =>
    injection hf with hf
    subst hf
    simp only [rdK_eq] at hk
    obtain ⟨b, o', hv, hk⟩ := asP_some hk
    obtain ⟨e, hi, c, hb, hk⟩ := rowR_some hk
    obtain ⟨hl, hk⟩ := bb_some hk
    obtain ⟨v, hv2, hk⟩ := ob_some hk
    rw [hv] at hr
    obtain ⟨h1, _⟩ := hr.of_p
    obtain ⟨cs, e', fr, h2, h3⟩ := hm.rowR hb
    obtain ⟨u9, y, h4, h5, h6, _⟩ := h3 o' (Nat.le_of_ble_eq_true hl)
    rw [hv2] at h4
    injection h4 with h4
    subst h4
    refine ⟨_, hk, y, ?_, h6⟩
    simp only [execOp, ho, h1, Instr.loadAt, Instr.sureAddr, loadVar, Sem.run_bind, Sem.run_pure, Result.andThen_ok, run_agg hg, Bool.false_eq_true, if_false, run_load, cell_of h2, h5]
  | true =>
    obtain ⟨n, hn, hf⟩ := ob_some hf
    injection hf with hf
    subst hf
    simp only [rdK_eq] at hk
    obtain ⟨b, o', hv, hk⟩ := asP_some hk
    rw [hv] at hr
    obtain ⟨h1, _⟩ := hr.of_p
    obtain ⟨l, ys, h2, h3, _, h4, hk⟩ := loadRow_some hm hk
    refine ⟨_, hk, .agg ys.toArray, ?_, (.agg _ _ h2)⟩
    have hl := run_loadCells_list (P := P) (w := w) ⟨A.ι b, o', none⟩ ys h4
    rw [h3] at hl
    simp only [execOp, ho, h1, Instr.loadAt, Instr.sureAddr, loadVar, Sem.run_bind, Sem.run_pure, Result.andThen_ok, run_agg hg, if_true, run_size hn, hl]
end
end Go.Proofs.YtaadfppfjjkgbaaGreatDoor.Vm
