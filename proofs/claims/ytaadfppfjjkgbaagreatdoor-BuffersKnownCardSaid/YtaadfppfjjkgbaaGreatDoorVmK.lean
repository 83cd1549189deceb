/- The small machine's operations do what the model's do: calls; all operations. -/
import Derived.Test.YtaadfppfjjkgbaaGreatDoorVmJ
import Derived.Conc.MuLone
namespace Go.Proofs.YtaadfppfjjkgbaaGreatDoor.Vm
open Go Go.RowKit

/-- Calls of the small machine are the model's. -/
structure CallOk (P : Program) (C : CallF) : Prop where
  f : ∀ (f : FuncId) (args : List V) (h : H) (r : V × H), C (.f f) args h = some r → (∀ (xs : Array Value) (w : World), (callFunc f xs).run P w = .ok (.enter f xs) w) ∧
    ∀ (A : Sub) (w : World) (xs : List Value), Mt A h w → RelL A h.next args xs → Calls P f xs.toArray w fun e w' => ∃ x, e = .returned x ∧ Post A h w r.1 r.2 x w'
  y : ∀ (b : Nat) (args : List V) (h : H) (r : V × H), C (.y b) args h = some r → ∀ (A : Sub) (w : World) (xs : List Value), Mt A h w → RelL A h.next args xs →
    ∃ fn tmps assign body, (Instr.yield (A.ι b) xs.toArray).run P w = .ok (.round (A.ι b) fn tmps assign body) w ∧ ∀ (k : Option Nat) (n : Nat), RoundIn (Wide k) n P (A.ι b) fn tmps assign body w fun e w' => ∃ x, e = .returned x ∧ Post A h w r.1 r.2 x w'
section
variable {P : Program} {C : CallF} {β : Type}
theorem mapO2 {α γ : Type} {f : α → Option γ} {l : List α} {x y : γ} (h : mapO f l = some [x, y]) : ∃ a b, l = [a, b] ∧ f a = some x ∧ f b = some y := by
  cases l with
  | nil => cases mapO_nil h
  | cons a l =>
    obtain ⟨u9, q, h1, h2, h3⟩ := mapO_cons h
    injection h3 with h3 h4
    subst h3 h4
    cases l with
    | nil => cases mapO_nil h2
    | cons b l =>
      obtain ⟨u9, q, h3, h4, h5⟩ := mapO_cons h2
      injection h5 with h5 h6
      subst h5 h6
      cases l with
      | nil => exact ⟨a, b, rfl, h1, h3⟩
      | cons c l =>
        obtain ⟨_, _, _, _, h⟩ := mapO_cons h4
        cases h
theorem mapO1 {α γ : Type} {f : α → Option γ} {l : List α} {x : γ} (h : mapO f l = some [x]) : ∃ a, l = [a] ∧ f a = some x := by
  cases l with
  | nil => cases mapO_nil h
  | cons a l =>
    obtain ⟨u9, q, h1, h2, h3⟩ := mapO_cons h
    injection h3 with h3 h4
    subst h3 h4
    cases l with
    | nil => exact ⟨a, rfl, h1⟩
    | cons b l =>
      obtain ⟨_, _, _, _, h⟩ := mapO_cons h2
      cases h
theorem arr_of {α : Type} {a : Array α} {l : List α} (h : a.toList = l) : a = l.toArray := by subst h; simp
theorem callB_value {c : Call} {f : Operand} {rf : Rd} {args : List Rd} (hC : CallOk P C) (hcal : c.callee = .value f) (ha : mapO rdB c.args.toList = some args) (hf : rdB f = some rf) : OpOk P C (.call c) ⟨fun C t h K => ob (rdL t args) fun args => rdK t rf fun f => match f with
      | .fn (.func f) first cap => ob (C (.f f) (first ++ (args ++ cap)) h) fun r => K r.1 r.2
      | .y b => ob (C (.y b) args h) fun r => K r.1 r.2
      | _ => none⟩ := by
  intro o ho A h w N t a K q hm ht hk
  obtain ⟨vs, hvs, hk⟩ := ob_some hk
  simp only [rdK_eq] at hk
  have hrf := rd_rel ht hf
  have hargs := rdL_some ht _ _ _ ha hvs
  split at hk
  · rename_i g first cap hv
    obtain ⟨r, hr, hk⟩ := ob_some hk
    rw [hv] at hrf
    obtain ⟨xs, ys, h1, h2, h3⟩ := hrf.of_fn
    obtain ⟨h4, h5⟩ := hC.f _ _ _ _ hr
    have h6 := h5 A w _ hm (h2.append (hargs.append h3))
    refine ⟨_, _, hk, .enter (w' := w) (f := g) (args := (xs.toList ++ (c.args.toList.map a.eval ++ ys.toList)).toArray) ?_ h6⟩
    have e : (xs ++ c.args.map a.eval) ++ ys = (xs.toList ++ (c.args.toList.map a.eval ++ ys.toList)).toArray := by
      apply arr_of
      simp
    simp only [execOp, ho, resolve, hcal, h1, Deferred.ofValue, Sem.run_bind, Sem.run_pure, Result.andThen_ok, invoke, e, h4]
  · rename_i b hv
    obtain ⟨r, hr, hk⟩ := ob_some hk
    rw [hv] at hrf
    obtain ⟨h1, _⟩ := hrf.of_y
    obtain ⟨fn, tmps, assign, body, h2, h3⟩ := hC.y _ _ _ _ hr A w _ hm hargs
    refine ⟨_, _, hk, .round (w' := w) ?_ h3⟩
    have e : #[] ++ c.args.map a.eval = (c.args.toList.map a.eval).toArray := by
      apply arr_of
      simp
    simp only [execOp, ho, resolve, hcal, h1, Deferred.ofValue, Sem.run_bind, Sem.run_pure, Result.andThen_ok, invoke, e, h2]
  · cases hk
theorem method_run {t : TypeId} {name : String} {f : FuncId} {v : Value} {w : World} (h : methodV P t name = some f) : (method (P.types.size + Made.depth) t v name).run P w = .ok (f, v) w := by
  unfold methodV at h
  obtain ⟨i, hi, h⟩ := ob_some h
  obtain ⟨m, hm, h⟩ := ob_some h
  obtain ⟨hp, h⟩ := bb_some h
  split at h
  · rename_i g e hf hu
    injection h with h
    subst h
    have hp : m.path = #[] := by simpa using hp
    rw [show P.types.size + Made.depth = (P.types.size + 99) + 1 from rfl]
    generalize P.types.size + 99 = n
    simp only [method, Sem.run_bind, typeInfo, run_program, Result.andThen_ok, hi, Sem.run_pure, hm, hp, Array.toList_empty, follow, hf, receiverAt, run_und hu, Place.get]
  · cases h
theorem callB_invoke {c : Call} {r : Operand} {rr : Rd} {name : String} {args : List Rd} (hC : CallOk P C) (hcal : c.callee = .invoke r name) (ha : mapO rdB c.args.toList = some args) (hr : rdB r = some rr) : OpOk P C (.call c) ⟨fun C t h K => ob (rdL t args) fun args => rdK t rr fun r => match r with
      | .iface ty v => ob (methodV P ty name) fun f => ob (C (.f f) (v :: args) h) fun r => K r.1 r.2
      | _ => none⟩ := by
  intro o ho A h w N t a K q hm ht hk
  obtain ⟨vs, hvs, hk⟩ := ob_some hk
  simp only [rdK_eq] at hk
  have hrr := rd_rel ht hr
  have hargs := rdL_some ht _ _ _ ha hvs
  split at hk
  · rename_i ty v hv
    obtain ⟨g, hg, hk⟩ := ob_some hk
    obtain ⟨r', hr', hk⟩ := ob_some hk
    rw [hv] at hrr
    obtain ⟨y, h1, h2⟩ := hrr.of_iface
    obtain ⟨h4, h5⟩ := hC.f _ _ _ _ hr'
    have h6 := h5 A w _ hm (.cons _ _ _ _ h2 hargs)
    refine ⟨_, _, hk, .enter (w' := w) (f := g) (args := (y :: c.args.toList.map a.eval).toArray) ?_ h6⟩
    have e0 : (#[Value.iface ty y] ++ c.args.map a.eval)[0]? = some (.iface ty y) := by rw [Array.getElem?_append_left (by simp)]; rfl
    have e : #[y] ++ (#[Value.iface ty y] ++ c.args.map a.eval).extract 1 (#[Value.iface ty y] ++ c.args.map a.eval).size = (y :: c.args.toList.map a.eval).toArray := by
      apply arr_of
      simp [List.extract_eq_take_drop]
      exact List.take_of_length_le (by simp)
    simp only [execOp, ho, resolve, hcal, h1, Sem.run_bind, Sem.run_pure, Result.andThen_ok, invoke, e0, callMethod, run_program, method_run hg]
    rw [e, h4]
  · cases hk
theorem call_builtin {c : Call} {b : Builtin} {o : Oper} {a : Act} {w w' : World} {x : Value} (ho : o.op = .call c) (hcal : c.callee = .builtin b) (h : (builtin b c.argTypes o.type (c.args.map fun | .const _ => true | _ => false) (c.args.map a.eval)).run P w = .ok (.value x) w') :
    (execOp a.eval o).run P w = .ok (.value x) w' := by
  simp only [execOp, ho, resolve, hcal, Sem.run_bind, Sem.run_pure, Result.andThen_ok, invoke]
  exact h
theorem foldI_min {A : Sub} {n : Nat} {k : IntKind} {w : World} : ∀ (l : List V) (xs : List Value) (m r : Int), RelL A n l xs → foldI (fun a c => if c < a then c else a) k m l = some r → (xs.foldlM Builtin.min2 (.int k m)).run P w = .ok (.int k r) w
  | [], xs, m, r, hl, h => by
    cases hl
    injection h with h
    subst h
    rfl
  | v :: l, xs, m, r, hl, h => by
    cases hl with
    | cons _ x _ xs h1 h2 =>
      cases v <;> simp only [foldI] at h <;> first | cases h | skip
      obtain ⟨hk, h3⟩ := bb_some h
      clear h
      have hk := of_decide_eq_true hk
      subst hk
      rw [fI_eq] at h3
      obtain rfl := h1.of_i
      rw [List.foldlM_cons]
      simp only [Sem.run_bind, Builtin.min2, Sem.run_pure, Result.andThen_ok]
      exact foldI_min l xs _ r h2 h3
theorem foldI_max {A : Sub} {n : Nat} {k : IntKind} {w : World} : ∀ (l : List V) (xs : List Value) (m r : Int), RelL A n l xs → foldI (fun a c => if c > a then c else a) k m l = some r → (xs.foldlM Builtin.max2 (.int k m)).run P w = .ok (.int k r) w
  | [], xs, m, r, hl, h => by
    cases hl
    injection h with h
    subst h
    rfl
  | v :: l, xs, m, r, hl, h => by
    cases hl with
    | cons _ x _ xs h1 h2 =>
      cases v <;> simp only [foldI] at h <;> first | cases h | skip
      obtain ⟨hk, h3⟩ := bb_some h
      clear h
      have hk := of_decide_eq_true hk
      subst hk
      rw [fI_eq] at h3
      obtain rfl := h1.of_i
      rw [List.foldlM_cons]
      simp only [Sem.run_bind, Builtin.max2, Sem.run_pure, Result.andThen_ok]
      exact foldI_max l xs _ r h2 h3
theorem callB_min {c : Call} {rx : Rd} {l : List Rd} (hcal : c.callee = .builtin .min) (ha : mapO rdB c.args.toList = some (rx :: l)) : OpQ P C (.call c) ⟨fun _ t h K => rdK t rx fun x => asI x fun k a => ob (rdL t l) fun l => ob (foldI (fun a c => if c < a then c else a) k a l) fun a => K (.i k a) h⟩ := by
  intro o ho A h w N t a K q hm ht hk
  simp only [rdK_eq] at hk
  obtain ⟨k, m, h1, hk⟩ := asI_some hk
  obtain ⟨vs, h2, hk⟩ := ob_some hk
  obtain ⟨r, h3, hk⟩ := ob_some hk
  have hargs := rdL_some ht _ _ (.i k m :: vs) ha (by rw [rdL_c, rdK_eq, h1, h2]; rfl)
  have h4 : c.args.map a.eval = (c.args.toList.map a.eval).toArray := arr_of (by simp)
  generalize c.args.toList.map a.eval = xs at hargs h4
  cases hargs with
  | cons _ x _ xs h5 h6 =>
    obtain rfl := h5.of_i
    refine ⟨_, hk, _, (call_builtin ho hcal ?_), (.i _ _)⟩
    rw [h4]
    simp only [builtin, Builtin.min_, Sem.run_bind, foldI_min (P := P) (w := w) vs xs m r h6 h3, Result.andThen_ok, Sem.run_pure]
theorem callB_max {c : Call} {rx : Rd} {l : List Rd} (hcal : c.callee = .builtin .max) (ha : mapO rdB c.args.toList = some (rx :: l)) : OpQ P C (.call c) ⟨fun _ t h K => rdK t rx fun x => asI x fun k a => ob (rdL t l) fun l => ob (foldI (fun a c => if c > a then c else a) k a l) fun a => K (.i k a) h⟩ := by
  intro o ho A h w N t a K q hm ht hk
  simp only [rdK_eq] at hk
  obtain ⟨k, m, h1, hk⟩ := asI_some hk
  obtain ⟨vs, h2, hk⟩ := ob_some hk
  obtain ⟨r, h3, hk⟩ := ob_some hk
  have hargs := rdL_some ht _ _ (.i k m :: vs) ha (by rw [rdL_c, rdK_eq, h1, h2]; rfl)
  have h4 : c.args.map a.eval = (c.args.toList.map a.eval).toArray := arr_of (by simp)
  generalize c.args.toList.map a.eval = xs at hargs h4
  cases hargs with
  | cons _ x _ xs h5 h6 =>
    obtain rfl := h5.of_i
    refine ⟨_, hk, _, (call_builtin ho hcal ?_), (.i _ _)⟩
    rw [h4]
    simp only [builtin, Builtin.max_, Sem.run_bind, foldI_max (P := P) (w := w) vs xs m r h6 h3, Result.andThen_ok, Sem.run_pure]
theorem callB_len {c : Call} {rx : Rd} {f : Fx} (hcal : c.callee = .builtin .len) (ha : mapO rdB c.args.toList = some [rx]) (h : (match c.argTypes.toList with
        | [ty] => match P.underlying ty with
          | some (.slice _) => some ⟨fun _ t h K => rdK t rx fun x => match x with
            | .sl _ _ n _ _ _ => K (.i .i64 (.ofNat n)) h
            | .ns => K (.i .i64 (.ofNat 0)) h
            | .se => K (.i .i64 (.ofNat 0)) h
            | _ => none⟩
          | some .string => some ⟨fun _ t h K => rdK t rx fun x => match x with
            | .s x => mkI .i64 x.size fun v => K v h
            | _ => none⟩
          | _ => none
        | _ => none) = some f) : OpQ P C (.call c) f := by
  obtain ⟨x, hx, hrx⟩ := mapO1 ha
  split at h
  · rename_i ty hty
    have hty := arr_of hty
    split at h
    · rename_i e hu
      injection h with h
      subst h
      intro o ho A h w N t a K q hm ht hk
      have hr := rd_rel ht hrx
      simp only [rdK_eq] at hk
      split at hk
      · rename_i hv
        rw [hv] at hr
        obtain ⟨c', h1, _⟩ := hr.of_sl
        refine ⟨_, hk, _, call_builtin ho hcal ?_, .i _ _⟩
        simp [builtin, Builtin.len_, hty, arr_of hx, h1, run_und hu, goInt]
      · rename_i hv
        rw [hv] at hr
        have h1 := hr.of_ns
        refine ⟨_, hk, _, call_builtin ho hcal ?_, .i _ _⟩
        simp [builtin, Builtin.len_, hty, arr_of hx, h1, run_und hu, goInt]
      · rename_i hv
        rw [hv] at hr
        obtain ⟨ad, c', h1⟩ := hr.of_se
        refine ⟨_, hk, _, call_builtin ho hcal ?_, .i _ _⟩
        simp [builtin, Builtin.len_, hty, arr_of hx, h1, run_und hu, goInt]
      · cases hk
    · rename_i hu
      injection h with h
      subst h
      intro o ho A h w N t a K q hm ht hk
      have hr := rd_rel ht hrx
      simp only [rdK_eq] at hk
      split at hk
      · rename_i s hv
        rw [hv] at hr
        have h1 := hr.of_s
        rw [mkI_eq] at hk
        refine ⟨_, hk, _, call_builtin ho hcal ?_, .i _ _⟩
        simp [builtin, Builtin.len_, hty, arr_of hx, h1, run_und hu, goInt]
      · cases hk
    · cases h
  · cases h
theorem callB_cap {c : Call} {rx : Rd} {f : Fx} (hcal : c.callee = .builtin .cap) (ha : mapO rdB c.args.toList = some [rx]) (h : (match c.argTypes.toList with
        | [ty] => match P.underlying ty with
          | some (.slice _) => some ⟨fun _ t h K => rdK t rx fun x => match x with
            | .sl _ _ _ n true _ => K (.i .i64 (.ofNat n)) h
            | .ns => K (.i .i64 (.ofNat 0)) h
            | _ => none⟩
          | _ => none
        | _ => none) = some f) : OpQ P C (.call c) f := by
  obtain ⟨x, hx, hrx⟩ := mapO1 ha
  split at h
  · rename_i ty hty
    have hty := arr_of hty
    split at h
    · rename_i e hu
      injection h with h
      subst h
      intro o ho A h w N t a K q hm ht hk
      have hr := rd_rel ht hrx
      simp only [rdK_eq] at hk
      split at hk
      · rename_i hv
        rw [hv] at hr
        obtain ⟨c', h1, _, h2, _⟩ := hr.of_sl
        have h2 := h2 rfl
        subst h2
        refine ⟨_, hk, _, call_builtin ho hcal ?_, .i _ _⟩
        simp [builtin, Builtin.cap_, hty, arr_of hx, h1, run_und hu, goInt]
      · rename_i hv
        rw [hv] at hr
        have h1 := hr.of_ns
        refine ⟨_, hk, _, call_builtin ho hcal ?_, .i _ _⟩
        simp [builtin, Builtin.cap_, hty, arr_of hx, h1, run_und hu, goInt]
      · cases hk
    · cases h
  · cases h
theorem callB_quiet {c : Call} {f : Fx} (h : callB P c = some f) (hq : isE (.call c) = false) : OpQ P C (.call c) f := by
  unfold callB at h
  obtain ⟨args, ha, h⟩ := ob_some h
  simp only [isE] at hq
  split at h
  · rename_i g hcal
    rw [hcal] at hq
    cases hq
  · rename_i r name hcal
    rw [hcal] at hq
    cases hq
  · rename_i b hcal
    split at h
    · exact callB_len hcal ha h
    · exact callB_cap hcal ha h
    · injection h with h
      subst h
      exact callB_min hcal ha
    · injection h with h
      subst h
      exact callB_max hcal ha
    · rw [hcal] at hq
      cases hq
    · cases h
theorem callB_ok {c : Call} {f : Fx} (hC : CallOk P C) (h : callB P c = some f) : OpOk P C (.call c) f := by
  unfold callB at h
  obtain ⟨args, ha, h⟩ := ob_some h
  split at h
  · rename_i g hcal
    obtain ⟨rg, hg, h⟩ := ob_some h
    injection h with h
    subst h
    exact callB_value hC hcal ha hg
  · rename_i r name hcal
    obtain ⟨rr, hr, h⟩ := ob_some h
    injection h with h
    subst h
    exact callB_invoke hC hcal ha hr
  · rename_i b hcal
    split at h
    · exact (callB_len hcal ha h).ok
    · exact (callB_cap hcal ha h).ok
    · injection h with h
      subst h
      exact (callB_min hcal ha).ok
    · injection h with h
      subst h
      exact (callB_max hcal ha).ok
    · rename_i rx ry
      obtain ⟨x, y, hxy, hrx, hry⟩ := mapO2 ha
      split at h
      · rename_i ty xt hty
        have hty := arr_of hty
        obtain ⟨e, he, h⟩ := ob_some h
        cases hex : elemB P xt with
        | none =>
          rw [hex] at h
          have h : zerosB P xt e rx ry = some f := h
          unfold zerosB at h
          split at h
          · rename_i jk hxt
            obtain ⟨sz, hsz, h⟩ := ob_some h
            obtain ⟨by_, hby, h⟩ := ob_some h
            obtain ⟨z, hz, h⟩ := ob_some h
            obtain ⟨h0, h⟩ := bb_some h
            obtain ⟨h1, h⟩ := bb_some h
            obtain ⟨h2, h⟩ := bb_some h
            injection h with h
            subst h
            intro o ho A h w N t a K q hm ht hk
            simp only [rdK_eq] at hk
            obtain ⟨i, hi, hi1⟩ := sizeB_info hsz
            obtain ⟨i2, hi2, hi3⟩ := bytesB_some hby
            obtain ⟨i4, zx, hi4, hi5, hi6⟩ := zeroB_info hz
            rw [hi] at hi2 hi4
            injection hi2 with hi2
            injection hi4 with hi4
            subst hi2 hi4
            have hzr : ∀ A n, RelL A n z.cells zx.cells.toList := fun A n => (ofVal_rel hi6).cells
            have hzs : zx.cells.size = sz := by
              have h3 := (hzr A h.next).length
              rw [Array.length_toList] at h3
              have h4 := Nat.eq_of_beq_eq_true h2
              omega
            obtain ⟨kk, n, hv, hk⟩ := asN_some hk
            split at hk
            · rename_i hvx
              have hr1 := rd_rel ht hrx
              have hr2 := rd_rel ht hry
              rw [hvx] at hr1
              rw [hv] at hr2
              obtain ⟨v, h', x', w', h3, h4, h5⟩ := zeros_some (tq := o.type) (k := kk) (elem_und he) hxt hi hi5 hi1 hi3 hzs (Nat.le_of_ble_eq_true h0) (Nat.le_of_ble_eq_true h1) hzr hm hk
              refine ⟨_, _, h3, .value (w' := w') (call_builtin ho hcal ?_) h5⟩
              have h4 : (Builtin.append_ #[ty, xt] o.type #[a.eval x, a.eval y]).run P w = .ok x' w' := by rw [hr1.of_ns, hr2.of_i]; exact h4
              simp only [builtin, hty, arr_of hxy, List.map_toArray, List.map_cons, List.map_nil, Sem.run_bind, h4, Result.andThen_ok, Sem.run_pure]
            · cases hk
          · cases h
        | some e' =>
        have he' := hex
        rw [hex] at h
        obtain ⟨sz, hsz, h⟩ := ob_some h
        obtain ⟨by_, hby, h⟩ := ob_some h
        obtain ⟨z, hz, h⟩ := ob_some h
        obtain ⟨h0, h⟩ := bb_some h
        obtain ⟨h1, h⟩ := bb_some h
        obtain ⟨h2, h⟩ := bb_some h
        injection h with h
        subst h
        intro o ho A h w N t a K q hm ht hk
        simp only [rdK_eq] at hk
        obtain ⟨i, hi, hi1⟩ := sizeB_info hsz
        obtain ⟨i2, hi2, hi3⟩ := bytesB_some hby
        obtain ⟨i4, zx, hi4, hi5, hi6⟩ := zeroB_info hz
        rw [hi] at hi2 hi4
        injection hi2 with hi2
        injection hi4 with hi4
        subst hi2 hi4
        have hzr : RelL A h.next z.cells zx.cells.toList := (ofVal_rel hi6).cells
        have happ : App P sz by_ e ty xt e' i zx := ⟨elem_und he, elem_und he', hi, hi5, hi1, hi3, by
          have h3 := hzr.length
          rw [Array.length_toList] at h3
          have h4 := Nat.eq_of_beq_eq_true h2
          omega, Nat.le_of_ble_eq_true h0, Nat.le_of_ble_eq_true h1⟩
        obtain ⟨v, h', x', w', h3, h4, h5⟩ := appendK_some (tq := o.type) happ hm (rd_rel ht hrx) (rd_rel ht hry) hk
        refine ⟨_, _, h3, .value (w' := w') (call_builtin ho hcal ?_) h5⟩
        simp only [builtin, hty, arr_of hxy, List.map_toArray, List.map_cons, List.map_nil, Sem.run_bind, h4, Result.andThen_ok, Sem.run_pure]
      · cases h
    · cases h
theorem opB_ok {op : Op} {f : Fx} (hC : CallOk P C) (h : opB P op = some f) : OpOk P C op f := by
  unfold opB at h
  split at h
  · obtain ⟨rx, hx, h⟩ := ob_some h; injection h with h; subst h; exact (move_ok hx).ok
  · obtain ⟨rx, hx, h⟩ := ob_some h; injection h with h; subst h; exact (assign_ok hx).ok
  · obtain ⟨rx, hx, h⟩ := ob_some h; exact (load_ok hx h).ok
  · obtain ⟨rx, hx, h⟩ := ob_some h; obtain ⟨ry, hy, h⟩ := ob_some h; obtain ⟨n, hn, h⟩ := ob_some h; injection h with h; subst h; exact store_ok hx hy hn
  · obtain ⟨rx, hx, h⟩ := ob_some h; obtain ⟨ry, hy, h⟩ := ob_some h; exact (bin_ok hx hy h).ok
  · obtain ⟨rx, hx, h⟩ := ob_some h; obtain ⟨p, hp, h⟩ := ob_some h; obtain ⟨n, hn, h⟩ := ob_some h; obtain ⟨h0, h⟩ := bb_some h; injection h with h; subst h; exact (fieldAddr_ok hx hp hn (Nat.le_of_ble_eq_true h0)).ok
  · obtain ⟨ri, hi, h⟩ := ob_some h; exact (tab_ok hi h).ok
  · obtain ⟨rx, hx, h⟩ := ob_some h; obtain ⟨ry, hy, h⟩ := ob_some h; exact (indexAddr_ok hx hy h).ok
  · exact callB_ok hC h
  · obtain ⟨rx, hx, h⟩ := ob_some h; injection h with h; subst h; exact (nilCheck_ok hx).ok
  · obtain ⟨rx, hx, h⟩ := ob_some h; injection h with h; subst h; exact (extract_ok hx).ok
  · obtain ⟨rc, hc, h⟩ := ob_some h; obtain ⟨rx, hx, h⟩ := ob_some h; obtain ⟨ry, hy, h⟩ := ob_some h; injection h with h; subst h; exact (pick_ok hc hx hy).ok
  · obtain ⟨rx, hx, h⟩ := ob_some h
    split at h
    · injection h with h; subst h; exact (not_ok hx).ok
    · injection h with h; subst h; exact (neg_ok hx).ok
    · injection h with h; subst h; exact (xor_ok hx).ok
    · cases h
  · obtain ⟨z, hz, h⟩ := ob_some h; injection h with h; subst h; exact alloc_ok hz
  · obtain ⟨rx, hx, h⟩ := ob_some h; injection h with h; subst h; exact box_ok hx
  · obtain ⟨z, hz, h⟩ := ob_some h; exact (build_ok hz h).ok
  · obtain ⟨e, he, h⟩ := ob_some h; obtain ⟨sz, hsz, h⟩ := ob_some h; obtain ⟨z, hz, h⟩ := ob_some h; obtain ⟨h0, h⟩ := bb_some h; obtain ⟨h1, h⟩ := bb_some h; obtain ⟨h2, h⟩ := bb_some h; obtain ⟨ps, hps, h⟩ := ob_some h
    injection h with h; subst h
    exact buildSlice_ok he hsz hz (Nat.le_of_ble_eq_true h0) (Nat.eq_of_beq_eq_true h1) (Nat.le_of_ble_eq_true h2) hps
  · obtain ⟨rx, hx, h⟩ := ob_some h; obtain ⟨ry, hy, h⟩ := ob_some h; obtain ⟨e, he, h⟩ := ob_some h; obtain ⟨sz, hsz, h⟩ := ob_some h; obtain ⟨z, hz, h⟩ := ob_some h; obtain ⟨by_, hby, h⟩ := ob_some h; obtain ⟨h0, h⟩ := bb_some h; obtain ⟨h1, h⟩ := bb_some h
    injection h with h; subst h
    exact makeSlice_ok hx hy he hsz hz hby (Nat.le_of_ble_eq_true h0) (Nat.eq_of_beq_eq_true h1)
  · obtain ⟨rx, hx, h⟩ := ob_some h; obtain ⟨rl, hl, h⟩ := ob_some h; obtain ⟨rh, hh, h⟩ := ob_some h; exact (slice2_ok hx hl hh h).ok
  · obtain ⟨rx, hx, h⟩ := ob_some h; obtain ⟨rh, hh, h⟩ := ob_some h; obtain ⟨rm, hm, h⟩ := ob_some h; exact (slice3_ok hx hh hm h).ok
  · obtain ⟨rx, hx, h⟩ := ob_some h; obtain ⟨p, hp, h⟩ := ob_some h; obtain ⟨g, hg, h⟩ := ob_some h; injection h with h; subst h; exact (field_ok hx hp hg).ok
  · obtain ⟨rx, hx, h⟩ := ob_some h; obtain ⟨ri, hi, h⟩ := ob_some h; exact (index_ok hx hi h).ok
  · obtain ⟨rx, hx, h⟩ := ob_some h
    split at h
    · injection h with h; subst h; exact (convert_ok hx (by assumption) (by assumption)).ok
    · exact bytesOf_ok hx (by assumption) (by assumption) h
    · exact (strOf_ok hx (by assumption) (by assumption) h).ok
    · obtain ⟨hsd, h⟩ := bb_some h; exact mark_ok hx (by assumption) (by assumption) (Nat.eq_of_beq_eq_true hsd) h
    · cases h
  · obtain ⟨rx, hx, h⟩ := ob_some h
    split at h
    · injection h with h; subst h; exact (makeInterface_ok hx (by assumption)).ok
    · cases h
  · obtain ⟨rx, hx, h⟩ := ob_some h; obtain ⟨ry, hy, h⟩ := ob_some h; injection h with h; subst h; exact (makeFunc_ok hx hy).ok
  · obtain ⟨rx, hx, h⟩ := ob_some h; obtain ⟨z, hz, h⟩ := ob_some h
    split at h
    · injection h with h; subst h; exact (typeAssert_ok hx hz (by assumption)).ok
    · cases h
  · injection h with h; subst h; exact newMap_ok
  · obtain ⟨rx, hx, h⟩ := ob_some h; obtain ⟨ry, hy, h⟩ := ob_some h; obtain ⟨rz, hz, h⟩ := ob_some h; obtain ⟨e, he, h⟩ := ob_some h; injection h with h; subst h; exact insert_ok hx hy hz he
  · obtain ⟨rx, hx, h⟩ := ob_some h; obtain ⟨ry, hy, h⟩ := ob_some h; obtain ⟨rz, hz, h⟩ := ob_some h; obtain ⟨e, he, h⟩ := ob_some h; injection h with h; subst h; exact mapUpdate_ok hx hy hz he
  · obtain ⟨rx, hx, h⟩ := ob_some h; obtain ⟨ry, hy, h⟩ := ob_some h; obtain ⟨e, he, h⟩ := ob_some h; obtain ⟨z, hz, h⟩ := ob_some h; injection h with h; subst h; exact (lookup_ok hx hy he hz).ok
  · obtain ⟨rx, hx, h⟩ := ob_some h; obtain ⟨e, he, h⟩ := ob_some h; injection h with h; subst h; exact range_ok hx he
  · obtain ⟨rx, hx, h⟩ := ob_some h; injection h with h; subst h; exact (entry_ok hx).ok
  · cases h
theorem opB_quiet {op : Op} {f : Fx} (h : opB P op = some f) (hq : isE op = false) (hs : isSoft op = false) (hv : quietB P op = true) : OpQ P C op f := by
  unfold opB at h
  split at h
  · obtain ⟨rx, hx, h⟩ := ob_some h; injection h with h; subst h; exact (move_ok hx)
  · obtain ⟨rx, hx, h⟩ := ob_some h; injection h with h; subst h; exact (assign_ok hx)
  · obtain ⟨rx, hx, h⟩ := ob_some h; exact (load_ok hx h)
  · cases hq
  · obtain ⟨rx, hx, h⟩ := ob_some h; obtain ⟨ry, hy, h⟩ := ob_some h; exact (bin_ok hx hy h)
  · obtain ⟨rx, hx, h⟩ := ob_some h; obtain ⟨p, hp, h⟩ := ob_some h; obtain ⟨n, hn, h⟩ := ob_some h; obtain ⟨h0, h⟩ := bb_some h; injection h with h; subst h; exact (fieldAddr_ok hx hp hn (Nat.le_of_ble_eq_true h0))
  · obtain ⟨ri, hi, h⟩ := ob_some h; exact (tab_ok hi h)
  · obtain ⟨rx, hx, h⟩ := ob_some h; obtain ⟨ry, hy, h⟩ := ob_some h; exact (indexAddr_ok hx hy h)
  · exact callB_quiet h hq
  · obtain ⟨rx, hx, h⟩ := ob_some h; injection h with h; subst h; exact (nilCheck_ok hx)
  · obtain ⟨rx, hx, h⟩ := ob_some h; injection h with h; subst h; exact (extract_ok hx)
  · obtain ⟨rc, hc, h⟩ := ob_some h; obtain ⟨rx, hx, h⟩ := ob_some h; obtain ⟨ry, hy, h⟩ := ob_some h; injection h with h; subst h; exact (pick_ok hc hx hy)
  · obtain ⟨rx, hx, h⟩ := ob_some h
    split at h
    · injection h with h; subst h; exact (not_ok hx)
    · injection h with h; subst h; exact (neg_ok hx)
    · injection h with h; subst h; exact (xor_ok hx)
    · cases h
  · cases hs
  · cases hq
  · obtain ⟨z, hz, h⟩ := ob_some h; exact (build_ok hz h)
  · obtain ⟨e, he, h⟩ := ob_some h; obtain ⟨sz, hsz, h⟩ := ob_some h; obtain ⟨z, hz, h⟩ := ob_some h; obtain ⟨h0, h⟩ := bb_some h; obtain ⟨h1, h⟩ := bb_some h; obtain ⟨h2, h⟩ := bb_some h; obtain ⟨ps, hps, h⟩ := ob_some h
    injection h with h; subst h
    cases hq
  · obtain ⟨rx, hx, h⟩ := ob_some h; obtain ⟨ry, hy, h⟩ := ob_some h; obtain ⟨e, he, h⟩ := ob_some h; obtain ⟨sz, hsz, h⟩ := ob_some h; obtain ⟨z, hz, h⟩ := ob_some h; obtain ⟨by_, hby, h⟩ := ob_some h; obtain ⟨h0, h⟩ := bb_some h; obtain ⟨h1, h⟩ := bb_some h
    injection h with h; subst h
    cases hs
  · obtain ⟨rx, hx, h⟩ := ob_some h; obtain ⟨rl, hl, h⟩ := ob_some h; obtain ⟨rh, hh, h⟩ := ob_some h; exact (slice2_ok hx hl hh h)
  · obtain ⟨rx, hx, h⟩ := ob_some h; obtain ⟨rh, hh, h⟩ := ob_some h; obtain ⟨rm, hm, h⟩ := ob_some h; exact (slice3_ok hx hh hm h)
  · obtain ⟨rx, hx, h⟩ := ob_some h; obtain ⟨p, hp, h⟩ := ob_some h; obtain ⟨g, hg, h⟩ := ob_some h; injection h with h; subst h; exact (field_ok hx hp hg)
  · obtain ⟨rx, hx, h⟩ := ob_some h; obtain ⟨ri, hi, h⟩ := ob_some h; exact (index_ok hx hi h)
  · obtain ⟨rx, hx, h⟩ := ob_some h
    split at h
    · injection h with h; subst h; exact (convert_ok hx (by assumption) (by assumption))
    · rename_i h1 h2; simp only [quietB, h2] at hv; cases hv
    · exact (strOf_ok hx (by assumption) (by assumption) h)
    · rename_i h1 h2; simp only [quietB, h2] at hv; cases hv
    · cases h
  · obtain ⟨rx, hx, h⟩ := ob_some h
    split at h
    · injection h with h; subst h; exact (makeInterface_ok hx (by assumption))
    · cases h
  · obtain ⟨rx, hx, h⟩ := ob_some h; obtain ⟨ry, hy, h⟩ := ob_some h; injection h with h; subst h; exact (makeFunc_ok hx hy)
  · obtain ⟨rx, hx, h⟩ := ob_some h; obtain ⟨z, hz, h⟩ := ob_some h
    split at h
    · injection h with h; subst h; exact (typeAssert_ok hx hz (by assumption))
    · cases h
  · cases hq
  · cases hq
  · cases hq
  · obtain ⟨rx, hx, h⟩ := ob_some h; obtain ⟨ry, hy, h⟩ := ob_some h; obtain ⟨e, he, h⟩ := ob_some h; obtain ⟨z, hz, h⟩ := ob_some h; injection h with h; subst h; exact (lookup_ok hx hy he hz)
  · cases hq
  · obtain ⟨rx, hx, h⟩ := ob_some h; injection h with h; subst h; exact (entry_ok hx)
  · cases h
end
end Go.Proofs.YtaadfppfjjkgbaaGreatDoor.Vm
