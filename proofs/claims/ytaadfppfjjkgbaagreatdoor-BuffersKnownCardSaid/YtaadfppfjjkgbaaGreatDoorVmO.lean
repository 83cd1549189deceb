/- A region that draws its order: what its check says, what a restricted look keeps. -/
import Derived.Test.YtaadfppfjjkgbaaGreatDoorVmN
namespace Go.Proofs.YtaadfppfjjkgbaaGreatDoor.Vm
open Go Go.RowKit

/-! ### Values -/
theorem blt_iff {a b : Nat} : Nat.blt a b = true ↔ a < b := ⟨fun h => Nat.le_of_ble_eq_true h, fun h => Nat.ble_eq_true_of_le h⟩
mutual
theorem same_eq : ∀ (v u9 : V), v.same u9 = true → v = u9
  | .u, u9, h => by cases u9 <;> first | rfl | (simp [V.same] at h)
  | .b x, u9, h => by cases u9 <;> simp [V.same] at h <;> simp [h]
  | .i k n, u9, h => by cases u9 <;> simp [V.same] at h <;> simp [h]
  | .s x, u9, h => by
    cases u9 <;> simp only [V.same, Bool.false_eq_true] at h
    rename_i y
    have h1 : (x.data == y.data) = true := h
    rw [ByteArray.ext (show x.data = y.data by simpa using h1)]
  | .p a o, u9, h => by cases u9 <;> simp [V.same] at h <;> simp [h]
  | .np, u9, h => by cases u9 <;> first | rfl | (simp [V.same] at h)
  | .sl e o a c k z, u9, h => by cases u9 <;> simp [V.same] at h <;> simp [h]
  | .ns, u9, h => by cases u9 <;> first | rfl | (simp [V.same] at h)
  | .m a, u9, h => by cases u9 <;> simp [V.same] at h <;> simp [h]
  | .nm, u9, h => by cases u9 <;> first | rfl | (simp [V.same] at h)
  | .fn f a c, u9, h => by
    cases u9 <;> simp [V.same] at h
    simp [h.1.1, sameL_eq a _ h.1.2, sameL_eq c _ h.2]
  | .nf, u9, h => by cases u9 <;> first | rfl | (simp [V.same] at h)
  | .iface t v, u9, h => by
    cases u9 <;> simp [V.same] at h
    simp [h.1, same_eq v _ h.2]
  | .ni, u9, h => by cases u9 <;> first | rfl | (simp [V.same] at h)
  | .agg l, u9, h => by
    cases u9 <;> simp [V.same] at h
    simp [sameL_eq l _ h]
  | .tup l, u9, h => by
    cases u9 <;> simp [V.same] at h
    simp [sameL_eq l _ h]
  | .y b, u9, h => by cases u9 <;> simp [V.same] at h <;> simp [h]
  | .se, u9, h => by cases u9 <;> first | rfl | (simp [V.same] at h)
theorem sameL_eq : ∀ (l r : List V), sameL l r = true → l = r
  | [], r, h => by cases r <;> first | rfl | (simp [sameL] at h)
  | v :: l, r, h => by
    cases r <;> simp [sameL] at h
    rw [same_eq v _ h.1, sameL_eq l _ h.2]
end
section
variable {A : Sub} {n m : Nat}
mutual
theorem Rel.lo : ∀ {v : V} {x : Value}, Rel A n v x → v.under m = true → Rel A m v x
  | _, _, .u, _ => .u
  | _, _, .b x, _ => .b x
  | _, _, .i k m, _ => .i k m
  | _, _, .s x, _ => .s x
  | _, _, .p b o _, h => .p b o (blt_iff.1 (by simpa only [V.under] using h))
  | _, _, .np, _ => .np
  | _, _, .slk b o len cap sz _, h => .slk b o len cap sz (blt_iff.1 (by simpa only [V.under] using h))
  | _, _, .slu b o len cap sz c _ h1 h2 h3, h => .slu b o len cap sz c (blt_iff.1 (by simpa only [V.under] using h)) h1 h2 h3
  | _, _, .ns, _ => .ns
  | _, _, .m r _, h => .m r (blt_iff.1 (by simpa only [V.under] using h))
  | _, _, .nm, _ => .nm
  | _, _, .fn f l r xs ys h1 h2, h => by
    simp only [V.under, Bool.and_eq_true] at h
    exact .fn f l r xs ys (RelL.lo h1 h.1) (RelL.lo h2 h.2)
  | _, _, .nf, _ => .nf
  | _, _, .iface t v x h1, h => .iface t v x (Rel.lo h1 (by simpa only [V.under] using h))
  | _, _, .ni, _ => .ni
  | _, _, .agg l xs h1, h => .agg l xs (RelL.lo h1 (by simpa only [V.under] using h))
  | _, _, .tup l xs h1, h => .tup l xs (RelL.lo h1 (by simpa only [V.under] using h))
  | _, _, .y b _, h => .y b (blt_iff.1 (by simpa only [V.under] using h))
  | _, _, .se ad c, _ => .se ad c
theorem RelL.lo : ∀ {l : List V} {xs : List Value}, RelL A n l xs → underL m l = true → RelL A m l xs
  | _, _, .nil, _ => .nil
  | _, _, .cons v x l xs h h', hf => by
    simp only [underL, Bool.and_eq_true] at hf
    exact .cons v x l xs (Rel.lo h hf.1) (RelL.lo h' hf.2)
end
end
theorem Mt.cong {A B : Sub} {h : H} {w : World} (hm : Mt A h w) {n : Nat} (ha : Agree A B h.next) (hn : h.next ≤ n) : Mt B ⟨n, h.t⟩ w := by
  refine ⟨fun b O hb => Nat.lt_of_lt_of_le (hm.lt b O hb) hn, fun b O hb => ?_, fun b b' O O' hb hb' he => hm.inj b b' O O' hb hb' ?_⟩
  · obtain ⟨x, hx, hr⟩ := hm.obj b O hb
    have hl := hm.lt b O hb
    refine ⟨x, by rw [(ha b hl).1]; exact hx, ?_⟩
    rw [(ha b hl).2]
    have := hr.mono ha hn
    rw [← (ha b (hm.lt b O hb)).1] at this
    exact this
  · rw [← (ha b (hm.lt b O hb)).1, ← (ha b' (hm.lt b' O' hb')).1]
    exact he
theorem Ev.cong {A A' B : Sub} {h h' : H} {w w' : World} (e : Ev A h w A' h' w') (ha : Agree A' B h'.next) : Ev A h w B h' w' := by
  refine ⟨e.mt.cong ha (Nat.le_refl _), e.next, fun b hb => ?_, fun b O hb => ?_, e.fr, e.size, e.os, e.tape, e.output, fun b O g hb hp => ?_⟩
  · have h1 := ha b (Nat.lt_of_lt_of_le hb e.next)
    have h2 := e.old b hb
    exact ⟨h1.1.trans h2.1, h1.2.trans h2.2⟩
  · rw [(ha b (e.mt.lt b O hb)).1]
    exact e.src b O hb
  · obtain ⟨h1, ⟨O', h2, h3⟩, h4⟩ := e.pin b O g hb hp
    exact ⟨(ha b (e.mt.lt b O' h2)).1.trans h1, ⟨O', h2, h3⟩, h4⟩
/-! ### A restricted look -/
theorem Does.moved {P : Program} {o : Oper} {a b : Act} {w : World} {R : Value → World → Prop} (he : execOp a.eval o = execOp b.eval o) (h : Does P o b w R) : Does P o a w R := by
  unfold Does at h ⊢
  rw [he]
  exact h
/-- Temporaries, cut down to some. -/
def cutT (us : List Nat) (N : Nat) (a : Array Value) : Array Value := Array.ofFn (n := N) fun k => if k.val ∈ us then a.getD k.val undef else undef
theorem cutT_get {us : List Nat} {N : Nat} {a : Array Value} (hN : a.size = N) (k : Nat) : (cutT us N a).getD k undef = if k ∈ us then a.getD k undef else undef := by
  unfold cutT
  rw [Array.getD_eq_getD_getElem?, Array.getElem?_ofFn]
  by_cases hk : k < N
  · simp [hk]
  · have : a[k]? = none := Array.getElem?_eq_none (by omega)
    simp [hk, this]
theorem cutT_get? {us : List Nat} {N : Nat} {a : Array Value} (hN : a.size = N) {k : Nat} (hk : k ∈ us) : (cutT us N a)[k]? = a[k]? := by
  unfold cutT
  rw [Array.getElem?_ofFn]
  by_cases h : k < N
  · have h2 : k < a.size := by omega
    simp [h, hk, h2]
  · rw [Array.getElem?_eq_none (by omega)]
    simp [h]
def cutA (us : List Nat) (N : Nat) (a : Act) : Act := { a with tmps := cutT us N a.tmps }
theorem cut_exec {ops : Array Oper} {N : Nat} {a : Act} {o : Oper} (hN : a.tmps.size = N) (hs : ∀ cs b, o.op ≠ .select cs b) : execOp a.eval o = execOp (cutA (usesT ops o) N a).eval o :=
  execOp_congr o hs fun x hx => by
    cases x with
    | tmp t =>
      have ht : t ∈ usesT ops o := List.mem_append_left _ (List.mem_filterMap.2 ⟨.tmp t, by simpa using hx, rfl⟩)
      show a.tmps.getD t undef = (cutT _ N a.tmps).getD t undef
      rw [cutT_get hN, if_pos ht]
    | _ => rfl
theorem cut_wanted {ops : Array Oper} {N : Nat} {a : Act} {o : Oper} (hN : a.tmps.size = N) : Region.wanted o (yielded ops a.tmps) = Region.wanted o (yielded ops (cutA (usesT ops o) N a).tmps) := by
  unfold Region.wanted
  cases hg : o.guard with
  | none => rfl
  | some gw =>
    obtain ⟨g, want⟩ := gw
    have hy : yielded ops a.tmps g = yielded ops (cutA (usesT ops o) N a).tmps g := by
      unfold yielded
      cases ho : ops[g]? with
      | none => rfl
      | some og =>
        cases hd : og.dst with
        | none => simp [hd]
        | some d =>
          have ht : d ∈ usesT ops o := by simp [usesT, hg, ho, hd]
          simp only [Option.bind_some, hd]
          rw [show (cutA (usesT ops o) N a).tmps[d]? = a.tmps[d]? from cutT_get? hN ht]
    simp only [hy]
theorem usesT_guard {ops : Array Oper} {o : Oper} {g : Option (Nat × Bool)} (hg : guardB ops o = some g) : ∀ d w, g = some (d, w) → d ∈ usesT ops o := by
  intro d w hd
  subst hd
  unfold guardB at hg
  split at hg
  · cases hg
  · rename_i j w' h0
    split at hg
    · rename_i oj hj
      obtain ⟨d', h1, hg⟩ := ob_some hg
      injection hg with hg
      injection hg with hg
      injection hg with hg _
      subst hg
      simp [usesT, h0, hj, h1]
    · cases hg
/-! ### What the check of such a region says -/
theorem mapO_get {α γ : Type} {f : α → Option γ} : ∀ {l : List α} {r : List γ}, mapO f l = some r → r.length = l.length ∧ ∀ (i : Nat) (x : α), l[i]? = some x → ∃ y, r[i]? = some y ∧ f x = some y
  | [], r, h => by
    obtain rfl := mapO_nil h
    exact ⟨rfl, fun i x hx => by simp at hx⟩
  | a :: l, r, h => by
    obtain ⟨y, q, h1, h2, rfl⟩ := mapO_cons h
    obtain ⟨h3, h4⟩ := mapO_get h2
    refine ⟨by simp [h3], fun i x hx => ?_⟩
    cases i with
    | zero =>
      simp only [List.getElem?_cons_zero, Option.some.injEq] at hx
      subst hx
      exact ⟨y, rfl, h1⟩
    | succ i => exact h4 i x (by simpa using hx)
theorem idxs_mem {p : Op → Bool} {l : List Oper} {j : Nat} : j ∈ idxs p l ↔ ∃ o, l[j]? = some o ∧ p o.op = true := by
  unfold idxs
  rw [List.mem_map]
  constructor
  · rintro ⟨⟨o, k⟩, h1, rfl⟩
    rw [List.mem_filter] at h1
    exact ⟨o, List.mem_zipIdx_iff_getElem?.1 h1.1, h1.2⟩
  · rintro ⟨o, h1, h2⟩
    exact ⟨⟨o, j⟩, List.mem_filter.2 ⟨List.mem_zipIdx_iff_getElem?.2 h1, h2⟩, rfl⟩
/-- What an operation that makes a block out of nothing owes. -/
def SoftOk (P : Program) (op : Op) (g : Tr V → Option (TypeId × List V × (Nat → V))) : Prop := ∀ (o : Oper), o.op = op → ∀ (ts : Tr V) (x : TypeId × List V × (Nat → V)), g ts = some x → ∃ ys : Array Value, (∀ A n i kk, ORel A n i kk (.cells x.1 x.2.1.length false (Tr.putsL x.2.1 .e 0)) (.cells ys x.1 (0, 0))) ∧
  ∀ (A : Sub) (n N : Nat) (a : Act) (w : World), TRel A n N ts a.tmps → ∃ y, (execOp a.eval o).run P w = .ok (.value y) (w.alloc (.cells ys x.1 (0, 0))) ∧ ∀ (B : Sub) (b m : Nat), B.ι b = w.heap.size → b < m → Rel B m (x.2.2 b) y
theorem alloc_soft {P : Program} {e : TypeId} {z : V} (hz : zeroB P e = some z) (ha : allOne z.cells = true) : SoftOk P (.alloc e) fun _ => some (e, z.cells, fun b => .p b 0) := by
  intro o ho ts x hx
  injection hx with hx
  subst hx
  unfold zeroB at hz
  obtain ⟨inf, hi, hz⟩ := ob_some hz
  obtain ⟨y, hy, hz⟩ := ob_some hz
  refine ⟨y.cells, fun A n i kk => row_new0 (ofVal_rel hz).cells ha, fun A n N a w _ => ⟨.pointer (some ⟨w.heap.size, 0, none⟩), ?_, fun B b m hB hb => ?_⟩⟩
  · have hzr : (zeroValue e).run P w = .ok y w := by simp [zeroValue, typeInfo, hi, hy]
    simp only [execOp, ho, Instr.alloc, Sem.run_bind, Sem.run_pure, Result.andThen_ok, hzr, run_newVar]
  · rw [← hB]
    exact .p _ _ hb
theorem makeSlice_soft {P : Program} {ty e : TypeId} {x y : Operand} {rx ry : Rd} {sz by_ : Nat} {z : V} (hx : rdB x = some rx) (hy : rdB y = some ry) (he : elemB P ty = some e) (hsz : sizeB P e = some sz) (hz : zeroB P e = some z) (hby : bytesB P e = some by_) (h0 : 0 < sz) (hzl : z.cells.length = sz) :
    SoftOk P (.makeSlice ty x y) fun t => rdK t rx fun l => rdK t ry fun c => asN l fun l => asN c fun c => bb (Nat.ble l c) (bb (Nat.ble c 65536) (bb (Nat.ble (Nat.mul c by_) 1048576) (bb (allOne (rep z.cells c)) (some (e, rep z.cells c, fun b => .sl b 0 l c true sz))))) := by
  intro o ho ts r hr
  simp only [rdK_eq] at hr
  obtain ⟨k, l, h1, hr⟩ := asN_some hr
  obtain ⟨k', c, h2, hr⟩ := asN_some hr
  obtain ⟨h3, hr⟩ := bb_some hr
  obtain ⟨h4, hr⟩ := bb_some hr
  obtain ⟨h5, hr⟩ := bb_some hr
  obtain ⟨h6, hr⟩ := bb_some hr
  injection hr with hr
  subst hr
  have hlc := Nat.le_of_ble_eq_true h3
  have hc6 := Nat.le_of_ble_eq_true h4
  have hcb := Nat.le_of_ble_eq_true h5
  obtain ⟨zx, hzv, hzx⟩ := zero_all hz
  refine ⟨(List.flatten (List.replicate c zx.cells.toList)).toArray, fun A n i kk => row_new0 (by simpa using rep_rel (ofVal_rel (A := A) (n := n) hzv).cells c) h6, fun A n N a w ht => ?_⟩
  have hrx := rd_rel ht hx
  have hry := rd_rel ht hy
  rw [h1] at hrx
  rw [h2] at hry
  refine ⟨_, makeSlice_run (w := w) ho he hsz hzv hzx hby h0 hzl hlc hc6 hcb hrx.of_i hry.of_i, fun B b m hB hb => ?_⟩
  rw [← hB]
  exact .slk _ _ _ _ _ hb
/-- An operation of such a region, ready. -/
structure DrOk (P : Program) (ops : Array Oper) (N i : Nat) (o : Oper) (r : Dr) : Prop where
  us : r.us = usesT ops o
  g : guardB ops o = some r.s.g
  d : dstB N o.dst = some r.s.d
  f : opB P o.op = some r.s.f
  k : (isE o.op = true ∧ r.k = .e) ∨ (∃ g, isSoft o.op = true ∧ SoftOk P o.op g ∧ r.k = .soft g) ∨
    (isE o.op = false ∧ (isSoft o.op = false ∧ quietB P o.op = true) ∧ r.k = .q ((none :: (idxs isE ops.toList).map some).filter (mayStand (bef ops.toList []) (idxs isE ops.toList) i)))
theorem isE_soft {o : Op} (h : isE o = true) : isSoft o = false := by cases o <;> first | rfl | (simp [isE] at h)
theorem drB_get {P : Program} {ops : Array Oper} {N : Nat} {l : List Dr} (h : drB P ops N = some l) : l.length = ops.size ∧ ∀ (i : Nat) (o : Oper), ops[i]? = some o → ∃ d, l[i]? = some d ∧ DrOk P ops N i o d := by
  unfold drB at h
  obtain ⟨h1, h2⟩ := mapO_get h
  refine ⟨by simpa using h1, fun i o ho => ?_⟩
  obtain ⟨d, h3, h4⟩ := h2 i (o, i) (by simp [List.getElem?_zipIdx, ho])
  refine ⟨d, h3, ?_⟩
  obtain ⟨s, hs, h4⟩ := ob_some h4
  obtain ⟨k, hk, h4⟩ := ob_some h4
  obtain ⟨hn, h4⟩ := bb_some h4
  injection h4 with h4
  subst h4
  unfold stB at hs
  obtain ⟨g, hg, hs⟩ := ob_some hs
  obtain ⟨dd, hd', hs⟩ := ob_some hs
  cases hnx : nextB o.op with
  | some x =>
    rw [hnx] at hs
    obtain ⟨x', _, hs⟩ := ob_some (show ob (rdB x) _ = some s from hs)
    obtain ⟨_, hs⟩ := bb_some hs
    injection hs with hs
    subst hs
    cases hn
  | none =>
    rw [hnx] at hs
    obtain ⟨f, hf, hs⟩ := ob_some (show ob (opB P o.op) _ = some s from hs)
    injection hs with hs
    subst hs
    refine ⟨rfl, hg, hd', hf, ?_⟩
    unfold dkB at hk
    cases he : isE o.op with
    | true =>
      rw [he, br_t] at hk
      injection hk with hk
      exact .inl ⟨rfl, hk.symm⟩
    | false =>
      rw [he, br_f] at hk
      split at hk
      · rename_i e heq
        obtain ⟨z, hz, hk⟩ := ob_some hk
        obtain ⟨ha, hk⟩ := bb_some hk
        injection hk with hk
        exact .inr (.inl ⟨_, by rw [heq]; rfl, by rw [heq]; exact alloc_soft hz ha, hk.symm⟩)
      · rename_i ty l c heq
        obtain ⟨rl, hl, hk⟩ := ob_some hk
        obtain ⟨rc, hc, hk⟩ := ob_some hk
        obtain ⟨e, he, hk⟩ := ob_some hk
        obtain ⟨sz, hsz, hk⟩ := ob_some hk
        obtain ⟨z, hz, hk⟩ := ob_some hk
        obtain ⟨by_, hby, hk⟩ := ob_some hk
        obtain ⟨h0, hk⟩ := bb_some hk
        obtain ⟨h1, hk⟩ := bb_some hk
        injection hk with hk
        exact .inr (.inl ⟨_, by rw [heq]; rfl, by rw [heq]; exact makeSlice_soft hl hc he hsz hz hby (Nat.le_of_ble_eq_true h0) (Nat.eq_of_beq_eq_true h1), hk.symm⟩)
      · rename_i hne hne2
        obtain ⟨hqu, hk⟩ := bb_some hk
        injection hk with hk
        refine .inr (.inr ⟨rfl, ⟨?_, hqu⟩, hk.symm⟩)
        cases ho : o.op <;> first | rfl | exact absurd ho (hne _) | exact absurd ho (hne2 _ _ _)
structure DrawFacts (ops : Array Oper) : Prop where
  hd : ∀ i j oi oj, ops[i]? = some oi → ops[j]? = some oj → isE oi.op = true → isE oj.op = true → i < j → Ahead ops i j
  sf : ∀ i j oi oj, ops[i]? = some oi → ops[j]? = some oj → isSoft oi.op = true → isE oj.op = true → i < j → Ahead ops i j
  sel : ∀ (j : Nat) (o : Oper), ops[j]? = some o → ∀ cs b, o.op ≠ .select cs b
  edge : ∀ (j : Nat) (o : Oper), ops[j]? = some o → ∀ e ∈ o.after, Region.binds .any e = true → e.on < j
  uniq : ∀ (i j : Nat) (p o : Oper) (d : Tmp), ops[i]? = some p → ops[j]? = some o → p.dst = some d → o.dst = some d → i = j
  uses : ∀ (i j : Nat) (p o : Oper) (d : Tmp), ops[i]? = some p → ops[j]? = some o → p.dst = some d → d ∈ usesT ops o → i = j ∨ (i < j ∧ Ahead ops i j) ∨ (j < i ∧ Ahead ops j i)
theorem drawOk_facts {ops : Array Oper} (h : drawOk ops = true) : DrawFacts ops := by
  unfold drawOk at h
  simp only [Bool.and_eq_true, List.all_eq_true] at h
  obtain ⟨⟨h1, h2⟩, h3⟩ := h
  have hm : ∀ {j : Nat} {o : Oper}, ops[j]? = some o → (o, j) ∈ ops.toList.zipIdx := fun {j o} ho => List.mem_zipIdx_iff_getElem?.2 (by simpa using ho)
  refine ⟨fun i j oi oj hi hj ei ej hlt => ?_, fun i j oi oj hi hj ei ej hlt => ?_, fun j o ho cs b he => ?_, fun j o ho e he hb => ?_, fun i j p o d hi hj hp ho => ?_, fun i j p o d hi hj hp ho => ?_⟩
  · have := h1 j (idxs_mem.2 ⟨oj, by simpa using hj, ej⟩) i (idxs_mem.2 ⟨oi, by simpa using hi, ei⟩)
    rw [blt_iff.2 hlt] at this
    simpa [Ahead] using this
  · have := h2 i (idxs_mem.2 ⟨oi, by simpa using hi, ei⟩) j (idxs_mem.2 ⟨oj, by simpa using hj, ej⟩)
    rw [blt_iff.2 hlt] at this
    simpa [Ahead] using this
  · have := (h3 _ (hm ho)).1.1
    rw [he] at this
    cases this
  · have := (h3 _ (hm ho)).1.2 e (by simpa using he)
    rw [hb] at this
    exact blt_iff.1 (by simpa using this)
  · have := (h3 _ (hm hj)).2 _ (hm hi)
    simp only [hp, Bool.and_eq_true, ho] at this
    simpa using this.1
  · have := (h3 _ (hm hj)).2 _ (hm hi)
    simp only [hp, Bool.and_eq_true] at this
    have h4 := this.2
    rw [show (usesT ops o).contains d = true by simpa using ho] at h4
    by_cases hij : i = j
    · exact .inl hij
    · right
      rw [beqF hij] at h4
      by_cases hlt : i < j
      · rw [blt_iff.2 hlt] at h4
        exact .inl ⟨hlt, by simpa [Ahead] using h4⟩
      · have hf : Nat.blt i j = false := by
          cases hb : Nat.blt i j with
          | false => rfl
          | true => exact absurd (blt_iff.1 hb) hlt
        rw [hf] at h4
        exact .inr ⟨by omega, by simpa [Ahead] using h4⟩
end Go.Proofs.YtaadfppfjjkgbaaGreatDoor.Vm
