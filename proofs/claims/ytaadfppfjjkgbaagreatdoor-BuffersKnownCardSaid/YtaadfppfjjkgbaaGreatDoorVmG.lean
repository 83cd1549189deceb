/- The small machine's operations do what the model's do: places, parts, slices, functions. -/
import Derived.Test.YtaadfppfjjkgbaaGreatDoorVmF
namespace Go.Proofs.YtaadfppfjjkgbaaGreatDoor.Vm
open Go Go.RowKit

section
variable {A : Sub} {h : H} {w : World} {P : Program}
theorem fieldB_some {s : TypeId} {f : Nat} {p : Nat × TypeId} (h : fieldB P s f = some p) : ∃ fs fd, P.underlying s = some (.struct fs) ∧ fs[f]? = some fd ∧ fd.offset = p.1 ∧ fd.type = p.2 := by
  unfold fieldB at h
  split at h
  · rename_i fs hu
    obtain ⟨fd, hfd, h⟩ := ob_some h
    rw [fN_eq] at h
    injection h with h
    subst h
    exact ⟨fs, fd, hu, hfd, rfl, rfl⟩
  · cases h
theorem fieldAddr_ok {s : TypeId} {x : Operand} {f : Nat} {rx : Rd} {p : Nat × TypeId} {n : Nat} {C : CallF} (hx : rdB x = some rx) (hp : fieldB P s f = some p) (hn : sizeB P p.2 = some n) (h0 : 0 < n) :
    OpQ P C (.fieldAddr s x f) ⟨fun _ t h K => rdK t rx fun x => asP x fun pt o => fN (Nat.add o p.1) fun o => K (.p pt o) h⟩ := by
  intro o ho A h w N t a K q hm ht hk
  simp only [rdK_eq] at hk
  obtain ⟨b, o', hv, hk⟩ := asP_some hk
  rw [fN_eq] at hk
  have hr := rd_rel ht hx
  rw [hv] at hr
  obtain ⟨h1, h2⟩ := hr.of_p
  obtain ⟨fs, fd, hu, hfd, h3, h4⟩ := fieldB_some hp
  rw [← h4] at hn
  have hn0 : n ≠ 0 := by omega
  refine ⟨_, hk, _, ?_, (.p b _ h2)⟩
  simp only [execOp, ho, h1, Instr.fieldAt, Sem.run_bind, run_und hu, Result.andThen_ok, hfd, Instr.sureAddr, Sem.run_pure, fieldPlace, run_size hn, if_neg hn0]
  rw [add_lit, h3]
  rfl
theorem indexAddr_ok {ty : TypeId} {x i : Operand} {rx ri : Rd} {f : Fx} {C : CallF} (hx : rdB x = some rx) (hi : rdB i = some ri) (hf : indexAddrB P ty rx ri = some f) : OpQ P C (.indexAddr ty x i) f := by
  intro o ho A h w N t a K q hm ht hk
  have hrx := rd_rel ht hx
  have hri := rd_rel ht hi
  unfold indexAddrB at hf
  split at hf
  · rename_i e hu
    obtain ⟨sz, hsz, hf⟩ := ob_some hf
    injection hf with hf
    subst hf
    simp only [rdK_eq] at hk
    obtain ⟨k, m, h1, hk⟩ := asN_some hk
    split at hk
    · rename_i b o' len cap kn z hv
      obtain ⟨hlt, hk⟩ := bb_some hk
      rw [fN_eq] at hk
      rw [hv] at hrx
      rw [h1] at hri
      obtain ⟨c, h2, h3, _⟩ := hrx.of_sl
      have h4 := hri.of_i
      have hlt : m < len := Nat.le_of_ble_eq_true hlt
      refine ⟨_, hk, _, ?_, (.p b _ h3)⟩
      simp only [execOp, ho, h2, h4, Instr.indexAt, asIntOf, Sem.run_bind, run_und hu, Result.andThen_ok, Sem.run_pure]
      have hb : (0 : Int) ≤ Int.ofNat m ∧ Int.ofNat m < (len : Int) := ⟨Int.natCast_nonneg m, by exact Int.ofNat_lt.2 hlt⟩
      simp only [hb, and_self, if_true, Sem.run_bind, run_size hsz, Result.andThen_ok, Sem.run_pure]
      rw [add_lit]
      rfl
    · cases hk
  · rename_i len e hu
    obtain ⟨sz, hsz, hf⟩ := ob_some hf
    injection hf with hf
    subst hf
    simp only [rdK_eq] at hk
    obtain ⟨k, m, h1, hk⟩ := asN_some hk
    obtain ⟨b, o', hv, hk⟩ := asP_some hk
    obtain ⟨hlt, hk⟩ := bb_some hk
    rw [fN_eq] at hk
    rw [hv] at hrx
    rw [h1] at hri
    obtain ⟨h2, h3⟩ := hrx.of_p
    have h4 := hri.of_i
    have hlt : m < len := Nat.le_of_ble_eq_true hlt
    refine ⟨_, hk, _, ?_, (.p b _ h3)⟩
    simp only [execOp, ho, h2, h4, Instr.indexAt, asIntOf, Sem.run_bind, run_und hu, Result.andThen_ok, Sem.run_pure, Instr.sureAddr]
    have hb : (0 : Int) ≤ Int.ofNat m ∧ Int.ofNat m < (len : Int) := ⟨Int.natCast_nonneg m, by exact Int.ofNat_lt.2 hlt⟩
    simp only [hb, and_self, if_true, Sem.run_bind, run_size hsz, Result.andThen_ok, Sem.run_pure]
    rw [add_lit]
    rfl
  · cases hf
theorem nilCheck_ok {x : Operand} {rx : Rd} {C : CallF} (hx : rdB x = some rx) : OpQ P C (.nilCheck x) ⟨fun _ t h K => rdK t rx fun x => match x with
    | .p pt o => K (.p pt o) h
    | .fn (.func f) a b => K (.fn (.func f) a b) h
    | .iface ty v => K (.iface ty v) h
    | _ => none⟩ := by
  intro o ho A h w N t a K q hm ht hk
  have hrx := rd_rel ht hx
  simp only [rdK_eq] at hk
  split at hk
  · rename_i b o' hv
    rw [hv] at hrx
    obtain ⟨h1, h2⟩ := hrx.of_p
    exact ⟨_, hk, _, (by simp only [execOp, ho, h1]; rfl), (.p _ _ h2)⟩
  · rename_i f l r hv
    rw [hv] at hrx
    obtain ⟨xs, ys, h1, h2, h3⟩ := hrx.of_fn
    exact ⟨_, hk, _, (by simp only [execOp, ho, h1]; rfl), (.fn _ _ _ _ _ h2 h3)⟩
  · rename_i ty v hv
    rw [hv] at hrx
    obtain ⟨y, h1, h2⟩ := hrx.of_iface
    exact ⟨_, hk, _, (by simp only [execOp, ho, h1]; rfl), (.iface _ _ _ h2)⟩
  · cases hk
theorem extract_ok {x : Operand} {i : Nat} {rx : Rd} {C : CallF} (hx : rdB x = some rx) : OpQ P C (.extract x i) ⟨fun _ t h K => rdK t rx fun x => asTup x fun l => ob l[i]? fun v => K v h⟩ := by
  intro o ho A h w N t a K q hm ht hk
  have hrx := rd_rel ht hx
  simp only [rdK_eq] at hk
  obtain ⟨l, hv, hk⟩ := asTup_some hk
  obtain ⟨v, hl, hk⟩ := ob_some hk
  rw [hv] at hrx
  obtain ⟨xs, h1, h2⟩ := hrx.of_tup
  obtain ⟨y, h3, h4⟩ := h2.get hl
  refine ⟨_, hk, y, ?_, h4⟩
  have h3 : xs[i]? = some y := by simpa using h3
  simp only [execOp, ho, h1, Instr.extract, h3, Sem.run_bind, Sem.run_pure, Result.andThen_ok]
theorem pick_ok {c x y : Operand} {rc rx ry : Rd} {C : CallF} (hc : rdB c = some rc) (hx : rdB x = some rx) (hy : rdB y = some ry) :
    OpQ P C (.pick c x y) ⟨fun _ t h K => rdK t rc fun c => asB c fun c => br c (rdK t rx fun v => K v h) (rdK t ry fun v => K v h)⟩ := by
  intro o ho A h w N t a K q hm ht hk
  have hrc := rd_rel ht hc
  simp only [rdK_eq] at hk
  obtain ⟨b, hv, hk⟩ := asB_some hk
  rw [hv] at hrc
  have h1 := hrc.of_b
  cases b with
  | true => exact ⟨_, hk, _, (by simp [execOp, ho, h1, asBool]), (rd_rel ht hx)⟩
  | false => exact ⟨_, hk, _, (by simp [execOp, ho, h1, asBool]), (rd_rel ht hy)⟩
theorem unary_arith {op : BinOp} {k : IntKind} {a c : Int} {β : Type} {K : V → Option β} {r : β} {n : Nat} (hop : op = .sub ∨ op = .xor) (h : arith op k a c K = some r) : ∃ v x, K v = some r ∧ Rel A n v x ∧ ((if op = .sub then Op.intArith op k a c else Op.intBits op k a c)).run P w = .ok x w := by
  rcases hop with rfl | rfl
  · simp only [arith, mkI_eq] at h
    exact ⟨_, _, h, .i _ _, by simp [Op.intArith]⟩
  · simp only [arith, mkI_eq] at h
    exact ⟨_, _, h, .i _ _, by simp [Op.intBits]⟩
theorem not_ok {ty : TypeId} {x : Operand} {rx : Rd} {C : CallF} (hx : rdB x = some rx) : OpQ P C (.unOp .not ty x) ⟨fun _ t h K => rdK t rx fun x => asB x fun x => mkB (!x) fun v => K v h⟩ := by
  intro o ho A h w N t a K q hm ht hk
  have hrx := rd_rel ht hx
  simp only [rdK_eq] at hk
  obtain ⟨b, hv, hk⟩ := asB_some hk
  rw [mkB_eq] at hk
  rw [hv] at hrx
  exact ⟨_, hk, _, (by simp [execOp, ho, hrx.of_b, Op.unary]), (.b _)⟩
theorem neg_ok {ty : TypeId} {x : Operand} {rx : Rd} {C : CallF} (hx : rdB x = some rx) : OpQ P C (.unOp .neg ty x) ⟨fun _ t h K => rdK t rx fun x => asI x fun k n => arith .sub k 0 n fun v => K v h⟩ := by
  intro o ho A h w N t a K q hm ht hk
  have hrx := rd_rel ht hx
  simp only [rdK_eq] at hk
  obtain ⟨k, n, hv, hk⟩ := asI_some hk
  rw [hv] at hrx
  obtain ⟨v, y, h1, h2, h3⟩ := unary_arith (P := P) (A := A) (w := w) (n := h.next) (.inl rfl) hk
  rw [if_pos rfl] at h3
  exact ⟨_, h1, _, (by simp only [execOp, ho, hrx.of_i, Op.unary, Sem.run_bind, h3, Result.andThen_ok, Sem.run_pure]), h2⟩
theorem xor_ok {ty : TypeId} {x : Operand} {rx : Rd} {C : CallF} (hx : rdB x = some rx) : OpQ P C (.unOp .xor ty x) ⟨fun _ t h K => rdK t rx fun x => asI x fun k n => arith .xor k (if k.signed then -1 else k.max) n fun v => K v h⟩ := by
  intro o ho A h w N t a K q hm ht hk
  have hrx := rd_rel ht hx
  simp only [rdK_eq] at hk
  obtain ⟨k, n, hv, hk⟩ := asI_some hk
  rw [hv] at hrx
  obtain ⟨v, y, h1, h2, h3⟩ := unary_arith (P := P) (A := A) (w := w) (n := h.next) (.inr rfl) hk
  rw [if_neg (by decide)] at h3
  exact ⟨_, h1, _, (by simp only [execOp, ho, hrx.of_i, Op.unary, Sem.run_bind, h3, Result.andThen_ok, Sem.run_pure]), h2⟩
/-! ### Aggregates -/
theorem placesB_some : ∀ (fs : List Field) (pl : List (Nat × Nat)), mapO (fun f : Field => ob (sizeB P f.type) fun n => fN f.offset fun o => some (o, n)) fs = some pl →
    (fs.mapM (m := Sem) fun f => do pure (f.offset, ← sizeOf f.type)).run P w = .ok pl w
  | [], pl, h => by rw [mapO_nil h]; rfl
  | f :: fs, pl, h => by
    obtain ⟨y, q, h1, h2, rfl⟩ := mapO_cons h
    obtain ⟨n, hn, h1⟩ := ob_some h1
    rw [fN_eq] at h1
    injection h1 with h1
    subst h1
    have ih := placesB_some fs q h2
    rw [List.mapM_cons]
    simp only [Sem.run_bind, run_size hn, Result.andThen_ok, Sem.run_pure, ih]
theorem build_ok {ty : TypeId} {parts : Array (Nat × Operand)} {z : V} {f : Fx} {C : CallF} (hz : zeroB P ty = some z) (hf : (match P.underlying ty with
      | some (.struct _) => ob (placesB P ty) fun pl => ob (partsB (pl[·]?) parts.toList) fun ps => some ⟨fun _ t h K => ob (rdP t ps) fun ps => ob (fillL z.cells ps) fun l => K (.agg l) h⟩
      | some (.array _ e) => ob (sizeB P e) fun sz => ob (partsB (fun i => some (i * sz, sz)) parts.toList) fun ps => some ⟨fun _ t h K => ob (rdP t ps) fun ps => ob (fillL z.cells ps) fun l => K (.agg l) h⟩
      | _ => none) = some f) : OpQ P C (.build ty parts) f := by
  intro o ho A h w N t a K q hm ht hk
  obtain ⟨x, hx1, hx2⟩ := run_zero (w := w) hz
  have hzr : RelL A h.next z.cells x.cells.toList := (ofVal_rel hx2).cells
  split at hf
  · rename_i fs hu
    obtain ⟨pl, hpl, hf⟩ := ob_some hf
    obtain ⟨ps, hps, hf⟩ := ob_some hf
    injection hf with hf
    subst hf
    obtain ⟨vs, hvs, hk⟩ := ob_some hk
    obtain ⟨l, hl, hk⟩ := ob_some hk
    unfold placesB at hpl
    rw [hu] at hpl
    have hplr := placesB_some (w := w) fs.toList pl hpl
    have hparts := parts_rel ht _ ps vs hps hvs
    obtain ⟨ys, h1, h2⟩ := fill_rel vs _ (fun i => pl[i]?) z.cells x.cells.toList l hzr hl hparts
    refine ⟨_, hk, .agg ys.toArray, ?_, (.agg _ _ h2)⟩
    have hmap : (fs.mapM (m := Sem) fun f => do pure (f.offset, ← sizeOf f.type)).run P w = .ok pl.toArray w := by
      rw [Array.mapM_eq_mapM_toList, Sem.run_map, hplr]
      rfl
    simp only [execOp, ho, Instr.build, Sem.run_bind, hx1, Result.andThen_ok, Sem.run_pure, run_und hu, hmap]
    have e : Instr.fill (fun i => pl.toArray[i]?) x.cells (parts.map fun (i, x) => (i, a.eval x)).toList = some ys.toArray := by
      rw [Array.toList_map]
      simpa using h1
    simp only [e, Sem.run_pure, Result.andThen_ok]
  · rename_i n e hu
    obtain ⟨sz, hsz, hf⟩ := ob_some hf
    obtain ⟨ps, hps, hf⟩ := ob_some hf
    injection hf with hf
    subst hf
    obtain ⟨vs, hvs, hk⟩ := ob_some hk
    obtain ⟨l, hl, hk⟩ := ob_some hk
    have hparts := parts_rel ht _ ps vs hps hvs
    obtain ⟨ys, h1, h2⟩ := fill_rel vs _ (fun i => some (i * sz, sz)) z.cells x.cells.toList l hzr hl hparts
    refine ⟨_, hk, .agg ys.toArray, ?_, (.agg _ _ h2)⟩
    simp only [execOp, ho, Instr.build, Sem.run_bind, hx1, Result.andThen_ok, Sem.run_pure, run_und hu, run_size hsz]
    have e : Instr.fill (fun i => some (i * sz, sz)) x.cells (parts.map fun (i, x) => (i, a.eval x)).toList = some ys.toArray := by
      rw [Array.toList_map]
      simpa using h1
    simp only [e, Sem.run_pure, Result.andThen_ok]
  · cases hf
theorem run_newRow (e : TypeId) (cs : Array Value) : (Go.newRow e cs).run P w = .ok ⟨w.heap.size, 0, none⟩ (w.alloc (.cells cs e)) := rfl
theorem buildSlice_ok {ty e : TypeId} {len sz : Nat} {parts : Array (Nat × Operand)} {z : V} {ps : List (Nat × Nat × Rd)} {C : CallF} (he : elemB P ty = some e) (hsz : sizeB P e = some sz) (hz : zeroB P e = some z) (h0 : 0 < sz) (hzl : z.cells.length = sz)
    (hb : len * sz ≤ 65536) (hps : partsB (fun i => some (i * sz, sz)) parts.toList = some ps) :
    OpOk P C (.buildSlice ty len parts) ⟨fun _ t h K => ob (rdP t ps) fun ps => ob (fillL (rep z.cells len) ps) fun l => Vm.newRow h e l false fun b h => K (.sl b 0 len len true sz) h⟩ := by
  intro o ho A h w N t a K q hm ht hk
  obtain ⟨x, hx1, hx2⟩ := run_zero (w := w) hz
  have hzr : RelL A h.next z.cells x.cells.toList := (ofVal_rel hx2).cells
  have hxs : x.cells.size = sz := by have := hzr.length; rw [Array.length_toList] at this; omega
  obtain ⟨vs, hvs, hk⟩ := ob_some hk
  obtain ⟨l, hl, hk⟩ := ob_some hk
  obtain ⟨h3, hk⟩ := newRow_some hk
  have hparts := parts_rel ht _ ps vs hps hvs
  obtain ⟨ys, h1, h2⟩ := fill_rel vs _ (fun i => some (i * sz, sz)) (rep z.cells len) _ l (rep_rel hzr len) hl hparts
  refine ⟨_, _, hk, .value (x := .slice (some ⟨w.heap.size, 0, none⟩) len len) (w' := w.alloc (.cells ys.toArray e)) ?_ ⟨_, Ev.new (k := 0) hm (row_new0 (by simpa using h2) h3), sl_new A h.next w.heap.size 0 len len sz⟩⟩
  have hu := elem_und he
  have hbig : ¬ (len * sz > 2 ^ 24) := by omega
  have e1 : Instr.fill (fun i => some (i * sz, sz)) (List.flatten (List.replicate len x.cells.toList)).toArray (parts.map fun (i, x) => (i, a.eval x)).toList = some ys.toArray := by
    rw [Array.toList_map]
    simpa using h1
  by_cases hl0 : len * sz = 0
  · have hlen : len = 0 := by
      rcases Nat.mul_eq_zero.1 hl0 with h | h
      · exact h
      · omega
    subst hlen
    have e2 : Instr.fill (fun i => some (i * sz, sz)) #[] (parts.map fun (i, x) => (i, a.eval x)).toList = some ys.toArray := by simpa using e1
    have e3 : (Array.map (fun _ => (default : Value)) (Array.range 0)) = #[] := by apply Array.ext'; simp
    simp at e2
    simp [execOp, ho, Instr.buildSlice, run_und hu, run_size hsz, e3, e2, run_newRow]
  · have e3 := zero_rep x.cells len sz hxs h0
    simp only [execOp, ho, Instr.buildSlice, Sem.run_bind, run_und hu, Result.andThen_ok, run_size hsz, if_neg hbig, if_neg hl0, hx1, Sem.run_pure]
    rw [e3, e1]
    simp only [Sem.run_bind, run_newRow, Result.andThen_ok, Sem.run_pure]
theorem bytesB_some {e : TypeId} {n : Nat} (h : bytesB P e = some n) : ∃ i, P.info? e = some i ∧ i.bytes = n := by
  unfold bytesB at h
  obtain ⟨i, hi, h⟩ := ob_some h
  rw [fN_eq] at h
  injection h with h
  exact ⟨i, hi, h⟩
end
end Go.Proofs.YtaadfppfjjkgbaaGreatDoor.Vm
