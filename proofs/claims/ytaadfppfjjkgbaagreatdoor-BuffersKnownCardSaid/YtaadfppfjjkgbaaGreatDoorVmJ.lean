/- The small machine's operations do what the model's do: maps of whole numbers, calls. -/
import Derived.Test.YtaadfppfjjkgbaaGreatDoorVmI
namespace Go.Proofs.YtaadfppfjjkgbaaGreatDoor.Vm
open Go Go.RowKit

section
variable {A : Sub} {h : H} {w : World} {P : Program} {β : Type}
theorem mapK_some {r : Nat} {K : List En → Nat → Option β} {q : β} (hm : Mt A h w) (hk : mapK h r K = some q) : ∃ es c xs, h.t.get r = some (.map es c) ∧ w.heap[A.ι r]? = some (.map xs c) ∧ xs.size = es.length ∧
    (∀ (j : Nat) (e : En), es[j]? = some e → ∃ y, xs[j]? = some y ∧ EnRel A h.next e y) ∧ K es c = some q := by
  unfold mapK at hk
  obtain ⟨x, hx, hk⟩ := ob_some hk
  split at hk
  · rename_i es c
    obtain ⟨o, ho, xs, rfl, h1, h2⟩ := hm.obj r _ hx
    exact ⟨es, c, xs, hx, ho, h1, h2, hk⟩
  · cases hk
theorem run_getMap {r c : Nat} {xs : Array MapEntry} (hr : w.heap[r]? = some (.map xs c)) : (getObj r).run P w = .ok (.map xs c) w := by
  simp only [getObj, Sem.run, hr]
theorem run_setMap {r c : Nat} {xs : Array MapEntry} {o : Obj} (hr : w.heap[r]? = some (.map xs c)) : (setObj r o).run P w = .ok () { w with heap := w.heap.setIfInBounds r o } := by
  simp only [setObj, Sem.run, hr]
theorem keyInt_some {ty e : TypeId} (h : keyInt P ty = some e) : ∃ k q, P.underlying ty = some (.map k e) ∧ P.underlying k = some (.int q) := by
  unfold keyInt at h
  split at h
  · rename_i k e' hu
    split at h
    · rename_i q hq
      injection h with h
      subst h
      exact ⟨k, q, hu, hq⟩
    · cases h
  · cases h
theorem run_check {b : Bool} (d : Nat) {k : TypeId} {q j : IntKind} {n : Int} (hk : P.underlying k = some (.int q)) : (Instr.checkKey b (d + 1) k (.int j n)).run P w = .ok () w := by
  simp only [Instr.checkKey, Sem.run_bind, run_und hk, Result.andThen_ok, Sem.run_pure]
theorem find_none {n : Nat} {q k : IntKind} {m : Int} : ∀ (es : List En) (xs : List MapEntry) (i : Nat), xs.length = es.length → (∀ (j : Nat) (e : En), es[j]? = some e → ∃ y, xs[j]? = some y ∧ EnRel A n e y) → findE k m es = some none → Instr.findNow (.int q) (.int k m) xs i = some none
  | [], xs, i, hl, _, _ => by
    obtain rfl : xs = [] := List.eq_nil_of_length_eq_zero hl
    rfl
  | e :: es, [], i, hl, _, _ => by simp at hl
  | e :: es, x :: xs, i, hl, hr, hf => by
    simp only [findE] at hf
    obtain ⟨hk, hf⟩ := bb_some hf
    have hk := of_decide_eq_true hk
    obtain ⟨y, hy, h1, _, _⟩ := hr 0 e rfl
    simp only [List.getElem?_cons_zero, Option.some.injEq] at hy
    subst hy
    simp only [Instr.findNow, h1, Instr.sameNow, hk, if_true]
    cases hne : (m == e.n) with
    | true => rw [hne] at hf; simp at hf
    | false =>
      rw [hne] at hf
      simp only [cond_false] at hf
      rw [← hk]
      exact find_none es xs (i + 1) (by simpa using hl) (fun j e' he' => by simpa using hr (j + 1) e' (by simpa using he')) hf
theorem find_some {n : Nat} {q k : IntKind} {m : Int} {v : V} : ∀ (es : List En) (xs : List MapEntry) (i : Nat), xs.length = es.length → (∀ (j : Nat) (e : En), es[j]? = some e → ∃ y, xs[j]? = some y ∧ EnRel A n e y) → findE k m es = some (some v) →
    ∃ j y e, es[j]? = some e ∧ xs[j]? = some y ∧ e.v = v ∧ y.key = .int k m ∧ Rel A n v y.val ∧ Instr.findNow (.int q) (.int k m) xs i = some (some (i + j, y.val)) ∧ (∀ u9, putE m u9 es = es.set j { e with v := u9 })
  | [], xs, i, hl, _, hf => by simp [findE] at hf
  | e :: es, [], i, hl, _, _ => by simp at hl
  | e :: es, x :: xs, i, hl, hr, hf => by
    simp only [findE] at hf
    obtain ⟨hk, hf⟩ := bb_some hf
    have hk := of_decide_eq_true hk
    obtain ⟨y, hy, h1, h2, h3⟩ := hr 0 e rfl
    simp only [List.getElem?_cons_zero, Option.some.injEq] at hy
    subst hy
    cases hne : (m == e.n) with
    | true =>
      rw [hne] at hf
      simp only [cond_true, Option.some.injEq] at hf
      have hm : m = e.n := by simpa using hne
      refine ⟨0, x, e, rfl, rfl, hf, by rw [h1, hk, hm], by rw [← hf]; exact h2, ?_, fun u9 => by simp [putE, hne]⟩
      simp [Instr.findNow, h1, Instr.sameNow, hk, hm]
    | false =>
      rw [hne] at hf
      simp only [cond_false] at hf
      obtain ⟨j, y, e', h4, h5, h6, h7, h8, h9, h10⟩ := find_some (q := q) es xs (i + 1) (by simpa using hl) (fun j e' he' => by simpa using hr (j + 1) e' (by simpa using he')) hf
      refine ⟨j + 1, y, e', by simpa using h4, by simpa using h5, h6, h7, h8, ?_, fun u9 => by simp [putE, hne, h10]⟩
      simp only [Instr.findNow, h1, Instr.sameNow, ← hk, if_true, hne]
      rw [h9]
      congr 3
      omega
theorem newMap_ok {ty : TypeId} {C : CallF} : OpOk P C (.makeMap ty none) ⟨fun _ _ h K => newO h (.map [] 0) fun b h => K (.m b) h⟩ := by
  intro o ho A h w N t a K q hm ht hk
  have hk : newO h (.map [] 0) (fun b h => K (.m b) h) = some q := hk
  have hk := newO_some hk
  have hor : ORel A h.next w.heap.size 0 (.map [] 0) (.map #[] 0) := ⟨#[], rfl, rfl, fun j e he => by simp at he⟩
  refine ⟨_, _, hk, .value (x := .map (some w.heap.size)) (w' := w.alloc (.map #[] 0)) ?_ ⟨_, Ev.new (k := 0) hm hor, ?_⟩⟩
  · simp only [execOp, ho, Option.map_none, Instr.makeMap, Sem.run_bind, Sem.run_pure]
    rfl
  · have : Rel (A.ext h.next w.heap.size 0) (h.next + 1) (.m h.next) (.map (some ((A.ext h.next w.heap.size 0).ι h.next))) := .m _ (Nat.lt_succ_self _)
    simpa [Sub.ext] using this
theorem heap_set (w : World) (g : Nat) (o : Obj) (hg : g < w.heap.size) : ({ w with heap := w.heap.setIfInBounds g o } : World).heap[g]? = some o := by simp [hg]
theorem heap_set_ne (w : World) (g k : Nat) (o : Obj) (hk : k ≠ g) : ({ w with heap := w.heap.setIfInBounds g o } : World).heap[k]? = w.heap[k]? := by
  simp [Array.getElem?_setIfInBounds_ne (Ne.symm hk)]
theorem updK_some {ty e : TypeId} {vm vk vv : V} {m k v : Value} {K : H → Option β} {q : β} (hm : Mt A h w) (hu : keyInt P ty = some e) (h1 : Rel A h.next vm m) (h2 : Rel A h.next vk k) (h3 : Rel A h.next vv v) (hk : updK h vm vk vv K = some q) :
    ∃ h' w', K h' = some q ∧ (Instr.mapUpdate ty m k v).run P w = .ok () w' ∧ Ev A h w A h' w' ∧ h'.next = h.next := by
  unfold updK at hk
  split at hk
  · rename_i r
    obtain ⟨rfl, hr⟩ := h1.of_m
    obtain ⟨j, n, rfl, hk⟩ := asI_some hk
    obtain rfl := h2.of_i
    obtain ⟨es, c, xs, hb, hx, hsz, hes, hk⟩ := mapK_some hm hk
    obtain ⟨f, hf, hk⟩ := ob_some hk
    obtain ⟨kt, kq, ht, hkt⟩ := keyInt_some hu
    have hlt := hm.ilt hb
    cases f with
    | none =>
      have hk : fN (Nat.succ c) (fun c1 => Tr.put (some (.map (es ++ [⟨j, n, vv, c⟩]) c1)) h.t r fun t => K ⟨h.next, t⟩) = some q := hk
      rw [fN_eq, Tr.put_set] at hk
      have hfn := find_none (q := kq) (n := h.next) es xs.toList 0 (by simpa using hsz) (fun j e he => by simpa using hes j e he) hf
      refine ⟨_, { w with heap := w.heap.setIfInBounds (A.ι r) (.map (xs.push { key := .int j n, val := v, born := c }) (c + 1)) }, hk, ?_, Ev.upd hm hb rfl ?_ (heap_set w _ _ hlt) (fun k hk => heap_set_ne w _ k _ hk) (by simp) rfl rfl rfl, rfl⟩
      · have hc := run_check (P := P) (w := w) (b := false) 9999 (j := j) (n := n) hkt
        simp only [Instr.mapUpdate, Sem.run_bind, run_und ht, Result.andThen_ok, run_getMap hx]
        rw [show (Instr.checkKey false 10000 kt (.int j n)).run P w = .ok () w from hc]
        simp only [Result.andThen_ok, Instr.findKey, Sem.run_bind, run_und hkt, hfn, Sem.run_pure, run_setMap hx]
      · refine ⟨_, rfl, by simp [hsz], fun i e he => ?_⟩
        by_cases hi : i < es.length
        · rw [List.getElem?_append_left hi] at he
          obtain ⟨y, hy, hr⟩ := hes i e he
          exact ⟨y, by rw [Array.getElem?_push_lt (by omega)]; rw [Array.getElem?_eq_getElem (by omega)] at hy; exact hy, hr⟩
        · have hi2 : i = es.length := by
            have := (List.getElem?_eq_some_iff.1 he).1
            simp at this
            omega
          subst hi2
          simp at he
          subst he
          refine ⟨{ key := .int j n, val := v, born := c }, by rw [← hsz]; simp, rfl, h3, rfl⟩
    | some u9 =>
      have hk : Tr.put (some (.map (putE n vv es) c)) h.t r (fun t => K ⟨h.next, t⟩) = some q := hk
      rw [Tr.put_set] at hk
      obtain ⟨i, y, e', h4, h5, h6, h7, h8, h9, h10⟩ := find_some (q := kq) (n := h.next) es xs.toList 0 (by simpa using hsz) (fun j e he => by simpa using hes j e he) hf
      rw [Nat.zero_add] at h9
      have h5 : xs[i]? = some y := by simpa using h5
      refine ⟨_, { w with heap := w.heap.setIfInBounds (A.ι r) (.map (xs.modify i fun e => { e with key := .int j n, val := v }) c) }, hk, ?_, Ev.upd hm hb rfl ?_ (heap_set w _ _ hlt) (fun k hk => heap_set_ne w _ k _ hk) (by simp) rfl rfl rfl, rfl⟩
      · have hc := run_check (P := P) (w := w) (b := false) 9999 (j := j) (n := n) hkt
        simp only [Instr.mapUpdate, Sem.run_bind, run_und ht, Result.andThen_ok, run_getMap hx]
        rw [show (Instr.checkKey false 10000 kt (.int j n)).run P w = .ok () w from hc]
        simp only [Result.andThen_ok, Instr.findKey, Sem.run_bind, run_und hkt, h9, Sem.run_pure, h5, Option.map_some, Option.getD_some, h7]
        have hst : (Instr.keyThatStays (.int j n) (.int j n)).run P w = .ok (.int j n) w := by
          unfold Instr.keyThatStays
          rw [if_pos (by simp [Instr.sameBits])]
          rfl
        simp only [hst, Result.andThen_ok, run_setMap hx]
      · rw [h10]
        refine ⟨_, rfl, by simp [hsz], fun l e he => ?_⟩
        rw [List.getElem?_set] at he
        by_cases hl : i = l
        · subst hl
          rw [if_pos rfl] at he
          split at he
          · injection he with he
            subst he
            obtain ⟨y', hy', hr1, hr2, hr3⟩ := hes i e' h4
            rw [h5] at hy'
            injection hy' with hy'
            subst hy'
            refine ⟨{ y with key := .int j n, val := v }, by simp [Array.getElem?_modify, h5], ?_, h3, hr3⟩
            rw [← h7]; exact hr1
          · cases he
        · rw [if_neg hl] at he
          obtain ⟨y', hy', hr⟩ := hes l e he
          exact ⟨y', by rw [Array.getElem?_modify, if_neg hl]; exact hy', hr⟩
  · cases hk
theorem insert_ok {ty e : TypeId} {x y z : Operand} {rx ry rz : Rd} {C : CallF} (hx : rdB x = some rx) (hy : rdB y = some ry) (hz : rdB z = some rz) (hu : keyInt P ty = some e) :
    OpOk P C (.insert ty x y z) ⟨fun _ t h K => rdK t rx fun m => rdK t ry fun k => rdK t rz fun v => updK h m k v fun h => K .u h⟩ := by
  intro o ho A h w N t a K q hm ht hk
  simp only [rdK_eq] at hk
  obtain ⟨h', w', h1, h2, h3, _⟩ := updK_some hm hu (rd_rel ht hx) (rd_rel ht hy) (rd_rel ht hz) hk
  exact ⟨_, _, h1, .skip (w' := w') (by simp only [execOp, ho, Sem.run_bind, h2, Result.andThen_ok, Sem.run_pure]) ⟨A, h3, .u⟩⟩
theorem mapUpdate_ok {ty e : TypeId} {x y z : Operand} {rx ry rz : Rd} {C : CallF} (hx : rdB x = some rx) (hy : rdB y = some ry) (hz : rdB z = some rz) (hu : keyInt P ty = some e) :
    OpOk P C (.mapUpdate ty x y z) ⟨fun _ t h K => rdK t rx fun m => rdK t ry fun k => rdK t rz fun v => updK h m k v fun h => K .u h⟩ := by
  intro o ho A h w N t a K q hm ht hk
  simp only [rdK_eq] at hk
  obtain ⟨h', w', h1, h2, h3, _⟩ := updK_some hm hu (rd_rel ht hx) (rd_rel ht hy) (rd_rel ht hz) hk
  exact ⟨_, _, h1, .skip (w' := w') (by simp only [execOp, ho, Sem.run_bind, h2, Result.andThen_ok, Sem.run_pure]) ⟨A, h3, .u⟩⟩
theorem lookup_ok {ty e : TypeId} {x y : Operand} {ok : Bool} {rx ry : Rd} {z : V} {C : CallF} (hx : rdB x = some rx) (hy : rdB y = some ry) (hu : keyInt P ty = some e) (hz : zeroB P e = some z) :
    OpQ P C (.lookup ty x y ok) ⟨fun _ t h K => rdK t rx fun m => rdK t ry fun k => lookK h m k z ok fun v => K v h⟩ := by
  intro o ho A h w N t a K q hm ht hk
  simp only [rdK_eq] at hk
  unfold lookK at hk
  have hrx := rd_rel ht hx
  have hry := rd_rel ht hy
  obtain ⟨j, n, h1, hk⟩ := asI_some hk
  rw [h1] at hry
  have hry := hry.of_i
  obtain ⟨f, hf, hk⟩ := ob_some hk
  obtain ⟨kt, kq, htt, hkt⟩ := keyInt_some hu
  obtain ⟨zx, hz1, hz2⟩ := run_zero (w := w) hz
  have fin : ∀ (v : V) (x' : Value) (b : Bool), Rel A h.next v x' → (execOp a.eval o).run P w = .ok (.value (if ok = true then .tuple #[x', .bool b] else x')) w → br ok (K (.tup [v, .b b]) h) (K v h) = some q → ∃ v, K v h = some q ∧ ∃ x, (execOp a.eval o).run P w = .ok (.value x) w ∧ Rel A h.next v x := by
    intro v x' b hv he hk
    cases ok with
    | true =>
      rw [br_t] at hk
      exact ⟨_, hk, _, he, (.tup _ _ (.cons _ _ _ _ hv (.cons _ _ _ _ (.b _) .nil)))⟩
    | false =>
      rw [br_f] at hk
      exact ⟨_, hk, _, he, hv⟩
  have hc := fun b => run_check (P := P) (w := w) (b := b) 9999 (j := j) (n := n) hkt
  split at hf
  · rename_i hv
    rw [hv] at hrx
    have hrx := hrx.of_nm
    injection hf with hf
    subst hf
    refine fin z zx false (ofVal_rel hz2) ?_ hk
    simp only [execOp, ho, hrx, hry, Instr.lookup, Sem.run_bind, run_und htt, Result.andThen_ok, Sem.run_pure]
    rw [show (Instr.checkKey (#[] : Array MapEntry).isEmpty 10000 kt (.int j n)).run P w = .ok () w from hc _]
    simp only [Result.andThen_ok, Instr.findKey, Sem.run_bind, run_und hkt, Instr.findNow, Sem.run_pure, hz1]
  · rename_i r hv
    rw [hv] at hrx
    obtain ⟨hrx, hr⟩ := hrx.of_m
    obtain ⟨es, c, xs, hb, hx, hsz, hes, hf⟩ := mapK_some hm hf
    cases f with
    | none =>
      have hfn := find_none (q := kq) (n := h.next) es xs.toList 0 (by simpa using hsz) (fun j e he => by simpa using hes j e he) hf
      refine fin z zx false (ofVal_rel hz2) ?_ hk
      simp only [execOp, ho, hrx, hry, Instr.lookup, Sem.run_bind, run_und htt, Result.andThen_ok, run_getMap hx, Sem.run_pure]
      rw [show (Instr.checkKey xs.isEmpty 10000 kt (.int j n)).run P w = .ok () w from hc _]
      simp only [Result.andThen_ok, Instr.findKey, Sem.run_bind, run_und hkt, hfn, Sem.run_pure, hz1]
    | some v =>
      obtain ⟨i, y, e', h4, h5, h6, h7, h8, h9, h10⟩ := find_some (q := kq) (n := h.next) es xs.toList 0 (by simpa using hsz) (fun j e he => by simpa using hes j e he) hf
      refine fin v y.val true h8 ?_ hk
      simp only [execOp, ho, hrx, hry, Instr.lookup, Sem.run_bind, run_und htt, Result.andThen_ok, run_getMap hx, Sem.run_pure]
      rw [show (Instr.checkKey xs.isEmpty 10000 kt (.int j n)).run P w = .ok () w from hc _]
      simp only [Result.andThen_ok, Instr.findKey, Sem.run_bind, run_und hkt, h9, Sem.run_pure]
  · cases hf
theorem range_ok {ty e : TypeId} {x : Operand} {rx : Rd} {C : CallF} (hx : rdB x = some rx) (hu : keyInt P ty = some e) : OpOk P C (.range ty x) ⟨fun _ t h K => rdK t rx fun x => match x with
    | .m r => mapK h r fun _ c => newO h (.iter r c [] c) fun b h => K (.p b 0) h
    | _ => none⟩ := by
  intro o ho A h w N t a K q hm ht hk
  have hrx := rd_rel ht hx
  simp only [rdK_eq] at hk
  split at hk
  · rename_i r hv
    rw [hv] at hrx
    obtain ⟨hrx, hr⟩ := hrx.of_m
    obtain ⟨es, c, xs, hb, hx, hsz, hes, hk⟩ := mapK_some hm hk
    have hk := newO_some hk
    obtain ⟨kt, kq, htt, hkt⟩ := keyInt_some hu
    have hor : ORel A h.next w.heap.size 0 (.iter r c [] c) (.mapIter (some (A.ι r)) c #[] c) := ⟨hr, rfl⟩
    refine ⟨_, _, hk, .value (x := .pointer (some ⟨w.heap.size, 0, none⟩)) (w' := w.alloc (.mapIter (some (A.ι r)) c #[] c)) ?_ ⟨_, Ev.new (k := 0) hm hor, ptr_new A h.next w.heap.size 0⟩⟩
    simp only [execOp, ho, hrx, Instr.range, Sem.run_bind, run_und htt, Result.andThen_ok, run_getMap hx, Sem.run_pure]
    rfl
  · cases hk
theorem run_getIter {r s l : Nat} {m : Option Nat} {xs : Array Nat} (hr : w.heap[r]? = some (.mapIter m s xs l)) : (getObj r).run P w = .ok (.mapIter m s xs l) w := by
  simp only [getObj, Sem.run, hr]
theorem find_pt {n : Nat} {s : Nat} : ∀ (es : List En) (xs : List MapEntry), xs.length = es.length → (∀ (j : Nat) (e : En), es[j]? = some e → ∃ y, xs[j]? = some y ∧ EnRel A n e y) → ∀ e, es.find? (fun e => Nat.beq e.born s) = some e →
    ∃ y, xs.find? (fun e => e.born == s) = some y ∧ EnRel A n e y
  | [], xs, _, _, e, h => by simp at h
  | e0 :: es, [], hl, _, _, _ => by simp at hl
  | e0 :: es, x :: xs, hl, hr, e, h => by
    obtain ⟨y, hy, h1, h2, h3⟩ := hr 0 e0 rfl
    simp only [List.getElem?_cons_zero, Option.some.injEq] at hy
    subst hy
    rw [List.find?_cons] at h ⊢
    by_cases hb : e0.born = s
    · rw [beqT hb] at h
      simp only [Option.some.injEq] at h
      subst h
      rw [h3, hb]
      simp only [beq_self_eq_true]
      exact ⟨x, rfl, h1, h2, h3⟩
    · rw [beqF hb] at h
      simp only at h
      have : (x.born == s) = false := by rw [h3]; simpa using hb
      rw [this]
      exact find_pt es xs (by simpa using hl) (fun j e' he' => by simpa using hr (j + 1) e' (by simpa using he')) e h
theorem entry_ok {x : Operand} {rx : Rd} {C : CallF} (hx : rdB x = some rx) : OpQ P C (.entry x) ⟨fun _ t h K => rdK t rx fun x => asP x fun pt o => bb (Nat.beq o 0) (entryK h pt fun v => K v h)⟩ := by
  intro o ho A h w N t a K q hm ht hk
  have hrx := rd_rel ht hx
  simp only [rdK_eq] at hk
  obtain ⟨b, o', hv, hk⟩ := asP_some hk
  obtain ⟨ho', hk⟩ := bb_some hk
  have ho' := Nat.eq_of_beq_eq_true ho'
  subst ho'
  rw [hv] at hrx
  obtain ⟨hrx, hb⟩ := hrx.of_p
  unfold entryK at hk
  obtain ⟨y, hy, hk⟩ := ob_some hk
  split at hk
  · rename_i m since seen stepped
    obtain ⟨ob1, hob, hmn, rfl⟩ := hm.obj b _ hy
    obtain ⟨es, c, xs, hb2, hx2, hsz, hes, hk⟩ := mapK_some hm hk
    obtain ⟨hc, hk⟩ := bb_some hk
    have hc := Nat.eq_of_beq_eq_true hc
    obtain ⟨s, hs, hk⟩ := ob_some hk
    obtain ⟨e, he, hk⟩ := ob_some hk
    obtain ⟨z, hz, h1, h2, h3⟩ := find_pt (n := h.next) es xs.toList (by simpa using hsz) (fun j e he => by simpa using hes j e he) e he
    refine ⟨_, hk, .tuple #[.int e.k e.n, z.val], ?_, (.tup _ _ (.cons _ _ _ _ (.i _ _) (.cons _ _ _ _ h2 .nil)))⟩
    have hbk : seen.toArray.back? = some s := by simpa using hs
    have hfd : xs.find? (fun e => e.born == s) = some z := by rw [← Array.find?_toList]; exact hz
    simp only [execOp, ho, hrx, Instr.entry, Sem.run_bind, run_getIter hob, Result.andThen_ok, hbk, run_getMap hx2, hc, bne_self_eq_false, Bool.false_eq_true, if_false, hfd, h1, Sem.run_pure]
  · cases hk
end
end Go.Proofs.YtaadfppfjjkgbaaGreatDoor.Vm
