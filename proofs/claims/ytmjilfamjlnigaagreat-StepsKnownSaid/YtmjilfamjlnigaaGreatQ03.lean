/- MEMORY: the small machine's values and memory, held against the model's. -/
import Derived.Test.YtmjilfamjlnigaaGreatQ02
import Derived.WalkKit
import Derived.Below
import Derived.Laws.Rows
import Derived.Laws.Tables
import Derived.Laws.CopyRow
import Derived.Deep.Draws
import Derived.Laws.Cells
import Derived.Laws.StructEq
import Derived.Deep.AppendSrc
import Derived.Laws.IdiomCopy
namespace Go.Proofs.YtmjilfamjlnigaaGreat.Vm
open Go Go.RowKit

/-- Where each block lies, and how many cells it has in all. -/
structure Sub where
  ι : Nat → Nat
  κ : Nat → Nat
mutual
inductive Rel (A : Sub) (n : Nat) : V → Value → Prop
  | u : Rel A n .u undef
  | b (x : Bool) : Rel A n (.b x) (.bool x)
  | i (k : IntKind) (m : Int) : Rel A n (.i k m) (.int k m)
  | s (x : ByteArray) : Rel A n (.s x) (.string x)
  | p (b o : Nat) : b < n → Rel A n (.p b o) (.pointer (some ⟨A.ι b, o, none⟩))
  | np : Rel A n .np (.pointer none)
  | slk (b o len cap sz : Nat) : b < n → Rel A n (.sl b o len cap true sz) (.slice (some ⟨A.ι b, o, none⟩) len cap)
  | slu (b o len cap sz c : Nat) : b < n → len ≤ cap → cap ≤ c → o + c * sz = A.κ b → Rel A n (.sl b o len cap false sz) (.slice (some ⟨A.ι b, o, none⟩) len c)
  | ns : Rel A n .ns (.slice none 0 0)
  | m (r : Nat) : r < n → Rel A n (.m r) (.map (some (A.ι r)))
  | nm : Rel A n .nm (.map none)
  | fn (f : Fn) (l r : List V) (xs ys : Array Value) : RelL A n l xs.toList → RelL A n r ys.toList → Rel A n (.fn f l r) (.func f xs ys)
  | nf : Rel A n .nf .nilFunc
  | iface (t : TypeId) (v : V) (x : Value) : Rel A n v x → Rel A n (.iface t v) (.iface t x)
  | ni : Rel A n .ni .nilIface
  | agg (l : List V) (xs : Array Value) : RelL A n l xs.toList → Rel A n (.agg l) (.agg xs)
  | tup (l : List V) (xs : Array Value) : RelL A n l xs.toList → Rel A n (.tup l) (.tuple xs)
inductive RelL (A : Sub) (n : Nat) : List V → List Value → Prop
  | nil : RelL A n [] []
  | cons (v : V) (x : Value) (l : List V) (xs : List Value) : Rel A n v x → RelL A n l xs → RelL A n (v :: l) (x :: xs)
end
/-- The same below a number. -/
def Agree (A A' : Sub) (n : Nat) : Prop := ∀ b, b < n → A'.ι b = A.ι b ∧ A'.κ b = A.κ b
section
variable {A A' : Sub} {n n' : Nat}
mutual
theorem Rel.mono (ha : Agree A A' n) (hn : n ≤ n') : ∀ {v : V} {x : Value}, Rel A n v x → Rel A' n' v x
  | _, _, .u => .u
  | _, _, .b x => .b x
  | _, _, .i k m => .i k m
  | _, _, .s x => .s x
  | _, _, .p b o h => by rw [← (ha b h).1]; exact .p b o (Nat.lt_of_lt_of_le h hn)
  | _, _, .np => .np
  | _, _, .slk b o len cap sz h => by rw [← (ha b h).1]; exact .slk b o len cap sz (Nat.lt_of_lt_of_le h hn)
  | _, _, .slu b o len cap sz c h h1 h2 h3 => by rw [← (ha b h).1]; exact .slu b o len cap sz c (Nat.lt_of_lt_of_le h hn) h1 h2 (h3.trans (ha b h).2.symm)
  | _, _, .ns => .ns
  | _, _, .m r h => by rw [← (ha r h).1]; exact .m r (Nat.lt_of_lt_of_le h hn)
  | _, _, .nm => .nm
  | _, _, .fn f l r xs ys h1 h2 => .fn f l r xs ys (RelL.mono ha hn h1) (RelL.mono ha hn h2)
  | _, _, .nf => .nf
  | _, _, .iface t v x h => .iface t v x (Rel.mono ha hn h)
  | _, _, .ni => .ni
  | _, _, .agg l xs h => .agg l xs (RelL.mono ha hn h)
  | _, _, .tup l xs h => .tup l xs (RelL.mono ha hn h)
theorem RelL.mono (ha : Agree A A' n) (hn : n ≤ n') : ∀ {l : List V} {xs : List Value}, RelL A n l xs → RelL A' n' l xs
  | _, _, .nil => .nil
  | _, _, .cons v x l xs h h' => .cons v x l xs (Rel.mono ha hn h) (RelL.mono ha hn h')
end
mutual
theorem Rel.of_flat : ∀ {v : V} {x : Value}, Rel A n v x → v.flat = true → Rel A' n' v x
  | _, _, .u, _ => .u
  | _, _, .b x, _ => .b x
  | _, _, .i k m, _ => .i k m
  | _, _, .s x, _ => .s x
  | _, _, .p _ _ _, h => by simp [V.flat] at h
  | _, _, .np, _ => .np
  | _, _, .slk _ _ _ _ _ _, h => by simp [V.flat] at h
  | _, _, .slu _ _ _ _ _ _ _ _ _ _, h => by simp [V.flat] at h
  | _, _, .ns, _ => .ns
  | _, _, .m _ _, h => by simp [V.flat] at h
  | _, _, .nm, _ => .nm
  | _, _, .fn f l r xs ys h1 h2, h => by
    simp only [V.flat, Bool.and_eq_true] at h
    exact .fn f l r xs ys (RelL.of_flat h1 h.1) (RelL.of_flat h2 h.2)
  | _, _, .nf, _ => .nf
  | _, _, .iface t v x h1, h => .iface t v x (Rel.of_flat h1 (by simpa [V.flat] using h))
  | _, _, .ni, _ => .ni
  | _, _, .agg l xs h1, h => .agg l xs (RelL.of_flat h1 (by simpa [V.flat] using h))
  | _, _, .tup l xs h1, h => .tup l xs (RelL.of_flat h1 (by simpa [V.flat] using h))
theorem RelL.of_flat : ∀ {l : List V} {xs : List Value}, RelL A n l xs → flatL l = true → RelL A' n' l xs
  | _, _, .nil, _ => .nil
  | _, _, .cons v x l xs h h', hf => by
    simp only [flatL, Bool.and_eq_true] at hf
    exact .cons v x l xs (Rel.of_flat h hf.1) (RelL.of_flat h' hf.2)
end
theorem RelL.length : ∀ {l : List V} {xs : List Value}, RelL A n l xs → xs.length = l.length
  | _, _, .nil => rfl
  | _, _, .cons v x l xs _ h => by simp [RelL.length h]
theorem RelL.get : ∀ {l : List V} {xs : List Value}, RelL A n l xs → ∀ {j : Nat} {v : V}, l[j]? = some v → ∃ x, xs[j]? = some x ∧ Rel A n v x
  | _, _, .nil, _, _, h => by simp at h
  | _, _, .cons v x l xs h1 _, 0, _, h => by
    simp only [List.getElem?_cons_zero, Option.some.injEq] at h
    subst h
    exact ⟨x, rfl, h1⟩
  | _, _, .cons v x l xs _ h2, j + 1, u9, h => by
    simp only [List.getElem?_cons_succ] at h
    obtain ⟨y, hy, hr⟩ := RelL.get h2 h
    exact ⟨y, by simpa using hy, hr⟩
theorem RelL.append : ∀ {l r : List V} {xs ys : List Value}, RelL A n l xs → RelL A n r ys → RelL A n (l ++ r) (xs ++ ys)
  | _, _, _, _, .nil, h => h
  | _, _, _, _, .cons v x l xs h1 h2, h => .cons v x _ _ h1 (RelL.append h2 h)
theorem RelL.drop : ∀ {l : List V} {xs : List Value} (k : Nat), RelL A n l xs → RelL A n (l.drop k) (xs.drop k)
  | _, _, 0, h => h
  | _, _, _ + 1, .nil => .nil
  | _, _, k + 1, .cons v x l xs _ h => RelL.drop k h
theorem RelL.take : ∀ {l : List V} {xs : List Value} (k : Nat), RelL A n l xs → RelL A n (l.take k) (xs.take k)
  | _, _, 0, _ => by simpa using RelL.nil
  | _, _, _ + 1, .nil => .nil
  | _, _, k + 1, .cons v x l xs h1 h => .cons v x _ _ h1 (RelL.take k h)
theorem Rel.cells {v : V} {x : Value} (h : Rel A n v x) : RelL A n v.cells x.cells.toList := by
  cases h <;> first
    | (simp only [V.cells, Value.cells]; assumption)
    | exact .cons _ _ _ _ (by constructor <;> assumption) .nil
    | skip
theorem Rel.one {v : V} {x : Value} (h : Rel A n v x) (ho : v.one = true) : x.oneCell' = true := by
  cases h <;> first | rfl | (simp [V.one] at ho)
theorem RelL.one : ∀ {l : List V} {xs : List Value}, RelL A n l xs → allOne l = true → ∀ x ∈ xs, x.oneCell' = true
  | _, _, .nil, _, _, h => by cases h
  | _, _, .cons v x l xs h1 h2, ho, y, hy => by
    simp only [allOne, Bool.and_eq_true] at ho
    rcases List.mem_cons.1 hy with rfl | hy
    · exact h1.one ho.1
    · exact RelL.one h2 ho.2 y hy
end
theorem allOne_get : ∀ {l : List V}, allOne l = true → ∀ {j : Nat} {v : V}, l[j]? = some v → v.one = true
  | [], _, _, _, h => by simp at h
  | v :: l, ho, 0, u9, h => by
    simp only [List.getElem?_cons_zero, Option.some.injEq] at h
    subst h
    simp only [allOne, Bool.and_eq_true] at ho
    exact ho.1
  | v :: l, ho, j + 1, u9, h => by
    simp only [allOne, Bool.and_eq_true] at ho
    exact allOne_get ho.2 (by simpa using h)
theorem allOne_append : ∀ {l r : List V}, allOne l = true → allOne r = true → allOne (l ++ r) = true
  | [], _, _, h => h
  | v :: l, r, h1, h2 => by
    simp only [allOne, Bool.and_eq_true, List.cons_append] at h1 ⊢
    exact ⟨h1.1, allOne_append h1.2 h2⟩
/-- An entry of a map. -/
def EnRel (A : Sub) (n : Nat) (e : En) (x : MapEntry) : Prop := x.key = .int e.k e.n ∧ Rel A n e.v x.val ∧ x.born = e.born
/-- An object (kk: how many cells it has). -/
def ORel (A : Sub) (n kk : Nat) : O → Obj → Prop
  | .cells e hi opn c, x => ∃ cs : Array Value, x = .cells cs e (0, 0) ∧ (opn = true → cs.size = kk) ∧ ∀ o, o < hi → ∃ v y, c.get o = some v ∧ cs[o]? = some y ∧ Rel A n v y ∧ v.one = true
  | .map es clock, x => ∃ xs : Array MapEntry, x = .map xs clock ∧ xs.size = es.length ∧ ∀ (j : Nat) (e : En), es[j]? = some e → ∃ y, xs[j]? = some y ∧ EnRel A n e y
  | .iter m since seen stepped, x => m < n ∧ x = .mapIter (some (A.ι m)) since seen.toArray stepped
theorem ORel.mono {A A' : Sub} {n n' kk : Nat} (ha : Agree A A' n) (hn : n ≤ n') {O : O} {x : Obj} (h : ORel A n kk O x) : ORel A' n' kk O x := by
  cases O with
  | cells e hi opn c =>
    obtain ⟨cs, h1, h2, h3⟩ := h
    refine ⟨cs, h1, h2, fun o ho => ?_⟩
    obtain ⟨v, y, h4, h5, h6, h7⟩ := h3 o ho
    exact ⟨v, y, h4, h5, h6.mono ha hn, h7⟩
  | map es clock =>
    obtain ⟨xs, h1, h2, h3⟩ := h
    refine ⟨xs, h1, h2, fun j e he => ?_⟩
    obtain ⟨y, h4, h5, h6, h7⟩ := h3 j e he
    exact ⟨y, h4, h5, h6.mono ha hn, h7⟩
  | iter m since seen stepped => exact ⟨Nat.lt_of_lt_of_le h.1 hn, by rw [(ha m h.1).1]; exact h.2⟩
/-- The small machine's memory lies in the model's. -/
structure Mt (A : Sub) (h : H) (w : World) : Prop where
  lt : ∀ b O, h.t.get b = some O → b < h.next
  obj : ∀ b O, h.t.get b = some O → ∃ x, w.heap[A.ι b]? = some x ∧ ORel A h.next (A.κ b) O x
  inj : ∀ b b' O O', h.t.get b = some O → h.t.get b' = some O' → A.ι b = A.ι b' → b = b'
/-- From one memory to the next. -/
structure Ev (A : Sub) (h : H) (w : World) (A' : Sub) (h' : H) (w' : World) : Prop where
  mt : Mt A' h' w'
  next : h.next ≤ h'.next
  old : Agree A A' h.next
  src : ∀ b O, h'.t.get b = some O → w.heap.size ≤ A'.ι b ∨ ∃ b0 O0, h.t.get b0 = some O0 ∧ A.ι b0 = A'.ι b
  fr : ∀ k, k < w.heap.size → (∀ b O, h.t.get b = some O → A.ι b ≠ k) → w'.heap[k]? = w.heap[k]?
  size : w.heap.size ≤ w'.heap.size
  os : w'.os = w.os
  tape : w'.tape = w.tape
  output : w'.output = w.output
section
variable {A A' A2 : Sub} {h h' h2 : H} {w w' w2 : World}
theorem Mt.same (hm : Mt A h w) (hw : w'.heap = w.heap) : Mt A h w' := ⟨hm.lt, fun b O hb => by rw [hw]; exact hm.obj b O hb, hm.inj⟩
theorem Ev.same (hm : Mt A h w) (hw : w'.heap = w.heap) (h1 : w'.os = w.os) (h2 : w'.tape = w.tape) (h3 : w'.output = w.output) : Ev A h w A h w' :=
  ⟨hm.same hw, Nat.le_refl _, fun _ _ => ⟨rfl, rfl⟩, fun b O hb => .inr ⟨b, O, hb, rfl⟩, fun _ _ _ => by rw [hw], by rw [hw]; exact Nat.le_refl _, h1, h2, h3⟩
theorem Ev.refl (hm : Mt A h w) : Ev A h w A h w := Ev.same hm rfl rfl rfl rfl
theorem Ev.drewN (hm : Mt A h w) (n : Nat) : Ev A h w A h (w.drewN n) := Ev.same hm rfl rfl rfl rfl
theorem Ev.trans (e1 : Ev A h w A' h' w') (e2 : Ev A' h' w' A2 h2 w2) : Ev A h w A2 h2 w2 := by
  refine ⟨e2.mt, Nat.le_trans e1.next e2.next, fun b hb => ?_, fun b O hb => ?_, fun k hk hn => ?_, Nat.le_trans e1.size e2.size, e2.os.trans e1.os, e2.tape.trans e1.tape, e2.output.trans e1.output⟩
  · have h1 := e1.old b hb
    have h2 := e2.old b (Nat.lt_of_lt_of_le hb e1.next)
    exact ⟨h2.1.trans h1.1, h2.2.trans h1.2⟩
  · rcases e2.src b O hb with h1 | ⟨b0, O0, h1, h2⟩
    · exact .inl (Nat.le_trans e1.size h1)
    · rcases e1.src b0 O0 h1 with h3 | ⟨b1, O1, h3, h4⟩
      · exact .inl (by omega)
      · exact .inr ⟨b1, O1, h3, h4.trans h2⟩
  · rw [e2.fr k (Nat.lt_of_lt_of_le hk e1.size) (fun b O hb he => ?_), e1.fr k hk hn]
    rcases e1.src b O hb with h1 | ⟨b0, O0, h1, h2⟩
    · omega
    · exact hn b0 O0 h1 (h2.trans he)
/-- A memory of its own: what was there is not touched. -/
theorem Ev.below {hn : H} (e : Ev A ⟨h.next, .e⟩ w A' hn w') : Below w.heap.size w w' := ⟨e.os, e.tape, e.output, e.size, fun k hk => e.fr k hk (fun b O hb => by simp [Tr.get_e] at hb)⟩
theorem Mt.empty (A : Sub) (n : Nat) (w : World) : Mt A ⟨n, .e⟩ w := ⟨fun b O hb => by simp [Tr.get_e] at hb, fun b O hb => by simp [Tr.get_e] at hb, fun b b' O O' hb => by simp [Tr.get_e] at hb⟩
/-- Nothing of it was touched. -/
theorem Ev.of_below (hm : Mt A h w) (hb : Below w.heap.size w w') : Ev A h w A h w' := by
  have hlt : ∀ b O, h.t.get b = some O → A.ι b < w.heap.size := fun b O hb => by
    obtain ⟨x, hx, _⟩ := hm.obj b O hb
    exact (Array.getElem?_eq_some_iff.1 hx).1
  refine ⟨⟨hm.lt, fun b O h1 => ?_, hm.inj⟩, Nat.le_refl _, fun _ _ => ⟨rfl, rfl⟩, fun b O h1 => .inr ⟨b, O, h1, rfl⟩, fun k hk _ => hb.block k hk, hb.size, hb.os, hb.tape, hb.output⟩
  obtain ⟨x, hx, hr⟩ := hm.obj b O h1
  exact ⟨x, (hb.block _ (hlt b O h1)).trans hx, hr⟩
theorem Mt.ilt (hm : Mt A h w) {b : Nat} {O : O} (hb : h.t.get b = some O) : A.ι b < w.heap.size := by
  obtain ⟨x, hx, _⟩ := hm.obj b O hb
  exact (Array.getElem?_eq_some_iff.1 hx).1
/-- One number more. -/
def Sub.ext (A : Sub) (n g k : Nat) : Sub := ⟨fun b => if b = n then g else A.ι b, fun b => if b = n then k else A.κ b⟩
theorem Sub.agree (A : Sub) (n g k : Nat) : Agree A (A.ext n g k) n := fun b hb => by
  have : b ≠ n := by omega
  simp [Sub.ext, this]
/-- A new block. -/
theorem Ev.new (hm : Mt A h w) {x : O} {o : Obj} {k : Nat} (hx : ORel A h.next k x o) : Ev A h w (A.ext h.next w.heap.size k) ⟨h.next + 1, h.t.set h.next (some x)⟩ (w.alloc o) := by
  have ha := Sub.agree A h.next w.heap.size k
  have hself : (A.ext h.next w.heap.size k).ι h.next = w.heap.size := by simp [Sub.ext]
  have hself' : (A.ext h.next w.heap.size k).κ h.next = k := by simp [Sub.ext]
  refine ⟨⟨fun b O hb => ?_, fun b O hb => ?_, fun b b' O O' hb hb' he => ?_⟩, Nat.le_succ _, ha, fun b O hb => ?_, fun j hj _ => Below.heap_alloc w o j hj, by simp, rfl, rfl, rfl⟩
  · rw [Tr.get_set] at hb
    split at hb
    · rename_i e; subst e; exact Nat.lt_succ_self _
    · exact Nat.lt_succ_of_lt (hm.lt b O hb)
  · rw [Tr.get_set] at hb
    split at hb
    · rename_i e
      subst e
      injection hb with hb
      subst hb
      rw [hself, hself']
      exact ⟨o, heap_alloc_new w o, hx.mono ha (Nat.le_succ _)⟩
    · have hl := hm.lt b O hb
      rw [(ha b hl).1, (ha b hl).2]
      obtain ⟨y, hy, hr⟩ := hm.obj b O hb
      exact ⟨y, (Below.heap_alloc w o _ (hm.ilt hb)).trans hy, hr.mono ha (Nat.le_succ _)⟩
  · rw [Tr.get_set] at hb hb'
    split at hb <;> split at hb'
    · rename_i e e'; rw [e, e']
    · rename_i e e'
      subst e
      rw [hself, (ha b' (hm.lt b' O' hb')).1] at he
      have := hm.ilt hb'
      omega
    · rename_i e e'
      subst e'
      rw [hself, (ha b (hm.lt b O hb)).1] at he
      have := hm.ilt hb
      omega
    · rw [(ha b (hm.lt b O hb)).1, (ha b' (hm.lt b' O' hb')).1] at he
      exact hm.inj b b' O O' hb hb' he
  · rw [Tr.get_set] at hb
    split at hb
    · rename_i e; subst e; exact .inl (by rw [hself]; exact Nat.le_refl _)
    · exact .inr ⟨b, O, hb, ((ha b (hm.lt b O hb)).1).symm⟩
/-- A block is turned. -/
theorem Ev.upd (hm : Mt A h w) {b : Nat} {O O' : Vm.O} {o' : Obj} (hb : h.t.get b = some O) (hr : ORel A h.next (A.κ b) O' o') (h1 : w'.heap[A.ι b]? = some o') (h2 : ∀ k, k ≠ A.ι b → w'.heap[k]? = w.heap[k]?)
    (hs : w'.heap.size = w.heap.size) (ho : w'.os = w.os) (ht : w'.tape = w.tape) (hu : w'.output = w.output) : Ev A h w A ⟨h.next, h.t.set b (some O')⟩ w' := by
  have hg : ∀ c U, (h.t.set b (some O')).get c = some U → ∃ U0, h.t.get c = some U0 := fun c U hc => by
    rw [Tr.get_set] at hc
    split at hc
    · rename_i e; subst e; exact ⟨O, hb⟩
    · exact ⟨U, hc⟩
  refine ⟨⟨fun c U hc => ?_, fun c U hc => ?_, fun c c' U U' hc hc' he => ?_⟩, Nat.le_refl _, fun _ _ => ⟨rfl, rfl⟩, fun c U hc => ?_, fun k hk hn => h2 k (fun e => hn b O hb e.symm), by omega, ho, ht, hu⟩
  · obtain ⟨U0, h0⟩ := hg c U hc
    exact hm.lt c U0 h0
  · have hc' := hc
    rw [Tr.get_set] at hc
    split at hc
    · rename_i e
      subst e
      injection hc with hc
      subst hc
      exact ⟨o', h1, hr⟩
    · rename_i e
      obtain ⟨y, hy, hr'⟩ := hm.obj c U hc
      exact ⟨y, (h2 _ (fun e' => e (hm.inj c b U O hc hb e'))).trans hy, hr'⟩
  · obtain ⟨U0, h0⟩ := hg c U hc
    obtain ⟨U0', h0'⟩ := hg c' U' hc'
    exact hm.inj c c' U0 U0' h0 h0' he
  · obtain ⟨U0, h0⟩ := hg c U hc
    exact .inr ⟨c, U0, h0, rfl⟩
/-- A block is given up. -/
theorem Ev.kill (hm : Mt A h w) (b : Nat) : Ev A h w A ⟨h.next, h.t.set b none⟩ w := by
  have hg : ∀ c U, (h.t.set b none).get c = some U → h.t.get c = some U := fun c U hc => by
    rw [Tr.get_set] at hc
    split at hc
    · cases hc
    · exact hc
  exact ⟨⟨fun c U hc => hm.lt c U (hg c U hc), fun c U hc => hm.obj c U (hg c U hc), fun c c' U U' hc hc' => hm.inj c c' U U' (hg c U hc) (hg c' U' hc')⟩, Nat.le_refl _, fun _ _ => ⟨rfl, rfl⟩,
    fun c U hc => .inr ⟨c, U, hg c U hc, rfl⟩, fun _ _ _ => rfl, Nat.le_refl _, rfl, rfl, rfl⟩
/-- A block is turned, and has another number then. -/
theorem Ev.turn (hm : Mt A h w) {b : Nat} {O O' : Vm.O} {o' : Obj} (hb : h.t.get b = some O) (hr : ORel A h.next (A.κ b) O' o') (h1 : w'.heap[A.ι b]? = some o') (h2 : ∀ k, k ≠ A.ι b → w'.heap[k]? = w.heap[k]?)
    (hs : w'.heap.size = w.heap.size) (ho : w'.os = w.os) (ht : w'.tape = w.tape) (hu : w'.output = w.output) :
    Ev A h w (A.ext h.next (A.ι b) (A.κ b)) ⟨h.next + 1, (h.t.set b none).set h.next (some O')⟩ w' := by
  have ha := Sub.agree A h.next (A.ι b) (A.κ b)
  have hself : (A.ext h.next (A.ι b) (A.κ b)).ι h.next = A.ι b := by simp [Sub.ext]
  have hself' : (A.ext h.next (A.ι b) (A.κ b)).κ h.next = A.κ b := by simp [Sub.ext]
  have hg : ∀ c U, ((h.t.set b none).set h.next (some O')).get c = some U → (c = h.next ∧ U = O') ∨ (c ≠ h.next ∧ c ≠ b ∧ h.t.get c = some U) := fun c U hc => by
    rw [Tr.get_set] at hc
    split at hc
    · rename_i e; injection hc with hc; exact .inl ⟨e, hc.symm⟩
    · rename_i e
      rw [Tr.get_set] at hc
      split at hc
      · cases hc
      · rename_i e'; exact .inr ⟨e, e', hc⟩
  refine ⟨⟨fun c U hc => ?_, fun c U hc => ?_, fun c c' U U' hc hc' he => ?_⟩, Nat.le_succ _, ha, fun c U hc => ?_, fun k hk hn => h2 k (fun e => hn b O hb e.symm), by omega, ho, ht, hu⟩
  · rcases hg c U hc with ⟨rfl, _⟩ | ⟨_, _, h3⟩
    · exact Nat.lt_succ_self _
    · exact Nat.lt_succ_of_lt (hm.lt c U h3)
  · rcases hg c U hc with ⟨rfl, rfl⟩ | ⟨_, h4, h3⟩
    · rw [hself, hself']
      exact ⟨o', h1, hr.mono ha (Nat.le_succ _)⟩
    · have hl := hm.lt c U h3
      rw [(ha c hl).1, (ha c hl).2]
      obtain ⟨y, hy, hr'⟩ := hm.obj c U h3
      exact ⟨y, (h2 _ (fun e' => h4 (hm.inj c b U O h3 hb e'))).trans hy, hr'.mono ha (Nat.le_succ _)⟩
  · rcases hg c U hc with ⟨rfl, _⟩ | ⟨_, h4, h3⟩ <;> rcases hg c' U' hc' with ⟨rfl, _⟩ | ⟨_, h4', h3'⟩
    · rfl
    · rw [hself, (ha c' (hm.lt c' U' h3')).1] at he
      exact absurd (hm.inj b c' O U' hb h3' he).symm h4'
    · rw [hself, (ha c (hm.lt c U h3)).1] at he
      exact absurd (hm.inj c b U O h3 hb he) h4
    · rw [(ha c (hm.lt c U h3)).1, (ha c' (hm.lt c' U' h3')).1] at he
      exact hm.inj c c' U U' h3 h3' he
  · rcases hg c U hc with ⟨rfl, _⟩ | ⟨_, _, h3⟩
    · exact .inr ⟨b, O, hb, hself.symm⟩
    · exact .inr ⟨c, U, h3, ((ha c (hm.lt c U h3)).1).symm⟩
end
/-- The temporaries. -/
def TRel (A : Sub) (n N : Nat) (t : Tr V) (a : Array Value) : Prop := a.size = N ∧ ∀ k, Rel A n (orU (t.get k)) (a.getD k undef)
theorem TRel.mono {A A' : Sub} {n n' N : Nat} {t : Tr V} {a : Array Value} (h : TRel A n N t a) (ha : Agree A A' n) (hn : n ≤ n') : TRel A' n' N t a := ⟨h.1, fun k => (h.2 k).mono ha hn⟩
theorem TRel.put {A : Sub} {n N : Nat} {t : Tr V} {a : Array Value} (h : TRel A n N t a) {v : V} {x : Value} (hv : Rel A n v x) {d : Nat} (hd : d < N) : TRel A n N (t.set d (some v)) (a.setIfInBounds d x) := by
  refine ⟨by simp [h.1], fun k => ?_⟩
  rw [Tr.get_set]
  by_cases e : k = d
  · subst e
    have : k < a.size := by rw [h.1]; exact hd
    simpa [orU, this] using hv
  · rw [if_neg e]
    have := h.2 k
    rw [Array.getD_eq_getD_getElem?] at this ⊢
    rw [Array.getElem?_setIfInBounds_ne (Ne.symm e)]
    exact this
end Go.Proofs.YtmjilfamjlnigaaGreat.Vm
/- The small machine's operations do what the model's do: reading, reckoning. -/
namespace Go.Proofs.YtmjilfamjlnigaaGreat.Vm
open Go Go.RowKit

/-- What an operation does. -/
def Does (P : Program) (o : Oper) (a : Act) (w : World) (R : Value → World → Prop) : Prop := o.wp P a w (fun a' w' => ∃ x, a' = a.put o.dst x ∧ R x w') (fun _ _ _ => False)
theorem Does.value {P : Program} {o : Oper} {a : Act} {w w' : World} {x : Value} {R : Value → World → Prop} (h : (execOp a.eval o).run P w = .ok (.value x) w') (hR : R x w') : Does P o a w R := by
  unfold Does Oper.wp
  rw [h]
  exact ⟨x, rfl, hR⟩
theorem Does.skip {P : Program} {o : Oper} {a : Act} {w w' : World} {R : Value → World → Prop} (h : (execOp a.eval o).run P w = .ok .skip w') (hR : R undef w') : Does P o a w R := by
  unfold Does Oper.wp
  rw [h]
  exact ⟨undef, rfl, hR⟩
theorem Does.enter {P : Program} {o : Oper} {a : Act} {w w' : World} {f : FuncId} {args : Array Value} {R : Value → World → Prop} (h : (execOp a.eval o).run P w = .ok (.enter f args) w')
    (hC : Calls P f args w' fun e w'' => ∃ x, e = .returned x ∧ R x w'') : Does P o a w R := by
  unfold Does Oper.wp
  rw [h]
  refine Calls.mono hC fun e w'' hr => ?_
  obtain ⟨x, rfl, hR⟩ := hr
  exact ⟨x, rfl, hR⟩
theorem Does.mono {P : Program} {o : Oper} {a : Act} {w : World} {R R' : Value → World → Prop} (h : Does P o a w R) (hR : ∀ x w', R x w' → R' x w') : Does P o a w R' :=
  Oper.wp_mono (fun a' w' ⟨x, hx, hr⟩ => ⟨x, hx, hR x w' hr⟩) h
def Post (A : Sub) (h : H) (w : World) (v : V) (h' : H) (x : Value) (w' : World) : Prop := ∃ A', Ev A h w A' h' w' ∧ Rel A' h'.next v x
/-- An operation's ready form does what the operation does. -/
def OpOk (P : Program) (C : CallF) (op : Op) (f : Fx) : Prop := ∀ (o : Oper), o.op = op → ∀ (A : Sub) (h : H) (w : World) (N : Nat) (t : Tr V) (a : Act) (K : V → H → Option (List Out)) (r : List Out), Mt A h w → TRel A h.next N t a.tmps → f.f C t h K = some r →
  ∃ v h', K v h' = some r ∧ Does P o a w (Post A h w v h')
/-- An operation that leaves memory alone. -/
def OpQ (P : Program) (C : CallF) (op : Op) (f : Fx) : Prop := ∀ (o : Oper), o.op = op → ∀ (A : Sub) (h : H) (w : World) (N : Nat) (t : Tr V) (a : Act) (K : V → H → Option (List Out)) (r : List Out), Mt A h w → TRel A h.next N t a.tmps → f.f C t h K = some r →
  ∃ v, K v h = some r ∧ ∃ x, (execOp a.eval o).run P w = .ok (.value x) w ∧ Rel A h.next v x
theorem Post.same {A : Sub} {h : H} {w : World} {v : V} {x : Value} (hm : Mt A h w) (hr : Rel A h.next v x) : Post A h w v h x w := ⟨A, .refl hm, hr⟩

theorem OpQ.ok {P : Program} {C : CallF} {op : Op} {f : Fx} (hq : OpQ P C op f) : OpOk P C op f := by
  intro o ho A h w N t a K r hm ht hk
  obtain ⟨v, h1, x, h2, h3⟩ := hq o ho A h w N t a K r hm ht hk
  exact ⟨v, h, h1, .value h2 (.same hm h3)⟩
section
variable {α β : Type}
theorem mapO_n (f : α → Option β) : mapO f [] = some [] := rfl
theorem mapO_c (f : α → Option β) (x : α) (l : List α) : mapO f (x :: l) = ob (f x) fun y => ob (mapO f l) fun r => some (y :: r) := rfl
theorem mapO_cons {f : α → Option β} {x : α} {l : List α} {r : List β} (h : mapO f (x :: l) = some r) : ∃ y q, f x = some y ∧ mapO f l = some q ∧ r = y :: q := by
  rw [mapO_c] at h
  obtain ⟨y, hy, h⟩ := ob_some h
  obtain ⟨q, hq, h⟩ := ob_some h
  injection h with h
  exact ⟨y, q, hy, hq, h.symm⟩
theorem mapO_nil {f : α → Option β} {r : List β} (h : mapO f [] = some r) : r = [] := by injection h with h; exact h.symm
end
theorem ofV1_rel {A : Sub} {n : Nat} {x : Value} {v : V} (h : ofV1 x = some v) : Rel A n v x := by
  unfold ofV1 at h
  split at h <;> first
    | (injection h with h; subst h; constructor; done)
    | cases h
theorem ofV1L_rel {A : Sub} {n : Nat} : ∀ {xs : List Value} {l : List V}, mapO ofV1 xs = some l → RelL A n l xs
  | [], _, h => by rw [mapO_nil h]; exact .nil
  | x :: xs, _, h => by
    obtain ⟨y, q, h1, h2, rfl⟩ := mapO_cons h
    exact .cons _ _ _ _ (ofV1_rel h1) (ofV1L_rel h2)
theorem ofVal_rel {A : Sub} {n : Nat} {x : Value} {v : V} (h : ofVal x = some v) : Rel A n v x := by
  unfold ofVal at h
  split at h
  · obtain ⟨l, hl, h⟩ := ob_some h
    injection h with h
    subst h
    exact .agg _ _ (ofV1L_rel hl)
  · exact ofV1_rel h
theorem rd_rel {A : Sub} {n N : Nat} {t : Tr V} {a : Act} (ht : TRel A n N t a.tmps) {x : Operand} {r : Rd} (h : rdB x = some r) : Rel A n (r.val t) (a.eval x) := by
  cases x with
  | tmp k =>
    injection h with h
    subst h
    exact ht.2 k
  | const v =>
    obtain ⟨u9, hu, h⟩ := ob_some h
    injection h with h
    subst h
    exact ofVal_rel hu
  | global g => cases h
  | func f =>
    injection h with h
    subst h
    exact .fn _ _ _ _ _ .nil .nil
section
variable {β : Type}
theorem asB_some {v : V} {K : Bool → Option β} {r : β} (h : asB v K = some r) : ∃ x, v = .b x ∧ K x = some r := by
  unfold asB at h
  split at h
  · exact ⟨_, rfl, h⟩
  · cases h
theorem asI_some {v : V} {K : IntKind → Int → Option β} {r : β} (h : asI v K = some r) : ∃ k n, v = .i k n ∧ K k n = some r := by
  unfold asI at h
  split at h
  · exact ⟨_, _, rfl, h⟩
  · cases h
theorem asN_some {v : V} {K : Nat → Option β} {r : β} (h : asN v K = some r) : ∃ k n, v = .i k (.ofNat n) ∧ K n = some r := by
  unfold asN at h
  split at h
  · exact ⟨_, _, rfl, h⟩
  · cases h
theorem asP_some {v : V} {K : Nat → Nat → Option β} {r : β} (h : asP v K = some r) : ∃ b o, v = .p b o ∧ K b o = some r := by
  unfold asP at h
  split at h
  · exact ⟨_, _, rfl, h⟩
  · cases h
theorem asAgg_some {v : V} {K : List V → Option β} {r : β} (h : asAgg v K = some r) : ∃ l, v = .agg l ∧ K l = some r := by
  unfold asAgg at h
  split at h
  · exact ⟨_, rfl, h⟩
  · cases h
theorem asTup_some {v : V} {K : List V → Option β} {r : β} (h : asTup v K = some r) : ∃ l, v = .tup l ∧ K l = some r := by
  unfold asTup at h
  split at h
  · exact ⟨_, rfl, h⟩
  · cases h
theorem rowK_some {h : H} {b : Nat} {K : TypeId → Nat → Bool → Tr V → Option β} {r : β} (hh : rowK h b K = some r) : ∃ e hi p c, h.t.get b = some (.cells e hi p c) ∧ K e hi p c = some r := by
  unfold rowK at hh
  obtain ⟨x, hx, hh⟩ := ob_some hh
  split at hh
  · exact ⟨_, _, _, _, hx, hh⟩
  · cases hh
end
section
variable {A : Sub} {n : Nat} {x : Value}
theorem Rel.of_b {y : Bool} (h : Rel A n (.b y) x) : x = .bool y := by cases h; rfl
theorem Rel.of_i {k : IntKind} {m : Int} (h : Rel A n (.i k m) x) : x = .int k m := by cases h; rfl
theorem Rel.of_s {y : ByteArray} (h : Rel A n (.s y) x) : x = .string y := by cases h; rfl
theorem Rel.of_p {b o : Nat} (h : Rel A n (.p b o) x) : x = .pointer (some ⟨A.ι b, o, none⟩) ∧ b < n := by cases h; exact ⟨rfl, by assumption⟩
theorem Rel.of_np (h : Rel A n .np x) : x = .pointer none := by cases h; rfl
theorem Rel.of_ns (h : Rel A n .ns x) : x = .slice none 0 0 := by cases h; rfl
theorem Rel.of_sl {b o len cap sz : Nat} {k : Bool} (h : Rel A n (.sl b o len cap k sz) x) : ∃ c, x = .slice (some ⟨A.ι b, o, none⟩) len c ∧ b < n ∧ (k = true → c = cap) ∧ (k = false → len ≤ cap ∧ cap ≤ c ∧ o + c * sz = A.κ b) := by
  cases h with
  | slk _ _ _ _ _ h1 => exact ⟨cap, rfl, h1, fun _ => rfl, (fun h => by cases h)⟩
  | slu _ _ _ _ _ c h1 h2 h3 h4 => exact ⟨c, rfl, h1, (fun h => by cases h), fun _ => ⟨h2, h3, h4⟩⟩
theorem Rel.of_agg {l : List V} (h : Rel A n (.agg l) x) : ∃ xs : Array Value, x = .agg xs ∧ RelL A n l xs.toList := by
  cases h with
  | agg _ xs h => exact ⟨xs, rfl, h⟩
theorem Rel.of_tup {l : List V} (h : Rel A n (.tup l) x) : ∃ xs : Array Value, x = .tuple xs ∧ RelL A n l xs.toList := by
  cases h with
  | tup _ xs h => exact ⟨xs, rfl, h⟩
theorem Rel.of_m {r : Nat} (h : Rel A n (.m r) x) : x = .map (some (A.ι r)) ∧ r < n := by cases h; exact ⟨rfl, by assumption⟩
theorem Rel.of_nm (h : Rel A n .nm x) : x = .map none := by cases h; rfl
theorem Rel.of_iface {t : TypeId} {v : V} (h : Rel A n (.iface t v) x) : ∃ y, x = .iface t y ∧ Rel A n v y := by
  cases h with
  | iface _ _ y h => exact ⟨y, rfl, h⟩
theorem Rel.of_fn {f : Fn} {l r : List V} (h : Rel A n (.fn f l r) x) : ∃ xs ys : Array Value, x = .func f xs ys ∧ RelL A n l xs.toList ∧ RelL A n r ys.toList := by
  cases h with
  | fn _ _ _ xs ys h1 h2 => exact ⟨xs, ys, rfl, h1, h2⟩
end
/-! ### Cells -/
section
variable {A : Sub} {h : H} {w : World} {P : Program}
theorem Mt.row (hm : Mt A h w) {b : Nat} {e : TypeId} {hi : Nat} {p : Bool} {c : Tr V} (hb : h.t.get b = some (.cells e hi p c)) : ∃ cs : Array Value, w.heap[A.ι b]? = some (.cells cs e (0, 0)) ∧ (p = true → cs.size = A.κ b) ∧
    (∀ o, o < hi → ∃ v y, c.get o = some v ∧ cs[o]? = some y ∧ Rel A h.next v y ∧ v.one = true) ∧ hi ≤ cs.size := by
  obtain ⟨x, hx, cs, rfl, h1, h2⟩ := hm.obj b _ hb
  refine ⟨cs, hx, h1, h2, ?_⟩
  rcases Nat.eq_zero_or_pos hi with h0 | h0
  · omega
  · obtain ⟨v, y, _, h3, _⟩ := h2 (hi - 1) (by omega)
    have := (Array.getElem?_eq_some_iff.1 h3).1
    omega
theorem cell_of {n : Nat} {cs : Array Value} {e : TypeId} (hb : w.heap[n]? = some (.cells cs e (0, 0))) (o : Nat) : w.cell? ⟨n, o, none⟩ = cs[o]? := by simp [World.cell?, hb]
theorem frozen_of {n : Nat} {cs : Array Value} {e : TypeId} (hb : w.heap[n]? = some (.cells cs e (0, 0))) (o : Nat) : w.frozen? ⟨n, o, none⟩ = false := by simp [World.frozen?, hb]
theorem add_lit (b o j : Nat) : (⟨b, o, none⟩ : Addr).add j = ⟨b, o + j, none⟩ := by unfold Addr.add; split <;> simp_all
theorem run_und {t : TypeId} {d : TypeDesc} (hu : P.underlying t = some d) : (underlying t).run P w = .ok d w := by simp [underlying, hu]
theorem run_size {t : TypeId} {n : Nat} (hs : sizeB P t = some n) : (sizeOf t).run P w = .ok n w := by
  unfold sizeB at hs
  obtain ⟨i, hi, hs⟩ := ob_some hs
  rw [fN_eq] at hs
  injection hs with hs
  simp [sizeOf, typeInfo, hi, hs]
theorem run_zero {t : TypeId} {v : V} (hz : zeroB P t = some v) : ∃ x, (zeroValue t).run P w = .ok x w ∧ ofVal x = some v := by
  unfold zeroB at hz
  obtain ⟨i, hi, hz⟩ := ob_some hz
  obtain ⟨x, hx, hz⟩ := ob_some hz
  exact ⟨x, by simp [zeroValue, typeInfo, hi, hx], hz⟩
theorem run_agg {t : TypeId} {g : Bool} (hg : aggB P t = some g) : (isAgg t).run P w = .ok g w := by
  unfold aggB at hg
  split at hg <;> first | cases hg | skip
  all_goals
    rename_i hu
    simp [isAgg, underlying, hu]
  all_goals
    split <;> first | rfl | (exfalso; simp_all)
theorem loadN_c (c : Tr V) (n o : Nat) : loadN c (n + 1) o = ob (c.get o) fun v => ob (loadN c n (o + 1)) fun l => some (v :: l) := rfl
/-- A run of cells. -/
theorem cells_rel {n : Nat} {c : Tr V} {cs : Array Value} {hi : Nat} (hc : ∀ o, o < hi → ∃ v y, c.get o = some v ∧ cs[o]? = some y ∧ Rel A n v y ∧ v.one = true) : ∀ (k o : Nat) (l : List V), o + k ≤ hi → loadN c k o = some l →
    ∃ ys : List Value, RelL A n l ys ∧ ys.length = k ∧ allOne l = true ∧ ∀ (j : Nat) (y : Value), ys[j]? = some y → cs[o + j]? = some y
  | 0, _, l, _, h => by
    injection h with h
    subst h
    exact ⟨[], .nil, rfl, rfl, fun j y hy => by simp at hy⟩
  | k + 1, o, l, hk, h => by
    rw [loadN_c] at h
    obtain ⟨v, hv, h⟩ := ob_some h
    obtain ⟨q, hq, h⟩ := ob_some h
    injection h with h
    subst h
    obtain ⟨u9, y, h1, h2, h3, h4⟩ := hc o (by omega)
    rw [hv] at h1
    injection h1 with h1
    subst h1
    obtain ⟨ys, h5, h6, h7, h8⟩ := cells_rel hc k (o + 1) q (by omega) hq
    refine ⟨y :: ys, .cons _ _ _ _ h3 h5, by simp [h6], by simp [allOne, h4, h7], fun j z hz => ?_⟩
    cases j with
    | zero => simpa using (by simpa using hz : y = z) ▸ h2
    | succ j => rw [show o + (j + 1) = o + 1 + j by omega]; exact h8 j z (by simpa using hz)
theorem loadRow_some {β : Type} {b o n : Nat} {K : List V → Option β} {r : β} (hm : Mt A h w) (hh : loadRow h b o n K = some r) : ∃ l ys, RelL A h.next l ys ∧ ys.length = n ∧ allOne l = true ∧ (∀ (j : Nat) (y : Value), ys[j]? = some y → w.cell? ((⟨A.ι b, o, none⟩ : Addr).add j) = some y) ∧ K l = some r := by
  unfold loadRow at hh
  obtain ⟨e, hi, p, c, hb, hh⟩ := rowK_some hh
  obtain ⟨hl, hh⟩ := bb_some hh
  obtain ⟨l, hl2, hh⟩ := ob_some hh
  obtain ⟨cs, h1, _, h2, _⟩ := hm.row hb
  have hle : o + n ≤ hi := Nat.le_of_ble_eq_true hl
  obtain ⟨ys, h3, h4, h5, h6⟩ := cells_rel h2 n o l hle hl2
  exact ⟨l, ys, h3, h4, h5, fun j y hy => by rw [add_lit, cell_of h1]; exact h6 j y hy, hh⟩
theorem move_ok {x : Operand} {r : Rd} {C : CallF} (h : rdB x = some r) : OpQ P C (.move x) ⟨fun _ t h K => rdK t r fun v => K v h⟩ := by
  intro o ho A h w N t a K q hm ht hf
  simp only [rdK_eq] at hf
  exact ⟨_, hf, _, (by simp only [execOp, ho]; rfl), rd_rel ht ‹_›⟩
theorem assign_ok {x : Operand} {r : Rd} {C : CallF} (h : rdB x = some r) : OpQ P C (.assign x) ⟨fun _ t h K => rdK t r fun v => K v h⟩ := by
  intro o ho A h w N t a K q hm ht hf
  simp only [rdK_eq] at hf
  exact ⟨_, hf, _, (by simp only [execOp, ho]; rfl), rd_rel ht ‹_›⟩
theorem load_ok {ty : TypeId} {x : Operand} {r : Rd} {f : Fx} {C : CallF} (hx : rdB x = some r) (hf : loadB P ty r = some f) : OpQ P C (.load ty x) f := by
  intro o ho A h w N t a K q hm ht hk
  unfold loadB at hf
  obtain ⟨g, hg, hf⟩ := ob_some hf
  have hr := rd_rel ht hx
  cases g with
  | false =>
    injection hf with hf
    subst hf
    simp only [rdK_eq] at hk
    obtain ⟨b, o', hv, hk⟩ := asP_some hk
    obtain ⟨e, hi, p, c, hb, hk⟩ := rowK_some hk
    obtain ⟨hl, hk⟩ := bb_some hk
    obtain ⟨v, hv2, hk⟩ := ob_some hk
    rw [hv] at hr
    obtain ⟨h1, _⟩ := hr.of_p
    obtain ⟨cs, h2, _, h3, _⟩ := hm.row hb
    obtain ⟨u9, y, h4, h5, h6, _⟩ := h3 o' (Nat.le_of_ble_eq_true hl)
    rw [hv2] at h4
    injection h4 with h4
    subst h4
    refine ⟨_, hk, y, ?_, h6⟩
    simp only [execOp, ho, h1, Instr.loadAt, Instr.sureAddr, loadVar, Sem.run_bind, Sem.run_pure, Result.andThen_ok, run_agg hg, Bool.false_eq_true, if_false, run_load, cell_of h2, h5]
  | true =>
    obtain ⟨n, hn, hf⟩ := ob_some hf
    injection hf with hf
    subst hf
    simp only [rdK_eq] at hk
    obtain ⟨b, o', hv, hk⟩ := asP_some hk
    rw [hv] at hr
    obtain ⟨h1, _⟩ := hr.of_p
    obtain ⟨l, ys, h2, h3, _, h4, hk⟩ := loadRow_some hm hk
    refine ⟨_, hk, .agg ys.toArray, ?_, (.agg _ _ h2)⟩
    have hl := run_loadCells_list (P := P) (w := w) ⟨A.ι b, o', none⟩ ys h4
    rw [h3] at hl
    simp only [execOp, ho, h1, Instr.loadAt, Instr.sureAddr, loadVar, Sem.run_bind, Sem.run_pure, Result.andThen_ok, run_agg hg, if_true, run_size hn, hl]
end
end Go.Proofs.YtmjilfamjlnigaaGreat.Vm
/- The small machine's operations do what the model's do: memory that is written, made. -/
namespace Go.Proofs.YtmjilfamjlnigaaGreat.Vm
open Go Go.RowKit

section
variable {A : Sub} {h : H} {w : World} {P : Program}
/-- Cells in the place of others. -/
def splice (cs : Array Value) (o : Nat) (ys : List Value) : Array Value := (cs.toList.take o ++ ys ++ cs.toList.drop (o + ys.length)).toArray
theorem splice_size {cs : Array Value} {o : Nat} {ys : List Value} (hl : o + ys.length ≤ cs.size) : (splice cs o ys).size = cs.size := by
  simp [splice]; omega
theorem splice_get {cs : Array Value} {o : Nat} {ys : List Value} (hl : o + ys.length ≤ cs.size) (j : Nat) : (splice cs o ys)[j]? = if o ≤ j ∧ j < o + ys.length then ys[j - o]? else cs[j]? := by
  have hlen : (cs.toList.take o).length = o := by simp; omega
  unfold splice
  rw [List.getElem?_toArray]
  by_cases h1 : j < o
  · rw [if_neg (by omega), List.append_assoc, List.getElem?_append_left (by omega), List.getElem?_take_of_lt h1]
    simp
  · by_cases h2 : j < o + ys.length
    · rw [if_pos ⟨by omega, h2⟩, List.getElem?_append_left (by rw [List.length_append, hlen]; omega), List.getElem?_append_right (by omega), hlen]
    · rw [if_neg (by omega), List.getElem?_append_right (by rw [List.length_append, hlen]; omega), List.length_append, hlen, List.getElem?_drop]
      rw [show o + ys.length + (j - (o + ys.length)) = j by omega]
      simp
theorem setCells_row {g o : Nat} {cs : Array Value} {e : TypeId} (hb : w.heap[g]? = some (.cells cs e (0, 0))) (ys : List Value) (hl : o + ys.length ≤ cs.size) (h1 : ∀ v ∈ ys, v.oneCell' = true) : w.setCells g o ys = w.setRow g (splice cs o ys) := by
  have e1 := run_storeCells_cells (P := default) g o ys 0 w (fun j hj => by rw [cell_of hb, Array.getElem?_eq_getElem (by omega)]; rfl) (fun j hj => frozen_of hb _) h1
  have e2 := run_storeCells_at (P := default) g o e ys 0 cs w hb (by omega) h1
  have e3 := e1.symm.trans e2
  simpa [splice] using e3
theorem cells_splice {n hi hi' kk o : Nat} {e : TypeId} {p : Bool} {c : Tr V} {cs : Array Value} {l : List V} {ys : List Value} (hc : ∀ o, o < hi → ∃ v y, c.get o = some v ∧ cs[o]? = some y ∧ Rel A n v y ∧ v.one = true)
    (hk : p = true → cs.size = kk) (hl : RelL A n l ys) (ho : allOne l = true) (hsz : o + ys.length ≤ cs.size) (hhi : ∀ j, j < hi' → j < hi ∨ (o ≤ j ∧ j < o + l.length)) : ORel A n kk (.cells e hi' p (Tr.putsL l c o)) (.cells (splice cs o ys) e (0, 0)) := by
  refine ⟨_, rfl, fun hp => by rw [splice_size hsz]; exact hk hp, fun j hj => ?_⟩
  rw [Tr.get_putsL, splice_get hsz, hl.length]
  by_cases hin : o ≤ j ∧ j < o + l.length
  · rw [if_pos hin, if_pos hin]
    have h1 : l[j - o]? = some l[j - o] := List.getElem?_eq_getElem (by omega)
    obtain ⟨y, hy, hr⟩ := hl.get h1
    exact ⟨_, y, h1, hy, hr, allOne_get ho h1⟩
  · rw [if_neg hin, if_neg hin]
    rcases hhi j hj with h1 | h1
    · exact hc j h1
    · exact absurd h1 hin
theorem storeL_some {β : Type} {b o : Nat} {l : List V} {ys : List Value} {K : H → Option β} {r : β} (hm : Mt A h w) (hl : RelL A h.next l ys) (hh : storeL h b o l K = some r) : ∃ h' w', K h' = some r ∧ h'.next = h.next ∧ Ev A h w A h' w' ∧
    (storeCells ⟨A.ι b, o, none⟩ ys).run P w = .ok () w' ∧ (∀ j, j < ys.length → (w.cell? ⟨A.ι b, o + j, none⟩).isSome = true) ∧ (∀ j, j < ys.length → w.frozen? ⟨A.ι b, o + j, none⟩ = false) ∧ (∀ v ∈ ys, v.oneCell' = true) ∧ w' = w.setCells (A.ι b) o ys := by
  unfold storeL at hh
  obtain ⟨e, hi, p, c, hb, hh⟩ := rowK_some hh
  obtain ⟨hle, hh⟩ := bb_some hh
  obtain ⟨hone, hh⟩ := bb_some hh
  rw [Tr.putL_eq, Tr.put_set] at hh
  obtain ⟨cs, h1, h2, h3, h4⟩ := hm.row hb
  have hle : o + l.length ≤ hi := Nat.le_of_ble_eq_true hle
  have hsz : o + ys.length ≤ cs.size := by rw [hl.length]; omega
  have h1c := hl.one hone
  have hrow := setCells_row h1 ys hsz h1c
  refine ⟨_, _, hh, rfl, Ev.upd hm hb (cells_splice h3 h2 hl hone hsz (fun j hj => .inl hj)) (setRow_heap w _ cs _ _ _ h1) (fun k hk => setRow_other w _ k _ hk) (by simp) rfl rfl rfl, ?_, fun j hj => ?_, fun j _ => frozen_of h1 _, h1c, hrow.symm⟩
  · have := run_storeCells_at (P := P) (A.ι b) o e ys 0 cs w h1 (by omega) h1c
    simpa [splice] using this
  · rw [cell_of h1, Array.getElem?_eq_getElem (by omega)]; rfl
theorem store_ok {ty : TypeId} {x y : Operand} {rx ry : Rd} {n : Nat} {C : CallF} (hx : rdB x = some rx) (hy : rdB y = some ry) (hn : sizeB P ty = some n) :
    OpOk P C (.store ty x y) ⟨fun _ t h K => rdK t rx fun a => rdK t ry fun x => asP a fun pt o => bb (Nat.beq x.cells.length n) (storeL h pt o x.cells fun h => K .u h)⟩ := by
  intro o ho A h w N t a K q hm ht hk
  simp only [rdK_eq] at hk
  obtain ⟨b, o', hv, hk⟩ := asP_some hk
  obtain ⟨hlen, hk⟩ := bb_some hk
  have hr := rd_rel ht hx
  rw [hv] at hr
  obtain ⟨h1, _⟩ := hr.of_p
  have hcl := (rd_rel ht hy).cells
  obtain ⟨h', w', h2, h3, h4, h5, _⟩ := storeL_some (P := P) hm hcl hk
  refine ⟨_, _, h2, .skip (w' := w') ?_ ⟨A, h4, .u⟩⟩
  have hsz : (a.eval y).cells.size = n := by
    have := hcl.length
    rw [Array.length_toList] at this
    rw [this]
    exact Nat.eq_of_beq_eq_true hlen
  simp only [execOp, ho, h1, Instr.storeAt, Instr.sureAddr, storeVar, Sem.run_bind, Sem.run_pure, Result.andThen_ok, run_size hn, hsz, ne_eq, not_true, if_false, h5]
/-! ### New blocks -/
theorem newO_some {β : Type} {x : O} {K : Nat → H → Option β} {r : β} (hh : newO h x K = some r) : K h.next ⟨h.next + 1, h.t.set h.next (some x)⟩ = some r := by
  unfold newO at hh
  rw [Tr.put_set, fN_eq] at hh
  exact hh
theorem newRow_some {β : Type} {e : TypeId} {l : List V} {p : Bool} {K : Nat → H → Option β} {r : β} (hh : newRow h e l p K = some r) : allOne l = true ∧ K h.next ⟨h.next + 1, h.t.set h.next (some (.cells e l.length p (Tr.putsL l .e 0)))⟩ = some r := by
  unfold newRow at hh
  obtain ⟨h1, hh⟩ := bb_some hh
  rw [Tr.putL_eq, fN_eq] at hh
  exact ⟨h1, newO_some hh⟩
theorem row_new {n kk : Nat} {e : TypeId} {l : List V} {ys zs : List Value} {p : Bool} (hl : RelL A n l ys) (ho : allOne l = true) (hk : p = true → (ys ++ zs).length = kk) : ORel A n kk (.cells e l.length p (Tr.putsL l .e 0)) (.cells (ys ++ zs).toArray e (0, 0)) := by
  refine ⟨_, rfl, fun hp => by simpa using hk hp, fun j hj => ?_⟩
  have h1 : l[j]? = some l[j] := List.getElem?_eq_getElem hj
  obtain ⟨y, hy, hr⟩ := hl.get h1
  refine ⟨l[j], y, ?_, ?_, hr, allOne_get ho h1⟩
  · rw [Tr.get_putsL, if_pos ⟨Nat.zero_le _, by omega⟩]
    exact h1
  · rw [List.getElem?_toArray, List.getElem?_append_left (by rw [hl.length]; exact hj)]
    exact hy
theorem row_new0 {n kk : Nat} {e : TypeId} {l : List V} {ys : Array Value} (hl : RelL A n l ys.toList) (ho : allOne l = true) : ORel A n kk (.cells e l.length false (Tr.putsL l .e 0)) (.cells ys e (0, 0)) := by
  have := row_new (kk := kk) (e := e) (p := false) (zs := []) hl ho (fun h => by cases h)
  simpa using this
theorem run_newVar (e : TypeId) (x : Value) : (newVar e x).run P w = .ok ⟨w.heap.size, 0, none⟩ (w.alloc (.cells x.cells e)) := by
  rfl
theorem ptr_new (A : Sub) (n g k : Nat) : Rel (A.ext n g k) (n + 1) (.p n 0) (.pointer (some ⟨g, 0, none⟩)) := by
  have : Rel (A.ext n g k) (n + 1) (.p n 0) (.pointer (some ⟨(A.ext n g k).ι n, 0, none⟩)) := .p n 0 (Nat.lt_succ_self _)
  simpa [Sub.ext] using this
theorem sl_new (A : Sub) (n g k len cap sz : Nat) : Rel (A.ext n g k) (n + 1) (.sl n 0 len cap true sz) (.slice (some ⟨g, 0, none⟩) len cap) := by
  have : Rel (A.ext n g k) (n + 1) (.sl n 0 len cap true sz) (.slice (some ⟨(A.ext n g k).ι n, 0, none⟩) len cap) := .slk n 0 len cap sz (Nat.lt_succ_self _)
  simpa [Sub.ext] using this
theorem alloc_ok {e : TypeId} {z : V} {C : CallF} (hz : zeroB P e = some z) : OpOk P C (.alloc e) ⟨fun _ _ h K => newRow h e z.cells false fun b h => K (.p b 0) h⟩ := by
  intro o ho A h w N t a K q hm ht hk
  obtain ⟨x, h1, h2⟩ := run_zero (w := w) hz
  obtain ⟨h3, hk⟩ := newRow_some hk
  have hr : Rel A h.next z x := ofVal_rel h2
  refine ⟨_, _, hk, .value (x := .pointer (some ⟨w.heap.size, 0, none⟩)) (w' := w.alloc (.cells x.cells e)) ?_ ⟨_, Ev.new (k := 0) hm (row_new0 hr.cells h3), ptr_new A h.next w.heap.size 0⟩⟩
  simp only [execOp, ho, Instr.alloc, Sem.run_bind, Sem.run_pure, Result.andThen_ok, h1, run_newVar]
theorem box_ok {e : TypeId} {x : Operand} {r : Rd} {C : CallF} (hx : rdB x = some r) : OpOk P C (.box e x) ⟨fun _ t h K => rdK t r fun x => newRow h e x.cells false fun b h => K (.p b 0) h⟩ := by
  intro o ho A h w N t a K q hm ht hk
  simp only [rdK_eq] at hk
  obtain ⟨h3, hk⟩ := newRow_some hk
  have hr := rd_rel ht hx
  refine ⟨_, _, hk, .value (x := .pointer (some ⟨w.heap.size, 0, none⟩)) (w' := w.alloc (.cells (a.eval x).cells e)) ?_ ⟨_, Ev.new (k := 0) hm (row_new0 hr.cells h3), ptr_new A h.next w.heap.size 0⟩⟩
  simp only [execOp, ho, Instr.box, Sem.run_bind, Sem.run_pure, Result.andThen_ok, run_newVar]
/-! ### Parts -/
theorem elem_und {t e : TypeId} (he : elemB P t = some e) : P.underlying t = some (.slice e) := by
  unfold elemB at he
  split at he
  · injection he with he; subst he; assumption
  · cases he
theorem cells_set {n : Nat} : ∀ (v : List V) (x : List Value) (l : List V) (xs : List Value) (off : Nat), RelL A n v x → RelL A n l xs → RelL A n (l.take off ++ (v ++ l.drop (off + v.length))) (xs.take off ++ (x ++ xs.drop (off + x.length))) := fun v x l xs off h1 h2 => by
  rw [h1.length]
  exact (h2.take off).append (h1.append (h2.drop _))
theorem foldl_set : ∀ (x : List Value) (k : Nat) (off : Nat) (cs : Array Value), off + k + x.length ≤ cs.size → (x.zipIdx k).foldl (fun cs (p : Value × Nat) => cs.setIfInBounds (off + p.2) p.1) cs = (cs.toList.take (off + k) ++ (x ++ cs.toList.drop (off + k + x.length))).toArray
  | [], k, off, cs, _ => by simp
  | y :: x, k, off, cs, h => by
    simp only [List.length_cons] at h
    rw [List.zipIdx_cons, List.foldl_cons, foldl_set x (k + 1) off _ (by simp; omega)]
    simp only [Array.toList_setIfInBounds]
    congr 1
    rw [show off + (k + 1) = off + k + 1 by omega, List.take_set, List.drop_set_of_lt (by omega)]
    have hlt : off + k < cs.toList.length := by simp; omega
    rw [List.take_add_one, List.getElem?_eq_getElem hlt]
    simp only [Option.toList_some, List.length_cons]
    rw [List.set_append_right _ _ (by simp; omega)]
    have e0 : off + k - (cs.toList.take (off + k)).length = 0 := by simp; omega
    rw [e0]
    simp only [List.set_cons_zero, List.append_assoc, List.cons_append, List.nil_append]
    rw [show off + k + 1 + x.length = off + k + (x.length + 1) by omega]
theorem fill_rel {n : Nat} : ∀ (ps : List (Nat × Nat × V)) (qs : List (Nat × Value)) (place : Nat → Option (Nat × Nat)) (l : List V) (xs : List Value) (r : List V), RelL A n l xs → fillL l ps = some r →
    (List.length qs = ps.length ∧ ∀ (j : Nat) (p : Nat × Nat × V), ps[j]? = some p → ∃ q : Nat × Value, qs[j]? = some q ∧ place q.1 = some (p.1, p.2.1) ∧ Rel A n p.2.2 q.2) → ∃ ys : List Value, Instr.fill place xs.toArray qs = some ys.toArray ∧ RelL A n r ys
  | [], qs, place, l, xs, r, hl, h, hq => by
    injection h with h
    subst h
    have : qs = [] := List.eq_nil_of_length_eq_zero hq.1
    subst this
    exact ⟨xs, rfl, hl⟩
  | (off, sz, v) :: ps, [], place, l, xs, r, hl, h, hq => by simp at hq
  | (off, sz, v) :: ps, (i, x) :: qs, place, l, xs, r, hl, h, hq => by
    simp only [fillL] at h
    obtain ⟨hc, h⟩ := bb_some h
    simp only [Bool.and_eq_true] at hc
    have h1 : v.cells.length = sz := Nat.eq_of_beq_eq_true hc.1
    have h2 : off + sz ≤ l.length := Nat.le_of_ble_eq_true hc.2
    obtain ⟨q, hq0, hq1, hq2⟩ := hq.2 0 (off, sz, v) rfl
    simp only [List.getElem?_cons_zero, Option.some.injEq] at hq0
    subst hq0
    have hvc := Rel.cells hq2
    have hxl : x.cells.size = sz := by have := hvc.length; rw [Array.length_toList] at this; rw [this, h1]
    have hxs := hl.length
    obtain ⟨ys, hy1, hy2⟩ := fill_rel ps qs place _ _ r (cells_set v.cells x.cells.toList l xs off hvc hl) (by rw [h1]; exact h) ⟨by simpa using hq.1, fun j p hp => by
      obtain ⟨q, hq3, hq4⟩ := hq.2 (j + 1) p (by simpa using hp)
      exact ⟨q, by simpa using hq3, hq4⟩⟩
    refine ⟨ys, ?_, hy2⟩
    simp only [Instr.fill, hq1]
    rw [if_neg (by rw [hxl]; simp; omega)]
    have hz : x.cells.zipIdx.foldl (fun cs (p : Value × Nat) => cs.setIfInBounds (off + p.2) p.1) xs.toArray = (x.cells.toList.zipIdx 0).foldl (fun cs (p : Value × Nat) => cs.setIfInBounds (off + p.2) p.1) xs.toArray := by
      rw [← Array.foldl_toList, Array.toList_zipIdx]
    have hf := foldl_set x.cells.toList 0 off xs.toArray (by simp [hxl]; omega)
    simp only [Nat.add_zero] at hf
    rw [show (fun cs (x : Value × Nat) => match x with | (c, j) => cs.setIfInBounds (off + j) c) = (fun (cs : Array Value) (p : Value × Nat) => cs.setIfInBounds (off + p.2) p.1) from rfl, hz, hf]
    exact hy1
theorem parts_rel {n N : Nat} {t : Tr V} {a : Act} (ht : TRel A n N t a.tmps) {place : Nat → Option (Nat × Nat)} : ∀ (l : List (Nat × Operand)) (ps : List (Nat × Nat × Rd)) (vs : List (Nat × Nat × V)), partsB place l = some ps → rdP t ps = some vs →
    (l.map fun x => (x.1, a.eval x.2)).length = vs.length ∧ ∀ (j : Nat) (p : Nat × Nat × V), vs[j]? = some p → ∃ q : Nat × Value, (l.map fun x => (x.1, a.eval x.2))[j]? = some q ∧ place q.1 = some (p.1, p.2.1) ∧ Rel A n p.2.2 q.2
  | [], ps, vs, h1, h2 => by
    unfold partsB at h1
    rw [mapO_nil h1] at h2
    unfold rdP at h2
    rw [mapO_nil h2]
    exact ⟨rfl, fun j p hp => by simp at hp⟩
  | x :: l, ps, vs, h1, h2 => by
    unfold partsB at h1
    obtain ⟨y, q, h3, h4, rfl⟩ := mapO_cons h1
    obtain ⟨p, hp, h3⟩ := ob_some h3
    obtain ⟨r, hr, h3⟩ := ob_some h3
    injection h3 with h3
    subst h3
    unfold rdP at h2
    obtain ⟨z, s, h5, h6, rfl⟩ := mapO_cons h2
    rw [rdK_eq] at h5
    injection h5 with h5
    subst h5
    obtain ⟨h7, h8⟩ := parts_rel ht l q s h4 h6
    refine ⟨by simpa using h7, fun j u9 hu => ?_⟩
    cases j with
    | zero =>
      simp only [List.getElem?_cons_zero, Option.some.injEq] at hu
      subst hu
      exact ⟨_, rfl, hp, rd_rel ht hr⟩
    | succ j =>
      obtain ⟨v, h9, h10⟩ := h8 j u9 (by simpa using hu)
      exact ⟨v, by simpa using h9, h10⟩
theorem rep_rel {n : Nat} {l : List V} {xs : List Value} (h : RelL A n l xs) : ∀ k, RelL A n (rep l k) (List.flatten (List.replicate k xs))
  | 0 => .nil
  | k + 1 => by
    rw [List.replicate_succ, List.flatten_cons]
    exact h.append (rep_rel h k)
theorem flat_get {α : Type} (xs : List α) (hx : 0 < xs.length) : ∀ (k j : Nat), j < k * xs.length → (List.flatten (List.replicate k xs))[j]? = xs[j % xs.length]?
  | 0, j, h => by simp at h
  | k + 1, j, h => by
    rw [List.replicate_succ, List.flatten_cons]
    by_cases hj : j < xs.length
    · rw [List.getElem?_append_left hj, Nat.mod_eq_of_lt hj]
    · have h' := Nat.succ_mul k xs.length
      rw [Nat.succ_eq_add_one] at h'
      rw [List.getElem?_append_right (by omega), flat_get xs hx k (j - xs.length) (by omega), ← Nat.mod_eq_sub_mod (by omega)]
theorem zero_rep (z : Array Value) (k sz : Nat) (hz : z.size = sz) (hs : 0 < sz) : ((Array.range (k * sz)).map fun i => z[i % z.size]!) = (List.flatten (List.replicate k z.toList)).toArray := by
  apply Array.ext'
  apply List.ext_getElem?
  intro j
  have hlen : (List.flatten (List.replicate k z.toList)).length = k * sz := by simp [List.length_flatten, hz]
  rcases Nat.lt_or_ge j (k * sz) with hj | hj
  · have hm : j % sz < z.size := by rw [hz]; exact Nat.mod_lt _ hs
    rw [show (List.flatten (List.replicate k z.toList)).toArray.toList = List.flatten (List.replicate k z.toList) from rfl, flat_get z.toList (by simp [hz]; exact hs) k j (by simpa [hz] using hj)]
    simp [hz, hj]
    rw [getElem!_pos z (j % sz) hm, Array.getElem?_eq_getElem hm]
  · rw [List.getElem?_eq_none (by simp; omega), List.getElem?_eq_none (by simp only [hlen]; exact hj)]
end
end Go.Proofs.YtmjilfamjlnigaaGreat.Vm
