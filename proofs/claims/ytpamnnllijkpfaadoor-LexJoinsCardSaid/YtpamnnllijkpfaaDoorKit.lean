/- Words on worlds: a block that is known whole; all but one block is kept. -/
import Derived.WalkKit
import Derived.Below
import Derived.Laws.OwnMore
import Derived.Laws.Rows
import Derived.Deep.Draws
import Derived.Lib.Hide
import Derived.BigQuiet
import Derived.Deep.QuietTactic
namespace Go.Proofs.YtpamnnllijkpfaaDoor.Kit
open Go Go.RowKit

/-- Block g is just these cells, of this element type, none frozen. -/
def Blk (w : World) (g : Nat) (t : TypeId) (cs : Array Value) : Prop := w.heap[g]? = some (.cells cs t (0, 0))

/-- All that was there but block g is as it was. -/
def Kept (g : Nat) (w w' : World) : Prop :=
  w'.os = w.os ∧ w'.tape = w.tape ∧ w'.output = w.output ∧ w.heap.size ≤ w'.heap.size ∧ ∀ k, k < w.heap.size → k ≠ g → w'.heap[k]? = w.heap[k]?

section
variable {w w' w1 w2 : World} {g : Nat} {t : TypeId} {cs : Array Value}

theorem Blk.lt (h : Blk w g t cs) : g < w.heap.size := by
  rcases Nat.lt_or_ge g w.heap.size with hlt | hge
  · exact hlt
  · unfold Blk at h
    rw [Array.getElem?_eq_none hge] at h
    cases h
theorem Blk.cell (h : Blk w g t cs) (i : Nat) : w.cell? ⟨g, i, none⟩ = cs[i]? := by
  unfold Blk at h
  simp [World.cell?, h]
theorem Blk.frozen (h : Blk w g t cs) (i : Nat) : w.frozen? ⟨g, i, none⟩ = false := by
  unfold Blk at h
  simp [World.frozen?, h]
theorem Blk.new (w : World) (t : TypeId) (cs : Array Value) : Blk (w.alloc (.cells cs t)) w.heap.size t cs := heap_alloc_new w _
theorem Blk.drew (h : Blk w g t cs) : Blk w.drew g t cs := h
theorem Blk.drewN (h : Blk w g t cs) (n : Nat) : Blk (w.drewN n) g t cs := h
theorem Blk.alloc (h : Blk w g t cs) (o : Obj) : Blk (w.alloc o) g t cs := (Below.heap_alloc w o g h.lt).trans h
theorem Blk.set (h : Blk w g t cs) (i : Nat) (u : Value) : Blk (w.setCell ⟨g, i, none⟩ u) g t (cs.setIfInBounds i u) := by
  unfold Blk at h ⊢
  simp [World.setCell, Array.getElem?_modify, h]
theorem Blk.far (h : Blk w g t cs) {p : Addr} (hp : g ≠ p.block) (u : Value) : Blk (w.setCell p u) g t cs := (Below.heap_setCell w p u g hp).trans h
theorem Blk.below {B : Nat} (h : Blk w g t cs) (hb : Below B w w') (hg : g < B) : Blk w' g t cs := (hb.block g hg).trans h
theorem Blk.below' (h : Blk w g t cs) (hb : Below w.heap.size w w') : Blk w' g t cs := h.below hb h.lt
theorem Blk.kept {g' : Nat} (h : Blk w g t cs) (hk : Kept g' w w') (hg : g ≠ g') : Blk w' g t cs := (hk.2.2.2.2 g h.lt hg).trans h

theorem Kept.refl (g : Nat) (w : World) : Kept g w w := ⟨rfl, rfl, rfl, Nat.le_refl _, fun _ _ _ => rfl⟩
theorem Kept.trans (h : Kept g w w1) (k : Kept g w1 w2) : Kept g w w2 :=
  ⟨k.1.trans h.1, k.2.1.trans h.2.1, k.2.2.1.trans h.2.2.1, Nat.le_trans h.2.2.2.1 k.2.2.2.1, fun i hi hg => (k.2.2.2.2 i (Nat.lt_of_lt_of_le hi h.2.2.2.1) hg).trans (h.2.2.2.2 i hi hg)⟩
theorem Kept.of_below (g : Nat) (h : Below w.heap.size w w') : Kept g w w' := ⟨h.os, h.tape, h.output, h.size, fun k hk _ => h.block k hk⟩
theorem Kept.drew (h : Kept g w w1) : Kept g w w1.drew := h
theorem Kept.drewN (h : Kept g w w1) (n : Nat) : Kept g w (w1.drewN n) := h
theorem Kept.alloc (h : Kept g w w1) (o : Obj) : Kept g w (w1.alloc o) :=
  h.trans ⟨rfl, rfl, rfl, by simp, fun k hk _ => Below.heap_alloc _ _ _ hk⟩
theorem Kept.set (h : Kept g w w1) (i : Nat) (u : Value) : Kept g w (w1.setCell ⟨g, i, none⟩ u) :=
  h.trans ⟨rfl, rfl, rfl, by simp [World.setCell], fun k _ hg => Below.heap_setCell _ _ _ _ hg⟩
/-- A new block that this call made may be written, too. -/
theorem Kept.set_new (h : Kept g w w1) {p : Addr} (hp : w.heap.size ≤ p.block) (u : Value) : Kept g w (w1.setCell p u) :=
  ⟨h.1, h.2.1, h.2.2.1, by simp [World.setCell]; exact h.2.2.2.1, fun k hk hg => (Below.heap_setCell _ _ _ _ (by omega)).trans (h.2.2.2.2 k hk hg)⟩
theorem Kept.size (h : Kept g w w') : w.heap.size ≤ w'.heap.size := h.2.2.2.1
theorem Kept.cell (h : Kept g w w') {p : Addr} (hp : p.block < w.heap.size) (hg : p.block ≠ g) : w'.cell? p = w.cell? p := World.cell?_of_block (w := w) (h.2.2.2.2 _ hp hg)
theorem Kept.frozen (h : Kept g w w') {p : Addr} (hp : p.block < w.heap.size) (hg : p.block ≠ g) : w'.frozen? p = w.frozen? p := World.frozen?_of_block (w := w) (h.2.2.2.2 _ hp hg)
/-- A block that the call made itself: then what was there before is as it was. -/
theorem Kept.below (h : Kept g w w') {B : Nat} (hB : B ≤ w.heap.size) (hg : B ≤ g) : Below B w w' :=
  ⟨h.1, h.2.1, h.2.2.1, h.2.2.2.1, fun k hk => h.2.2.2.2 k (by omega) (by omega)⟩
/-- Within a call that began at w: what the callee kept. -/
theorem Below.kept (h : Below w.heap.size w w1) (k : Kept g w1 w2) (hg : w.heap.size ≤ g) : Below w.heap.size w w2 :=
  h.trans (k.below h.size hg)
theorem Kept.below_trans (h : Kept g w w1) (k : Below w1.heap.size w1 w2) : Kept g w w2 := h.trans (Kept.of_below g k)
theorem Below.then (h : Below w.heap.size w w1) (k : Below w1.heap.size w1 w2) : Below w.heap.size w w2 := h.trans (k.mono h.size)
end

theorem Below_drewN {w : World} (B n : Nat) : Below B w (w.drewN n) := ⟨rfl, rfl, rfl, Nat.le_refl _, fun _ _ => rfl⟩

/-- A world of a class. -/
structure Cls (C : World → Prop) where
  w : World
  h : C w

/-- A region that draws its order and whose operations read, or call what leaves a world of the class: walked once. -/
theorem wp_region_cls (C : World → Prop) {P : Program} {id : Nat} {Q : Exit → Act → World → Prop} {a : Act} {w : World} {l : List Oper} (hC : C { w with drawn := w.drawn + 1 })
    (hm : P.follows .mixedOrders = true) (hB : Region.lexB .any l.toArray = true)
    (h : Nonempty (Cls C) → wpQuiet P l.toArray (fun w' => ∃ p : Cls C, w' = p.w) (fun a' => ∀ w', C w' → Q .normal a' w') l a) : (Code.region id l.toArray true).wp P Q a w :=
  wp_region_quiet (C := fun w' => ∃ p : Cls C, w' = p.w) hm hB ⟨⟨_, hC⟩, rfl⟩ (by
    have e : (fun a' => ∀ w', (∃ p : Cls C, w' = p.w) → Q .normal a' w') = (fun a' => ∀ w', C w' → Q .normal a' w') := by
      funext a'
      apply propext
      constructor
      · intro h w' hw
        exact h w' ⟨⟨w', hw⟩, rfl⟩
      · rintro h w' ⟨p, rfl⟩
        exact h p.w p.h
    rw [e]
    simpa using h ⟨⟨_, hC⟩⟩)

/-- A callee, met in a world of the class. -/
theorem Calls.cls {C : World → Prop} {P : Program} {f : FuncId} {args : Array Value} {w : World} {v : Value} (h : Calls P f args w fun e w' => e = .returned v ∧ C w') :
    Calls P f args w fun e w'' => e = .returned v ∧ ∃ p : Cls C, w'' = p.w :=
  h.mono fun _ w' ⟨he, hc⟩ => ⟨he, ⟨w', hc⟩, rfl⟩

/-! A cell behind so many new blocks. -/
theorem cellA1 {w : World} {p : Addr} {v : Value} (h : w.cell? p = some v) (o1 : Obj) : (w.alloc o1).cell? p = some v := (World.cell?_alloc_lt w o1 p (by
  rcases Nat.lt_or_ge p.block w.heap.size with hlt | hge
  · exact hlt
  · rw [World.cell?, Array.getElem?_eq_none hge] at h
    cases h)).trans h
theorem cellA2 {w : World} {p : Addr} {v : Value} (h : w.cell? p = some v) (o1 o2 : Obj) : ((w.alloc o1).alloc o2).cell? p = some v := cellA1 (cellA1 h o1) o2
theorem cellA3 {w : World} {p : Addr} {v : Value} (h : w.cell? p = some v) (o1 o2 o3 : Obj) : (((w.alloc o1).alloc o2).alloc o3).cell? p = some v := cellA1 (cellA2 h o1 o2) o3
theorem cellA4 {w : World} {p : Addr} {v : Value} (h : w.cell? p = some v) (o1 o2 o3 o4 : Obj) : ((((w.alloc o1).alloc o2).alloc o3).alloc o4).cell? p = some v := cellA1 (cellA3 h o1 o2 o3) o4
theorem cellA5 {w : World} {p : Addr} {v : Value} (h : w.cell? p = some v) (o1 o2 o3 o4 o5 : Obj) : (((((w.alloc o1).alloc o2).alloc o3).alloc o4).alloc o5).cell? p = some v := cellA1 (cellA4 h o1 o2 o3 o4) o5
theorem cellA6 {w : World} {p : Addr} {v : Value} (h : w.cell? p = some v) (o1 o2 o3 o4 o5 o6 : Obj) : ((((((w.alloc o1).alloc o2).alloc o3).alloc o4).alloc o5).alloc o6).cell? p = some v := cellA1 (cellA5 h o1 o2 o3 o4 o5) o6

theorem Blk.newAt {w : World} {n : Nat} (h : w.heap.size = n) (t : TypeId) (cs : Array Value) : Blk (w.alloc (.cells cs t)) n t cs := by subst h; exact Blk.new w t cs
theorem Below.dn {B n : Nat} {w w1 : World} (h : Below B w w1) : Below B w (w1.drewN n) := ⟨h.os, h.tape, h.output, h.size, h.block⟩
theorem Below.al {w w1 : World} (h : Below w.heap.size w w1) (o : Obj) : Below w.heap.size w (w1.alloc o) := h.alloc h.size o
theorem sizeA (w : World) (o : Obj) : (w.alloc o).heap.size = w.heap.size + 1 := by simp
/-- A cell of a known block, in every world of the class. -/
theorem Blk.cls {w : World} {g : Nat} {t : TypeId} {cs : Array Value} (h : Blk w g t cs) (i : Nat) (p : Cls (Below w.heap.size w)) : p.w.cell? ⟨g, i, none⟩ = cs[i]? := (h.below' p.h).cell i

theorem Kept.setN {w w1 : World} {g b o : Nat} (h : Kept g w w1) (hp : w.heap.size ≤ b) (u : Value) : Kept g w (w1.setCell ⟨b, o, none⟩ u) := Kept.set_new h hp u
theorem Below.setN {w w1 : World} {b o : Nat} (h : Below w.heap.size w w1) (hp : w.heap.size ≤ b) (u : Value) : Below w.heap.size w (w1.setCell ⟨b, o, none⟩ u) := h.setCell hp u

theorem cellS {w : World} {b o b' o' : Nat} {u v : Value} (h : w.cell? ⟨b', o', none⟩ = some v) (hne : b' ≠ b) : (w.setCell ⟨b, o, none⟩ u).cell? ⟨b', o', none⟩ = some v :=
  (World.cell?_setCell_other w _ _ u (by rintro e; injection e with e; exact hne e.symm)).trans h
theorem cellD {w : World} {p : Addr} {v : Value} (h : w.cell? p = some v) : w.drew.cell? p = some v := h

theorem Blk.farN {w : World} {g b o : Nat} {t : TypeId} {cs : Array Value} (h : Blk w g t cs) (hne : g ≠ b) (u : Value) : Blk (w.setCell ⟨b, o, none⟩ u) g t cs := h.far hne u
theorem Blk.d {w : World} {g : Nat} {t : TypeId} {cs : Array Value} (h : Blk w g t cs) : Blk w.drew g t cs := h
theorem Kept.d {w w1 : World} {g : Nat} (h : Kept g w w1) : Kept g w w1.drew := h

theorem Below.d {B : Nat} {w w1 : World} (h : Below B w w1) : Below B w w1.drew := h.drew
theorem Blk.grown {w w' : World} {g : Nat} {t : TypeId} {cs : Array Value} {row : Option Nat} (h : Blk w g t cs) (hb : w.grownBy w' row) (hne : row ≠ some g) : Blk w' g t cs := (hb.block g h.lt (Ne.symm hne)).trans h

end Go.Proofs.YtpamnnllijkpfaaDoor.Kit
