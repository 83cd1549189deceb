/- A region that draws its order: memory, whatever the order. -/
import Derived.Test.YtaadfppfjjkgbaaGreatDoorVmO
namespace Go.Proofs.YtaadfppfjjkgbaaGreatDoor.Vm
open Go Go.RowKit

/-- A region, and its canonical way. -/
structure Dw where
  P : Program
  C : CallF
  ops : Array Oper
  N : Nat
  far : Nat
  l : List Dr
  t : Tr V
  h : H
  outs : List Out
  T : Nat → Tr V
  S : Nat → Vm.H
  M : Nat → Vm.H
  v : Nat → V
  stf : List (Option Nat × Vm.H)
  rsf : List Re
  hC : CallOk P C
  df : DrawFacts ops
  len : l.length = ops.size
  dr : ∀ (i : Nat) (o : Oper), ops[i]? = some o → ∃ d, l[i]? = some d ∧ DrOk P ops N i o d
  cn : Canon C far l 0 t h h [(none, h)] [] [] outs T S M v stf rsf
namespace Dw
variable (D : Dw)
def E (i : Nat) : Prop := ∃ o, D.ops[i]? = some o ∧ isE o.op = true
def Soft (i : Nat) : Prop := ∃ o, D.ops[i]? = some o ∧ isSoft o.op = true
def W (i : Nat) : Prop := ∃ d, D.l[i]? = some d ∧ wantK (smalls (D.T i) d.us .e) d.s.g = true
/-- Blocks of zeros that stand in memory before their turn. -/
def Pd (L : Array Bool) (c s : Nat) : Prop := D.Soft s ∧ D.W s ∧ L.getD s false = true ∧ c ≤ s
def K (L : Array Bool) (c b : Nat) : Prop := b < (D.M c).next ∨ ∃ s, D.Pd L c s ∧ b = (D.M s).next
def Blk (s : Nat) (o : Obj) : Prop := ∃ O, D.M (s + 1) = ⟨(D.M s).next + 1, (D.M s).t.set (D.M s).next (some O)⟩ ∧ ∀ A n i kk, ORel A n i kk O o
end Dw
def AgreeP (A B : Sub) (K : Nat → Prop) : Prop := ∀ b, K b → B.ι b = A.ι b ∧ B.κ b = A.κ b
theorem AgreeP.refl (A : Sub) (K : Nat → Prop) : AgreeP A A K := fun _ _ => ⟨rfl, rfl⟩
namespace Dw
variable {D : Dw}
theorem lt_of {i : Nat} {o : Oper} (ho : D.ops[i]? = some o) : i < D.ops.size := (Array.getElem?_eq_some_iff.1 ho).1
theorem op_of {i : Nat} (h : i < D.ops.size) : ∃ o, D.ops[i]? = some o := ⟨_, Array.getElem?_eq_getElem h⟩
theorem step {i : Nat} {o : Oper} (ho : D.ops[i]? = some o) : ∃ d, D.l[i]? = some d ∧ DrOk D.P D.ops D.N i o d ∧ CStep D.C D.far d (D.T i) (D.S i) (D.M i) (D.v i) (D.T (i + 1)) (D.S (i + 1)) (D.M (i + 1)) := by
  obtain ⟨d, h1, h2⟩ := D.dr i o ho
  exact ⟨d, h1, h2, D.cn.step i d h1⟩
theorem notE {i : Nat} {o : Oper} (ho : D.ops[i]? = some o) (h : isE o.op = false) : ¬ D.E i := fun ⟨o', h1, h2⟩ => by
  rw [ho] at h1
  injection h1 with h1
  subst h1
  rw [h] at h2
  cases h2
theorem notSoft {i : Nat} {o : Oper} (ho : D.ops[i]? = some o) (h : isSoft o.op = false) : ¬ D.Soft i := fun ⟨o', h1, h2⟩ => by
  rw [ho] at h1
  injection h1 with h1
  subst h1
  rw [h] at h2
  cases h2
theorem notW {i : Nat} {d : Dr} (hd : D.l[i]? = some d) (h : wantK (smalls (D.T i) d.us .e) d.s.g = false) : ¬ D.W i := fun ⟨d', h1, h2⟩ => by
  rw [hd] at h1
  injection h1 with h1
  subst h1
  rw [h] at h2
  cases h2
theorem E_soft {i : Nat} (h : D.E i) : ¬ D.Soft i := by
  obtain ⟨o, h1, h2⟩ := h
  exact notSoft h1 (isE_soft h2)
/-- One step of the canonical memory, where nothing turns it. -/
theorem M_same {i : Nat} (hi : i < D.ops.size) (hE : ¬ D.E i) (hS : ¬ (D.Soft i ∧ D.W i)) : D.M (i + 1) = D.M i := by
  obtain ⟨o, ho⟩ := op_of hi
  obtain ⟨d, hd, hk, hc⟩ := step ho
  obtain ⟨_, ⟨_, _, h1, _⟩ | ⟨hw, hc⟩⟩ := hc
  · exact h1
  · rcases hk.k with ⟨h1, _⟩ | ⟨g, h1, h2, h3⟩ | ⟨h1, h2, h3⟩
    · exact absurd ⟨o, ho, h1⟩ hE
    · exact absurd ⟨⟨o, ho, h1⟩, ⟨d, hd, hw⟩⟩ hS
    · rw [h3] at hc
      exact hc.2.1
theorem M_soft {i : Nat} (hS : D.Soft i) (hW : D.W i) : ∃ o d g x, D.ops[i]? = some o ∧ D.l[i]? = some d ∧ d.us = usesT D.ops o ∧ SoftOk D.P o.op g ∧ g (smalls (D.T i) d.us .e) = some x ∧ D.v i = x.2.2 (D.M i).next ∧
    D.M (i + 1) = ⟨(D.M i).next + 1, (D.M i).t.set (D.M i).next (some (.cells x.1 x.2.1.length false (Tr.putsL x.2.1 .e 0)))⟩ := by
  obtain ⟨o, ho, hs⟩ := hS
  obtain ⟨d, hd, hk, hc⟩ := step ho
  obtain ⟨_, ⟨h1, _⟩ | ⟨hw, hc⟩⟩ := hc
  · exact absurd hW (notW hd h1)
  · rcases hk.k with ⟨h1, _⟩ | ⟨g, h1, h2, h3⟩ | ⟨h1, h2, h3⟩
    · rw [isE_soft h1] at hs; cases hs
    · rw [h3] at hc
      obtain ⟨x, hx, hc⟩ := hc
      exact ⟨o, d, g, x, ho, hd, hk.us, h2, hx, hc.1, hc.2.1⟩
    · rw [h2.1] at hs; cases hs
theorem M_snext {i : Nat} (hS : D.Soft i) (hW : D.W i) : (D.M (i + 1)).next = (D.M i).next + 1 := by
  obtain ⟨o, d, g, x, _, _, _, _, _, _, h6⟩ := M_soft hS hW
  rw [h6]
theorem M_le {i : Nat} (hi : i < D.ops.size) : (D.M i).next ≤ (D.M (i + 1)).next := by
  by_cases hE : D.E i
  · obtain ⟨o, ho, he⟩ := hE
    obtain ⟨d, hd, hk, hc⟩ := step ho
    obtain ⟨_, ⟨_, _, h1, _⟩ | ⟨hw, hc⟩⟩ := hc
    · rw [h1]; exact Nat.le_refl _
    · rcases hk.k with ⟨h1, h2⟩ | ⟨g, h1, h2, h3⟩ | ⟨h1, h2, h3⟩
      · rw [h2] at hc
        exact hc.2.2.1
      · rw [isE_soft he] at h1; cases h1
      · rw [h1] at he; cases he
  · by_cases hS : D.Soft i ∧ D.W i
    · rw [M_snext hS.1 hS.2]
      exact Nat.le_succ _
    · rw [M_same hi hE hS]
      exact Nat.le_refl _
theorem M_mono {i j : Nat} (h : i ≤ j) (hj : j ≤ D.ops.size) : (D.M i).next ≤ (D.M j).next := by
  induction j with
  | zero => rw [Nat.le_zero.1 h]; exact Nat.le_refl _
  | succ j ih =>
    rcases Nat.lt_or_eq_of_le h with h1 | h1
    · exact Nat.le_trans (ih (by omega) (by omega)) (M_le (by omega))
    · rw [h1]; exact Nat.le_refl _
theorem M_zero : D.M 0 = D.h := D.cn.h0
theorem M_far {i : Nat} (hi : i ≤ D.ops.size) : (D.M i).next ≤ D.far := by
  have := D.cn.farle
  rw [D.len] at this
  exact Nat.le_trans (M_mono hi (Nat.le_refl _)) this
theorem M_E {i : Nat} (h : D.E i) : D.S (i + 1) = D.M (i + 1) ∧ (some i, D.M (i + 1)) ∈ D.stf := by
  obtain ⟨o, ho, he⟩ := h
  obtain ⟨d, hd, hk, hc⟩ := step ho
  have hdk : d.k = .e := by
    rcases hk.k with ⟨h1, h2⟩ | ⟨g, h1, h2, h3⟩ | ⟨h1, h2, h3⟩
    · exact h2
    · rw [isE_soft he] at h1; cases h1
    · rw [h1] at he; cases he
  have h1 : D.S (i + 1) = D.M (i + 1) := by
    obtain ⟨_, ⟨_, _, h1, h2⟩ | ⟨hw, hc⟩⟩ := hc
    · rw [hdk] at h2
      rw [h2, h1]
    · rw [hdk] at hc
      exact hc.2.2.2
  refine ⟨h1, ?_⟩
  rw [← h1]
  have := D.cn.stE i d hd hdk
  rw [Nat.zero_add] at this
  exact this
/-! ### Temporaries of the canonical way -/
theorem T_succ {i : Nat} {o : Oper} (ho : D.ops[i]? = some o) : D.T (i + 1) = setT (D.T i) o.dst (D.v i) := by
  obtain ⟨d, hd, hk, hc⟩ := step ho
  rw [hc.1, (dstB_some hk.d).1]
theorem T_no {k : Nat} : ∀ {i : Nat}, i ≤ D.ops.size → (∀ j o, j < i → D.ops[j]? = some o → o.dst ≠ some k) → (D.T i).get k = D.t.get k
  | 0, _, _ => by rw [D.cn.t0]
  | i + 1, hi, h => by
    obtain ⟨o, ho⟩ := op_of (D := D) (show i < D.ops.size by omega)
    rw [T_succ ho, ← T_no (i := i) (by omega) (fun j o' hj => h j o' (by omega))]
    have := h i o (by omega) ho
    cases hd : o.dst with
    | none => rfl
    | some d =>
      show ((D.T i).set d (some (D.v i))).get k = _
      rw [Tr.get_set, if_neg (fun e => this (by rw [hd, e]))]
theorem T_yes {j k : Nat} {oj : Oper} (hj : D.ops[j]? = some oj) (hd : oj.dst = some k) : ∀ {i : Nat}, j < i → i ≤ D.ops.size → (D.T i).get k = some (D.v j)
  | 0, h, _ => by omega
  | i + 1, h, hi => by
    obtain ⟨o, ho⟩ := op_of (D := D) (show i < D.ops.size by omega)
    rw [T_succ ho]
    by_cases hij : j = i
    · subst hij
      rw [hj] at ho
      injection ho with ho
      subst ho
      rw [hd]
      show ((D.T j).set k (some (D.v j))).get k = _
      rw [Tr.get_set, if_pos rfl]
    · rw [← T_yes hj hd (i := i) (by omega) (by omega)]
      cases hd' : o.dst with
      | none => rfl
      | some d =>
        show ((D.T i).set d (some (D.v i))).get k = _
        rw [Tr.get_set, if_neg (fun e => hij (D.df.uniq j i oj o k hj ho hd (by rw [hd', e])))]
end Dw
/-! ### Memory, whatever the order -/
theorem Ev.adopt {A0 A : Sub} {h0 m : H} {w0 w : World} (e : Ev A0 h0 w0 A m w) {O : Vm.O} {o : Obj} (h1 : w.heap[A.ι m.next]? = some o) (h2 : ∀ A n i kk, ORel A n i kk O o) (h3 : w0.heap.size ≤ A.ι m.next)
    (h4 : ∀ b U, m.t.get b = some U → A.ι b ≠ A.ι m.next) : Ev A0 h0 w0 A ⟨m.next + 1, m.t.set m.next (some O)⟩ w := by
  have hg : ∀ b U, (m.t.set m.next (some O)).get b = some U → (b = m.next ∧ U = O) ∨ (b ≠ m.next ∧ m.t.get b = some U) := fun b U hb => by
    rw [Tr.get_set] at hb
    split at hb
    · rename_i e; injection hb with hb; exact .inl ⟨e, hb.symm⟩
    · rename_i e; exact .inr ⟨e, hb⟩
  refine ⟨⟨fun b U hb => ?_, fun b U hb => ?_, fun b b' U U' hb hb' he => ?_⟩, Nat.le_succ_of_le e.next, e.old, fun b U hb => ?_, e.fr, e.size, e.os, e.tape, e.output, fun b U g hb hp => ?_⟩
  · rcases hg b U hb with ⟨rfl, _⟩ | ⟨_, h5⟩
    · exact Nat.lt_succ_self _
    · exact Nat.lt_succ_of_lt (e.mt.lt b U h5)
  · rcases hg b U hb with ⟨rfl, rfl⟩ | ⟨_, h5⟩
    · exact ⟨o, h1, h2 _ _ _ _⟩
    · obtain ⟨x, hx, hr⟩ := e.mt.obj b U h5
      exact ⟨x, hx, hr.mono (fun _ _ => ⟨rfl, rfl⟩) (Nat.le_succ _)⟩
  · rcases hg b U hb with ⟨rfl, _⟩ | ⟨_, h5⟩ <;> rcases hg b' U' hb' with ⟨rfl, _⟩ | ⟨_, h5'⟩
    · rfl
    · exact absurd he.symm (h4 b' U' h5')
    · exact absurd he (h4 b U h5)
    · exact e.mt.inj b b' U U' h5 h5' he
  · rcases hg b U hb with ⟨rfl, _⟩ | ⟨_, h5⟩
    · exact .inl h3
    · exact e.src b U h5
  · obtain ⟨h5, ⟨U', h6, h7⟩, h8⟩ := e.pin b U g hb hp
    exact ⟨h5, ⟨U', by rw [Tr.get_set, if_neg (fun he => by have := e.mt.lt b U' h6; omega)]; exact h6, h7⟩, h8⟩
theorem set_get {L : Array Bool} {i : Nat} (hi : i < L.size) (j : Nat) : (L.setIfInBounds i true).getD j false = if j = i then true else L.getD j false := by
  by_cases h : j = i
  · subst h
    simp [hi]
  · rw [if_neg h, getD_set_ne false (Ne.symm h)]
structure MemI (D : Dw) (A0 : Sub) (w0 : World) (L : Array Bool) (w : World) (c : Nat) (A : Sub) : Prop where
  size : L.size = D.ops.size
  closed : Closed D.ops L
  hard : ∀ e, D.E e → (L.getD e false = true ↔ e < c)
  soft : ∀ s, D.Soft s → s < c → L.getD s false = true
  cle : c ≤ D.ops.size
  ev : Ev A0 D.h w0 A (D.M c) w
  pend : ∀ s, D.Pd L c s → ∃ o, w.heap[A.ι (D.M s).next]? = some o ∧ D.Blk s o
  pnew : ∀ s, D.Pd L c s → w0.heap.size ≤ A.ι (D.M s).next
  pfar : ∀ s, D.Pd L c s → ∀ b O, (D.M c).t.get b = some O → A.ι b ≠ A.ι (D.M s).next
  pinj : ∀ s s', D.Pd L c s → D.Pd L c s' → A.ι (D.M s).next = A.ι (D.M s').next → s = s'
structure TmpI (D : Dw) (a0 : Act) (L : Array Bool) (a : Act) (c : Nat) (A : Sub) : Prop where
  ts : a.tmps.size = D.N
  df : a.defers = a0.defers
  got : ∀ i o k, D.ops[i]? = some o → L.getD i false = true → o.dst = some k → ∀ B, AgreeP A B (D.K L c) → Rel B D.far (D.v i) (a.tmps.getD k undef)
  not : ∀ k, (∀ i o, D.ops[i]? = some o → L.getD i false = true → o.dst ≠ some k) → a.tmps.getD k undef = a0.tmps.getD k undef
section
variable {D : Dw} {A0 A A' : Sub} {w0 w w' : World} {a0 a : Act} {L : Array Bool} {c i : Nat}
theorem K_adopt (hc : c < D.ops.size) {b : Nat} (h : D.K L c b) : D.K L (c + 1) b := by
  rcases h with h | ⟨s, h, rfl⟩
  · exact .inl (Nat.lt_of_lt_of_le h (Dw.M_le hc))
  · by_cases hs : s = c
    · subst hs
      have h6 := Dw.M_snext h.1 h.2.1
      left
      rw [h6]
      exact Nat.lt_succ_self _
    · exact .inr ⟨s, ⟨h.1, h.2.1, h.2.2.1, by have := h.2.2.2; omega⟩, rfl⟩
theorem TmpI.adopt (ht : TmpI D a0 L a c A) (hc : c < D.ops.size) : TmpI D a0 L a (c + 1) A :=
  ⟨ht.ts, ht.df, fun i o k hi hl hd B hB => ht.got i o k hi hl hd B (fun b hb => hB b (K_adopt hc hb)), ht.not⟩
theorem MemI.adopt (hm : MemI D A0 w0 L w c A) (hc : c < D.ops.size) (hE : ¬ D.E c) (hS : D.Soft c → L.getD c false = true) : MemI D A0 w0 L w (c + 1) A := by
  have hp : ∀ s, D.Pd L (c + 1) s → D.Pd L c s := fun s h => ⟨h.1, h.2.1, h.2.2.1, by have := h.2.2.2; omega⟩
  have hsoft : ∀ s, D.Soft s → s < c + 1 → L.getD s false = true := fun s hs hlt => by
    by_cases h : s = c
    · subst h; exact hS hs
    · exact hm.soft s hs (by omega)
  have hhard : ∀ e, D.E e → (L.getD e false = true ↔ e < c + 1) := fun e he => by
    rw [hm.hard e he]
    have : e ≠ c := fun h => hE (h ▸ he)
    omega
  by_cases hb : D.Soft c ∧ D.W c
  · have hpd : D.Pd L c c := ⟨hb.1, hb.2, hS hb.1, Nat.le_refl _⟩
    obtain ⟨o, h1, O, h2, h3⟩ := hm.pend c hpd
    refine ⟨hm.size, hm.closed, hhard, hsoft, hc, ?_, fun s hs => hm.pend s (hp s hs), fun s hs => hm.pnew s (hp s hs), fun s hs b U hU => ?_, fun s s' hs hs' => hm.pinj s s' (hp s hs) (hp s' hs')⟩
    · rw [h2]
      exact hm.ev.adopt h1 h3 (hm.pnew c hpd) (hm.pfar c hpd)
    · rw [h2] at hU
      have hU : ((D.M c).t.set (D.M c).next (some O)).get b = some U := hU
      rw [Tr.get_set] at hU
      split at hU
      · rename_i e
        subst e
        intro he
        have := hm.pinj c s hpd (hp s hs) he
        have := hs.2.2.2
        omega
      · exact hm.pfar s (hp s hs) b U hU
  · have h2 := Dw.M_same hc hE hb
    refine ⟨hm.size, hm.closed, hhard, hsoft, hc, by rw [h2]; exact hm.ev, fun s hs => hm.pend s (hp s hs), fun s hs => hm.pnew s (hp s hs), fun s hs b U hU => hm.pfar s (hp s hs) b U (by rw [← h2]; exact hU), fun s s' hs hs' => hm.pinj s s' (hp s hs) (hp s' hs')⟩
theorem adopts {i : Nat} : ∀ (n : Nat) {c : Nat}, c + n = i → i ≤ D.ops.size → MemI D A0 w0 L w c A → TmpI D a0 L a c A → (∀ j, c ≤ j → j < i → ¬ D.E j ∧ (D.Soft j → L.getD j false = true)) → MemI D A0 w0 L w i A ∧ TmpI D a0 L a i A
  | 0, c, h, _, hm, ht, _ => by
    obtain rfl : c = i := by omega
    exact ⟨hm, ht⟩
  | n + 1, c, h, hi, hm, ht, hj => by
    have h1 := hj c (Nat.le_refl _) (by omega)
    exact adopts n (c := c + 1) (by omega) hi (hm.adopt (by omega) h1.1 h1.2) (ht.adopt (by omega)) (fun j h2 h3 => hj j (by omega) h3)
/-- An operation is listed. -/
theorem closed_set (hm : MemI D A0 w0 L w c A) {o : Oper} (ho : D.ops[i]? = some o) (hr : ∀ e ∈ o.after, Region.binds .any e = true → L.getD e.on false = true) : Closed D.ops (L.setIfInBounds i true) := by
  have hi : i < L.size := by rw [hm.size]; exact Dw.lt_of ho
  intro j oj e hl hj he hb
  rw [set_get hi] at hl
  by_cases h : j = i
  · subst h
    rw [ho] at hj
    injection hj with hj
    subst hj
    exact getD_set_true (hr e he hb)
  · rw [if_neg h] at hl
    exact getD_set_true (hm.closed j oj e hl hj he hb)
theorem MemI.quiet (hm : MemI D A0 w0 L w c A) {o : Oper} (ho : D.ops[i]? = some o) (hr : ∀ e ∈ o.after, Region.binds .any e = true → L.getD e.on false = true) (hE : ¬ D.E i) (hS : ¬ (D.Soft i ∧ D.W i)) :
    MemI D A0 w0 (L.setIfInBounds i true) w c A ∧ ∀ b, D.K L c b → D.K (L.setIfInBounds i true) c b := by
  have hi : i < L.size := by rw [hm.size]; exact Dw.lt_of ho
  have hp : ∀ s, D.Pd (L.setIfInBounds i true) c s ↔ D.Pd L c s := fun s => by
    unfold Dw.Pd
    rw [set_get hi]
    by_cases h : s = i
    · subst h
      exact ⟨fun h => absurd ⟨h.1, h.2.1⟩ hS, fun h => absurd ⟨h.1, h.2.1⟩ hS⟩
    · rw [if_neg h]
  refine ⟨⟨by simp [hm.size], closed_set hm ho hr, fun e he => ?_, fun s hs hlt => ?_, hm.cle, hm.ev, fun s hs => hm.pend s ((hp s).1 hs), fun s hs => hm.pnew s ((hp s).1 hs), fun s hs => hm.pfar s ((hp s).1 hs), fun s s' hs hs' => hm.pinj s s' ((hp s).1 hs) ((hp s').1 hs')⟩, fun b hb => ?_⟩
  · rw [set_get hi, if_neg (fun h : e = i => hE (h ▸ he))]
    exact hm.hard e he
  · exact getD_set_true (hm.soft s hs hlt)
  · rcases hb with h | ⟨s, h, rfl⟩
    · exact .inl h
    · exact .inr ⟨s, (hp s).2 h, rfl⟩
end
end Go.Proofs.YtaadfppfjjkgbaaGreatDoor.Vm
