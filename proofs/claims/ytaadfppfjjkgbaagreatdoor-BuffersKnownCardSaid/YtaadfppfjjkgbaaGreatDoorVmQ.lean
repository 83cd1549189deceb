/- A region that draws its order: one operation more, and all. -/
import Derived.Test.YtaadfppfjjkgbaaGreatDoorVmP
namespace Go.Proofs.YtaadfppfjjkgbaaGreatDoor.Vm
open Go Go.RowKit

section
variable {D : Dw} {A0 A A' : Sub} {w0 w w' : World} {a0 a : Act} {L : Array Bool} {c i : Nat}
theorem MemI.softly (hm : MemI D A0 w0 L w c A) {o : Oper} (ho : D.ops[i]? = some o) (hr : ∀ e ∈ o.after, Region.binds .any e = true → L.getD e.on false = true) (hu : L.getD i false = false) (hS : D.Soft i) (hW : D.W i) {ob : Obj} (hb : D.Blk i ob) :
    MemI D A0 w0 (L.setIfInBounds i true) (w.alloc ob) c (A.ext (D.M i).next w.heap.size 0) ∧ c ≤ i ∧
    ∀ b, D.K L c b → D.K (L.setIfInBounds i true) c b ∧ (A.ext (D.M i).next w.heap.size 0).ι b = A.ι b ∧ (A.ext (D.M i).next w.heap.size 0).κ b = A.κ b := by
  have hi : i < L.size := by rw [hm.size]; exact Dw.lt_of ho
  have hin : i < D.ops.size := Dw.lt_of ho
  have hci : c ≤ i := by
    rcases Nat.lt_or_ge i c with h | h
    · rw [hm.soft i hS h] at hu; cases hu
    · exact h
  have hMi : (D.M (i + 1)).next = (D.M i).next + 1 := by
    rw [Dw.M_snext hS hW]
  have hne : ∀ s, D.Pd L c s → (D.M s).next ≠ (D.M i).next := fun s hs he => by
    have hsi : s ≠ i := fun h => by rw [← h, hs.2.2.1] at hu; cases hu
    have hsn : s < D.ops.size := by obtain ⟨o', h1, _⟩ := hs.1; exact Dw.lt_of h1
    have hMs : (D.M (s + 1)).next = (D.M s).next + 1 := by
      rw [Dw.M_snext hs.1 hs.2.1]
    rcases Nat.lt_or_gt_of_ne hsi with h | h
    · have := Dw.M_mono (D := D) (show s + 1 ≤ i from h) (by omega)
      omega
    · have := Dw.M_mono (D := D) (show i + 1 ≤ s from h) (by omega)
      omega
  have hbelow : ∀ b, b < (D.M c).next → b ≠ (D.M i).next := fun b hb => by
    have := Dw.M_mono (D := D) hci (by omega)
    omega
  have ha : ∀ b, b ≠ (D.M i).next → (A.ext (D.M i).next w.heap.size 0).ι b = A.ι b ∧ (A.ext (D.M i).next w.heap.size 0).κ b = A.κ b := fun b hb => by simp [Sub.ext, hb]
  have hself : (A.ext (D.M i).next w.heap.size 0).ι (D.M i).next = w.heap.size := by simp [Sub.ext]
  have hp : ∀ s, D.Pd (L.setIfInBounds i true) c s → s = i ∨ (s ≠ i ∧ D.Pd L c s) := fun s hs => by
    by_cases h : s = i
    · exact .inl h
    · refine .inr ⟨h, hs.1, hs.2.1, ?_, hs.2.2.2⟩
      have := hs.2.2.1
      rw [set_get hi, if_neg h] at this
      exact this
  have hlt : ∀ s, D.Pd L c s → A.ι (D.M s).next < w.heap.size := fun s hs => by
    obtain ⟨o', h1, _⟩ := hm.pend s hs
    exact (Array.getElem?_eq_some_iff.1 h1).1
  have hev : Ev A0 D.h w0 (A.ext (D.M i).next w.heap.size 0) (D.M c) (w.alloc ob) := by
    have h1 : Ev A (D.M c) w A (D.M c) (w.alloc ob) := by
      refine ⟨⟨hm.ev.mt.lt, fun b O hb => ?_, hm.ev.mt.inj⟩, Nat.le_refl _, fun _ _ => ⟨rfl, rfl⟩, fun b O hb => .inr ⟨b, O, hb, rfl⟩, fun j hj _ => Below.heap_alloc w ob j hj, by simp, rfl, rfl, rfl, fun b O g hb hp => ⟨rfl, ⟨O, hb, hp⟩, Below.heap_alloc w ob _ (hm.ev.mt.ilt hb)⟩⟩
      obtain ⟨x, hx, hr⟩ := hm.ev.mt.obj b O hb
      exact ⟨x, (Below.heap_alloc w ob _ (hm.ev.mt.ilt hb)).trans hx, hr⟩
    exact (hm.ev.trans h1).cong fun b hb => ha b (hbelow b hb)
  refine ⟨⟨by simp [hm.size], closed_set hm ho hr, fun e he => ?_, fun s hs hlt => getD_set_true (hm.soft s hs hlt), hm.cle, hev, fun s hs => ?_, fun s hs => ?_, fun s hs b O hbO => ?_, fun s s' hs hs' he => ?_⟩, hci, fun b hb => ?_⟩
  · rw [set_get hi, if_neg (fun h : e = i => Dw.E_soft he (h ▸ hS))]
    exact hm.hard e he
  · rcases hp s hs with rfl | ⟨_, hs'⟩
    · exact ⟨ob, by rw [hself]; exact heap_alloc_new w ob, hb⟩
    · obtain ⟨o', h1, h2⟩ := hm.pend s hs'
      exact ⟨o', by rw [(ha _ (hne s hs')).1]; exact (Below.heap_alloc w ob _ (hlt s hs')).trans h1, h2⟩
  · rcases hp s hs with rfl | ⟨_, hs'⟩
    · rw [hself]; exact hm.ev.size
    · rw [(ha _ (hne s hs')).1]; exact hm.pnew s hs'
  · have hbl := hm.ev.mt.lt b O hbO
    rw [(ha b (hbelow b hbl)).1]
    rcases hp s hs with rfl | ⟨_, hs'⟩
    · rw [hself]
      have := hm.ev.mt.ilt hbO
      omega
    · rw [(ha _ (hne s hs')).1]; exact hm.pfar s hs' b O hbO
  · rcases hp s hs with rfl | ⟨_, h1⟩ <;> rcases hp s' hs' with rfl | ⟨_, h2⟩
    · rfl
    · rw [hself, (ha _ (hne s' h2)).1] at he
      have := hlt s' h2
      omega
    · rw [hself, (ha _ (hne s h1)).1] at he
      have := hlt s h1
      omega
    · rw [(ha _ (hne s h1)).1, (ha _ (hne s' h2)).1] at he
      exact hm.pinj s s' h1 h2 he
  · rcases hb with h | ⟨s, h, rfl⟩
    · exact ⟨.inl h, ha b (hbelow b h)⟩
    · exact ⟨.inr ⟨s, ⟨h.1, h.2.1, getD_set_true h.2.2.1, h.2.2.2⟩, rfl⟩, ha _ (hne s h)⟩
/-- Two, one below a number and one above it. -/
def Sub.glue (A A' : Sub) (m : Nat) : Sub := ⟨fun b => if b < m then A'.ι b else A.ι b, fun b => if b < m then A'.κ b else A.κ b⟩
theorem Sub.glue_lt (A A' : Sub) (m : Nat) : Agree A' (A.glue A' m) m := fun b hb => by simp [Sub.glue, hb]
theorem Sub.glue_ge (A A' : Sub) {m b : Nat} (hb : m ≤ b) : (A.glue A' m).ι b = A.ι b ∧ (A.glue A' m).κ b = A.κ b := by simp [Sub.glue, Nat.not_lt.2 hb]
theorem MemI.hardly (hm : MemI D A0 w0 L w i A) {o : Oper} (ho : D.ops[i]? = some o) (hr : ∀ e ∈ o.after, Region.binds .any e = true → L.getD e.on false = true) (hE : D.E i) (he : Ev A (D.M i) w A' (D.M (i + 1)) w') :
    MemI D A0 w0 (L.setIfInBounds i true) w' (i + 1) (A.glue A' (D.M (i + 1)).next) ∧
    ∀ b, D.K L i b → D.K (L.setIfInBounds i true) (i + 1) b ∧ (A.glue A' (D.M (i + 1)).next).ι b = A.ι b ∧ (A.glue A' (D.M (i + 1)).next).κ b = A.κ b := by
  have hi : i < L.size := by rw [hm.size]; exact Dw.lt_of ho
  have hin : i < D.ops.size := Dw.lt_of ho
  have h1 : Ev A (D.M i) w (A.glue A' (D.M (i + 1)).next) (D.M (i + 1)) w' := he.cong (Sub.glue_lt A A' _)
  have hp : ∀ s, D.Pd (L.setIfInBounds i true) (i + 1) s → D.Pd L i s ∧ i + 1 ≤ s := fun s hs => by
    have h2 := hs.2.2.2
    refine ⟨⟨hs.1, hs.2.1, ?_, by omega⟩, h2⟩
    have := hs.2.2.1
    rw [set_get hi, if_neg (by omega)] at this
    exact this
  have hge : ∀ s, D.Pd L i s → i + 1 ≤ s → (A.glue A' (D.M (i + 1)).next).ι (D.M s).next = A.ι (D.M s).next ∧ (A.glue A' (D.M (i + 1)).next).κ (D.M s).next = A.κ (D.M s).next := fun s hs h => by
    have hsn : s < D.ops.size := by obtain ⟨o', h1, _⟩ := hs.1; exact Dw.lt_of h1
    exact Sub.glue_ge A A' (Dw.M_mono h (by omega))
  have hlt : ∀ s, D.Pd L i s → A.ι (D.M s).next < w.heap.size := fun s hs => by
    obtain ⟨o', h1, _⟩ := hm.pend s hs
    exact (Array.getElem?_eq_some_iff.1 h1).1
  refine ⟨⟨by simp [hm.size], closed_set hm ho hr, fun e he => ?_, fun s hs hlt => ?_, hin, hm.ev.trans h1, fun s hs => ?_, fun s hs => ?_, fun s hs b O hbO => ?_, fun s s' hs hs' he => ?_⟩, fun b hb => ?_⟩
  · rw [set_get hi]
    by_cases h : e = i
    · simp [h]
    · rw [if_neg h, hm.hard e he]
      omega
  · rw [set_get hi]
    by_cases h : s = i
    · simp [h]
    · rw [if_neg h]
      exact hm.soft s hs (by omega)
  · obtain ⟨h2, h3⟩ := hp s hs
    obtain ⟨o', h4, h5⟩ := hm.pend s h2
    exact ⟨o', by rw [(hge s h2 h3).1, h1.fr _ (hlt s h2) (hm.pfar s h2)]; exact h4, h5⟩
  · obtain ⟨h2, h3⟩ := hp s hs
    rw [(hge s h2 h3).1]
    exact hm.pnew s h2
  · obtain ⟨h2, h3⟩ := hp s hs
    rw [(hge s h2 h3).1]
    rcases h1.src b O hbO with h4 | ⟨b0, O0, h4, h5⟩
    · have := hlt s h2
      omega
    · rw [← h5]
      exact hm.pfar s h2 b0 O0 h4
  · obtain ⟨h2, h3⟩ := hp s hs
    obtain ⟨h4, h5⟩ := hp s' hs'
    rw [(hge s h2 h3).1, (hge s' h4 h5).1] at he
    exact hm.pinj s s' h2 h4 he
  · rcases hb with h | ⟨s, h, rfl⟩
    · exact ⟨.inl (Nat.lt_of_lt_of_le h (Dw.M_le hin)), h1.old b h⟩
    · have h2 : i + 1 ≤ s := by
        have := h.2.2.2
        have : s ≠ i := fun h' => Dw.E_soft hE (h' ▸ h.1)
        omega
      exact ⟨.inr ⟨s, ⟨h.1, h.2.1, getD_set_true h.2.2.1, h2⟩, rfl⟩, hge s h h2⟩
/-- A value goes into its temporary. -/
theorem TmpI.put {L' : Array Bool} {c' : Nat} (ht : TmpI D a0 L a c A) {o : Oper} (ho : D.ops[i]? = some o) (hi : i < L.size) (hL : L' = L.setIfInBounds i true) (hu : L.getD i false = false) (hd : ∀ k, o.dst = some k → k < D.N)
    (hK : ∀ b, D.K L c b → D.K L' c' b ∧ A'.ι b = A.ι b ∧ A'.κ b = A.κ b) {x : Value} (hx : ∀ B, AgreeP A' B (D.K L' c') → Rel B D.far (D.v i) x) : TmpI D a0 L' (a.put o.dst x) c' A' := by
  subst hL
  have hne : ∀ j oj k, D.ops[j]? = some oj → j ≠ i → oj.dst = some k → o.dst ≠ some k := fun j oj k hj hji h1 h2 => hji (D.df.uniq j i oj o k hj ho h1 h2)
  have hget : ∀ k, o.dst ≠ some k → (a.put o.dst x).tmps.getD k undef = a.tmps.getD k undef := fun k h => by
    cases hd' : o.dst with
    | none => rfl
    | some d =>
      show (a.tmps.setIfInBounds d x).getD k undef = _
      have : d ≠ k := fun e => h (by rw [hd', e])
      simp [Array.getElem?_setIfInBounds_ne this]
  refine ⟨?_, by rw [put_defers]; exact ht.df, fun j oj k hj hl hk B hB => ?_, fun k hk => ?_⟩
  · cases o.dst with
    | none => exact ht.ts
    | some d => simpa [Act.put] using ht.ts
  · rw [set_get hi] at hl
    by_cases h : j = i
    · subst h
      rw [ho] at hj
      injection hj with hj
      subst hj
      have h2 : k < a.tmps.size := by rw [ht.ts]; exact hd k hk
      rw [hk]
      show Rel B D.far (D.v j) ((a.tmps.setIfInBounds k x).getD k undef)
      simpa [h2] using hx B hB
    · rw [if_neg h] at hl
      rw [hget k (hne j oj k hj h hk)]
      exact ht.got j oj k hj hl hk B fun b hb => by
        obtain ⟨h1, h2, h3⟩ := hK b hb
        have h4 := hB b h1
        exact ⟨h4.1.trans h2, h4.2.trans h3⟩
  · rw [hget k (hk i o ho (by rw [set_get hi, if_pos rfl]))]
    exact ht.not k fun j oj hj hl => hk j oj hj (getD_set_true hl)
end
end Go.Proofs.YtaadfppfjjkgbaaGreatDoor.Vm
