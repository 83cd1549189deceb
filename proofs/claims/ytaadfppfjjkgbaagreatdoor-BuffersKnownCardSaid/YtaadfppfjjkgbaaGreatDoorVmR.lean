/- A region that draws its order: the whole. -/
import Derived.Test.YtaadfppfjjkgbaaGreatDoorVmQ
import Derived.OrdersIn
namespace Go.Proofs.YtaadfppfjjkgbaaGreatDoor.Vm
open Go Go.RowKit

section
variable {D : Dw} {A0 A A' : Sub} {w0 w w' : World} {a0 a : Act} {L : Array Bool} {c i : Nat}
theorem ready_ahead (hm : MemI D A0 w0 L w c A) {o : Oper} (ho : D.ops[i]? = some o) (hr : ∀ e ∈ o.after, Region.binds .any e = true → L.getD e.on false = true) {j : Nat} (h : Ahead D.ops j i) : L.getD j false = true :=
  ahead_listed hm.closed (i + 1) j i (Nat.lt_succ_self _) h (fun o' e ho' he hb => by
    rw [ho] at ho'
    injection ho' with ho'
    subst ho'
    exact hr e he hb)
theorem listed_ahead (hm : MemI D A0 w0 L w c A) {j k : Nat} (hk : L.getD k false = true) (h : Ahead D.ops j k) : L.getD j false = true :=
  ahead_listed hm.closed (k + 1) j k (Nat.lt_succ_self _) h (fun o' e ho' he hb => hm.closed k o' e hk ho' he hb)
theorem opnd (hm : MemI D A0 w0 L w c A) (ht : TmpI D a0 L a c A) (ht0 : TRel A0 D.h.next D.N D.t a0.tmps) {o : Oper} (ho : D.ops[i]? = some o) (hr : ∀ e ∈ o.after, Region.binds .any e = true → L.getD e.on false = true) (hu : L.getD i false = false) {B : Sub} (hB : AgreeP A B (D.K L c)) :
    TRel B D.far D.N (smalls (D.T i) (usesT D.ops o) .e) (cutA (usesT D.ops o) D.N a).tmps := by
  have hin := Dw.lt_of ho
  refine ⟨by simp [cutA, cutT], fun k => ?_⟩
  rw [smalls_get, show (cutA (usesT D.ops o) D.N a).tmps = cutT (usesT D.ops o) D.N a.tmps from rfl, cutT_get ht.ts]
  by_cases hk : k ∈ usesT D.ops o
  · rw [if_pos hk, if_pos hk]
    by_cases hj : ∃ j oj, D.ops[j]? = some oj ∧ oj.dst = some k ∧ L.getD j false = true
    · obtain ⟨j, oj, h1, h2, h3⟩ := hj
      have hji : j < i := by
        rcases D.df.uses j i oj o k h1 ho h2 hk with h | ⟨h, _⟩ | ⟨_, h⟩
        · rw [h, hu] at h3; cases h3
        · exact h
        · rw [listed_ahead hm h3 h] at hu; cases hu
      rw [Dw.T_yes h1 h2 hji (by omega)]
      exact ht.got j oj k h1 h3 h2 B hB
    · rw [ht.not k fun j oj h1 h2 h3 => hj ⟨j, oj, h1, h3, h2⟩, Dw.T_no (by omega) (fun j oj hji h1 h2 => hj ⟨j, oj, h1, h2, by
        rcases D.df.uses j i oj o k h1 ho h2 hk with h | ⟨_, h⟩ | ⟨h, _⟩
        · omega
        · exact ready_ahead hm ho hr h
        · omega⟩)]
      refine (ht0.2 k).mono (fun b hb => ?_) ?_
      · have h1 := hB b (.inl (Nat.lt_of_lt_of_le hb hm.ev.next))
        have h2 := hm.ev.old b hb
        exact ⟨h1.1.trans h2.1, h1.2.trans h2.2⟩
      · rw [← Dw.M_zero]
        exact Dw.M_far (Nat.zero_le _)
  · rw [if_neg hk, if_neg hk]
    exact .u
/-- Where memory stands now is one of the places that were looked at. -/
def Tight (D : Dw) (c : Nat) : Prop := c = 0 ∨ ∃ e, c = e + 1 ∧ D.E e
theorem stands (hm : MemI D A0 w0 L w c A) (hc : Tight D c) {o : Oper} (ho : D.ops[i]? = some o) (hr : ∀ e ∈ o.after, Region.binds .any e = true → L.getD e.on false = true) (hu : L.getD i false = false) :
    ∃ x, (x, D.M c) ∈ D.stf ∧ x ∈ (none :: (idxs isE D.ops.toList).map some).filter (mayStand (bef D.ops.toList []) (idxs isE D.ops.toList) i) := by
  have hh : ∀ e', e' ∈ idxs isE D.ops.toList → Ahead D.ops e' i → e' < c := fun e' h1 h2 => by
    obtain ⟨o', h3, h4⟩ := idxs_mem.1 h1
    exact (hm.hard e' ⟨o', by simpa using h3, h4⟩).1 (ready_ahead hm ho hr h2)
  rcases hc with rfl | ⟨e, rfl, hE⟩
  · refine ⟨none, ?_, List.mem_filter.2 ⟨by simp, ?_⟩⟩
    · rw [Dw.M_zero]
      exact D.cn.st _ (by simp)
    · simp only [mayStand, List.all_eq_true]
      intro e' he'
      cases hb : ((bef D.ops.toList []).getD i 0).testBit e' with
      | false => rfl
      | true => exact absurd (hh e' he' hb) (Nat.not_lt_zero _)
  · obtain ⟨oe, hoe, hie⟩ := hE
    refine ⟨some e, (Dw.M_E ⟨oe, hoe, hie⟩).2, List.mem_filter.2 ⟨?_, ?_⟩⟩
    · have : e ∈ idxs isE D.ops.toList := idxs_mem.2 ⟨oe, by simpa using hoe, hie⟩
      simp [this]
    · simp only [mayStand, Bool.and_eq_true, List.all_eq_true]
      refine ⟨?_, fun e' he' => ?_⟩
      · cases hb : ((bef D.ops.toList []).getD e 0).testBit i with
        | false => rfl
        | true =>
          rw [listed_ahead hm ((hm.hard e ⟨oe, hoe, hie⟩).2 (Nat.lt_succ_self _)) hb] at hu
          cases hu
      · cases hb : ((bef D.ops.toList []).getD i 0).testBit e' with
        | false => simp
        | true =>
          have := hh e' he' hb
          simp only [Bool.not_true, Bool.or_false]
          exact Nat.ble_eq_true_of_le (by omega)
theorem readsOk_mem {far : Nat} {st : List (Option Nat × H)} {rs : List Re} (h : readsOk far st rs = true) {r : Re} (hr : r ∈ rs) {x : Option Nat × H} (hx : x ∈ st) (hk : x.1 ∈ r.ks) : ∃ q, one (r.f.f noC r.t ⟨far, x.2.t⟩ tell) = some (r.v, q) := by
  unfold readsOk at h
  have h1 := List.all_eq_true.1 (List.all_eq_true.1 h r hr) x hx
  rw [show r.ks.contains x.1 = true by simpa using hk, br_t] at h1
  split at h1
  · rename_i p hp
    refine ⟨p.2, ?_⟩
    rw [hp, ← same_eq _ _ h1]
  · cases h1
theorem underT_get {t : Tr V} {n : Nat} {us : List Nat} (h : underT t n us = true) {k : Nat} (hk : k ∈ us) : (orU (t.get k)).under n = true := by
  have := List.all_eq_true.1 h k hk
  cases hg : t.get k with
  | none => rfl
  | some v => rw [hg] at this; exact this
/-- All that stands between two operations. -/
structure Mid (D : Dw) (A0 : Sub) (w0 : World) (a0 : Act) (L : Array Bool) (a : Act) (w : World) : Prop where
  is : ∃ c A, Tight D c ∧ MemI D A0 w0 L w c A ∧ TmpI D a0 L a c A
theorem stepped {r : Option Nat} {n : Nat} (hs : Mid D A0 w0 a0 L a w) (ht0 : TRel A0 D.h.next D.N D.t a0.tmps) {Q : Exit → Act → World → Prop} (hi : i ∈ Region.ready .any D.ops L) : wpOpIn (Wide r) n D.P D.ops Q i (fun a' w' => Mid D A0 w0 a0 (L.setIfInBounds i true) a' w') a w := by
  obtain ⟨c, A, hc, hm, ht⟩ := hs.is
  obtain ⟨hu', o, ho, hr⟩ := mem_ready.1 hi
  have hin := Dw.lt_of ho
  have hiL : i < L.size := by rw [hm.size]; exact hin
  have hu : L.getD i false = false := by
    rw [Array.getD_eq_getD_getElem?] at hu' ⊢
    simpa [hiL] using hu'
  obtain ⟨d, hd, hk, hst⟩ := Dw.step ho
  have hdst : ∀ k, o.dst = some k → k < D.N := (dstB_some hk.d).2
  have hT := fun B (hB : AgreeP A B (D.K L c)) => opnd hm ht ht0 ho hr hu hB
  have hw := (cut_wanted (ops := D.ops) (o := o) ht.ts).trans (want_eq (hT A (.refl _ _)) hk.g)
  rw [← hk.us] at hw
  have hex := cut_exec (ops := D.ops) ht.ts (D.df.sel i o ho)
  unfold wpOpIn
  simp only [ho]
  rw [hw]
  have hE_c : D.E i → c ≤ i ∧ ∀ j, c ≤ j → j < i → ¬ D.E j ∧ (D.Soft j → L.getD j false = true) := fun hE => by
    obtain ⟨o', ho', hie⟩ := hE
    rw [ho] at ho'
    injection ho' with ho'
    subst ho'
    refine ⟨?_, fun j h1 h2 => ⟨fun hj => ?_, fun hj => ?_⟩⟩
    · rcases Nat.lt_or_ge i c with h | h
      · rw [(hm.hard i ⟨o, ho, hie⟩).2 h] at hu; cases hu
      · exact h
    · obtain ⟨oj, hoj, hje⟩ := hj
      have := (hm.hard j ⟨oj, hoj, hje⟩).1 (ready_ahead hm ho hr (D.df.hd j i oj o hoj ho hje hie h2))
      omega
    · obtain ⟨oj, hoj, hje⟩ := hj
      exact ready_ahead hm ho hr (D.df.sf j i oj o hoj ho hje hie h2)
  obtain ⟨_, ⟨hwf, hv, hM, _⟩ | ⟨hwt, hst⟩⟩ := hst
  · -- not wanted
    rw [hwf]
    simp only [Bool.false_eq_true, if_false]
    refine ⟨fun _ _ => trivial, ?_⟩
    by_cases hE : D.E i
    · obtain ⟨h1, h2⟩ := hE_c hE
      obtain ⟨hm1, ht1⟩ := adopts (i - c) (by omega) (by omega) hm ht h2
      obtain ⟨hm2, hK⟩ := hm1.hardly ho hr hE (by rw [hM]; exact Ev.refl hm1.ev.mt)
      exact ⟨_, _, .inr ⟨i, rfl, hE⟩, hm2, ht1.put ho hiL rfl hu hdst hK (fun B _ => by rw [hv]; exact .u)⟩
    · obtain ⟨hm2, hK⟩ := hm.quiet ho hr hE (fun h => Dw.notW hd hwf h.2)
      exact ⟨c, A, hc, hm2, ht.put ho hiL rfl hu hdst (fun b hb => ⟨hK b hb, rfl, rfl⟩) (fun B _ => by rw [hv]; exact .u)⟩
  · rw [hwt]
    simp only [if_true]
    rcases hk.k with ⟨hie, hkk⟩ | ⟨g, hsf, hgk, hkk⟩ | ⟨hie, ⟨his, hqu⟩, hkk⟩
    · -- it turns memory
      have hE : D.E i := ⟨o, ho, hie⟩
      obtain ⟨h1, h2⟩ := hE_c hE
      obtain ⟨hm1, ht1⟩ := adopts (i - c) (by omega) (by omega) hm ht h2
      rw [hkk] at hst
      obtain ⟨hun, hone, _, _⟩ := hst
      obtain ⟨e', l', r', hf⟩ := one_some hone
      have hT1 : TRel A (D.M i).next D.N (smalls (D.T i) (usesT D.ops o) .e) (cutA (usesT D.ops o) D.N a).tmps := by
        have h3 := hT A (.refl _ _)
        refine ⟨h3.1, fun k => (h3.2 k).lo ?_⟩
        by_cases hk' : k ∈ usesT D.ops o
        · rw [hk.us] at hun
          exact underT_get hun hk'
        · rw [smalls_get, if_neg hk']
          rfl
      rw [hk.us] at hf
      obtain ⟨v', h', h3, h4⟩ := opB_ok D.hC hk.f o rfl A (D.M i) w D.N _ _ _ _ hm1.ev.mt hT1 hf
      obtain ⟨rfl, rfl⟩ := tell_inj h3
      refine (h4.moved hex).wpIn (opB_defer hk.f) fun x w' hp => ?_
      obtain ⟨A', hev, hrel⟩ := hp
      obtain ⟨hm2, hK⟩ := hm1.hardly ho hr hE hev
      refine ⟨_, _, .inr ⟨i, rfl, hE⟩, hm2, ht1.put ho hiL rfl hu hdst hK (fun B hB => hrel.mono (fun b hb => ?_) (Dw.M_far hin))⟩
      have h5 := hB b (.inl hb)
      have h6 := Sub.glue_lt A A' _ b hb
      exact ⟨h5.1.trans h6.1, h5.2.trans h6.2⟩
    · -- a block of zeros
      have hS : D.Soft i := ⟨o, ho, hsf⟩
      have hW : D.W i := ⟨d, hd, hwt⟩
      obtain ⟨o', d', g', x, ho', hd', hus, hsok, hgx, hv, hM⟩ := Dw.M_soft hS hW
      rw [ho] at ho'
      injection ho' with ho'
      subst ho'
      rw [hd] at hd'
      injection hd' with hd'
      subst hd'
      rw [hus] at hgx
      obtain ⟨ys, hor, hrun⟩ := hsok o rfl _ x hgx
      have hb : D.Blk i (.cells ys x.1 (0, 0)) := ⟨_, hM, hor⟩
      obtain ⟨hm2, hci, hK⟩ := hm.softly ho hr hu hS hW hb
      obtain ⟨y, hy, hrel⟩ := hrun A D.far D.N (cutA (usesT D.ops o) D.N a) w (hT A (.refl _ _))
      refine (Does.value (R := fun y' w' => y' = y ∧ w' = w.alloc (.cells ys x.1 (0, 0))) (by rw [hex]; exact hy) ⟨rfl, rfl⟩).wpIn (opB_defer hk.f) fun y' w' hyw => ?_
      obtain ⟨rfl, rfl⟩ := hyw
      refine ⟨c, _, hc, hm2, ht.put ho hiL rfl hu hdst hK (fun B hB => ?_)⟩
      have h5 := hB (D.M i).next (.inr ⟨i, ⟨hS, hW, by rw [set_get hiL, if_pos rfl], hci⟩, rfl⟩)
      rw [hv]
      have h6 : B.ι (D.M i).next = w.heap.size := by rw [h5.1]; simp [Sub.ext]
      refine hrel B _ _ h6 ?_
      have := Dw.M_far (D := D) (show i + 1 ≤ _ from hin)
      rw [Dw.M_snext hS hW] at this
      exact this
    · -- it only looks
      rw [hkk] at hst
      have hre := D.cn.rsQ i d _ hd hkk hwt
      obtain ⟨x, hx1, hx2⟩ := stands hm hc ho hr hu
      obtain ⟨q, hone⟩ := readsOk_mem D.cn.ok hre hx1 hx2
      simp only at hone
      obtain ⟨e', l', r', hf⟩ := one_some hone
      rw [hk.us] at hf
      have key : ∀ B, AgreeP A B (D.K L c) → ∃ y, (execOp a.eval o).run D.P w = .ok (.value y) w ∧ Rel B D.far (D.v i) y := fun B hB => by
        have hMt : Mt B ⟨D.far, (D.M c).t⟩ w := hm.ev.mt.cong (fun b hb => hB b (.inl hb)) (Dw.M_far hm.cle)
        obtain ⟨v', h3, y, h4, h5⟩ := opB_quiet hk.f hie his hqu o rfl B ⟨D.far, (D.M c).t⟩ w D.N _ (cutA (usesT D.ops o) D.N a) _ _ hMt (hT B hB) hf
        obtain ⟨rfl, _⟩ := tell_inj h3
        exact ⟨y, by rw [hex]; exact h4, h5⟩
      obtain ⟨y, hrun, _⟩ := key A (.refl _ _)
      refine (Does.value (R := fun z w' => z = y ∧ w' = w) hrun ⟨rfl, rfl⟩).wpIn (opB_defer hk.f) fun z w' hyw => ?_
      obtain ⟨rfl, rfl⟩ := hyw
      obtain ⟨hm2, hK⟩ := hm.quiet ho hr (Dw.notE ho hie) (fun h => Dw.notSoft ho his h.1)
      refine ⟨c, A, hc, hm2, ht.put ho hiL rfl hu hdst (fun b hb => ⟨hK b hb, rfl, rfl⟩) (fun B hB => ?_)⟩
      obtain ⟨y', hrun', hrel⟩ := key B (fun b hb => hB b (hK b hb))
      rw [hrun] at hrun'
      injection hrun' with hrun' _
      injection hrun' with hrun'
      subst hrun'
      exact hrel
/-! ### How many are left -/
def left : List Bool → Nat
  | [] => 0
  | b :: l => (bif b then 0 else 1) + left l
theorem left_set : ∀ (l : List Bool) (i : Nat), l[i]? = some false → left (l.set i true) + 1 = left l
  | [], i, h => by simp at h
  | b :: l, 0, h => by
    simp only [List.getElem?_cons_zero, Option.some.injEq] at h
    subst h
    simp [left]
    omega
  | b :: l, i + 1, h => by
    have := left_set l i (by simpa using h)
    simp only [List.set_cons_succ, left]
    omega
theorem left_zero : ∀ (l : List Bool), left l = 0 → ∀ (i : Nat), l[i]? ≠ some false
  | [], _, i, h => by simp at h
  | b :: l, h, i, hi => by
    simp only [left] at h
    cases b with
    | false => simp at h
    | true =>
      cases i with
      | zero => simp at hi
      | succ i => exact left_zero l (by omega) i (by simpa using hi)
theorem all_ready (hL : L.size = D.ops.size) (h : Region.ready .any D.ops L = []) : ∀ (n i : Nat), i < n → i < D.ops.size → L.getD i false = true
  | 0, i, h1, _ => absurd h1 (Nat.not_lt_zero _)
  | n + 1, i, h1, h2 => by
    cases hl : L.getD i false with
    | true => rfl
    | false =>
      obtain ⟨o, ho⟩ := Dw.op_of h2
      have : i ∈ Region.ready .any D.ops L := mem_ready.2 ⟨by
        have h3 : i < L.size := by omega
        rw [Array.getD_eq_getD_getElem?] at hl ⊢
        simpa [h3] using hl, o, ho, fun e he hb => all_ready hL h n e.on (by have := D.df.edge i o ho e he hb; omega) (by have := D.df.edge i o ho e he hb; omega)⟩
      rw [h] at this
      cases this
theorem any_ok {r : Option Nat} {n : Nat} (ht0 : TRel A0 D.h.next D.N D.t a0.tmps) {Q : Exit → Act → World → Prop} (hQ : ∀ L a w, Mid D A0 w0 a0 L a w → (∀ i, i < D.ops.size → L.getD i false = true) → Q .normal a w) :
    ∀ (fuel : Nat) (L : Array Bool) (a : Act) (w : World), left L.toList ≤ fuel → Mid D A0 w0 a0 L a w → wpAnyIn (Wide r) n D.P .any D.ops Q fuel L a w
  | 0, L, a, w, hf, hs => by
    have hsz : L.size = D.ops.size := by obtain ⟨c, A, _, hm, _⟩ := hs.is; exact hm.size
    have hall : ∀ i, i < D.ops.size → L.getD i false = true := fun i hi => by
      have := left_zero L.toList (by omega) i
      have h1 : i < L.size := by omega
      rw [Array.getD_eq_getD_getElem?]
      simpa [h1] using this
    refine ⟨?_, hQ L a w hs hall⟩
    cases hr : Region.ready .any D.ops L with
    | nil => rfl
    | cons i r =>
      have h1 : i ∈ Region.ready .any D.ops L := by rw [hr]; simp
      obtain ⟨h2, o, ho, _⟩ := mem_ready.1 h1
      have h3 := hall i (Dw.lt_of ho)
      have h4 : i < L.size := by rw [hsz]; exact Dw.lt_of ho
      rw [Array.getD_eq_getD_getElem?] at h2 h3
      simp [h4] at h2 h3
      rw [h2] at h3
      cases h3
  | fuel + 1, L, a, w, hf, hs => by
    have hsz : L.size = D.ops.size := by obtain ⟨c, A, _, hm, _⟩ := hs.is; exact hm.size
    refine ⟨fun h => hQ L a w hs (fun i hi => all_ready hsz h (i + 1) i (Nat.lt_succ_self _) hi), fun i hi => wpOpIn_mono (fun a' w' hs' => ?_) (stepped hs ht0 hi)⟩
    refine any_ok ht0 hQ fuel _ a' w' ?_ hs'
    obtain ⟨h2, o, ho, _⟩ := mem_ready.1 hi
    have h4 : i < L.size := by rw [hsz]; exact Dw.lt_of ho
    have h5 : L.toList[i]? = some false := by
      rw [Array.getD_eq_getD_getElem?] at h2
      simpa [h4] using h2
    have := left_set L.toList i h5
    rw [Array.toList_setIfInBounds]
    omega
theorem Mid.last {lo : Nat} (hs : Mid D A0 w0 a0 L a w) (ht0 : TRel A0 D.h.next D.N D.t a0.tmps) (hd : Marks lo A0 D.h w0 a0.defers) (hall : ∀ i, i < D.ops.size → L.getD i false = true) : Res lo A0 D.h w0 D.N ⟨.normal, D.T D.l.length, D.M D.l.length⟩ a w := by
  obtain ⟨c, A, hc, hm, ht⟩ := hs.is
  have hn : D.l.length = D.ops.size := D.len
  obtain ⟨hm1, ht1⟩ := adopts (i := D.ops.size) (D.ops.size - c) (by have := hm.cle; omega) (Nat.le_refl _) hm ht (fun j h1 h2 => ⟨fun hE => by
    have := (hm.hard j hE).1 (hall j h2)
    omega, fun _ => hall j h2⟩)
  rw [hn]
  refine ⟨A, hm1.ev, ⟨ht1.ts, fun k => ?_⟩, by rw [ht1.df]; exact hd.ev hm1.ev⟩
  by_cases hj : ∃ (j : Nat) (oj : Oper), D.ops[j]? = some oj ∧ oj.dst = some k
  · obtain ⟨j, oj, h1, h2⟩ := hj
    have hlt := Dw.lt_of h1
    rw [Dw.T_yes h1 h2 hlt (Nat.le_refl _)]
    refine (ht1.got j oj k h1 (hall j hlt) h2 A (.refl _ _)).lo ?_
    have := D.cn.und j (by omega)
    rw [hn] at this
    exact this
  · rw [Dw.T_no (Nat.le_refl _) (fun j oj _ h1 h2 => hj ⟨j, oj, h1, h2⟩), ht1.not k (fun j oj h1 _ h2 => hj ⟨j, oj, h1, h2⟩)]
    exact (ht0.2 k).mono hm1.ev.old hm1.ev.next
end
theorem draw_ok {lo : Nat} {r : Option Nat} {n : Nat} {P : Program} {C : CallF} (hC : CallOk P C) (hmx : P.follows .mixedOrders = true) {ops : Array Oper} {N far id : Nat} {Q : Exit → Act → World → Prop} {l : List Dr} {A : Sub} {h : H} {w : World} {t : Tr V} {a : Act} {outs : List Out}
    (hok : drawOk ops = true) (hl : drB P ops N = some l) (hr : runD C far l 0 t h h [(none, h)] [] [] = some outs) (hm : Mt A h w) (ht : TRel A h.next N t a.tmps) (hd : Marks lo A h w a.defers)
    (hQ : ∀ o ∈ outs, ∀ a' w', o.x = .normal → Res lo A h w N o a' w' → Q .normal a' w') : (Code.region id ops true).wpIn (Wide r) n P Q a w := by
  obtain ⟨T, S, M, v, stf, rsf, hcn⟩ := canon l 0 t h h _ _ _ outs hr
  obtain ⟨hlen, hdr⟩ := drB_get hl
  let D : Dw := ⟨P, C, ops, N, far, l, t, h, outs, T, S, M, v, stf, rsf, hC, drawOk_facts hok, hlen, hdr, hcn⟩
  refine wpIn_region_any hmx (any_ok (D := D) (A0 := A) (w0 := w) (a0 := a) ht (fun L a' w' hs hall => ?_) ops.size _ a _ ?_ ⟨0, A, .inl rfl, ?_, ?_⟩)
  · have hres := hs.last (lo := lo) ht hd hall
    refine hQ ⟨.normal, T l.length, M l.length⟩ ?_ a' w' rfl hres
    rw [hcn.outs]
    simp
  · have : ∀ n, left (List.replicate n false) ≤ n := fun n => by
      induction n with
      | zero => simp [left]
      | succ n ih => rw [List.replicate_succ]; simp only [left, cond_false]; omega
    rw [Array.toList_replicate]
    exact this _
  · have hno : ∀ j, (Array.replicate ops.size false).getD j false = false := fun j => by
      rw [Array.getD_eq_getD_getElem?, Array.getElem?_replicate]
      split <;> rfl
    refine ⟨by simp [D], fun j o e hj => (by rw [hno j] at hj; cases hj), fun e he => ⟨fun h => (by rw [hno e] at h; cases h), fun h => absurd h (Nat.not_lt_zero _)⟩, fun s _ h => absurd h (Nat.not_lt_zero _), Nat.zero_le _, ?_, fun s hs => ?_, fun s hs => ?_, fun s hs => ?_, fun s s' hs => ?_⟩
    · show Ev A h w A (M 0) _
      rw [hcn.h0]
      exact Ev.same hm rfl rfl rfl rfl
    all_goals
      have := hs.2.2.1
      rw [hno s] at this
      cases this
  · refine ⟨ht.1, rfl, fun i o k hi hl => ?_, fun k _ => rfl⟩
    have : (Array.replicate ops.size false).getD i false = false := by
      rw [Array.getD_eq_getD_getElem?, Array.getElem?_replicate]
      split <;> rfl
    rw [this] at hl
    cases hl
end Go.Proofs.YtaadfppfjjkgbaaGreatDoor.Vm
