/- WALKS: a run's pairs are sorted. -/
import Derived.Test.YtmjilfamjlnigaaGreatQ29
import Derived.Test.YtmjilfamjlnigaaGreatQ24
import Derived.Test.YtmjilfamjlnigaaGreatQ16
import Derived.Test.YtmjilfamjlnigaaGreatQ14
namespace Go.Proofs.YtmjilfamjlnigaaGreat.RunW
open Go Go.RowKit Go.Proofs.YtmjilfamjlnigaaGreat.Kit Go.Proofs.YtmjilfamjlnigaaGreat.SrcP Go.Proofs.YtmjilfamjlnigaaGreat.MchW Go.Proofs.YtmjilfamjlnigaaGreat.OwnR Go.Lib Go.Sort

abbrev encP : Nat × Nat → List Value := fun p => pairC p
theorem flatK_list (l : List (Nat × Nat)) : (flatK encP 2 l.toArray).toList = l.flatMap pairC := by
  apply List.ext_getElem?
  intro t
  by_cases ht : t < l.length * 2
  · have h1 : t / 2 < l.length := by omega
    have h2 : (l.flatMap pairC)[t]? = some ((pairC l[t / 2])[t % 2]!) := by
      have h := NewW.flat_get pairC 2 (fun _ => rfl) l (t / 2) (t % 2) l[t / 2] (List.getElem?_eq_getElem h1) (by omega)
      rw [show t / 2 * 2 + t % 2 = t by omega] at h
      rw [h]
      have h3 : t % 2 = 0 ∨ t % 2 = 1 := by omega
      rcases h3 with h3 | h3 <;> rw [h3] <;> rfl
    rw [h2]
    simp only [flatK, Array.getElem?_toList, Array.getElem?_map]
    rw [Array.getElem?_eq_getElem (by simpa using ht)]
    simp [h1]
  · rw [List.getElem?_eq_none (by simp; omega), List.getElem?_eq_none (by rw [NewW.flat_len pairC 2 (fun _ => rfl)]; omega)]
theorem putCells_take (F cur : Array Value) (h : F.size ≤ cur.size) : (putCells id 0 F cur).toList.take F.size = F.toList := by
  apply List.ext_getElem?
  intro j
  by_cases hj : j < F.size
  · have hc : j < cur.size := by omega
    rw [List.getElem?_take, if_pos hj]
    simp [putCells, hj, hc]
  · rw [List.getElem?_eq_none (by simp; omega), List.getElem?_eq_none (by simpa using hj)]
def SortedP (d : List (Nat × Nat)) : Prop := d.Pairwise fun x y => x.1 < y.1 ∨ (x.1 = y.1 ∧ x.2 ≤ y.2)
section
variable {M : Type} {X : Mk M} {K : Kd M} {base gr nc : Nat} {w w' w1 : World} {who who' : Nat → Option Pt} {V V' : RV} {r r' : Rn M}
theorem sort_any (hX : MkM X) (h : RunW X K base gr nc w who V r) (hn : r.rmw.length ≤ 1048576) :
    Calls Tryz.prog 44 #[V.rmw, .func (.func 45) #[] #[]] w fun e w' => e = .returned (.tuple #[]) ∧ ∃ d, d.Perm r.rmw ∧ SortedP d ∧ RunW X K base gr nc w' who V { r with rmw := d } ∧ Moves who who w w' := by
  have ho := h.own .rmw
  simp only [RV.val, rowN, rowX, rowT, rowS] at ho
  rcases Nat.eq_zero_or_pos r.rmw.length with h0 | h0
  · obtain ⟨A, c, hv, _⟩ := own_slice ho
    rw [hv, h0]
    have hc := AnyF.slices_SortFunc_none (P := Tryz.prog) (ρ := Tryz.sortPairs_ren) { Tryz.sortPairs with } A c (.func (.func 45) #[] #[]) w
    refine Calls.mono (show Calls Tryz.prog 44 _ _ _ from hc) ?_
    rintro e w' ⟨rfl, rfl⟩
    have hnil : r.rmw = [] := List.length_eq_zero_iff.1 h0
    exact ⟨rfl, r.rmw, List.Perm.refl _, by rw [hnil]; exact List.Pairwise.nil, h, Moves.refl who w'⟩
  · obtain ⟨hlen, ho2⟩ := ho
    rcases ho2 with ⟨_, h1⟩ | ⟨g, cap, cur, hv, hgb, hheap, hcap, hmax, hsz, hcur⟩
    · omega
    · have hk : (V.val .rmw).ownBlock = some g := by show V.rmw.ownBlock = _; rw [hv]; rfl
      have hwg := h.ownW .rmw g hk
      have hgl : g < w.heap.size := (h.lt g _ hwg).2
      have hH : HoldsK encP 2 w g 0 r.rmw.toArray := fun j hj => by
        have hj2 : j < r.rmw.length * 2 := by simpa using hj
        have hjc : j < cur.size := by rw [hsz]; have := Nat.mul_le_mul_right 2 hcap; omega
        have e1 : (flatK encP 2 r.rmw.toArray)[j]! = cur[j] := by
          have e2 : (flatK encP 2 r.rmw.toArray).toList[j]? = some cur[j] := by
            rw [flatK_list, ← hcur, List.getElem?_take, if_pos hj2, Array.getElem?_toList, Array.getElem?_eq_getElem hjc]
          rw [Array.getElem?_toList] at e2
          simp [Array.getElem!_eq_getD, Array.getD_eq_getD_getElem?, e2]
        rw [Nat.zero_add]
        exact ⟨by rw [World.cell?, hheap]; simp [e1, hjc], by rw [World.frozen?, hheap]; rfl⟩
      have hc := AnyQ.slices_SortFunc (P := Tryz.prog) (ρ := Tryz.sortPairs_ren) Tryz.sortPairs 2 Tryz.isAgg51 Tryz.sizeOf51 encP (fun _ => rfl) pairC_one cfP cfP_swo 45 #[] g 0 cap r.rmw.toArray w (fun args w => callFunc_enter Tryz.func45 (by kernel_rfl) (by kernel_rfl) args w) (cfP_lays g 0 _ w) hH hgl (by simp; omega)
      rw [hv]
      rw [List.size_toArray] at hc
      refine Calls.mono (show Calls Tryz.prog 44 _ _ _ from hc) ?_
      rintro e w' ⟨rfl, d', n, os, hp, hso, rfl⟩
      have hd : d'.size = r.rmw.length := by rw [hp.1]; simp
      have hflat : (flatK encP 2 d').toList = d'.toList.flatMap pairC := by have := flatK_list d'.toList; rwa [Array.toArray_toList] at this
      have hfs : (flatK encP 2 d').size = r.rmw.length * 2 := by rw [size_flatK, hd]
      have hcs : r.rmw.length * 2 ≤ cur.size := by rw [hsz]; exact Nat.mul_le_mul_right 2 hcap
      have hsize : w.heap.size ≤ (sortWorldK encP 2 w g 0 n d' os).heap.size := by
        unfold sortWorldK
        rw [size_grow]
        have : (putRowK encP 2 (Sort.ahead w n) g 0 d').heap.size = w.heap.size := by simp [putRowK, putRow, mapBlock, Sort.ahead]
        omega
      have hne : ∀ k, k < w.heap.size → k ≠ g → (sortWorldK encP 2 w g 0 n d' os).heap[k]? = w.heap[k]? := fun k hk hkg => by
        unfold sortWorldK
        rw [heap_grow_old _ _ (show k < (w.heap.modify g _).size by simpa using hk)]
        show (w.heap.modify g _)[k]? = _
        rw [Array.getElem?_modify, if_neg (Ne.symm hkg)]
      have hgg : (sortWorldK encP 2 w g 0 n d' os).heap[g]? = some (.cells (putCells id 0 (flatK encP 2 d') cur) 51 (0, 0)) := by
        unfold sortWorldK
        rw [heap_grow_old _ _ (show g < (w.heap.modify g _).size by simpa using hgl)]
        show (w.heap.modify g _)[g]? = _
        rw [Array.getElem?_modify, if_pos rfl, hheap]
        rfl
      have htake : (putCells id 0 (flatK encP 2 d') cur).toList.take (r.rmw.length * 2) = d'.toList.flatMap pairC := by
        rw [← hflat, ← hfs]
        exact putCells_take _ _ (by rw [hfs]; exact hcs)
      have hKP : KeptS (fun k => k = g) w (sortWorldK encP 2 w g 0 n d' os) := ⟨rfl, rfl, rfl, hsize, fun k hk hk2 => hne k hk hk2⟩
      generalize sortWorldK encP 2 w g 0 n d' os = w' at *
      have hlen2 : d'.toList.length = r.rmw.length := by rw [Array.length_toList]; exact hd
      refine ⟨rfl, d'.toList, ?_, ?_, ?_, hKP.mono (fun k hk => by rw [hk, hwg]; exact fun e => by cases e), fun _ h => .inl h⟩
      · have h2 := hp.2.2
        have e1 : d'.extract 0 r.rmw.length = d' := by rw [← hd]; simp
        have e2 : r.rmw.toArray.extract 0 r.rmw.length = r.rmw.toArray := by simp
        rw [e1, e2] at h2
        exact h2
      · unfold SortedP
        rw [List.pairwise_iff_getElem]
        intro i j hi hj hij
        have h2 := hso i j (Nat.zero_le _) hij (by rw [← hlen2]; exact hj)
        rw [ltP] at h2
        have e1 : d'[i]! = d'.toList[i] := by rw [getElem!_pos d' i (by simpa using hi)]; simp
        have e2 : d'[j]! = d'.toList[j] := by rw [getElem!_pos d' j (by simpa using hj)]; simp
        rw [e1, e2] at h2
        simp only [decide_eq_false_iff_not] at h2
        omega
      · refine h.turn hX (fun p => p = .row .rmw) (fun k p hk2 hnp => hne k (h.lt2 k p hk2) (fun e => hnp (by rw [e, hwg] at hk2; injection hk2 with hk2; exact hk2.symm))) hsize ?_ (fun _ _ _ => Iff.rfl) ?_ ?_ ?_ h.gtl h.gml h.numl h.outl h.col
        · intro k cs t fr hb ht
          have hkl : k < w.heap.size := by
            rcases Nat.lt_or_ge k w.heap.size with h1 | h1
            · exact h1
            · rw [Array.getElem?_eq_none h1] at hb; cases hb
          rw [hne k hkl (fun e => by
            rw [e, hheap] at hb
            injection hb with hb
            injection hb with _ hb _
            rw [← hb] at ht
            exact hX.rows .rmw ht)]
          exact hb
        · intro p hnp
          cases p with
          | run => rfl
          | th u => exact ⟨⟨rfl, rfl, rfl⟩, rfl⟩
          | mach u => exact ⟨rfl, rfl⟩
          | row q => cases q <;> first | exact absurd rfl hnp | exact ⟨rfl, rfl, rfl⟩
        · rintro p rfl
          refine ⟨⟨?_, .inr ⟨g, cap, putCells id 0 (flatK encP 2 d') cur, ?_, hgb, hgg, ?_, hmax, ?_, ?_⟩⟩, fun k hk2 => h.ownW .rmw k hk2⟩
          · simp only [rowX, rowN, rowS]
            rw [← hflat, Array.length_toList, hfs, hlen2]
          · simp only [RV.val, rowN, hlen2]; exact hv
          · simp only [rowN, hlen2]; exact hcap
          · simp only [rowS]; rw [← hsz]; simp [putCells]
          · simp only [rowN, rowS, rowX, hlen2]; exact htake
        · rintro k p rfl hk2
          exact ⟨(h.lt k _ hk2).1, Nat.lt_of_lt_of_le (h.lt k _ hk2).2 hsize⟩
end
end Go.Proofs.YtmjilfamjlnigaaGreat.RunW
/- A region that draws its order, all of it: reads, and others in whatever order they come. -/
namespace Go.Proofs.YtmjilfamjlnigaaGreat.Kit
open Go Go.RowKit

section
variable {P : Program} {ops : Array Oper} {md : Region.Mode} {C : World → Prop}
theorem ready_size {n j : Nat} {listed : Array Bool} (hn : n = ops.size) (hj : j ∈ Region.ready md ops listed) : j < n := by
  obtain ⟨_, oj, hoj, _⟩ := mem_ready.1 hj
  rw [hn]
  exact (Array.getElem?_eq_some_iff.1 hoj).1
def floatBA (md : Region.Mode) (ops : Array Oper) (n m : Nat) (rd late : List Nat) : Bool :=
  Region.noSelect ops && decide (n = ops.size) && decide (rd.length + m = n) && readsB md ops n late rd (Array.replicate ops.size false)
theorem floatG_takeA {late : List Nat} {n i : Nat} {oi : Oper} {v : Value} {T : Array Bool → Act → World → Prop} (hi : ops[i]? = some oi) (hsel : ∀ (j : Nat) (o : Oper) cs b, ops[j]? = some o → o.op ≠ .select cs b)
    (hn : n = ops.size) (hin : i < n) (hlate : ∀ j ∈ late, needsB md ops ops.size j i = true) (hT : ∀ listed a w, T listed a w → ∀ j ∈ Region.ready md ops listed, n ≤ j) (f : Nat) :
    ∀ (listed : Array Bool) (a : Act) (w : World), C w → HeadInv md ops n listed →
      (∀ j oj, ops[j]? = some oj → j ≠ i → listed.getD j true = false → (∀ e ∈ oj.after, Region.binds md e = true → e.on ≠ i) → oi.apart ops oj = true) →
      i ∈ Region.ready md ops listed → ReadsIn P ops C oi v a → floatG P md ops C late n T f (listed.setIfInBounds i true) (a.put oi.dst v) w → floatG P md ops C late n T (f + 1) listed a w := by
  induction f with
  | zero =>
    intro listed a w hC inv _ hr hy H
    refine ⟨List.ne_nil_of_mem hr, fun j hj => ?_⟩
    have hjn := ready_size hn hj
    by_cases hji : j = i
    · subst hji; exact ⟨hjn, hy.step hi hC ⟨fun _ => hC, H⟩⟩
    · have := hT _ _ _ H j (ready_mono hj hji)
      omega
  | succ f ih =>
    intro listed a w hC inv hap hr hy H
    refine ⟨List.ne_nil_of_mem hr, fun j hj => ?_⟩
    have hjn := ready_size hn hj
    refine ⟨hjn, ?_⟩
    by_cases hji : j = i
    · subst hji; exact hy.step hi hC ⟨fun _ => hC, H⟩
    · obtain ⟨hun, oj, hoj, hall⟩ := mem_ready.1 hj
      have hiun := getD_both (mem_ready.1 hr).1
      have hwait : ∀ e ∈ oj.after, Region.binds md e = true → e.on ≠ i := by
        intro e he hb heq
        have h1 := hall e he hb
        rw [heq, hiun] at h1
        cases h1
      have hnl : j ∉ late := fun hl => by
        have := needs_listed inv i ops.size j (hlate j hl) (fun o ho e he hb => by rw [hoj] at ho; cases ho; exact hall e he hb)
        rw [hiun] at this
        cases this
      have hun2 : ∀ l ∈ late, (listed.setIfInBounds i true).getD l false = false := fun l hl => by
        by_cases hli : i = l
        · subst hli
          obtain ⟨_, oi', hoi', hall'⟩ := mem_ready.1 hr
          have := needs_listed inv i ops.size i (hlate i hl) (fun o ho e he hb => by rw [hoi'] at ho; cases ho; exact hall' e he hb)
          rw [hiun] at this
          cases this
        · rw [getD_set_ne false hli]
          cases hg : listed.getD l false with
          | false => rfl
          | true =>
            have := needs_listed inv i ops.size l (hlate l hl) (fun o ho e he hb => inv.closed l o ho hg e he hb)
            rw [hiun] at this
            cases this
      have step := stepG_put hoj (hap j oj hoj hji hun hwait) (fun cs b => hsel i oi cs b hi) (fun cs b => hsel j oj cs b hoj) hy ((H.2 j (ready_mono hj hji)).2)
      refine stepG_mono (fun a' w' h3 => ?_) step
      have hC' := h3.2.1 ⟨hnl, hun2⟩
      refine ⟨fun _ => hC', ih (listed.setIfInBounds j true) a' w' hC' (inv.set hj hjn) (fun k ok hk hki hkun hno => ?_) (ready_mono hr (Ne.symm hji)) h3.1 ?_⟩
      · refine hap k ok hk hki ?_ hno
        by_cases hjk : j = k
        · subst hjk; exact hun
        · rwa [getD_set_ne true hjk] at hkun
      · rw [Array.setIfInBounds_comm _ _ hji]
        exact h3.2.2

end
theorem floatG_lexA {P : Program} {ops : Array Oper} {md : Region.Mode} {C : World → Prop} {late : List Nat} {n m : Nat} {T : Array Bool → Act → World → Prop} (hsel : Region.noSelect ops = true) (hn : n = ops.size)
    (hT : ∀ listed a w, T listed a w → ∀ j ∈ Region.ready md ops listed, n ≤ j) (w : World) (hC : C w) (rd : List Nat) :
    ∀ (listed : Array Bool) (a : Act), HeadInv md ops n listed → readsB md ops n late rd listed = true → ∀ (l : List Oper), l.length = rd.length → (∀ j, j < l.length → l[j]? = (rd[j]?).bind fun k => ops[k]?) →
      wpQuiet P ops C (fun a' => floatG P md ops C late n T m (listedAll rd listed) a' w) l a → floatG P md ops C late n T (rd.length + m) listed a w := by
  induction rd with
  | nil =>
    intro listed a inv hB l hlen hl h
    obtain rfl : l = [] := by simpa using hlen
    rw [List.length_nil, Nat.zero_add]
    exact h
  | cons k rd ih =>
    intro listed a inv hB l hlen hl h
    cases l with
    | nil => simp at hlen
    | cons o l =>
      have h0 : ops[k]? = some o := by
        have := hl 0 (by simp)
        simpa using this.symm
      simp only [readsB, Bool.and_eq_true, decide_eq_true_eq, h0, Option.map_some, Option.getD_some, List.all_eq_true] at hB
      obtain ⟨⟨⟨⟨⟨hr, hf⟩, hk⟩, hrd⟩, hlt⟩, hB'⟩ := hB
      have hr' : k ∈ Region.ready md ops listed := by simpa using hr
      have hq : qOp P ops C k (wpQuiet P ops C (fun a' => floatG P md ops C late n T m (listedAll rd (listed.setIfInBounds k true)) a' w) l) a := by
        unfold qOp
        simp only [h0]
        exact h
      obtain ⟨v, hy, hK⟩ := yieldsIn_of_qOp h0 hq
      rw [List.length_cons, show rd.length + 1 + m = (rd.length + m) + 1 by omega]
      refine floatG_takeA h0 (Region.noSelect_spec hsel) hn hk hlt hT (rd.length + m) listed a w hC inv (Region.free_spec h0 hf) hr' (ReadsIn.of_yields hrd hy) ?_
      refine ih _ _ (inv.set hr' hk) hB' l (by simpa using hlen) (fun j hj => ?_) hK
      have := hl (j + 1) (by simp; omega)
      simpa using this


/-- **Reads in any order; m others, in whatever order they come, from the world as it was; the tail in the text's order.** -/
theorem wp_region_float_all (C : World → Prop) (n m : Nat) (rd late : List Nat) {P : Program} {id : Nat} {Q : Exit → Act → World → Prop} {a : Act} {w : World} {l : List Oper} (hC : C (w.drewN 1))
    (hm : P.follows .mixedOrders = true) (hB : floatBA .any l.toArray n m rd late = true)
    (h : Nonempty (Cls C) → wpQuiet P l.toArray (fun w' => ∃ p : Cls C, w' = p.w) (fun a' => floatG P .any l.toArray (fun w' => ∃ p : Cls C, w' = p.w) late n (tailG P Q l n) m (listedAll rd (Array.replicate l.toArray.size false)) a' (w.drewN 1)) (pickL rd l) a) : (Code.region id l.toArray true).wp P Q a w := by
  simp only [floatBA, Bool.and_eq_true, decide_eq_true_eq] at hB
  obtain ⟨⟨⟨hsel, hn⟩, hlen⟩, hlex⟩ := hB
  have hn' : n = l.length := by simpa using hn
  have hdl : (l.drop n).length = l.toArray.size - n := by simp
  have inv0 : HeadInv .any l.toArray n (Array.replicate l.toArray.size false) := by
    refine ⟨by simp, fun j oj _ hl => ?_, fun t _ ht => getD_in (by simpa using ht) (getD_replicate_false _ _)⟩
    rw [getD_replicate_false] at hl
    cases hl
  have H := floatG_lexA (P := P) (C := fun w' => ∃ p : Cls C, w' = p.w) (md := .any) (T := tailG P Q l n) (m := m) hsel hn (fun _ _ _ hT => seqB_ready hT.1) (w.drewN 1) ⟨⟨_, hC⟩, rfl⟩ rd _ a inv0 hlex (pickL rd l) (by simp [pickL]) (fun j hj => by
    have hj' : j < rd.length := by simpa [pickL] using hj
    have hk := readsB_lt rd _ hlex rd[j] (List.getElem_mem hj')
    have hk' : rd[j] < l.length := by omega
    simp [pickL, hj', hk']) (h ⟨⟨_, hC⟩⟩)
  refine wp_region_any hm ?_
  have := floatG_run (Q := Q) (g := l.toArray.size - n) (fun listed a' w' hT => by
    have := wpAny_of_seq (md := .any) (Q' := Q) (l.drop n) n listed a' w' (fun j => by simp [List.getElem?_drop]) (by rw [hdl]; exact hT.1) hT.2
    rwa [hdl] at this) _ _ _ _ H
  rw [hlen, show n + (l.toArray.size - n) = l.toArray.size by omega] at this
  exact this
end Go.Proofs.YtmjilfamjlnigaaGreat.Kit
