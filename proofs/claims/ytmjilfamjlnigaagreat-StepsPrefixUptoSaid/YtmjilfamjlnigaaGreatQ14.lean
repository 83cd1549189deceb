/- A region that draws its order, reads first: the world that the reads leave is the one that they got. -/
import Derived.Test.YtmjilfamjlnigaaGreatQ08
import Derived.Test.YtmjilfamjlnigaaGreatQ13
import Derived.Deep.AppendLies
namespace Go.Proofs.YtmjilfamjlnigaaGreat.Kit
open Go Go.RowKit

theorem floatG_lex_at {P : Program} {ops : Array Oper} {md : Region.Mode} {C : World → Prop} {late : List Nat} {n m : Nat} {T : Array Bool → Act → World → Prop} (hsel : Region.noSelect ops = true) (hs : Region.sinkB md ops n = true) (hc : Region.chainB md ops n = true) (hn : n < ops.size)
    (hT : ∀ listed a w, T listed a w → ∀ j ∈ Region.ready md ops listed, n ≤ j) (w : World) (hC : C w) (rd : List Nat) :
    ∀ (listed : Array Bool) (a : Act), HeadInv md ops n listed → readsB md ops n late rd listed = true → ∀ (l : List Oper), l.length = rd.length → (∀ j, j < l.length → l[j]? = (rd[j]?).bind fun k => ops[k]?) →
      wpQuiet P ops C (fun a' => floatG P md ops C late n T m (listedAll rd listed) a' w) l a → floatG P md ops C late n T (rd.length + m) listed a w := by
  induction rd with
  | nil =>
    intro listed a inv hB l hlen hl h
    obtain rfl : l = [] := by simpa using hlen
    rw [List.length_nil, Nat.zero_add]
    exact h
  | cons k rd ih =>
    intro listed a inv hB l hlen hl h
    cases l with
    | nil => simp at hlen
    | cons o l =>
      have h0 : ops[k]? = some o := by
        have := hl 0 (by simp)
        simpa using this.symm
      simp only [readsB, Bool.and_eq_true, decide_eq_true_eq, h0, Option.map_some, Option.getD_some, List.all_eq_true] at hB
      obtain ⟨⟨⟨⟨⟨hr, hf⟩, hk⟩, hrd⟩, hlt⟩, hB'⟩ := hB
      have hr' : k ∈ Region.ready md ops listed := by simpa using hr
      have hq : qOp P ops C k (wpQuiet P ops C (fun a' => floatG P md ops C late n T m (listedAll rd (listed.setIfInBounds k true)) a' w) l) a := by
        unfold qOp
        simp only [h0]
        exact h
      obtain ⟨v, hy, hK⟩ := yieldsIn_of_qOp h0 hq
      rw [List.length_cons, show rd.length + 1 + m = (rd.length + m) + 1 by omega]
      refine floatG_take h0 (Region.noSelect_spec hsel) hs hc hn hk hlt hT (rd.length + m) listed a w hC inv (Region.free_spec h0 hf) hr' (ReadsIn.of_yields hrd hy) ?_
      refine ih _ _ (inv.set hr' hk) hB' l (by simpa using hlen) (fun j hj => ?_) hK
      have := hl (j + 1) (by simp; omega)
      simpa using this

/-- **Reads in any order; m others, in whatever order they come, from the world as it was; the tail in the text's order.** -/
theorem wp_region_float_at (C : World → Prop) (n m : Nat) (rd late : List Nat) {P : Program} {id : Nat} {Q : Exit → Act → World → Prop} {a : Act} {w : World} {l : List Oper} (hC : C (w.drewN 1))
    (hm : P.follows .mixedOrders = true) (hB : floatB .any l.toArray n m rd late = true)
    (h : Nonempty (Cls C) → wpQuiet P l.toArray (fun w' => ∃ p : Cls C, w' = p.w) (fun a' => floatG P .any l.toArray (fun w' => ∃ p : Cls C, w' = p.w) late n (tailG P Q l n) m (listedAll rd (Array.replicate l.toArray.size false)) a' (w.drewN 1)) (pickL rd l) a) : (Code.region id l.toArray true).wp P Q a w := by
  simp only [floatB, Bool.and_eq_true, decide_eq_true_eq] at hB
  obtain ⟨⟨⟨⟨⟨hsel, hn⟩, hs⟩, hc⟩, hlen⟩, hlex⟩ := hB
  have hn' : n < l.length := by simpa using hn
  have hdl : (l.drop n).length = l.toArray.size - n := by simp
  have inv0 : HeadInv .any l.toArray n (Array.replicate l.toArray.size false) := by
    refine ⟨by simp, fun j oj _ hl => ?_, fun t _ ht => getD_in (by simpa using ht) (getD_replicate_false _ _)⟩
    rw [getD_replicate_false] at hl
    cases hl
  have H := floatG_lex_at (P := P) (C := fun w' => ∃ p : Cls C, w' = p.w) (md := .any) (T := tailG P Q l n) (m := m) hsel hs hc hn (fun _ _ _ hT => seqB_ready hT.1) (w.drewN 1) ⟨⟨_, hC⟩, rfl⟩ rd _ a inv0 hlex (pickL rd l) (by simp [pickL]) (fun j hj => by
    have hj' : j < rd.length := by simpa [pickL] using hj
    have hk := readsB_lt rd _ hlex rd[j] (List.getElem_mem hj')
    have hk' : rd[j] < l.length := by omega
    simp [pickL, hj', hk']) (h ⟨⟨_, hC⟩⟩)
  refine wp_region_any hm ?_
  have := floatG_run (Q := Q) (g := l.toArray.size - n) (fun listed a' w' hT => by
    have := wpAny_of_seq (md := .any) (Q' := Q) (l.drop n) n listed a' w' (fun j => by simp [List.getElem?_drop]) (by rw [hdl]; exact hT.1) hT.2
    rwa [hdl] at this) _ _ _ _ H
  rw [hlen, show n + (l.toArray.size - n) = l.toArray.size by omega] at this
  exact this
end Go.Proofs.YtmjilfamjlnigaaGreat.Kit
/- WALKS: a run gets an event more. -/
namespace Go.Proofs.YtmjilfamjlnigaaGreat.RunW
open Go Go.RowKit Go.Proofs.YtmjilfamjlnigaaGreat.Kit Go.Proofs.YtmjilfamjlnigaaGreat.SrcP Go.Proofs.YtmjilfamjlnigaaGreat.SrcW Go.Proofs.YtmjilfamjlnigaaGreat.MchW Go.Proofs.YtmjilfamjlnigaaGreat.OwnR

theorem types_size : Tryz.prog.types.size = 332 := by kernel_rfl
theorem info_event : (Tryz.prog.info? 42).map (fun i => (i.zero, i.size, i.bytes)) = some (some (.agg #[.int .i64 0, .int .i64 0, .int .i64 0, .int .u64 0, .int .i64 0]), 5, 40) := by kernel_rfl
theorem info_int : (Tryz.prog.info? 3).map (fun i => (i.zero, i.size, i.bytes)) = some (some (.int .i64 0), 1, 8) := by kernel_rfl
theorem info_u64 : (Tryz.prog.info? 40).map (fun i => (i.zero, i.size, i.bytes)) = some (some (.int .u64 0), 1, 8) := by kernel_rfl
theorem info_pair : (Tryz.prog.info? 51).map (fun i => (i.zero, i.size, i.bytes)) = some (some (.agg #[.int .i64 0, .int .i64 0]), 2, 16) := by kernel_rfl
theorem info_ints : (Tryz.prog.info? 25).map (fun i => (i.zero, i.size, i.bytes)) = some (some (.slice none 0 0), 1, 24) := by kernel_rfl
theorem info_u64s : (Tryz.prog.info? 32).map (fun i => (i.zero, i.size, i.bytes)) = some (some (.slice none 0 0), 1, 24) := by kernel_rfl
theorem info_pSthread : (Tryz.prog.info? 122).map (fun i => (i.zero, i.size, i.bytes)) = some (some (.pointer none), 1, 8) := by kernel_rfl

/-- Behind an append: what was there but the row is as it was. -/
theorem kept_grown {S : Nat → Prop} {w w0 w1 : World} {row : Option Nat} (h : KeptS S w w0) (hg : w0.grownBy w1 row) (hr : ∀ k, row = some k → S k) : KeptS S w w1 :=
  h.trans ⟨hg.os, hg.tape, hg.output, hg.size, fun k hk hn => hg.block k hk (fun e => hn (hr k e.symm))⟩
theorem evC_one (e : Ev) : ∀ u ∈ evC e, u.oneCell' = true := fun u hu => by
  simp only [evC, List.mem_cons, List.not_mem_nil, or_false] at hu
  rcases hu with rfl | rfl | rfl | rfl | rfl <;> rfl
theorem pairC_one (p : Nat × Nat) : ∀ u ∈ pairC p, u.oneCell' = true := fun u hu => by
  simp only [pairC, List.mem_cons, List.not_mem_nil, or_false] at hu
  rcases hu with rfl | rfl <;> rfl
theorem one_one {v : Value} (h : v.oneCell' = true) : ∀ u ∈ [v], u.oneCell' = true := fun u hu => by
  simp only [List.mem_cons, List.not_mem_nil, or_false] at hu
  subst hu
  exact h
/-- The block that an append's operand lies in. -/
theorem news_one {w : World} {g : Nat} {t : TypeId} {xs : List Value} (h : Blk w g t xs.toArray) : ∀ (j : Nat) (u : Value), xs[j]? = some u → w.cell? ((⟨g, 0, none⟩ : Addr).add j) = some u := fun j u hj => by
  have e : (⟨g, 0, none⟩ : Addr).add j = ⟨g, j, none⟩ := by unfold Addr.add; split <;> simp_all
  rw [e, h.cell]
  simpa using hj
section
variable {M : Type} {X : Mk M} {K : Kd M} {base gr nc : Nat} {w w' w1 : World} {who who' : Nat → Option Pt} {V V' : RV} {r r' : Rn M}
theorem RunW.base_le (h : RunW X K base gr nc w who V r) : base ≤ w.heap.size := by
  have := h.lt gr _ h.run.1
  omega
theorem RunW.below' (hX : MkM X) (h : RunW X K base gr nc w who V r) (hb : Below w.heap.size w w') : RunW X K base gr nc w' who V r ∧ Moves who who w w' := ⟨h.below hX hb, Moves.below who hb⟩
/-- A block that is nobody's is turned. -/
theorem RunW.other (hX : MkM X) (h : RunW X K base gr nc w who V r) {g : Nat} {t : TypeId} {cs : Array Value} (hn : who g = none) (hb : Blk w g t cs) (ht : ¬ X.TM t) (i : Nat) (u : Value) : RunW X K base gr nc (w.setCell ⟨g, i, none⟩ u) who V r := by
  have hsz : (w.setCell ⟨g, i, none⟩ u).heap.size = w.heap.size := by simp [World.setCell]
  refine h.turn hX (fun _ => False) (fun k p hk _ => ?_) (by rw [hsz]; exact Nat.le_refl _) (Still.set hb ht u) (fun _ _ _ => Iff.rfl) (fun p _ => agree_refl p) (fun _ h => h.elim) (fun _ _ h => h.elim) h.gtl h.gml h.numl h.outl h.col
  exact Below.heap_setCell w ⟨g, i, none⟩ u k (fun e => by
    simp only at e
    rw [e, hn] at hk
    cases hk)
theorem Moves.setNew (h : Moves who who' w w1) {g : Nat} (hg : w.heap.size ≤ g) (i : Nat) (u : Value) : Moves who who' w (w1.setCell ⟨g, i, none⟩ u) := ⟨h.keep.setN hg u, h.own⟩
theorem Step.trans {w0 : World} {who0 : Nat → Option Pt} {V0 : RV} (h : Moves who0 who w0 w) (e1 : V.gt = V0.gt) (e2 : V.gm = V0.gm) (h' : Step X K base gr nc w who V w' r') : Step X K base gr nc w0 who0 V0 w' r' := by
  obtain ⟨who', V', h1, h2, h3, h4⟩ := h'
  exact ⟨who', V', h1, h.trans h2, h3.trans e1, h4.trans e2⟩
/-- What another world shows of a run's parts. -/
def Sees (P : Pt → Prop) (who : Nat → Option Pt) (w w' : World) : Prop := ∀ k p, who k = some p → ¬ P p → w'.heap[k]? = w.heap[k]?
theorem RunW.sees (h : RunW X K base gr nc w who V r) {S : Nat → Prop} {q : Rw} (hS : ∀ k, S k ↔ (V.val q).ownBlock = some k) (p : Cls (KeptS S w)) : Sees (fun p => p = .row q) who w p.w := fun k p' hk hp =>
  p.h.2.2.2.2 k (h.lt2 k p' hk) (fun hs => by
    have := h.ownW q k ((hS k).1 hs)
    rw [hk] at this
    injection this with this
    exact hp this)
theorem RunW.seesB (h : RunW X K base gr nc w who V r) (p : Cls (Below w.heap.size w)) : Sees (fun _ => False) who w p.w := fun k p' hk _ => p.h.block k (h.lt2 k p' hk)
variable {P : Pt → Prop}
theorem RunW.seeRun (h : RunW X K base gr nc w who V r) (hs : Sees P who w w') (hp : ¬ P .run) (i : Nat) : w'.cell? ⟨gr, i, none⟩ = (runC K nc V r)[i]? := by
  rw [World.cell?_of_block (w := w) (hs gr _ h.run.1 hp)]
  exact h.run.2.cell i
theorem RunW.seeRow (h : RunW X K base gr nc w who V r) (hs : Sees P who w w') {q : Rw} (hp : ¬ P (.row q)) {g n cap : Nat} (hv : V.val q = .slice (some ⟨g, 0, none⟩) n cap) (j : Nat) (u : Value) (hj : (rowX V r q)[j]? = some u) : w'.cell? ⟨g, j, none⟩ = some u := by
  have hk : (V.val q).ownBlock = some g := by rw [hv]; rfl
  rw [World.cell?_of_block (w := w) (hs g _ (h.ownW q g hk) hp)]
  have := h.own q
  rw [hv] at this
  have hpos : 0 < rowN V r q := by
    have h1 := (List.getElem?_eq_some_iff.1 hj).1
    have h2 := this.1
    rw [h2] at h1
    rcases Nat.eq_zero_or_pos (rowN V r q) with h0 | h0
    · rw [h0, Nat.zero_mul] at h1; omega
    · exact h0
  obtain ⟨g', cap', hv', _, _, hc⟩ := h.slice q hpos
  rw [hv] at hv'
  injection hv' with hv' _ _
  injection hv' with hv'
  injection hv' with hv'
  subst hv'
  exact hc.2 j u hj
theorem RunW.seeTh (h : RunW X K base gr nc w who V r) (hs : Sees P who w w') {t : Nat} (hp : ¬ P (.th t)) {x : Th M} (hx : r.ths[t]? = some x) {gt gm : Nat} (hgt : V.gt[t]? = some gt) (hgm : V.gm[t]? = some gm) (i : Nat) : w'.cell? ⟨gt, i, none⟩ = (thC X V t gm x)[i]? := by
  obtain ⟨h1, h2⟩ := h.part (.th t) x gt gm hx hgt hgm
  rw [World.cell?_of_block (w := w) (hs gt _ h1 hp)]
  exact h2.cell i
/-- Where a thread's pointer lies. -/
theorem RunW.thr (h : RunW X K base gr nc w who V r) {t : Nat} {x : Th M} (hx : r.ths[t]? = some x) : ∃ gth capth gt gm, V.thr = .slice (some ⟨gth, 0, none⟩) r.ths.length capth ∧ V.gt[t]? = some gt ∧ V.gm[t]? = some gm ∧ (rowX V r .thr)[t]? = some (ptrV gt) := by
  have hl := (List.getElem?_eq_some_iff.1 hx).1
  obtain ⟨gt, gm, hgt, hgm, _⟩ := h.thOf hx
  obtain ⟨gth, capth, hv, _⟩ := h.slice .thr (by show 0 < V.gt.length; rw [h.gtl]; omega)
  refine ⟨gth, capth, gt, gm, ?_, hgt, hgm, ?_⟩
  · have : rowN V r .thr = r.ths.length := h.gtl
    rw [this] at hv
    exact hv
  · show (V.gt.map ptrV)[t]? = _
    rw [List.getElem?_map, hgt]; rfl
set_option maxRecDepth 100000 in
set_option maxHeartbeats 4000000 in
theorem event_any (hX : MkM X) (h : RunW X K base gr nc w who V r) {t : Nat} {x : Th M} (hx : r.ths[t]? = some x) (hle : r.events.length ≤ 8388608) (hln : x.nums.length ≤ 8388608) (hth : r.ths.length ≤ 8388608) (t0 kind loc mode : Int) (val : Nat) :
    Calls Tryz.prog 90 #[ptrV gr, .int .i64 (t : Int), .agg #[.int .i64 t0, .int .i64 kind, .int .i64 loc, .int .u64 val, .int .i64 mode]] w fun e w' => e = .returned (.int .i64 (r.events.length : Nat)) ∧ Step X K base gr nc w who V w' (r.event K t kind loc val mode) := by
  unfold ptrV
  have htl := (List.getElem?_eq_some_iff.1 hx).1
  have hgrs := (h.lt gr _ h.run.1).2
  obtain ⟨A, cA, hev, hcA⟩ := own_slice (h.own .ev)
  simp only [RV.val, rowN] at hev hcA
  go_enter Tryz.func90, Tryz.ntmps90
  go_upto_region 1 with fail
  obtain ⟨w0, hw0⟩ : ∃ y, y = w.alloc (.cells #[.int .i64 t0, .int .i64 kind, .int .i64 loc, .int .u64 val, .int .i64 mode] 42) := ⟨_, rfl⟩
  have hb0 : Below w.heap.size w w0 := by rw [hw0]; exact Kit.Below.al (Below.refl _ _) _
  have hE0 : Blk w0 w.heap.size 42 #[.int .i64 t0, .int .i64 kind, .int .i64 loc, .int .u64 val, .int .i64 mode] := by rw [hw0]; exact Blk.new w _ _
  obtain ⟨hR0, hm0⟩ := h.below' hX hb0
  have hn0 : who w.heap.size = none := h.noOne (Nat.le_refl _)
  have hgE : w.heap.size ≤ w.heap.size := Nat.le_refl _
  rw [← hw0]
  clear hw0 h hb0
  generalize hgg : w.heap.size = gE at hE0 hn0 ⊢
  rw [hgg] at hgE
  have hgE : w.heap.size ≤ gE := by omega
  clear hgg
  have k6 : w0.cell? ⟨gr, 6, none⟩ = some (.slice A r.events.length cA) := by rw [hR0.run.2.cell 6, ← hev]; rfl
  have e0 : w0.cell? ⟨gE, 0, none⟩ = some (.int .i64 t0) := hE0.cell 0
  have ef := fun i => hE0.frozen i
  go_upto_region 3 with fail
  obtain ⟨w1, hw1⟩ : ∃ y, y = w0.setCell ⟨gE, 0, none⟩ (.int .i64 (t : Int)) := ⟨_, rfl⟩
  have hE1 : Blk w1 gE 42 #[.int .i64 (t : Int), .int .i64 kind, .int .i64 loc, .int .u64 val, .int .i64 mode] := by rw [hw1]; exact hE0.set 0 (.int .i64 (t : Int))
  have hR1 := hR0.other hX hn0 hE0 (hX.rows .ev) 0 (.int .i64 (t : Int))
  have hm1 := hm0.setNew hgE 0 (.int .i64 (t : Int))
  rw [← hw1] at hR1 hm1 ⊢
  clear hw1 k6 e0 ef hE0 hR0 hm0
  obtain ⟨S, hS⟩ : ∃ S : Nat → Prop, ∀ k, S k ↔ (RV.val V .ev).ownBlock = some k := ⟨_, fun _ => Iff.rfl⟩
  have nS : ∀ {k : Nat}, who k ≠ some (.row .ev) → ¬ S k := fun hk hs => hk (RunW.ownW hR1 .ev _ ((hS _).1 hs))
  have hgrn : ¬ S gr := nS (by rw [(RunW.run hR1).1]; exact fun e => by cases e)
  have hgEn : ¬ S gE := nS (by rw [hn0]; exact fun e => by cases e)
  have k6 : ∀ p : Cls (KeptS S w1), p.w.cell? ⟨gr, 6, none⟩ = some (.slice A r.events.length cA) := fun p => by
    rw [(p.h.blk hR1.run.2 hgrn).cell 6, ← hev]; rfl
  have e0 : ∀ p : Cls (KeptS S w1), p.w.cell? ⟨gE, 0, none⟩ = some (.int .i64 (t : Int)) := fun p => (p.h.blk hE1 hgEn).cell 0
  have e1 : ∀ p : Cls (KeptS S w1), p.w.cell? ⟨gE, 1, none⟩ = some (.int .i64 kind) := fun p => (p.h.blk hE1 hgEn).cell 1
  have e2 : ∀ p : Cls (KeptS S w1), p.w.cell? ⟨gE, 2, none⟩ = some (.int .i64 loc) := fun p => (p.h.blk hE1 hgEn).cell 2
  have e3 : ∀ p : Cls (KeptS S w1), p.w.cell? ⟨gE, 3, none⟩ = some (.int .u64 val) := fun p => (p.h.blk hE1 hgEn).cell 3
  have e4 : ∀ p : Cls (KeptS S w1), p.w.cell? ⟨gE, 4, none⟩ = some (.int .i64 mode) := fun p => (p.h.blk hE1 hgEn).cell 4
  obtain ⟨i0, hi0, hz0, hz1, hz2⟩ := info_parts info_event
  have HEV := Lib.hid hev
  have HS := Lib.hid hS
  clear hev hS nS
  refine wp_region_float_at (KeptS S w1) 9 2 [0, 1, 2, 3, 4, 5, 6] [] ((KeptS.refl _ w1).dn 1) (by kernel_rfl) (by kernel_rfl) ?_
  intro hne
  simp only [pickL, List.map_cons, List.map_nil, List.getElem?_cons_succ, List.getElem?_cons_zero, Option.getD_some]
  repeat (go_big_quiet_step (fail))
  refine wpQuiet_nil ?_
  refine floatG_one (i := 7) (by kernel_rfl) (by decide) rfl ?_
  go_wp2_with fail
  have hk7 : KeptS S w1 ((World.drewN w1 1).alloc (.cells #[.int .i64 (t : Int), .int .i64 kind, .int .i64 loc, .int .u64 val, .int .i64 mode] 42)) := ((KeptS.refl _ w1).dn 1).al _
  refine onG_mk (fun _ => ⟨⟨_, hk7⟩, rfl⟩) ?_
  obtain ⟨w7, hw7⟩ : ∃ y, y = (World.drewN w1 1).alloc (.cells #[.int .i64 (t : Int), .int .i64 kind, .int .i64 loc, .int .u64 val, .int .i64 mode] 42) := ⟨_, rfl⟩
  have hb7 : Below (w1).heap.size w1 w7 := by rw [hw7]; exact Kit.Below.al (Kit.Below.dn (Below.refl _ _)) _
  have hN7 : Blk w7 (w1).heap.size 42 (List.toArray (evC ⟨t, kind, loc, val, mode⟩)) := by rw [hw7]; exact Blk.new (World.drewN w1 1) _ _
  obtain ⟨hR7, hm7⟩ := RunW.below' hX hR1 hb7
  have hev7 := RunW.own hR7 .ev
  simp only [RV.val, rowN, rowX, rowT, rowS] at hev7
  rw [HEV.out] at hev7
  have HEO := Lib.hid hev7
  rw [← hw7] at hk7 ⊢
  have hbs := RunW.base_le hR7
  have hml : (16 * 1048576 : Nat) ≤ maxLen := by decide
  clear hw7 hev7 k6 e0 e1 e2 e3 e4
  refine floatG_one (i := 8) (by kernel_rfl) (by decide) rfl ?_
  refine wpList_append_lies _ (by rfl) _ _ _ (by rfl) base 42 i0 _ 5 40 Tryz.underlying27 hi0 hz0 hz1 hz2 rfl (by omega) _ r.events.length _ (by rfl) HEO.out ⟨(w1).heap.size, 0, none⟩ 1 1 (evC ⟨t, kind, loc, val, mode⟩) (by rfl) rfl (news_one hN7) (evC_one _) (by omega) (by omega) (by omega) hbs _ rfl ?_
  intro g8 cap8 w8 hown8 hgrow8 hat8 hlt8
  have hk8 := kept_grown hk7 hgrow8 (fun k hk => (HS.out k).2 (by rw [show RV.val V .ev = _ from HEV.out]; exact hk))
  refine onG_mk (fun _ => ⟨⟨_, hk8⟩, rfl⟩) ?_
  refine (show tailG _ _ _ _ _ _ _ from ⟨by kernel_rfl, ?_⟩)
  simp only [List.drop_succ_cons, List.drop_zero]
  have hB8 := hk8.blk hR1.run.2 hgrn
  have kf := fun i => hB8.frozen i
  have k6 : w8.cell? ⟨gr, 6, none⟩ = some (.slice A r.events.length cA) := by rw [hB8.cell 6, ← HEV.out]; rfl
  go_wp2_with fail
  obtain ⟨who9, V9, hR9, hm9, hg9, hgm9⟩ := hR7.evs hX ⟨t, kind, loc, val, mode⟩ (by rw [HEV.out]; exact hgrow8) (by rw [HEV.out]; exact hat8) hlt8 hown8
  have hm9 := (hm1.trans hm7).trans hm9
  generalize w8.setCell ⟨gr, 6, none⟩ _ = w9 at *
  clear hm7 hm1 hR7 hR1 hk8 hk7 hB8 kf k6 hgrow8 hat8 hlt8 hown8 HEO HEV HS hgrn hgEn hN7 hb7 hne hi0 hz0 hz1 hz2 hE1
  obtain ⟨r1, hr1⟩ : ∃ y, y = { r with events := r.events ++ [(⟨t, kind, loc, val, mode⟩ : Ev)] } := ⟨_, rfl⟩
  rw [← hr1] at hR9
  have hx1 : r1.ths[t]? = some x := by rw [hr1]; exact hx
  obtain ⟨gt, gm, hgt, hgm, hwt, hbt, _⟩ := hR9.thOf hx1
  obtain ⟨gth, capth, hvth, hwth, hbth, hfth, hcth⟩ := hR9.slice .thr (by show 0 < V9.gt.length; rw [hR9.gtl, hr1]; exact Nat.lt_of_le_of_lt (Nat.zero_le _) htl)
  have hthn : rowN V9 r1 .thr = r.ths.length := by show V9.gt.length = _; rw [hR9.gtl, hr1]
  rw [hthn] at hvth
  simp only [RV.val] at hvth
  obtain ⟨B, cB, hnv, hcB⟩ := own_slice (hR9.own (.nums t))
  have hnl : rowN V9 r1 (.nums t) = x.nums.length := by show (numsOf r1 t).length = _; rw [numsOf_eq hx1]
  rw [hnl] at hnv
  simp only [RV.val] at hnv
  obtain ⟨S, hS⟩ : ∃ S : Nat → Prop, ∀ k, S k ↔ (RV.val V9 (.nums t)).ownBlock = some k := ⟨_, fun _ => Iff.rfl⟩
  have nS : ∀ {k : Nat}, who9 k ≠ some (.row (.nums t)) → ¬ S k := fun hk hs => hk (RunW.ownW hR9 (.nums t) _ ((hS _).1 hs))
  have hgrn : ¬ S gr := nS (by rw [(RunW.run hR9).1]; exact fun e => by cases e)
  have hgthn : ¬ S gth := nS (by rw [hwth]; exact fun e => by cases e)
  have hgtn : ¬ S gt := nS (by rw [hwt]; exact fun e => by cases e)
  obtain ⟨csth, hbth⟩ := hbth
  have k2 : ∀ p : Cls (KeptS S w9), p.w.cell? ⟨gr, 2, none⟩ = some (.slice (some ⟨gth, 0, none⟩) r.ths.length capth) := fun p => by
    rw [(p.h.blk hR9.run.2 hgrn).cell 2, ← hvth]; rfl
  have kt : ∀ p : Cls (KeptS S w9), p.w.cell? ⟨gth, t, none⟩ = some (.pointer (some ⟨gt, 0, none⟩)) := fun p => by
    rw [World.cell?_of_block (w := w9) (p.h.2.2.2.2 gth hbth.lt hgthn)]
    refine hcth t _ ?_
    show (V9.gt.map ptrV)[t]? = _
    rw [List.getElem?_map, hgt]; rfl
  have k1 : ∀ p : Cls (KeptS S w9), p.w.cell? ⟨gt, 1, none⟩ = some (.slice B x.nums.length cB) := fun p => by
    rw [(p.h.blk hbt hgtn).cell 1, ← hnv]; rfl
  have b1 : (0 : Int) ≤ (t : Int) := by omega
  have b2 : (t : Int) < (r.ths.length : Int) := by omega
  have HX1 := Lib.hid hx1
  have HGT := Lib.hid hgt
  have HR1 := Lib.hid hr1
  have HG9 := Lib.hid hg9
  have HGM9 := Lib.hid hgm9
  clear hx1 hgt hr1 hg9 hgm9 hgm hthn hnl hvth hwth hfth hcth hwt
  obtain ⟨i0, hi0, hz0, hz1, hz2⟩ := info_parts info_int
  have HEV := Lib.hid hnv
  have HS := Lib.hid hS
  clear hnv hS nS
  refine wp_region_float_at (KeptS S w9) 20 2 [0, 1, 2, 3, 4, 5, 6, 7, 8, 9, 10, 11, 12, 13, 14, 15, 16, 17] [] ((KeptS.refl _ w9).dn 1) (by kernel_rfl) (by kernel_rfl) ?_
  intro hne
  simp only [pickL, List.map_cons, List.map_nil, List.getElem?_cons_succ, List.getElem?_cons_zero, Option.getD_some]
  repeat (go_big_quiet_step (fail))
  refine wpQuiet_nil ?_
  refine floatG_one (i := 18) (by kernel_rfl) (by decide) rfl ?_
  go_wp2_with fail
  have hk7 : KeptS S w9 ((World.drewN w9 1).alloc (.cells #[.int .i64 (r.events.length : Nat)] 3)) := ((KeptS.refl _ w9).dn 1).al _
  refine onG_mk (fun _ => ⟨⟨_, hk7⟩, rfl⟩) ?_
  obtain ⟨w7, hw7⟩ : ∃ y, y = (World.drewN w9 1).alloc (.cells #[.int .i64 (r.events.length : Nat)] 3) := ⟨_, rfl⟩
  have hb7 : Below (w9).heap.size w9 w7 := by rw [hw7]; exact Kit.Below.al (Kit.Below.dn (Below.refl _ _)) _
  have hN7 : Blk w7 (w9).heap.size 3 (List.toArray [i64V r.events.length]) := by rw [hw7]; exact Blk.new (World.drewN w9 1) _ _
  obtain ⟨hR7, hm7⟩ := RunW.below' hX hR9 hb7
  have hev7 := RunW.own hR7 (.nums t)
  simp only [RV.val, rowN, rowX, rowT, rowS] at hev7
  rw [HEV.out, numsOf_eq HX1.out] at hev7
  have HEO := Lib.hid hev7
  rw [← hw7] at hk7 ⊢
  have hbs := RunW.base_le hR7
  have hml : (16 * 1048576 : Nat) ≤ maxLen := by decide
  clear hw7 hev7 k1 k2 kt
  refine floatG_one (i := 19) (by kernel_rfl) (by decide) rfl ?_
  refine wpList_append_lies _ (by rfl) _ _ _ (by rfl) base 3 i0 _ 1 8 Tryz.underlying25 hi0 hz0 hz1 hz2 rfl (by omega) _ x.nums.length _ (by rfl) HEO.out ⟨(w9).heap.size, 0, none⟩ 1 1 [i64V r.events.length] (by rfl) rfl (news_one hN7) (one_one rfl) (by omega) (by omega) (by omega) hbs _ rfl ?_
  intro g8 cap8 w8 hown8 hgrow8 hat8 hlt8
  have hk8 := kept_grown hk7 hgrow8 (fun k hk => (HS.out k).2 (by rw [show RV.val V9 (.nums t) = _ from HEV.out]; exact hk))
  refine onG_mk (fun _ => ⟨⟨_, hk8⟩, rfl⟩) ?_
  refine (show tailG _ _ _ _ _ _ _ from ⟨by kernel_rfl, ?_⟩)
  simp only [List.drop_succ_cons, List.drop_zero]
  have hB8 := hk8.blk hbt hgtn
  have kf := fun i => hB8.frozen i
  have k6 : w8.cell? ⟨gt, 1, none⟩ = some (.slice B x.nums.length cB) := by rw [hB8.cell 1, ← HEV.out]; rfl
  go_wp2_with fail
  have hst := hR7.nums hX HX1.out HGT.out r.events.length (by rw [HEV.out]; exact hgrow8) (by rw [HEV.out]; exact hat8) hlt8 hown8
  have hst := Step.trans (hm9.trans hm7) HG9.out HGM9.out hst
  have hr2 : ({ r1 with ths := r1.ths.set t { x with nums := x.nums ++ [r.events.length] } } : Rn M) = r.event K t kind loc val mode := by
    rw [HR1.out]
    unfold Rn.event Rn.th
    simp only [List.getD_eq_getElem?_getD, hx, Option.getD_some]
  rw [hr2] at hst
  go_ret
  exact ⟨rfl, hst⟩
/-- A machine has done something. -/
def MOp (X : Mk M) (w : World) (S : Nat → Prop) (g : Nat) (m' : M) (w' : World) : Prop :=
  ∃ S', (∀ k, S' k → S k ∨ (w.heap.size ≤ k ∧ k < w'.heap.size)) ∧ X.Rep w' S' g m' ∧ KeptS S w w' ∧ Still X.TM w w'
/-- What a make of machines owes. -/
structure MkC (X : Mk M) (K : Kd M) (nc : Nat) : Prop extends MkM X where
  nextM : ∀ g w, (method 432 X.T (.pointer (some ⟨g, 0, none⟩)) "Next").run Tryz.prog w = .ok (X.nextF, .pointer (some ⟨g, 0, none⟩)) w
  feedM : ∀ g w, (method 432 X.T (.pointer (some ⟨g, 0, none⟩)) "Feed").run Tryz.prog w = .ok (X.feedF, .pointer (some ⟨g, 0, none⟩)) w
  nextE : ∀ args w, (callFunc X.nextF args).run Tryz.prog w = .ok (.enter X.nextF args) w
  feedE : ∀ args w, (callFunc X.feedF args).run Tryz.prog w = .ok (.enter X.feedF args) w
  want : ¬ X.TM 100
  next : ∀ {w S g m}, X.Rep w S g m → Calls Tryz.prog X.nextF #[ptrV g] w fun e w' => e = .returned (.agg (wantC (K.now (K.next m))).toArray) ∧ MOp X w S g (K.next m) w'
  feed : ∀ {w S g m}, X.Rep w S g m → X.asked m → 1 ≤ (K.now m).what → (K.now m).what ≤ 4 → ∀ {v : Nat}, v < M64 → Calls Tryz.prog X.feedF #[ptrV g, .int .u64 v] w fun e w' => e = .returned (.int .i64 0) ∧ MOp X w S g (K.feed m v) w'
  asked_next : ∀ m, X.asked (K.next m)
  val : ∀ {w S g m}, X.Rep w S g m → X.asked m → (K.now m).val < M64
  val2 : ∀ {w S g m}, X.Rep w S g m → X.asked m → (K.now m).what = 1 → ∀ {v : Nat}, v < M64 → (K.now (K.next (K.feed m v))).val < M64
  second : ∀ {w S g m}, X.Rep w S g m → X.asked m → (K.now m).what = 1 → (if K.words then (K.now m).one else (K.now m).ex) = true → 0 ≤ (K.now m).loc → (K.now m).loc < (nc : Int) → ∀ {v : Nat}, v < M64 →
    (K.now (K.next (K.feed m v))).what = 2 → (K.now (K.next (K.feed m v))).ex ≠ K.words → (K.now (K.next (K.feed m v))).one = K.words → 0 ≤ (K.now (K.next (K.feed m v))).loc ∧ (K.now (K.next (K.feed m v))).loc < (nc : Int)
end
end Go.Proofs.YtmjilfamjlnigaaGreat.RunW
