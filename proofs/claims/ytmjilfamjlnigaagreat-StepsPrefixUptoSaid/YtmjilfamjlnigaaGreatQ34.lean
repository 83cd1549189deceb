/- A region that draws its order: reads (a slice expression counts as one), taken first, at its beginning or on the way. -/
import Derived.Test.YtmjilfamjlnigaaGreatQ30
import Derived.Test.YtmjilfamjlnigaaGreatQ33
namespace Go.Proofs.YtmjilfamjlnigaaGreat.Kit
open Go Go.RowKit

def readB2 (o : Oper) : Bool := match o.op with
  | .slice _ _ _ _ _ => true
  | _ => readB o
theorem read_no_enter2 {P : Program} {o : Oper} (h : readB2 o = true) {ρ : Operand → Value} {w w' : World} {f : FuncId} {args : Array Value} : (execOp ρ o).run P w ≠ .ok (.enter f args) w' := by
  unfold readB2 at h
  split at h
  · rename_i heq
    unfold execOp
    rw [heq]
    exact bind_value
  · exact read_no_enter h
section
variable {P : Program} {ops : Array Oper} {md : Region.Mode} {C : World → Prop}
theorem reads_of_yields2 {o : Oper} {v : Value} {a : Act} (hr : readB2 o = true) (hy : YieldsIn P ops C o v a) : ReadsIn P ops C o v a := by
  rcases hy with ⟨hw, h⟩ | h
  · refine .inl ⟨hw, fun w hC => ?_⟩
    have := h w hC
    unfold Oper.quietAt at this
    cases hx : (execOp a.eval o).run P w with
    | halt x w' => rw [hx] at this; exact this.elim
    | ok n w' =>
      rw [hx] at this
      cases n with
      | value u => obtain ⟨rfl, rfl⟩ := this; exact .inl rfl
      | skip => obtain ⟨rfl, rfl⟩ := this; exact .inr ⟨rfl, rfl⟩
      | enter f args => exact absurd hx (read_no_enter2 hr)
      | _ => exact this.elim
  · exact .inr h
def readsB2 (md : Region.Mode) (ops : Array Oper) (n : Nat) : List Nat → Array Bool → Bool
  | [], _ => true
  | k :: l, listed => (Region.ready md ops listed).contains k && Region.free md ops listed k && decide (k < n) && ((ops[k]?).map readB2).getD false && readsB2 md ops n l (listed.setIfInBounds k true)
/-- How things stand within a region. -/
def standB (md : Region.Mode) (ops : Array Oper) (n : Nat) (listed : Array Bool) : Bool :=
  decide (listed.size = ops.size) && ((List.range ops.size).all fun j => !listed.getD j false || (((ops[j]?).map fun o => o.after.toList.all fun e => !Region.binds md e || listed.getD e.on false).getD true)) && ((List.range ops.size).all fun j => decide (j < n) || !listed.getD j true)
theorem stand_inv {n : Nat} {listed : Array Bool} (h : standB md ops n listed = true) : HeadInv md ops n listed := by
  simp only [standB, Bool.and_eq_true, decide_eq_true_eq, List.all_eq_true, List.mem_range, Bool.or_eq_true, Bool.not_eq_true'] at h
  obtain ⟨⟨h1, h2⟩, h3⟩ := h
  refine ⟨h1, fun j oj ho hl e he hb => ?_, fun t ht1 ht2 => ?_⟩
  · have hj : j < ops.size := (Array.getElem?_eq_some_iff.1 ho).1
    rcases h2 j hj with h | h
    · rw [hl] at h; cases h
    · rw [ho] at h
      simp only [Option.map_some, Option.getD_some, List.all_eq_true, Bool.or_eq_true, Bool.not_eq_true'] at h
      rcases h e (by simpa using he) with h4 | h4
      · rw [hb] at h4; cases h4
      · exact h4
  · rcases h3 t ht2 with h | h
    · omega
    · exact h
theorem floatG_lex2 {n m : Nat} {T : Array Bool → Act → World → Prop} (hsel : Region.noSelect ops = true) (hn : n = ops.size)
    (hT : ∀ listed a w, T listed a w → ∀ j ∈ Region.ready md ops listed, n ≤ j) (w : World) (hC : C w) (rd : List Nat) :
    ∀ (listed : Array Bool) (a : Act), HeadInv md ops n listed → readsB2 md ops n rd listed = true → ∀ (l : List Oper), l.length = rd.length → (∀ j, j < l.length → l[j]? = (rd[j]?).bind fun k => ops[k]?) →
      wpQuiet P ops C (fun a' => floatG P md ops C [] n T m (listedAll rd listed) a' w) l a → floatG P md ops C [] n T (rd.length + m) listed a w := by
  induction rd with
  | nil =>
    intro listed a inv hB l hlen hl h
    obtain rfl : l = [] := by simpa using hlen
    rw [List.length_nil, Nat.zero_add]
    exact h
  | cons k rd ih =>
    intro listed a inv hB l hlen hl h
    cases l with
    | nil => simp at hlen
    | cons o l =>
      have h0 : ops[k]? = some o := by
        have := hl 0 (by simp)
        simpa using this.symm
      simp only [readsB2, Bool.and_eq_true, decide_eq_true_eq, h0, Option.map_some, Option.getD_some] at hB
      obtain ⟨⟨⟨⟨hr, hf⟩, hk⟩, hrd⟩, hB'⟩ := hB
      have hr' : k ∈ Region.ready md ops listed := by simpa using hr
      have hq : qOp P ops C k (wpQuiet P ops C (fun a' => floatG P md ops C [] n T m (listedAll rd (listed.setIfInBounds k true)) a' w) l) a := by
        unfold qOp
        simp only [h0]
        exact h
      obtain ⟨v, hy, hK⟩ := yieldsIn_of_qOp h0 hq
      rw [List.length_cons, show rd.length + 1 + m = (rd.length + m) + 1 by omega]
      refine floatG_takeA h0 (Region.noSelect_spec hsel) hn hk (fun j hj => by cases hj) hT (rd.length + m) listed a w hC inv (Region.free_spec h0 hf) hr' (reads_of_yields2 hrd hy) ?_
      refine ih _ _ (inv.set hr' hk) hB' l (by simpa using hlen) (fun j hj => ?_) hK
      have := hl (j + 1) (by simp; omega)
      simpa using this
end
theorem reads2_lt {md : Region.Mode} {ops : Array Oper} {n : Nat} (rd : List Nat) : ∀ listed, readsB2 md ops n rd listed = true → ∀ k ∈ rd, k < n := by
  induction rd with
  | nil => intro _ _ k hk; cases hk
  | cons k0 rd ih =>
    intro listed h k hk
    simp only [readsB2, Bool.and_eq_true, decide_eq_true_eq] at h
    rcases List.mem_cons.1 hk with rfl | hk
    · exact h.1.1.2
    · exact ih _ h.2 k hk
/-- Reads, on the way. -/
theorem floatG_reads {P : Program} {C : World → Prop} {Q : Exit → Act → World → Prop} {l : List Oper} {n f : Nat} (m : Nat) (rd : List Nat) {listed : Array Bool} {a : Act} {w : World} (hC : C w) (hf : rd.length + m = f)
    (hB : (Region.noSelect l.toArray && decide (n = l.length) && standB .any l.toArray n listed && readsB2 .any l.toArray n rd listed) = true)
    (h : wpQuiet P l.toArray C (fun a' => floatG P .any l.toArray C [] n (tailG P Q l n) m (listedAll rd listed) a' w) (pickL rd l) a) :
    floatG P .any l.toArray C [] n (tailG P Q l n) f listed a w := by
  subst hf
  simp only [Bool.and_eq_true, decide_eq_true_eq] at hB
  obtain ⟨⟨⟨hsel, hn⟩, hst⟩, hrd⟩ := hB
  refine floatG_lex2 hsel (by simpa using hn) (fun _ _ _ hT => seqB_ready hT.1) w hC rd listed a (stand_inv hst) hrd (pickL rd l) (by simp [pickL]) (fun j hj => ?_) h
  have hj' : j < rd.length := by simpa [pickL] using hj
  have hk := reads2_lt rd _ hrd rd[j] (List.getElem_mem hj')
  have hk' : rd[j] < l.length := by omega
  simp [pickL, hj', hk']
/-- **A region, all of it, step by step.** -/
theorem wp_region_float_go (C : World → Prop) (n : Nat) {P : Program} {id : Nat} {Q : Exit → Act → World → Prop} {a : Act} {w : World} {l : List Oper} (hm : P.follows .mixedOrders = true) (hn : l.length = n)
    (h : floatG P .any l.toArray C [] n (tailG P Q l n) n (Array.replicate l.toArray.size false) a (w.drewN 1)) : (Code.region id l.toArray true).wp P Q a w := by
  subst hn
  have hdl : (l.drop l.length).length = l.toArray.size - l.length := by simp
  refine wp_region_any hm ?_
  have := floatG_run (Q := Q) (g := l.toArray.size - l.length) (fun listed a' w' hT => by
    have := wpAny_of_seq (md := .any) (Q' := Q) (l.drop l.length) l.length listed a' w' (fun j => by simp) (by rw [hdl]; exact hT.1) hT.2
    rwa [hdl] at this) _ _ _ _ h
  rw [show l.length + (l.toArray.size - l.length) = l.toArray.size by simp] at this
  exact this
end Go.Proofs.YtmjilfamjlnigaaGreat.Kit
/- WALKS: lists of words are compared; an empty play. -/
namespace Go.Proofs.YtmjilfamjlnigaaGreat.LawW
open Go Go.RowKit Go.Proofs.YtmjilfamjlnigaaGreat.Kit Go.Proofs.YtmjilfamjlnigaaGreat.SrcP Go.Proofs.YtmjilfamjlnigaaGreat.SrcW Go.Proofs.YtmjilfamjlnigaaGreat.MchW Go.Proofs.YtmjilfamjlnigaaGreat.OwnR Go.Proofs.YtmjilfamjlnigaaGreat.NewW Go.Proofs.YtmjilfamjlnigaaGreat.RunW

theorem load_same (K : Kd Mch) (r : Rn Mch) (t : Nat) (w : Want) : (r.load K t w).used = r.used ∧ (r.load K t w).outs = r.outs := by
  unfold Rn.load Rn.exd
  split <;> exact ⟨rfl, rfl⟩
theorem second_same (K : Kd Mch) (r : Rn Mch) (t n : Nat) : (r.second K t n).used = r.used ∧ (r.second K t n).outs = r.outs := by
  unfold Rn.second
  simp only
  split
  · exact ⟨rfl, rfl⟩
  · split
    · exact ⟨rfl, rfl⟩
    · split <;> exact ⟨rfl, rfl⟩
/-- A list of what a thread printed is no longer than so many picks were used. -/
def OutsLe (r : Rn Mch) : Prop := ∀ t, (r.outs.getD t []).length ≤ r.used
theorem OutsLe.same {r r' : Rn Mch} (h : OutsLe r) (h1 : r'.used = r.used) (h2 : r'.outs = r.outs) : OutsLe r' := fun t => by rw [h1, h2]; exact h t
theorem doo_le (K : Kd Mch) (r : Rn Mch) (t : Nat) (w : Want) (h : OutsLe r) : OutsLe ((r.did t).doo K t w) ∧ ((r.did t).doo K t w).used = r.used + 1 := by
  have hd : OutsLe (r.did t) := fun u => Nat.le_succ_of_le (h u)
  unfold Rn.doo
  repeat' split
  · exact ⟨hd.same (load_same K _ t w).1 (load_same K _ t w).2, (load_same K _ t w).1⟩
  · have e := second_same K (((r.did t).load K t w).ask K t) t (r.did t).events.length
    have e2 := load_same K (r.did t) t w
    exact ⟨hd.same (e.1.trans e2.1) (e.2.trans e2.2), e.1.trans e2.1⟩
  · exact ⟨hd.same (load_same K _ t w).1 (load_same K _ t w).2, (load_same K _ t w).1⟩
  · have e := second_same K (((r.did t).load K t w).ask K t) t (r.did t).events.length
    have e2 := load_same K (r.did t) t w
    exact ⟨hd.same (e.1.trans e2.1) (e.2.trans e2.2), e.1.trans e2.1⟩
  · exact ⟨hd.same rfl rfl, rfl⟩
  · exact ⟨hd.same rfl rfl, rfl⟩
  · exact ⟨hd.same rfl rfl, rfl⟩
  · refine ⟨fun u => ?_, rfl⟩
    show ((r.outs.set t (r.outs.getD t [] ++ [w.val])).getD u []).length ≤ r.used + 1
    have h1 := h t
    have h2 := h u
    simp only [List.getD_eq_getElem?_getD, List.getElem?_set] at *
    split
    · rename_i e
      subst e
      split
      · simp; omega
      · simp
    · omega
  · exact ⟨hd, rfl⟩
theorem pick_le (K : Kd Mch) (r : Rn Mch) (t : Int) (h : OutsLe r) : OutsLe (r.pick K t) ∧ (r.pick K t).used ≤ r.used + 1 := by
  unfold Rn.pick
  simp only
  split
  · exact ⟨h, Nat.le_succ _⟩
  · have h1 : OutsLe (r.ask K t.toNat) := h.same rfl rfl
    split
    · obtain ⟨h2, h3⟩ := doo_le K (r.ask K t.toNat) t.toNat ((r.ask K t.toNat).wants K t.toNat) h1
      exact ⟨h2, by rw [h3]; exact Nat.le_refl _⟩
    · exact ⟨h1, Nat.le_succ _⟩
theorem playU_le (K : Kd Mch) (fuel : Int) : ∀ (l : List Int) (r : Rn Mch), OutsLe r → OutsLe (K.play fuel l r).1 ∧ (K.play fuel l r).1.used ≤ r.used + l.length
  | [], r, h => ⟨h, Nat.le_refl _⟩
  | t :: l, r, h => by
    unfold Kd.play
    split
    · exact ⟨h, Nat.le_add_right _ _⟩
    · split
      · exact ⟨h, Nat.le_add_right _ _⟩
      · obtain ⟨h1, h2⟩ := pick_le K r t h
        obtain ⟨h3, h4⟩ := playU_le K fuel l (r.pick K t) h1
        exact ⟨h3, by rw [List.length_cons]; omega⟩
theorem source_outl {p : SrcP.Prog} {picks : List Int} {fuel : Int} {lse : Bool} {r : Rn Mch} (h : sourceS p picks fuel lse = .ok r) (t : Nat) (l : List Nat) (hl : r.outs[t]? = some l) : l.length ≤ picks.length := by
  unfold sourceS at h
  split at h
  · cases h
  · unfold Kd.run at h
    cases hp : (srcK lse).play fuel picks ((srcK lse).start p.cells.toNat (p.threads.map newM)) with
    | mk x b =>
      rw [hp] at h
      cases b with
      | true => cases h
      | false =>
        obtain rfl : x = r := by simpa using h
        have h0 : OutsLe ((srcK lse).start p.cells.toNat (p.threads.map newM)) := fun u => by
          rw [Kd.start_eq]
          show (((p.threads.map newM).map fun _ => ([] : List Nat)).getD u []).length ≤ _
          rw [List.getD_eq_getElem?_getD, List.getElem?_map]
          cases (p.threads.map newM)[u]? <;> exact Nat.zero_le _
        obtain ⟨h1, h2⟩ := playU_le (srcK lse) fuel picks _ h0
        rw [hp] at h1 h2
        have h3 := h1 t
        rw [List.getD_eq_getElem?_getD, hl] at h3
        have h4 : ((srcK lse).start p.cells.toNat (p.threads.map newM)).used = 0 := by rw [Kd.start_eq]; rfl
        rw [h4] at h2
        exact Nat.le_trans h3 (by simpa using h2)
def U64sAt (w : World) (A : Option Addr) (l : List Nat) : Prop := ∀ (i : Nat) (x : Nat), l[i]? = some x → ∃ ad : Addr, A = some ad ∧ w.cell? (ad.add i) = some (.int .u64 x)
theorem own_u64s {w : World} {lo n c : Nat} {A : Option Addr} {l : List Nat} (h : w.ownsRow lo 40 1 (.slice A n c) n (l.map u64V)) (hn : n = l.length) : U64sAt w A l := fun i x hi => by
  have hil := (List.getElem?_eq_some_iff.1 hi).1
  obtain ⟨g, hA, _, _, _, _, hc⟩ := row_at h (by omega)
  refine ⟨_, hA, ?_⟩
  rw [show Addr.add ⟨g, 0, none⟩ i = ⟨g, i, none⟩ by unfold Addr.add; split <;> simp_all]
  exact hc i _ (by rw [List.getElem?_map, hi]; rfl)
theorem U64sAt.dn {w : World} {A : Option Addr} {l : List Nat} (h : U64sAt w A l) (n : Nat) : U64sAt (w.drewN n) A l := h
theorem ints_below {w w' : World} {A : Option Addr} {l : List Int} (h : IntsAt w A l) (hA : ∀ ad, A = some ad → ad.block < w.heap.size) (hb : Below w.heap.size w w') : IntsAt w' A l := fun i q hq => by
  obtain ⟨ad, hA1, hc⟩ := h i q hq
  refine ⟨ad, hA1, ?_⟩
  have hb' : (ad.add i).block = ad.block := by unfold Addr.add; split <;> rfl
  rw [World.cell?_of_block (w := w) (hb.block _ (by rw [hb']; exact hA ad hA1))]
  exact hc
theorem PlayQ.else_ {S : Nat → Prop} {lo g : Nat} {w w' : World} {Q : SL} {r : Rn Mch} {cs : Array Value} (h : PlayQ lo w Q r) (hb : Blk w g 36 cs) (hk : KeptS S w w') (hS : ∀ k, S k → k = g) : PlayQ lo w' Q r := PlayW.else_ h hb hk hS
def NumRel (w : World) (la lb : List Nat) (mm : Nat) (s5 : Value) (wr : World) : Prop :=
  ∃ k n : Nat, s5 = .int .i64 k ∧ k ≤ la.length ∧ mm = la.length - k ∧ (∀ j, j < k → la[j]? = lb[j]?) ∧ wr = w.drewN n
set_option maxRecDepth 100000 in
set_option maxHeartbeats 0 in
theorem numbers_any (w : World) (A B : Option Addr) (la lb : List Nat) (cA cB : Nat) (hA : U64sAt w A la) (hB : U64sAt w B lb) (hla : la.length ≤ 16777216) (hlb : lb.length ≤ 16777216) :
    Calls Tryz.prog 10 #[.slice A la.length cA, .slice B lb.length cB] w fun e w' => e = .returned (.bool (la == lb)) ∧ ∃ n, w' = w.drewN n := by
  by_cases hlen : la.length = lb.length
  · have HL := Lib.hid hlen
    have hcl : decide ((la.length : Int) = (lb.length : Int)) = true := by rw [hlen]; simp
    obtain ⟨n, hn⟩ : ∃ n, n = la.length := ⟨_, rfl⟩
    rw [← hlen]
    rw [← hn] at hla ⊢
    have HN := Lib.hid hn
    clear hlen hn hcl hlb
    go_enter Tryz.func10, Tryz.ntmps10
    go_upto_region 4 with fail
    go_loopg [5] n (fun mm s5 wr => NumRel w la lb mm s5 wr)
    case atStart => exact ⟨0, 0, rfl, Nat.zero_le _, by rw [HN.out]; rfl, fun j hj => by omega, (World.drewN_zero _).symm⟩
    case round =>
      obtain ⟨k, q, rfl, hk, hmm, heq, rfl⟩ := hrel
      have HM := Lib.hid hmm
      have HE := Lib.hid heq
      clear hmm heq
      rw [← HN.out] at hk
      by_cases hke : k < n
      · have q1 : (k : Int) < (n : Int) := by omega
        have q2 : (0 : Int) ≤ (k : Int) := by omega
        obtain ⟨x, hx⟩ : ∃ x, la[k]? = some x := ⟨_, List.getElem?_eq_getElem (by rw [← HN.out]; exact hke)⟩
        obtain ⟨y, hy⟩ : ∃ y, lb[k]? = some y := ⟨_, List.getElem?_eq_getElem (by rw [← HL.out, ← HN.out]; exact hke)⟩
        obtain ⟨ad, rfl, hca⟩ := hA k x hx
        obtain ⟨bd, rfl, hcb⟩ := hB k y hy
        by_cases hxy : x = y
        · have HX := Lib.hid hx
          have HY := Lib.hid hy
          clear hx hy
          subst hxy
          have e1 : ((x : Int) == (x : Int)) = true := by simp
          go_upto_region 6 with fail
          go_quiet (fail)
          go_wp2_with fail
          go_roundg (n - (k + 1))
          case measure => have := HM.out; have := HN.out; omega
          case rel =>
            refine ⟨k + 1, _, by push_cast; rfl, by rw [← HN.out]; exact hke, by rw [← HN.out], fun j hj => ?_, rfl⟩
            rcases Nat.lt_or_ge j k with h | h
            · exact HE.out j h
            · obtain rfl : j = k := by omega
              rw [HX.out, HY.out]
        · have hne : ¬ ((x : Int) = (y : Int)) := by omega
          have hb : Hid ((la == lb) = false) := Lib.hid (by
            rw [beq_eq_false_iff_ne]
            rintro rfl
            rw [hx] at hy
            exact hxy (Option.some.inj hy))
          have HX := Lib.hid hx
          have HY := Lib.hid hy
          clear hx hy
          go_upto_region 6 with fail
          go_quiet (fail)
          go_wp2_with fail
          go_ret
          exact ⟨by rw [hb.out]; rfl, q + nq, (World.drewN_drewN _ _ _)⟩
      · obtain rfl : k = n := by omega
        have hb : Hid ((la == lb) = true) := Lib.hid (by
          rw [beq_iff_eq]
          refine List.ext_getElem? fun j => ?_
          rcases Nat.lt_or_ge j la.length with h | h
          · exact HE.out j (by rw [HN.out]; exact h)
          · rw [List.getElem?_eq_none h, List.getElem?_eq_none (by rw [← HL.out]; exact h)])
        go_wp2_with fail
        go_ret
        exact ⟨by rw [hb.out]; rfl, _, rfl⟩
  · have hb : Hid ((la == lb) = false) := Lib.hid (by
      rw [beq_eq_false_iff_ne]
      rintro rfl
      exact hlen rfl)
    go_enter Tryz.func10, Tryz.ntmps10
    go_wp2_with fail
    go_ret
    exact ⟨by rw [hb.out]; rfl, 0, (World.drewN_zero _).symm⟩
set_option maxRecDepth 100000 in
set_option maxHeartbeats 0 in
theorem Empty_any (w : World) : Calls Tryz.prog 14 #[.agg #[.int .i64 0, .slice none 0 0, .slice none 0 0, .slice none 0 0, .slice none 0 0, .slice none 0 0, .slice none 0 0, .slice none 0 0, .slice none 0 0, .slice none 0 0, .slice none 0 0, .int .i64 0]] w fun e w' => e = .returned (.bool true) ∧ Below w.heap.size w w' := by
  go_enter Tryz.func14, Tryz.ntmps14
  go_wp2_with fail
  go_ret
  exact ⟨rfl, Kit.Below.al (Kit.Below.al (Below.refl _ _) _) _⟩
end Go.Proofs.YtmjilfamjlnigaaGreat.LawW
