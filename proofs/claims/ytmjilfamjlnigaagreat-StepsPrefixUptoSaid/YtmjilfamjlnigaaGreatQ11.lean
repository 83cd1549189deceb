/- WALKS: a thread's acts that want nothing. -/
import Derived.Test.YtmjilfamjlnigaaGreatQ10
import Derived.Test.YtmjilfamjlnigaaGreatQ01
import Derived.Deep.AppendLies
namespace Go.Proofs.YtmjilfamjlnigaaGreat.MchW
open Go Go.RowKit Go.Proofs.YtmjilfamjlnigaaGreat.Kit Go.Proofs.YtmjilfamjlnigaaGreat.SrcP Go.Proofs.YtmjilfamjlnigaaGreat.SrcW

section
variable {w w' : World} {g gl nl : Nat} {tl : Int} {va : Value} {m : Mch}
theorem MachM.kept {S : Nat → Prop} (h : MachM w g gl tl va nl m) (hk : KeptS S w w') (h1 : ¬ S g) (h2 : ¬ S gl) (hs : ∀ k, S k → ∃ t cs, Blk w k t cs ∧ ¬ TA t) : MachM w' g gl tl va nl m :=
  ⟨hk.blk h.blk h1, hk.blk h.loc h2, h.acts.still (hk.still hs)⟩
theorem nTM : ¬ TA 170 := by unfold TA; decide
theorem nTU : ¬ TA 40 := by unfold TA; decide
theorem nTW : ¬ TA 100 := by unfold TA; decide
/-- One cell of the machine's own. -/
theorem MachM.setM (h : MachM w g gl tl va nl m) {i : Nat} {u : Value} {m' : Mch} (hc : (machC tl va gl nl m).setIfInBounds i u = machC tl va gl nl m') (hl : m'.locals = m.locals) (ha : m'.acts = m.acts) : MachM (w.setCell ⟨g, i, none⟩ u) g gl tl va nl m' := by
  refine ⟨?_, ?_, ?_⟩
  · have := h.blk.set i u
    rwa [hc] at this
  · rw [hl]; exact h.loc.farN (Ne.symm h.ne) u
  · rw [ha]; exact h.acts.still (Still.set h.blk nTM u)
theorem MachM.at_ (h : MachM w g gl tl va nl m) (n : Nat) : MachM (w.setCell ⟨g, 2, none⟩ (.int .i64 n)) g gl tl va nl { m with at_ := n } := h.setM rfl rfl rfl
theorem MachM.asked (h : MachM w g gl tl va nl m) (b : Bool) : MachM (w.setCell ⟨g, 10, none⟩ (.bool b)) g gl tl va nl { m with asked := b } := h.setM rfl rfl rfl
theorem MachM.old (h : MachM w g gl tl va nl m) (n : Nat) : MachM (w.setCell ⟨g, 11, none⟩ (.int .u64 n)) g gl tl va nl { m with old := n } := h.setM rfl rfl rfl
theorem MachM.opn (h : MachM w g gl tl va nl m) (b : Bool) : MachM (w.setCell ⟨g, 12, none⟩ (.bool b)) g gl tl va nl { m with opn := b } := h.setM rfl rfl rfl
theorem MachM.now (h : MachM w g gl tl va nl m) (x : Want) : MachM ((((((w.setCell ⟨g, 4, none⟩ (.int .i64 x.what)).setCell ⟨g, 5, none⟩ (.int .i64 x.loc)).setCell ⟨g, 6, none⟩ (.int .i64 x.mode)).setCell ⟨g, 7, none⟩ (.int .u64 x.val)).setCell ⟨g, 8, none⟩ (.bool x.ex)).setCell ⟨g, 9, none⟩ (.bool x.one)) g gl tl va nl { m with now := x } := by
  have h0 := h.setM (i := 4) (u := .int .i64 x.what) (m' := { m with now := { m.now with what := x.what } }) rfl rfl rfl
  have h1 := h0.setM (i := 5) (u := .int .i64 x.loc) (m' := { m with now := { m.now with what := x.what, loc := x.loc } }) rfl rfl rfl
  have h2 := h1.setM (i := 6) (u := .int .i64 x.mode) (m' := { m with now := { m.now with what := x.what, loc := x.loc, mode := x.mode } }) rfl rfl rfl
  have h3 := h2.setM (i := 7) (u := .int .u64 x.val) (m' := { m with now := { m.now with what := x.what, loc := x.loc, mode := x.mode, val := x.val } }) rfl rfl rfl
  have h4 := h3.setM (i := 8) (u := .bool x.ex) (m' := { m with now := { m.now with what := x.what, loc := x.loc, mode := x.mode, val := x.val, ex := x.ex } }) rfl rfl rfl
  exact h4.setM (i := 9) (u := .bool x.one) (m' := { m with now := x }) rfl rfl rfl
/-- One of the locals. -/
theorem MachM.setL (h : MachM w g gl tl va nl m) (i x : Nat) : MachM (w.setCell ⟨gl, i, none⟩ (u64V x)) g gl tl va nl { m with locals := m.locals.set i x } := by
  refine ⟨h.blk.farN h.ne _, ?_, h.acts.still (Still.set h.loc nTU _)⟩
  have := h.loc.set i (u64V x)
  rw [show ((m.locals.map u64V).toArray).setIfInBounds i (u64V x) = ((m.locals.set i x).map u64V).toArray by simp [List.map_set]] at this
  exact this
end
def MS (g gl : Nat) (k : Nat) : Prop := k = g ∨ k = gl
theorem kept_set6 {S : Nat → Prop} {w w1 : World} (h : KeptS S w w1) {g : Nat} (hg : w.heap.size ≤ g) (u0 u1 u2 u3 u4 u5 : Value) :
    KeptS S w ((((((w1.setCell ⟨g, 0, none⟩ u0).setCell ⟨g, 1, none⟩ u1).setCell ⟨g, 2, none⟩ u2).setCell ⟨g, 3, none⟩ u3).setCell ⟨g, 4, none⟩ u4).setCell ⟨g, 5, none⟩ u5) :=
  (((((h.setN hg u0).setN hg u1).setN hg u2).setN hg u3).setN hg u4).setN hg u5
theorem keptW_set6 {w : World} {g : Nat} (u0 u1 u2 u3 u4 u5 : Value) :
    KeptS (fun k => k = g) w ((((((w.setCell ⟨g, 0, none⟩ u0).setCell ⟨g, 1, none⟩ u1).setCell ⟨g, 2, none⟩ u2).setCell ⟨g, 3, none⟩ u3).setCell ⟨g, 4, none⟩ u4).setCell ⟨g, 5, none⟩ u5) :=
  ((((((KeptS.refl (fun k => k = g) w).set (g := g) rfl 0 u0).set (g := g) rfl 1 u1).set (g := g) rfl 2 u2).set (g := g) rfl 3 u3).set (g := g) rfl 4 u4).set (g := g) rfl 5 u5
def zeroW : Array Value := #[.int .i64 0, .int .i64 0, .int .i64 0, .int .u64 0, .bool false, .bool false]
set_option maxRecDepth 100000 in
set_option maxHeartbeats 4000000 in
theorem jump_any {w : World} {g gl nl cells : Nat} {tl : Int} {va : Value} {m : Mch} (h : MachM w g gl tl va nl m) {n : Nat} (a : SrcP.Act) (ha : ActWell cells nl n a) (hop : a.op = 9) {I E F : Option Addr} {li ci le ce lf cf : Nat} :
    Calls Tryz.prog 228 #[.pointer (some ⟨g, 0, none⟩), .agg (actC a (.slice I li ci) (.slice E le ce) (.slice F lf cf))] w fun r w' => r = .returned (.agg zeroW) ∧ MachM w' g gl tl va nl (ownS m a) ∧ KeptS (MS g gl) w w' := by
  have hto := ha.to_ (by simp [hasTo, hop])
  obtain ⟨t, ht⟩ := Int.eq_ofNat_of_zero_le hto.1
  have hws : ownS m a = { m with at_ := t } := by simp [ownS, hop, ht]
  rw [hws]
  unfold actC zeroW
  rw [ht]
  clear hws ha hop hto ht
  have hg1 := h.blk.lt
  have hg2 := h.loc.lt
  go_enter Tryz.func228, Tryz.ntmps228
  go_upto_region 1 with fail
  obtain ⟨w0, hw0⟩ : ∃ y, y = (w.alloc (.cells #[.int .i64 a.op, .int .i64 a.dst, .int .i64 a.base, .int .i64 a.size, .slice I li ci, .slice E le ce, .slice F lf cf, .int .i64 a.mode, (.int .i64 t), .int .i64 a.line, .int .i64 a.col] 58)).alloc (.cells #[.int .i64 0, .int .i64 0, .int .i64 0, .int .u64 0, .bool false, .bool false] 100) := ⟨_, rfl⟩
  have hb0 : Below w.heap.size w w0 := by rw [hw0]; exact Kit.Below.al (Kit.Below.al (Below.refl _ _) _) _
  have hA0 : Blk w0 w.heap.size 58 #[.int .i64 a.op, .int .i64 a.dst, .int .i64 a.base, .int .i64 a.size, .slice I li ci, .slice E le ce, .slice F lf cf, .int .i64 a.mode, (.int .i64 t), .int .i64 a.line, .int .i64 a.col] := by rw [hw0]; exact (Blk.new w _ _).alloc _
  have hW0 : Blk w0 (w.heap.size + 1) 100 #[.int .i64 0, .int .i64 0, .int .i64 0, .int .u64 0, .bool false, .bool false] := by rw [hw0]; exact Blk.newAt (sizeA w _) _ _
  rw [← hw0]
  clear hw0
  have hM0 := h.below hb0
  have k8 : w0.cell? ⟨w.heap.size, 8, none⟩ = some (.int .i64 t) := hA0.cell 8
  have m2 : w0.cell? ⟨g, 2, none⟩ = some (.int .i64 m.at_) := hM0.blk.cell 2
  have mf := fun i => hM0.blk.frozen i
  go_upto_region 2 with fail
  have hM8 := hM0.at_ t
  have hK8 : KeptS (MS g gl) w (w0.setCell ⟨g, 2, none⟩ (.int .i64 t)) := (KeptS.of_below hb0).set (.inl rfl) _ _
  have hW8 := hW0.farN (b := g) (o := 2) (by omega) (.int .i64 t)
  generalize w0.setCell ⟨g, 2, none⟩ (.int .i64 t) = w8 at *
  clear k8 m2 mf
  have hl8 := hW8.lt
  have d0 : w8.cell? ⟨w.heap.size + 1, 0, none⟩ = some (.int .i64 0) := hW8.cell 0
  have d1 : w8.cell? ⟨w.heap.size + 1, 1, none⟩ = some (.int .i64 0) := hW8.cell 1
  have d2 : w8.cell? ⟨w.heap.size + 1, 2, none⟩ = some (.int .i64 0) := hW8.cell 2
  have d3 : w8.cell? ⟨w.heap.size + 1, 3, none⟩ = some (.int .u64 0) := hW8.cell 3
  have d4 : w8.cell? ⟨w.heap.size + 1, 4, none⟩ = some (.bool false) := hW8.cell 4
  have d5 : w8.cell? ⟨w.heap.size + 1, 5, none⟩ = some (.bool false) := hW8.cell 5
  have df := fun i => hW8.frozen i
  go_wp2_with fail
  have hB9 := blk_set6 hW8 (.int .i64 0) (.int .i64 0) (.int .i64 0) (.int .u64 0) (.bool false) (.bool false)
  have hk9 := kept_set6 hK8 (Nat.le_succ _) (.int .i64 0) (.int .i64 0) (.int .i64 0) (.int .u64 0) (.bool false) (.bool false)
  have hM9 := hM8.kept (keptW_set6 (g := w.heap.size + 1) (.int .i64 0) (.int .i64 0) (.int .i64 0) (.int .u64 0) (.bool false) (.bool false)) (by omega) (by omega) (fun k hk => ⟨_, _, hk ▸ hW8, nTW⟩)
  generalize ((((((w8.setCell ⟨w.heap.size + 1, 0, none⟩ _).setCell ⟨w.heap.size + 1, 1, none⟩ _).setCell ⟨w.heap.size + 1, 2, none⟩ _).setCell ⟨w.heap.size + 1, 3, none⟩ _).setCell ⟨w.heap.size + 1, 4, none⟩ _).setCell ⟨w.heap.size + 1, 5, none⟩ _) = w9 at *
  have e0 := hB9.cell 0
  have e1 := hB9.cell 1
  have e2 := hB9.cell 2
  have e3 := hB9.cell 3
  have e4 := hB9.cell 4
  have e5 := hB9.cell 5
  simp only [List.getElem?_toArray, List.getElem?_cons_zero, List.getElem?_cons_succ] at e0 e1 e2 e3 e4 e5
  exact bodyPost_ret (v := .agg #[.int .i64 0, .int .i64 0, .int .i64 0, .int .u64 0, .bool false, .bool false]) (by simp [results, Tryz.results228, go_sem, e0, e1, e2, e3, e4, e5]) rfl ⟨rfl, hM9, hk9⟩

theorem val_anyL {w : World} {g gl nl : Nat} {tl : Int} {va : Value} {m : Mch} (h : MachM w g gl tl va nl m) (locals : List Nat) (hm : m.locals = locals) (hlt : ∀ x ∈ locals, x < M64) (hlen : locals.length = nl) {A : Option Addr} {c : Nat} (e : List SrcP.Node) (hv : NodesAt w (.slice A e.length c) e) (he : EvalsAll nl e) :
    Calls Tryz.prog 217 #[.slice A e.length c, .slice (some ⟨gl, 0, none⟩) nl nl] w fun r w' => r = .returned (.int .u64 (value e locals : Nat)) ∧ Below w.heap.size w w' := by
  subst hm
  have hl := h.locals hlt hlen
  have hh := value_any A (some ⟨gl, 0, none⟩) c nl e m.locals w hv hl (by rw [hlen]; exact he)
  rw [hlen] at hh
  exact hh.mono fun _ _ ⟨e1, e2, _⟩ => ⟨e1, e2⟩
set_option maxRecDepth 100000 in
set_option maxHeartbeats 4000000 in
theorem zero_any {w : World} {g gl nl cells : Nat} {tl : Int} {va : Value} {m : Mch} (h : MachM w g gl tl va nl m) (hw : MchW cells nl m) {n : Nat} (a : SrcP.Act) (ha : ActWell cells nl n a) (hop : a.op = 10) {I E F : Option Addr} {li ci le ce lf cf : Nat} (hav : ActVS w (.slice I li ci) (.slice E le ce) (.slice F lf cf) a) :
    Calls Tryz.prog 229 #[.pointer (some ⟨g, 0, none⟩), .agg (actC a (.slice I li ci) (.slice E le ce) (.slice F lf cf))] w fun r w' => r = .returned (.agg zeroW) ∧ MachM w' g gl tl va nl (ownS m a) ∧ KeptS (MS g gl) w w' := by
  have hto := ha.to_ (by simp [hasTo, hop])
  obtain ⟨t, ht⟩ := Int.eq_ofNat_of_zero_le hto.1
  have hws : ownS m a = if value a.e m.locals = 0 then { m with at_ := t } else { m with at_ := m.at_ + 1 } := by simp [ownS, hop, ht]
  rw [hws]
  obtain ⟨_, _, hle, _⟩ := hav.here.e
  obtain ⟨rfl, rfl, rfl⟩ : E = _ ∧ le = a.e.length ∧ ce = _ := by simpa using hle
  have hat : m.at_ ≤ 65536 := Nat.le_trans hw.at_ hw.alen
  have hst : ∀ w2, Still TA w w2 → ∀ m', MachM w2 g gl tl va nl m' → m'.locals = m.locals → Calls Tryz.prog 217 #[.slice E a.e.length ce, .slice (some ⟨gl, 0, none⟩) nl nl] w2 fun r w' => r = .returned (.int .u64 (value a.e m.locals : Nat)) ∧ Below w2.heap.size w2 w' :=
    fun w2 hs m' h2 hm => val_anyL h2 m.locals hm hw.lt hw.len a.e (hav w2 hs).e (ha.e (by simp [hasE, hop]))
  have HST := Lib.hid hst
  clear hst hle
  clear hws hw hto hav ha hop
  generalize value a.e m.locals = x at *
  generalize a.e.length = le at *
  generalize hmm : (if x = 0 then { m with at_ := t } else { m with at_ := m.at_ + 1 }) = m' at *
  have HMM := Lib.hid hmm
  clear hmm
  unfold actC zeroW
  rw [ht]
  clear ht
  have hg1 := h.blk.lt
  have hg2 := h.loc.lt
  have hgl := h.ne
  go_enter Tryz.func229, Tryz.ntmps229
  go_upto_region 1 with fail
  obtain ⟨w0, hw0⟩ : ∃ y, y = (w.alloc (.cells #[.int .i64 a.op, .int .i64 a.dst, .int .i64 a.base, .int .i64 a.size, .slice I li ci, .slice E le ce, .slice F lf cf, .int .i64 a.mode, (.int .i64 t), .int .i64 a.line, .int .i64 a.col] 58)).alloc (.cells #[.int .i64 0, .int .i64 0, .int .i64 0, .int .u64 0, .bool false, .bool false] 100) := ⟨_, rfl⟩
  have hb0 : Below w.heap.size w w0 := by rw [hw0]; exact Kit.Below.al (Kit.Below.al (Below.refl _ _) _) _
  have hA0 : Blk w0 w.heap.size 58 #[.int .i64 a.op, .int .i64 a.dst, .int .i64 a.base, .int .i64 a.size, .slice I li ci, .slice E le ce, .slice F lf cf, .int .i64 a.mode, (.int .i64 t), .int .i64 a.line, .int .i64 a.col] := by rw [hw0]; exact (Blk.new w _ _).alloc _
  have hW0 : Blk w0 (w.heap.size + 1) 100 #[.int .i64 0, .int .i64 0, .int .i64 0, .int .u64 0, .bool false, .bool false] := by rw [hw0]; exact Blk.newAt (sizeA w _) _ _
  rw [← hw0]
  clear hw0
  have hM0 := h.below hb0
  have m2 : w0.cell? ⟨g, 2, none⟩ = some (.int .i64 m.at_) := hM0.blk.cell 2
  have mf := fun i => hM0.blk.frozen i
  go_upto_region 2 with fail
  have hM1 := hM0.at_ (m.at_ + 1)
  have hS1 := (Still.below (T := TA) hb0).trans (Still.set hM0.blk nTM (o := 2) (.int .i64 ((m.at_ + 1 : Nat) : Int)))
  have hK1 : KeptS (MS g gl) w (w0.setCell ⟨g, 2, none⟩ (.int .i64 ((m.at_ + 1 : Nat) : Int))) := (KeptS.of_below hb0).set (.inl rfl) _ _
  have hA1 := hA0.farN (b := g) (o := 2) (by omega) (.int .i64 ((m.at_ + 1 : Nat) : Int))
  have hW1 := hW0.farN (b := g) (o := 2) (by omega) (.int .i64 ((m.at_ + 1 : Nat) : Int))
  rw [show ((m.at_ + 1 : Nat) : Int) = (m.at_ : Int) + 1 by push_cast; rfl] at hM1 hS1 hK1 hA1 hW1
  generalize w0.setCell ⟨g, 2, none⟩ (.int .i64 ((m.at_ : Int) + 1)) = w1 at *
  clear hM0 m2 mf hA0 hW0
  have hval : ∀ p : Cls (Below w1.heap.size w1), Hid (Calls Tryz.prog 217 #[.slice E le ce, .slice (some ⟨gl, 0, none⟩) nl nl] p.w fun e w' => e = .returned (.int .u64 x) ∧ ∃ q : Cls (Below w1.heap.size w1), w' = q.w) :=
    fun p => Calls.cls ((HST.out p.w (hS1.trans (Still.below p.h)) _ (hM1.below p.h) rfl).mono fun e w' ⟨h1, h2⟩ => ⟨h1, Kit.Below.then p.h h2⟩)
  have c5 : ∀ p : Cls (Below w1.heap.size w1), p.w.cell? ⟨w.heap.size, 5, none⟩ = some (.slice E le ce) := fun p => hA1.cls 5 p
  have cl : ∀ p : Cls (Below w1.heap.size w1), p.w.cell? ⟨g, 3, none⟩ = some (.slice (some ⟨gl, 0, none⟩) nl nl) := fun p => hM1.blk.cls 3 p
  by_cases hx : x = 0
  · subst hx
    refine wp_region_cls (Below w1.heap.size w1) (Below_drewN _ 1) (by kernel_rfl) (by kernel_rfl) ?_
    intro hne
    repeat (go_big_quiet_step ((go_at_call 217; exact (hval _).out)))
    refine wpQuiet_nil ?_
    intro w7 h7
    clear hne
    clear c5 cl hval
    have hM7 := hM1.below h7
    have hA7 := hA1.below' h7
    have hW7 := hW1.below' h7
    have hK7 := hK1.trans (KeptS.of_below h7)
    have k8 : w7.cell? ⟨w.heap.size, 8, none⟩ = some (.int .i64 t) := hA7.cell 8
    have m2 : w7.cell? ⟨g, 2, none⟩ = some (.int .i64 ((m.at_ + 1 : Nat) : Int)) := hM7.blk.cell 2
    have mf := fun i => hM7.blk.frozen i
    go_upto_region 4 with fail
    have hM8 := hM7.at_ t
    have hK8 := hK7.set (g := g) (.inl rfl) 2 (.int .i64 t)
    have hW8 := hW7.farN (b := g) (o := 2) (by omega) (.int .i64 t)
    generalize w7.setCell ⟨g, 2, none⟩ (.int .i64 t) = w8 at *
    clear k8 m2 mf
    rw [show ({ m with at_ := t } : Mch) = m' by rw [← HMM.out, if_pos rfl]] at hM8
    have hl8 := hW8.lt
    have d0 : w8.cell? ⟨w.heap.size + 1, 0, none⟩ = some (.int .i64 0) := hW8.cell 0
    have d1 : w8.cell? ⟨w.heap.size + 1, 1, none⟩ = some (.int .i64 0) := hW8.cell 1
    have d2 : w8.cell? ⟨w.heap.size + 1, 2, none⟩ = some (.int .i64 0) := hW8.cell 2
    have d3 : w8.cell? ⟨w.heap.size + 1, 3, none⟩ = some (.int .u64 0) := hW8.cell 3
    have d4 : w8.cell? ⟨w.heap.size + 1, 4, none⟩ = some (.bool false) := hW8.cell 4
    have d5 : w8.cell? ⟨w.heap.size + 1, 5, none⟩ = some (.bool false) := hW8.cell 5
    have df := fun i => hW8.frozen i
    go_wp2_with fail
    have hB9 := blk_set6 hW8 (.int .i64 0) (.int .i64 0) (.int .i64 0) (.int .u64 0) (.bool false) (.bool false)
    have hk9 := kept_set6 hK8 (Nat.le_succ _) (.int .i64 0) (.int .i64 0) (.int .i64 0) (.int .u64 0) (.bool false) (.bool false)
    have hM9 := hM8.kept (keptW_set6 (g := w.heap.size + 1) (.int .i64 0) (.int .i64 0) (.int .i64 0) (.int .u64 0) (.bool false) (.bool false)) (by omega) (by omega) (fun k hk => ⟨_, _, hk ▸ hW8, nTW⟩)
    generalize ((((((w8.setCell ⟨w.heap.size + 1, 0, none⟩ _).setCell ⟨w.heap.size + 1, 1, none⟩ _).setCell ⟨w.heap.size + 1, 2, none⟩ _).setCell ⟨w.heap.size + 1, 3, none⟩ _).setCell ⟨w.heap.size + 1, 4, none⟩ _).setCell ⟨w.heap.size + 1, 5, none⟩ _) = w9 at *
    have e0 := hB9.cell 0
    have e1 := hB9.cell 1
    have e2 := hB9.cell 2
    have e3 := hB9.cell 3
    have e4 := hB9.cell 4
    have e5 := hB9.cell 5
    simp only [List.getElem?_toArray, List.getElem?_cons_zero, List.getElem?_cons_succ] at e0 e1 e2 e3 e4 e5
    exact bodyPost_ret (v := .agg #[.int .i64 0, .int .i64 0, .int .i64 0, .int .u64 0, .bool false, .bool false]) (by simp [results, Tryz.results229, go_sem, e0, e1, e2, e3, e4, e5]) rfl ⟨rfl, hM9, hk9⟩
  · have hx2 : ((x : Int) == 0) = false := by simp; omega
    refine wp_region_cls (Below w1.heap.size w1) (Below_drewN _ 1) (by kernel_rfl) (by kernel_rfl) ?_
    intro hne
    repeat (go_big_quiet_step ((go_at_call 217; exact (hval _).out)))
    refine wpQuiet_nil ?_
    intro w8 h8
    clear hne
    clear c5 cl hval
    have hM8 := hM1.below h8
    have hW8 := hW1.below' h8
    have hK8 := hK1.trans (KeptS.of_below h8)
    rw [show ({ m with at_ := m.at_ + 1 } : Mch) = m' by rw [← HMM.out, if_neg hx]] at hM8
    have hl8 := hW8.lt
    have d0 : w8.cell? ⟨w.heap.size + 1, 0, none⟩ = some (.int .i64 0) := hW8.cell 0
    have d1 : w8.cell? ⟨w.heap.size + 1, 1, none⟩ = some (.int .i64 0) := hW8.cell 1
    have d2 : w8.cell? ⟨w.heap.size + 1, 2, none⟩ = some (.int .i64 0) := hW8.cell 2
    have d3 : w8.cell? ⟨w.heap.size + 1, 3, none⟩ = some (.int .u64 0) := hW8.cell 3
    have d4 : w8.cell? ⟨w.heap.size + 1, 4, none⟩ = some (.bool false) := hW8.cell 4
    have d5 : w8.cell? ⟨w.heap.size + 1, 5, none⟩ = some (.bool false) := hW8.cell 5
    have df := fun i => hW8.frozen i
    go_wp2_with fail
    have hB9 := blk_set6 hW8 (.int .i64 0) (.int .i64 0) (.int .i64 0) (.int .u64 0) (.bool false) (.bool false)
    have hk9 := kept_set6 hK8 (Nat.le_succ _) (.int .i64 0) (.int .i64 0) (.int .i64 0) (.int .u64 0) (.bool false) (.bool false)
    have hM9 := hM8.kept (keptW_set6 (g := w.heap.size + 1) (.int .i64 0) (.int .i64 0) (.int .i64 0) (.int .u64 0) (.bool false) (.bool false)) (by omega) (by omega) (fun k hk => ⟨_, _, hk ▸ hW8, nTW⟩)
    generalize ((((((w8.setCell ⟨w.heap.size + 1, 0, none⟩ _).setCell ⟨w.heap.size + 1, 1, none⟩ _).setCell ⟨w.heap.size + 1, 2, none⟩ _).setCell ⟨w.heap.size + 1, 3, none⟩ _).setCell ⟨w.heap.size + 1, 4, none⟩ _).setCell ⟨w.heap.size + 1, 5, none⟩ _) = w9 at *
    have e0 := hB9.cell 0
    have e1 := hB9.cell 1
    have e2 := hB9.cell 2
    have e3 := hB9.cell 3
    have e4 := hB9.cell 4
    have e5 := hB9.cell 5
    simp only [List.getElem?_toArray, List.getElem?_cons_zero, List.getElem?_cons_succ] at e0 e1 e2 e3 e4 e5
    exact bodyPost_ret (v := .agg #[.int .i64 0, .int .i64 0, .int .i64 0, .int .u64 0, .bool false, .bool false]) (by simp [results, Tryz.results229, go_sem, e0, e1, e2, e3, e4, e5]) rfl ⟨rfl, hM9, hk9⟩

set_option maxRecDepth 100000 in
set_option maxHeartbeats 4000000 in
theorem set_any {w : World} {g gl nl cells : Nat} {tl : Int} {va : Value} {m : Mch} (h : MachM w g gl tl va nl m) (hw : MchW cells nl m) {n : Nat} (a : SrcP.Act) (ha : ActWell cells nl n a) (hop : a.op = 1) {I E F : Option Addr} {li ci le ce lf cf : Nat} (hav : ActVS w (.slice I li ci) (.slice E le ce) (.slice F lf cf) a) :
    Calls Tryz.prog 222 #[.pointer (some ⟨g, 0, none⟩), .agg (actC a (.slice I li ci) (.slice E le ce) (.slice F lf cf))] w fun r w' => r = .returned (.agg zeroW) ∧ MachM w' g gl tl va nl (ownS m a) ∧ KeptS (MS g gl) w w' := by
  have hds := ha.dst (by simp [hasDst, hop])
  obtain ⟨d, hd⟩ := Int.eq_ofNat_of_zero_le hds.1
  have hdn : d < nl := by omega
  have hws : ownS m a = { m with locals := m.locals.set d (value a.e m.locals), at_ := m.at_ + 1 } := by simp [ownS, hop, hd]
  rw [hws]
  obtain ⟨_, _, hle, _⟩ := hav.here.e
  obtain ⟨rfl, rfl, rfl⟩ : E = _ ∧ le = a.e.length ∧ ce = _ := by simpa using hle
  have hat : m.at_ ≤ 65536 := Nat.le_trans hw.at_ hw.alen
  have hst : ∀ w2, Still TA w w2 → ∀ m', MachM w2 g gl tl va nl m' → m'.locals = m.locals → Calls Tryz.prog 217 #[.slice E a.e.length ce, .slice (some ⟨gl, 0, none⟩) nl nl] w2 fun r w' => r = .returned (.int .u64 (value a.e m.locals : Nat)) ∧ Below w2.heap.size w2 w' :=
    fun w2 hs m' h2 hm => val_anyL h2 m.locals hm hw.lt hw.len a.e (hav w2 hs).e (ha.e (by simp [hasE, hop]))
  have HST := Lib.hid hst
  clear hst hle
  have hdl : d < m.locals.length := by have := hw.len; omega
  have hnl24 := hw.hnl
  clear hws hw hds hav ha hop
  generalize value a.e m.locals = x at *
  generalize a.e.length = le at *
  generalize hmm : ({ m with locals := m.locals.set d x, at_ := m.at_ + 1 } : Mch) = m' at *
  have HMM := Lib.hid hmm
  clear hmm
  unfold actC zeroW
  rw [hd]
  clear hd
  have hg1 := h.blk.lt
  have hg2 := h.loc.lt
  have hgl := h.ne
  go_enter Tryz.func222, Tryz.ntmps222
  go_upto_region 1 with fail
  obtain ⟨w0, hw0⟩ : ∃ y, y = (w.alloc (.cells #[.int .i64 a.op, .int .i64 d, .int .i64 a.base, .int .i64 a.size, .slice I li ci, .slice E le ce, .slice F lf cf, .int .i64 a.mode, .int .i64 a.to, .int .i64 a.line, .int .i64 a.col] 58)).alloc (.cells #[.int .i64 0, .int .i64 0, .int .i64 0, .int .u64 0, .bool false, .bool false] 100) := ⟨_, rfl⟩
  have hb0 : Below w.heap.size w w0 := by rw [hw0]; exact Kit.Below.al (Kit.Below.al (Below.refl _ _) _) _
  have hA0 : Blk w0 w.heap.size 58 #[.int .i64 a.op, .int .i64 d, .int .i64 a.base, .int .i64 a.size, .slice I li ci, .slice E le ce, .slice F lf cf, .int .i64 a.mode, .int .i64 a.to, .int .i64 a.line, .int .i64 a.col] := by rw [hw0]; exact (Blk.new w _ _).alloc _
  have hW0 : Blk w0 (w.heap.size + 1) 100 #[.int .i64 0, .int .i64 0, .int .i64 0, .int .u64 0, .bool false, .bool false] := by rw [hw0]; exact Blk.newAt (sizeA w _) _ _
  rw [← hw0]
  clear hw0
  have hM0 := h.below hb0
  have hval : ∀ p : Cls (Below w0.heap.size w0), Hid (Calls Tryz.prog 217 #[.slice E le ce, .slice (some ⟨gl, 0, none⟩) nl nl] p.w fun e w' => e = .returned (.int .u64 x) ∧ ∃ q : Cls (Below w0.heap.size w0), w' = q.w) :=
    fun p => Calls.cls ((HST.out p.w ((Still.below hb0).trans (Still.below p.h)) _ (hM0.below p.h) rfl).mono fun e w' ⟨h1, h2⟩ => ⟨h1, Kit.Below.then p.h h2⟩)
  have c1 : ∀ p : Cls (Below w0.heap.size w0), p.w.cell? ⟨w.heap.size, 1, none⟩ = some (.int .i64 d) := fun p => hA0.cls 1 p
  have c5 : ∀ p : Cls (Below w0.heap.size w0), p.w.cell? ⟨w.heap.size, 5, none⟩ = some (.slice E le ce) := fun p => hA0.cls 5 p
  have cl : ∀ p : Cls (Below w0.heap.size w0), p.w.cell? ⟨g, 3, none⟩ = some (.slice (some ⟨gl, 0, none⟩) nl nl) := fun p => hM0.blk.cls 3 p
  have b1 : (0 : Int) ≤ (d : Int) := by omega
  have b2 : (d : Int) < (nl : Int) := by omega
  refine wp_region_cls_tail (Below w0.heap.size w0) 13 (Below_drewN _ 1) (by kernel_rfl) (by kernel_rfl) ?_
  intro hne
  simp only [List.take_succ_cons, List.take_zero, List.drop_succ_cons, List.drop_zero]
  repeat (go_big_quiet_step ((go_at_call 217; exact (hval _).out)))
  refine wpQuiet_nil ?_
  intro w7 h7
  clear hne
  clear c1 c5 cl hval
  have hM7 := hM0.below h7
  have hW7 := hW0.below' h7
  have hK7 := (KeptS.of_below (S := MS g gl) hb0).trans (KeptS.of_below h7)
  have l7 : w7.cell? ⟨gl, d, none⟩ = some (u64V m.locals[d]) := by rw [hM7.loc.cell]; simp [hdl]
  have lf7 : w7.frozen? ⟨gl, d, none⟩ = false := hM7.loc.frozen d
  unfold u64V at l7
  go_upto_region 2 with fail
  have hM6 := hM7.setL d x
  have hK6 := hK7.set (g := gl) (.inr rfl) d (u64V x)
  have hW6 := hW7.farN (b := gl) (o := d) (by omega) (u64V x)
  unfold u64V at hM6 hK6 hW6
  generalize w7.setCell ⟨gl, d, none⟩ (.int .u64 x) = w6 at *
  clear l7 lf7
  have m2 : w6.cell? ⟨g, 2, none⟩ = some (.int .i64 m.at_) := hM6.blk.cell 2
  have mf := fun i => hM6.blk.frozen i
  go_upto_region 3 with fail
  have hM8 := hM6.at_ (m.at_ + 1)
  have hK8 := hK6.set (g := g) (.inl rfl) 2 (.int .i64 ((m.at_ + 1 : Nat) : Int))
  have hW8 := hW6.farN (b := g) (o := 2) (by omega) (.int .i64 ((m.at_ + 1 : Nat) : Int))
  rw [show ((m.at_ + 1 : Nat) : Int) = (m.at_ : Int) + 1 by push_cast; rfl] at hM8 hK8 hW8
  generalize w6.setCell ⟨g, 2, none⟩ (.int .i64 ((m.at_ : Int) + 1)) = w8 at *
  rw [show ({ m with locals := m.locals.set d x, at_ := m.at_ + 1 } : Mch) = m' from HMM.out] at hM8
  clear m2 mf
  have hl8 := hW8.lt
  have d0 : w8.cell? ⟨w.heap.size + 1, 0, none⟩ = some (.int .i64 0) := hW8.cell 0
  have d1 : w8.cell? ⟨w.heap.size + 1, 1, none⟩ = some (.int .i64 0) := hW8.cell 1
  have d2 : w8.cell? ⟨w.heap.size + 1, 2, none⟩ = some (.int .i64 0) := hW8.cell 2
  have d3 : w8.cell? ⟨w.heap.size + 1, 3, none⟩ = some (.int .u64 0) := hW8.cell 3
  have d4 : w8.cell? ⟨w.heap.size + 1, 4, none⟩ = some (.bool false) := hW8.cell 4
  have d5 : w8.cell? ⟨w.heap.size + 1, 5, none⟩ = some (.bool false) := hW8.cell 5
  have df := fun i => hW8.frozen i
  go_wp2_with fail
  have hB9 := blk_set6 hW8 (.int .i64 0) (.int .i64 0) (.int .i64 0) (.int .u64 0) (.bool false) (.bool false)
  have hk9 := kept_set6 hK8 (Nat.le_succ _) (.int .i64 0) (.int .i64 0) (.int .i64 0) (.int .u64 0) (.bool false) (.bool false)
  have hM9 := hM8.kept (keptW_set6 (g := w.heap.size + 1) (.int .i64 0) (.int .i64 0) (.int .i64 0) (.int .u64 0) (.bool false) (.bool false)) (by omega) (by omega) (fun k hk => ⟨_, _, hk ▸ hW8, nTW⟩)
  generalize ((((((w8.setCell ⟨w.heap.size + 1, 0, none⟩ _).setCell ⟨w.heap.size + 1, 1, none⟩ _).setCell ⟨w.heap.size + 1, 2, none⟩ _).setCell ⟨w.heap.size + 1, 3, none⟩ _).setCell ⟨w.heap.size + 1, 4, none⟩ _).setCell ⟨w.heap.size + 1, 5, none⟩ _) = w9 at *
  have e0 := hB9.cell 0
  have e1 := hB9.cell 1
  have e2 := hB9.cell 2
  have e3 := hB9.cell 3
  have e4 := hB9.cell 4
  have e5 := hB9.cell 5
  simp only [List.getElem?_toArray, List.getElem?_cons_zero, List.getElem?_cons_succ] at e0 e1 e2 e3 e4 e5
  exact bodyPost_ret (v := .agg #[.int .i64 0, .int .i64 0, .int .i64 0, .int .u64 0, .bool false, .bool false]) (by simp [results, Tryz.results222, go_sem, e0, e1, e2, e3, e4, e5]) rfl ⟨rfl, hM9, hk9⟩
end Go.Proofs.YtmjilfamjlnigaaGreat.MchW
/- ROWS OF THE CALL's OWN, many at a time, told apart by their parts in the whole: each owns a block of its own. -/
namespace Go.Proofs.YtmjilfamjlnigaaGreat.OwnR
open Go Go.RowKit Go.Proofs.YtmjilfamjlnigaaGreat.Kit

theorem block_add (a : Addr) (n : Nat) : (a.add n).block = a.block := by unfold Addr.add; split <;> rfl
theorem own_lt {w : World} {base e size n k : Nat} {v : Value} {xs : List Value} (h : w.ownsRow base e size v n xs) (hk : v.ownBlock = some k) : k < w.heap.size := by
  rcases h.2 with ⟨rfl, _⟩ | ⟨g, cap, cur, rfl, hb, hh, _⟩
  · cases hk
  · obtain rfl : g = k := by simpa [Value.ownBlock] using hk
    rcases Nat.lt_or_ge g w.heap.size with h | h
    · exact h
    · rw [Array.getElem?_eq_none h] at hh; cases hh
theorem own_base {w : World} {base e size n k : Nat} {v : Value} {xs : List Value} (h : w.ownsRow base e size v n xs) (hk : v.ownBlock = some k) : base ≤ k := by
  rcases h.2 with ⟨rfl, _⟩ | ⟨g, cap, cur, rfl, hb, hh, _⟩
  · cases hk
  · obtain rfl : g = k := by simpa [Value.ownBlock] using hk
    exact hb
/-- A row stays, if its block does. -/
theorem own_stays {w w' : World} {base e size n : Nat} {v : Value} {xs : List Value} (h : w.ownsRow base e size v n xs) (hs : ∀ k, v.ownBlock = some k → w'.heap[k]? = w.heap[k]?) : w'.ownsRow base e size v n xs := by
  refine ⟨h.1, ?_⟩
  rcases h.2 with h2 | ⟨g, cap, cur, rfl, hb, hh, r⟩
  · exact .inl h2
  · exact .inr ⟨g, cap, cur, rfl, hb, (hs g rfl).trans hh, r⟩
theorem own_mono {w : World} {base base' e size n : Nat} {v : Value} {xs : List Value} (h : w.ownsRow base e size v n xs) (hb : base' ≤ base) : w.ownsRow base' e size v n xs := by
  refine ⟨h.1, ?_⟩
  rcases h.2 with h2 | ⟨g, cap, cur, rfl, hb2, r⟩
  · exact .inl h2
  · exact .inr ⟨g, cap, cur, rfl, Nat.le_trans hb hb2, r⟩
/-- A row of other elements lies in another block. -/
theorem own_type {w : World} {base e size n g : Nat} {t : TypeId} {cs : Array Value} {v : Value} {xs : List Value} (h : w.ownsRow base e size v n xs) (hg : Blk w g t cs) (hne : e ≠ t) : v.ownBlock ≠ some g := by
  rcases h.2 with ⟨rfl, _⟩ | ⟨g', cap, cur, rfl, _, hh, _⟩
  · simp [Value.ownBlock]
  · intro he
    obtain rfl : g' = g := by simpa [Value.ownBlock] using he
    unfold Blk at hg
    rw [hg] at hh
    injection hh with hh
    injection hh with _ ht
    exact hne ht.symm

/-- A row's elements, as the walk reads them. -/
theorem own_cells {w : World} {base e size n : Nat} {v : Value} {xs : List Value} (h : w.ownsRow base e size v n xs) (hn : 0 < n) : ∃ g cap, v = .slice (some ⟨g, 0, none⟩) n cap ∧ base ≤ g ∧ g < w.heap.size ∧ n ≤ cap ∧ (∀ o, w.frozen? ⟨g, o, none⟩ = false) ∧ ∀ j u, xs[j]? = some u → w.cell? ⟨g, j, none⟩ = some u := by
  rcases h.2 with ⟨_, h0⟩ | ⟨g, cap, cur, rfl, hb, hc, hcap, _, hsz, htake⟩
  · omega
  · refine ⟨g, cap, rfl, hb, ?_, hcap, fun o => ?_, fun j u hj => ?_⟩
    · rcases Nat.lt_or_ge g w.heap.size with h | h
      · exact h
      · rw [Array.getElem?_eq_none h] at hc; cases hc
    · unfold World.frozen?
      rw [hc]
      simp
    · rw [cell_of_row w g j cur e (0, 0) hc]
      rw [← htake, List.getElem?_take] at hj
      split at hj
      · rw [← Array.getElem?_toList]; exact hj
      · cases hj
/-- A slice value, whatever it owns. -/
theorem own_slice {w : World} {base e size n : Nat} {v : Value} {xs : List Value} (h : w.ownsRow base e size v n xs) : ∃ a c, v = .slice a n c ∧ n ≤ c := by
  rcases h.2 with ⟨rfl, rfl⟩ | ⟨g', cap, cur, rfl, _, _, hc, _⟩
  · exact ⟨none, 0, rfl, Nat.le_refl _⟩
  · exact ⟨_, _, rfl, hc⟩
/-- One cell of a row is written. -/
theorem own_set {w : World} {base e size n g cap j : Nat} {xs : List Value} (h : w.ownsRow base e size (.slice (some ⟨g, 0, none⟩) n cap) n xs) (hj : j < xs.length) (u : Value) : (w.setCell ⟨g, j, none⟩ u).ownsRow base e size (.slice (some ⟨g, 0, none⟩) n cap) n (xs.set j u) := by
  refine ⟨by rw [List.length_set]; exact h.1, ?_⟩
  rcases h.2 with ⟨h0, _⟩ | ⟨g', cap', cur, h0, hb, hh, hc, hm, hs, ht⟩
  · cases h0
  · injection h0 with h0 _ h1
    injection h0 with h0
    injection h0 with h0
    subst h0 h1
    right
    have hl := h.1
    have hlt : g < w.heap.size := by
      rcases Nat.lt_or_ge g w.heap.size with h | h
      · exact h
      · rw [Array.getElem?_eq_none h] at hh; cases hh
    have hheap : (w.setCell ⟨g, j, none⟩ u).heap[g]? = some (.cells (cur.setIfInBounds j u) e (0, 0)) := by
      have := (show Blk w g e cur from hh).set j u
      exact this
    refine ⟨g, cap, cur.setIfInBounds j u, rfl, hb, hheap, hc, hm, by simpa using hs, ?_⟩
    rw [Array.toList_setIfInBounds, ← ht, List.take_set]
end Go.Proofs.YtmjilfamjlnigaaGreat.OwnR
