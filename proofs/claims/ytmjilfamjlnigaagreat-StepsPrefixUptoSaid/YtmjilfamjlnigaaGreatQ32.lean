/- MEMORY: a play that was told, as it lies; WALKS: a program's run, told. -/
import Derived.Test.YtmjilfamjlnigaaGreatQ29
import Derived.Test.YtmjilfamjlnigaaGreatQ31
namespace Go.Proofs.YtmjilfamjlnigaaGreat.RunW
open Go Go.RowKit Go.Proofs.YtmjilfamjlnigaaGreat.Kit Go.Proofs.YtmjilfamjlnigaaGreat.SrcP Go.Proofs.YtmjilfamjlnigaaGreat.SrcW Go.Proofs.YtmjilfamjlnigaaGreat.MchW Go.Proofs.YtmjilfamjlnigaaGreat.OwnR

/-- The pairs, sorted. -/
def lePB (x y : Nat × Nat) : Bool := decide (x.1 < y.1 ∨ (x.1 = y.1 ∧ x.2 ≤ y.2))
def sortP (l : List (Nat × Nat)) : List (Nat × Nat) := l.mergeSort lePB
theorem sortP_eq {d l : List (Nat × Nat)} (hp : d.Perm l) (hs : SortedP d) : d = sortP l := by
  have h1 : (sortP l).Pairwise fun x y => lePB x y = true := List.pairwise_mergeSort (by intro a b c; simp only [lePB, decide_eq_true_eq]; omega) (by intro a b; simp only [lePB, Bool.or_eq_true, decide_eq_true_eq]; omega) l
  unfold SortedP at hs
  refine List.Perm.eq_of_pairwise (le := fun x y => x.1 < y.1 ∨ (x.1 = y.1 ∧ x.2 ≤ y.2)) ?_ hs ?_ (hp.trans (List.mergeSort_perm l lePB).symm)
  · intro a b _ _ hab hba
    have : a.1 = b.1 ∧ a.2 = b.2 := by omega
    exact Prod.ext this.1 this.2
  · exact h1.imp fun {a b} h => by simpa [lePB] using h
def toldR (r : Rn Mch) : Rn Mch := { r with rmw := sortP r.rmw }

/-- The values of a play's parts. -/
structure PV where
  ev : Value
  rf : Value
  co : Value
  rmw : Value
  cells : Value
  outs : Value
  hv : Value
  coi : List Value
  outi : List Value
def playV (nc : Int) (P : PV) (used : Nat) : Array Value := #[.int .i64 nc, P.ev, P.rf, P.co, P.rmw, nilV, nilV, nilV, P.cells, P.outs, P.hv, .int .i64 used]
/-- A play's rows, all made since block lo. -/
structure PlayW (lo : Nat) (w : World) (P : PV) (r : Rn Mch) (hl : List Bool) : Prop where
  ev : w.ownsRow lo 42 5 P.ev r.events.length (r.events.flatMap evC)
  rf : w.ownsRow lo 51 2 P.rf r.rf.length (r.rf.flatMap pairC)
  rmw : w.ownsRow lo 51 2 P.rmw r.rmw.length (r.rmw.flatMap pairC)
  co : w.ownsRow lo 25 1 P.co P.coi.length P.coi
  col : P.coi.length = r.co.length
  coi : ∀ c, w.ownsRow lo 3 1 (P.coi.getD c nilV) (r.co.getD c []).length ((r.co.getD c []).map i64V)
  cells : w.ownsRow lo 40 1 P.cells r.cells.length (r.cells.map u64V)
  outs : w.ownsRow lo 32 1 P.outs P.outi.length P.outi
  outl : P.outi.length = r.outs.length
  outi : ∀ c, w.ownsRow lo 40 1 (P.outi.getD c nilV) (r.outs.getD c []).length ((r.outs.getD c []).map u64V)
  hv : w.ownsRow lo 4 1 P.hv hl.length (hl.map Value.bool)
theorem own_mono {w : World} {lo lo' : Nat} {e : TypeId} {size n : Nat} {v : Value} {xs : List Value} (h : w.ownsRow lo e size v n xs) (hl : lo' ≤ lo) : w.ownsRow lo' e size v n xs := by
  refine ⟨h.1, ?_⟩
  rcases h.2 with h1 | ⟨g, cap, cur, hv, hb, h2⟩
  · exact .inl h1
  · exact .inr ⟨g, cap, cur, hv, Nat.le_trans hl hb, h2⟩
theorem own_below {w w' : World} {lo : Nat} {e : TypeId} {size n : Nat} {v : Value} {xs : List Value} (h : w.ownsRow lo e size v n xs) (hb : Below w.heap.size w w') : w'.ownsRow lo e size v n xs :=
  own_stays h fun k hk => hb.block k (own_lt h hk)
theorem PlayW.below {lo : Nat} {w w' : World} {P : PV} {r : Rn Mch} {hl : List Bool} (h : PlayW lo w P r hl) (hb : Below w.heap.size w w') : PlayW lo w' P r hl :=
  ⟨own_below h.ev hb, own_below h.rf hb, own_below h.rmw hb, own_below h.co hb, h.col, fun c => own_below (h.coi c) hb, own_below h.cells hb, own_below h.outs hb, h.outl, fun c => own_below (h.outi c) hb, own_below h.hv hb⟩
theorem RunW.play {K : Kd Mch} {base gr nc lo : Nat} {w : World} {who : Nat → Option Pt} {V : RV} {r : Rn Mch} (h : RunW (srcX nc) K base gr nc w who V r) (hlo : lo ≤ base) {hv : Value} {hl : List Bool} (hh : w.ownsRow lo 4 1 hv hl.length (hl.map Value.bool)) :
    PlayW lo w ⟨V.ev, V.rf, V.co, V.rmw, V.cells, V.outs, hv, V.coi, V.outi⟩ r hl :=
  ⟨own_mono (h.own .ev) hlo, own_mono (h.own .rf) hlo, own_mono (h.own .rmw) hlo, own_mono (h.own .co) hlo, h.col, fun c => own_mono (h.own (.coi c)) hlo, own_mono (h.own .cells) hlo, own_mono (h.own .outs) hlo, h.outl, fun c => own_mono (h.own (.outi c)) hlo, hh⟩
theorem play_le {M : Type} (K : Kd M) (fuel : Int) : ∀ (l : List Int) (r x : Rn M), K.play fuel l r = (x, false) → x.events.length ≤ 256
  | [], r, x, h => by
    simp only [Kd.play, Prod.mk.injEq, decide_eq_false_iff_not] at h
    obtain ⟨rfl, h⟩ := h
    omega
  | t :: l, r, x, h => by
    unfold Kd.play at h
    split at h
    · cases h
    · split at h
      · injection h with h _
        subst h
        omega
      · exact play_le K fuel l _ x h
theorem source_le {p : SrcP.Prog} {picks : List Int} {fuel : Int} {lse : Bool} {r : Rn Mch} (h : sourceS p picks fuel lse = .ok r) : r.events.length ≤ 256 := by
  unfold sourceS at h
  split at h
  · cases h
  · unfold Kd.run at h
    cases hp : (srcK lse).play fuel picks ((srcK lse).start p.cells.toNat (p.threads.map newM)) with
    | mk x b =>
      rw [hp] at h
      cases b with
      | true => cases h
      | false =>
        obtain rfl : x = r := by simpa using h
        exact play_le _ _ _ _ _ hp
theorem source_err {p : SrcP.Prog} {picks : List Int} {fuel : Int} {lse : Bool} {n : Nat} (h : sourceS p picks fuel lse = .error n) : n = 1 ∨ n = 2 := by
  unfold sourceS at h
  split at h
  · injection h with h; exact .inl h.symm
  · split at h
    · injection h with h; exact .inr h.symm
    · cases h
theorem source_whole {p : SrcP.Prog} {picks : List Int} {fuel : Int} {lse : Bool} {r : Rn Mch} (h : sourceS p picks fuel lse = .ok r) : wholeP p = true := by
  unfold sourceS at h
  split at h
  · cases h
  · rename_i h1
    cases hw : wholeP p with
    | true => rfl
    | false => exact absurd (.inr hw) h1
theorem source_ths {p : SrcP.Prog} {picks : List Int} {fuel : Int} {lse : Bool} {r : Rn Mch} (h : sourceS p picks fuel lse = .ok r) : r.ths.length = p.threads.length ∧ r.outs.length = p.threads.length := by
  unfold sourceS at h
  split at h
  · cases h
  · unfold Kd.run at h
    cases hp : (srcK lse).play fuel picks ((srcK lse).start p.cells.toNat (p.threads.map newM)) with
    | mk x b =>
      rw [hp] at h
      cases b with
      | true => cases h
      | false =>
        obtain rfl : x = r := by simpa using h
        have hg := play_grows (srcK lse) fuel picks ((srcK lse).start p.cells.toNat (p.threads.map newM))
        rw [hp, Kd.start_eq] at hg
        exact ⟨by rw [hg.ths]; simp, by rw [hg.outs]; simp⟩
/-- Cells of a block are written, one behind the other. -/
def putL (w : World) (g : Nat) : Nat → List Value → World
  | _, [] => w
  | i, v :: l => putL (w.setCell ⟨g, i, none⟩ v) g (i + 1) l
theorem putL_blk {g : Nat} {t : TypeId} (l : List Value) : ∀ (w : World) (pre suf : List Value), Blk w g t (pre ++ suf).toArray → suf.length = l.length → Blk (putL w g pre.length l) g t (pre ++ l).toArray := by
  induction l with
  | nil => intro w pre suf h hl; obtain rfl : suf = [] := List.length_eq_zero_iff.1 hl; exact h
  | cons v l ih =>
    intro w pre suf h hl
    cases suf with
    | nil => simp at hl
    | cons s suf =>
      have h1 := h.set pre.length v
      have e : ((pre ++ s :: suf).toArray).setIfInBounds pre.length v = ((pre ++ [v]) ++ suf).toArray := by
        apply Array.ext'
        simp
      rw [e] at h1
      have := ih _ (pre ++ [v]) suf h1 (by simpa using hl)
      simp only [List.length_append, List.length_singleton, List.append_assoc, List.singleton_append] at this
      exact this
theorem putL_all {g : Nat} {t : TypeId} {w : World} {cs : Array Value} (h : Blk w g t cs) (l : List Value) (hl : cs.size = l.length) : Blk (putL w g 0 l) g t l.toArray := by
  have := putL_blk l w [] cs.toList (by simpa using h) (by simpa using hl)
  simpa using this
theorem putL_kept {g : Nat} (l : List Value) : ∀ (w : World) (i : Nat), KeptS (fun k => k = g) w (putL w g i l) := by
  induction l with
  | nil => intro w i; exact KeptS.refl _ _
  | cons v l ih =>
    intro w i
    exact (KeptS.set (S := fun k => k = g) (g := g) (KeptS.refl _ w) rfl i v).trans (ih _ _)
theorem own_else {S : Nat → Prop} {w w' : World} {lo e size n g : Nat} {v : Value} {xs : List Value} {t : TypeId} {cs : Array Value} (h : w.ownsRow lo e size v n xs) (hb : Blk w g t cs) (hne : e ≠ t) (hk : KeptS S w w') (hS : ∀ k, S k → k = g) : w'.ownsRow lo e size v n xs :=
  own_stays h (fun k hk' => hk.2.2.2.2 k (own_lt h hk') (fun e' => own_type h hb hne (by rw [hk', hS k e'])))
theorem PlayW.else_ {S : Nat → Prop} {lo g : Nat} {w w' : World} {P : PV} {r : Rn Mch} {hl : List Bool} {cs : Array Value} (h : PlayW lo w P r hl) (hb : Blk w g 36 cs) (hk : KeptS S w w') (hS : ∀ k, S k → k = g) : PlayW lo w' P r hl :=
  ⟨own_else h.ev hb (by decide) hk hS, own_else h.rf hb (by decide) hk hS, own_else h.rmw hb (by decide) hk hS, own_else h.co hb (by decide) hk hS, h.col, fun c => own_else (h.coi c) hb (by decide) hk hS, own_else h.cells hb (by decide) hk hS, own_else h.outs hb (by decide) hk hS, h.outl, fun c => own_else (h.outi c) hb (by decide) hk hS, own_else h.hv hb (by decide) hk hS⟩
/-- A run, told: its parts written out. -/
def TOut2 (lo base nc : Nat) (w : World) (r : Rn Mch) (hl : List Bool) (e : Ending) (w' : World) : Prop :=
  ∃ (Ae : Option Addr) (ce : Nat) (Af : Option Addr) (cf : Nat) (Ao : Option Addr) (no co : Nat) (Am : Option Addr) (cm : Nat) (Ac : Option Addr) (cc : Nat) (Au : Option Addr) (nu cu : Nat) (Ah : Option Addr) (ch : Nat) (coi outi : List Value),
    e = .returned (.agg #[.int .i64 (nc : Int), .slice Ae r.events.length ce, .slice Af r.rf.length cf, .slice Ao no co, .slice Am r.rmw.length cm, .slice none 0 0, .slice none 0 0, .slice none 0 0, .slice Ac r.cells.length cc, .slice Au nu cu, .slice Ah hl.length ch, .int .i64 (r.used : Int)]) ∧
    PlayW lo w' ⟨.slice Ae r.events.length ce, .slice Af r.rf.length cf, .slice Ao no co, .slice Am r.rmw.length cm, .slice Ac r.cells.length cc, .slice Au nu cu, .slice Ah hl.length ch, coi, outi⟩ (toldR r) hl ∧ Below base w w'
theorem haltL_len (K : Kd Mch) (l : List (Th Mch)) : (haltL K l).length = l.length := by simp [haltL]
theorem sortP_len (l : List (Nat × Nat)) : (sortP l).length = l.length := (List.mergeSort_perm l lePB).length_eq
theorem told_any2 {K : Kd Mch} {base gr nc lo : Nat} {w : World} {who : Nat → Option Pt} {V : RV} {r : Rn Mch} (hX : MkC (srcX nc) K nc) (h : RunW (srcX nc) K base gr nc w who V r) (hok : RnOk nc r) (hev : r.events.length ≤ 1000) (hth : r.ths.length ≤ 1048576) (hlo : lo ≤ base) :
    Calls Tryz.prog 23 #[ptrV gr] w fun e w' => TOut2 lo base nc w r (haltL K r.ths) e w' := by
  have hbl := RunW.base_le h
  refine (told_any hX h hok hev hth).mono ?_
  rintro e w' ⟨who', ths, hv, d, rfl, hR, hp, hs, hm, hlen, ho, hn⟩
  obtain rfl := sortP_eq hp hs
  obtain ⟨Ae, ce, ve, _⟩ := own_slice (hR.own .ev)
  obtain ⟨Af, cf, vf, _⟩ := own_slice (hR.own .rf)
  obtain ⟨Ao, co, vo, _⟩ := own_slice (hR.own .co)
  obtain ⟨Am, cm, vm, _⟩ := own_slice (hR.own .rmw)
  obtain ⟨Ac, cc, vc, _⟩ := own_slice (hR.own .cells)
  obtain ⟨Au, cu, vu, _⟩ := own_slice (hR.own .outs)
  obtain ⟨Ah, ch, vh, _⟩ := own_slice ho
  simp only [RV.val, rowN, sortP_len] at ve vf vo vm vc vu
  have hP : PlayW lo w' ⟨V.ev, V.rf, V.co, V.rmw, V.cells, V.outs, hv, V.coi, V.outi⟩ (toldR r) (haltL K r.ths) := by
    have hh : w'.ownsRow lo 4 1 hv (haltL K r.ths).length ((haltL K r.ths).map Value.bool) := by
      rw [haltL_len]
      exact own_mono ho (Nat.le_trans hlo hbl)
    have := hR.play hlo hh
    exact ⟨this.ev, this.rf, this.rmw, this.co, this.col, this.coi, this.cells, this.outs, this.outl, this.outi, this.hv⟩
  refine ⟨Ae, ce, Af, cf, Ao, V.coi.length, co, Am, cm, Ac, cc, Au, V.outi.length, cu, Ah, ch, V.coi, V.outi, ?_, ?_, hm.belowBase h hbl⟩
  · unfold playC
    rw [ve, vf, vo, vm, vc, vu, vh, haltL_len]
  · rw [ve, vf, vo, vm, vc, vu, vh] at hP
    rw [haltL_len]
    exact hP
/-- What Source answers. -/
def SourcePost (p : SrcP.Prog) (picks : List Int) (fuel : Int) (w : World) (e : Ending) (w' : World) : Prop :=
  Below w.heap.size w w' ∧ match sourceS p picks fuel false with
    | .error n => e = .returned (.tuple #[.agg play0, .int .i64 (n : Int)])
    | .ok r => ∃ (Ae : Option Addr) (ce : Nat) (Af : Option Addr) (cf : Nat) (Ao : Option Addr) (no co : Nat) (Am : Option Addr) (cm : Nat) (Ac : Option Addr) (cc : Nat) (Au : Option Addr) (nu cu : Nat) (Ah : Option Addr) (ch : Nat) (coi outi : List Value),
      e = .returned (.tuple #[.agg #[.int .i64 (p.cells.toNat : Int), .slice Ae r.events.length ce, .slice Af r.rf.length cf, .slice Ao no co, .slice Am r.rmw.length cm, .slice none 0 0, .slice none 0 0, .slice none 0 0, .slice Ac r.cells.length cc, .slice Au nu cu, .slice Ah r.ths.length ch, .int .i64 (r.used : Int)], .int .i64 0]) ∧
      PlayW w.heap.size w' ⟨.slice Ae r.events.length ce, .slice Af r.rf.length cf, .slice Ao no co, .slice Am r.rmw.length cm, .slice Ac r.cells.length cc, .slice Au nu cu, .slice Ah r.ths.length ch, coi, outi⟩ (toldR r) (haltL (srcK false) r.ths)
set_option maxRecDepth 100000 in
set_option maxHeartbeats 0 in
theorem Source_any (p : SrcP.Prog) (hv : ProgV p) (vt : Value) (hlen : p.threads.length ≤ 1048576) (picks : List Int) (hpl : picks.length ≤ 4194304) (fuel : Int) (hfu : fuel ≤ 4194304) (w : World) (h : ThreadsAt w vt p.threads)
    (A : Option Addr) (cA : Nat) (hI : IntsAt w A picks) (hA : ∀ ad, A = some ad → ad.block < w.heap.size) :
    Calls Tryz.prog 9 #[.agg #[.int .i64 p.cells, vt], .slice A picks.length cA, .int .i64 fuel] w fun e w' => SourcePost p picks fuel w e w' := by
  have HT := Lib.hid h
  have HS : ∀ w2, Below w.heap.size w w2 → Hid (Calls Tryz.prog 22 #[.agg #[.int .i64 p.cells, vt], .slice A picks.length cA, .int .i64 fuel, .bool false] w2 fun e w' => SrcPost p picks fuel false w2 e w') :=
    fun w2 hb => Lib.hid (source_any p hv vt hlen picks hpl fuel hfu false w2 (HT.out.below hb) A cA (fun i q hq => by
      obtain ⟨ad, hA1, hc⟩ := hI i q hq
      refine ⟨ad, hA1, ?_⟩
      have hb' : (ad.add i).block = ad.block := by unfold Addr.add; split <;> rfl
      rw [World.cell?_of_block (w := w) (hb.block _ (by rw [hb']; exact hA ad hA1))]
      exact hc) (fun ad hA1 => Nat.lt_of_lt_of_le (hA ad hA1) hb.size))
  clear h hI hA
  obtain ⟨B, cB, rfl, _⟩ := HT.out
  unfold SourcePost
  unfold SrcPost at HS
  cases hS : sourceS p picks fuel false with
  | error n =>
    simp only [hS] at HS ⊢
    have hn := source_err hS
    clear hS
    go_enter Tryz.func9, Tryz.ntmps9
    go_upto_region 1 with fail
    obtain ⟨w0, hw0⟩ : ∃ y, y = (w.alloc (.cells #[.int .i64 p.cells, .slice B p.threads.length cB] 24)).alloc (.cells #[.int .i64 0, .slice none 0 0, .slice none 0 0, .slice none 0 0, .slice none 0 0, .slice none 0 0, .slice none 0 0, .slice none 0 0, .slice none 0 0, .slice none 0 0, .slice none 0 0, .int .i64 0] 36) := ⟨_, rfl⟩
    have hb0 : Below w.heap.size w w0 := by rw [hw0]; exact Kit.Below.al (Kit.Below.al (Below.refl _ _) _) _
    have hP0 : Blk w0 w.heap.size 24 #[.int .i64 p.cells, .slice B p.threads.length cB] := by rw [hw0]; exact (Blk.new w _ _).alloc _
    have hQ0 : Blk w0 (w.heap.size + 1) 36 play0 := by rw [hw0]; exact Blk.newAt (sizeA w _) _ _
    rw [← hw0]
    clear hw0
    obtain ⟨gq, hgq⟩ : ∃ y, y = w.heap.size + 1 := ⟨_, rfl⟩
    have hgw : w.heap.size ≤ gq := by omega
    rw [← hgq] at hQ0 ⊢
    clear hgq
    have k0 : w0.cell? ⟨w.heap.size, 0, none⟩ = some (.int .i64 p.cells) := hP0.cell 0
    have k1 : w0.cell? ⟨w.heap.size, 1, none⟩ = some (.slice B p.threads.length cB) := hP0.cell 1
    have HS0 := HS w0 hb0
    clear HS hP0
    rcases hn with rfl | rfl
    all_goals
      go_upto_region 2 with (go_at_call 22; refine HS0.out.mono ?_; rintro e w1 ⟨hb1, v, rfl⟩)
      clear k0 k1 HS0
      have hQ1 := hQ0.below' hb1
      have hbw1 := Kit.Below.then hb0 hb1
      have q0 : w1.cell? ⟨gq, 0, none⟩ = some (.int .i64 0) := hQ1.cell 0
      have q1 : w1.cell? ⟨gq, 1, none⟩ = some (.slice none 0 0) := hQ1.cell 1
      have q2 : w1.cell? ⟨gq, 2, none⟩ = some (.slice none 0 0) := hQ1.cell 2
      have q3 : w1.cell? ⟨gq, 3, none⟩ = some (.slice none 0 0) := hQ1.cell 3
      have q4 : w1.cell? ⟨gq, 4, none⟩ = some (.slice none 0 0) := hQ1.cell 4
      have q5 : w1.cell? ⟨gq, 5, none⟩ = some (.slice none 0 0) := hQ1.cell 5
      have q6 : w1.cell? ⟨gq, 6, none⟩ = some (.slice none 0 0) := hQ1.cell 6
      have q7 : w1.cell? ⟨gq, 7, none⟩ = some (.slice none 0 0) := hQ1.cell 7
      have q8 : w1.cell? ⟨gq, 8, none⟩ = some (.slice none 0 0) := hQ1.cell 8
      have q9 : w1.cell? ⟨gq, 9, none⟩ = some (.slice none 0 0) := hQ1.cell 9
      have q10 : w1.cell? ⟨gq, 10, none⟩ = some (.slice none 0 0) := hQ1.cell 10
      have q11 : w1.cell? ⟨gq, 11, none⟩ = some (.int .i64 0) := hQ1.cell 11
      have kf := fun i => hQ1.frozen i
      go_wp2_with fail
      clear kf q0 q1 q2 q3 q4 q5 q6 q7 q8 q9 q10 q11
      refine (show bodyPost _ _ _ _ _ (putL w1 gq 0 [.int .i64 0, .slice none 0 0, .slice none 0 0, .slice none 0 0, .slice none 0 0, .slice none 0 0, .slice none 0 0, .slice none 0 0, .slice none 0 0, .slice none 0 0, .slice none 0 0, .int .i64 0]) from ?_)
      have hQ9 := putL_all hQ1 [.int .i64 0, .slice none 0 0, .slice none 0 0, .slice none 0 0, .slice none 0 0, .slice none 0 0, .slice none 0 0, .slice none 0 0, .slice none 0 0, .slice none 0 0, .slice none 0 0, .int .i64 0] rfl
      have hk9 := putL_kept (g := gq) [.int .i64 0, .slice none 0 0, .slice none 0 0, .slice none 0 0, .slice none 0 0, .slice none 0 0, .slice none 0 0, .slice none 0 0, .slice none 0 0, .slice none 0 0, .slice none 0 0, .int .i64 0] w1 0
      generalize putL w1 gq 0 [.int .i64 0, .slice none 0 0, .slice none 0 0, .slice none 0 0, .slice none 0 0, .slice none 0 0, .slice none 0 0, .slice none 0 0, .slice none 0 0, .slice none 0 0, .slice none 0 0, .int .i64 0] = w9 at *
      have z0 : w9.cell? ⟨gq, 0, none⟩ = some (.int .i64 0) := hQ9.cell 0
      have z1 : w9.cell? ⟨gq, 1, none⟩ = some (.slice none 0 0) := hQ9.cell 1
      have z2 : w9.cell? ⟨gq, 2, none⟩ = some (.slice none 0 0) := hQ9.cell 2
      have z3 : w9.cell? ⟨gq, 3, none⟩ = some (.slice none 0 0) := hQ9.cell 3
      have z4 : w9.cell? ⟨gq, 4, none⟩ = some (.slice none 0 0) := hQ9.cell 4
      have z5 : w9.cell? ⟨gq, 5, none⟩ = some (.slice none 0 0) := hQ9.cell 5
      have z6 : w9.cell? ⟨gq, 6, none⟩ = some (.slice none 0 0) := hQ9.cell 6
      have z7 : w9.cell? ⟨gq, 7, none⟩ = some (.slice none 0 0) := hQ9.cell 7
      have z8 : w9.cell? ⟨gq, 8, none⟩ = some (.slice none 0 0) := hQ9.cell 8
      have z9 : w9.cell? ⟨gq, 9, none⟩ = some (.slice none 0 0) := hQ9.cell 9
      have z10 : w9.cell? ⟨gq, 10, none⟩ = some (.slice none 0 0) := hQ9.cell 10
      have z11 : w9.cell? ⟨gq, 11, none⟩ = some (.int .i64 0) := hQ9.cell 11
      refine bodyPost_ret (v := .tuple #[.agg #[.int .i64 0, .slice none 0 0, .slice none 0 0, .slice none 0 0, .slice none 0 0, .slice none 0 0, .slice none 0 0, .slice none 0 0, .slice none 0 0, .slice none 0 0, .slice none 0 0, .int .i64 0], .int .i64 _]) (by simp [results, Tryz.results9, go_sem, z0, z1, z2, z3, z4, z5, z6, z7, z8, z9, z10, z11]) rfl ⟨NewW.kept_below hbw1 hk9 (fun j hj => by rw [hj]; exact hgw), rfl⟩
  | ok r =>
    simp only [hS] at HS ⊢
    have hnc : p.cells.toNat ≤ 4096 := by
      have hw := source_whole hS
      simp only [wholeP, Bool.and_eq_true, decide_eq_true_eq] at hw
      omega
    have hle := source_le hS
    have hth : r.ths.length ≤ 1048576 := by have := (source_ths hS).1; omega
    have HSO := Lib.hid hS
    clear hS
    obtain ⟨nc, hncq⟩ : ∃ nc, nc = p.cells.toNat := ⟨_, rfl⟩
    simp only [← hncq] at HS hnc ⊢
    clear hncq
    go_enter Tryz.func9, Tryz.ntmps9
    go_upto_region 1 with fail
    obtain ⟨w0, hw0⟩ : ∃ y, y = (w.alloc (.cells #[.int .i64 p.cells, .slice B p.threads.length cB] 24)).alloc (.cells #[.int .i64 0, .slice none 0 0, .slice none 0 0, .slice none 0 0, .slice none 0 0, .slice none 0 0, .slice none 0 0, .slice none 0 0, .slice none 0 0, .slice none 0 0, .slice none 0 0, .int .i64 0] 36) := ⟨_, rfl⟩
    have hb0 : Below w.heap.size w w0 := by rw [hw0]; exact Kit.Below.al (Kit.Below.al (Below.refl _ _) _) _
    have hP0 : Blk w0 w.heap.size 24 #[.int .i64 p.cells, .slice B p.threads.length cB] := by rw [hw0]; exact (Blk.new w _ _).alloc _
    have hQ0 : Blk w0 (w.heap.size + 1) 36 play0 := by rw [hw0]; exact Blk.newAt (sizeA w _) _ _
    rw [← hw0]
    clear hw0
    obtain ⟨gq, hgq⟩ : ∃ y, y = w.heap.size + 1 := ⟨_, rfl⟩
    have hgw : w.heap.size ≤ gq := by omega
    rw [← hgq] at hQ0 ⊢
    clear hgq
    have k0 : w0.cell? ⟨w.heap.size, 0, none⟩ = some (.int .i64 p.cells) := hP0.cell 0
    have k1 : w0.cell? ⟨w.heap.size, 1, none⟩ = some (.slice B p.threads.length cB) := hP0.cell 1
    have HS0 := HS w0 hb0
    clear HS hP0
    go_upto_region 4 with (go_at_call 22; refine HS0.out.mono ?_; rintro e w1 ⟨hb1, base, gr, who, V, rfl, hlo, hR, hok⟩)
    clear k0 k1 HS0
    have hQ1 := hQ0.below' hb1
    have hbw1 := Kit.Below.then hb0 hb1
    have hlow : w.heap.size ≤ base := Nat.le_trans hb0.size hlo
    have HTO := Lib.hid (told_any2 (lo := w.heap.size) (srcC nc hnc false) hR hok (by omega) (by omega) hlow)
    unfold ptrV TOut2 at HTO
    rw [haltL_len] at HTO
    have hgb : gq < base := Nat.lt_of_lt_of_le hQ0.lt hlo
    clear hR hok
    go_wp2_with (go_at_call 23; refine HTO.out.mono ?_; rintro e w2 ⟨Ae, ce, Af, cf, Ao, no, co, Am, cm, Ac, cc, Au, nu, cu, Ah, ch, coi, outi, rfl, hPW, hb2⟩; have hQ2 : Blk w2 gq 36 play0 := (hb2.block gq hgb).trans hQ1; have q0 : w2.cell? ⟨gq, 0, none⟩ = some (.int .i64 0) := hQ2.cell 0; have q1 : w2.cell? ⟨gq, 1, none⟩ = some (.slice none 0 0) := hQ2.cell 1; have q2 : w2.cell? ⟨gq, 2, none⟩ = some (.slice none 0 0) := hQ2.cell 2; have q3 : w2.cell? ⟨gq, 3, none⟩ = some (.slice none 0 0) := hQ2.cell 3; have q4 : w2.cell? ⟨gq, 4, none⟩ = some (.slice none 0 0) := hQ2.cell 4; have q5 : w2.cell? ⟨gq, 5, none⟩ = some (.slice none 0 0) := hQ2.cell 5; have q6 : w2.cell? ⟨gq, 6, none⟩ = some (.slice none 0 0) := hQ2.cell 6; have q7 : w2.cell? ⟨gq, 7, none⟩ = some (.slice none 0 0) := hQ2.cell 7; have q8 : w2.cell? ⟨gq, 8, none⟩ = some (.slice none 0 0) := hQ2.cell 8; have q9 : w2.cell? ⟨gq, 9, none⟩ = some (.slice none 0 0) := hQ2.cell 9; have q10 : w2.cell? ⟨gq, 10, none⟩ = some (.slice none 0 0) := hQ2.cell 10; have q11 : w2.cell? ⟨gq, 11, none⟩ = some (.int .i64 0) := hQ2.cell 11; have kf := fun i => hQ2.frozen i)
    clear kf q0 q1 q2 q3 q4 q5 q6 q7 q8 q9 q10 q11
    have hbw2 := hbw1.trans (hb2.mono hlow)
    refine (show bodyPost _ _ _ _ _ (putL w2 gq 0 [.int .i64 (nc : Int), .slice Ae r.events.length ce, .slice Af r.rf.length cf, .slice Ao no co, .slice Am r.rmw.length cm, .slice none 0 0, .slice none 0 0, .slice none 0 0, .slice Ac r.cells.length cc, .slice Au nu cu, .slice Ah r.ths.length ch, .int .i64 (r.used : Int)]) from ?_)
    have hQ9 := putL_all hQ2 [.int .i64 (nc : Int), .slice Ae r.events.length ce, .slice Af r.rf.length cf, .slice Ao no co, .slice Am r.rmw.length cm, .slice none 0 0, .slice none 0 0, .slice none 0 0, .slice Ac r.cells.length cc, .slice Au nu cu, .slice Ah r.ths.length ch, .int .i64 (r.used : Int)] rfl
    have hk9 := putL_kept (g := gq) [.int .i64 (nc : Int), .slice Ae r.events.length ce, .slice Af r.rf.length cf, .slice Ao no co, .slice Am r.rmw.length cm, .slice none 0 0, .slice none 0 0, .slice none 0 0, .slice Ac r.cells.length cc, .slice Au nu cu, .slice Ah r.ths.length ch, .int .i64 (r.used : Int)] w2 0
    generalize putL w2 gq 0 [.int .i64 (nc : Int), .slice Ae r.events.length ce, .slice Af r.rf.length cf, .slice Ao no co, .slice Am r.rmw.length cm, .slice none 0 0, .slice none 0 0, .slice none 0 0, .slice Ac r.cells.length cc, .slice Au nu cu, .slice Ah r.ths.length ch, .int .i64 (r.used : Int)] = w9 at *
    have z0 : w9.cell? ⟨gq, 0, none⟩ = some (.int .i64 (nc : Int)) := hQ9.cell 0
    have z1 : w9.cell? ⟨gq, 1, none⟩ = some (.slice Ae r.events.length ce) := hQ9.cell 1
    have z2 : w9.cell? ⟨gq, 2, none⟩ = some (.slice Af r.rf.length cf) := hQ9.cell 2
    have z3 : w9.cell? ⟨gq, 3, none⟩ = some (.slice Ao no co) := hQ9.cell 3
    have z4 : w9.cell? ⟨gq, 4, none⟩ = some (.slice Am r.rmw.length cm) := hQ9.cell 4
    have z5 : w9.cell? ⟨gq, 5, none⟩ = some (.slice none 0 0) := hQ9.cell 5
    have z6 : w9.cell? ⟨gq, 6, none⟩ = some (.slice none 0 0) := hQ9.cell 6
    have z7 : w9.cell? ⟨gq, 7, none⟩ = some (.slice none 0 0) := hQ9.cell 7
    have z8 : w9.cell? ⟨gq, 8, none⟩ = some (.slice Ac r.cells.length cc) := hQ9.cell 8
    have z9 : w9.cell? ⟨gq, 9, none⟩ = some (.slice Au nu cu) := hQ9.cell 9
    have z10 : w9.cell? ⟨gq, 10, none⟩ = some (.slice Ah r.ths.length ch) := hQ9.cell 10
    have z11 : w9.cell? ⟨gq, 11, none⟩ = some (.int .i64 (r.used : Int)) := hQ9.cell 11
    refine bodyPost_ret (v := .tuple #[.agg #[.int .i64 (nc : Int), .slice Ae r.events.length ce, .slice Af r.rf.length cf, .slice Ao no co, .slice Am r.rmw.length cm, .slice none 0 0, .slice none 0 0, .slice none 0 0, .slice Ac r.cells.length cc, .slice Au nu cu, .slice Ah r.ths.length ch, .int .i64 (r.used : Int)], .int .i64 0]) (by simp [results, Tryz.results9, go_sem, z0, z1, z2, z3, z4, z5, z6, z7, z8, z9, z10, z11]) rfl ⟨NewW.kept_below hbw2 hk9 (fun j hj => by rw [hj]; exact hgw), Ae, ce, Af, cf, Ao, no, co, Am, cm, Ac, cc, Au, nu, cu, Ah, ch, coi, outi, rfl, hPW.else_ hQ2 hk9 (fun k hk => hk)⟩
end Go.Proofs.YtmjilfamjlnigaaGreat.RunW
