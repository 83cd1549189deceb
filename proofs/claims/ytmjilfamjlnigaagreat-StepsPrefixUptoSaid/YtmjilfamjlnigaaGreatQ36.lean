/- WALKS: of a beginning of the picks the events are a beginning: the law StepsPrefix. -/
import Derived.Test.YtmjilfamjlnigaaGreatQ34
namespace Go.Proofs.YtmjilfamjlnigaaGreat.LawW
open Go Go.RowKit Go.Proofs.YtmjilfamjlnigaaGreat.Kit Go.Proofs.YtmjilfamjlnigaaGreat.SrcP Go.Proofs.YtmjilfamjlnigaaGreat.SrcW Go.Proofs.YtmjilfamjlnigaaGreat.MchW Go.Proofs.YtmjilfamjlnigaaGreat.OwnR Go.Proofs.YtmjilfamjlnigaaGreat.NewW Go.Proofs.YtmjilfamjlnigaaGreat.RunW

/-- A play's block. -/
def playX (nc : Nat) (Q : SL) (r : Rn Mch) : Array Value := #[.int .i64 (nc : Int), .slice Q.ae r.events.length Q.ce, .slice Q.af r.rf.length Q.cf, .slice Q.ao Q.no Q.co, .slice Q.am r.rmw.length Q.cm, .slice none 0 0, .slice none 0 0, .slice none 0 0, .slice Q.ac r.cells.length Q.cc, .slice Q.au Q.nu Q.cu, .slice Q.ah r.ths.length Q.ch, .int .i64 (r.used : Int)]
/-- Some play. -/
structure SG where
  a : Int
  u : Int
  ec : Int
  s1 : Option Addr × Nat × Nat
  s2 : Option Addr × Nat × Nat
  s3 : Option Addr × Nat × Nat
  s4 : Option Addr × Nat × Nat
  s5 : Option Addr × Nat × Nat
  s6 : Option Addr × Nat × Nat
  s7 : Option Addr × Nat × Nat
  s8 : Option Addr × Nat × Nat
  s9 : Option Addr × Nat × Nat
  s10 : Option Addr × Nat × Nat
/-- Nothing is said. -/
def AnyW (_ : World) : Prop := True
theorem AnyW.below {w w' : World} (_ : AnyW w) (_ : Below w.heap.size w w') : AnyW w' := trivial
theorem AnyW.else_ {S : Nat → Prop} {w w' : World} {g : Nat} {cs : Array Value} (_ : AnyW w) (_ : Blk w g 36 cs) (_ : KeptS S w w') (_ : ∀ k, S k → k = g) : AnyW w' := trivial
def SrcAny (w : World) (e : Ending) (w' : World) : Prop := Below w.heap.size w w' ∧ ∃ Qy : SG, e = .returned (.tuple #[.agg #[.int .i64 Qy.a, .slice Qy.s1.1 Qy.s1.2.1 Qy.s1.2.2, .slice Qy.s2.1 Qy.s2.2.1 Qy.s2.2.2, .slice Qy.s3.1 Qy.s3.2.1 Qy.s3.2.2, .slice Qy.s4.1 Qy.s4.2.1 Qy.s4.2.2, .slice Qy.s5.1 Qy.s5.2.1 Qy.s5.2.2, .slice Qy.s6.1 Qy.s6.2.1 Qy.s6.2.2, .slice Qy.s7.1 Qy.s7.2.1 Qy.s7.2.2, .slice Qy.s8.1 Qy.s8.2.1 Qy.s8.2.2, .slice Qy.s9.1 Qy.s9.2.1 Qy.s9.2.2, .slice Qy.s10.1 Qy.s10.2.1 Qy.s10.2.2, .int .i64 Qy.u], .int .i64 Qy.ec]) ∧ AnyW w'
theorem source_any_ {p : SrcP.Prog} {picks : List Int} {fuel : Int} {w : World} {e : Ending} {w' : World} (h : SourcePost p picks fuel w e w') : SrcAny w e w' := by
  cases hr : sourceS p picks fuel false with
  | error n =>
    obtain ⟨hb, he⟩ := source_no hr h
    exact ⟨hb, ⟨0, 0, n, (none, 0, 0), (none, 0, 0), (none, 0, 0), (none, 0, 0), (none, 0, 0), (none, 0, 0), (none, 0, 0), (none, 0, 0), (none, 0, 0), (none, 0, 0)⟩, he, trivial⟩
  | ok r =>
    obtain ⟨hb, Q, he, _⟩ := source_ok hr h
    exact ⟨hb, ⟨p.cells.toNat, r.used, 0, (Q.ae, r.events.length, Q.ce), (Q.af, r.rf.length, Q.cf), (Q.ao, Q.no, Q.co), (Q.am, r.rmw.length, Q.cm), (none, 0, 0), (none, 0, 0), (none, 0, 0), (Q.ac, r.cells.length, Q.cc), (Q.au, Q.nu, Q.cu), (Q.ah, r.ths.length, Q.ch)⟩, he, trivial⟩
/-- Behind the second run. -/
def CutY (gx gP lx nc nth : Nat) (pc : Int) (B : Option Addr) (cB : Nat) (Qx : SL) (rx ry : Rn Mch) (w : World) (s12 s13 : Value) (wx : World) : Prop :=
  ∃ (gy ly : Nat) (Qy : SL), s12 = .pointer (some ⟨gy, 0, none⟩) ∧ s13 = .int .i64 0 ∧ Blk wx gy 36 (playX nc Qy ry) ∧ PlayQ ly wx Qy ry ∧ Blk wx gx 36 (playX nc Qx rx) ∧ PlayQ lx wx Qx rx ∧ Blk wx gP 24 #[.int .i64 pc, .slice B nth cB] ∧ Below w.heap.size w wx
def EvRel (wc : World) (ny : Nat) (mm : Nat) (s14 : Value) (wr : World) : Prop := ∃ i q : Nat, s14 = .int .i64 i ∧ i ≤ ny ∧ mm = ny - i ∧ wr = wc.drewN q
def OutRel (wc : World) (ny : Nat) (mm : Nat) (s15 : Value) (wr : World) : Prop := ∃ i : Nat, s15 = .int .i64 i ∧ i ≤ ny ∧ mm = ny - i ∧ Below wc.heap.size wc wr
def MoreRel (W : World) (picks : List Int) (o : Int) (mm : Nat) (s16 s17 : Value) (wr : World) : Prop :=
  ∃ (i : Nat) (A : Option Addr) (c : Nat), s16 = .slice A (2 * i) c ∧ s17 = .int .i64 i ∧ i ≤ picks.length ∧ mm = picks.length - i ∧ wr.ownsRow W.heap.size 3 1 (.slice A (2 * i) c) (2 * i) ((oddL o (picks.take i)).map (Value.int .i64)) ∧ Below W.heap.size W wr
theorem two_one {a b : Value} (ha : a.oneCell' = true) (hb : b.oneCell' = true) : ∀ u ∈ [a, b], u.oneCell' = true := fun u hu => by
  simp only [List.mem_cons, List.not_mem_nil, or_false] at hu
  rcases hu with rfl | rfl
  · exact ha
  · exact hb
theorem source_cells {p : SrcP.Prog} {picks : List Int} {fuel : Int} {lse : Bool} {r : Rn Mch} (h : sourceS p picks fuel lse = .ok r) : r.cells.length ≤ 4096 := by
  have hw := source_whole h
  simp only [wholeP, Bool.and_eq_true, decide_eq_true_eq] at hw
  unfold sourceS at h
  split at h
  · cases h
  · unfold Kd.run at h
    cases hp : (srcK lse).play fuel picks ((srcK lse).start p.cells.toNat (p.threads.map newM)) with
    | mk x b =>
      rw [hp] at h
      cases b with
      | true => cases h
      | false =>
        obtain rfl : x = r := by simpa using h
        have hg := (play_grows (srcK lse) fuel picks ((srcK lse).start p.cells.toNat (p.threads.map newM))).cells
        rw [hp, Kd.start_eq] at hg
        rw [hg]
        show (List.replicate p.cells.toNat 0).length ≤ 4096
        rw [List.length_replicate]
        omega
theorem own_ints2 {w : World} {lo n c : Nat} {A : Option Addr} {l : List Int} (h : w.ownsRow lo 3 1 (.slice A n c) n (l.map (Value.int .i64))) (hn : n = l.length) : IntsAt w A l := fun i x hi => by
  have hil := (List.getElem?_eq_some_iff.1 hi).1
  obtain ⟨g, hA, _, _, _, _, hc⟩ := row_at h (by omega)
  refine ⟨_, hA, ?_⟩
  rw [show Addr.add ⟨g, 0, none⟩ i = ⟨g, i, none⟩ by unfold Addr.add; split <;> simp_all]
  exact hc i _ (by rw [List.getElem?_map, hi]; rfl)
theorem own_block {w : World} {lo n c : Nat} {A : Option Addr} {xs : List Value} (h : w.ownsRow lo 3 1 (.slice A n c) n xs) : ∀ ad, A = some ad → ad.block < w.heap.size := fun ad had => by
  subst had
  exact own_lt h rfl
theorem oddL_len (o : Int) : ∀ l : List Int, (oddL o l).length = 2 * l.length
  | [] => rfl
  | t :: l => by simp [oddL, oddL_len o l]; omega
theorem oddL_snoc (o x : Int) : ∀ l : List Int, oddL o (l ++ [x]) = oddL o l ++ [o, x]
  | [] => rfl
  | t :: l => by simp [oddL, oddL_snoc o x l]
theorem PlayQ.outs_at {lo : Nat} {w : World} {Q : SL} {r : Rn Mch} (h : PlayQ lo w Q r) {t : Nat} {l : List Nat} (hl : r.outs[t]? = some l) : ∃ g A c, Q.au = some ⟨g, 0, none⟩ ∧ w.cell? ⟨g, t, none⟩ = some (.slice A l.length c) ∧ w.ownsRow lo 40 1 (.slice A l.length c) l.length (l.map u64V) := by
  have hlt := (List.getElem?_eq_some_iff.1 hl).1
  obtain ⟨A, c, h1, h2⟩ := h.outAt hl
  obtain ⟨g, hg, _, _, _, _, hc⟩ := row_at h.outsR (by rw [h.out.1]; omega)
  exact ⟨g, A, c, hg, hc t _ h1, h2⟩
/-- An event's cells. -/
theorem ev_cells {w : World} {g : Nat} {l : List Ev} (hc : ∀ (j : Nat) (u : Value), (l.flatMap evC)[j]? = some u → w.cell? ⟨g, j, none⟩ = some u) {i : Nat} {e : Ev} (hi : l[i]? = some e) :
    w.cell? ⟨g, i * 5, none⟩ = some (.int .i64 e.thread) ∧ w.cell? ⟨g, i * 5 + 1, none⟩ = some (.int .i64 e.kind) ∧ w.cell? ⟨g, i * 5 + 2, none⟩ = some (.int .i64 e.loc) ∧ w.cell? ⟨g, i * 5 + 3, none⟩ = some (.int .u64 e.val) ∧ w.cell? ⟨g, i * 5 + 4, none⟩ = some (.int .i64 e.mode) := by
  have h := fun (j : Nat) (hj : j < 5) => flat_get evC 5 (fun _ => rfl) l i j e hi hj
  exact ⟨hc _ _ (by have := h 0 (by decide); rw [Nat.add_zero] at this; rw [this]; rfl), hc _ _ (by rw [h 1 (by decide)]; rfl), hc _ _ (by rw [h 2 (by decide)]; rfl), hc _ _ (by rw [h 3 (by decide)]; rfl), hc _ _ (by rw [h 4 (by decide)]; rfl)⟩
set_option maxRecDepth 100000 in
set_option maxHeartbeats 0 in
theorem StepsPrefix_err (p : SrcP.Prog) (hv : ProgV p) (vt : Value) (hlen : p.threads.length ≤ 1048576) (picks : List Int) (hpl : picks.length ≤ 1048576) (n odd : Int) (w : World) (hth : ThreadsAt w vt p.threads) (A : Option Addr) (cA : Nat) (hcA : picks.length ≤ cA) (hI : IntsAt w A picks) (hA : ∀ ad, A = some ad → ad.block < w.heap.size) (en : Nat) (hS : sourceS p picks (picks.length : Int) false = .error en) :
    Calls Tryz.prog 3 #[.agg #[.int .i64 p.cells, vt], .slice A picks.length cA, .int .i64 n, .int .i64 odd] w fun e w' => e = .returned (.bool true) ∧ Below w.heap.size w w' := by
  have HAW := fun w => Lib.hid (awake_any w)
  have HT := Lib.hid hth
  obtain ⟨B, cB, rfl, _⟩ := hth
  obtain ⟨k, hk, hkl⟩ : ∃ k : Nat, min (max n 0) (picks.length : Int) = (k : Int) ∧ k ≤ picks.length := ⟨(min (max n 0) (picks.length : Int)).toNat, by omega, by omega⟩
  obtain ⟨nc, hnc⟩ : ∃ nc, nc = p.cells.toNat := ⟨_, rfl⟩
  have hIk : IntsAt w A (picks.take k) := fun i x hi => hI i x (by
    rw [List.getElem?_take] at hi
    split at hi
    · exact hi
    · cases hi)
  go_enter Tryz.func3, Tryz.ntmps3
  go_upto_region 3 with (go_at_call 8; refine (HAW _).out.mono ?_; rintro e w1 ⟨rfl, hb1⟩)
  have hP1 : Blk w1 w.heap.size 24 #[.int .i64 p.cells, .slice B p.threads.length cB] := (Blk.new w _ _).below' hb1
  have hbw1 : Below w.heap.size w w1 := Kit.Below.then (Kit.Below.al (Below.refl _ _) _) hb1
  have c0 : w1.cell? ⟨w.heap.size, 0, none⟩ = some (.int .i64 p.cells) := hP1.cell 0
  have c1 : w1.cell? ⟨w.heap.size, 1, none⟩ = some (.slice B p.threads.length cB) := hP1.cell 1
  clear hb1 HAW
  obtain ⟨gP, hgP⟩ : ∃ y, y = w.heap.size := ⟨_, rfl⟩
  rw [← hgP] at hP1 c0 c1 ⊢
  have HGP := Lib.hid hgP
  clear hgP
  have HNC := Lib.hid hnc
  clear hnc
  have HS1 : Hid (Calls Tryz.prog 9 #[.agg #[.int .i64 p.cells, .slice B p.threads.length cB], .slice A picks.length cA, .int .i64 (picks.length : Int)] w1 fun e w' => Below w1.heap.size w1 w' ∧ e = .returned (.tuple #[.agg #[.int .i64 0, .slice none 0 0, .slice none 0 0, .slice none 0 0, .slice none 0 0, .slice none 0 0, .slice none 0 0, .slice none 0 0, .slice none 0 0, .slice none 0 0, .slice none 0 0, .int .i64 0], .int .i64 (en : Int)])) :=
    Lib.hid ((Source_any p hv _ hlen picks (by omega) (picks.length : Int) (by omega) w1 (HT.out.below hbw1) A cA (ints_below hI hA hbw1) (fun ad h => Nat.lt_of_lt_of_le (hA ad h) hbw1.size)).mono fun e w' h => source_no hS h)
  have hen := source_err hS
  clear hS
  go_upto_region 5 with (go_at_call 9; refine HS1.out.mono ?_; rintro e w2 ⟨hb2, rfl⟩)
  clear c0 c1 HS1
  obtain ⟨w3, hw3⟩ : ∃ y, y = w2.alloc (.cells #[.int .i64 0, .slice none 0 0, .slice none 0 0, .slice none 0 0, .slice none 0 0, .slice none 0 0, .slice none 0 0, .slice none 0 0, .slice none 0 0, .slice none 0 0, .slice none 0 0, .int .i64 0] 36) := ⟨_, rfl⟩
  have hb13 : Below w1.heap.size w1 w3 := by rw [hw3]; exact Kit.Below.al hb2 _
  rw [← hw3]
  clear hw3 hb2
  have hb3 := Kit.Below.then hbw1 hb13
  have hP3 := hP1.below' hb13
  have HSy : ∀ w2, Below w3.heap.size w3 w2 → Hid (Calls Tryz.prog 9 #[.agg #[.int .i64 p.cells, .slice B p.threads.length cB], .slice A k cA, .int .i64 (picks.length : Int)] w2 fun e w' => SrcAny w2 e w') := fun w4 hb4 => by
    have hb := Kit.Below.then hb3 hb4
    have := Source_any p hv _ hlen (picks.take k) (by rw [List.length_take]; omega) (picks.length : Int) (by omega) w4 (HT.out.below hb) A cA (ints_below hIk hA hb) (fun ad h => Nat.lt_of_lt_of_le (hA ad h) hb.size)
    rw [List.length_take, Nat.min_eq_left hkl] at this
    exact Lib.hid (this.mono fun e w' h => source_any_ h)
  clear hIk
  have HK := Lib.hid hk
  clear hk hP1 hbw1 hb13
  have q0 : (0 : Int) ≤ (k : Int) := by omega
  have q1 : (k : Int) ≤ (cA : Int) := by omega
  have q2 : k ≤ cA := by omega
  have c0 : ∀ p' : Cls (Below w3.heap.size w3), p'.w.cell? ⟨gP, 0, none⟩ = some (.int .i64 p.cells) := fun p' => hP3.cls 0 p'
  have c1 : ∀ p' : Cls (Below w3.heap.size w3), p'.w.cell? ⟨gP, 1, none⟩ = some (.slice B p.threads.length cB) := fun p' => hP3.cls 1 p'
  have hbd : Below w3.heap.size w3 (World.drewN w3 1) := Below_drewN _ 1
  have hne : Nonempty (Cls (Below w3.heap.size w3)) := ⟨⟨w3, Below.refl _ _⟩⟩
  go_upto_region 5 with fail
  go_cut [12, 13] (fun s12 s13 wx => Below w.heap.size w wx)
  case first =>
    refine wp_region_float_go (fun w' => ∃ p : Cls (Below w3.heap.size w3), w' = p.w) 13 (by kernel_rfl) rfl ?_
    refine floatG_reads 8 [0, 1, 2, 3, 4] ⟨⟨_, hbd⟩, rfl⟩ rfl (by kernel_rfl) ?_
    simp only [pickL, List.map_cons, List.map_nil, List.getElem?_cons_succ, List.getElem?_cons_zero, Option.getD_some]
    repeat (go_big_quiet_step (fail))
    refine wpQuiet_nil ?_
    clear c0 c1
    generalize World.drewN w3 1 = wd at *
    refine floatG_two (i := 5) (i' := 10) (by kernel_rfl) (by decide) (by decide) rfl rfl ?_ ?_
    · go_wp2_with fail
      refine onG_mk (fun _ => ⟨⟨_, hbd⟩, rfl⟩) ?_
      refine floatG_two (i := 6) (i' := 10) (by kernel_rfl) (by decide) (by decide) rfl rfl ?_ ?_
      · have HS10 := HSy wd hbd
        go_wp2_with (go_at_call 9; refine HS10.out.mono ?_; rintro e w5 ⟨hb2, Qy, rfl, hP1⟩)
        clear HS10
        have hbd2 := Kit.Below.then hbd hb2
        refine onG_mk (fun _ => ⟨⟨_, hbd2⟩, rfl⟩) ?_
        refine floatG_reads 3 [7, 8, 9] ⟨⟨_, hbd2⟩, rfl⟩ rfl (by kernel_rfl) ?_
        simp only [pickL, List.map_cons, List.map_nil, List.getElem?_cons_succ, List.getElem?_cons_zero, Option.getD_some]
        repeat (go_big_quiet_step (fail))
        refine wpQuiet_nil ?_
        refine floatG_one (i := 10) (by kernel_rfl) (by decide) rfl ?_
        go_wp2_with fail
        have hZ : Blk (w5.alloc (.cells #[.int .i64 0, .slice none 0 0, .slice none 0 0, .slice none 0 0, .slice none 0 0, .slice none 0 0, .slice none 0 0, .slice none 0 0, .slice none 0 0, .slice none 0 0, .slice none 0 0, .int .i64 0] 36)) w5.heap.size 36 play0 := Blk.new w5 _ _
        have hb2z : Below w5.heap.size w5 (w5.alloc (.cells #[.int .i64 0, .slice none 0 0, .slice none 0 0, .slice none 0 0, .slice none 0 0, .slice none 0 0, .slice none 0 0, .slice none 0 0, .slice none 0 0, .slice none 0 0, .slice none 0 0, .int .i64 0] 36)) := Kit.Below.al (Below.refl _ _) _
        have hPz := hP1.below hb2z
        have hbz := Kit.Below.then hbd2 hb2z
        have hgy : w3.heap.size ≤ w5.heap.size := hbd2.size
        generalize w5.alloc (.cells #[.int .i64 0, .slice none 0 0, .slice none 0 0, .slice none 0 0, .slice none 0 0, .slice none 0 0, .slice none 0 0, .slice none 0 0, .slice none 0 0, .slice none 0 0, .slice none 0 0, .int .i64 0] 36) = wz at *
        clear hP1 hb2z hbd2 hb2
        generalize w5.heap.size = gy at *
        refine onG_mk (fun _ => ⟨⟨_, hbz⟩, rfl⟩) ?_
        refine floatG_one (i := 11) (by kernel_rfl) (by decide) rfl ?_
        have q0 : wz.cell? ⟨gy, 0, none⟩ = some (.int .i64 0) := hZ.cell 0
        have q1 : wz.cell? ⟨gy, 1, none⟩ = some (.slice none 0 0) := hZ.cell 1
        have q2 : wz.cell? ⟨gy, 2, none⟩ = some (.slice none 0 0) := hZ.cell 2
        have q3 : wz.cell? ⟨gy, 3, none⟩ = some (.slice none 0 0) := hZ.cell 3
        have q4 : wz.cell? ⟨gy, 4, none⟩ = some (.slice none 0 0) := hZ.cell 4
        have q5 : wz.cell? ⟨gy, 5, none⟩ = some (.slice none 0 0) := hZ.cell 5
        have q6 : wz.cell? ⟨gy, 6, none⟩ = some (.slice none 0 0) := hZ.cell 6
        have q7 : wz.cell? ⟨gy, 7, none⟩ = some (.slice none 0 0) := hZ.cell 7
        have q8 : wz.cell? ⟨gy, 8, none⟩ = some (.slice none 0 0) := hZ.cell 8
        have q9 : wz.cell? ⟨gy, 9, none⟩ = some (.slice none 0 0) := hZ.cell 9
        have q10 : wz.cell? ⟨gy, 10, none⟩ = some (.slice none 0 0) := hZ.cell 10
        have q11 : wz.cell? ⟨gy, 11, none⟩ = some (.int .i64 0) := hZ.cell 11
        have kf := fun i => hZ.frozen i
        go_wp2_with fail
        clear kf q0 q1 q2 q3 q4 q5 q6 q7 q8 q9 q10 q11
        refine (show onG _ _ _ _ _ (putL wz gy 0 [.int .i64 Qy.a, .slice Qy.s1.1 Qy.s1.2.1 Qy.s1.2.2, .slice Qy.s2.1 Qy.s2.2.1 Qy.s2.2.2, .slice Qy.s3.1 Qy.s3.2.1 Qy.s3.2.2, .slice Qy.s4.1 Qy.s4.2.1 Qy.s4.2.2, .slice Qy.s5.1 Qy.s5.2.1 Qy.s5.2.2, .slice Qy.s6.1 Qy.s6.2.1 Qy.s6.2.2, .slice Qy.s7.1 Qy.s7.2.1 Qy.s7.2.2, .slice Qy.s8.1 Qy.s8.2.1 Qy.s8.2.2, .slice Qy.s9.1 Qy.s9.2.1 Qy.s9.2.2, .slice Qy.s10.1 Qy.s10.2.1 Qy.s10.2.2, .int .i64 Qy.u]) from ?_)
        have hY := putL_all hZ [.int .i64 Qy.a, .slice Qy.s1.1 Qy.s1.2.1 Qy.s1.2.2, .slice Qy.s2.1 Qy.s2.2.1 Qy.s2.2.2, .slice Qy.s3.1 Qy.s3.2.1 Qy.s3.2.2, .slice Qy.s4.1 Qy.s4.2.1 Qy.s4.2.2, .slice Qy.s5.1 Qy.s5.2.1 Qy.s5.2.2, .slice Qy.s6.1 Qy.s6.2.1 Qy.s6.2.2, .slice Qy.s7.1 Qy.s7.2.1 Qy.s7.2.2, .slice Qy.s8.1 Qy.s8.2.1 Qy.s8.2.2, .slice Qy.s9.1 Qy.s9.2.1 Qy.s9.2.2, .slice Qy.s10.1 Qy.s10.2.1 Qy.s10.2.2, .int .i64 Qy.u] rfl
        have hky := putL_kept (g := gy) [.int .i64 Qy.a, .slice Qy.s1.1 Qy.s1.2.1 Qy.s1.2.2, .slice Qy.s2.1 Qy.s2.2.1 Qy.s2.2.2, .slice Qy.s3.1 Qy.s3.2.1 Qy.s3.2.2, .slice Qy.s4.1 Qy.s4.2.1 Qy.s4.2.2, .slice Qy.s5.1 Qy.s5.2.1 Qy.s5.2.2, .slice Qy.s6.1 Qy.s6.2.1 Qy.s6.2.2, .slice Qy.s7.1 Qy.s7.2.1 Qy.s7.2.2, .slice Qy.s8.1 Qy.s8.2.1 Qy.s8.2.2, .slice Qy.s9.1 Qy.s9.2.1 Qy.s9.2.2, .slice Qy.s10.1 Qy.s10.2.1 Qy.s10.2.2, .int .i64 Qy.u] wz 0
        have hPy := hPz.else_ hZ hky (fun k hk => hk)
        have hby := NewW.kept_below hbz hky (fun j hj => by rw [hj]; exact hgy)
        generalize putL wz gy 0 [.int .i64 Qy.a, .slice Qy.s1.1 Qy.s1.2.1 Qy.s1.2.2, .slice Qy.s2.1 Qy.s2.2.1 Qy.s2.2.2, .slice Qy.s3.1 Qy.s3.2.1 Qy.s3.2.2, .slice Qy.s4.1 Qy.s4.2.1 Qy.s4.2.2, .slice Qy.s5.1 Qy.s5.2.1 Qy.s5.2.2, .slice Qy.s6.1 Qy.s6.2.1 Qy.s6.2.2, .slice Qy.s7.1 Qy.s7.2.1 Qy.s7.2.2, .slice Qy.s8.1 Qy.s8.2.1 Qy.s8.2.2, .slice Qy.s9.1 Qy.s9.2.1 Qy.s9.2.2, .slice Qy.s10.1 Qy.s10.2.1 Qy.s10.2.2, .int .i64 Qy.u] = w4 at *
        clear hZ hPz hky hbz
        refine onG_mk (fun _ => ⟨⟨_, hby⟩, rfl⟩) ?_
        refine floatG_one (i := 12) (by kernel_rfl) (by decide) rfl ?_
        go_wp2_with fail
        refine onG_mk (fun _ => ⟨⟨_, hby⟩, rfl⟩) ?_
        refine (show tailG _ _ _ _ _ _ _ from ⟨by kernel_rfl, ?_⟩)
        simp only [List.drop_succ_cons, List.drop_nil]
        go_wp2_with fail
        go_meet
        exact Kit.Below.then hb3 hby
      · skip
        go_wp2_with fail
        have hZ0 : Blk (wd.alloc (.cells #[.int .i64 0, .slice none 0 0, .slice none 0 0, .slice none 0 0, .slice none 0 0, .slice none 0 0, .slice none 0 0, .slice none 0 0, .slice none 0 0, .slice none 0 0, .slice none 0 0, .int .i64 0] 36)) wd.heap.size 36 play0 := Blk.new wd _ _
        have hb0 : Below w3.heap.size w3 (wd.alloc (.cells #[.int .i64 0, .slice none 0 0, .slice none 0 0, .slice none 0 0, .slice none 0 0, .slice none 0 0, .slice none 0 0, .slice none 0 0, .slice none 0 0, .slice none 0 0, .slice none 0 0, .int .i64 0] 36)) := Kit.Below.al hbd _
        have hgy : w3.heap.size ≤ wd.heap.size := hbd.size
        generalize wd.alloc (.cells #[.int .i64 0, .slice none 0 0, .slice none 0 0, .slice none 0 0, .slice none 0 0, .slice none 0 0, .slice none 0 0, .slice none 0 0, .slice none 0 0, .slice none 0 0, .slice none 0 0, .int .i64 0] 36) = wa at *
        generalize wd.heap.size = gy at *
        refine onG_mk (fun _ => ⟨⟨_, hb0⟩, rfl⟩) ?_
        refine floatG_one (i := 6) (by kernel_rfl) (by decide) rfl ?_
        have HS10 := HSy wa hb0
        go_wp2_with (go_at_call 9; refine HS10.out.mono ?_; rintro e wz ⟨hb2, Qy, rfl, hPz⟩)
        clear HS10
        have hZ := hZ0.below' hb2
        have hbz := Kit.Below.then hb0 hb2
        clear hZ0 hb0 hb2
        refine onG_mk (fun _ => ⟨⟨_, hbz⟩, rfl⟩) ?_
        refine floatG_reads 2 [7, 8, 9] ⟨⟨_, hbz⟩, rfl⟩ rfl (by kernel_rfl) ?_
        simp only [pickL, List.map_cons, List.map_nil, List.getElem?_cons_succ, List.getElem?_cons_zero, Option.getD_some]
        repeat (go_big_quiet_step (fail))
        refine wpQuiet_nil ?_
        refine floatG_one (i := 11) (by kernel_rfl) (by decide) rfl ?_
        have q0 : wz.cell? ⟨gy, 0, none⟩ = some (.int .i64 0) := hZ.cell 0
        have q1 : wz.cell? ⟨gy, 1, none⟩ = some (.slice none 0 0) := hZ.cell 1
        have q2 : wz.cell? ⟨gy, 2, none⟩ = some (.slice none 0 0) := hZ.cell 2
        have q3 : wz.cell? ⟨gy, 3, none⟩ = some (.slice none 0 0) := hZ.cell 3
        have q4 : wz.cell? ⟨gy, 4, none⟩ = some (.slice none 0 0) := hZ.cell 4
        have q5 : wz.cell? ⟨gy, 5, none⟩ = some (.slice none 0 0) := hZ.cell 5
        have q6 : wz.cell? ⟨gy, 6, none⟩ = some (.slice none 0 0) := hZ.cell 6
        have q7 : wz.cell? ⟨gy, 7, none⟩ = some (.slice none 0 0) := hZ.cell 7
        have q8 : wz.cell? ⟨gy, 8, none⟩ = some (.slice none 0 0) := hZ.cell 8
        have q9 : wz.cell? ⟨gy, 9, none⟩ = some (.slice none 0 0) := hZ.cell 9
        have q10 : wz.cell? ⟨gy, 10, none⟩ = some (.slice none 0 0) := hZ.cell 10
        have q11 : wz.cell? ⟨gy, 11, none⟩ = some (.int .i64 0) := hZ.cell 11
        have kf := fun i => hZ.frozen i
        go_wp2_with fail
        clear kf q0 q1 q2 q3 q4 q5 q6 q7 q8 q9 q10 q11
        refine (show onG _ _ _ _ _ (putL wz gy 0 [.int .i64 Qy.a, .slice Qy.s1.1 Qy.s1.2.1 Qy.s1.2.2, .slice Qy.s2.1 Qy.s2.2.1 Qy.s2.2.2, .slice Qy.s3.1 Qy.s3.2.1 Qy.s3.2.2, .slice Qy.s4.1 Qy.s4.2.1 Qy.s4.2.2, .slice Qy.s5.1 Qy.s5.2.1 Qy.s5.2.2, .slice Qy.s6.1 Qy.s6.2.1 Qy.s6.2.2, .slice Qy.s7.1 Qy.s7.2.1 Qy.s7.2.2, .slice Qy.s8.1 Qy.s8.2.1 Qy.s8.2.2, .slice Qy.s9.1 Qy.s9.2.1 Qy.s9.2.2, .slice Qy.s10.1 Qy.s10.2.1 Qy.s10.2.2, .int .i64 Qy.u]) from ?_)
        have hY := putL_all hZ [.int .i64 Qy.a, .slice Qy.s1.1 Qy.s1.2.1 Qy.s1.2.2, .slice Qy.s2.1 Qy.s2.2.1 Qy.s2.2.2, .slice Qy.s3.1 Qy.s3.2.1 Qy.s3.2.2, .slice Qy.s4.1 Qy.s4.2.1 Qy.s4.2.2, .slice Qy.s5.1 Qy.s5.2.1 Qy.s5.2.2, .slice Qy.s6.1 Qy.s6.2.1 Qy.s6.2.2, .slice Qy.s7.1 Qy.s7.2.1 Qy.s7.2.2, .slice Qy.s8.1 Qy.s8.2.1 Qy.s8.2.2, .slice Qy.s9.1 Qy.s9.2.1 Qy.s9.2.2, .slice Qy.s10.1 Qy.s10.2.1 Qy.s10.2.2, .int .i64 Qy.u] rfl
        have hky := putL_kept (g := gy) [.int .i64 Qy.a, .slice Qy.s1.1 Qy.s1.2.1 Qy.s1.2.2, .slice Qy.s2.1 Qy.s2.2.1 Qy.s2.2.2, .slice Qy.s3.1 Qy.s3.2.1 Qy.s3.2.2, .slice Qy.s4.1 Qy.s4.2.1 Qy.s4.2.2, .slice Qy.s5.1 Qy.s5.2.1 Qy.s5.2.2, .slice Qy.s6.1 Qy.s6.2.1 Qy.s6.2.2, .slice Qy.s7.1 Qy.s7.2.1 Qy.s7.2.2, .slice Qy.s8.1 Qy.s8.2.1 Qy.s8.2.2, .slice Qy.s9.1 Qy.s9.2.1 Qy.s9.2.2, .slice Qy.s10.1 Qy.s10.2.1 Qy.s10.2.2, .int .i64 Qy.u] wz 0
        have hPy := hPz.else_ hZ hky (fun k hk => hk)
        have hby := NewW.kept_below hbz hky (fun j hj => by rw [hj]; exact hgy)
        generalize putL wz gy 0 [.int .i64 Qy.a, .slice Qy.s1.1 Qy.s1.2.1 Qy.s1.2.2, .slice Qy.s2.1 Qy.s2.2.1 Qy.s2.2.2, .slice Qy.s3.1 Qy.s3.2.1 Qy.s3.2.2, .slice Qy.s4.1 Qy.s4.2.1 Qy.s4.2.2, .slice Qy.s5.1 Qy.s5.2.1 Qy.s5.2.2, .slice Qy.s6.1 Qy.s6.2.1 Qy.s6.2.2, .slice Qy.s7.1 Qy.s7.2.1 Qy.s7.2.2, .slice Qy.s8.1 Qy.s8.2.1 Qy.s8.2.2, .slice Qy.s9.1 Qy.s9.2.1 Qy.s9.2.2, .slice Qy.s10.1 Qy.s10.2.1 Qy.s10.2.2, .int .i64 Qy.u] = w4 at *
        clear hZ hPz hky hbz
        refine onG_mk (fun _ => ⟨⟨_, hby⟩, rfl⟩) ?_
        refine floatG_one (i := 12) (by kernel_rfl) (by decide) rfl ?_
        go_wp2_with fail
        refine onG_mk (fun _ => ⟨⟨_, hby⟩, rfl⟩) ?_
        refine (show tailG _ _ _ _ _ _ _ from ⟨by kernel_rfl, ?_⟩)
        simp only [List.drop_succ_cons, List.drop_nil]
        go_wp2_with fail
        go_meet
        exact Kit.Below.then hb3 hby
    · skip
      go_wp2_with fail
      have hZ0 : Blk (wd.alloc (.cells #[.int .i64 0, .slice none 0 0, .slice none 0 0, .slice none 0 0, .slice none 0 0, .slice none 0 0, .slice none 0 0, .slice none 0 0, .slice none 0 0, .slice none 0 0, .slice none 0 0, .int .i64 0] 36)) wd.heap.size 36 play0 := Blk.new wd _ _
      have hb0 : Below w3.heap.size w3 (wd.alloc (.cells #[.int .i64 0, .slice none 0 0, .slice none 0 0, .slice none 0 0, .slice none 0 0, .slice none 0 0, .slice none 0 0, .slice none 0 0, .slice none 0 0, .slice none 0 0, .slice none 0 0, .int .i64 0] 36)) := Kit.Below.al hbd _
      have hgy : w3.heap.size ≤ wd.heap.size := hbd.size
      generalize wd.alloc (.cells #[.int .i64 0, .slice none 0 0, .slice none 0 0, .slice none 0 0, .slice none 0 0, .slice none 0 0, .slice none 0 0, .slice none 0 0, .slice none 0 0, .slice none 0 0, .slice none 0 0, .int .i64 0] 36) = wa at *
      generalize wd.heap.size = gy at *
      refine onG_mk (fun _ => ⟨⟨_, hb0⟩, rfl⟩) ?_
      refine floatG_one (i := 5) (by kernel_rfl) (by decide) rfl ?_
      go_wp2_with fail
      refine onG_mk (fun _ => ⟨⟨_, hb0⟩, rfl⟩) ?_
      refine floatG_one (i := 6) (by kernel_rfl) (by decide) rfl ?_
      have HS10 := HSy wa hb0
      go_wp2_with (go_at_call 9; refine HS10.out.mono ?_; rintro e wz ⟨hb2, Qy, rfl, hPz⟩)
      clear HS10
      have hZ := hZ0.below' hb2
      have hbz := Kit.Below.then hb0 hb2
      clear hZ0 hb0 hb2
      refine onG_mk (fun _ => ⟨⟨_, hbz⟩, rfl⟩) ?_
      refine floatG_reads 2 [7, 8, 9] ⟨⟨_, hbz⟩, rfl⟩ rfl (by kernel_rfl) ?_
      simp only [pickL, List.map_cons, List.map_nil, List.getElem?_cons_succ, List.getElem?_cons_zero, Option.getD_some]
      repeat (go_big_quiet_step (fail))
      refine wpQuiet_nil ?_
      refine floatG_one (i := 11) (by kernel_rfl) (by decide) rfl ?_
      have q0 : wz.cell? ⟨gy, 0, none⟩ = some (.int .i64 0) := hZ.cell 0
      have q1 : wz.cell? ⟨gy, 1, none⟩ = some (.slice none 0 0) := hZ.cell 1
      have q2 : wz.cell? ⟨gy, 2, none⟩ = some (.slice none 0 0) := hZ.cell 2
      have q3 : wz.cell? ⟨gy, 3, none⟩ = some (.slice none 0 0) := hZ.cell 3
      have q4 : wz.cell? ⟨gy, 4, none⟩ = some (.slice none 0 0) := hZ.cell 4
      have q5 : wz.cell? ⟨gy, 5, none⟩ = some (.slice none 0 0) := hZ.cell 5
      have q6 : wz.cell? ⟨gy, 6, none⟩ = some (.slice none 0 0) := hZ.cell 6
      have q7 : wz.cell? ⟨gy, 7, none⟩ = some (.slice none 0 0) := hZ.cell 7
      have q8 : wz.cell? ⟨gy, 8, none⟩ = some (.slice none 0 0) := hZ.cell 8
      have q9 : wz.cell? ⟨gy, 9, none⟩ = some (.slice none 0 0) := hZ.cell 9
      have q10 : wz.cell? ⟨gy, 10, none⟩ = some (.slice none 0 0) := hZ.cell 10
      have q11 : wz.cell? ⟨gy, 11, none⟩ = some (.int .i64 0) := hZ.cell 11
      have kf := fun i => hZ.frozen i
      go_wp2_with fail
      clear kf q0 q1 q2 q3 q4 q5 q6 q7 q8 q9 q10 q11
      refine (show onG _ _ _ _ _ (putL wz gy 0 [.int .i64 Qy.a, .slice Qy.s1.1 Qy.s1.2.1 Qy.s1.2.2, .slice Qy.s2.1 Qy.s2.2.1 Qy.s2.2.2, .slice Qy.s3.1 Qy.s3.2.1 Qy.s3.2.2, .slice Qy.s4.1 Qy.s4.2.1 Qy.s4.2.2, .slice Qy.s5.1 Qy.s5.2.1 Qy.s5.2.2, .slice Qy.s6.1 Qy.s6.2.1 Qy.s6.2.2, .slice Qy.s7.1 Qy.s7.2.1 Qy.s7.2.2, .slice Qy.s8.1 Qy.s8.2.1 Qy.s8.2.2, .slice Qy.s9.1 Qy.s9.2.1 Qy.s9.2.2, .slice Qy.s10.1 Qy.s10.2.1 Qy.s10.2.2, .int .i64 Qy.u]) from ?_)
      have hY := putL_all hZ [.int .i64 Qy.a, .slice Qy.s1.1 Qy.s1.2.1 Qy.s1.2.2, .slice Qy.s2.1 Qy.s2.2.1 Qy.s2.2.2, .slice Qy.s3.1 Qy.s3.2.1 Qy.s3.2.2, .slice Qy.s4.1 Qy.s4.2.1 Qy.s4.2.2, .slice Qy.s5.1 Qy.s5.2.1 Qy.s5.2.2, .slice Qy.s6.1 Qy.s6.2.1 Qy.s6.2.2, .slice Qy.s7.1 Qy.s7.2.1 Qy.s7.2.2, .slice Qy.s8.1 Qy.s8.2.1 Qy.s8.2.2, .slice Qy.s9.1 Qy.s9.2.1 Qy.s9.2.2, .slice Qy.s10.1 Qy.s10.2.1 Qy.s10.2.2, .int .i64 Qy.u] rfl
      have hky := putL_kept (g := gy) [.int .i64 Qy.a, .slice Qy.s1.1 Qy.s1.2.1 Qy.s1.2.2, .slice Qy.s2.1 Qy.s2.2.1 Qy.s2.2.2, .slice Qy.s3.1 Qy.s3.2.1 Qy.s3.2.2, .slice Qy.s4.1 Qy.s4.2.1 Qy.s4.2.2, .slice Qy.s5.1 Qy.s5.2.1 Qy.s5.2.2, .slice Qy.s6.1 Qy.s6.2.1 Qy.s6.2.2, .slice Qy.s7.1 Qy.s7.2.1 Qy.s7.2.2, .slice Qy.s8.1 Qy.s8.2.1 Qy.s8.2.2, .slice Qy.s9.1 Qy.s9.2.1 Qy.s9.2.2, .slice Qy.s10.1 Qy.s10.2.1 Qy.s10.2.2, .int .i64 Qy.u] wz 0
      have hPy := hPz.else_ hZ hky (fun k hk => hk)
      have hby := NewW.kept_below hbz hky (fun j hj => by rw [hj]; exact hgy)
      generalize putL wz gy 0 [.int .i64 Qy.a, .slice Qy.s1.1 Qy.s1.2.1 Qy.s1.2.2, .slice Qy.s2.1 Qy.s2.2.1 Qy.s2.2.2, .slice Qy.s3.1 Qy.s3.2.1 Qy.s3.2.2, .slice Qy.s4.1 Qy.s4.2.1 Qy.s4.2.2, .slice Qy.s5.1 Qy.s5.2.1 Qy.s5.2.2, .slice Qy.s6.1 Qy.s6.2.1 Qy.s6.2.2, .slice Qy.s7.1 Qy.s7.2.1 Qy.s7.2.2, .slice Qy.s8.1 Qy.s8.2.1 Qy.s8.2.2, .slice Qy.s9.1 Qy.s9.2.1 Qy.s9.2.2, .slice Qy.s10.1 Qy.s10.2.1 Qy.s10.2.2, .int .i64 Qy.u] = w4 at *
      clear hZ hPz hky hbz
      refine onG_mk (fun _ => ⟨⟨_, hby⟩, rfl⟩) ?_
      refine floatG_one (i := 12) (by kernel_rfl) (by decide) rfl ?_
      go_wp2_with fail
      refine onG_mk (fun _ => ⟨⟨_, hby⟩, rfl⟩) ?_
      refine (show tailG _ _ _ _ _ _ _ from ⟨by kernel_rfl, ?_⟩)
      simp only [List.drop_succ_cons, List.drop_nil]
      go_wp2_with fail
      go_meet
      exact Kit.Below.then hb3 hby
  case rest =>
    rcases hen with rfl | rfl
    all_goals
      go_wp2_with fail
      go_ret
      exact ⟨rfl, hcut⟩
end Go.Proofs.YtmjilfamjlnigaaGreat.LawW
