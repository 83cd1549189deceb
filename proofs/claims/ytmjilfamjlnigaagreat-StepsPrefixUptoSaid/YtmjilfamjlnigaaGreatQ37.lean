/- WALKS: the law StepsPrefix, where the run comes to its end. -/
import Derived.Test.YtmjilfamjlnigaaGreatQ36
namespace Go.Proofs.YtmjilfamjlnigaaGreat.LawW
open Go Go.RowKit Go.Proofs.YtmjilfamjlnigaaGreat.Kit Go.Proofs.YtmjilfamjlnigaaGreat.SrcP Go.Proofs.YtmjilfamjlnigaaGreat.SrcW Go.Proofs.YtmjilfamjlnigaaGreat.MchW Go.Proofs.YtmjilfamjlnigaaGreat.OwnR Go.Proofs.YtmjilfamjlnigaaGreat.NewW Go.Proofs.YtmjilfamjlnigaaGreat.RunW

set_option maxRecDepth 100000 in
set_option maxHeartbeats 0 in
theorem StepsPrefix_ok (p : SrcP.Prog) (hv : ProgV p) (vt : Value) (hlen : p.threads.length ≤ 1048576) (picks : List Int) (hpl : picks.length ≤ 1048576) (n odd : Int) (w : World) (hth : ThreadsAt w vt p.threads) (A : Option Addr) (cA : Nat) (hcA : picks.length ≤ cA) (hI : IntsAt w A picks) (hA : ∀ ad, A = some ad → ad.block < w.heap.size) (rx : Rn Mch) (hS : sourceS p picks (picks.length : Int) false = .ok rx) :
    Calls Tryz.prog 3 #[.agg #[.int .i64 p.cells, vt], .slice A picks.length cA, .int .i64 n, .int .i64 odd] w fun e w' => e = .returned (.bool true) ∧ Below w.heap.size w w' := by
  have HAW := fun w => Lib.hid (awake_any w)
  have HT := Lib.hid hth
  obtain ⟨B, cB, rfl, _⟩ := hth
  obtain ⟨k, hk, hkl⟩ : ∃ k : Nat, min (max n 0) (picks.length : Int) = (k : Int) ∧ k ≤ picks.length := ⟨(min (max n 0) (picks.length : Int)).toNat, by omega, by omega⟩
  obtain ⟨nc, hnc⟩ : ∃ nc, nc = p.cells.toNat := ⟨_, rfl⟩
  have hIk : IntsAt w A (picks.take k) := fun i x hi => hI i x (by
    rw [List.getElem?_take] at hi
    split at hi
    · exact hi
    · cases hi)
  go_enter Tryz.func3, Tryz.ntmps3
  go_upto_region 3 with (go_at_call 8; refine (HAW _).out.mono ?_; rintro e w1 ⟨rfl, hb1⟩)
  have hP1 : Blk w1 w.heap.size 24 #[.int .i64 p.cells, .slice B p.threads.length cB] := (Blk.new w _ _).below' hb1
  have hbw1 : Below w.heap.size w w1 := Kit.Below.then (Kit.Below.al (Below.refl _ _) _) hb1
  have c0 : w1.cell? ⟨w.heap.size, 0, none⟩ = some (.int .i64 p.cells) := hP1.cell 0
  have c1 : w1.cell? ⟨w.heap.size, 1, none⟩ = some (.slice B p.threads.length cB) := hP1.cell 1
  clear hb1 HAW
  obtain ⟨gP, hgP⟩ : ∃ y, y = w.heap.size := ⟨_, rfl⟩
  rw [← hgP] at hP1 c0 c1 ⊢
  have HGP := Lib.hid hgP
  clear hgP
  have HNC := Lib.hid hnc
  clear hnc
  have HSok : ∀ (pk : List Int) (r : Rn Mch), sourceS p pk (picks.length : Int) false = .ok r → pk.length ≤ 4194304 → ∀ (w2 : World) (Ap : Option Addr) (cAp : Nat), Below w.heap.size w w2 → IntsAt w2 Ap pk → (∀ ad, Ap = some ad → ad.block < w2.heap.size) → Hid (Calls Tryz.prog 9 #[.agg #[.int .i64 p.cells, .slice B p.threads.length cB], .slice Ap pk.length cAp, .int .i64 (picks.length : Int)] w2 fun e w' => SrcOk nc r w2 e w') :=
    fun pk r hr hpk w2 Ap cAp hb2 hI2 hA2 => Lib.hid (by
      refine (Source_any p hv _ hlen pk hpk (picks.length : Int) (by omega) w2 (HT.out.below hb2) Ap cAp hI2 hA2).mono fun e w' h => ?_
      rw [HNC.out]
      exact source_ok hr h)
  have HS1 := HSok picks rx hS (by omega) w1 A cA hbw1 (ints_below hI hA hbw1) (fun ad h => Nat.lt_of_lt_of_le (hA ad h) hbw1.size)
  obtain ⟨ry, hSy, hgr⟩ := source_take hS k
  have h256 := source_le hSy
  have HGR := Lib.hid hgr
  have HX := Lib.hid hS
  clear hS hgr
  go_upto_region 5 with (go_at_call 9; refine HS1.out.mono ?_; rintro e w2 ⟨hb2, Qx, rfl, hPx⟩)
  clear c0 c1 HS1
  obtain ⟨w3, hw3⟩ : ∃ y, y = w2.alloc (.cells #[.int .i64 (nc : Int), .slice Qx.ae rx.events.length Qx.ce, .slice Qx.af rx.rf.length Qx.cf, .slice Qx.ao Qx.no Qx.co, .slice Qx.am rx.rmw.length Qx.cm, .slice none 0 0, .slice none 0 0, .slice none 0 0, .slice Qx.ac rx.cells.length Qx.cc, .slice Qx.au Qx.nu Qx.cu, .slice Qx.ah rx.ths.length Qx.ch, .int .i64 (rx.used : Int)] 36) := ⟨_, rfl⟩
  have hX3 : Blk w3 w2.heap.size 36 (playX nc Qx rx) := by rw [hw3]; exact Blk.new _ _ _
  have hb13 : Below w1.heap.size w1 w3 := by rw [hw3]; exact Kit.Below.al hb2 _
  have hPx3 := hPx.below (show Below w2.heap.size w2 w3 by rw [hw3]; exact Kit.Below.al (Below.refl _ _) _)
  rw [← hw3]
  clear hw3 hPx hb2
  obtain ⟨gx, hgx⟩ : ∃ y, y = w2.heap.size := ⟨_, rfl⟩
  rw [← hgx] at hX3 ⊢
  clear hgx
  have hb3 := Kit.Below.then hbw1 hb13
  have hP3 := hP1.below' hb13
  have HSy : ∀ w2, Below w3.heap.size w3 w2 → Hid (Calls Tryz.prog 9 #[.agg #[.int .i64 p.cells, .slice B p.threads.length cB], .slice A k cA, .int .i64 (picks.length : Int)] w2 fun e w' => SrcOk nc ry w2 e w') := fun w4 hb4 => by
    have hb := Kit.Below.then hb3 hb4
    have := HSok (picks.take k) ry hSy (by rw [List.length_take]; omega) w4 A cA hb (ints_below hIk hA hb) (fun ad h => Nat.lt_of_lt_of_le (hA ad h) hb.size)
    rw [List.length_take, Nat.min_eq_left hkl] at this
    exact this
  have HSK := Lib.hid hSy
  clear hSy hIk
  have HK := Lib.hid hk
  clear hk hP1 hbw1 hb13
  have q0 : (0 : Int) ≤ (k : Int) := by omega
  have q1 : (k : Int) ≤ (cA : Int) := by omega
  have q2 : k ≤ cA := by omega
  have c0 : ∀ p' : Cls (Below w3.heap.size w3), p'.w.cell? ⟨gP, 0, none⟩ = some (.int .i64 p.cells) := fun p' => hP3.cls 0 p'
  have c1 : ∀ p' : Cls (Below w3.heap.size w3), p'.w.cell? ⟨gP, 1, none⟩ = some (.slice B p.threads.length cB) := fun p' => hP3.cls 1 p'
  have hbd : Below w3.heap.size w3 (World.drewN w3 1) := Below_drewN _ 1
  have hne : Nonempty (Cls (Below w3.heap.size w3)) := ⟨⟨w3, Below.refl _ _⟩⟩
  go_upto_region 5 with fail
  go_cut [12, 13] (fun s12 s13 wx => CutY gx gP w1.heap.size nc p.threads.length p.cells B cB Qx rx ry w s12 s13 wx)
  case first =>
    refine wp_region_float_go (fun w' => ∃ p : Cls (Below w3.heap.size w3), w' = p.w) 13 (by kernel_rfl) rfl ?_
    refine floatG_reads 8 [0, 1, 2, 3, 4] ⟨⟨_, hbd⟩, rfl⟩ rfl (by kernel_rfl) ?_
    simp only [pickL, List.map_cons, List.map_nil, List.getElem?_cons_succ, List.getElem?_cons_zero, Option.getD_some]
    repeat (go_big_quiet_step (fail))
    refine wpQuiet_nil ?_
    clear c0 c1
    generalize World.drewN w3 1 = wd at *
    refine floatG_two (i := 5) (i' := 10) (by kernel_rfl) (by decide) (by decide) rfl rfl ?_ ?_
    · go_wp2_with fail
      refine onG_mk (fun _ => ⟨⟨_, hbd⟩, rfl⟩) ?_
      refine floatG_two (i := 6) (i' := 10) (by kernel_rfl) (by decide) (by decide) rfl rfl ?_ ?_
      · have HS10 := HSy wd hbd
        go_wp2_with (go_at_call 9; refine HS10.out.mono ?_; rintro e w5 ⟨hb2, Qy, rfl, hP1⟩)
        clear HS10
        have hbd2 := Kit.Below.then hbd hb2
        refine onG_mk (fun _ => ⟨⟨_, hbd2⟩, rfl⟩) ?_
        refine floatG_reads 3 [7, 8, 9] ⟨⟨_, hbd2⟩, rfl⟩ rfl (by kernel_rfl) ?_
        simp only [pickL, List.map_cons, List.map_nil, List.getElem?_cons_succ, List.getElem?_cons_zero, Option.getD_some]
        repeat (go_big_quiet_step (fail))
        refine wpQuiet_nil ?_
        refine floatG_one (i := 10) (by kernel_rfl) (by decide) rfl ?_
        go_wp2_with fail
        have hZ : Blk (w5.alloc (.cells #[.int .i64 0, .slice none 0 0, .slice none 0 0, .slice none 0 0, .slice none 0 0, .slice none 0 0, .slice none 0 0, .slice none 0 0, .slice none 0 0, .slice none 0 0, .slice none 0 0, .int .i64 0] 36)) w5.heap.size 36 play0 := Blk.new w5 _ _
        have hb2z : Below w5.heap.size w5 (w5.alloc (.cells #[.int .i64 0, .slice none 0 0, .slice none 0 0, .slice none 0 0, .slice none 0 0, .slice none 0 0, .slice none 0 0, .slice none 0 0, .slice none 0 0, .slice none 0 0, .slice none 0 0, .int .i64 0] 36)) := Kit.Below.al (Below.refl _ _) _
        have hPz := hP1.below hb2z
        have hbz := Kit.Below.then hbd2 hb2z
        have hgy : w3.heap.size ≤ w5.heap.size := hbd2.size
        generalize w5.alloc (.cells #[.int .i64 0, .slice none 0 0, .slice none 0 0, .slice none 0 0, .slice none 0 0, .slice none 0 0, .slice none 0 0, .slice none 0 0, .slice none 0 0, .slice none 0 0, .slice none 0 0, .int .i64 0] 36) = wz at *
        clear hP1 hb2z hbd2 hb2
        generalize w5.heap.size = gy at *
        refine onG_mk (fun _ => ⟨⟨_, hbz⟩, rfl⟩) ?_
        refine floatG_one (i := 11) (by kernel_rfl) (by decide) rfl ?_
        have q0 : wz.cell? ⟨gy, 0, none⟩ = some (.int .i64 0) := hZ.cell 0
        have q1 : wz.cell? ⟨gy, 1, none⟩ = some (.slice none 0 0) := hZ.cell 1
        have q2 : wz.cell? ⟨gy, 2, none⟩ = some (.slice none 0 0) := hZ.cell 2
        have q3 : wz.cell? ⟨gy, 3, none⟩ = some (.slice none 0 0) := hZ.cell 3
        have q4 : wz.cell? ⟨gy, 4, none⟩ = some (.slice none 0 0) := hZ.cell 4
        have q5 : wz.cell? ⟨gy, 5, none⟩ = some (.slice none 0 0) := hZ.cell 5
        have q6 : wz.cell? ⟨gy, 6, none⟩ = some (.slice none 0 0) := hZ.cell 6
        have q7 : wz.cell? ⟨gy, 7, none⟩ = some (.slice none 0 0) := hZ.cell 7
        have q8 : wz.cell? ⟨gy, 8, none⟩ = some (.slice none 0 0) := hZ.cell 8
        have q9 : wz.cell? ⟨gy, 9, none⟩ = some (.slice none 0 0) := hZ.cell 9
        have q10 : wz.cell? ⟨gy, 10, none⟩ = some (.slice none 0 0) := hZ.cell 10
        have q11 : wz.cell? ⟨gy, 11, none⟩ = some (.int .i64 0) := hZ.cell 11
        have kf := fun i => hZ.frozen i
        go_wp2_with fail
        clear kf q0 q1 q2 q3 q4 q5 q6 q7 q8 q9 q10 q11
        refine (show onG _ _ _ _ _ (putL wz gy 0 [.int .i64 (nc : Int), .slice Qy.ae ry.events.length Qy.ce, .slice Qy.af ry.rf.length Qy.cf, .slice Qy.ao Qy.no Qy.co, .slice Qy.am ry.rmw.length Qy.cm, .slice none 0 0, .slice none 0 0, .slice none 0 0, .slice Qy.ac ry.cells.length Qy.cc, .slice Qy.au Qy.nu Qy.cu, .slice Qy.ah ry.ths.length Qy.ch, .int .i64 (ry.used : Int)]) from ?_)
        have hY := putL_all hZ [.int .i64 (nc : Int), .slice Qy.ae ry.events.length Qy.ce, .slice Qy.af ry.rf.length Qy.cf, .slice Qy.ao Qy.no Qy.co, .slice Qy.am ry.rmw.length Qy.cm, .slice none 0 0, .slice none 0 0, .slice none 0 0, .slice Qy.ac ry.cells.length Qy.cc, .slice Qy.au Qy.nu Qy.cu, .slice Qy.ah ry.ths.length Qy.ch, .int .i64 (ry.used : Int)] rfl
        have hky := putL_kept (g := gy) [.int .i64 (nc : Int), .slice Qy.ae ry.events.length Qy.ce, .slice Qy.af ry.rf.length Qy.cf, .slice Qy.ao Qy.no Qy.co, .slice Qy.am ry.rmw.length Qy.cm, .slice none 0 0, .slice none 0 0, .slice none 0 0, .slice Qy.ac ry.cells.length Qy.cc, .slice Qy.au Qy.nu Qy.cu, .slice Qy.ah ry.ths.length Qy.ch, .int .i64 (ry.used : Int)] wz 0
        have hPy := hPz.else_ hZ hky (fun k hk => hk)
        have hby := NewW.kept_below hbz hky (fun j hj => by rw [hj]; exact hgy)
        generalize putL wz gy 0 [.int .i64 (nc : Int), .slice Qy.ae ry.events.length Qy.ce, .slice Qy.af ry.rf.length Qy.cf, .slice Qy.ao Qy.no Qy.co, .slice Qy.am ry.rmw.length Qy.cm, .slice none 0 0, .slice none 0 0, .slice none 0 0, .slice Qy.ac ry.cells.length Qy.cc, .slice Qy.au Qy.nu Qy.cu, .slice Qy.ah ry.ths.length Qy.ch, .int .i64 (ry.used : Int)] = w4 at *
        clear hZ hPz hky hbz
        refine onG_mk (fun _ => ⟨⟨_, hby⟩, rfl⟩) ?_
        refine floatG_one (i := 12) (by kernel_rfl) (by decide) rfl ?_
        go_wp2_with fail
        refine onG_mk (fun _ => ⟨⟨_, hby⟩, rfl⟩) ?_
        refine (show tailG _ _ _ _ _ _ _ from ⟨by kernel_rfl, ?_⟩)
        simp only [List.drop_succ_cons, List.drop_nil]
        go_wp2_with fail
        go_meet
        exact ⟨gy, _, Qy, rfl, rfl, hY, hPy, hX3.below' hby, hPx3.below hby, hP3.below' hby, Kit.Below.then hb3 hby⟩
      · skip
        go_wp2_with fail
        have hZ0 : Blk (wd.alloc (.cells #[.int .i64 0, .slice none 0 0, .slice none 0 0, .slice none 0 0, .slice none 0 0, .slice none 0 0, .slice none 0 0, .slice none 0 0, .slice none 0 0, .slice none 0 0, .slice none 0 0, .int .i64 0] 36)) wd.heap.size 36 play0 := Blk.new wd _ _
        have hb0 : Below w3.heap.size w3 (wd.alloc (.cells #[.int .i64 0, .slice none 0 0, .slice none 0 0, .slice none 0 0, .slice none 0 0, .slice none 0 0, .slice none 0 0, .slice none 0 0, .slice none 0 0, .slice none 0 0, .slice none 0 0, .int .i64 0] 36)) := Kit.Below.al hbd _
        have hgy : w3.heap.size ≤ wd.heap.size := hbd.size
        generalize wd.alloc (.cells #[.int .i64 0, .slice none 0 0, .slice none 0 0, .slice none 0 0, .slice none 0 0, .slice none 0 0, .slice none 0 0, .slice none 0 0, .slice none 0 0, .slice none 0 0, .slice none 0 0, .int .i64 0] 36) = wa at *
        generalize wd.heap.size = gy at *
        refine onG_mk (fun _ => ⟨⟨_, hb0⟩, rfl⟩) ?_
        refine floatG_one (i := 6) (by kernel_rfl) (by decide) rfl ?_
        have HS10 := HSy wa hb0
        go_wp2_with (go_at_call 9; refine HS10.out.mono ?_; rintro e wz ⟨hb2, Qy, rfl, hPz⟩)
        clear HS10
        have hZ := hZ0.below' hb2
        have hbz := Kit.Below.then hb0 hb2
        clear hZ0 hb0 hb2
        refine onG_mk (fun _ => ⟨⟨_, hbz⟩, rfl⟩) ?_
        refine floatG_reads 2 [7, 8, 9] ⟨⟨_, hbz⟩, rfl⟩ rfl (by kernel_rfl) ?_
        simp only [pickL, List.map_cons, List.map_nil, List.getElem?_cons_succ, List.getElem?_cons_zero, Option.getD_some]
        repeat (go_big_quiet_step (fail))
        refine wpQuiet_nil ?_
        refine floatG_one (i := 11) (by kernel_rfl) (by decide) rfl ?_
        have q0 : wz.cell? ⟨gy, 0, none⟩ = some (.int .i64 0) := hZ.cell 0
        have q1 : wz.cell? ⟨gy, 1, none⟩ = some (.slice none 0 0) := hZ.cell 1
        have q2 : wz.cell? ⟨gy, 2, none⟩ = some (.slice none 0 0) := hZ.cell 2
        have q3 : wz.cell? ⟨gy, 3, none⟩ = some (.slice none 0 0) := hZ.cell 3
        have q4 : wz.cell? ⟨gy, 4, none⟩ = some (.slice none 0 0) := hZ.cell 4
        have q5 : wz.cell? ⟨gy, 5, none⟩ = some (.slice none 0 0) := hZ.cell 5
        have q6 : wz.cell? ⟨gy, 6, none⟩ = some (.slice none 0 0) := hZ.cell 6
        have q7 : wz.cell? ⟨gy, 7, none⟩ = some (.slice none 0 0) := hZ.cell 7
        have q8 : wz.cell? ⟨gy, 8, none⟩ = some (.slice none 0 0) := hZ.cell 8
        have q9 : wz.cell? ⟨gy, 9, none⟩ = some (.slice none 0 0) := hZ.cell 9
        have q10 : wz.cell? ⟨gy, 10, none⟩ = some (.slice none 0 0) := hZ.cell 10
        have q11 : wz.cell? ⟨gy, 11, none⟩ = some (.int .i64 0) := hZ.cell 11
        have kf := fun i => hZ.frozen i
        go_wp2_with fail
        clear kf q0 q1 q2 q3 q4 q5 q6 q7 q8 q9 q10 q11
        refine (show onG _ _ _ _ _ (putL wz gy 0 [.int .i64 (nc : Int), .slice Qy.ae ry.events.length Qy.ce, .slice Qy.af ry.rf.length Qy.cf, .slice Qy.ao Qy.no Qy.co, .slice Qy.am ry.rmw.length Qy.cm, .slice none 0 0, .slice none 0 0, .slice none 0 0, .slice Qy.ac ry.cells.length Qy.cc, .slice Qy.au Qy.nu Qy.cu, .slice Qy.ah ry.ths.length Qy.ch, .int .i64 (ry.used : Int)]) from ?_)
        have hY := putL_all hZ [.int .i64 (nc : Int), .slice Qy.ae ry.events.length Qy.ce, .slice Qy.af ry.rf.length Qy.cf, .slice Qy.ao Qy.no Qy.co, .slice Qy.am ry.rmw.length Qy.cm, .slice none 0 0, .slice none 0 0, .slice none 0 0, .slice Qy.ac ry.cells.length Qy.cc, .slice Qy.au Qy.nu Qy.cu, .slice Qy.ah ry.ths.length Qy.ch, .int .i64 (ry.used : Int)] rfl
        have hky := putL_kept (g := gy) [.int .i64 (nc : Int), .slice Qy.ae ry.events.length Qy.ce, .slice Qy.af ry.rf.length Qy.cf, .slice Qy.ao Qy.no Qy.co, .slice Qy.am ry.rmw.length Qy.cm, .slice none 0 0, .slice none 0 0, .slice none 0 0, .slice Qy.ac ry.cells.length Qy.cc, .slice Qy.au Qy.nu Qy.cu, .slice Qy.ah ry.ths.length Qy.ch, .int .i64 (ry.used : Int)] wz 0
        have hPy := hPz.else_ hZ hky (fun k hk => hk)
        have hby := NewW.kept_below hbz hky (fun j hj => by rw [hj]; exact hgy)
        generalize putL wz gy 0 [.int .i64 (nc : Int), .slice Qy.ae ry.events.length Qy.ce, .slice Qy.af ry.rf.length Qy.cf, .slice Qy.ao Qy.no Qy.co, .slice Qy.am ry.rmw.length Qy.cm, .slice none 0 0, .slice none 0 0, .slice none 0 0, .slice Qy.ac ry.cells.length Qy.cc, .slice Qy.au Qy.nu Qy.cu, .slice Qy.ah ry.ths.length Qy.ch, .int .i64 (ry.used : Int)] = w4 at *
        clear hZ hPz hky hbz
        refine onG_mk (fun _ => ⟨⟨_, hby⟩, rfl⟩) ?_
        refine floatG_one (i := 12) (by kernel_rfl) (by decide) rfl ?_
        go_wp2_with fail
        refine onG_mk (fun _ => ⟨⟨_, hby⟩, rfl⟩) ?_
        refine (show tailG _ _ _ _ _ _ _ from ⟨by kernel_rfl, ?_⟩)
        simp only [List.drop_succ_cons, List.drop_nil]
        go_wp2_with fail
        go_meet
        exact ⟨gy, _, Qy, rfl, rfl, hY, hPy, hX3.below' hby, hPx3.below hby, hP3.below' hby, Kit.Below.then hb3 hby⟩
    · skip
      go_wp2_with fail
      have hZ0 : Blk (wd.alloc (.cells #[.int .i64 0, .slice none 0 0, .slice none 0 0, .slice none 0 0, .slice none 0 0, .slice none 0 0, .slice none 0 0, .slice none 0 0, .slice none 0 0, .slice none 0 0, .slice none 0 0, .int .i64 0] 36)) wd.heap.size 36 play0 := Blk.new wd _ _
      have hb0 : Below w3.heap.size w3 (wd.alloc (.cells #[.int .i64 0, .slice none 0 0, .slice none 0 0, .slice none 0 0, .slice none 0 0, .slice none 0 0, .slice none 0 0, .slice none 0 0, .slice none 0 0, .slice none 0 0, .slice none 0 0, .int .i64 0] 36)) := Kit.Below.al hbd _
      have hgy : w3.heap.size ≤ wd.heap.size := hbd.size
      generalize wd.alloc (.cells #[.int .i64 0, .slice none 0 0, .slice none 0 0, .slice none 0 0, .slice none 0 0, .slice none 0 0, .slice none 0 0, .slice none 0 0, .slice none 0 0, .slice none 0 0, .slice none 0 0, .int .i64 0] 36) = wa at *
      generalize wd.heap.size = gy at *
      refine onG_mk (fun _ => ⟨⟨_, hb0⟩, rfl⟩) ?_
      refine floatG_one (i := 5) (by kernel_rfl) (by decide) rfl ?_
      go_wp2_with fail
      refine onG_mk (fun _ => ⟨⟨_, hb0⟩, rfl⟩) ?_
      refine floatG_one (i := 6) (by kernel_rfl) (by decide) rfl ?_
      have HS10 := HSy wa hb0
      go_wp2_with (go_at_call 9; refine HS10.out.mono ?_; rintro e wz ⟨hb2, Qy, rfl, hPz⟩)
      clear HS10
      have hZ := hZ0.below' hb2
      have hbz := Kit.Below.then hb0 hb2
      clear hZ0 hb0 hb2
      refine onG_mk (fun _ => ⟨⟨_, hbz⟩, rfl⟩) ?_
      refine floatG_reads 2 [7, 8, 9] ⟨⟨_, hbz⟩, rfl⟩ rfl (by kernel_rfl) ?_
      simp only [pickL, List.map_cons, List.map_nil, List.getElem?_cons_succ, List.getElem?_cons_zero, Option.getD_some]
      repeat (go_big_quiet_step (fail))
      refine wpQuiet_nil ?_
      refine floatG_one (i := 11) (by kernel_rfl) (by decide) rfl ?_
      have q0 : wz.cell? ⟨gy, 0, none⟩ = some (.int .i64 0) := hZ.cell 0
      have q1 : wz.cell? ⟨gy, 1, none⟩ = some (.slice none 0 0) := hZ.cell 1
      have q2 : wz.cell? ⟨gy, 2, none⟩ = some (.slice none 0 0) := hZ.cell 2
      have q3 : wz.cell? ⟨gy, 3, none⟩ = some (.slice none 0 0) := hZ.cell 3
      have q4 : wz.cell? ⟨gy, 4, none⟩ = some (.slice none 0 0) := hZ.cell 4
      have q5 : wz.cell? ⟨gy, 5, none⟩ = some (.slice none 0 0) := hZ.cell 5
      have q6 : wz.cell? ⟨gy, 6, none⟩ = some (.slice none 0 0) := hZ.cell 6
      have q7 : wz.cell? ⟨gy, 7, none⟩ = some (.slice none 0 0) := hZ.cell 7
      have q8 : wz.cell? ⟨gy, 8, none⟩ = some (.slice none 0 0) := hZ.cell 8
      have q9 : wz.cell? ⟨gy, 9, none⟩ = some (.slice none 0 0) := hZ.cell 9
      have q10 : wz.cell? ⟨gy, 10, none⟩ = some (.slice none 0 0) := hZ.cell 10
      have q11 : wz.cell? ⟨gy, 11, none⟩ = some (.int .i64 0) := hZ.cell 11
      have kf := fun i => hZ.frozen i
      go_wp2_with fail
      clear kf q0 q1 q2 q3 q4 q5 q6 q7 q8 q9 q10 q11
      refine (show onG _ _ _ _ _ (putL wz gy 0 [.int .i64 (nc : Int), .slice Qy.ae ry.events.length Qy.ce, .slice Qy.af ry.rf.length Qy.cf, .slice Qy.ao Qy.no Qy.co, .slice Qy.am ry.rmw.length Qy.cm, .slice none 0 0, .slice none 0 0, .slice none 0 0, .slice Qy.ac ry.cells.length Qy.cc, .slice Qy.au Qy.nu Qy.cu, .slice Qy.ah ry.ths.length Qy.ch, .int .i64 (ry.used : Int)]) from ?_)
      have hY := putL_all hZ [.int .i64 (nc : Int), .slice Qy.ae ry.events.length Qy.ce, .slice Qy.af ry.rf.length Qy.cf, .slice Qy.ao Qy.no Qy.co, .slice Qy.am ry.rmw.length Qy.cm, .slice none 0 0, .slice none 0 0, .slice none 0 0, .slice Qy.ac ry.cells.length Qy.cc, .slice Qy.au Qy.nu Qy.cu, .slice Qy.ah ry.ths.length Qy.ch, .int .i64 (ry.used : Int)] rfl
      have hky := putL_kept (g := gy) [.int .i64 (nc : Int), .slice Qy.ae ry.events.length Qy.ce, .slice Qy.af ry.rf.length Qy.cf, .slice Qy.ao Qy.no Qy.co, .slice Qy.am ry.rmw.length Qy.cm, .slice none 0 0, .slice none 0 0, .slice none 0 0, .slice Qy.ac ry.cells.length Qy.cc, .slice Qy.au Qy.nu Qy.cu, .slice Qy.ah ry.ths.length Qy.ch, .int .i64 (ry.used : Int)] wz 0
      have hPy := hPz.else_ hZ hky (fun k hk => hk)
      have hby := NewW.kept_below hbz hky (fun j hj => by rw [hj]; exact hgy)
      generalize putL wz gy 0 [.int .i64 (nc : Int), .slice Qy.ae ry.events.length Qy.ce, .slice Qy.af ry.rf.length Qy.cf, .slice Qy.ao Qy.no Qy.co, .slice Qy.am ry.rmw.length Qy.cm, .slice none 0 0, .slice none 0 0, .slice none 0 0, .slice Qy.ac ry.cells.length Qy.cc, .slice Qy.au Qy.nu Qy.cu, .slice Qy.ah ry.ths.length Qy.ch, .int .i64 (ry.used : Int)] = w4 at *
      clear hZ hPz hky hbz
      refine onG_mk (fun _ => ⟨⟨_, hby⟩, rfl⟩) ?_
      refine floatG_one (i := 12) (by kernel_rfl) (by decide) rfl ?_
      go_wp2_with fail
      refine onG_mk (fun _ => ⟨⟨_, hby⟩, rfl⟩) ?_
      refine (show tailG _ _ _ _ _ _ _ from ⟨by kernel_rfl, ?_⟩)
      simp only [List.drop_succ_cons, List.drop_nil]
      go_wp2_with fail
      go_meet
      exact ⟨gy, _, Qy, rfl, rfl, hY, hPy, hX3.below' hby, hPx3.below hby, hP3.below' hby, Kit.Below.then hb3 hby⟩
  case rest =>
    obtain ⟨gy, ly, Qy, rfl, rfl, hY, hPy, hX, hPx, hP, hb⟩ := hcut
    clear hX3 hPx3 hP3 hb3 HSy hbd hne c0 c1 q0 q1 q2
    have hle : ry.events.length ≤ rx.events.length := by obtain ⟨l, hl⟩ := HGR.out.events; rw [hl, List.length_append]; omega
    have hus : ry.used ≤ rx.used := HGR.out.used
    have b1 : ¬ (rx.events.length < ry.events.length) := by omega
    have b2 : ¬ (rx.used < ry.used) := by omega
    have y1 : wc.cell? ⟨gy, 1, none⟩ = some (.slice Qy.ae ry.events.length Qy.ce) := hY.cell 1
    have x1 : wc.cell? ⟨gx, 1, none⟩ = some (.slice Qx.ae rx.events.length Qx.ce) := hX.cell 1
    have y11 : wc.cell? ⟨gy, 11, none⟩ = some (.int .i64 (ry.used : Int)) := hY.cell 11
    have x11 : wc.cell? ⟨gx, 11, none⟩ = some (.int .i64 (rx.used : Int)) := hX.cell 11
    go_upto_region 11 with fail
    clear y11 x11 b1 b2
    go_loopg [14] ry.events.length (fun mm s14 wr => EvRel wc ry.events.length mm s14 wr)
    case atStart => exact ⟨0, 0, rfl, Nat.zero_le _, rfl, (World.drewN_zero _).symm⟩
    case round =>
      obtain ⟨i, q, rfl, hi, hmm, rfl⟩ := hrel
      have HM := Lib.hid hmm
      clear hmm
      by_cases hke : i < ry.events.length
      · have q1 : (i : Int) < (ry.events.length : Int) := by omega
        have q2 : (0 : Int) ≤ (i : Int) := by omega
        have q3 : (i : Int) < (rx.events.length : Int) := by omega
        obtain ⟨ev, hev⟩ : ∃ e, ry.events[i]? = some e := ⟨_, List.getElem?_eq_getElem hke⟩
        have hev2 : rx.events[i]? = some ev := by
          obtain ⟨l, hl⟩ := HGR.out.events
          rw [hl, List.getElem?_append_left hke]
          exact hev
        obtain ⟨gye, hye, _, _, _, _, hyc⟩ := row_at hPy.evR (by omega)
        obtain ⟨gxe, hxe, _, _, _, _, hxc⟩ := row_at hPx.evR (by omega)
        obtain ⟨f0, f1, f2, f3, f4⟩ := ev_cells hyc hev
        obtain ⟨g0, g1, g2, g3, g4⟩ := ev_cells hxc hev2
        rw [hye] at y1
        rw [hxe] at x1
        clear hyc hxc hev hev2 hye hxe
        go_upto_region 13 with fail
        go_quiet (fail)
        go_wp2_with fail
        go_roundg (ry.events.length - (i + 1))
        case measure => have := HM.out; omega
        case rel => exact ⟨i + 1, _, by push_cast; rfl, hke, rfl, rfl⟩
      · obtain rfl : i = ry.events.length := by omega
        clear hi HM hke
        obtain ⟨wd, hwd⟩ : ∃ y, y = wc.drewN q := ⟨_, rfl⟩
        rw [← hwd]
        have hbd : Below wc.heap.size wc wd := by rw [hwd]; exact Below_drewN _ _
        have hYd := hY.below' hbd
        have hXd := hX.below' hbd
        have hPyd := hPy.below hbd
        have hPxd := hPx.below hbd
        have hPd := hP.below' hbd
        have hbwd := Kit.Below.then hb hbd
        clear hwd hY hX hPy hPx hP hb hbd y1 x1
        have hno : Qy.nu = ry.outs.length := hPyd.out.1
        have hxo : Qx.nu = rx.outs.length := hPxd.out.1
        have hoe : rx.outs.length = ry.outs.length := HGR.out.outs
        have hyn : ry.outs.length = p.threads.length := (source_ths HSK.out).2
        have HXO := Lib.hid (hxo.trans hoe)
        have HNO := Lib.hid hno
        have HYN := Lib.hid hyn
        have hol : ry.outs.length ≤ 1048576 := by omega
        clear hno hxo hoe hyn
        have y9 : wd.cell? ⟨gy, 9, none⟩ = some (.slice Qy.au ry.outs.length Qy.cu) := by rw [hYd.cell 9, ← HNO.out]; rfl
        have y1 : wd.cell? ⟨gy, 1, none⟩ = some (.slice Qy.ae ry.events.length Qy.ce) := hYd.cell 1
        go_upto_region 16 with fail
        clear y1
        go_loopg [15] ry.outs.length (fun mm s15 wr => OutRel wd ry.outs.length mm s15 wr)
        case atStart => exact ⟨0, rfl, Nat.zero_le _, rfl, Below.refl _ _⟩
        case round =>
          obtain ⟨t, rfl, ht, hmm, hbr⟩ := hrel
          have HM := Lib.hid hmm
          clear hmm y9
          by_cases hke : t < ry.outs.length
          · have q1 : (t : Int) < (ry.outs.length : Int) := by omega
            have q2 : (0 : Int) ≤ (t : Int) := by omega
            obtain ⟨lx, hlx⟩ : ∃ l, rx.outs[t]? = some l := ⟨_, List.getElem?_eq_getElem (by have := HXO.out; have := hPxd.out.1; omega)⟩
            obtain ⟨ly', hly⟩ : ∃ l, ry.outs[t]? = some l := ⟨_, List.getElem?_eq_getElem hke⟩
            obtain ⟨l, hl⟩ := HGR.out.out t
            rw [List.getD_eq_getElem?_getD, List.getD_eq_getElem?_getD, hlx, hly] at hl
            have HL : Hid (lx = ly' ++ l) := Lib.hid hl
            have hPyr := hPyd.below hbr
            have hPxr := hPxd.below hbr
            obtain ⟨gyo, Ay, ay, hgy, ky, hoy⟩ := hPyr.outs_at hly
            obtain ⟨gxo, Ax, ax, hgx, kx, hox⟩ := hPxr.outs_at hlx
            have hlen : ly'.length ≤ lx.length := by rw [HL.out, List.length_append]; omega
            have hax : lx.length ≤ ax := by
              obtain ⟨A', c', h1, h2⟩ := own_slice hox
              injection h1 with _ _ h1
              rw [h1]; exact h2
            have hbl : lx.length ≤ 16777216 := by
              have := source_outl HX.out t lx hlx
              omega
            have uy : U64sAt wr Ay ly' := own_u64s hoy rfl
            have ux0 : U64sAt wr Ax lx := own_u64s hox rfl
            have ux : U64sAt wr Ax ly' := fun j x hj => ux0 j x (by rw [HL.out, List.getElem?_append_left (List.getElem?_eq_some_iff.1 hj).1]; exact hj)
            have HNum : ∀ n, Hid (Calls Tryz.prog 10 #[.slice Ay ly'.length ay, .slice Ax ly'.length ax] (wr.drewN n) fun e w' => e = .returned (.bool true) ∧ ∃ m, w' = (wr.drewN n).drewN m) := fun n => by
              have := numbers_any (wr.drewN n) Ay Ax ly' ly' ay ax (uy.dn n) (ux.dn n) (by omega) (by omega)
              rw [show (ly' == ly') = true by simp] at this
              exact Lib.hid this
            have y9 : wr.cell? ⟨gy, 9, none⟩ = some (.slice (some ⟨gyo, 0, none⟩) ry.outs.length Qy.cu) := by rw [(hYd.below' hbr).cell 9, ← HNO.out, ← hgy]; rfl
            have x9 : wr.cell? ⟨gx, 9, none⟩ = some (.slice (some ⟨gxo, 0, none⟩) ry.outs.length Qx.cu) := by rw [(hXd.below' hbr).cell 9, ← HXO.out, ← hgx]; rfl
            have b1 : ¬ (lx.length < ly'.length) := by omega
            have b2 : ((ly'.length : Nat) : Int) ≤ (lx.length : Int) := by omega
            have b3 : ((ly'.length : Nat) : Int) ≤ (ax : Int) := by omega
            have b4 : (0 : Int) ≤ (ly'.length : Int) := by omega
            have b5 : ly'.length ≤ ax := by omega
            clear hl hlx hly hPyr hPxr hgy hgx hoy hox uy ux0 ux hax
            go_upto_region 18 with fail
            go_quiet ((go_at_call 10; exact Calls.quiet_of (HNum _).out))
            go_wp2_with fail
            go_roundg (ry.outs.length - (t + 1))
            case measure => have := HM.out; omega
            case rel => exact ⟨t + 1, by push_cast; rfl, hke, rfl, Kit.Below.dn hbr⟩
          · obtain rfl : t = ry.outs.length := by omega
            clear hke ht HM
            have y9 : wr.cell? ⟨gy, 9, none⟩ = some (.slice Qy.au ry.outs.length Qy.cu) := by rw [(hYd.below' hbr).cell 9, ← HNO.out]; rfl
            have hX := hXd.below' hbr
            have hPx := hPxd.below hbr
            have hP := hPd.below' hbr
            have hb := Kit.Below.then hbwd hbr
            clear hbr hYd hXd hPyd hPxd hPd hbwd HXO HNO
            have c1 : wr.cell? ⟨gP, 1, none⟩ = some (.slice B p.threads.length cB) := hP.cell 1
            go_upto_region 20 with fail
            clear y9
            obtain ⟨b, hbq⟩ : ∃ b, b = decide (0 ≤ odd ∧ odd < (p.threads.length : Int)) := ⟨_, rfl⟩
            have HB := Lib.hid hbq
            clear hbq
            go_cut [137] (fun s137 wx => s137 = .bool b ∧ wx = wr)
            case first =>
              by_cases h0 : odd < 0
              · have e1 : decide (0 ≤ odd) = false := by simp; omega
                go_wp2_with fail
                go_meet
                exact ⟨congrArg Value.bool (by rw [HB.out]; simp; omega), rfl⟩
              · have e0 : 0 ≤ odd := by omega
                have e1 : decide (0 ≤ odd) = true := by simp; omega
                by_cases h1 : odd < (p.threads.length : Int)
                · have e2 : decide (odd < (p.threads.length : Int)) = true := by simpa using h1
                  go_wp2_with fail
                  go_meet
                  exact ⟨congrArg Value.bool (by rw [HB.out]; simp; omega), rfl⟩
                · have e2 : decide (odd < (p.threads.length : Int)) = false := by simpa using h1
                  go_wp2_with fail
                  go_meet
                  exact ⟨congrArg Value.bool (by rw [HB.out]; simp; omega), rfl⟩
            obtain ⟨rfl, hwe⟩ := hcut
            rw [hwe]
            clear hwe
            go_upto_if 137 with fail
            go_cut [3] (fun s3 wx => ∃ o : Int, s3 = .int .i64 o ∧ (o < 0 ∨ (p.threads.length : Int) ≤ o) ∧ wx = wr)
            case first =>
              cases b with
              | true =>
                go_wp2_with fail
                go_meet
                exact ⟨_, rfl, .inr (Int.le_refl _), rfl⟩
              | false =>
                have ho : odd < 0 ∨ (p.threads.length : Int) ≤ odd := by have := HB.out; simp at this; omega
                have HO := Lib.hid ho
                clear ho
                go_wp2_with fail
                go_meet
                exact ⟨odd, rfl, HO.out, rfl⟩
            obtain ⟨o, rfl, ho, hwe⟩ := hcut
            rw [hwe]
            have HO := Lib.hid ho
            clear hwe c1 ho HB
            obtain ⟨wq, rfl⟩ : ∃ wq : World, wq = wr := ⟨_, rfl⟩
            go_upto_region 24 with fail
            go_loopg [16, 17] picks.length (fun mm s16 s17 wx => MoreRel wq picks o mm s16 s17 wx)
            case atStart => exact ⟨0, none, 0, rfl, rfl, Nat.zero_le _, rfl, ⟨by simp [oddL], .inl ⟨rfl, rfl⟩⟩, Below.refl _ _⟩
            case round =>
              obtain ⟨i, A', c', rfl, rfl, hi, hmm, hown, hbx⟩ := hrel
              have HM := Lib.hid hmm
              clear hmm
              have hml : (16 * 1048576 : Nat) ≤ maxLen := by decide
              by_cases hke : i < picks.length
              · have q1 : (i : Int) < (picks.length : Int) := by omega
                have q2 : (0 : Int) ≤ (i : Int) := by omega
                obtain ⟨x, hx⟩ : ∃ x, picks[i]? = some x := ⟨_, List.getElem?_eq_getElem hke⟩
                obtain ⟨ad, hA1, hcx⟩ := ints_below hI hA (Kit.Below.then hb hbx) i x hx
                obtain ⟨i0, hi0, hz0, hz1, hz2⟩ := info_parts RunW.info_int
                have hN6 : Blk (wr.alloc (.cells #[.int .i64 o, .int .i64 x] 3)) wr.heap.size 3 (List.toArray [.int .i64 o, .int .i64 x]) := Blk.new wr _ _
                have hb6 : Below wr.heap.size wr (wr.alloc (.cells #[.int .i64 o, .int .i64 x] 3)) := Kit.Below.al (Below.refl _ _) _
                have HEO := Lib.hid (own_below hown hb6)
                have hbs6 := Nat.le_trans hbx.size hb6.size
                have HXX := Lib.hid hx
                have HA1 := Lib.hid hA1
                clear hown hx hA1
                have HXA := HX
                rw [HA1.out]
                go_wp2_with (at_builtin; refine wpList_append_lies _ (by rfl) _ _ _ (by rfl) wq.heap.size 3 i0 _ 1 8 Tryz.underlying25 hi0 hz0 hz1 hz2 rfl (by omega) _ (2 * i) _ (by rfl) HEO.out ⟨wr.heap.size, 0, none⟩ 2 2 [.int .i64 o, .int .i64 x] (by rfl) rfl (news_one hN6) (two_one rfl rfl) (by omega) (by omega) (by omega) hbs6 _ rfl ?_; intro g8 cap8 w8 hown8 hgrow8 hat8 hlt8)
                have he : (oddL o (picks.take i)).map (Value.int .i64) ++ [.int .i64 o, .int .i64 x] = (oddL o (picks.take (i + 1))).map (Value.int .i64) := by
                  rw [List.take_add_one, HXX.out]
                  simp [oddL_snoc]
                rw [he] at hown8
                have hb8 := (Kit.Below.then hbx hb6).grown hgrow8 hbs6 (fun k hk => OwnR.own_base HEO.out hk)
                clear hgrow8 hat8 hlt8 HEO hN6 hb6 hbs6 hi0 hz0 hz1 hz2 he hcx
                rw [← HA1.out]
                go_roundg (picks.length - (i + 1))
                case measure => have := HM.out; omega
                case rel => exact ⟨i + 1, _, _, rfl, by push_cast; rfl, hke, rfl, hown8, hb8⟩
              · obtain rfl : i = picks.length := by omega
                clear hke hi HM
                rw [List.take_length] at hown
                have hbw := Kit.Below.then hb hbx
                have hPr := hP.below' hbx
                have hXr := hX.below' hbx
                have hPxr := hPx.below hbx
                have k0 : wr.cell? ⟨gP, 0, none⟩ = some (.int .i64 p.cells) := hPr.cell 0
                have k1 : wr.cell? ⟨gP, 1, none⟩ = some (.slice B p.threads.length cB) := hPr.cell 1
                have HS3 : Hid (Calls Tryz.prog 9 #[.agg #[.int .i64 p.cells, .slice B p.threads.length cB], .slice A' (2 * picks.length) c', .int .i64 (picks.length : Int)] wr fun e w' => SrcOk nc rx wr e w') := by
                  have hso := (source_odd p picks (picks.length : Int) false o HO.out).trans HX.out
                  have := HSok (oddL o picks) rx hso (by rw [oddL_len]; omega) wr A' c' hbw (own_ints2 hown (by rw [oddL_len])) (own_block hown)
                  rw [oddL_len] at this
                  exact this
                have hcl := source_cells HX.out
                clear hown hP hX hPx hPr
                go_upto_region 28 with (go_at_call 9; refine HS3.out.mono ?_; rintro e w7 ⟨hb7, Qz, rfl, hPz⟩)
                clear k0 k1 HS3
                obtain ⟨w8, hw8⟩ : ∃ y, y = w7.alloc (.cells #[.int .i64 (nc : Int), .slice Qz.ae rx.events.length Qz.ce, .slice Qz.af rx.rf.length Qz.cf, .slice Qz.ao Qz.no Qz.co, .slice Qz.am rx.rmw.length Qz.cm, .slice none 0 0, .slice none 0 0, .slice none 0 0, .slice Qz.ac rx.cells.length Qz.cc, .slice Qz.au Qz.nu Qz.cu, .slice Qz.ah rx.ths.length Qz.ch, .int .i64 (rx.used : Int)] 36) := ⟨_, rfl⟩
                have hZ : Blk w8 w7.heap.size 36 (playX nc Qz rx) := by rw [hw8]; exact Blk.new _ _ _
                have hb78 : Below w7.heap.size w7 w8 := by rw [hw8]; exact Kit.Below.al (Below.refl _ _) _
                have hPz8 := hPz.below hb78
                have hb18 := Kit.Below.then hb7 hb78
                rw [← hw8]
                clear hw8 hPz hb7 hb78
                obtain ⟨gz, hgz⟩ : ∃ y, y = w7.heap.size := ⟨_, rfl⟩
                rw [← hgz] at hZ ⊢
                clear hgz
                have hX8 := hXr.below' hb18
                have hPx8 := hPxr.below hb18
                have hb8 := Kit.Below.then hbw hb18
                have z11 : w8.cell? ⟨gz, 11, none⟩ = some (.int .i64 (rx.used : Int)) := hZ.cell 11
                have x11 : w8.cell? ⟨gx, 11, none⟩ = some (.int .i64 (rx.used : Int)) := hX8.cell 11
                have z1 : w8.cell? ⟨gz, 1, none⟩ = some (.slice Qz.ae rx.events.length Qz.ce) := hZ.cell 1
                have x1 : w8.cell? ⟨gx, 1, none⟩ = some (.slice Qx.ae rx.events.length Qx.ce) := hX8.cell 1
                have z8 : w8.cell? ⟨gz, 8, none⟩ = some (.slice Qz.ac rx.cells.length Qz.cc) := hZ.cell 8
                have x8 : w8.cell? ⟨gx, 8, none⟩ = some (.slice Qx.ac rx.cells.length Qx.cc) := hX8.cell 8
                have HNu : Hid (Calls Tryz.prog 10 #[.slice Qz.ac rx.cells.length Qz.cc, .slice Qx.ac rx.cells.length Qx.cc] w8 fun e w' => e = .returned (.bool true) ∧ ∃ m, w' = w8.drewN m) := by
                  have := numbers_any w8 Qz.ac Qx.ac rx.cells rx.cells Qz.cc Qx.cc (own_u64s hPz8.cellsR rfl) (own_u64s hPx8.cellsR rfl) (by omega) (by omega)
                  rw [show (rx.cells == rx.cells) = true by simp] at this
                  exact Lib.hid this
                clear hPz8 hPx8 hXr hPxr hX8 hZ
                go_wp2_with (go_at_call 10; refine HNu.out.mono ?_; rintro e w9 ⟨rfl, m, rfl⟩)
                go_ret
                exact ⟨rfl, Kit.Below.dn hb8⟩
theorem StepsPrefix_any (p : SrcP.Prog) (hv : ProgV p) (vt : Value) (hlen : p.threads.length ≤ 1048576) (picks : List Int) (hpl : picks.length ≤ 1048576) (n odd : Int) (w : World) (hth : ThreadsAt w vt p.threads)
    (A : Option Addr) (cA : Nat) (hcA : picks.length ≤ cA) (hI : IntsAt w A picks) (hA : ∀ ad, A = some ad → ad.block < w.heap.size) :
    Calls Tryz.prog 3 #[.agg #[.int .i64 p.cells, vt], .slice A picks.length cA, .int .i64 n, .int .i64 odd] w fun e w' => e = .returned (.bool true) ∧ Below w.heap.size w w' := by
  cases hS : sourceS p picks (picks.length : Int) false with
  | error en => exact StepsPrefix_err p hv vt hlen picks hpl n odd w hth A cA hcA hI hA en hS
  | ok rx => exact StepsPrefix_ok p hv vt hlen picks hpl n odd w hth A cA hcA hI hA rx hS
end Go.Proofs.YtmjilfamjlnigaaGreat.LawW
