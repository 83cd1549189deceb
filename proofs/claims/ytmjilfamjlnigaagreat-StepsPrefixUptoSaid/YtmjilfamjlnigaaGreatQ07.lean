/- WALKS: what a whole program is. -/
import Derived.Test.YtmjilfamjlnigaaGreatQ06
namespace Go.Proofs.YtmjilfamjlnigaaGreat.SrcW
open Go Go.RowKit Go.Proofs.YtmjilfamjlnigaaGreat.Kit Go.Proofs.YtmjilfamjlnigaaGreat.SrcP

def WhRel (p : SrcP.Prog) (w1 : World) (m : Nat) (s24 : Value) (wr : World) : Prop :=
  ∃ k : Nat, s24 = .int .i64 k ∧ k ≤ p.threads.length ∧ m = p.threads.length - k ∧ Below w1.heap.size w1 wr ∧ (p.threads.drop k).all (threadOk p.cells) = p.threads.all (threadOk p.cells)
def WhRel2 (ok : SrcP.Act → Bool) (l : List SrcP.Act) (w2 : World) (m : Nat) (s45 : Value) (wr : World) : Prop :=
  ∃ k : Nat, s45 = .int .i64 k ∧ k ≤ l.length ∧ m = l.length - k ∧ Below w2.heap.size w2 wr ∧ (l.drop k).all ok = l.all ok

set_option maxRecDepth 100000 in
set_option maxHeartbeats 4000000 in
theorem Whole_any (p : SrcP.Prog) (vt : Value) (hlen : p.threads.length ≤ 1048576) (w : World) (h : ThreadsAt w vt p.threads) :
    Calls Tryz.prog 40 #[.agg #[.int .i64 p.cells, vt]] w fun r w' => r = .returned (.bool (wholeP p)) ∧ Below w.heap.size w w' := by
  have HT := Lib.hid h
  obtain ⟨A, c, rfl, hE⟩ := h
  have HE := Lib.hid hE
  clear hE
  by_cases h1 : p.cells < 0
  · skip
    go_enter Tryz.func40, Tryz.ntmps40
    go_wp2_with fail
    go_ret
    refine ⟨congrArg (fun x : Bool => Ending.returned (.bool x)) (?_ : false = wholeP _), by repeat (first | exact Below.refl _ _ | refine Kit.Below.al ?_ _)⟩
    simp [wholeP]; omega
  by_cases h2 : 4096 < p.cells
  · skip
    go_enter Tryz.func40, Tryz.ntmps40
    go_wp2_with fail
    go_ret
    refine ⟨congrArg (fun x : Bool => Ending.returned (.bool x)) (?_ : false = wholeP _), by repeat (first | exact Below.refl _ _ | refine Kit.Below.al ?_ _)⟩
    simp [wholeP]; omega
  by_cases h3 : 64 < p.threads.length
  · have h3' : (64 : Int) < (p.threads.length : Int) := by omega
    go_enter Tryz.func40, Tryz.ntmps40
    go_wp2_with fail
    go_ret
    refine ⟨congrArg (fun x : Bool => Ending.returned (.bool x)) (?_ : false = wholeP _), by repeat (first | exact Below.refl _ _ | refine Kit.Below.al ?_ _)⟩
    simp [wholeP]; omega
  have h3' : ¬ (64 : Int) < (p.threads.length : Int) := by omega
  have hwp : wholeP p = p.threads.all (threadOk p.cells) := by
    unfold wholeP
    rw [decide_eq_true (by omega), Bool.true_and]
  have HWP := Lib.hid hwp
  clear hwp
  go_enter Tryz.func40, Tryz.ntmps40
  go_wp2_with fail
  obtain ⟨w1, hw1⟩ : ∃ x, x = w.alloc (.cells #[.int .i64 p.cells, .slice A p.threads.length c] 24) := ⟨_, rfl⟩
  have hb1 : Below w.heap.size w w1 := by rw [hw1]; exact Kit.Below.al (Below.refl _ _) _
  have hP1 : Blk w1 w.heap.size 24 #[.int .i64 p.cells, .slice A p.threads.length c] := by rw [hw1]; exact Blk.new _ _ _
  rw [← hw1]
  clear hw1
  go_loopg [24] p.threads.length (fun m s24 wr => WhRel p w1 m s24 wr)
  case atStart => exact ⟨0, rfl, Nat.zero_le _, rfl, Below.refl _ _, rfl⟩
  case round =>
    obtain ⟨k, rfl, hk, hm, hb, hok⟩ := hrel
    have HM := Lib.hid hm
    clear hm
    by_cases hke : k < p.threads.length
    · obtain ⟨ad, va, rfl, hC, hAc, hal, _⟩ := HE.out k p.threads[k] (by simp [hke])
      rw [List.drop_eq_getElem_cons hke, List.all_cons] at hok
      have HOK := Lib.hid hok
      clear hok
      generalize hn : p.threads[k] = t at *
      obtain ⟨tl, acts⟩ := t
      have hbw := Kit.Below.then hb1 hb
      replace hC := hC.below hbw
      have hAw := hAc.below hbw
      clear hAc
      simp only at hC hAw hal
      have n0 : wr.cell? (ad.add (k * 2)) = some (.int .i64 tl) := hC 0 _ rfl
      have n1 : wr.cell? ⟨(ad.add (k * 2)).block, (ad.add (k * 2)).off + 1, none⟩ = some va := hC 1 _ rfl
      have a1 : (k : Int) < (p.threads.length : Int) := by omega
      have a2 : (0 : Int) ≤ (k : Int) := by omega
      have HAW := Lib.hid hAw
      obtain ⟨B, d, rfl, hD⟩ := hAw
      have HD := Lib.hid hD
      clear hD
      go_upto_region 6 with fail
      obtain ⟨wx, hwx⟩ : ∃ x, x = wr.alloc (.cells #[.int .i64 tl, .slice B acts.length d] 60) := ⟨_, rfl⟩
      have hbx : Below w1.heap.size w1 wx := by rw [hwx]; exact Kit.Below.al hb _
      have hrx : Below wr.heap.size wr wx := by rw [hwx]; exact Kit.Below.al (Below.refl _ _) _
      have hTX : Blk wx wr.heap.size 60 #[.int .i64 tl, .slice B acts.length d] := by rw [hwx]; exact Blk.new _ _ _
      have hPX := hP1.below' hbx
      have hglt := hTX.lt
      generalize hgl : wr.heap.size = gl at *
      rw [← hwx]
      clear hwx n0 n1 hC
      have n0 : wx.cell? ⟨gl, 0, none⟩ = some (.int .i64 tl) := hTX.cell 0
      have n1 : wx.cell? ⟨gl, 1, none⟩ = some (.slice B acts.length d) := hTX.cell 1
      by_cases g1 : tl < 0
      · skip
        go_wp2_with fail
        go_ret
        refine ⟨congrArg (fun x : Bool => Ending.returned (.bool x)) (?_ : false = wholeP p), Kit.Below.then hb1 hbx⟩
        rw [HWP.out, ← HOK.out]
        simp [threadOk] <;> omega
      by_cases g2 : 24 < tl
      · skip
        go_wp2_with fail
        go_ret
        refine ⟨congrArg (fun x : Bool => Ending.returned (.bool x)) (?_ : false = wholeP p), Kit.Below.then hb1 hbx⟩
        rw [HWP.out, ← HOK.out]
        simp [threadOk] <;> omega
      by_cases g3 : 65536 < acts.length
      · have g3' : (65536 : Int) < (acts.length : Int) := by omega
        go_wp2_with fail
        go_ret
        refine ⟨congrArg (fun x : Bool => Ending.returned (.bool x)) (?_ : false = wholeP p), Kit.Below.then hb1 hbx⟩
        rw [HWP.out, ← HOK.out]
        simp [threadOk] <;> omega
      have g3' : ¬ (65536 : Int) < (acts.length : Int) := by omega
      obtain ⟨nl, rfl⟩ := Int.eq_ofNat_of_zero_le (Int.not_lt.1 g1)
      have hto : threadOk p.cells ⟨nl, acts⟩ = acts.all (actOk p.cells nl acts.length) := by
        unfold threadOk
        simp only
        rw [decide_eq_true (by omega), Bool.true_and]
      rw [hto] at HOK
      clear hto
      have hWA : ∀ (j : Nat) (a : SrcP.Act) (vi ve vf : Value) (w2 : World), ActV w2 vi ve vf a → Hid (Calls Tryz.prog 59 #[.agg (actC a vi ve vf), .agg #[.int .i64 p.cells, .slice (some ad) p.threads.length c], .agg #[.int .i64 nl, .slice B acts.length d]] w2 fun r w' => r = .returned (.bool (actOk p.cells nl acts.length a)) ∧ Below w2.heap.size w2 w') :=
        fun j a vi ve vf w2 ha => Lib.hid (wholeAct_any a vi ve vf _ p.cells (by omega) nl acts.length (by omega) (by omega) B d w2 ha)
      generalize hokf : actOk p.cells nl acts.length = okf at *
      go_wp2_with fail
      go_loopg [45] acts.length (fun m s45 w3 => WhRel2 okf acts wx m s45 w3)
      case atStart => exact ⟨0, rfl, Nat.zero_le _, rfl, Below.refl _ _, rfl⟩
      case round =>
        obtain ⟨j, rfl, hj, hm2, hb3, hok2⟩ := hrel
        have HM2 := Lib.hid hm2
        clear hm2
        by_cases hje : j < acts.length
        · obtain ⟨ad2, vi, ve, vf, rfl, hC2, hAV⟩ := HD.out j acts[j] (by simp [hje])
          rw [List.drop_eq_getElem_cons hje, List.all_cons] at hok2
          have HOK2 := Lib.hid hok2
          clear hok2
          generalize hna : acts[j] = a at *
          have hbr3 := hrx.trans (hb3.mono (Nat.le_of_lt hglt))
          have hC3 := hC2.below (w' := wr) (by rw [hgl]; exact hbr3)
          have hAV3 := hAV.below (w' := wr) (by rw [hgl]; exact hbr3)
          clear hC2 hAV
          have HAV3 := Lib.hid hAV3
          obtain ⟨I, ci, rfl, _⟩ := hAV3.index
          obtain ⟨E, ce, rfl, _⟩ := hAV3.e
          obtain ⟨F, cf, rfl, _⟩ := hAV3.f
          clear hAV3
          generalize a.index.length = li at *
          generalize a.e.length = le at *
          generalize a.f.length = lf at *
          have n2 : wr.cell? (ad2.add (j * 11)) = some (.int .i64 a.op) := hC3 0 _ rfl
          have r1 : wr.cell? ⟨(ad2.add (j * 11)).block, (ad2.add (j * 11)).off + 1, none⟩ = some (.int .i64 a.dst) := hC3 1 _ rfl
          have r2 : wr.cell? ⟨(ad2.add (j * 11)).block, (ad2.add (j * 11)).off + 2, none⟩ = some (.int .i64 a.base) := hC3 2 _ rfl
          have r3 : wr.cell? ⟨(ad2.add (j * 11)).block, (ad2.add (j * 11)).off + 3, none⟩ = some (.int .i64 a.size) := hC3 3 _ rfl
          have r4 : wr.cell? ⟨(ad2.add (j * 11)).block, (ad2.add (j * 11)).off + 4, none⟩ = some (.slice I li ci) := hC3 4 _ rfl
          have r5 : wr.cell? ⟨(ad2.add (j * 11)).block, (ad2.add (j * 11)).off + 5, none⟩ = some (.slice E le ce) := hC3 5 _ rfl
          have r6 : wr.cell? ⟨(ad2.add (j * 11)).block, (ad2.add (j * 11)).off + 6, none⟩ = some (.slice F lf cf) := hC3 6 _ rfl
          have r7 : wr.cell? ⟨(ad2.add (j * 11)).block, (ad2.add (j * 11)).off + 7, none⟩ = some (.int .i64 a.mode) := hC3 7 _ rfl
          have r8 : wr.cell? ⟨(ad2.add (j * 11)).block, (ad2.add (j * 11)).off + 8, none⟩ = some (.int .i64 a.to) := hC3 8 _ rfl
          have r9 : wr.cell? ⟨(ad2.add (j * 11)).block, (ad2.add (j * 11)).off + 9, none⟩ = some (.int .i64 a.line) := hC3 9 _ rfl
          have r10 : wr.cell? ⟨(ad2.add (j * 11)).block, (ad2.add (j * 11)).off + 10, none⟩ = some (.int .i64 a.col) := hC3 10 _ rfl
          have b1 : (j : Int) < (acts.length : Int) := by omega
          have b2 : (0 : Int) ≤ (j : Int) := by omega
          clear n0 n1
          go_upto_region 11 with fail
          obtain ⟨wy, hwy⟩ : ∃ x, x = wr.alloc (.cells (actC a (.slice I li ci) (.slice E le ce) (.slice F lf cf)) 58) := ⟨_, rfl⟩
          have hry : Below wr.heap.size wr wy := by rw [hwy]; exact Kit.Below.al (Below.refl _ _) _
          have hby : Below wx.heap.size wx wy := Kit.Below.then hb3 hry
          have hTY := hTX.below' hby
          have hPY := hPX.below' hby
          have hAY : Blk wy wr.heap.size 58 (actC a (.slice I li ci) (.slice E le ce) (.slice F lf cf)) := by rw [hwy]; exact Blk.new _ _ _
          have HW := hWA j a _ _ _ wy (HAV3.out.below hry)
          have hwy' := hwy.symm
          unfold actC at HW hwy' hAY
          rw [hwy']
          generalize wr.heap.size = g3 at *
          clear hwy hwy' n2 r1 r2 r3 r4 r5 r6 r7 r8 r9 r10 hC3 HAV3 hWA
          have n2 : wy.cell? ⟨g3, 0, none⟩ = some (.int .i64 a.op) := hAY.cell 0
          have r1 : wy.cell? ⟨g3, 1, none⟩ = some (.int .i64 a.dst) := hAY.cell 1
          have r2 : wy.cell? ⟨g3, 2, none⟩ = some (.int .i64 a.base) := hAY.cell 2
          have r3 : wy.cell? ⟨g3, 3, none⟩ = some (.int .i64 a.size) := hAY.cell 3
          have r4 : wy.cell? ⟨g3, 4, none⟩ = some (.slice I li ci) := hAY.cell 4
          have r5 : wy.cell? ⟨g3, 5, none⟩ = some (.slice E le ce) := hAY.cell 5
          have r6 : wy.cell? ⟨g3, 6, none⟩ = some (.slice F lf cf) := hAY.cell 6
          have r7 : wy.cell? ⟨g3, 7, none⟩ = some (.int .i64 a.mode) := hAY.cell 7
          have r8 : wy.cell? ⟨g3, 8, none⟩ = some (.int .i64 a.to) := hAY.cell 8
          have r9 : wy.cell? ⟨g3, 9, none⟩ = some (.int .i64 a.line) := hAY.cell 9
          have r10 : wy.cell? ⟨g3, 10, none⟩ = some (.int .i64 a.col) := hAY.cell 10
          have n0 : wy.cell? ⟨gl, 0, none⟩ = some (.int .i64 nl) := hTY.cell 0
          have n1 : wy.cell? ⟨gl, 1, none⟩ = some (.slice (some ad2) acts.length d) := hTY.cell 1
          have p0 : wy.cell? ⟨w.heap.size, 0, none⟩ = some (.int .i64 p.cells) := hPY.cell 0
          have p1 : wy.cell? ⟨w.heap.size, 1, none⟩ = some (.slice (some ad) p.threads.length c) := hPY.cell 1
          generalize okf a = b at *
          cases b with
          | false =>
            go_wp2_with (go_at_call 59; refine HW.out.mono ?_; rintro e w5 ⟨rfl, hb5⟩)
            go_ret
            refine ⟨congrArg (fun x : Bool => Ending.returned (.bool x)) (?_ : false = wholeP p), Kit.Below.then hb1 (Kit.Below.then hbx (Kit.Below.then hby hb5))⟩
            rw [HWP.out, ← HOK.out, ← HOK2.out]
            rfl
          | true =>
            go_wp2_with (go_at_call 59; refine HW.out.mono ?_; rintro e w5 ⟨rfl, hb5⟩)
            go_roundg (acts.length - (j + 1))
            case measure => have := HM2.out; omega
            case rel => exact ⟨j + 1, by push_cast; rfl, hje, rfl, Kit.Below.then hby hb5, HOK2.out⟩
        · obtain rfl : j = acts.length := by omega
          rw [List.drop_length] at hok2
          have HOK2 := Lib.hid hok2
          clear hok2
          go_wp2_with fail
          go_roundg (p.threads.length - (k + 1))
          case measure => have := HM.out; omega
          case rel => exact ⟨k + 1, by push_cast; rfl, hke, rfl, Kit.Below.then hbx hb3, by rw [← HOK.out, ← HOK2.out]; rfl⟩
    · obtain rfl : k = p.threads.length := by omega
      rw [List.drop_length] at hok
      have HOK := Lib.hid hok
      clear hok
      go_wp2_with fail
      go_ret
      exact ⟨congrArg (fun x : Bool => Ending.returned (.bool x)) (show true = wholeP p by rw [HWP.out, ← HOK.out]; rfl), Kit.Below.then hb1 hb⟩
end Go.Proofs.YtmjilfamjlnigaaGreat.SrcW
