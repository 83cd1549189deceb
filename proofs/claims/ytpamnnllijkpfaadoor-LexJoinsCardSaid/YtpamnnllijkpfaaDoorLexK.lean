/- WALKS: the scanner's token: names. -/
import Derived.Test.YtpamnnllijkpfaaDoorLexJ
namespace Go.Proofs.YtpamnnllijkpfaaDoor.LexW
open Go Go.RowKit Go.Proofs.YtpamnnllijkpfaaDoor.Kit Go.Proofs.YtpamnnllijkpfaaDoor.LexP

theorem Contains_any (s sub : ByteArray) (w : World) (hE : Env w) (hs : s.size < 4294967281) :
    Calls Tryd.prog 34 #[.string s, .string sub] w fun e w' => e = .returned (.bool (Lib.contains s.data.toList sub.data.toList)) ∧ w' = w := by
  obtain ⟨_, ⟨m, hm⟩, _⟩ := hE
  exact Tryd.strings_Contains s sub m w hs hm

set_option maxHeartbeats 1000000 in
set_option maxRecDepth 10000 in
theorem token_word (g : Nat) (b : ByteArray) (k ln cl : Nat) (oa : Option Addr) (on oc : Nat) (w : World) (hE : Env w) (hg : 3 ≤ g)
    (hB : Blk w g 55 (scs b k ln cl (.slice oa on oc))) (hp : Pos b k ln cl) (hn : (dec (b.data.toList.drop k)).2 ≠ 0) (hd : digB (dec (b.data.toList.drop k)).1 = false) (hl : letB (dec (b.data.toList.drop k)).1 = true)
    (hw : wordB (upTo (stOf b k ln cl) ((stOf b k ln cl).while nameB)) = true)
    (htok : tokenS (stOf b k ln cl) = .ok (⟨3, upTo (stOf b k ln cl) ((stOf b k ln cl).while nameB), 0, ln, cl⟩, (stOf b k ln cl).while nameB)) :
    Calls Tryd.prog 23 #[.pointer (some ⟨g, 0, none⟩)] w (TokDone g b (.slice oa on oc) k ln cl w) := by
  have c2 : w.cell? ⟨g, 2, none⟩ = some (.int .i64 ln) := hB.cell 2
  have c3 : w.cell? ⟨g, 3, none⟩ = some (.int .i64 cl) := hB.cell 3
  have hlt := hB.lt
  have a4 : ¬ w.heap.size + 1 + 1 = g := by omega
  have a5 : ¬ w.heap.size + 1 = g := by omega
  have a6 : ¬ w.heap.size = g := by omega
  have d2 := cellA2 c2
  have d3 := cellA2 c3
  have m2 := cellA3 c2
  have m3 := cellA3 c3
  clear c2 c3
  have hbw := fun n => Kit.Below.dn (n := n) (Kit.Below.al (Kit.Below.al (Kit.Below.al (Below.refl w.heap.size w) (.cells #[.int .i64 0, .string ⟨#[]⟩, .int .u64 0, .int .i64 0, .int .i64 0] 35)) (.cells #[.int .i64 0, .int .i64 0, .int .i64 0] 29)) (.cells #[.int .i64 0, .string ⟨#[]⟩, .int .u64 0, .int .i64 ln, .int .i64 cl] 35))
  go_enter Tryd.func23, Tryd.ntmps23
  go_wp2_with fail
  go_region_held3 (fun w' => w'.cell? ⟨g, 2, none⟩ = some (.int .i64 ln) ∧ w'.cell? ⟨g, 3, none⟩ = some (.int .i64 cl)) (first | exact ⟨d2 _ _, d3 _ _⟩ | exact ⟨m2 _ _ _, m3 _ _ _⟩ | go_keep) (fail)
  go_wp2_with fail
  refine (rune_any g b k ln cl (.slice oa on oc) _ (hE.below (hbw 1)) ((((hB.alloc _).alloc _).alloc _).drewN 1) hp.1).mono ?_
  rintro e w3 ⟨rfl, h3⟩
  have BR := ((((Blk.new w _ _).alloc _).alloc _).drew).below' h3
  have BF := (((Blk.newAt (sizeA w _) _ _).alloc _).drew).below' h3
  have BT := ((Blk.newAt (by rw [sizeA, sizeA]) _ _).drew).below' h3
  have hB3 := ((((hB.alloc _).alloc _).alloc _).drew).below' h3
  have hb3 := Kit.Below.then (hbw 1) h3
  clear h3 d2 d3 m2 m3 hbw
  have hlo := dec_lo (b.data.toList.drop k)
  have hhi := dec_hi (b.data.toList.drop k)
  have HN := Lib.hid htok
  clear htok
  generalize (dec (b.data.toList.drop k)).1 = r at *
  generalize (dec (b.data.toList.drop k)).2 = n at *
  have hn' : ((n : Int) == 0) = false := by simp; exact hn
  have HD : Hid (∀ w, Calls Tryd.prog 33 #[.int .i32 r] w fun e w' => e = .returned (.bool false) ∧ w = w') := fun w => by have := isDigit_any r w; rwa [hd] at this
  have HL : Hid (∀ w, Calls Tryd.prog 32 #[.int .i32 r] w fun e w' => e = .returned (.bool true) ∧ w = w') := fun w => by have := isLetter_any r w; rwa [hl] at this
  clear hn hd hl
  have HX := Lib.hid (while_token1 g b k ln cl (.slice oa on oc) w3 (hE.below hb3) hg hB3 hp)
  have HW := Lib.hid hw
  clear hw
  go_wp2_with (first | (go_at_call 33; refine (HD.out _).mono ?_; rintro e w' ⟨rfl, rfl⟩) | (go_at_call 32; refine (HL.out _).mono ?_; rintro e w' ⟨rfl, rfl⟩))
  refine HX.out.mono ?_
  clear HX HD HL
  rintro e w4 ⟨k1, l1, e1, hT, hk1, hp1, rfl, hB4, hK4⟩
  have BR4 := BR.kept hK4 (by omega)
  have BF4 := BF.kept hK4 (by omega)
  have BT4 := BT.kept hK4 (by omega)
  have hK := (Kept.of_below g hb3).trans hK4
  have HN2 := HN.out
  have HW2 := HW.out
  rw [hT, upTo_st b k ln cl k1 l1 e1 hk1 hp1.1] at HN2 HW2
  have HN := Lib.hid HN2
  have HW := Lib.hid HW2
  clear BR BF BT hK4 hT HN2 HW2
  have t0 : w4.cell? ⟨w.heap.size + 1 + 1, 0, none⟩ = some (.int .i64 0) := BT4.cell 0
  have t1 : w4.cell? ⟨w.heap.size + 1 + 1, 1, none⟩ = some (.string ⟨#[]⟩) := BT4.cell 1
  have t2 : w4.cell? ⟨w.heap.size + 1 + 1, 2, none⟩ = some (.int .u64 0) := BT4.cell 2
  have t3 : w4.cell? ⟨w.heap.size + 1 + 1, 3, none⟩ = some (.int .i64 ln) := BT4.cell 3
  have t4 : w4.cell? ⟨w.heap.size + 1 + 1, 4, none⟩ = some (.int .i64 cl) := BT4.cell 4
  have zt := fun i => BT4.frozen i
  have s0 : w4.cell? ⟨w.heap.size, 0, none⟩ = some (.int .i64 0) := BR4.cell 0
  have s1 : w4.cell? ⟨w.heap.size, 1, none⟩ = some (.string ⟨#[]⟩) := BR4.cell 1
  have s2 : w4.cell? ⟨w.heap.size, 2, none⟩ = some (.int .u64 0) := BR4.cell 2
  have s3 : w4.cell? ⟨w.heap.size, 3, none⟩ = some (.int .i64 0) := BR4.cell 3
  have s4 : w4.cell? ⟨w.heap.size, 4, none⟩ = some (.int .i64 0) := BR4.cell 4
  have r0 : w4.cell? ⟨w.heap.size + 1, 0, none⟩ = some (.int .i64 0) := BF4.cell 0
  have r1 : w4.cell? ⟨w.heap.size + 1, 1, none⟩ = some (.int .i64 0) := BF4.cell 1
  have r2 : w4.cell? ⟨w.heap.size + 1, 2, none⟩ = some (.int .i64 0) := BF4.cell 2
  have zs := fun i => BR4.frozen i
  have zr := fun i => BF4.frozen i
  have hbs : b.size ≤ 65536 := hp1.2.1
  go_wp2_with fail
  have hKW : ∀ u v, Kept g w ((w4.setCell ⟨w.heap.size + 1 + 1, 1, none⟩ u).setCell ⟨w.heap.size + 1 + 1, 0, none⟩ v) := fun u v => Kept.setN (Kept.setN hK (by omega) _) (by omega) _
  refine (Contains_any ⟨wordsL.toArray⟩ _ _ (hE.kept (hKW _ _) hg) (by decide)).mono ?_
  have hsub : ((⟨#[32]⟩ : ByteArray) ++ b.extract k k1 ++ ⟨#[32]⟩).data.toList = 32 :: ((b.extract k k1).data.toList ++ [32]) := by simp [ByteArray.data_append]
  rw [hsub]
  have HW2 : Lib.contains (⟨wordsL.toArray⟩ : ByteArray).data.toList (32 :: ((b.extract k k1).data.toList ++ [32])) = true := HW.out
  rw [HW2]
  clear HW2 hsub HW t0 t1 t2 t3 t4 s0 s1 s2 s3 s4 r0 r1 r2 zs zr zt
  rintro e w5 ⟨rfl, hw5⟩
  have hK5 : Kept g w w5 := by rw [hw5]; exact hKW _ _
  have BT5 := (BT4.set 1 (.string (b.extract k k1))).set 0 (.int .i64 1)
  have BR5 := (BR4.farN (b := w.heap.size + 1 + 1) (o := 1) (by omega) (.string (b.extract k k1))).farN (b := w.heap.size + 1 + 1) (o := 0) (by omega) (.int .i64 1)
  have BF5 := (BF4.farN (b := w.heap.size + 1 + 1) (o := 1) (by omega) (.string (b.extract k k1))).farN (b := w.heap.size + 1 + 1) (o := 0) (by omega) (.int .i64 1)
  have hB5 := (hB4.farN (b := w.heap.size + 1 + 1) (o := 1) (by omega) (.string (b.extract k k1))).farN (b := w.heap.size + 1 + 1) (o := 0) (by omega) (.int .i64 1)
  rw [← hw5] at BT5 BR5 BF5 hB5
  clear hw5 hKW BT4 BR4 BF4 hB4 hK
  have t0 : w5.cell? ⟨w.heap.size + 1 + 1, 0, none⟩ = some (.int .i64 1) := BT5.cell 0
  have t1 : w5.cell? ⟨w.heap.size + 1 + 1, 1, none⟩ = some (.string (b.extract k k1)) := BT5.cell 1
  have t2 : w5.cell? ⟨w.heap.size + 1 + 1, 2, none⟩ = some (.int .u64 0) := BT5.cell 2
  have t3 : w5.cell? ⟨w.heap.size + 1 + 1, 3, none⟩ = some (.int .i64 ln) := BT5.cell 3
  have t4 : w5.cell? ⟨w.heap.size + 1 + 1, 4, none⟩ = some (.int .i64 cl) := BT5.cell 4
  have zt := fun i => BT5.frozen i
  have s0 : w5.cell? ⟨w.heap.size, 0, none⟩ = some (.int .i64 0) := BR5.cell 0
  have s1 : w5.cell? ⟨w.heap.size, 1, none⟩ = some (.string ⟨#[]⟩) := BR5.cell 1
  have s2 : w5.cell? ⟨w.heap.size, 2, none⟩ = some (.int .u64 0) := BR5.cell 2
  have s3 : w5.cell? ⟨w.heap.size, 3, none⟩ = some (.int .i64 0) := BR5.cell 3
  have s4 : w5.cell? ⟨w.heap.size, 4, none⟩ = some (.int .i64 0) := BR5.cell 4
  have r0 : w5.cell? ⟨w.heap.size + 1, 0, none⟩ = some (.int .i64 0) := BF5.cell 0
  have r1 : w5.cell? ⟨w.heap.size + 1, 1, none⟩ = some (.int .i64 0) := BF5.cell 1
  have r2 : w5.cell? ⟨w.heap.size + 1, 2, none⟩ = some (.int .i64 0) := BF5.cell 2
  have zs := fun i => BR5.frozen i
  have zr := fun i => BF5.frozen i
  go_wp2_with fail
  refine bodyPost_ret (v := .tuple #[.agg #[.int .i64 3, .string (b.extract k k1), .int .u64 0, .int .i64 ln, .int .i64 cl], .agg #[.int .i64 0, .int .i64 0, .int .i64 0]]) (by simp [results, Tryd.results23, go_sem, s0, s1, s2, s3, s4, r0, r1, r2]) rfl ⟨?_, .inr ⟨_, k1, l1, e1, HN.out, hk1, hp1, ?_, rfl⟩⟩
  · repeat (first | with_reducible refine Kept.setN ?_ (by omega) _ | with_reducible refine Kept.d ?_)
    exact hK5
  · repeat (first | with_reducible refine Blk.farN ?_ (by omega) _ | with_reducible refine Blk.d ?_)
    exact hB5
set_option maxHeartbeats 1000000 in
set_option maxRecDepth 10000 in
theorem token_name (g : Nat) (b : ByteArray) (k ln cl : Nat) (oa : Option Addr) (on oc : Nat) (w : World) (hE : Env w) (hg : 3 ≤ g)
    (hB : Blk w g 55 (scs b k ln cl (.slice oa on oc))) (hp : Pos b k ln cl) (hn : (dec (b.data.toList.drop k)).2 ≠ 0) (hd : digB (dec (b.data.toList.drop k)).1 = false) (hl : letB (dec (b.data.toList.drop k)).1 = true)
    (hw : wordB (upTo (stOf b k ln cl) ((stOf b k ln cl).while nameB)) = false)
    (htok : tokenS (stOf b k ln cl) = .ok (⟨1, upTo (stOf b k ln cl) ((stOf b k ln cl).while nameB), 0, ln, cl⟩, (stOf b k ln cl).while nameB)) :
    Calls Tryd.prog 23 #[.pointer (some ⟨g, 0, none⟩)] w (TokDone g b (.slice oa on oc) k ln cl w) := by
  have c2 : w.cell? ⟨g, 2, none⟩ = some (.int .i64 ln) := hB.cell 2
  have c3 : w.cell? ⟨g, 3, none⟩ = some (.int .i64 cl) := hB.cell 3
  have hlt := hB.lt
  have a4 : ¬ w.heap.size + 1 + 1 = g := by omega
  have a5 : ¬ w.heap.size + 1 = g := by omega
  have a6 : ¬ w.heap.size = g := by omega
  have d2 := cellA2 c2
  have d3 := cellA2 c3
  have m2 := cellA3 c2
  have m3 := cellA3 c3
  clear c2 c3
  have hbw := fun n => Kit.Below.dn (n := n) (Kit.Below.al (Kit.Below.al (Kit.Below.al (Below.refl w.heap.size w) (.cells #[.int .i64 0, .string ⟨#[]⟩, .int .u64 0, .int .i64 0, .int .i64 0] 35)) (.cells #[.int .i64 0, .int .i64 0, .int .i64 0] 29)) (.cells #[.int .i64 0, .string ⟨#[]⟩, .int .u64 0, .int .i64 ln, .int .i64 cl] 35))
  go_enter Tryd.func23, Tryd.ntmps23
  go_wp2_with fail
  go_region_held3 (fun w' => w'.cell? ⟨g, 2, none⟩ = some (.int .i64 ln) ∧ w'.cell? ⟨g, 3, none⟩ = some (.int .i64 cl)) (first | exact ⟨d2 _ _, d3 _ _⟩ | exact ⟨m2 _ _ _, m3 _ _ _⟩ | go_keep) (fail)
  go_wp2_with fail
  refine (rune_any g b k ln cl (.slice oa on oc) _ (hE.below (hbw 1)) ((((hB.alloc _).alloc _).alloc _).drewN 1) hp.1).mono ?_
  rintro e w3 ⟨rfl, h3⟩
  have BR := ((((Blk.new w _ _).alloc _).alloc _).drew).below' h3
  have BF := (((Blk.newAt (sizeA w _) _ _).alloc _).drew).below' h3
  have BT := ((Blk.newAt (by rw [sizeA, sizeA]) _ _).drew).below' h3
  have hB3 := ((((hB.alloc _).alloc _).alloc _).drew).below' h3
  have hb3 := Kit.Below.then (hbw 1) h3
  clear h3 d2 d3 m2 m3 hbw
  have hlo := dec_lo (b.data.toList.drop k)
  have hhi := dec_hi (b.data.toList.drop k)
  have HN := Lib.hid htok
  clear htok
  generalize (dec (b.data.toList.drop k)).1 = r at *
  generalize (dec (b.data.toList.drop k)).2 = n at *
  have hn' : ((n : Int) == 0) = false := by simp; exact hn
  have HD : Hid (∀ w, Calls Tryd.prog 33 #[.int .i32 r] w fun e w' => e = .returned (.bool false) ∧ w = w') := fun w => by have := isDigit_any r w; rwa [hd] at this
  have HL : Hid (∀ w, Calls Tryd.prog 32 #[.int .i32 r] w fun e w' => e = .returned (.bool true) ∧ w = w') := fun w => by have := isLetter_any r w; rwa [hl] at this
  clear hn hd hl
  have HX := Lib.hid (while_token1 g b k ln cl (.slice oa on oc) w3 (hE.below hb3) hg hB3 hp)
  have HW := Lib.hid hw
  clear hw
  go_wp2_with (first | (go_at_call 33; refine (HD.out _).mono ?_; rintro e w' ⟨rfl, rfl⟩) | (go_at_call 32; refine (HL.out _).mono ?_; rintro e w' ⟨rfl, rfl⟩))
  refine HX.out.mono ?_
  clear HX HD HL
  rintro e w4 ⟨k1, l1, e1, hT, hk1, hp1, rfl, hB4, hK4⟩
  have BR4 := BR.kept hK4 (by omega)
  have BF4 := BF.kept hK4 (by omega)
  have BT4 := BT.kept hK4 (by omega)
  have hK := (Kept.of_below g hb3).trans hK4
  have HN2 := HN.out
  have HW2 := HW.out
  rw [hT, upTo_st b k ln cl k1 l1 e1 hk1 hp1.1] at HN2 HW2
  have HN := Lib.hid HN2
  have HW := Lib.hid HW2
  clear BR BF BT hK4 hT HN2 HW2
  have t0 : w4.cell? ⟨w.heap.size + 1 + 1, 0, none⟩ = some (.int .i64 0) := BT4.cell 0
  have t1 : w4.cell? ⟨w.heap.size + 1 + 1, 1, none⟩ = some (.string ⟨#[]⟩) := BT4.cell 1
  have t2 : w4.cell? ⟨w.heap.size + 1 + 1, 2, none⟩ = some (.int .u64 0) := BT4.cell 2
  have t3 : w4.cell? ⟨w.heap.size + 1 + 1, 3, none⟩ = some (.int .i64 ln) := BT4.cell 3
  have t4 : w4.cell? ⟨w.heap.size + 1 + 1, 4, none⟩ = some (.int .i64 cl) := BT4.cell 4
  have zt := fun i => BT4.frozen i
  have s0 : w4.cell? ⟨w.heap.size, 0, none⟩ = some (.int .i64 0) := BR4.cell 0
  have s1 : w4.cell? ⟨w.heap.size, 1, none⟩ = some (.string ⟨#[]⟩) := BR4.cell 1
  have s2 : w4.cell? ⟨w.heap.size, 2, none⟩ = some (.int .u64 0) := BR4.cell 2
  have s3 : w4.cell? ⟨w.heap.size, 3, none⟩ = some (.int .i64 0) := BR4.cell 3
  have s4 : w4.cell? ⟨w.heap.size, 4, none⟩ = some (.int .i64 0) := BR4.cell 4
  have r0 : w4.cell? ⟨w.heap.size + 1, 0, none⟩ = some (.int .i64 0) := BF4.cell 0
  have r1 : w4.cell? ⟨w.heap.size + 1, 1, none⟩ = some (.int .i64 0) := BF4.cell 1
  have r2 : w4.cell? ⟨w.heap.size + 1, 2, none⟩ = some (.int .i64 0) := BF4.cell 2
  have zs := fun i => BR4.frozen i
  have zr := fun i => BF4.frozen i
  have hbs : b.size ≤ 65536 := hp1.2.1
  go_wp2_with fail
  have hKW : ∀ u v, Kept g w ((w4.setCell ⟨w.heap.size + 1 + 1, 1, none⟩ u).setCell ⟨w.heap.size + 1 + 1, 0, none⟩ v) := fun u v => Kept.setN (Kept.setN hK (by omega) _) (by omega) _
  refine (Contains_any ⟨wordsL.toArray⟩ _ _ (hE.kept (hKW _ _) hg) (by decide)).mono ?_
  have hsub : ((⟨#[32]⟩ : ByteArray) ++ b.extract k k1 ++ ⟨#[32]⟩).data.toList = 32 :: ((b.extract k k1).data.toList ++ [32]) := by simp [ByteArray.data_append]
  rw [hsub]
  have HW2 : Lib.contains (⟨wordsL.toArray⟩ : ByteArray).data.toList (32 :: ((b.extract k k1).data.toList ++ [32])) = false := HW.out
  rw [HW2]
  clear HW2 hsub HW t0 t1 t2 t3 t4 s0 s1 s2 s3 s4 r0 r1 r2 zs zr zt
  rintro e w5 ⟨rfl, hw5⟩
  have hK5 : Kept g w w5 := by rw [hw5]; exact hKW _ _
  have BT5 := (BT4.set 1 (.string (b.extract k k1))).set 0 (.int .i64 1)
  have BR5 := (BR4.farN (b := w.heap.size + 1 + 1) (o := 1) (by omega) (.string (b.extract k k1))).farN (b := w.heap.size + 1 + 1) (o := 0) (by omega) (.int .i64 1)
  have BF5 := (BF4.farN (b := w.heap.size + 1 + 1) (o := 1) (by omega) (.string (b.extract k k1))).farN (b := w.heap.size + 1 + 1) (o := 0) (by omega) (.int .i64 1)
  have hB5 := (hB4.farN (b := w.heap.size + 1 + 1) (o := 1) (by omega) (.string (b.extract k k1))).farN (b := w.heap.size + 1 + 1) (o := 0) (by omega) (.int .i64 1)
  rw [← hw5] at BT5 BR5 BF5 hB5
  clear hw5 hKW BT4 BR4 BF4 hB4 hK
  have t0 : w5.cell? ⟨w.heap.size + 1 + 1, 0, none⟩ = some (.int .i64 1) := BT5.cell 0
  have t1 : w5.cell? ⟨w.heap.size + 1 + 1, 1, none⟩ = some (.string (b.extract k k1)) := BT5.cell 1
  have t2 : w5.cell? ⟨w.heap.size + 1 + 1, 2, none⟩ = some (.int .u64 0) := BT5.cell 2
  have t3 : w5.cell? ⟨w.heap.size + 1 + 1, 3, none⟩ = some (.int .i64 ln) := BT5.cell 3
  have t4 : w5.cell? ⟨w.heap.size + 1 + 1, 4, none⟩ = some (.int .i64 cl) := BT5.cell 4
  have zt := fun i => BT5.frozen i
  have s0 : w5.cell? ⟨w.heap.size, 0, none⟩ = some (.int .i64 0) := BR5.cell 0
  have s1 : w5.cell? ⟨w.heap.size, 1, none⟩ = some (.string ⟨#[]⟩) := BR5.cell 1
  have s2 : w5.cell? ⟨w.heap.size, 2, none⟩ = some (.int .u64 0) := BR5.cell 2
  have s3 : w5.cell? ⟨w.heap.size, 3, none⟩ = some (.int .i64 0) := BR5.cell 3
  have s4 : w5.cell? ⟨w.heap.size, 4, none⟩ = some (.int .i64 0) := BR5.cell 4
  have r0 : w5.cell? ⟨w.heap.size + 1, 0, none⟩ = some (.int .i64 0) := BF5.cell 0
  have r1 : w5.cell? ⟨w.heap.size + 1, 1, none⟩ = some (.int .i64 0) := BF5.cell 1
  have r2 : w5.cell? ⟨w.heap.size + 1, 2, none⟩ = some (.int .i64 0) := BF5.cell 2
  have zs := fun i => BR5.frozen i
  have zr := fun i => BF5.frozen i
  go_wp2_with fail
  refine bodyPost_ret (v := .tuple #[.agg #[.int .i64 1, .string (b.extract k k1), .int .u64 0, .int .i64 ln, .int .i64 cl], .agg #[.int .i64 0, .int .i64 0, .int .i64 0]]) (by simp [results, Tryd.results23, go_sem, s0, s1, s2, s3, s4, r0, r1, r2]) rfl ⟨?_, .inr ⟨_, k1, l1, e1, HN.out, hk1, hp1, ?_, rfl⟩⟩
  · repeat (first | with_reducible refine Kept.setN ?_ (by omega) _ | with_reducible refine Kept.d ?_)
    exact hK5
  · repeat (first | with_reducible refine Blk.farN ?_ (by omega) _ | with_reducible refine Blk.d ?_)
    exact hB5
end Go.Proofs.YtpamnnllijkpfaaDoor.LexW
