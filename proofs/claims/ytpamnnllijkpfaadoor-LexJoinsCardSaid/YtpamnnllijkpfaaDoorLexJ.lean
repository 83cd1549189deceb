/- WALKS: the scanner's token. -/
import Derived.Test.YtpamnnllijkpfaaDoorLexI
namespace Go.Proofs.YtpamnnllijkpfaaDoor.LexW
open Go Go.RowKit Go.Proofs.YtpamnnllijkpfaaDoor.Kit Go.Proofs.YtpamnnllijkpfaaDoor.LexP

/-- What token leaves. -/
def TokDone (g : Nat) (b : ByteArray) (out : Value) (k ln cl : Nat) (w : World) (e : Ending) (w' : World) : Prop :=
  Kept g w w' ∧ ((∃ l c, tokenS (stOf b k ln cl) = .error (l, c) ∧ e = .returned (.tuple #[.agg #[.int .i64 0, .string ⟨#[]⟩, .int .u64 0, .int .i64 ln, .int .i64 cl], .agg #[.int .i64 20, .int .i64 (l : Nat), .int .i64 (c : Nat)]])) ∨
    ∃ t k1 l1 e1, tokenS (stOf b k ln cl) = .ok (t, stOf b k1 l1 e1) ∧ k ≤ k1 ∧ Pos b k1 l1 e1 ∧ Blk w' g 55 (scs b k1 l1 e1 out) ∧
      e = .returned (.tuple #[.agg #[.int .i64 (t.kind : Nat), .string ⟨t.text.toArray⟩, .int .u64 (t.val : Nat), .int .i64 (t.line : Nat), .int .i64 (t.col : Nat)], .agg #[.int .i64 0, .int .i64 0, .int .i64 0]]))

set_option maxHeartbeats 1000000 in
set_option maxRecDepth 10000 in
theorem token_end (g : Nat) (b : ByteArray) (k ln cl : Nat) (oa : Option Addr) (on oc : Nat) (w : World) (hE : Env w) (hg : 3 ≤ g)
    (hB : Blk w g 55 (scs b k ln cl (.slice oa on oc))) (hp : Pos b k ln cl) (hn : (dec (b.data.toList.drop k)).2 = 0)
    (htok : tokenS (stOf b k ln cl) = .ok (⟨5, [], 0, ln, cl⟩, stOf b k ln cl)) :
    Calls Tryd.prog 23 #[.pointer (some ⟨g, 0, none⟩)] w (TokDone g b (.slice oa on oc) k ln cl w) := by
  have c2 : w.cell? ⟨g, 2, none⟩ = some (.int .i64 ln) := hB.cell 2
  have c3 : w.cell? ⟨g, 3, none⟩ = some (.int .i64 cl) := hB.cell 3
  have hlt := hB.lt
  have a4 : ¬ w.heap.size + 1 + 1 = g := by omega
  have a5 : ¬ w.heap.size + 1 = g := by omega
  have a6 : ¬ w.heap.size = g := by omega
  have d2 := cellA2 c2
  have d3 := cellA2 c3
  have m2 := cellA3 c2
  have m3 := cellA3 c3
  clear c2 c3
  have hbw := fun n => Kit.Below.dn (n := n) (Kit.Below.al (Kit.Below.al (Kit.Below.al (Below.refl w.heap.size w) (.cells #[.int .i64 0, .string ⟨#[]⟩, .int .u64 0, .int .i64 0, .int .i64 0] 35)) (.cells #[.int .i64 0, .int .i64 0, .int .i64 0] 29)) (.cells #[.int .i64 0, .string ⟨#[]⟩, .int .u64 0, .int .i64 ln, .int .i64 cl] 35))
  go_enter Tryd.func23, Tryd.ntmps23
  go_wp2_with fail
  go_region_held3 (fun w' => w'.cell? ⟨g, 2, none⟩ = some (.int .i64 ln) ∧ w'.cell? ⟨g, 3, none⟩ = some (.int .i64 cl)) (first | exact ⟨d2 _ _, d3 _ _⟩ | exact ⟨m2 _ _ _, m3 _ _ _⟩ | go_keep) (fail)
  go_wp2_with fail
  refine (rune_any g b k ln cl (.slice oa on oc) _ (hE.below (hbw 1)) ((((hB.alloc _).alloc _).alloc _).drewN 1) hp.1).mono ?_
  rintro e w3 ⟨rfl, h3⟩
  have BR := ((((Blk.new w _ _).alloc _).alloc _).drew).below' h3
  have BF := (((Blk.newAt (sizeA w _) _ _).alloc _).drew).below' h3
  have BT := ((Blk.newAt (by rw [sizeA, sizeA]) _ _).drew).below' h3
  have hB3 := ((((hB.alloc _).alloc _).alloc _).drew).below' h3
  have hb3 := Kit.Below.then (hbw 1) h3
  clear h3 d2 d3 m2 m3 hbw
  have hlo := dec_lo (b.data.toList.drop k)
  have hhi := dec_hi (b.data.toList.drop k)
  have HN := Lib.hid htok
  clear htok
  generalize (dec (b.data.toList.drop k)).1 = r at *
  generalize (dec (b.data.toList.drop k)).2 = n at *
  have hn' : ((n : Int) == 0) = true := by simp [hn]
  clear hn
  have t0 : w3.cell? ⟨w.heap.size + 1 + 1, 0, none⟩ = some (.int .i64 0) := BT.cell 0
  have t1 : w3.cell? ⟨w.heap.size + 1 + 1, 1, none⟩ = some (.string ⟨#[]⟩) := BT.cell 1
  have t2 : w3.cell? ⟨w.heap.size + 1 + 1, 2, none⟩ = some (.int .u64 0) := BT.cell 2
  have t3 : w3.cell? ⟨w.heap.size + 1 + 1, 3, none⟩ = some (.int .i64 ln) := BT.cell 3
  have t4 : w3.cell? ⟨w.heap.size + 1 + 1, 4, none⟩ = some (.int .i64 cl) := BT.cell 4
  have zt := fun i => BT.frozen i
  have s0 : w3.cell? ⟨w.heap.size, 0, none⟩ = some (.int .i64 0) := BR.cell 0
  have s1 : w3.cell? ⟨w.heap.size, 1, none⟩ = some (.string ⟨#[]⟩) := BR.cell 1
  have s2 : w3.cell? ⟨w.heap.size, 2, none⟩ = some (.int .u64 0) := BR.cell 2
  have s3 : w3.cell? ⟨w.heap.size, 3, none⟩ = some (.int .i64 0) := BR.cell 3
  have s4 : w3.cell? ⟨w.heap.size, 4, none⟩ = some (.int .i64 0) := BR.cell 4
  have r0 : w3.cell? ⟨w.heap.size + 1, 0, none⟩ = some (.int .i64 0) := BF.cell 0
  have r1 : w3.cell? ⟨w.heap.size + 1, 1, none⟩ = some (.int .i64 0) := BF.cell 1
  have r2 : w3.cell? ⟨w.heap.size + 1, 2, none⟩ = some (.int .i64 0) := BF.cell 2
  have zs := fun i => BR.frozen i
  have zr := fun i => BF.frozen i
  clear BR BF BT
  go_wp2_with fail
  refine bodyPost_ret (v := .tuple #[.agg #[.int .i64 5, .string ⟨#[]⟩, .int .u64 0, .int .i64 ln, .int .i64 cl], .agg #[.int .i64 0, .int .i64 0, .int .i64 0]]) (by simp [results, Tryd.results23, go_sem, s0, s1, s2, s3, s4, r0, r1, r2]) rfl ⟨?_, .inr ⟨_, k, ln, cl, HN.out, Nat.le_refl _, hp, ?_, rfl⟩⟩
  · repeat (first | with_reducible refine Kept.setN ?_ (by omega) _ | with_reducible refine Kept.d ?_)
    exact Kept.of_below g hb3
  · repeat (first | with_reducible refine Blk.farN ?_ (by omega) _ | with_reducible refine Blk.d ?_)
    exact hB3
set_option maxHeartbeats 1000000 in
set_option maxRecDepth 10000 in
theorem token_digit (g : Nat) (b : ByteArray) (k ln cl : Nat) (oa : Option Addr) (on oc : Nat) (w : World) (hE : Env w) (hg : 3 ≤ g)
    (hB : Blk w g 55 (scs b k ln cl (.slice oa on oc))) (hp : Pos b k ln cl) (hn : (dec (b.data.toList.drop k)).2 ≠ 0) (hd : digB (dec (b.data.toList.drop k)).1 = true)
    (htok : tokenS (stOf b k ln cl) = match numS (stOf b k ln cl) with | .error f => .error f | .ok (v, s1) => .ok (⟨2, upTo (stOf b k ln cl) s1, v, ln, cl⟩, s1)) :
    Calls Tryd.prog 23 #[.pointer (some ⟨g, 0, none⟩)] w (TokDone g b (.slice oa on oc) k ln cl w) := by
  have c2 : w.cell? ⟨g, 2, none⟩ = some (.int .i64 ln) := hB.cell 2
  have c3 : w.cell? ⟨g, 3, none⟩ = some (.int .i64 cl) := hB.cell 3
  have hlt := hB.lt
  have a4 : ¬ w.heap.size + 1 + 1 = g := by omega
  have a5 : ¬ w.heap.size + 1 = g := by omega
  have a6 : ¬ w.heap.size = g := by omega
  have d2 := cellA2 c2
  have d3 := cellA2 c3
  have m2 := cellA3 c2
  have m3 := cellA3 c3
  clear c2 c3
  have hbw := fun n => Kit.Below.dn (n := n) (Kit.Below.al (Kit.Below.al (Kit.Below.al (Below.refl w.heap.size w) (.cells #[.int .i64 0, .string ⟨#[]⟩, .int .u64 0, .int .i64 0, .int .i64 0] 35)) (.cells #[.int .i64 0, .int .i64 0, .int .i64 0] 29)) (.cells #[.int .i64 0, .string ⟨#[]⟩, .int .u64 0, .int .i64 ln, .int .i64 cl] 35))
  go_enter Tryd.func23, Tryd.ntmps23
  go_wp2_with fail
  go_region_held3 (fun w' => w'.cell? ⟨g, 2, none⟩ = some (.int .i64 ln) ∧ w'.cell? ⟨g, 3, none⟩ = some (.int .i64 cl)) (first | exact ⟨d2 _ _, d3 _ _⟩ | exact ⟨m2 _ _ _, m3 _ _ _⟩ | go_keep) (fail)
  go_wp2_with fail
  refine (rune_any g b k ln cl (.slice oa on oc) _ (hE.below (hbw 1)) ((((hB.alloc _).alloc _).alloc _).drewN 1) hp.1).mono ?_
  rintro e w3 ⟨rfl, h3⟩
  have BR := ((((Blk.new w _ _).alloc _).alloc _).drew).below' h3
  have BF := (((Blk.newAt (sizeA w _) _ _).alloc _).drew).below' h3
  have BT := ((Blk.newAt (by rw [sizeA, sizeA]) _ _).drew).below' h3
  have hB3 := ((((hB.alloc _).alloc _).alloc _).drew).below' h3
  have hb3 := Kit.Below.then (hbw 1) h3
  clear h3 d2 d3 m2 m3 hbw
  have hlo := dec_lo (b.data.toList.drop k)
  have hhi := dec_hi (b.data.toList.drop k)
  have HN := Lib.hid htok
  clear htok
  generalize (dec (b.data.toList.drop k)).1 = r at *
  generalize (dec (b.data.toList.drop k)).2 = n at *
  have hn' : ((n : Int) == 0) = false := by simp; exact hn
  have HD : Hid (∀ w, Calls Tryd.prog 33 #[.int .i32 r] w fun e w' => e = .returned (.bool true) ∧ w = w') := fun w => by have := isDigit_any r w; rwa [hd] at this
  clear hn hd
  have HX := Lib.hid (number_any g b k ln cl ln cl oa on oc w3 (hE.below hb3) hg hB3 hp)
  have t0 : w3.cell? ⟨w.heap.size + 1 + 1, 0, none⟩ = some (.int .i64 0) := BT.cell 0
  have t1 : w3.cell? ⟨w.heap.size + 1 + 1, 1, none⟩ = some (.string ⟨#[]⟩) := BT.cell 1
  have t2 : w3.cell? ⟨w.heap.size + 1 + 1, 2, none⟩ = some (.int .u64 0) := BT.cell 2
  have t3 : w3.cell? ⟨w.heap.size + 1 + 1, 3, none⟩ = some (.int .i64 ln) := BT.cell 3
  have t4 : w3.cell? ⟨w.heap.size + 1 + 1, 4, none⟩ = some (.int .i64 cl) := BT.cell 4
  have zt := fun i => BT.frozen i
  go_wp2_with (first | (go_at_call 33; refine (HD.out _).mono ?_; rintro e w' ⟨rfl, rfl⟩))
  refine HX.out.mono ?_
  clear HX t0 t1 t2 t3 t4 zt BT
  rintro e w4 ⟨hK4, hcase⟩
  have BR4 := BR.kept hK4 (by omega)
  have BF4 := BF.kept hK4 (by omega)
  have hK := (Kept.of_below g hb3).trans hK4
  clear BR BF hK4
  have s0 : w4.cell? ⟨w.heap.size, 0, none⟩ = some (.int .i64 0) := BR4.cell 0
  have s1 : w4.cell? ⟨w.heap.size, 1, none⟩ = some (.string ⟨#[]⟩) := BR4.cell 1
  have s2 : w4.cell? ⟨w.heap.size, 2, none⟩ = some (.int .u64 0) := BR4.cell 2
  have s3 : w4.cell? ⟨w.heap.size, 3, none⟩ = some (.int .i64 0) := BR4.cell 3
  have s4 : w4.cell? ⟨w.heap.size, 4, none⟩ = some (.int .i64 0) := BR4.cell 4
  have r0 : w4.cell? ⟨w.heap.size + 1, 0, none⟩ = some (.int .i64 0) := BF4.cell 0
  have r1 : w4.cell? ⟨w.heap.size + 1, 1, none⟩ = some (.int .i64 0) := BF4.cell 1
  have r2 : w4.cell? ⟨w.heap.size + 1, 2, none⟩ = some (.int .i64 0) := BF4.cell 2
  have zs := fun i => BR4.frozen i
  have zr := fun i => BF4.frozen i
  rcases hcase with ⟨l, c, hnum, rfl⟩ | ⟨v, k1, l1, e1, hnum, hk1, hp1, hB4, rfl⟩
  · have HN2 := HN.out
    rw [hnum] at HN2
    have HN := Lib.hid HN2
    clear HN2 hnum
    go_wp2_with fail
    refine bodyPost_ret (v := .tuple #[.agg #[.int .i64 0, .string ⟨#[]⟩, .int .u64 0, .int .i64 ln, .int .i64 cl], .agg #[.int .i64 20, .int .i64 l, .int .i64 c]]) (by simp [results, Tryd.results23, go_sem, s0, s1, s2, s3, s4, r0, r1, r2]) rfl ⟨?_, .inl ⟨l, c, HN.out, rfl⟩⟩
    repeat (first | with_reducible refine Kept.setN ?_ (by omega) _ | with_reducible refine Kept.d ?_)
    exact hK
  · have HN2 := HN.out
    rw [hnum] at HN2
    simp only at HN2
    rw [upTo_st b k ln cl k1 l1 e1 hk1 hp1.1] at HN2
    have HN := Lib.hid HN2
    clear HN2 hnum
    go_wp2_with fail
    refine bodyPost_ret (v := .tuple #[.agg #[.int .i64 2, .string (b.extract k k1), .int .u64 v, .int .i64 ln, .int .i64 cl], .agg #[.int .i64 0, .int .i64 0, .int .i64 0]]) (by simp [results, Tryd.results23, go_sem, s0, s1, s2, s3, s4, r0, r1, r2]) rfl ⟨?_, .inr ⟨_, k1, l1, e1, HN.out, hk1, hp1, ?_, rfl⟩⟩
    · repeat (first | with_reducible refine Kept.setN ?_ (by omega) _ | with_reducible refine Kept.d ?_)
      exact hK
    · repeat (first | with_reducible refine Blk.farN ?_ (by omega) _ | with_reducible refine Blk.d ?_)
      exact hB4
end Go.Proofs.YtpamnnllijkpfaaDoor.LexW
