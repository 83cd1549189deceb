/- WALKS: the scanner's token: signs. -/
import Derived.Test.YtpamnnllijkpfaaDoorLexK
namespace Go.Proofs.YtpamnnllijkpfaaDoor.LexW
open Go Go.RowKit Go.Proofs.YtpamnnllijkpfaaDoor.Kit Go.Proofs.YtpamnnllijkpfaaDoor.LexP

set_option maxHeartbeats 1000000 in
set_option maxRecDepth 10000 in
theorem token_double (g : Nat) (b : ByteArray) (k ln cl : Nat) (oa : Option Addr) (on oc : Nat) (w : World) (hE : Env w) (hg : 3 ≤ g)
    (hB : Blk w g 55 (scs b k ln cl (.slice oa on oc))) (hp : Pos b k ln cl) (hn : (dec (b.data.toList.drop k)).2 ≠ 0) (hd : digB (dec (b.data.toList.drop k)).1 = false) (hl : letB (dec (b.data.toList.drop k)).1 = false)
    (hk2 : k + 2 ≤ b.size) (hc : Lib.contains doubleL (32 :: ((b.data.toList.drop k).take 2 ++ [32])) = true)
    (htok : tokenS (stOf b k ln cl) = .ok (⟨4, (b.extract k (k + 2)).data.toList, 0, ln, cl⟩, (stOf b k ln cl).step.step)) :
    Calls Tryd.prog 23 #[.pointer (some ⟨g, 0, none⟩)] w (TokDone g b (.slice oa on oc) k ln cl w) := by
  have c2 : w.cell? ⟨g, 2, none⟩ = some (.int .i64 ln) := hB.cell 2
  have c3 : w.cell? ⟨g, 3, none⟩ = some (.int .i64 cl) := hB.cell 3
  have hlt := hB.lt
  have a4 : ¬ w.heap.size + 1 + 1 = g := by omega
  have a5 : ¬ w.heap.size + 1 = g := by omega
  have a6 : ¬ w.heap.size = g := by omega
  have d2 := cellA2 c2
  have d3 := cellA2 c3
  have m2 := cellA3 c2
  have m3 := cellA3 c3
  clear c2 c3
  have hbw := fun n => Kit.Below.dn (n := n) (Kit.Below.al (Kit.Below.al (Kit.Below.al (Below.refl w.heap.size w) (.cells #[.int .i64 0, .string ⟨#[]⟩, .int .u64 0, .int .i64 0, .int .i64 0] 35)) (.cells #[.int .i64 0, .int .i64 0, .int .i64 0] 29)) (.cells #[.int .i64 0, .string ⟨#[]⟩, .int .u64 0, .int .i64 ln, .int .i64 cl] 35))
  go_enter Tryd.func23, Tryd.ntmps23
  go_wp2_with fail
  go_region_held3 (fun w' => w'.cell? ⟨g, 2, none⟩ = some (.int .i64 ln) ∧ w'.cell? ⟨g, 3, none⟩ = some (.int .i64 cl)) (first | exact ⟨d2 _ _, d3 _ _⟩ | exact ⟨m2 _ _ _, m3 _ _ _⟩ | go_keep) (fail)
  go_wp2_with fail
  refine (rune_any g b k ln cl (.slice oa on oc) _ (hE.below (hbw 1)) ((((hB.alloc _).alloc _).alloc _).drewN 1) hp.1).mono ?_
  rintro e w3 ⟨rfl, h3⟩
  have BR := ((((Blk.new w _ _).alloc _).alloc _).drew).below' h3
  have BF := (((Blk.newAt (sizeA w _) _ _).alloc _).drew).below' h3
  have BT := ((Blk.newAt (by rw [sizeA, sizeA]) _ _).drew).below' h3
  have hB3 := ((((hB.alloc _).alloc _).alloc _).drew).below' h3
  have hb3 := Kit.Below.then (hbw 1) h3
  clear h3 d2 d3 m2 m3 hbw
  have hlo := dec_lo (b.data.toList.drop k)
  have hhi := dec_hi (b.data.toList.drop k)
  have HN := Lib.hid htok
  clear htok
  generalize (dec (b.data.toList.drop k)).1 = r at *
  generalize (dec (b.data.toList.drop k)).2 = n at *
  have hn' : ((n : Int) == 0) = false := by simp; exact hn
  have HD : Hid (∀ w, Calls Tryd.prog 33 #[.int .i32 r] w fun e w' => e = .returned (.bool false) ∧ w = w') := fun w => by have := isDigit_any r w; rwa [hd] at this
  have HL : Hid (∀ w, Calls Tryd.prog 32 #[.int .i32 r] w fun e w' => e = .returned (.bool false) ∧ w = w') := fun w => by have := isLetter_any r w; rwa [hl] at this
  clear hn hd hl
  have hE3 := hE.below hb3
  have g0 : w3.cell? ⟨g, 0, none⟩ = some (.string b) := hB3.cell 0
  have g1 : w3.cell? ⟨g, 1, none⟩ = some (.int .i64 k) := hB3.cell 1
  have b0 : (0 : Int) ≤ (k : Int) := by omega
  have b1 : (k : Int) ≤ (b.size : Int) := by have := hp.1; omega
  have b2 : (b.size : Int) ≤ 65536 := by have := hp.2.1; omega
  go_wp2_with (first | (go_at_call 33; refine (HD.out _).mono ?_; rintro e w' ⟨rfl, rfl⟩) | (go_at_call 32; refine (HL.out _).mono ?_; rintro e w' ⟨rfl, rfl⟩))
  clear HD HL
  have b3 : (k : Int) + 2 ≤ (b.size : Int) := by omega
  have hext : (b.extract k (k + 2)).data.toList = (b.data.toList.drop k).take 2 := by rw [Lib.extract_data]; congr 1; omega
  have HC : Hid (∀ n : Nat, Calls Tryd.prog 34 #[.string ⟨doubleL.toArray⟩, .string (⟨#[32]⟩ ++ b.extract k (k + 2) ++ ⟨#[32]⟩)] (w3.drewN n) fun e w' => e = .returned (.bool true) ∧ w' = w3.drewN n) := fun n => by
    have h := Contains_any ⟨doubleL.toArray⟩ (⟨#[32]⟩ ++ b.extract k (k + 2) ++ ⟨#[32]⟩) (w3.drewN n) (hE3.below (Below_drewN _ n)) (by decide)
    have hsub : ((⟨#[32]⟩ : ByteArray) ++ b.extract k (k + 2) ++ ⟨#[32]⟩).data.toList = 32 :: ((b.data.toList.drop k).take 2 ++ [32]) := by
      rw [← hext]; simp [ByteArray.data_append]
    rw [hsub] at h
    have h2 : Lib.contains (⟨doubleL.toArray⟩ : ByteArray).data.toList (32 :: ((b.data.toList.drop k).take 2 ++ [32])) = true := hc
    rwa [h2] at h
  clear hc hext
  go_quiet ((go_at_call 34; exact Calls.quiet_of_same (HC.out _)))
  have keepW := fun (x : Nat) (u v : Value) => (Kept.setN (Kept.setN (Kept.d (Kept.drewN (Kept.of_below g hb3) x)) (b := w.heap.size + 1 + 1) (o := 0) (by omega) u) (b := w.heap.size + 1 + 1) (o := 1) (by omega) v)
  have t0 : w3.cell? ⟨w.heap.size + 1 + 1, 0, none⟩ = some (.int .i64 0) := BT.cell 0
  have t1 : w3.cell? ⟨w.heap.size + 1 + 1, 1, none⟩ = some (.string ⟨#[]⟩) := BT.cell 1
  have t2 : w3.cell? ⟨w.heap.size + 1 + 1, 2, none⟩ = some (.int .u64 0) := BT.cell 2
  have t3 : w3.cell? ⟨w.heap.size + 1 + 1, 3, none⟩ = some (.int .i64 ln) := BT.cell 3
  have t4 : w3.cell? ⟨w.heap.size + 1 + 1, 4, none⟩ = some (.int .i64 cl) := BT.cell 4
  have zt := fun i => BT.frozen i
  go_wp2_with (fail)
  have ws0 : (0 : Int) ≤ (k : Int) + 2 := by omega
  have ws1 : (k : Int) ≤ (k : Int) + 2 := by omega
  have ws4 : (k : Int) + 2 ≤ (b.size : Int) := by omega
  have ws2 : ((k : Int) + 2).toNat = k + 2 := by omega
  have ws3 : IntKind.i64.wrap ((k : Int) + 2) = (k : Int) + 2 := IntWalk.i64_in _ (by omega)
  go_region_held3 (fun w' => w'.cell? ⟨g, 0, none⟩ = some (.string b) ∧ w'.cell? ⟨g, 1, none⟩ = some (.int .i64 k)) (refine ⟨?_, ?_⟩ <;> (try with_reducible refine cellD ?_) <;> (repeat (with_reducible refine cellS ?_ (by omega))) <;> assumption) (fail)
  clear ws0 ws1 ws2 ws3 ws4
  go_wp2_with fail
  refine (step_any g b k ln cl (.slice oa on oc) _ (hE.kept (g := g) ?_ hg) ?_ hp.1 hp.2.1 (by have := hp.2.2.1; omega) (by have := hp.2.2.2; omega)).mono ?_
  · skip
    repeat (first | with_reducible refine Kept.setN ?_ (by omega) _ | with_reducible refine Kept.d ?_ | with_reducible refine Kept.drewN ?_ _)
    exact Kept.of_below g hb3
  · repeat (first | with_reducible refine Blk.farN ?_ (by omega) _ | with_reducible refine Blk.d ?_ | with_reducible refine Blk.drewN ?_ _)
    exact hB3
  rintro e w7 ⟨rfl, hB7, hK7⟩
  have BT7 : Blk w7 (w.heap.size + 1 + 1) 35 #[.int .i64 4, .string (b.extract k (k + 2)), .int .u64 0, .int .i64 ln, .int .i64 cl] := Blk.kept (by exact (BT.set 0 (.int .i64 4)).set 1 (.string (b.extract k (k + 2)))) hK7 (by omega)
  have BR7 : Blk w7 w.heap.size 35 #[.int .i64 0, .string ⟨#[]⟩, .int .u64 0, .int .i64 0, .int .i64 0] := Blk.kept (by exact (BR.farN (b := w.heap.size + 1 + 1) (by omega) (.int .i64 4)).farN (b := w.heap.size + 1 + 1) (by omega) (.string (b.extract k (k + 2)))) hK7 (by omega)
  have BF7 : Blk w7 (w.heap.size + 1) 29 #[.int .i64 0, .int .i64 0, .int .i64 0] := Blk.kept (by exact (BF.farN (b := w.heap.size + 1 + 1) (by omega) (.int .i64 4)).farN (b := w.heap.size + 1 + 1) (by omega) (.string (b.extract k (k + 2)))) hK7 (by omega)
  have hKw : Kept g w w7 := Kept.trans (by
    repeat (first | with_reducible refine Kept.setN ?_ (by omega) _ | with_reducible refine Kept.d ?_ | with_reducible refine Kept.drewN ?_ _)
    exact Kept.of_below g hb3) hK7
  have HS2 := Lib.hid (step_st b k ln cl)
  have hp2 := hp.step
  have hk2' : k ≤ k + (dec (b.data.toList.drop k)).2 := by omega
  generalize k + (dec (b.data.toList.drop k)).2 = k2 at *
  generalize (if (dec (b.data.toList.drop k)).1 = 10 then ln + 1 else ln) = l2 at *
  generalize (if (dec (b.data.toList.drop k)).1 = 10 then 1 else if 0 < (dec (b.data.toList.drop k)).2 then cl + 1 else cl) = e2 at *
  have hE7 := hE.kept hKw hg
  clear keepW t0 t1 t2 t3 t4 zt BT BR BF hK7 g0 g1 hB3
  go_wp2_with fail
  refine (step_any g b k2 l2 e2 (.slice oa on oc) w7 hE7 hB7 hp2.1 hp2.2.1 (by have := hp2.2.2.1; omega) (by have := hp2.2.2.2; omega)).mono ?_
  rintro e w9 ⟨rfl, hB9, hK9⟩
  have HS3 := Lib.hid (step_st b k2 l2 e2)
  have hp3 := hp2.step
  have hk3' : k2 ≤ k2 + (dec (b.data.toList.drop k2)).2 := by omega
  generalize k2 + (dec (b.data.toList.drop k2)).2 = k3 at *
  generalize (if (dec (b.data.toList.drop k2)).1 = 10 then l2 + 1 else l2) = l3 at *
  generalize (if (dec (b.data.toList.drop k2)).1 = 10 then 1 else if 0 < (dec (b.data.toList.drop k2)).2 then e2 + 1 else e2) = e3 at *
  have BT9 := BT7.kept hK9 (by omega)
  have BR9 := BR7.kept hK9 (by omega)
  have BF9 := BF7.kept hK9 (by omega)
  have hKz := hKw.trans hK9
  have HN2 := HN.out
  rw [HS2.out, HS3.out] at HN2
  have HN := Lib.hid HN2
  clear HN2 HS2 HS3 hK9 BT7 BR7 BF7
  have t0 : w9.cell? ⟨w.heap.size + 1 + 1, 0, none⟩ = some (.int .i64 4) := BT9.cell 0
  have t1 : w9.cell? ⟨w.heap.size + 1 + 1, 1, none⟩ = some (.string (b.extract k (k + 2))) := BT9.cell 1
  have t2 : w9.cell? ⟨w.heap.size + 1 + 1, 2, none⟩ = some (.int .u64 0) := BT9.cell 2
  have t3 : w9.cell? ⟨w.heap.size + 1 + 1, 3, none⟩ = some (.int .i64 ln) := BT9.cell 3
  have t4 : w9.cell? ⟨w.heap.size + 1 + 1, 4, none⟩ = some (.int .i64 cl) := BT9.cell 4
  have zt := fun i => BT9.frozen i
  have s0 : w9.cell? ⟨w.heap.size, 0, none⟩ = some (.int .i64 0) := BR9.cell 0
  have s1 : w9.cell? ⟨w.heap.size, 1, none⟩ = some (.string ⟨#[]⟩) := BR9.cell 1
  have s2 : w9.cell? ⟨w.heap.size, 2, none⟩ = some (.int .u64 0) := BR9.cell 2
  have s3 : w9.cell? ⟨w.heap.size, 3, none⟩ = some (.int .i64 0) := BR9.cell 3
  have s4 : w9.cell? ⟨w.heap.size, 4, none⟩ = some (.int .i64 0) := BR9.cell 4
  have r0 : w9.cell? ⟨w.heap.size + 1, 0, none⟩ = some (.int .i64 0) := BF9.cell 0
  have r1 : w9.cell? ⟨w.heap.size + 1, 1, none⟩ = some (.int .i64 0) := BF9.cell 1
  have r2 : w9.cell? ⟨w.heap.size + 1, 2, none⟩ = some (.int .i64 0) := BF9.cell 2
  have zs := fun i => BR9.frozen i
  have zr := fun i => BF9.frozen i
  go_wp2_with fail
  refine bodyPost_ret (v := .tuple #[.agg #[.int .i64 4, .string (b.extract k (k + 2)), .int .u64 0, .int .i64 ln, .int .i64 cl], .agg #[.int .i64 0, .int .i64 0, .int .i64 0]]) (by simp [results, Tryd.results23, go_sem, s0, s1, s2, s3, s4, r0, r1, r2]) rfl ⟨?_, .inr ⟨_, k3, l3, e3, HN.out, by omega, hp3, ?_, rfl⟩⟩
  · repeat (first | with_reducible refine Kept.setN ?_ (by omega) _ | with_reducible refine Kept.d ?_)
    exact hKz
  · repeat (first | with_reducible refine Blk.farN ?_ (by omega) _ | with_reducible refine Blk.d ?_)
    exact hB9
end Go.Proofs.YtpamnnllijkpfaaDoor.LexW
