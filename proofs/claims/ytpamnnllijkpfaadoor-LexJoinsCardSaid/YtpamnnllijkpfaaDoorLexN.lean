/- WALKS: the scanner's token: a rune that begins none; token. -/
import Derived.Test.YtpamnnllijkpfaaDoorLexM
namespace Go.Proofs.YtpamnnllijkpfaaDoor.LexW
open Go Go.RowKit Go.Proofs.YtpamnnllijkpfaaDoor.Kit Go.Proofs.YtpamnnllijkpfaaDoor.LexP

set_option maxHeartbeats 1000000 in
set_option maxRecDepth 10000 in
theorem token_badAR0 (g : Nat) (b : ByteArray) (k ln cl : Nat) (oa : Option Addr) (on oc : Nat) (w : World) (hE : Env w)
    (hB : Blk w g 55 (scs b k ln cl (.slice oa on oc))) (hp : Pos b k ln cl) (hn : (dec (b.data.toList.drop k)).2 ≠ 0) (hd : digB (dec (b.data.toList.drop k)).1 = false) (hl : letB (dec (b.data.toList.drop k)).1 = false)
    (hk2 : k + 2 ≤ b.size) (hc : Lib.contains doubleL (32 :: ((b.data.toList.drop k).take 2 ++ [32])) = false) (hr : (dec (b.data.toList.drop k)).1 ≤ 0)
    (htok : tokenS (stOf b k ln cl) = .error (ln, cl)) :
    Calls Tryd.prog 23 #[.pointer (some ⟨g, 0, none⟩)] w (TokDone g b (.slice oa on oc) k ln cl w) := by
  have c2 : w.cell? ⟨g, 2, none⟩ = some (.int .i64 ln) := hB.cell 2
  have c3 : w.cell? ⟨g, 3, none⟩ = some (.int .i64 cl) := hB.cell 3
  have hlt := hB.lt
  have a4 : ¬ w.heap.size + 1 + 1 = g := by omega
  have a5 : ¬ w.heap.size + 1 = g := by omega
  have a6 : ¬ w.heap.size = g := by omega
  have d2 := cellA2 c2
  have d3 := cellA2 c3
  have m2 := cellA3 c2
  have m3 := cellA3 c3
  clear c2 c3
  have hbw := fun n => Kit.Below.dn (n := n) (Kit.Below.al (Kit.Below.al (Kit.Below.al (Below.refl w.heap.size w) (.cells #[.int .i64 0, .string ⟨#[]⟩, .int .u64 0, .int .i64 0, .int .i64 0] 35)) (.cells #[.int .i64 0, .int .i64 0, .int .i64 0] 29)) (.cells #[.int .i64 0, .string ⟨#[]⟩, .int .u64 0, .int .i64 ln, .int .i64 cl] 35))
  go_enter Tryd.func23, Tryd.ntmps23
  go_wp2_with fail
  go_region_held3 (fun w' => w'.cell? ⟨g, 2, none⟩ = some (.int .i64 ln) ∧ w'.cell? ⟨g, 3, none⟩ = some (.int .i64 cl)) (first | exact ⟨d2 _ _, d3 _ _⟩ | exact ⟨m2 _ _ _, m3 _ _ _⟩ | go_keep) (fail)
  go_wp2_with fail
  refine (rune_any g b k ln cl (.slice oa on oc) _ (hE.below (hbw 1)) ((((hB.alloc _).alloc _).alloc _).drewN 1) hp.1).mono ?_
  rintro e w3 ⟨rfl, h3⟩
  have BR := ((((Blk.new w _ _).alloc _).alloc _).drew).below' h3
  have BF := (((Blk.newAt (sizeA w _) _ _).alloc _).drew).below' h3
  have BT := ((Blk.newAt (by rw [sizeA, sizeA]) _ _).drew).below' h3
  have hB3 := ((((hB.alloc _).alloc _).alloc _).drew).below' h3
  have hb3 := Kit.Below.then (hbw 1) h3
  clear h3 d2 d3 m2 m3 hbw
  have hlo := dec_lo (b.data.toList.drop k)
  have hhi := dec_hi (b.data.toList.drop k)
  have HN := Lib.hid htok
  clear htok
  generalize (dec (b.data.toList.drop k)).1 = r at *
  generalize (dec (b.data.toList.drop k)).2 = n at *
  have hn' : ((n : Int) == 0) = false := by simp; exact hn
  have HD : Hid (∀ w, Calls Tryd.prog 33 #[.int .i32 r] w fun e w' => e = .returned (.bool false) ∧ w = w') := fun w => by have := isDigit_any r w; rwa [hd] at this
  have HL : Hid (∀ w, Calls Tryd.prog 32 #[.int .i32 r] w fun e w' => e = .returned (.bool false) ∧ w = w') := fun w => by have := isLetter_any r w; rwa [hl] at this
  clear hn hd hl
  have hE3 := hE.below hb3
  have g0 : w3.cell? ⟨g, 0, none⟩ = some (.string b) := hB3.cell 0
  have g1 : w3.cell? ⟨g, 1, none⟩ = some (.int .i64 k) := hB3.cell 1
  have b0 : (0 : Int) ≤ (k : Int) := by omega
  have b1 : (k : Int) ≤ (b.size : Int) := by have := hp.1; omega
  have b2 : (b.size : Int) ≤ 65536 := by have := hp.2.1; omega
  go_wp2_with (first | (go_at_call 33; refine (HD.out _).mono ?_; rintro e w' ⟨rfl, rfl⟩) | (go_at_call 32; refine (HL.out _).mono ?_; rintro e w' ⟨rfl, rfl⟩))
  clear HD HL
  have b3 : (k : Int) + 2 ≤ (b.size : Int) := by omega
  have hext : (b.extract k (k + 2)).data.toList = (b.data.toList.drop k).take 2 := by rw [Lib.extract_data]; congr 1; omega
  have HC : Hid (∀ n : Nat, Calls Tryd.prog 34 #[.string ⟨doubleL.toArray⟩, .string (⟨#[32]⟩ ++ b.extract k (k + 2) ++ ⟨#[32]⟩)] (w3.drewN n) fun e w' => e = .returned (.bool false) ∧ w' = w3.drewN n) := fun n => by
    have h := Contains_any ⟨doubleL.toArray⟩ (⟨#[32]⟩ ++ b.extract k (k + 2) ++ ⟨#[32]⟩) (w3.drewN n) (hE3.below (Below_drewN _ n)) (by decide)
    have hsub : ((⟨#[32]⟩ : ByteArray) ++ b.extract k (k + 2) ++ ⟨#[32]⟩).data.toList = 32 :: ((b.data.toList.drop k).take 2 ++ [32]) := by
      rw [← hext]; simp [ByteArray.data_append]
    rw [hsub] at h
    have h2 : Lib.contains (⟨doubleL.toArray⟩ : ByteArray).data.toList (32 :: ((b.data.toList.drop k).take 2 ++ [32])) = false := hc
    rwa [h2] at h
  clear hc hext
  go_quiet ((go_at_call 34; exact Calls.quiet_of_same (HC.out _)))
  clear b1 b2 b3
  have hr' : r ≤ 0 := by omega
  go_wp2_with fail
  generalize hW : w3.drewN nq = w5
  have h5 : Below (w3.drewN nq).heap.size (w3.drewN nq) w5 := by rw [hW]; exact Below.refl _ _
  have BT5 := (BT.drewN nq).below' h5
  have BR5 := (BR.drewN nq).below' h5
  have BF5 := (BF.drewN nq).below' h5
  have hB5 := (hB3.drewN nq).below' h5
  have hb5 := Kit.Below.then (Kit.Below.dn (n := nq) hb3) h5
  clear h5 BT BR BF hB3 hb3 g0 g1 hE3
  have t0 : ∀ p : Cls (Below w5.heap.size w5), p.w.cell? ⟨w.heap.size + 1 + 1, 0, none⟩ = some (.int .i64 0) := fun p => BT5.cls 0 p
  have t1 : ∀ p : Cls (Below w5.heap.size w5), p.w.cell? ⟨w.heap.size + 1 + 1, 1, none⟩ = some (.string ⟨#[]⟩) := fun p => BT5.cls 1 p
  have t2 : ∀ p : Cls (Below w5.heap.size w5), p.w.cell? ⟨w.heap.size + 1 + 1, 2, none⟩ = some (.int .u64 0) := fun p => BT5.cls 2 p
  have t3 : ∀ p : Cls (Below w5.heap.size w5), p.w.cell? ⟨w.heap.size + 1 + 1, 3, none⟩ = some (.int .i64 ln) := fun p => BT5.cls 3 p
  have t4 : ∀ p : Cls (Below w5.heap.size w5), p.w.cell? ⟨w.heap.size + 1 + 1, 4, none⟩ = some (.int .i64 cl) := fun p => BT5.cls 4 p
  have CF : ∀ p : Cls (Below w5.heap.size w5), Hid (Calls Tryd.prog 45 #[.pointer (some ⟨g, 0, none⟩)] p.w fun e w' => e = .returned (.agg #[.int .i64 20, .int .i64 ln, .int .i64 cl]) ∧ ∃ q : Cls (Below w5.heap.size w5), w' = q.w) :=
    fun p => Calls.cls ((sfault_any g b _ ln cl _ p.w (hB5.below' p.h)).mono fun e w' ⟨h1, h2⟩ => ⟨h1, Kit.Below.then p.h h2⟩)
  go_wp2_with fail
  refine wp_region_cls_tail (Below w5.heap.size w5) 3 (Below_drewN _ 1) (by kernel_rfl) (by kernel_rfl) ?_
  intro hne
  simp only [List.take_succ_cons, List.take_zero, List.drop_succ_cons, List.drop_zero]
  repeat (go_big_quiet_step ((go_at_call 45; exact (CF _).out)))
  refine wpQuiet_nil ?_
  intro w8 h8
  clear hne
  clear t0 t1 t2 t3 t4 CF
  have BR8 := BR5.below' h8
  have BF8 := BF5.below' h8
  have s0 : w8.cell? ⟨w.heap.size, 0, none⟩ = some (.int .i64 0) := BR8.cell 0
  have s1 : w8.cell? ⟨w.heap.size, 1, none⟩ = some (.string ⟨#[]⟩) := BR8.cell 1
  have s2 : w8.cell? ⟨w.heap.size, 2, none⟩ = some (.int .u64 0) := BR8.cell 2
  have s3 : w8.cell? ⟨w.heap.size, 3, none⟩ = some (.int .i64 0) := BR8.cell 3
  have s4 : w8.cell? ⟨w.heap.size, 4, none⟩ = some (.int .i64 0) := BR8.cell 4
  have r0 : w8.cell? ⟨w.heap.size + 1, 0, none⟩ = some (.int .i64 0) := BF8.cell 0
  have r1 : w8.cell? ⟨w.heap.size + 1, 1, none⟩ = some (.int .i64 0) := BF8.cell 1
  have r2 : w8.cell? ⟨w.heap.size + 1, 2, none⟩ = some (.int .i64 0) := BF8.cell 2
  have zs := fun i => BR8.frozen i
  have zr := fun i => BF8.frozen i
  clear BR8 BF8 BR5 BF5
  go_wp2_with fail
  refine bodyPost_ret (v := .tuple #[.agg #[.int .i64 0, .string ⟨#[]⟩, .int .u64 0, .int .i64 ln, .int .i64 cl], .agg #[.int .i64 20, .int .i64 ln, .int .i64 cl]]) (by simp [results, Tryd.results23, go_sem, s0, s1, s2, s3, s4, r0, r1, r2]) rfl ⟨?_, .inl ⟨ln, cl, HN.out, rfl⟩⟩
  repeat (with_reducible refine Kept.setN ?_ (by omega) _)
  exact Kept.of_below g (Kit.Below.then hb5 h8)
set_option maxHeartbeats 1000000 in
set_option maxRecDepth 10000 in
theorem token_badBR0 (g : Nat) (b : ByteArray) (k ln cl : Nat) (oa : Option Addr) (on oc : Nat) (w : World) (hE : Env w)
    (hB : Blk w g 55 (scs b k ln cl (.slice oa on oc))) (hp : Pos b k ln cl) (hn : (dec (b.data.toList.drop k)).2 ≠ 0) (hd : digB (dec (b.data.toList.drop k)).1 = false) (hl : letB (dec (b.data.toList.drop k)).1 = false)
    (hk2 : b.size < k + 2) (hr : (dec (b.data.toList.drop k)).1 ≤ 0)
    (htok : tokenS (stOf b k ln cl) = .error (ln, cl)) :
    Calls Tryd.prog 23 #[.pointer (some ⟨g, 0, none⟩)] w (TokDone g b (.slice oa on oc) k ln cl w) := by
  have c2 : w.cell? ⟨g, 2, none⟩ = some (.int .i64 ln) := hB.cell 2
  have c3 : w.cell? ⟨g, 3, none⟩ = some (.int .i64 cl) := hB.cell 3
  have hlt := hB.lt
  have a4 : ¬ w.heap.size + 1 + 1 = g := by omega
  have a5 : ¬ w.heap.size + 1 = g := by omega
  have a6 : ¬ w.heap.size = g := by omega
  have d2 := cellA2 c2
  have d3 := cellA2 c3
  have m2 := cellA3 c2
  have m3 := cellA3 c3
  clear c2 c3
  have hbw := fun n => Kit.Below.dn (n := n) (Kit.Below.al (Kit.Below.al (Kit.Below.al (Below.refl w.heap.size w) (.cells #[.int .i64 0, .string ⟨#[]⟩, .int .u64 0, .int .i64 0, .int .i64 0] 35)) (.cells #[.int .i64 0, .int .i64 0, .int .i64 0] 29)) (.cells #[.int .i64 0, .string ⟨#[]⟩, .int .u64 0, .int .i64 ln, .int .i64 cl] 35))
  go_enter Tryd.func23, Tryd.ntmps23
  go_wp2_with fail
  go_region_held3 (fun w' => w'.cell? ⟨g, 2, none⟩ = some (.int .i64 ln) ∧ w'.cell? ⟨g, 3, none⟩ = some (.int .i64 cl)) (first | exact ⟨d2 _ _, d3 _ _⟩ | exact ⟨m2 _ _ _, m3 _ _ _⟩ | go_keep) (fail)
  go_wp2_with fail
  refine (rune_any g b k ln cl (.slice oa on oc) _ (hE.below (hbw 1)) ((((hB.alloc _).alloc _).alloc _).drewN 1) hp.1).mono ?_
  rintro e w3 ⟨rfl, h3⟩
  have BR := ((((Blk.new w _ _).alloc _).alloc _).drew).below' h3
  have BF := (((Blk.newAt (sizeA w _) _ _).alloc _).drew).below' h3
  have BT := ((Blk.newAt (by rw [sizeA, sizeA]) _ _).drew).below' h3
  have hB3 := ((((hB.alloc _).alloc _).alloc _).drew).below' h3
  have hb3 := Kit.Below.then (hbw 1) h3
  clear h3 d2 d3 m2 m3 hbw
  have hlo := dec_lo (b.data.toList.drop k)
  have hhi := dec_hi (b.data.toList.drop k)
  have HN := Lib.hid htok
  clear htok
  generalize (dec (b.data.toList.drop k)).1 = r at *
  generalize (dec (b.data.toList.drop k)).2 = n at *
  have hn' : ((n : Int) == 0) = false := by simp; exact hn
  have HD : Hid (∀ w, Calls Tryd.prog 33 #[.int .i32 r] w fun e w' => e = .returned (.bool false) ∧ w = w') := fun w => by have := isDigit_any r w; rwa [hd] at this
  have HL : Hid (∀ w, Calls Tryd.prog 32 #[.int .i32 r] w fun e w' => e = .returned (.bool false) ∧ w = w') := fun w => by have := isLetter_any r w; rwa [hl] at this
  clear hn hd hl
  have hE3 := hE.below hb3
  have g0 : w3.cell? ⟨g, 0, none⟩ = some (.string b) := hB3.cell 0
  have g1 : w3.cell? ⟨g, 1, none⟩ = some (.int .i64 k) := hB3.cell 1
  have b0 : (0 : Int) ≤ (k : Int) := by omega
  have b1 : (k : Int) ≤ (b.size : Int) := by have := hp.1; omega
  have b2 : (b.size : Int) ≤ 65536 := by have := hp.2.1; omega
  go_wp2_with (first | (go_at_call 33; refine (HD.out _).mono ?_; rintro e w' ⟨rfl, rfl⟩) | (go_at_call 32; refine (HL.out _).mono ?_; rintro e w' ⟨rfl, rfl⟩))
  clear HD HL
  have b3 : (b.size : Int) < (k : Int) + 2 := by omega
  have hdec : decide ((k : Int) + 2 ≤ (b.size : Int)) = false := by simp; omega
  go_quiet (fail)
  clear b1 b2 b3
  have hr' : r ≤ 0 := by omega
  go_wp2_with fail
  generalize hW : w3.drewN nq = w5
  have h5 : Below (w3.drewN nq).heap.size (w3.drewN nq) w5 := by rw [hW]; exact Below.refl _ _
  have BT5 := (BT.drewN nq).below' h5
  have BR5 := (BR.drewN nq).below' h5
  have BF5 := (BF.drewN nq).below' h5
  have hB5 := (hB3.drewN nq).below' h5
  have hb5 := Kit.Below.then (Kit.Below.dn (n := nq) hb3) h5
  clear h5 BT BR BF hB3 hb3 g0 g1 hE3
  have t0 : ∀ p : Cls (Below w5.heap.size w5), p.w.cell? ⟨w.heap.size + 1 + 1, 0, none⟩ = some (.int .i64 0) := fun p => BT5.cls 0 p
  have t1 : ∀ p : Cls (Below w5.heap.size w5), p.w.cell? ⟨w.heap.size + 1 + 1, 1, none⟩ = some (.string ⟨#[]⟩) := fun p => BT5.cls 1 p
  have t2 : ∀ p : Cls (Below w5.heap.size w5), p.w.cell? ⟨w.heap.size + 1 + 1, 2, none⟩ = some (.int .u64 0) := fun p => BT5.cls 2 p
  have t3 : ∀ p : Cls (Below w5.heap.size w5), p.w.cell? ⟨w.heap.size + 1 + 1, 3, none⟩ = some (.int .i64 ln) := fun p => BT5.cls 3 p
  have t4 : ∀ p : Cls (Below w5.heap.size w5), p.w.cell? ⟨w.heap.size + 1 + 1, 4, none⟩ = some (.int .i64 cl) := fun p => BT5.cls 4 p
  have CF : ∀ p : Cls (Below w5.heap.size w5), Hid (Calls Tryd.prog 45 #[.pointer (some ⟨g, 0, none⟩)] p.w fun e w' => e = .returned (.agg #[.int .i64 20, .int .i64 ln, .int .i64 cl]) ∧ ∃ q : Cls (Below w5.heap.size w5), w' = q.w) :=
    fun p => Calls.cls ((sfault_any g b _ ln cl _ p.w (hB5.below' p.h)).mono fun e w' ⟨h1, h2⟩ => ⟨h1, Kit.Below.then p.h h2⟩)
  go_wp2_with fail
  refine wp_region_cls_tail (Below w5.heap.size w5) 3 (Below_drewN _ 1) (by kernel_rfl) (by kernel_rfl) ?_
  intro hne
  simp only [List.take_succ_cons, List.take_zero, List.drop_succ_cons, List.drop_zero]
  repeat (go_big_quiet_step ((go_at_call 45; exact (CF _).out)))
  refine wpQuiet_nil ?_
  intro w8 h8
  clear hne
  clear t0 t1 t2 t3 t4 CF
  have BR8 := BR5.below' h8
  have BF8 := BF5.below' h8
  have s0 : w8.cell? ⟨w.heap.size, 0, none⟩ = some (.int .i64 0) := BR8.cell 0
  have s1 : w8.cell? ⟨w.heap.size, 1, none⟩ = some (.string ⟨#[]⟩) := BR8.cell 1
  have s2 : w8.cell? ⟨w.heap.size, 2, none⟩ = some (.int .u64 0) := BR8.cell 2
  have s3 : w8.cell? ⟨w.heap.size, 3, none⟩ = some (.int .i64 0) := BR8.cell 3
  have s4 : w8.cell? ⟨w.heap.size, 4, none⟩ = some (.int .i64 0) := BR8.cell 4
  have r0 : w8.cell? ⟨w.heap.size + 1, 0, none⟩ = some (.int .i64 0) := BF8.cell 0
  have r1 : w8.cell? ⟨w.heap.size + 1, 1, none⟩ = some (.int .i64 0) := BF8.cell 1
  have r2 : w8.cell? ⟨w.heap.size + 1, 2, none⟩ = some (.int .i64 0) := BF8.cell 2
  have zs := fun i => BR8.frozen i
  have zr := fun i => BF8.frozen i
  clear BR8 BF8 BR5 BF5
  go_wp2_with fail
  refine bodyPost_ret (v := .tuple #[.agg #[.int .i64 0, .string ⟨#[]⟩, .int .u64 0, .int .i64 ln, .int .i64 cl], .agg #[.int .i64 20, .int .i64 ln, .int .i64 cl]]) (by simp [results, Tryd.results23, go_sem, s0, s1, s2, s3, s4, r0, r1, r2]) rfl ⟨?_, .inl ⟨ln, cl, HN.out, rfl⟩⟩
  repeat (with_reducible refine Kept.setN ?_ (by omega) _)
  exact Kept.of_below g (Kit.Below.then hb5 h8)
set_option maxHeartbeats 1000000 in
set_option maxRecDepth 10000 in
theorem token_badAR1 (g : Nat) (b : ByteArray) (k ln cl : Nat) (oa : Option Addr) (on oc : Nat) (w : World) (hE : Env w)
    (hB : Blk w g 55 (scs b k ln cl (.slice oa on oc))) (hp : Pos b k ln cl) (hn : (dec (b.data.toList.drop k)).2 ≠ 0) (hd : digB (dec (b.data.toList.drop k)).1 = false) (hl : letB (dec (b.data.toList.drop k)).1 = false)
    (hk2 : k + 2 ≤ b.size) (hc : Lib.contains doubleL (32 :: ((b.data.toList.drop k).take 2 ++ [32])) = false) (hr : 0 < (dec (b.data.toList.drop k)).1 ∧ sg1 (dec (b.data.toList.drop k)).1 = false)
    (htok : tokenS (stOf b k ln cl) = .error (ln, cl)) :
    Calls Tryd.prog 23 #[.pointer (some ⟨g, 0, none⟩)] w (TokDone g b (.slice oa on oc) k ln cl w) := by
  have c2 : w.cell? ⟨g, 2, none⟩ = some (.int .i64 ln) := hB.cell 2
  have c3 : w.cell? ⟨g, 3, none⟩ = some (.int .i64 cl) := hB.cell 3
  have hlt := hB.lt
  have a4 : ¬ w.heap.size + 1 + 1 = g := by omega
  have a5 : ¬ w.heap.size + 1 = g := by omega
  have a6 : ¬ w.heap.size = g := by omega
  have d2 := cellA2 c2
  have d3 := cellA2 c3
  have m2 := cellA3 c2
  have m3 := cellA3 c3
  clear c2 c3
  have hbw := fun n => Kit.Below.dn (n := n) (Kit.Below.al (Kit.Below.al (Kit.Below.al (Below.refl w.heap.size w) (.cells #[.int .i64 0, .string ⟨#[]⟩, .int .u64 0, .int .i64 0, .int .i64 0] 35)) (.cells #[.int .i64 0, .int .i64 0, .int .i64 0] 29)) (.cells #[.int .i64 0, .string ⟨#[]⟩, .int .u64 0, .int .i64 ln, .int .i64 cl] 35))
  go_enter Tryd.func23, Tryd.ntmps23
  go_wp2_with fail
  go_region_held3 (fun w' => w'.cell? ⟨g, 2, none⟩ = some (.int .i64 ln) ∧ w'.cell? ⟨g, 3, none⟩ = some (.int .i64 cl)) (first | exact ⟨d2 _ _, d3 _ _⟩ | exact ⟨m2 _ _ _, m3 _ _ _⟩ | go_keep) (fail)
  go_wp2_with fail
  refine (rune_any g b k ln cl (.slice oa on oc) _ (hE.below (hbw 1)) ((((hB.alloc _).alloc _).alloc _).drewN 1) hp.1).mono ?_
  rintro e w3 ⟨rfl, h3⟩
  have BR := ((((Blk.new w _ _).alloc _).alloc _).drew).below' h3
  have BF := (((Blk.newAt (sizeA w _) _ _).alloc _).drew).below' h3
  have BT := ((Blk.newAt (by rw [sizeA, sizeA]) _ _).drew).below' h3
  have hB3 := ((((hB.alloc _).alloc _).alloc _).drew).below' h3
  have hb3 := Kit.Below.then (hbw 1) h3
  clear h3 d2 d3 m2 m3 hbw
  have hlo := dec_lo (b.data.toList.drop k)
  have hhi := dec_hi (b.data.toList.drop k)
  have HN := Lib.hid htok
  clear htok
  generalize (dec (b.data.toList.drop k)).1 = r at *
  generalize (dec (b.data.toList.drop k)).2 = n at *
  have hn' : ((n : Int) == 0) = false := by simp; exact hn
  have HD : Hid (∀ w, Calls Tryd.prog 33 #[.int .i32 r] w fun e w' => e = .returned (.bool false) ∧ w = w') := fun w => by have := isDigit_any r w; rwa [hd] at this
  have HL : Hid (∀ w, Calls Tryd.prog 32 #[.int .i32 r] w fun e w' => e = .returned (.bool false) ∧ w = w') := fun w => by have := isLetter_any r w; rwa [hl] at this
  clear hn hd hl
  have hE3 := hE.below hb3
  have g0 : w3.cell? ⟨g, 0, none⟩ = some (.string b) := hB3.cell 0
  have g1 : w3.cell? ⟨g, 1, none⟩ = some (.int .i64 k) := hB3.cell 1
  have b0 : (0 : Int) ≤ (k : Int) := by omega
  have b1 : (k : Int) ≤ (b.size : Int) := by have := hp.1; omega
  have b2 : (b.size : Int) ≤ 65536 := by have := hp.2.1; omega
  go_wp2_with (first | (go_at_call 33; refine (HD.out _).mono ?_; rintro e w' ⟨rfl, rfl⟩) | (go_at_call 32; refine (HL.out _).mono ?_; rintro e w' ⟨rfl, rfl⟩))
  clear HD HL
  have b3 : (k : Int) + 2 ≤ (b.size : Int) := by omega
  have hext : (b.extract k (k + 2)).data.toList = (b.data.toList.drop k).take 2 := by rw [Lib.extract_data]; congr 1; omega
  have HC : Hid (∀ n : Nat, Calls Tryd.prog 34 #[.string ⟨doubleL.toArray⟩, .string (⟨#[32]⟩ ++ b.extract k (k + 2) ++ ⟨#[32]⟩)] (w3.drewN n) fun e w' => e = .returned (.bool false) ∧ w' = w3.drewN n) := fun n => by
    have h := Contains_any ⟨doubleL.toArray⟩ (⟨#[32]⟩ ++ b.extract k (k + 2) ++ ⟨#[32]⟩) (w3.drewN n) (hE3.below (Below_drewN _ n)) (by decide)
    have hsub : ((⟨#[32]⟩ : ByteArray) ++ b.extract k (k + 2) ++ ⟨#[32]⟩).data.toList = 32 :: ((b.data.toList.drop k).take 2 ++ [32]) := by
      rw [← hext]; simp [ByteArray.data_append]
    rw [hsub] at h
    have h2 : Lib.contains (⟨doubleL.toArray⟩ : ByteArray).data.toList (32 :: ((b.data.toList.drop k).take 2 ++ [32])) = false := hc
    rwa [h2] at h
  clear hc hext
  go_quiet ((go_at_call 34; exact Calls.quiet_of_same (HC.out _)))
  clear b1 b2 b3
  have HS : Hid (∀ w, Calls Tryd.prog 44 #[.string single, .int .i32 r] w fun e w' => e = .returned (.bool false) ∧ Below w.heap.size w w') := fun w => by have := containsRune_any r hr.1 hhi w; rwa [hr.2] at this
  have hr' : 0 < r := hr.1
  clear hr
  go_wp2_with (go_at_call 44; refine (HS.out _).mono ?_; rintro e w5 ⟨rfl, h5⟩)
  have BT5 := (BT.drewN nq).below' h5
  have BR5 := (BR.drewN nq).below' h5
  have BF5 := (BF.drewN nq).below' h5
  have hB5 := (hB3.drewN nq).below' h5
  have hb5 := Kit.Below.then (Kit.Below.dn (n := nq) hb3) h5
  clear h5 BT BR BF hB3 hb3 g0 g1 hE3
  have t0 : ∀ p : Cls (Below w5.heap.size w5), p.w.cell? ⟨w.heap.size + 1 + 1, 0, none⟩ = some (.int .i64 0) := fun p => BT5.cls 0 p
  have t1 : ∀ p : Cls (Below w5.heap.size w5), p.w.cell? ⟨w.heap.size + 1 + 1, 1, none⟩ = some (.string ⟨#[]⟩) := fun p => BT5.cls 1 p
  have t2 : ∀ p : Cls (Below w5.heap.size w5), p.w.cell? ⟨w.heap.size + 1 + 1, 2, none⟩ = some (.int .u64 0) := fun p => BT5.cls 2 p
  have t3 : ∀ p : Cls (Below w5.heap.size w5), p.w.cell? ⟨w.heap.size + 1 + 1, 3, none⟩ = some (.int .i64 ln) := fun p => BT5.cls 3 p
  have t4 : ∀ p : Cls (Below w5.heap.size w5), p.w.cell? ⟨w.heap.size + 1 + 1, 4, none⟩ = some (.int .i64 cl) := fun p => BT5.cls 4 p
  have CF : ∀ p : Cls (Below w5.heap.size w5), Hid (Calls Tryd.prog 45 #[.pointer (some ⟨g, 0, none⟩)] p.w fun e w' => e = .returned (.agg #[.int .i64 20, .int .i64 ln, .int .i64 cl]) ∧ ∃ q : Cls (Below w5.heap.size w5), w' = q.w) :=
    fun p => Calls.cls ((sfault_any g b _ ln cl _ p.w (hB5.below' p.h)).mono fun e w' ⟨h1, h2⟩ => ⟨h1, Kit.Below.then p.h h2⟩)
  go_wp2_with fail
  refine wp_region_cls_tail (Below w5.heap.size w5) 3 (Below_drewN _ 1) (by kernel_rfl) (by kernel_rfl) ?_
  intro hne
  simp only [List.take_succ_cons, List.take_zero, List.drop_succ_cons, List.drop_zero]
  repeat (go_big_quiet_step ((go_at_call 45; exact (CF _).out)))
  refine wpQuiet_nil ?_
  intro w8 h8
  clear hne
  clear t0 t1 t2 t3 t4 CF
  have BR8 := BR5.below' h8
  have BF8 := BF5.below' h8
  have s0 : w8.cell? ⟨w.heap.size, 0, none⟩ = some (.int .i64 0) := BR8.cell 0
  have s1 : w8.cell? ⟨w.heap.size, 1, none⟩ = some (.string ⟨#[]⟩) := BR8.cell 1
  have s2 : w8.cell? ⟨w.heap.size, 2, none⟩ = some (.int .u64 0) := BR8.cell 2
  have s3 : w8.cell? ⟨w.heap.size, 3, none⟩ = some (.int .i64 0) := BR8.cell 3
  have s4 : w8.cell? ⟨w.heap.size, 4, none⟩ = some (.int .i64 0) := BR8.cell 4
  have r0 : w8.cell? ⟨w.heap.size + 1, 0, none⟩ = some (.int .i64 0) := BF8.cell 0
  have r1 : w8.cell? ⟨w.heap.size + 1, 1, none⟩ = some (.int .i64 0) := BF8.cell 1
  have r2 : w8.cell? ⟨w.heap.size + 1, 2, none⟩ = some (.int .i64 0) := BF8.cell 2
  have zs := fun i => BR8.frozen i
  have zr := fun i => BF8.frozen i
  clear BR8 BF8 BR5 BF5
  go_wp2_with fail
  refine bodyPost_ret (v := .tuple #[.agg #[.int .i64 0, .string ⟨#[]⟩, .int .u64 0, .int .i64 ln, .int .i64 cl], .agg #[.int .i64 20, .int .i64 ln, .int .i64 cl]]) (by simp [results, Tryd.results23, go_sem, s0, s1, s2, s3, s4, r0, r1, r2]) rfl ⟨?_, .inl ⟨ln, cl, HN.out, rfl⟩⟩
  repeat (with_reducible refine Kept.setN ?_ (by omega) _)
  exact Kept.of_below g (Kit.Below.then hb5 h8)
set_option maxHeartbeats 1000000 in
set_option maxRecDepth 10000 in
theorem token_badBR1 (g : Nat) (b : ByteArray) (k ln cl : Nat) (oa : Option Addr) (on oc : Nat) (w : World) (hE : Env w)
    (hB : Blk w g 55 (scs b k ln cl (.slice oa on oc))) (hp : Pos b k ln cl) (hn : (dec (b.data.toList.drop k)).2 ≠ 0) (hd : digB (dec (b.data.toList.drop k)).1 = false) (hl : letB (dec (b.data.toList.drop k)).1 = false)
    (hk2 : b.size < k + 2) (hr : 0 < (dec (b.data.toList.drop k)).1 ∧ sg1 (dec (b.data.toList.drop k)).1 = false)
    (htok : tokenS (stOf b k ln cl) = .error (ln, cl)) :
    Calls Tryd.prog 23 #[.pointer (some ⟨g, 0, none⟩)] w (TokDone g b (.slice oa on oc) k ln cl w) := by
  have c2 : w.cell? ⟨g, 2, none⟩ = some (.int .i64 ln) := hB.cell 2
  have c3 : w.cell? ⟨g, 3, none⟩ = some (.int .i64 cl) := hB.cell 3
  have hlt := hB.lt
  have a4 : ¬ w.heap.size + 1 + 1 = g := by omega
  have a5 : ¬ w.heap.size + 1 = g := by omega
  have a6 : ¬ w.heap.size = g := by omega
  have d2 := cellA2 c2
  have d3 := cellA2 c3
  have m2 := cellA3 c2
  have m3 := cellA3 c3
  clear c2 c3
  have hbw := fun n => Kit.Below.dn (n := n) (Kit.Below.al (Kit.Below.al (Kit.Below.al (Below.refl w.heap.size w) (.cells #[.int .i64 0, .string ⟨#[]⟩, .int .u64 0, .int .i64 0, .int .i64 0] 35)) (.cells #[.int .i64 0, .int .i64 0, .int .i64 0] 29)) (.cells #[.int .i64 0, .string ⟨#[]⟩, .int .u64 0, .int .i64 ln, .int .i64 cl] 35))
  go_enter Tryd.func23, Tryd.ntmps23
  go_wp2_with fail
  go_region_held3 (fun w' => w'.cell? ⟨g, 2, none⟩ = some (.int .i64 ln) ∧ w'.cell? ⟨g, 3, none⟩ = some (.int .i64 cl)) (first | exact ⟨d2 _ _, d3 _ _⟩ | exact ⟨m2 _ _ _, m3 _ _ _⟩ | go_keep) (fail)
  go_wp2_with fail
  refine (rune_any g b k ln cl (.slice oa on oc) _ (hE.below (hbw 1)) ((((hB.alloc _).alloc _).alloc _).drewN 1) hp.1).mono ?_
  rintro e w3 ⟨rfl, h3⟩
  have BR := ((((Blk.new w _ _).alloc _).alloc _).drew).below' h3
  have BF := (((Blk.newAt (sizeA w _) _ _).alloc _).drew).below' h3
  have BT := ((Blk.newAt (by rw [sizeA, sizeA]) _ _).drew).below' h3
  have hB3 := ((((hB.alloc _).alloc _).alloc _).drew).below' h3
  have hb3 := Kit.Below.then (hbw 1) h3
  clear h3 d2 d3 m2 m3 hbw
  have hlo := dec_lo (b.data.toList.drop k)
  have hhi := dec_hi (b.data.toList.drop k)
  have HN := Lib.hid htok
  clear htok
  generalize (dec (b.data.toList.drop k)).1 = r at *
  generalize (dec (b.data.toList.drop k)).2 = n at *
  have hn' : ((n : Int) == 0) = false := by simp; exact hn
  have HD : Hid (∀ w, Calls Tryd.prog 33 #[.int .i32 r] w fun e w' => e = .returned (.bool false) ∧ w = w') := fun w => by have := isDigit_any r w; rwa [hd] at this
  have HL : Hid (∀ w, Calls Tryd.prog 32 #[.int .i32 r] w fun e w' => e = .returned (.bool false) ∧ w = w') := fun w => by have := isLetter_any r w; rwa [hl] at this
  clear hn hd hl
  have hE3 := hE.below hb3
  have g0 : w3.cell? ⟨g, 0, none⟩ = some (.string b) := hB3.cell 0
  have g1 : w3.cell? ⟨g, 1, none⟩ = some (.int .i64 k) := hB3.cell 1
  have b0 : (0 : Int) ≤ (k : Int) := by omega
  have b1 : (k : Int) ≤ (b.size : Int) := by have := hp.1; omega
  have b2 : (b.size : Int) ≤ 65536 := by have := hp.2.1; omega
  go_wp2_with (first | (go_at_call 33; refine (HD.out _).mono ?_; rintro e w' ⟨rfl, rfl⟩) | (go_at_call 32; refine (HL.out _).mono ?_; rintro e w' ⟨rfl, rfl⟩))
  clear HD HL
  have b3 : (b.size : Int) < (k : Int) + 2 := by omega
  have hdec : decide ((k : Int) + 2 ≤ (b.size : Int)) = false := by simp; omega
  go_quiet (fail)
  clear b1 b2 b3
  have HS : Hid (∀ w, Calls Tryd.prog 44 #[.string single, .int .i32 r] w fun e w' => e = .returned (.bool false) ∧ Below w.heap.size w w') := fun w => by have := containsRune_any r hr.1 hhi w; rwa [hr.2] at this
  have hr' : 0 < r := hr.1
  clear hr
  go_wp2_with (go_at_call 44; refine (HS.out _).mono ?_; rintro e w5 ⟨rfl, h5⟩)
  have BT5 := (BT.drewN nq).below' h5
  have BR5 := (BR.drewN nq).below' h5
  have BF5 := (BF.drewN nq).below' h5
  have hB5 := (hB3.drewN nq).below' h5
  have hb5 := Kit.Below.then (Kit.Below.dn (n := nq) hb3) h5
  clear h5 BT BR BF hB3 hb3 g0 g1 hE3
  have t0 : ∀ p : Cls (Below w5.heap.size w5), p.w.cell? ⟨w.heap.size + 1 + 1, 0, none⟩ = some (.int .i64 0) := fun p => BT5.cls 0 p
  have t1 : ∀ p : Cls (Below w5.heap.size w5), p.w.cell? ⟨w.heap.size + 1 + 1, 1, none⟩ = some (.string ⟨#[]⟩) := fun p => BT5.cls 1 p
  have t2 : ∀ p : Cls (Below w5.heap.size w5), p.w.cell? ⟨w.heap.size + 1 + 1, 2, none⟩ = some (.int .u64 0) := fun p => BT5.cls 2 p
  have t3 : ∀ p : Cls (Below w5.heap.size w5), p.w.cell? ⟨w.heap.size + 1 + 1, 3, none⟩ = some (.int .i64 ln) := fun p => BT5.cls 3 p
  have t4 : ∀ p : Cls (Below w5.heap.size w5), p.w.cell? ⟨w.heap.size + 1 + 1, 4, none⟩ = some (.int .i64 cl) := fun p => BT5.cls 4 p
  have CF : ∀ p : Cls (Below w5.heap.size w5), Hid (Calls Tryd.prog 45 #[.pointer (some ⟨g, 0, none⟩)] p.w fun e w' => e = .returned (.agg #[.int .i64 20, .int .i64 ln, .int .i64 cl]) ∧ ∃ q : Cls (Below w5.heap.size w5), w' = q.w) :=
    fun p => Calls.cls ((sfault_any g b _ ln cl _ p.w (hB5.below' p.h)).mono fun e w' ⟨h1, h2⟩ => ⟨h1, Kit.Below.then p.h h2⟩)
  go_wp2_with fail
  refine wp_region_cls_tail (Below w5.heap.size w5) 3 (Below_drewN _ 1) (by kernel_rfl) (by kernel_rfl) ?_
  intro hne
  simp only [List.take_succ_cons, List.take_zero, List.drop_succ_cons, List.drop_zero]
  repeat (go_big_quiet_step ((go_at_call 45; exact (CF _).out)))
  refine wpQuiet_nil ?_
  intro w8 h8
  clear hne
  clear t0 t1 t2 t3 t4 CF
  have BR8 := BR5.below' h8
  have BF8 := BF5.below' h8
  have s0 : w8.cell? ⟨w.heap.size, 0, none⟩ = some (.int .i64 0) := BR8.cell 0
  have s1 : w8.cell? ⟨w.heap.size, 1, none⟩ = some (.string ⟨#[]⟩) := BR8.cell 1
  have s2 : w8.cell? ⟨w.heap.size, 2, none⟩ = some (.int .u64 0) := BR8.cell 2
  have s3 : w8.cell? ⟨w.heap.size, 3, none⟩ = some (.int .i64 0) := BR8.cell 3
  have s4 : w8.cell? ⟨w.heap.size, 4, none⟩ = some (.int .i64 0) := BR8.cell 4
  have r0 : w8.cell? ⟨w.heap.size + 1, 0, none⟩ = some (.int .i64 0) := BF8.cell 0
  have r1 : w8.cell? ⟨w.heap.size + 1, 1, none⟩ = some (.int .i64 0) := BF8.cell 1
  have r2 : w8.cell? ⟨w.heap.size + 1, 2, none⟩ = some (.int .i64 0) := BF8.cell 2
  have zs := fun i => BR8.frozen i
  have zr := fun i => BF8.frozen i
  clear BR8 BF8 BR5 BF5
  go_wp2_with fail
  refine bodyPost_ret (v := .tuple #[.agg #[.int .i64 0, .string ⟨#[]⟩, .int .u64 0, .int .i64 ln, .int .i64 cl], .agg #[.int .i64 20, .int .i64 ln, .int .i64 cl]]) (by simp [results, Tryd.results23, go_sem, s0, s1, s2, s3, s4, r0, r1, r2]) rfl ⟨?_, .inl ⟨ln, cl, HN.out, rfl⟩⟩
  repeat (with_reducible refine Kept.setN ?_ (by omega) _)
  exact Kept.of_below g (Kit.Below.then hb5 h8)

theorem token_any (g : Nat) (b : ByteArray) (k ln cl : Nat) (oa : Option Addr) (on oc : Nat) (w : World) (hE : Env w) (hg : 3 ≤ g)
    (hB : Blk w g 55 (scs b k ln cl (.slice oa on oc))) (hp : Pos b k ln cl) :
    Calls Tryd.prog 23 #[.pointer (some ⟨g, 0, none⟩)] w (TokDone g b (.slice oa on oc) k ln cl w) := by
  have htok : tokenS (stOf b k ln cl) = tokenS (stOf b k ln cl) := rfl
  have er : (stOf b k ln cl).rest = b.data.toList.drop k := rfl
  have el : (stOf b k ln cl).line = ln := rfl
  have ec : (stOf b k ln cl).col = cl := rfl
  have hlen : (b.data.toList.drop k).length = b.size - k := by rw [List.length_drop, ← Lib.size_eq]
  have hk := hp.1
  conv at htok => rhs; unfold tokenS
  rw [er, el, ec] at htok
  by_cases hn : (dec (b.data.toList.drop k)).2 = 0
  · rw [if_pos hn] at htok
    exact token_end g b k ln cl oa on oc w hE hg hB hp hn htok
  · rw [if_neg hn] at htok
    have hk1 : k < b.size := by
      rcases Nat.lt_or_ge k b.size with h | h
      · exact h
      · exfalso
        apply hn
        rw [List.drop_eq_nil_of_le (by rw [← Lib.size_eq]; exact h), dec_nil]
    cases hd : digB (dec (b.data.toList.drop k)).1 with
    | true =>
      rw [hd, if_pos rfl] at htok
      exact token_digit g b k ln cl oa on oc w hE hg hB hp hn hd htok
    | false =>
      rw [hd, if_neg (by simp)] at htok
      cases hl : letB (dec (b.data.toList.drop k)).1 with
      | true =>
        rw [hl, if_pos rfl] at htok
        cases hw : wordB (upTo (stOf b k ln cl) ((stOf b k ln cl).while nameB)) with
        | true =>
          rw [hw, if_pos rfl] at htok
          exact token_word g b k ln cl oa on oc w hE hg hB hp hn hd hl hw htok
        | false =>
          rw [hw, if_neg (by simp)] at htok
          exact token_name g b k ln cl oa on oc w hE hg hB hp hn hd hl hw htok
      | false =>
        rw [hl, if_neg (by simp)] at htok
        have e1 : (b.extract k (k + 1)).data.toList = (b.data.toList.drop k).take 1 := by rw [Lib.extract_data]; congr 1; omega
        have e2 : (b.extract k (k + 2)).data.toList = (b.data.toList.drop k).take 2 := by rw [Lib.extract_data]; congr 1; omega
        rw [← e1, ← e2] at htok
        by_cases h2 : k + 2 ≤ b.size
        · cases hc : Lib.contains doubleL (32 :: ((b.data.toList.drop k).take 2 ++ [32])) with
          | true =>
            rw [if_pos (by unfold dblB; rw [hc, hlen]; simp; omega)] at htok
            exact token_double g b k ln cl oa on oc w hE hg hB hp hn hd hl h2 hc htok
          | false =>
            rw [if_neg (by unfold dblB; rw [hc]; simp)] at htok
            by_cases hr : 0 < (dec (b.data.toList.drop k)).1
            · cases hs : sg1 (dec (b.data.toList.drop k)).1 with
              | true =>
                rw [if_pos ⟨hr, hs⟩] at htok
                exact token_singleA g b k ln cl oa on oc w hE hg hB hp hn hd hl h2 hc hr hs hk1 htok
              | false =>
                rw [if_neg (by simp [hs])] at htok
                exact token_badAR1 g b k ln cl oa on oc w hE hB hp hn hd hl h2 hc ⟨hr, hs⟩ htok
            · rw [if_neg (fun h => hr h.1)] at htok
              exact token_badAR0 g b k ln cl oa on oc w hE hB hp hn hd hl h2 hc (by omega) htok
        · rw [if_neg (by unfold dblB; rw [hlen, decide_eq_false (by omega)]; simp)] at htok
          by_cases hr : 0 < (dec (b.data.toList.drop k)).1
          · cases hs : sg1 (dec (b.data.toList.drop k)).1 with
            | true =>
              rw [if_pos ⟨hr, hs⟩] at htok
              exact token_singleB g b k ln cl oa on oc w hE hg hB hp hn hd hl (by omega) hr hs hk1 htok
            | false =>
              rw [if_neg (by simp [hs])] at htok
              exact token_badBR1 g b k ln cl oa on oc w hE hB hp hn hd hl (by omega) ⟨hr, hs⟩ htok
          · rw [if_neg (fun h => hr h.1)] at htok
            exact token_badBR0 g b k ln cl oa on oc w hE hB hp hn hd hl (by omega) (by omega) htok
end Go.Proofs.YtpamnnllijkpfaaDoor.LexW
