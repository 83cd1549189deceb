/- WALKS: the scanner's while, at each of its predicates. -/
import Derived.Test.YtpamnnllijkpfaaDoorLexC
import Derived.Deep.LoopGhost
namespace Go.Proofs.YtpamnnllijkpfaaDoor.LexW
open Go Go.RowKit Go.Proofs.YtpamnnllijkpfaaDoor.Kit Go.Proofs.YtpamnnllijkpfaaDoor.LexP

theorem number1_rune (r : Int) (w : World) (h0 : -1 ≤ r) (h1 : r ≤ 1114111) :
    Calls Tryd.prog 53 #[.int .i32 r] w fun e w' => e = .returned (.bool (hexB r)) ∧ w = w' := number1_any r w (by omega) (by omega)
theorem isDigit_rune (r : Int) (w : World) (_h0 : -1 ≤ r) (_h1 : r ≤ 1114111) :
    Calls Tryd.prog 33 #[.int .i32 r] w fun e w' => e = .returned (.bool (digB r)) ∧ w = w' := isDigit_any r w
theorem blanks1_rune (r : Int) (w : World) (_h0 : -1 ≤ r) (_h1 : r ≤ 1114111) :
    Calls Tryd.prog 37 #[.int .i32 r] w fun e w' => e = .returned (.bool (blkB r)) ∧ w = w' := blanks1_any r w
theorem blanks2_rune (r : Int) (w : World) (_h0 : -1 ≤ r) (_h1 : r ≤ 1114111) :
    Calls Tryd.prog 39 #[.int .i32 r] w fun e w' => e = .returned (.bool (lineB r)) ∧ w = w' := blanks2_any r w
theorem token1_rune (r : Int) (w : World) (_h0 : -1 ≤ r) (_h1 : r ≤ 1114111) :
    Calls Tryd.prog 42 #[.int .i32 r] w fun e w' => e = .returned (.bool (nameB r)) ∧ w = w' := token1_any r w

/-- Some rounds of a while have been gone; m: how many bytes are left. -/
def WRel (g : Nat) (b : ByteArray) (out : Value) (is : Int → Bool) (tgt : St) (k0 : Nat) (w : World) (m : Nat) (r n : Value) (wr : World) : Prop :=
  ∃ k ln cl, Blk wr g 55 (scs b k ln cl out) ∧ Pos b k ln cl ∧ Kept g w wr ∧ (stOf b k ln cl).while is = tgt ∧ k0 ≤ k ∧ m = b.size - k ∧
    r = .int .i32 (dec (b.data.toList.drop k)).1 ∧ n = .int .i64 (dec (b.data.toList.drop k)).2

/-- What a while leaves. -/
def WDone (g : Nat) (b : ByteArray) (out : Value) (tgt : St) (k0 : Nat) (w : World) (e : Ending) (w' : World) : Prop :=
  ∃ k ln cl, tgt = stOf b k ln cl ∧ k0 ≤ k ∧ Pos b k ln cl ∧ e = .returned (.string (b.extract k0 k)) ∧ Blk w' g 55 (scs b k ln cl out) ∧ Kept g w w'

theorem goes_of {b : ByteArray} {k ln cl : Nat} (is : Int → Bool) : (stOf b k ln cl).goes is = (decide (0 < (dec (b.data.toList.drop k)).2) && (decide (0 ≤ (dec (b.data.toList.drop k)).1) && is (dec (b.data.toList.drop k)).1)) := rfl

/-- The end of a while. -/
theorem WRel.done {g : Nat} {b : ByteArray} {out : Value} {is : Int → Bool} {tgt : St} {k0 k ln cl : Nat} {w wr w' : World} (hB : Blk wr g 55 (scs b k ln cl out)) (hp : Pos b k ln cl) (hK : Kept g w wr)
    (ht : (stOf b k ln cl).while is = tgt) (h0 : k0 ≤ k) (hgo : (stOf b k ln cl).goes is = false) (hb : Below wr.heap.size wr w') :
    WDone g b out tgt k0 w (.returned (.string (b.extract k0 k))) w' :=
  ⟨k, ln, cl, by rw [← ht, while_no hgo], h0, hp, rfl, hB.below' hb, Kept.below_trans hK hb⟩

set_option maxHeartbeats 800000 in
theorem while_isDigit (g : Nat) (b : ByteArray) (k ln cl : Nat) (out : Value) (w : World) (hE : Env w) (hg : 3 ≤ g)
    (hB : Blk w g 55 (scs b k ln cl out)) (hp : Pos b k ln cl) :
    Calls Tryd.prog 36 #[.pointer (some ⟨g, 0, none⟩), .func (.func 33) #[] #[]] w (WDone g b out ((stOf b k ln cl).while digB) k w) := by
  have c1 : w.cell? ⟨g, 1, none⟩ = some (.int .i64 k) := hB.cell 1
  have HR : Hid (Calls Tryd.prog 40 #[.pointer (some ⟨g, 0, none⟩)] w fun e w' =>
      e = .returned (.tuple #[.int .i32 (dec (b.data.toList.drop k)).1, .int .i64 (dec (b.data.toList.drop k)).2]) ∧ Below w.heap.size w w') := rune_any g b k ln cl out w hE hB hp.1
  go_enter Tryd.func36, Tryd.ntmps36
  go_wp2_with fail
  refine HR.out.mono ?_
  rintro e w1 ⟨rfl, hb1⟩
  clear HR
  go_wp2_with fail
  go_loopg [6, 7] (b.size - k) (fun m r n wr => WRel g b out digB ((stOf b k ln cl).while digB) k w m r n wr)
  case atStart => exact ⟨k, ln, cl, hB.below' hb1, hp, Kept.of_below g hb1, rfl, Nat.le_refl _, rfl, rfl, rfl⟩
  case round =>
    clear c1 hb1
    generalize (stOf b k ln cl).while digB = tgt at *
    obtain ⟨k1, l1, e1, hB1, hp1, hK1, ht, hk0, hm, rfl, rfl⟩ := hrel
    clear hB hp
    have hE1 := hE.kept hK1 hg
    have c0 : wr.cell? ⟨g, 0, none⟩ = some (.string b) := hB1.cell 0
    have c1 : wr.cell? ⟨g, 1, none⟩ = some (.int .i64 k1) := hB1.cell 1
    have hbs : b.size ≤ 65536 := hp1.2.1
    have hk1 : k1 ≤ b.size := hp1.1
    have hg1 := goes_of (b := b) (k := k1) (ln := l1) (cl := e1) digB
    have hlo := dec_lo (b.data.toList.drop k1)
    have hhi := dec_hi (b.data.toList.drop k1)
    have hle := dec_le (b.data.toList.drop k1)
    rw [List.length_drop, ← Lib.size_eq] at hle
    have HS : Hid (Calls Tryd.prog 43 #[.pointer (some ⟨g, 0, none⟩)] wr fun e w' => e = .returned (.tuple #[]) ∧
      Blk w' g 55 (scs b (k1 + (dec (b.data.toList.drop k1)).2) (if (dec (b.data.toList.drop k1)).1 = 10 then l1 + 1 else l1)
        (if (dec (b.data.toList.drop k1)).1 = 10 then 1 else if 0 < (dec (b.data.toList.drop k1)).2 then e1 + 1 else e1) out) ∧ Kept g wr w') :=
      step_any g b k1 l1 e1 out wr hE1 hB1 hk1 hbs (by have := hp1.2.2.1; omega) (by have := hp1.2.2.2; omega)
    have HT := Lib.hid ht
    clear ht
    have HS2 := Lib.hid (step_st b k1 l1 e1)
    have HP2 := Lib.hid hp1.step
    have HM := Lib.hid hm
    clear hm
    generalize hr : (dec (b.data.toList.drop k1)).1 = r at *
    generalize hn : (dec (b.data.toList.drop k1)).2 = n at *
    clear hr hn
    have HF := isDigit_rune r
    by_cases hgo : (stOf b k1 l1 e1).goes digB = true
    · have hgo2 := hgo
      rw [hg1] at hgo2
      simp only [Bool.and_eq_true, decide_eq_true_eq] at hgo2
      obtain ⟨a1, a2, a3⟩ := hgo2
      have a1' : (0 : Int) < (n : Int) := by omega
      have HF2 : Hid (∀ w, Calls Tryd.prog 33 #[.int .i32 r] w fun e w' => e = .returned (.bool true) ∧ w = w') := fun w => by have := HF w hlo hhi; rwa [a3] at this
      have HG := Lib.hid hgo
      clear hgo hg1 HF a3
      go_wp2_with (go_at_call 33; refine (HF2.out _).mono ?_; rintro e w' ⟨rfl, rfl⟩)
      refine HS.out.mono ?_
      rintro e w2 ⟨rfl, hB2, hK2⟩
      clear HS c0 c1
      generalize (if r = 10 then l1 + 1 else l1) = l2 at *
      generalize (if r = 10 then 1 else if 0 < n then e1 + 1 else e1) = e2 at *
      have hE2 := hE1.kept hK2 hg
      have HR : Hid (Calls Tryd.prog 40 #[.pointer (some ⟨g, 0, none⟩)] w2 fun e w' =>
        e = .returned (.tuple #[.int .i32 (dec (b.data.toList.drop (k1 + n))).1, .int .i64 (dec (b.data.toList.drop (k1 + n))).2]) ∧ Below w2.heap.size w2 w') := rune_any g b (k1 + n) l2 e2 out w2 hE2 hB2 HP2.out.1
      go_wp2_with fail
      refine HR.out.mono ?_
      rintro e w3 ⟨rfl, hb3⟩
      clear HR
      go_wp2_with fail
      go_roundg (b.size - (k1 + n))
      case measure =>
        have := HM.out
        omega
      case rel => exact ⟨k1 + n, l2, e2, hB2.below' hb3, HP2.out, hK1.trans (Kept.below_trans hK2 hb3), by rw [← HS2.out, ← while_yes HG.out]; exact HT.out, by omega, rfl, rfl, rfl⟩
    · have hgo2 : (stOf b k1 l1 e1).goes digB = false := by simpa using hgo
      have fin := fun w' (hb : Below wr.heap.size wr w') => WRel.done hB1 hp1 hK1 HT.out hk0 hgo2 hb
      have FIN := Lib.hid fin
      rw [hg1] at hgo
      clear fin hgo2 hg1 HS HS2 HP2 HT
      have a4 : (k : Int) ≤ (k1 : Int) := by omega
      have a5 : (k1 : Int) ≤ (b.size : Int) := by omega
      have a6 : (0 : Int) ≤ (k : Int) := by omega
      by_cases a1 : 0 < n
      · have a1' : (0 : Int) < (n : Int) := by omega
        by_cases a2 : 0 ≤ r
        · have a3 : digB r = false := by simpa [a1, a2] using hgo
          have HF2 : Hid (∀ w, Calls Tryd.prog 33 #[.int .i32 r] w fun e w' => e = .returned (.bool false) ∧ w = w') := fun w => by have := HF w hlo hhi; rwa [a3] at this
          clear hgo HF a3
          go_wp2_with (go_at_call 33; refine (HF2.out _).mono ?_; rintro e w' ⟨rfl, rfl⟩)
          go_quiet (fail)
          go_wp2
          go_ret
          exact FIN.out _ (Below_drewN _ _)
        · have a2' : r < 0 := by omega
          clear hgo HF
          go_wp2
          go_quiet (fail)
          go_wp2
          go_ret
          exact FIN.out _ (Below_drewN _ _)
      · have a1' : (n : Int) ≤ 0 := by omega
        clear hgo HF
        go_wp2
        go_quiet (fail)
        go_wp2
        go_ret
        exact FIN.out _ (Below_drewN _ _)
set_option maxHeartbeats 800000 in
theorem while_blanks1 (g : Nat) (b : ByteArray) (k ln cl : Nat) (out : Value) (w : World) (hE : Env w) (hg : 3 ≤ g)
    (hB : Blk w g 55 (scs b k ln cl out)) (hp : Pos b k ln cl) :
    Calls Tryd.prog 36 #[.pointer (some ⟨g, 0, none⟩), .func (.func 37) #[] #[]] w (WDone g b out ((stOf b k ln cl).while blkB) k w) := by
  have c1 : w.cell? ⟨g, 1, none⟩ = some (.int .i64 k) := hB.cell 1
  have HR : Hid (Calls Tryd.prog 40 #[.pointer (some ⟨g, 0, none⟩)] w fun e w' =>
      e = .returned (.tuple #[.int .i32 (dec (b.data.toList.drop k)).1, .int .i64 (dec (b.data.toList.drop k)).2]) ∧ Below w.heap.size w w') := rune_any g b k ln cl out w hE hB hp.1
  go_enter Tryd.func36, Tryd.ntmps36
  go_wp2_with fail
  refine HR.out.mono ?_
  rintro e w1 ⟨rfl, hb1⟩
  clear HR
  go_wp2_with fail
  go_loopg [6, 7] (b.size - k) (fun m r n wr => WRel g b out blkB ((stOf b k ln cl).while blkB) k w m r n wr)
  case atStart => exact ⟨k, ln, cl, hB.below' hb1, hp, Kept.of_below g hb1, rfl, Nat.le_refl _, rfl, rfl, rfl⟩
  case round =>
    clear c1 hb1
    generalize (stOf b k ln cl).while blkB = tgt at *
    obtain ⟨k1, l1, e1, hB1, hp1, hK1, ht, hk0, hm, rfl, rfl⟩ := hrel
    clear hB hp
    have hE1 := hE.kept hK1 hg
    have c0 : wr.cell? ⟨g, 0, none⟩ = some (.string b) := hB1.cell 0
    have c1 : wr.cell? ⟨g, 1, none⟩ = some (.int .i64 k1) := hB1.cell 1
    have hbs : b.size ≤ 65536 := hp1.2.1
    have hk1 : k1 ≤ b.size := hp1.1
    have hg1 := goes_of (b := b) (k := k1) (ln := l1) (cl := e1) blkB
    have hlo := dec_lo (b.data.toList.drop k1)
    have hhi := dec_hi (b.data.toList.drop k1)
    have hle := dec_le (b.data.toList.drop k1)
    rw [List.length_drop, ← Lib.size_eq] at hle
    have HS : Hid (Calls Tryd.prog 43 #[.pointer (some ⟨g, 0, none⟩)] wr fun e w' => e = .returned (.tuple #[]) ∧
      Blk w' g 55 (scs b (k1 + (dec (b.data.toList.drop k1)).2) (if (dec (b.data.toList.drop k1)).1 = 10 then l1 + 1 else l1)
        (if (dec (b.data.toList.drop k1)).1 = 10 then 1 else if 0 < (dec (b.data.toList.drop k1)).2 then e1 + 1 else e1) out) ∧ Kept g wr w') :=
      step_any g b k1 l1 e1 out wr hE1 hB1 hk1 hbs (by have := hp1.2.2.1; omega) (by have := hp1.2.2.2; omega)
    have HT := Lib.hid ht
    clear ht
    have HS2 := Lib.hid (step_st b k1 l1 e1)
    have HP2 := Lib.hid hp1.step
    have HM := Lib.hid hm
    clear hm
    generalize hr : (dec (b.data.toList.drop k1)).1 = r at *
    generalize hn : (dec (b.data.toList.drop k1)).2 = n at *
    clear hr hn
    have HF := blanks1_rune r
    by_cases hgo : (stOf b k1 l1 e1).goes blkB = true
    · have hgo2 := hgo
      rw [hg1] at hgo2
      simp only [Bool.and_eq_true, decide_eq_true_eq] at hgo2
      obtain ⟨a1, a2, a3⟩ := hgo2
      have a1' : (0 : Int) < (n : Int) := by omega
      have HF2 : Hid (∀ w, Calls Tryd.prog 37 #[.int .i32 r] w fun e w' => e = .returned (.bool true) ∧ w = w') := fun w => by have := HF w hlo hhi; rwa [a3] at this
      have HG := Lib.hid hgo
      clear hgo hg1 HF a3
      go_wp2_with (go_at_call 37; refine (HF2.out _).mono ?_; rintro e w' ⟨rfl, rfl⟩)
      refine HS.out.mono ?_
      rintro e w2 ⟨rfl, hB2, hK2⟩
      clear HS c0 c1
      generalize (if r = 10 then l1 + 1 else l1) = l2 at *
      generalize (if r = 10 then 1 else if 0 < n then e1 + 1 else e1) = e2 at *
      have hE2 := hE1.kept hK2 hg
      have HR : Hid (Calls Tryd.prog 40 #[.pointer (some ⟨g, 0, none⟩)] w2 fun e w' =>
        e = .returned (.tuple #[.int .i32 (dec (b.data.toList.drop (k1 + n))).1, .int .i64 (dec (b.data.toList.drop (k1 + n))).2]) ∧ Below w2.heap.size w2 w') := rune_any g b (k1 + n) l2 e2 out w2 hE2 hB2 HP2.out.1
      go_wp2_with fail
      refine HR.out.mono ?_
      rintro e w3 ⟨rfl, hb3⟩
      clear HR
      go_wp2_with fail
      go_roundg (b.size - (k1 + n))
      case measure =>
        have := HM.out
        omega
      case rel => exact ⟨k1 + n, l2, e2, hB2.below' hb3, HP2.out, hK1.trans (Kept.below_trans hK2 hb3), by rw [← HS2.out, ← while_yes HG.out]; exact HT.out, by omega, rfl, rfl, rfl⟩
    · have hgo2 : (stOf b k1 l1 e1).goes blkB = false := by simpa using hgo
      have fin := fun w' (hb : Below wr.heap.size wr w') => WRel.done hB1 hp1 hK1 HT.out hk0 hgo2 hb
      have FIN := Lib.hid fin
      rw [hg1] at hgo
      clear fin hgo2 hg1 HS HS2 HP2 HT
      have a4 : (k : Int) ≤ (k1 : Int) := by omega
      have a5 : (k1 : Int) ≤ (b.size : Int) := by omega
      have a6 : (0 : Int) ≤ (k : Int) := by omega
      by_cases a1 : 0 < n
      · have a1' : (0 : Int) < (n : Int) := by omega
        by_cases a2 : 0 ≤ r
        · have a3 : blkB r = false := by simpa [a1, a2] using hgo
          have HF2 : Hid (∀ w, Calls Tryd.prog 37 #[.int .i32 r] w fun e w' => e = .returned (.bool false) ∧ w = w') := fun w => by have := HF w hlo hhi; rwa [a3] at this
          clear hgo HF a3
          go_wp2_with (go_at_call 37; refine (HF2.out _).mono ?_; rintro e w' ⟨rfl, rfl⟩)
          go_quiet (fail)
          go_wp2
          go_ret
          exact FIN.out _ (Below_drewN _ _)
        · have a2' : r < 0 := by omega
          clear hgo HF
          go_wp2
          go_quiet (fail)
          go_wp2
          go_ret
          exact FIN.out _ (Below_drewN _ _)
      · have a1' : (n : Int) ≤ 0 := by omega
        clear hgo HF
        go_wp2
        go_quiet (fail)
        go_wp2
        go_ret
        exact FIN.out _ (Below_drewN _ _)
set_option maxHeartbeats 800000 in
theorem while_blanks2 (g : Nat) (b : ByteArray) (k ln cl : Nat) (out : Value) (w : World) (hE : Env w) (hg : 3 ≤ g)
    (hB : Blk w g 55 (scs b k ln cl out)) (hp : Pos b k ln cl) :
    Calls Tryd.prog 36 #[.pointer (some ⟨g, 0, none⟩), .func (.func 39) #[] #[]] w (WDone g b out ((stOf b k ln cl).while lineB) k w) := by
  have c1 : w.cell? ⟨g, 1, none⟩ = some (.int .i64 k) := hB.cell 1
  have HR : Hid (Calls Tryd.prog 40 #[.pointer (some ⟨g, 0, none⟩)] w fun e w' =>
      e = .returned (.tuple #[.int .i32 (dec (b.data.toList.drop k)).1, .int .i64 (dec (b.data.toList.drop k)).2]) ∧ Below w.heap.size w w') := rune_any g b k ln cl out w hE hB hp.1
  go_enter Tryd.func36, Tryd.ntmps36
  go_wp2_with fail
  refine HR.out.mono ?_
  rintro e w1 ⟨rfl, hb1⟩
  clear HR
  go_wp2_with fail
  go_loopg [6, 7] (b.size - k) (fun m r n wr => WRel g b out lineB ((stOf b k ln cl).while lineB) k w m r n wr)
  case atStart => exact ⟨k, ln, cl, hB.below' hb1, hp, Kept.of_below g hb1, rfl, Nat.le_refl _, rfl, rfl, rfl⟩
  case round =>
    clear c1 hb1
    generalize (stOf b k ln cl).while lineB = tgt at *
    obtain ⟨k1, l1, e1, hB1, hp1, hK1, ht, hk0, hm, rfl, rfl⟩ := hrel
    clear hB hp
    have hE1 := hE.kept hK1 hg
    have c0 : wr.cell? ⟨g, 0, none⟩ = some (.string b) := hB1.cell 0
    have c1 : wr.cell? ⟨g, 1, none⟩ = some (.int .i64 k1) := hB1.cell 1
    have hbs : b.size ≤ 65536 := hp1.2.1
    have hk1 : k1 ≤ b.size := hp1.1
    have hg1 := goes_of (b := b) (k := k1) (ln := l1) (cl := e1) lineB
    have hlo := dec_lo (b.data.toList.drop k1)
    have hhi := dec_hi (b.data.toList.drop k1)
    have hle := dec_le (b.data.toList.drop k1)
    rw [List.length_drop, ← Lib.size_eq] at hle
    have HS : Hid (Calls Tryd.prog 43 #[.pointer (some ⟨g, 0, none⟩)] wr fun e w' => e = .returned (.tuple #[]) ∧
      Blk w' g 55 (scs b (k1 + (dec (b.data.toList.drop k1)).2) (if (dec (b.data.toList.drop k1)).1 = 10 then l1 + 1 else l1)
        (if (dec (b.data.toList.drop k1)).1 = 10 then 1 else if 0 < (dec (b.data.toList.drop k1)).2 then e1 + 1 else e1) out) ∧ Kept g wr w') :=
      step_any g b k1 l1 e1 out wr hE1 hB1 hk1 hbs (by have := hp1.2.2.1; omega) (by have := hp1.2.2.2; omega)
    have HT := Lib.hid ht
    clear ht
    have HS2 := Lib.hid (step_st b k1 l1 e1)
    have HP2 := Lib.hid hp1.step
    have HM := Lib.hid hm
    clear hm
    generalize hr : (dec (b.data.toList.drop k1)).1 = r at *
    generalize hn : (dec (b.data.toList.drop k1)).2 = n at *
    clear hr hn
    have HF := blanks2_rune r
    by_cases hgo : (stOf b k1 l1 e1).goes lineB = true
    · have hgo2 := hgo
      rw [hg1] at hgo2
      simp only [Bool.and_eq_true, decide_eq_true_eq] at hgo2
      obtain ⟨a1, a2, a3⟩ := hgo2
      have a1' : (0 : Int) < (n : Int) := by omega
      have HF2 : Hid (∀ w, Calls Tryd.prog 39 #[.int .i32 r] w fun e w' => e = .returned (.bool true) ∧ w = w') := fun w => by have := HF w hlo hhi; rwa [a3] at this
      have HG := Lib.hid hgo
      clear hgo hg1 HF a3
      go_wp2_with (go_at_call 39; refine (HF2.out _).mono ?_; rintro e w' ⟨rfl, rfl⟩)
      refine HS.out.mono ?_
      rintro e w2 ⟨rfl, hB2, hK2⟩
      clear HS c0 c1
      generalize (if r = 10 then l1 + 1 else l1) = l2 at *
      generalize (if r = 10 then 1 else if 0 < n then e1 + 1 else e1) = e2 at *
      have hE2 := hE1.kept hK2 hg
      have HR : Hid (Calls Tryd.prog 40 #[.pointer (some ⟨g, 0, none⟩)] w2 fun e w' =>
        e = .returned (.tuple #[.int .i32 (dec (b.data.toList.drop (k1 + n))).1, .int .i64 (dec (b.data.toList.drop (k1 + n))).2]) ∧ Below w2.heap.size w2 w') := rune_any g b (k1 + n) l2 e2 out w2 hE2 hB2 HP2.out.1
      go_wp2_with fail
      refine HR.out.mono ?_
      rintro e w3 ⟨rfl, hb3⟩
      clear HR
      go_wp2_with fail
      go_roundg (b.size - (k1 + n))
      case measure =>
        have := HM.out
        omega
      case rel => exact ⟨k1 + n, l2, e2, hB2.below' hb3, HP2.out, hK1.trans (Kept.below_trans hK2 hb3), by rw [← HS2.out, ← while_yes HG.out]; exact HT.out, by omega, rfl, rfl, rfl⟩
    · have hgo2 : (stOf b k1 l1 e1).goes lineB = false := by simpa using hgo
      have fin := fun w' (hb : Below wr.heap.size wr w') => WRel.done hB1 hp1 hK1 HT.out hk0 hgo2 hb
      have FIN := Lib.hid fin
      rw [hg1] at hgo
      clear fin hgo2 hg1 HS HS2 HP2 HT
      have a4 : (k : Int) ≤ (k1 : Int) := by omega
      have a5 : (k1 : Int) ≤ (b.size : Int) := by omega
      have a6 : (0 : Int) ≤ (k : Int) := by omega
      by_cases a1 : 0 < n
      · have a1' : (0 : Int) < (n : Int) := by omega
        by_cases a2 : 0 ≤ r
        · have a3 : lineB r = false := by simpa [a1, a2] using hgo
          have HF2 : Hid (∀ w, Calls Tryd.prog 39 #[.int .i32 r] w fun e w' => e = .returned (.bool false) ∧ w = w') := fun w => by have := HF w hlo hhi; rwa [a3] at this
          clear hgo HF a3
          go_wp2_with (go_at_call 39; refine (HF2.out _).mono ?_; rintro e w' ⟨rfl, rfl⟩)
          go_quiet (fail)
          go_wp2
          go_ret
          exact FIN.out _ (Below_drewN _ _)
        · have a2' : r < 0 := by omega
          clear hgo HF
          go_wp2
          go_quiet (fail)
          go_wp2
          go_ret
          exact FIN.out _ (Below_drewN _ _)
      · have a1' : (n : Int) ≤ 0 := by omega
        clear hgo HF
        go_wp2
        go_quiet (fail)
        go_wp2
        go_ret
        exact FIN.out _ (Below_drewN _ _)
set_option maxHeartbeats 800000 in
theorem while_token1 (g : Nat) (b : ByteArray) (k ln cl : Nat) (out : Value) (w : World) (hE : Env w) (hg : 3 ≤ g)
    (hB : Blk w g 55 (scs b k ln cl out)) (hp : Pos b k ln cl) :
    Calls Tryd.prog 36 #[.pointer (some ⟨g, 0, none⟩), .func (.func 42) #[] #[]] w (WDone g b out ((stOf b k ln cl).while nameB) k w) := by
  have c1 : w.cell? ⟨g, 1, none⟩ = some (.int .i64 k) := hB.cell 1
  have HR : Hid (Calls Tryd.prog 40 #[.pointer (some ⟨g, 0, none⟩)] w fun e w' =>
      e = .returned (.tuple #[.int .i32 (dec (b.data.toList.drop k)).1, .int .i64 (dec (b.data.toList.drop k)).2]) ∧ Below w.heap.size w w') := rune_any g b k ln cl out w hE hB hp.1
  go_enter Tryd.func36, Tryd.ntmps36
  go_wp2_with fail
  refine HR.out.mono ?_
  rintro e w1 ⟨rfl, hb1⟩
  clear HR
  go_wp2_with fail
  go_loopg [6, 7] (b.size - k) (fun m r n wr => WRel g b out nameB ((stOf b k ln cl).while nameB) k w m r n wr)
  case atStart => exact ⟨k, ln, cl, hB.below' hb1, hp, Kept.of_below g hb1, rfl, Nat.le_refl _, rfl, rfl, rfl⟩
  case round =>
    clear c1 hb1
    generalize (stOf b k ln cl).while nameB = tgt at *
    obtain ⟨k1, l1, e1, hB1, hp1, hK1, ht, hk0, hm, rfl, rfl⟩ := hrel
    clear hB hp
    have hE1 := hE.kept hK1 hg
    have c0 : wr.cell? ⟨g, 0, none⟩ = some (.string b) := hB1.cell 0
    have c1 : wr.cell? ⟨g, 1, none⟩ = some (.int .i64 k1) := hB1.cell 1
    have hbs : b.size ≤ 65536 := hp1.2.1
    have hk1 : k1 ≤ b.size := hp1.1
    have hg1 := goes_of (b := b) (k := k1) (ln := l1) (cl := e1) nameB
    have hlo := dec_lo (b.data.toList.drop k1)
    have hhi := dec_hi (b.data.toList.drop k1)
    have hle := dec_le (b.data.toList.drop k1)
    rw [List.length_drop, ← Lib.size_eq] at hle
    have HS : Hid (Calls Tryd.prog 43 #[.pointer (some ⟨g, 0, none⟩)] wr fun e w' => e = .returned (.tuple #[]) ∧
      Blk w' g 55 (scs b (k1 + (dec (b.data.toList.drop k1)).2) (if (dec (b.data.toList.drop k1)).1 = 10 then l1 + 1 else l1)
        (if (dec (b.data.toList.drop k1)).1 = 10 then 1 else if 0 < (dec (b.data.toList.drop k1)).2 then e1 + 1 else e1) out) ∧ Kept g wr w') :=
      step_any g b k1 l1 e1 out wr hE1 hB1 hk1 hbs (by have := hp1.2.2.1; omega) (by have := hp1.2.2.2; omega)
    have HT := Lib.hid ht
    clear ht
    have HS2 := Lib.hid (step_st b k1 l1 e1)
    have HP2 := Lib.hid hp1.step
    have HM := Lib.hid hm
    clear hm
    generalize hr : (dec (b.data.toList.drop k1)).1 = r at *
    generalize hn : (dec (b.data.toList.drop k1)).2 = n at *
    clear hr hn
    have HF := token1_rune r
    by_cases hgo : (stOf b k1 l1 e1).goes nameB = true
    · have hgo2 := hgo
      rw [hg1] at hgo2
      simp only [Bool.and_eq_true, decide_eq_true_eq] at hgo2
      obtain ⟨a1, a2, a3⟩ := hgo2
      have a1' : (0 : Int) < (n : Int) := by omega
      have HF2 : Hid (∀ w, Calls Tryd.prog 42 #[.int .i32 r] w fun e w' => e = .returned (.bool true) ∧ w = w') := fun w => by have := HF w hlo hhi; rwa [a3] at this
      have HG := Lib.hid hgo
      clear hgo hg1 HF a3
      go_wp2_with (go_at_call 42; refine (HF2.out _).mono ?_; rintro e w' ⟨rfl, rfl⟩)
      refine HS.out.mono ?_
      rintro e w2 ⟨rfl, hB2, hK2⟩
      clear HS c0 c1
      generalize (if r = 10 then l1 + 1 else l1) = l2 at *
      generalize (if r = 10 then 1 else if 0 < n then e1 + 1 else e1) = e2 at *
      have hE2 := hE1.kept hK2 hg
      have HR : Hid (Calls Tryd.prog 40 #[.pointer (some ⟨g, 0, none⟩)] w2 fun e w' =>
        e = .returned (.tuple #[.int .i32 (dec (b.data.toList.drop (k1 + n))).1, .int .i64 (dec (b.data.toList.drop (k1 + n))).2]) ∧ Below w2.heap.size w2 w') := rune_any g b (k1 + n) l2 e2 out w2 hE2 hB2 HP2.out.1
      go_wp2_with fail
      refine HR.out.mono ?_
      rintro e w3 ⟨rfl, hb3⟩
      clear HR
      go_wp2_with fail
      go_roundg (b.size - (k1 + n))
      case measure =>
        have := HM.out
        omega
      case rel => exact ⟨k1 + n, l2, e2, hB2.below' hb3, HP2.out, hK1.trans (Kept.below_trans hK2 hb3), by rw [← HS2.out, ← while_yes HG.out]; exact HT.out, by omega, rfl, rfl, rfl⟩
    · have hgo2 : (stOf b k1 l1 e1).goes nameB = false := by simpa using hgo
      have fin := fun w' (hb : Below wr.heap.size wr w') => WRel.done hB1 hp1 hK1 HT.out hk0 hgo2 hb
      have FIN := Lib.hid fin
      rw [hg1] at hgo
      clear fin hgo2 hg1 HS HS2 HP2 HT
      have a4 : (k : Int) ≤ (k1 : Int) := by omega
      have a5 : (k1 : Int) ≤ (b.size : Int) := by omega
      have a6 : (0 : Int) ≤ (k : Int) := by omega
      by_cases a1 : 0 < n
      · have a1' : (0 : Int) < (n : Int) := by omega
        by_cases a2 : 0 ≤ r
        · have a3 : nameB r = false := by simpa [a1, a2] using hgo
          have HF2 : Hid (∀ w, Calls Tryd.prog 42 #[.int .i32 r] w fun e w' => e = .returned (.bool false) ∧ w = w') := fun w => by have := HF w hlo hhi; rwa [a3] at this
          clear hgo HF a3
          go_wp2_with (go_at_call 42; refine (HF2.out _).mono ?_; rintro e w' ⟨rfl, rfl⟩)
          go_quiet (fail)
          go_wp2
          go_ret
          exact FIN.out _ (Below_drewN _ _)
        · have a2' : r < 0 := by omega
          clear hgo HF
          go_wp2
          go_quiet (fail)
          go_wp2
          go_ret
          exact FIN.out _ (Below_drewN _ _)
      · have a1' : (n : Int) ≤ 0 := by omega
        clear hgo HF
        go_wp2
        go_quiet (fail)
        go_wp2
        go_ret
        exact FIN.out _ (Below_drewN _ _)
set_option maxHeartbeats 800000 in
theorem while_number1 (g : Nat) (b : ByteArray) (k ln cl : Nat) (out : Value) (w : World) (hE : Env w) (hg : 3 ≤ g)
    (hB : Blk w g 55 (scs b k ln cl out)) (hp : Pos b k ln cl) :
    Calls Tryd.prog 36 #[.pointer (some ⟨g, 0, none⟩), .func (.func 53) #[] #[]] w (WDone g b out ((stOf b k ln cl).while hexB) k w) := by
  have c1 : w.cell? ⟨g, 1, none⟩ = some (.int .i64 k) := hB.cell 1
  have HR : Hid (Calls Tryd.prog 40 #[.pointer (some ⟨g, 0, none⟩)] w fun e w' =>
      e = .returned (.tuple #[.int .i32 (dec (b.data.toList.drop k)).1, .int .i64 (dec (b.data.toList.drop k)).2]) ∧ Below w.heap.size w w') := rune_any g b k ln cl out w hE hB hp.1
  go_enter Tryd.func36, Tryd.ntmps36
  go_wp2_with fail
  refine HR.out.mono ?_
  rintro e w1 ⟨rfl, hb1⟩
  clear HR
  go_wp2_with fail
  go_loopg [6, 7] (b.size - k) (fun m r n wr => WRel g b out hexB ((stOf b k ln cl).while hexB) k w m r n wr)
  case atStart => exact ⟨k, ln, cl, hB.below' hb1, hp, Kept.of_below g hb1, rfl, Nat.le_refl _, rfl, rfl, rfl⟩
  case round =>
    clear c1 hb1
    generalize (stOf b k ln cl).while hexB = tgt at *
    obtain ⟨k1, l1, e1, hB1, hp1, hK1, ht, hk0, hm, rfl, rfl⟩ := hrel
    clear hB hp
    have hE1 := hE.kept hK1 hg
    have c0 : wr.cell? ⟨g, 0, none⟩ = some (.string b) := hB1.cell 0
    have c1 : wr.cell? ⟨g, 1, none⟩ = some (.int .i64 k1) := hB1.cell 1
    have hbs : b.size ≤ 65536 := hp1.2.1
    have hk1 : k1 ≤ b.size := hp1.1
    have hg1 := goes_of (b := b) (k := k1) (ln := l1) (cl := e1) hexB
    have hlo := dec_lo (b.data.toList.drop k1)
    have hhi := dec_hi (b.data.toList.drop k1)
    have hle := dec_le (b.data.toList.drop k1)
    rw [List.length_drop, ← Lib.size_eq] at hle
    have HS : Hid (Calls Tryd.prog 43 #[.pointer (some ⟨g, 0, none⟩)] wr fun e w' => e = .returned (.tuple #[]) ∧
      Blk w' g 55 (scs b (k1 + (dec (b.data.toList.drop k1)).2) (if (dec (b.data.toList.drop k1)).1 = 10 then l1 + 1 else l1)
        (if (dec (b.data.toList.drop k1)).1 = 10 then 1 else if 0 < (dec (b.data.toList.drop k1)).2 then e1 + 1 else e1) out) ∧ Kept g wr w') :=
      step_any g b k1 l1 e1 out wr hE1 hB1 hk1 hbs (by have := hp1.2.2.1; omega) (by have := hp1.2.2.2; omega)
    have HT := Lib.hid ht
    clear ht
    have HS2 := Lib.hid (step_st b k1 l1 e1)
    have HP2 := Lib.hid hp1.step
    have HM := Lib.hid hm
    clear hm
    generalize hr : (dec (b.data.toList.drop k1)).1 = r at *
    generalize hn : (dec (b.data.toList.drop k1)).2 = n at *
    clear hr hn
    have HF := number1_rune r
    by_cases hgo : (stOf b k1 l1 e1).goes hexB = true
    · have hgo2 := hgo
      rw [hg1] at hgo2
      simp only [Bool.and_eq_true, decide_eq_true_eq] at hgo2
      obtain ⟨a1, a2, a3⟩ := hgo2
      have a1' : (0 : Int) < (n : Int) := by omega
      have HF2 : Hid (∀ w, Calls Tryd.prog 53 #[.int .i32 r] w fun e w' => e = .returned (.bool true) ∧ w = w') := fun w => by have := HF w hlo hhi; rwa [a3] at this
      have HG := Lib.hid hgo
      clear hgo hg1 HF a3
      go_wp2_with (go_at_call 53; refine (HF2.out _).mono ?_; rintro e w' ⟨rfl, rfl⟩)
      refine HS.out.mono ?_
      rintro e w2 ⟨rfl, hB2, hK2⟩
      clear HS c0 c1
      generalize (if r = 10 then l1 + 1 else l1) = l2 at *
      generalize (if r = 10 then 1 else if 0 < n then e1 + 1 else e1) = e2 at *
      have hE2 := hE1.kept hK2 hg
      have HR : Hid (Calls Tryd.prog 40 #[.pointer (some ⟨g, 0, none⟩)] w2 fun e w' =>
        e = .returned (.tuple #[.int .i32 (dec (b.data.toList.drop (k1 + n))).1, .int .i64 (dec (b.data.toList.drop (k1 + n))).2]) ∧ Below w2.heap.size w2 w') := rune_any g b (k1 + n) l2 e2 out w2 hE2 hB2 HP2.out.1
      go_wp2_with fail
      refine HR.out.mono ?_
      rintro e w3 ⟨rfl, hb3⟩
      clear HR
      go_wp2_with fail
      go_roundg (b.size - (k1 + n))
      case measure =>
        have := HM.out
        omega
      case rel => exact ⟨k1 + n, l2, e2, hB2.below' hb3, HP2.out, hK1.trans (Kept.below_trans hK2 hb3), by rw [← HS2.out, ← while_yes HG.out]; exact HT.out, by omega, rfl, rfl, rfl⟩
    · have hgo2 : (stOf b k1 l1 e1).goes hexB = false := by simpa using hgo
      have fin := fun w' (hb : Below wr.heap.size wr w') => WRel.done hB1 hp1 hK1 HT.out hk0 hgo2 hb
      have FIN := Lib.hid fin
      rw [hg1] at hgo
      clear fin hgo2 hg1 HS HS2 HP2 HT
      have a4 : (k : Int) ≤ (k1 : Int) := by omega
      have a5 : (k1 : Int) ≤ (b.size : Int) := by omega
      have a6 : (0 : Int) ≤ (k : Int) := by omega
      by_cases a1 : 0 < n
      · have a1' : (0 : Int) < (n : Int) := by omega
        by_cases a2 : 0 ≤ r
        · have a3 : hexB r = false := by simpa [a1, a2] using hgo
          have HF2 : Hid (∀ w, Calls Tryd.prog 53 #[.int .i32 r] w fun e w' => e = .returned (.bool false) ∧ w = w') := fun w => by have := HF w hlo hhi; rwa [a3] at this
          clear hgo HF a3
          go_wp2_with (go_at_call 53; refine (HF2.out _).mono ?_; rintro e w' ⟨rfl, rfl⟩)
          go_quiet (fail)
          go_wp2
          go_ret
          exact FIN.out _ (Below_drewN _ _)
        · have a2' : r < 0 := by omega
          clear hgo HF
          go_wp2
          go_quiet (fail)
          go_wp2
          go_ret
          exact FIN.out _ (Below_drewN _ _)
      · have a1' : (n : Int) ≤ 0 := by omega
        clear hgo HF
        go_wp2
        go_quiet (fail)
        go_wp2
        go_ret
        exact FIN.out _ (Below_drewN _ _)
end Go.Proofs.YtpamnnllijkpfaaDoor.LexW
