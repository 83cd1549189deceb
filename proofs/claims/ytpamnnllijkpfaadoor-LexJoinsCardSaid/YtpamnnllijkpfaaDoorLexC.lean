/- WALKS: the scanner's rune and step. -/
import Derived.Test.YtpamnnllijkpfaaDoorLexB
import Derived.Test.YtpamnnllijkpfaaDoorShelf
import Derived.BigQuiet
import Derived.Deep.QuietTactic
import Derived.StillTailTactics
import Derived.Deep.RegionHeld3
import Derived.WalkSpells
import Derived.WalkLawsBesides
import Derived.Deep.DeepFit
import Derived.Deep.DeepMust
namespace Go.Proofs.YtpamnnllijkpfaaDoor.LexW
open Go Go.RowKit Go.Proofs.YtpamnnllijkpfaaDoor.Kit Go.Proofs.YtpamnnllijkpfaaDoor.LexP

/-- The library's tables are laid; the library's number is some number. -/
def Env (w : World) : Prop := Lib.Utf8Tabs 1 2 w ∧ (∃ m, w.cell? ⟨0, 0, none⟩ = some (.int .i64 m)) ∧ 3 ≤ w.heap.size

theorem Env.below {w w' : World} (h : Env w) (hb : Below w.heap.size w w') : Env w' := by
  obtain ⟨⟨h1, h2⟩, ⟨m, h3⟩, h4⟩ := h
  have hs := hb.size
  refine ⟨⟨fun c hc => ?_, fun i hi => ?_⟩, ⟨m, ?_⟩, by omega⟩
  · rw [hb.cell (p := ⟨1, c, none⟩) (by show 1 < _; omega)]; exact h1 c hc
  · rw [hb.cell (p := ⟨2, _, none⟩) (by show 2 < _; omega), hb.cell (p := ⟨2, _, none⟩) (by show 2 < _; omega)]; exact h2 i hi
  · rw [hb.cell (p := ⟨0, 0, none⟩) (by show 0 < _; omega)]; exact h3
theorem Env.kept {w w' : World} {g : Nat} (h : Env w) (hb : Kept g w w') (hg : 3 ≤ g) : Env w' := by
  obtain ⟨⟨h1, h2⟩, ⟨m, h3⟩, h4⟩ := h
  have hs := hb.size
  refine ⟨⟨fun c hc => ?_, fun i hi => ?_⟩, ⟨m, ?_⟩, by omega⟩
  · rw [hb.cell (p := ⟨1, c, none⟩) (by show 1 < _; omega) (by show 1 ≠ _; omega)]; exact h1 c hc
  · rw [hb.cell (p := ⟨2, _, none⟩) (by show 2 < _; omega) (by show 2 ≠ _; omega), hb.cell (p := ⟨2, _, none⟩) (by show 2 < _; omega) (by show 2 ≠ _; omega)]; exact h2 i hi
  · rw [hb.cell (p := ⟨0, 0, none⟩) (by show 0 < _; omega) (by show 0 ≠ _; omega)]; exact h3

theorem dec_of_go (b : ByteArray) (k : Nat) (hk : k < b.size) :
    dec (b.data.toList.drop k) = if (Lib.decodeGo (b.extract k b.size)).1 = 65533 ∧ (Lib.decodeGo (b.extract k b.size)).2 = 1 then (-1, 1) else (((Lib.decodeGo (b.extract k b.size)).1 : Int), (Lib.decodeGo (b.extract k b.size)).2) := by
  have hl : (b.extract k b.size).data.toList = b.data.toList.drop k := Lib.extract_to_end b k
  have e : Lib.decodeL (b.data.toList.drop k) = Lib.decodeGo (b.extract k b.size) := by
    have h2 := Lib.decodeL_drop (b.extract k b.size) 0
    rw [List.drop_zero, hl] at h2
    rw [h2]
    have hs : (b.extract k b.size).size ≠ 0 := by
      rw [Lib.size_eq, hl, List.length_drop, ← Lib.size_eq]; omega
    unfold Lib.decodeGo
    rw [if_neg hs]
  have hne : b.data.toList.drop k ≠ [] := by
    intro h0
    have := congrArg List.length h0
    rw [List.length_drop, ← Lib.size_eq] at this
    simp at this
    omega
  unfold dec
  rw [if_neg hne, e]
  generalize Lib.decodeGo (b.extract k b.size) = x
  obtain ⟨R, K⟩ := x
  by_cases h : R = 65533 ∧ K = 1
  · rw [if_pos h, if_pos (by rw [h.1, h.2])]
  · rw [if_neg h, if_neg (by rintro e; injection e with a b; exact h ⟨a, b⟩)]

set_option maxHeartbeats 400000 in
theorem rune_any (g : Nat) (b : ByteArray) (k : Nat) (ln cl : Int) (out : Value) (w : World) (hE : Env w)
    (hB : Blk w g 55 #[.string b, .int .i64 k, .int .i64 ln, .int .i64 cl, out]) (hk : k ≤ b.size) :
    Calls Tryd.prog 40 #[.pointer (some ⟨g, 0, none⟩)] w fun e w' =>
      e = .returned (.tuple #[.int .i32 (dec (b.data.toList.drop k)).1, .int .i64 (dec (b.data.toList.drop k)).2]) ∧ Below w.heap.size w w' := by
  have c0 : w.cell? ⟨g, 0, none⟩ = some (.string b) := hB.cell 0
  have c1 : w.cell? ⟨g, 1, none⟩ = some (.int .i64 k) := hB.cell 1
  by_cases he : k = b.size
  · have hb1 : ((k : Int) == (b.size : Int)) = true := by simp [he]
    have hd : dec (b.data.toList.drop k) = (0, 0) := by
      rw [he, List.drop_eq_nil_of_le (by rw [← Lib.size_eq]; omega), dec_nil]
    rw [hd]
    clear hd he hE hB
    go_enter Tryd.func40, Tryd.ntmps40
    go_wp2
    go_quiet (fail)
    go_wp2
    go_ret2
    exact ⟨rfl, Below_drewN _ _⟩
  · have hlt : k < b.size := by omega
    have hk1 : (0 : Int) ≤ (k : Int) := by omega
    have hk2 : (k : Int) ≤ (b.size : Int) := by omega
    have hb1 : ((k : Int) == (b.size : Int)) = false := by simp; omega
    have hd := dec_of_go b k hlt
    have cD := fun w1 hw1 => Tryd.utf8_DecodeRuneInString (b.extract k b.size) w1 hw1
    generalize (Lib.decodeGo (b.extract k b.size)).1 = R at hd cD
    generalize (Lib.decodeGo (b.extract k b.size)).2 = K at hd cD
    have hB0 := hB.lt
    have cc0 : ∀ p : Cls (Below w.heap.size w), p.w.cell? ⟨g, 0, none⟩ = some (.string b) := fun p => (p.h.cell (p := ⟨g, 0, none⟩) hB0).trans c0
    have cc1 : ∀ p : Cls (Below w.heap.size w), p.w.cell? ⟨g, 1, none⟩ = some (.int .i64 k) := fun p => (p.h.cell (p := ⟨g, 1, none⟩) hB0).trans c1
    have CD : ∀ p : Cls (Below w.heap.size w), Hid (Calls Tryd.prog 52 #[.string (b.extract k b.size)] p.w fun e w' => e = .returned (.tuple #[.int .i32 (R : Nat), .int .i64 (K : Nat)]) ∧ ∃ q : Cls (Below w.heap.size w), w' = q.w) := fun p =>
      Calls.cls ((cD p.w (hE.below p.h).1).mono fun e w' ⟨h1, h2⟩ => ⟨h1, Kit.Below.then p.h h2⟩)
    have HD := Lib.hid hd
    clear hd cD hB hE he hk hb1
    have hb1 : ((k : Int) == (b.size : Int)) = false := by simp; omega
    clear hlt
    go_enter Tryd.func40, Tryd.ntmps40
    go_wp2
    go_quiet (fail)
    go_wp2
    refine wp_region_cls (Below w.heap.size w) (Below_drewN _ (nq + 1)) (by kernel_rfl) (by kernel_rfl) ?_
    intro hne
    repeat (go_big_quiet_step ((go_at_call 52; exact (CD _).out)))
    refine wpQuiet_nil ?_
    intro w1 hw1
    clear hne
    by_cases hR : R = 65533 ∧ K = 1
    · have hr : ((R : Int) == 65533) = true := by simp [hR.1]
      have hn : ((K : Int) == 1) = true := by simp [hR.2]
      rw [if_pos hR] at HD
      clear hR
      go_wp2
      go_ret2
      rw [HD.out]
      exact ⟨rfl, hw1⟩
    · have HD2 := HD.out
      rw [if_neg hR] at HD2
      have HD := Lib.hid HD2
      clear HD2
      by_cases hR1 : R = 65533
      · have hr : ((R : Int) == 65533) = true := by simp [hR1]
        have hn : ((K : Int) == 1) = false := by simp; omega
        clear hR hR1
        go_wp2
        go_ret2
        rw [HD.out]
        exact ⟨rfl, hw1⟩
      · have hr : ((R : Int) == 65533) = false := by simp; omega
        clear hR hR1
        go_wp2
        go_ret2
        rw [HD.out]
        exact ⟨rfl, hw1⟩

/-- The cells of a scanner over b, that stands at k. -/
def scs (b : ByteArray) (k ln cl : Nat) (out : Value) : Array Value := #[.string b, .int .i64 k, .int .i64 ln, .int .i64 cl, out]

set_option maxHeartbeats 400000 in
theorem step_any (g : Nat) (b : ByteArray) (k ln cl : Nat) (out : Value) (w : World) (hE : Env w)
    (hB : Blk w g 55 (scs b k ln cl out)) (hk : k ≤ b.size) (hb : b.size ≤ 65536) (hl : ln ≤ 65537) (hc : cl ≤ 65537) :
    Calls Tryd.prog 43 #[.pointer (some ⟨g, 0, none⟩)] w fun e w' => e = .returned (.tuple #[]) ∧
      Blk w' g 55 (scs b (k + (dec (b.data.toList.drop k)).2) (if (dec (b.data.toList.drop k)).1 = 10 then ln + 1 else ln)
        (if (dec (b.data.toList.drop k)).1 = 10 then 1 else if 0 < (dec (b.data.toList.drop k)).2 then cl + 1 else cl) out) ∧ Kept g w w' := by
  have hR := rune_any g b k ln cl out w hE hB hk
  have hn := dec_le (b.data.toList.drop k)
  rw [List.length_drop, ← Lib.size_eq] at hn
  generalize (dec (b.data.toList.drop k)).1 = r at *
  generalize (dec (b.data.toList.drop k)).2 = n at *
  by_cases h1 : r = 10
  · rw [if_pos h1, if_pos h1]
    have hr : (r == 10) = true := by simp [h1]
    have HR := Lib.hid hR
    clear hR h1 hE
    go_enter Tryd.func43, Tryd.ntmps43
    go_wp2_with fail
    refine HR.out.mono ?_
    rintro e w1 ⟨rfl, hb1⟩
    have hB1 := hB.below' hb1
    have c1 : w1.cell? ⟨g, 1, none⟩ = some (.int .i64 k) := hB1.cell 1
    have c2 : w1.cell? ⟨g, 2, none⟩ = some (.int .i64 ln) := hB1.cell 2
    have c3 : w1.cell? ⟨g, 3, none⟩ = some (.int .i64 cl) := hB1.cell 3
    have f1 := hB1.frozen 1
    have f2 := hB1.frozen 2
    have f3 := hB1.frozen 3
    go_wp2
    go_end0
    exact ⟨rfl, by simpa [scs] using ((hB1.set 1 (.int .i64 (k + n))).set 2 (.int .i64 (ln + 1))).set 3 (.int .i64 1), (((Kept.of_below g hb1).set 1 _).set 2 _).set 3 _⟩
  · rw [if_neg h1, if_neg h1]
    have hr : (r == 10) = false := by simpa using h1
    by_cases h2 : 0 < n
    · rw [if_pos h2]
      have h2' : (0 : Int) < (n : Int) := by omega
      have HR := Lib.hid hR
      clear hR h1 hE h2
      go_enter Tryd.func43, Tryd.ntmps43
      go_wp2_with fail
      refine HR.out.mono ?_
      rintro e w1 ⟨rfl, hb1⟩
      have hB1 := hB.below' hb1
      have c1 : w1.cell? ⟨g, 1, none⟩ = some (.int .i64 k) := hB1.cell 1
      have c3 : w1.cell? ⟨g, 3, none⟩ = some (.int .i64 cl) := hB1.cell 3
      have f1 := hB1.frozen 1
      have f3 := hB1.frozen 3
      go_wp2
      go_end0
      exact ⟨rfl, by simpa [scs] using ((hB1.set 1 (.int .i64 (k + n))).set 3 (.int .i64 (cl + 1))), (((Kept.of_below g hb1).set 1 _).set 3 _)⟩
    · rw [if_neg h2]
      have h2' : (n : Int) = 0 := by omega
      have h2 : n = 0 := by omega
      subst h2
      have HR := Lib.hid hR
      clear hR h1 hE h2'
      go_enter Tryd.func43, Tryd.ntmps43
      go_wp2_with fail
      refine HR.out.mono ?_
      rintro e w1 ⟨rfl, hb1⟩
      have hB1 := hB.below' hb1
      have c1 : w1.cell? ⟨g, 1, none⟩ = some (.int .i64 k) := hB1.cell 1
      have f1 := hB1.frozen 1
      go_wp2
      go_end0
      exact ⟨rfl, by simpa [scs] using (hB1.set 1 (.int .i64 k)), (((Kept.of_below g hb1).set 1 _))⟩
end Go.Proofs.YtpamnnllijkpfaaDoor.LexW
