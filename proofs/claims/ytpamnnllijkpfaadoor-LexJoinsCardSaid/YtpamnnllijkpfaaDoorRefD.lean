/- WALKS: the reference's runes of a text. -/
import Derived.Test.YtpamnnllijkpfaaDoorRefC
namespace Go.Proofs.YtpamnnllijkpfaaDoor.LexP
open Go
/-- So many steps on. -/
def stn (s : St) : Nat → St
  | 0 => s
  | k + 1 => (stn s k).step
/-- The steps to the end. -/
def cnt (s : St) : Nat := if _h : s.rest = [] then 0 else cnt s.step + 1
termination_by s.rest.length
decreasing_by exact step_len _h
theorem cnt_nil {s : St} (h : s.rest = []) : cnt s = 0 := by rw [cnt, dif_pos h]
theorem cnt_cons {s : St} (h : s.rest ≠ []) : cnt s = cnt s.step + 1 := by rw [cnt, dif_neg h]
theorem stn_step (s : St) (k : Nat) : stn s.step k = stn s (k + 1) := by
  induction k with
  | zero => rfl
  | succ k ih => exact congrArg St.step ih
/-- What the reference keeps of the rune at s, in a text of so many bytes. -/
def runeC (tot : Nat) (s : St) : List Value := [.int .i64 (dec s.rest).1, .int .i64 (tot - s.rest.length : Nat), .int .i64 (dec s.rest).2, .int .i64 s.line, .int .i64 s.col]
def runesC (tot : Nat) (s : St) (n : Nat) : List Value := (List.range n).flatMap fun k => runeC tot (stn s k)
end Go.Proofs.YtpamnnllijkpfaaDoor.LexP
namespace Go.Proofs.YtpamnnllijkpfaaDoor.LexW
open Go Go.RowKit Go.Proofs.YtpamnnllijkpfaaDoor.Kit Go.Proofs.YtpamnnllijkpfaaDoor.LexP

theorem info_rune : (Tryd.prog.info? 52).map (fun i => (i.zero, i.size, i.bytes)) = some (some (.agg #[.int .i64 0, .int .i64 0, .int .i64 0, .int .i64 0, .int .i64 0]), 5, 40) := by kernel_rfl

def RRel (l : List UInt8) (w : World) (m : Nat) (sv sln scl si : Value) (wr : World) : Prop :=
  ∃ k i ln cl : Nat, stn ⟨l, 1, 1⟩ k = ⟨l.drop i, ln, cl⟩ ∧ i ≤ l.length ∧ k ≤ i ∧ ln ≤ k + 1 ∧ cl ≤ k + 1 ∧ k + cnt ⟨l.drop i, ln, cl⟩ = cnt ⟨l, 1, 1⟩ ∧
    sln = .int .i64 ln ∧ scl = .int .i64 cl ∧ si = .int .i64 i ∧ wr.ownsRow w.heap.size 52 5 sv k (runesC l.length ⟨l, 1, 1⟩ k) ∧ Below w.heap.size w wr ∧ m = l.length - i

theorem step_at (l : List UInt8) (i ln cl : Nat) (hi : i < l.length) : St.step ⟨l.drop i, ln, cl⟩ = ⟨l.drop (i + (dec (l.drop i)).2), if (dec (l.drop i)).1 = 10 then ln + 1 else ln, if (dec (l.drop i)).1 = 10 then 1 else cl + 1⟩ := by
  have hne : l.drop i ≠ [] := by
    intro h0
    have := congrArg List.length h0
    simp at this
    omega
  have hp := dec_pos hne
  unfold St.step
  simp only [List.drop_drop]
  split
  · rfl
  · rw [if_pos (by omega)]

set_option maxHeartbeats 1000000 in
set_option maxRecDepth 10000 in
theorem Runes_any (A : Option Addr) (n c : Nat) (l : List UInt8) (w : World) (hl : Bytes w A n l) (hlen : l.length ≤ 1048576) :
    Calls Tryd.prog 21 #[.slice A n c] w fun e w' => Below w.heap.size w w' ∧ ∃ v, e = .returned v ∧ w'.ownsRow w.heap.size 52 5 v (cnt ⟨l, 1, 1⟩ + 1) (runesC l.length ⟨l, 1, 1⟩ (cnt ⟨l, 1, 1⟩ + 1)) := by
  obtain ⟨i0, hi0, hz0, hz1, hz2⟩ := info_parts info_rune
  obtain ⟨w0, hmk, hown, hgrow⟩ := Go.run_makeSlice_owned (P := Tryd.prog) w w.heap.size 49 52 i0 _ 5 Tryd.underlying49 hi0 hz0 hz1 .i64 .i64 0 (by omega) (by omega) (by decide) (Nat.le_refl _)
  rw [Int.natCast_zero] at hmk
  have hb0 := (Below.refl w.heap.size w).grown hgrow (by omega) (fun j hj => by cases hj)
  have hl0 := hl.below hb0
  go_enter Tryd.func21, Tryd.ntmps21
  go_wp2_with fail
  go_loopg [3, 4, 5, 6] l.length (fun m sv sln scl si wr => RRel l w m sv sln scl si wr)
  case atStart => exact ⟨0, 0, 1, 1, rfl, by omega, by omega, by omega, by omega, by simp, rfl, rfl, rfl, hown, hb0, by omega⟩
  case round =>
    clear hown hb0 hl0 hgrow hmk
    obtain ⟨k, i, ln, cl, hs, hi, hki, hln, hcl, hcnt, rfl, rfl, rfl, hown, hbw, hm⟩ := hrel
    obtain ⟨oa, on, oc, rfl⟩ := ownsRow_slice hown
    have hlr := hl.below hbw
    by_cases hil : i < l.length
    · have hR := rune0_any A n c l i wr hlr hil (by omega)
      rw [rn0_dec hil] at hR
      have hst := step_at l i ln cl hil
      have hne : l.drop i ≠ [] := by
        intro h0
        have := congrArg List.length h0
        simp at this
        omega
      have hp := dec_pos hne
      have hle := dec_le (l.drop i)
      rw [List.length_drop] at hle
      have HS := Lib.hid hst
      have HQ := Lib.hid hs
      have HN := Lib.hid hcnt
      have HE := Lib.hid hne
      have hrc : runesC l.length ⟨l, 1, 1⟩ (k + 1) = runesC l.length ⟨l, 1, 1⟩ k ++ [.int .i64 (dec (l.drop i)).1, .int .i64 i, .int .i64 (dec (l.drop i)).2, .int .i64 ln, .int .i64 cl] := by
        unfold runesC
        rw [List.range_succ, List.flatMap_append, List.flatMap_singleton, hs]
        unfold runeC
        simp only [List.length_drop, Nat.sub_sub_self hi]
      have HC := Lib.hid hrc
      clear hst hs hcnt hne hrc
      generalize (dec (l.drop i)).1 = r at *
      generalize (dec (l.drop i)).2 = d at *
      have HR := Lib.hid hR
      clear hR
      have hlt : (i : Int) < (l.length : Int) := by omega
      obtain rfl := hl.1
      have hk1 : k + 1 ≤ maxLen := by unfold maxLen; omega
      have hk2 : (k + 1) * 40 ≤ 140737488355328 := by omega
      by_cases h10 : r = 10
      · subst h10
        have HS2 := HS.out
        rw [if_pos rfl, if_pos rfl] at HS2
        have HS5 := Lib.hid HS2
        clear HS2 HS
        go_wp2_with (first
          | (go_at_call 35; refine HR.out.mono ?_; rintro e w' ⟨rfl, rfl⟩)
          | (at_builtin; refine wpList_append_lies _ (by rfl) _ _ _ (by rfl) w.heap.size 52 i0 _ 5 40 Tryd.underlying49 hi0 hz0 hz1 hz2 rfl (by omega) (.slice oa on oc) k (runesC l.length ⟨l, 1, 1⟩ k) (by rfl) (hown.alloc _) ⟨w'.heap.size, 0, none⟩ 1 1 [.int .i64 10, .int .i64 i, .int .i64 d, .int .i64 ln, .int .i64 cl] (by rfl) (by rfl) (World.news_of_block (cs := #[.int .i64 10, .int .i64 i, .int .i64 d, .int .i64 ln, .int .i64 cl]) (t := 52) (fr := (0, 0)) (Blk.new _ _ _)) (by simp [Value.oneCell']) (by omega) hk1 hk2 (by have := hbw.size; simp; omega) _ rfl ?_; intro g' cap w6 hown6 hgrow hat hlt6))
        have hb6 : Below w.heap.size w w6 := (Kit.Below.al hbw _).grown hgrow (by have := hbw.size; simp; omega) (fun j hj => ownsRow_base hown hj)
        rw [← HC.out] at hown6
        go_roundg (l.length - (i + d))
        case measure => omega
        case rel =>
          refine ⟨k + 1, i + d, ln + 1, 1, ?_, by omega, by omega, by omega, by omega, ?_, rfl, rfl, rfl, hown6, hb6, rfl⟩
          · show (stn _ k).step = _
            rw [HQ.out]
            exact HS5.out
          · rw [← HN.out, cnt_cons (s := ⟨l.drop i, ln, cl⟩) HE.out, HS5.out]
            omega
      · have hr : (r == 10) = false := by simpa using h10
        have HS2 := HS.out
        rw [if_neg h10, if_neg h10] at HS2
        have HS5 := Lib.hid HS2
        clear HS2 HS
        go_wp2_with (first
          | (go_at_call 35; refine HR.out.mono ?_; rintro e w' ⟨rfl, rfl⟩)
          | (at_builtin; refine wpList_append_lies _ (by rfl) _ _ _ (by rfl) w.heap.size 52 i0 _ 5 40 Tryd.underlying49 hi0 hz0 hz1 hz2 rfl (by omega) (.slice oa on oc) k (runesC l.length ⟨l, 1, 1⟩ k) (by rfl) (hown.alloc _) ⟨w'.heap.size, 0, none⟩ 1 1 [.int .i64 r, .int .i64 i, .int .i64 d, .int .i64 ln, .int .i64 cl] (by rfl) (by rfl) (World.news_of_block (cs := #[.int .i64 r, .int .i64 i, .int .i64 d, .int .i64 ln, .int .i64 cl]) (t := 52) (fr := (0, 0)) (Blk.new _ _ _)) (by simp [Value.oneCell']) (by omega) hk1 hk2 (by have := hbw.size; simp; omega) _ rfl ?_; intro g' cap w6 hown6 hgrow hat hlt6))
        have hb6 : Below w.heap.size w w6 := (Kit.Below.al hbw _).grown hgrow (by have := hbw.size; simp; omega) (fun j hj => ownsRow_base hown hj)
        rw [← HC.out] at hown6
        go_roundg (l.length - (i + d))
        case measure => omega
        case rel =>
          refine ⟨k + 1, i + d, ln, cl + 1, ?_, by omega, by omega, by omega, by omega, ?_, rfl, rfl, rfl, hown6, hb6, rfl⟩
          · show (stn _ k).step = _
            rw [HQ.out]
            exact HS5.out
          · rw [← HN.out, cnt_cons (s := ⟨l.drop i, ln, cl⟩) HE.out, HS5.out]
            omega
    · obtain rfl : i = l.length := by omega
      have hrc : runesC l.length ⟨l, 1, 1⟩ (k + 1) = runesC l.length ⟨l, 1, 1⟩ k ++ [.int .i64 0, .int .i64 l.length, .int .i64 0, .int .i64 ln, .int .i64 cl] := by
        unfold runesC
        rw [List.range_succ, List.flatMap_append, List.flatMap_singleton, hs]
        unfold runeC
        simp [dec_nil]
      have hk : cnt ⟨l, 1, 1⟩ = k := by rw [← hcnt, cnt_nil (by simp)]; omega
      have hk1 : k + 1 ≤ maxLen := by unfold maxLen; omega
      have hk2 : (k + 1) * 40 ≤ 140737488355328 := by omega
      have HC := Lib.hid hrc
      have HK := Lib.hid hk
      clear hrc hk hs hcnt
      obtain rfl := hl.1
      go_wp2_with (first | (at_builtin; refine wpList_append_lies _ (by rfl) _ _ _ (by rfl) w.heap.size 52 i0 _ 5 40 Tryd.underlying49 hi0 hz0 hz1 hz2 rfl (by omega) (.slice oa on oc) k (runesC l.length ⟨l, 1, 1⟩ k) (by rfl) (hown.alloc _) ⟨wr.heap.size, 0, none⟩ 1 1 [.int .i64 0, .int .i64 l.length, .int .i64 0, .int .i64 ln, .int .i64 cl] (by rfl) (by rfl) (World.news_of_block (cs := #[.int .i64 0, .int .i64 l.length, .int .i64 0, .int .i64 ln, .int .i64 cl]) (t := 52) (fr := (0, 0)) (Blk.new _ _ _)) (by simp [Value.oneCell']) (by omega) hk1 hk2 (by have := hbw.size; simp; omega) _ rfl ?_; intro g' cap w6 hown6 hgrow hat hlt6))
      have hb6 : Below w.heap.size w w6 := (Kit.Below.al hbw _).grown hgrow (by have := hbw.size; simp; omega) (fun j hj => ownsRow_base hown hj)
      rw [← HC.out] at hown6
      go_ret
      exact ⟨hb6, _, rfl, by rw [HK.out]; exact hown6⟩
end Go.Proofs.YtpamnnllijkpfaaDoor.LexW
