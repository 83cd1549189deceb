/- WALKS: the reference's IsName. -/
import Derived.Test.YtpamnnllijkpfaaDoorRefD
import Derived.Test.YtpamnnllijkpfaaDoorRefE
import Derived.Test.YtpamnnllijkpfaaDoorLexT
namespace Go.Proofs.YtpamnnllijkpfaaDoor.LexP
open Go
theorem cnt_rest (s : St) : (∀ k, k < cnt s → (stn s k).rest ≠ []) ∧ (stn s (cnt s)).rest = [] := by
  generalize hn : s.rest.length = n
  induction n using Nat.strongRecOn generalizing s with
  | ind n ih =>
    subst hn
    by_cases h : s.rest = []
    · rw [cnt_nil h]
      exact ⟨fun k hk => by omega, h⟩
    · have := ih _ (step_len h) s.step rfl
      rw [cnt_cons h]
      refine ⟨fun k hk => ?_, ?_⟩
      · cases k with
        | zero => exact h
        | succ k => rw [← stn_step]; exact this.1 k (by omega)
      · rw [← stn_step]
        exact this.2
theorem cnt_le (s : St) : cnt s ≤ s.rest.length := by
  generalize hn : s.rest.length = n
  induction n using Nat.strongRecOn generalizing s with
  | ind n ih =>
    subst hn
    by_cases h : s.rest = []
    · rw [cnt_nil h]; omega
    · have := ih _ (step_len h) s.step rfl
      have := step_len h
      rw [cnt_cons h]
      omega
theorem runesC_at (tot : Nat) (s : St) (n k j : Nat) (hk : k < n) (hj : j < 5) : (runesC tot s n)[k * 5 + j]? = (runeC tot (stn s k))[j]? := by
  unfold runesC
  rw [List.range_eq_range', show n = k + (n - k - 1 + 1) by omega, ← List.range'_append_1, List.flatMap_append]
  have hl : ∀ (m a : Nat), ((List.range' a m).flatMap fun k => runeC tot (stn s k)).length = m * 5 := by
    intro m
    induction m with
    | zero => intro a; rfl
    | succ m ih => intro a; rw [List.range'_succ, List.flatMap_cons, List.length_append, ih]; simp [runeC]; omega
  rw [List.getElem?_append_right (by rw [hl]; omega), hl, List.range'_succ, List.flatMap_cons, List.getElem?_append_left (by simp [runeC]; omega)]
  simp
theorem let_dec (l : List UInt8) (h : l ≠ []) : letB (dec l).1 = letB ((Lib.decodeL l).1 : Nat) := by
  unfold dec
  rw [if_neg h]
  split
  · rename_i e
    rw [e]
    rfl
  · rfl
theorem dig_dec (l : List UInt8) (h : l ≠ []) : digB (dec l).1 = digB ((Lib.decodeL l).1 : Nat) := by
  unfold dec
  rw [if_neg h]
  split
  · rename_i e
    rw [e]
    rfl
  · rfl
theorem drop_dec (l : List UInt8) (h : l ≠ []) : (dec l).2 = (Lib.decodeL l).2 := by
  unfold dec
  rw [if_neg h]
  split
  · rename_i e
    rw [e]
  · rfl
end Go.Proofs.YtpamnnllijkpfaaDoor.LexP
namespace Go.Proofs.YtpamnnllijkpfaaDoor.LexW
open Go Go.RowKit Go.Proofs.YtpamnnllijkpfaaDoor.Kit Go.Proofs.YtpamnnllijkpfaaDoor.LexP

/-- The reference's runes of a text, in memory. -/
def Runes (w : World) (g : Nat) (tot : Nat) (s : St) (n : Nat) : Prop :=
  g < w.heap.size ∧ ∀ k, k < n → w.cell? ⟨g, k * 5, none⟩ = some (.int .i64 (dec (stn s k).rest).1) ∧ w.cell? ⟨g, k * 5 + 1, none⟩ = some (.int .i64 (tot - (stn s k).rest.length : Nat)) ∧
    w.cell? ⟨g, k * 5 + 2, none⟩ = some (.int .i64 (dec (stn s k).rest).2) ∧ w.cell? ⟨g, k * 5 + 3, none⟩ = some (.int .i64 (stn s k).line) ∧ w.cell? ⟨g, k * 5 + 4, none⟩ = some (.int .i64 (stn s k).col)
theorem Runes.below {w w' : World} {g tot n : Nat} {s : St} (h : Runes w g tot s n) (hb : Below w.heap.size w w') : Runes w' g tot s n := by
  obtain ⟨h1, h2⟩ := h
  have := hb.size
  refine ⟨by omega, fun k hk => ?_⟩
  obtain ⟨a, b, c, d, e⟩ := h2 k hk
  have hc := fun o => hb.cell (p := ⟨g, o, none⟩) h1
  rw [hc, hc, hc, hc, hc]
  exact ⟨a, b, c, d, e⟩
theorem Runes.own {w : World} {base tot n : Nat} {v : Value} {s : St} (h : w.ownsRow base 52 5 v n (runesC tot s n)) (hn : 0 < n) : ∃ g cap, v = .slice (some ⟨g, 0, none⟩) n cap ∧ base ≤ g ∧ Runes w g tot s n := by
  obtain ⟨g, cap, rfl, hb, hlt, _, hcell⟩ := ownsRow_at h hn
  refine ⟨g, cap, rfl, hb, hlt, fun k hk => ?_⟩
  have := fun j hj => runesC_at tot s n k j hk hj
  exact ⟨hcell _ _ (this 0 (by omega)), hcell _ _ (this 1 (by omega)), hcell _ _ (this 2 (by omega)), hcell _ _ (this 3 (by omega)), hcell _ _ (this 4 (by omega))⟩

def MRel (l : List UInt8) (K : Nat) (w : World) (m : Nat) (si : Value) (wr : World) : Prop :=
  ∃ i : Nat, si = .int .i64 i ∧ Below w.heap.size w wr ∧ i ≤ K ∧ m = K - i ∧ nmS (decide (i = 0)) (stn ⟨l, 1, 1⟩ i).rest = nmS true l

set_option maxHeartbeats 4000000 in
set_option maxRecDepth 10000 in
theorem refIsName_any (s : ByteArray) (hs : s.size ≤ 1048576) (w : World) :
    Calls Tryd.prog 19 #[.string s] w fun e w' => e = .returned (.bool (nmS true s.data.toList && (decide (1 < cnt ⟨s.data.toList, 1, 1⟩ + 1) && !wordsW.contains s.data.toList))) ∧ Below w.heap.size w w' := by
  have hcb := fun (W : World) => Lib.run_convert_string_bytes (P := Tryd.prog) W 9 32 5 s Tryd.underlying9 Tryd.underlying32 Tryd.underlying5
  have hbw := below_bytesWorld w s
  go_enter Tryd.func19, Tryd.ntmps19
  go_wp2_with fail
  refine (Runes_any _ _ _ s.data.toList _ (Bytes.conv_new w s) (by rw [← Lib.size_eq]; exact hs)).mono ?_
  rintro e w1 ⟨hb1, v, rfl, hown⟩
  have hb2 := Kit.Below.then hbw hb1
  obtain ⟨g, cap, rfl, _, hR⟩ := Runes.own hown (by omega)
  have hcr := cnt_rest ⟨s.data.toList, 1, 1⟩
  have hK := cnt_le ⟨s.data.toList, 1, 1⟩
  simp only [← Lib.size_eq] at hK
  have hK2 : cnt ⟨s.data.toList, 1, 1⟩ ≤ 1048576 := by omega
  generalize hKe : cnt ⟨s.data.toList, 1, 1⟩ = K at *
  have HKE := Lib.hid hKe
  clear hKe
  clear hcb hbw hb1 hown hK
  go_wp2_with fail
  go_loopg [4] K (fun m si wr => MRel s.data.toList K w1 m si wr)
  case atStart => exact ⟨0, rfl, Below.refl _ _, by omega, by omega, rfl⟩
  case round =>
    obtain ⟨i, rfl, hbw, hi, hm, hn⟩ := hrel
    have hbt := Kit.Below.then hb2 hbw
    have hRr := hR.below hbw
    have HC := Lib.hid hcr
    have HN := Lib.hid hn
    have HM := Lib.hid hm
    clear hR hcr hn hm hb2
    by_cases hlt : i < K
    · have hce := fun w' (hw' : Below wr.heap.size wr w') => (hRr.below hw').2 i (by omega)
      have hg := hRr.1
      have hne := HC.out.1 i hlt
      have hp := dec_pos hne
      have hL := fun w => rletter_any (dec (stn ⟨s.data.toList, 1, 1⟩ i).rest).1 (s.data.toList.length - (stn ⟨s.data.toList, 1, 1⟩ i).rest.length : Nat) (dec (stn ⟨s.data.toList, 1, 1⟩ i).rest).2 (stn ⟨s.data.toList, 1, 1⟩ i).line (stn ⟨s.data.toList, 1, 1⟩ i).col w
      have hD := fun w => rdigit_any (dec (stn ⟨s.data.toList, 1, 1⟩ i).rest).1 (s.data.toList.length - (stn ⟨s.data.toList, 1, 1⟩ i).rest.length : Nat) (dec (stn ⟨s.data.toList, 1, 1⟩ i).rest).2 (stn ⟨s.data.toList, 1, 1⟩ i).line (stn ⟨s.data.toList, 1, 1⟩ i).col w
      rw [decide_eq_true (show (0 : Int) < ((dec (stn ⟨s.data.toList, 1, 1⟩ i).rest).2 : Nat) by omega), Bool.true_and] at hL hD
      unfold runeV at hL hD
      have hyes := nmS_yes (first := decide (i = 0)) hne
      have hno := nmS_no (first := decide (i = 0)) hne
      rw [← let_dec _ hne, ← dig_dec _ hne, ← drop_dec _ hne, ← step_rest, show (stn ⟨s.data.toList, 1, 1⟩ i).step = stn ⟨s.data.toList, 1, 1⟩ (i + 1) from rfl, HN.out] at hyes
      rw [← let_dec _ hne, ← dig_dec _ hne, HN.out] at hno
      have HY := Lib.hid hyes
      have HO := Lib.hid hno
      clear hyes hno hne hp
      generalize (dec (stn ⟨s.data.toList, 1, 1⟩ i).rest).1 = r at *
      generalize (dec (stn ⟨s.data.toList, 1, 1⟩ i).rest).2 = d at *
      generalize (stn ⟨s.data.toList, 1, 1⟩ i).line = ln at *
      generalize (stn ⟨s.data.toList, 1, 1⟩ i).col = cl at *
      generalize s.data.toList.length - (stn ⟨s.data.toList, 1, 1⟩ i).rest.length = at0 at *
      have a1 : (0 : Int) ≤ (i : Int) := by omega
      have a2 : (i : Int) < (K : Int) + 1 := by omega
      have a3 : (i : Int) < (K : Int) := by omega
      have HCE := Lib.hid hce
      obtain ⟨c0, c1, c2, c3, c4⟩ := hce _ (Below.refl _ _)
      clear HN hce hRr HC
      cases hl : letB r with
      | true =>
        rw [hl] at hL
        have HZ := Lib.hid (HY.out (by rw [hl]; rfl))
        clear hl hD HO HY
        go_wp2_with fail
        refine (hL _).mono ?_
        rintro e w' ⟨rfl, hw'⟩
        have hb3 := Kit.Below.then hbw hw'
        clear hL c0 c1 c2 c3 c4
        go_wp2_with fail
        go_roundg (K - (i + 1))
        case measure => have := HM.out; omega
        case rel => exact ⟨i + 1, rfl, hb3, by omega, rfl, by rw [decide_eq_false (by omega)]; exact HZ.out.symm⟩
      | false =>
        rw [hl] at hL
        by_cases h0 : i = 0
        · have HZ := Lib.hid (HO.out (by rw [hl, h0]; rfl))
          have h0' : ((i : Int) == 0) = true := by simp [h0]
          clear hl hD HO HY h0
          go_wp2_with fail
          refine (hL _).mono ?_
          rintro e w' ⟨rfl, hw'⟩
          have hb3 := Kit.Below.then hbt hw'
          clear hL c0 c1 c2 c3 c4
          go_wp2_with fail
          go_ret
          exact ⟨by rw [HZ.out]; rfl, hb3⟩
        · have h0' : ((i : Int) == 0) = false := by simp; exact h0
          cases hd : digB r with
          | true =>
            rw [hd] at hD
            have HZ := Lib.hid (HY.out (by rw [hl, hd, decide_eq_false h0]; rfl))
            clear hl hd HO HY h0
            go_wp2_with fail
            refine (hL _).mono ?_
            rintro e w' ⟨rfl, hw'⟩
            clear c0 c1 c2 c3 c4
            obtain ⟨c0, c1, c2, c3, c4⟩ := HCE.out _ hw'
            clear hL
            go_wp2_with fail
            refine (hD _).mono ?_
            rintro e w'' ⟨rfl, hw''⟩
            have hb3 := Kit.Below.then (Kit.Below.then hbw hw') hw''
            clear hD c0 c1 c2 c3 c4
            go_wp2_with fail
            go_roundg (K - (i + 1))
            case measure => have := HM.out; omega
            case rel => exact ⟨i + 1, rfl, hb3, by omega, rfl, by rw [decide_eq_false (by omega)]; exact HZ.out.symm⟩
          | false =>
            rw [hd] at hD
            have HZ := Lib.hid (HO.out (by rw [hl, hd]; simp))
            clear hl hd HO HY h0
            go_wp2_with fail
            refine (hL _).mono ?_
            rintro e w' ⟨rfl, hw'⟩
            clear c0 c1 c2 c3 c4
            obtain ⟨c0, c1, c2, c3, c4⟩ := HCE.out _ hw'
            clear hL
            go_wp2_with fail
            refine (hD _).mono ?_
            rintro e w'' ⟨rfl, hw''⟩
            have hb3 := Kit.Below.then (Kit.Below.then hbt hw') hw''
            clear hD c0 c1 c2 c3 c4
            go_wp2_with fail
            go_ret
            exact ⟨by rw [HZ.out]; rfl, hb3⟩
    · obtain rfl : i = K := by omega
      have hz : nmS true s.data.toList = true := by rw [← HN.out, HC.out.2, nmS_nil]
      have HZ := Lib.hid hz
      clear hz HN HM
      have hW := IsWord_any s wr
      have HB := Lib.hid (rfl : wordsW.contains s.data.toList = wordsW.contains s.data.toList)
      generalize hwb : wordsW.contains s.data.toList = wb at *
      have HWB := Lib.hid hwb
      clear hwb HB
      by_cases hi0 : i = 0
      · have HI0 := Lib.hid hi0
        have a1 : ¬ ((1 : Int) < (i : Int) + 1) := by omega
        have a2 : ¬ ((0 : Int) < (i : Int)) := by omega
        have a3 : ¬ (1 < i + 1) := by omega
        go_wp2_with fail
        go_ret
        exact ⟨by rw [HZ.out, HKE.out]; simp [HI0.out], hbt⟩
      · have a1 : ((1 : Int) < (i : Int) + 1) := by omega
        have a2 : ((0 : Int) < (i : Int)) := by omega
        have a3 : (1 < i + 1) := by omega
        go_wp2_with fail
        refine hW.mono ?_
        rintro e w' ⟨rfl, hw'⟩
        have hb3 := Kit.Below.then hbt hw'
        go_wp2_with fail
        go_ret
        exact ⟨by rw [HZ.out, HKE.out, ← HWB.out]; simp; omega, hb3⟩
end Go.Proofs.YtpamnnllijkpfaaDoor.LexW
