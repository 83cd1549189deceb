/- WALKS: the reference's Lex. -/
import Derived.Test.YtpamnnllijkpfaaDoorRefL
import Derived.Deep.DeepCutAuto
import Derived.Deep.CutBlock
import Derived.StillTailTactics
namespace Go.Proofs.YtpamnnllijkpfaaDoor.LexW
open Go Go.RowKit Go.Proofs.YtpamnnllijkpfaaDoor.Kit Go.Proofs.YtpamnnllijkpfaaDoor.LexP

theorem info_rtok : (Tryd.prog.info? 44).map (fun i => (i.zero, i.size, i.bytes)) = some (some (.agg #[.int .i64 0, .string ⟨#[]⟩, .int .u64 0, .int .i64 0, .int .i64 0]), 5, 48) := by kernel_rfl

theorem ownsRow_mono {w : World} {base base' e size n : Nat} {v : Value} {xs : List Value} (h : w.ownsRow base e size v n xs) (hb : base' ≤ base) : w.ownsRow base' e size v n xs := by
  obtain ⟨h1, h2⟩ := h
  refine ⟨h1, ?_⟩
  rcases h2 with h2 | ⟨g', cap, cur, rfl, hb2, r⟩
  · exact .inl h2
  · exact .inr ⟨g', cap, cur, rfl, Nat.le_trans hb hb2, r⟩

theorem stn_add (s : St) (a b : Nat) : stn (stn s a) b = stn s (a + b) := by
  induction b with
  | zero => rfl
  | succ b ih => exact congrArg St.step ih
theorem addr_add2 (a : Addr) (m n : Nat) : (a.add m).add n = a.add (m + n) := by
  unfold Addr.add
  by_cases hm : m = 0
  · subst hm; simp
  · by_cases hn : n = 0
    · subst hn; simp [hm]
    · simp [hm, hn, Nat.add_assoc]
theorem Bytes.sub {w : World} {ad : Addr} {n : Nat} {l : List UInt8} (h : Bytes w (some ad) n l) (lo hi : Nat) (h1 : lo ≤ hi) (h2 : hi ≤ l.length) : Bytes w (some (ad.add lo)) (hi - lo) ((l.drop lo).take (hi - lo)) := by
  refine ⟨by simp; omega, fun j hj => ?_⟩
  simp only [List.length_take, List.length_drop] at hj
  obtain ⟨ad', e, hlt, hc⟩ := h.2 (lo + j) (by omega)
  injection e with e
  subst e
  refine ⟨_, rfl, by rw [block_add]; exact hlt, ?_⟩
  rw [addr_add2, hc]
  simp

/-- What the reference's Lex leaves. -/
def RLexDone (l : List UInt8) (w : World) (e : Ending) (w' : World) : Prop :=
  Below w.heap.size w w' ∧ ((∃ q ln cl, lexS l = .error (q, ln, cl) ∧ e = .returned (.tuple #[.slice none 0 0, .agg #[.int .i64 (q : Nat), .int .i64 (ln : Nat), .int .i64 (cl : Nat)]])) ∨
    ∃ toks v, lexS l = .ok toks ∧ e = .returned (.tuple #[v, .agg #[.int .i64 0, .int .i64 0, .int .i64 0]]) ∧ w'.ownsRow w.heap.size 44 5 v toks.length (toksC toks))

def RlRel (l : List UInt8) (K : Nat) (want : Except (Nat × Nat) (List Tok)) (w1 : World) (m : Nat) (s5 s6 : Value) (wr : World) : Prop :=
  ∃ k toks, s6 = .int .i64 (k : Nat) ∧ k ≤ K ∧ Below w1.heap.size w1 wr ∧ wr.ownsRow w1.heap.size 44 5 s5 toks.length (toksC toks) ∧ toks.length ≤ k ∧ m = K - k ∧
    want = match lexLoop (stn ⟨l, 1, 1⟩ k) with | .error f => .error f | .ok l => .ok (toks ++ l)

def CutR (l : List UInt8) (K j T : Nat) (w4 : World) (s6 : Value) (wx : World) : Prop :=
  ∃ j' kind val : Nat, s6 = .int .i64 j' ∧ j < j' ∧ j' ≤ K ∧ kind ≠ 5 ∧ Kept T w4 wx ∧ Blk wx T 44 #[.int .i64 kind, .string ⟨#[]⟩, .int .u64 val, .int .i64 (stn ⟨l, 1, 1⟩ j).line, .int .i64 (stn ⟨l, 1, 1⟩ j).col] ∧
    tokenS (stn ⟨l, 1, 1⟩ j) = .ok (⟨kind, upTo (stn ⟨l, 1, 1⟩ j) (stn ⟨l, 1, 1⟩ j'), val, (stn ⟨l, 1, 1⟩ j).line, (stn ⟨l, 1, 1⟩ j).col⟩, stn ⟨l, 1, 1⟩ j')

def NmRel (l : List UInt8) (K j : Nat) (w5 : World) (m : Nat) (s6 : Value) (wr : World) : Prop :=
  ∃ i : Nat, s6 = .int .i64 i ∧ Below w5.heap.size w5 wr ∧ j ≤ i ∧ i ≤ K ∧ m = K - i ∧ (stn ⟨l, 1, 1⟩ i).while nameB = (stn ⟨l, 1, 1⟩ j).while nameB

def SgRel (l : List UInt8) (j T : Nat) (W6 : World) (m : Nat) (s6 s13 : Value) (wr : World) : Prop :=
  ∃ i : Nat, s13 = .int .i64 i ∧ i ≤ 25 ∧ m = 25 - i ∧ Kept T W6 wr ∧
    ((s6 = .int .i64 j ∧ Blk wr T 44 #[.int .i64 0, .string ⟨#[]⟩, .int .u64 0, .int .i64 (stn ⟨l, 1, 1⟩ j).line, .int .i64 (stn ⟨l, 1, 1⟩ j).col] ∧ (signsW.take i).find? (fun t => t.isPrefixOf (stn ⟨l, 1, 1⟩ j).rest) = none) ∨
      ∃ t, sgnF (stn ⟨l, 1, 1⟩ j).rest = some t ∧ s6 = .int .i64 (j + t.length : Nat) ∧ Blk wr T 44 #[.int .i64 4, .string ⟨#[]⟩, .int .u64 0, .int .i64 (stn ⟨l, 1, 1⟩ j).line, .int .i64 (stn ⟨l, 1, 1⟩ j).col])

theorem find_take {L : List (List UInt8)} {p : List UInt8 → Bool} {i : Nat} (hi : i < L.length) (h : (L.take i).find? p = none) (hp : p L[i] = true) : L.find? p = some L[i] := by
  conv => lhs; rw [← List.take_append_drop i L]
  rw [List.find?_append, h, List.drop_eq_getElem_cons hi, List.find?_cons, hp]
  rfl
theorem find_take1 {L : List (List UInt8)} {p : List UInt8 → Bool} {i : Nat} (hi : i < L.length) (h : (L.take i).find? p = none) (hp : p L[i] = false) : (L.take (i + 1)).find? p = none := by
  rw [List.take_succ_eq_append_getElem hi, List.find?_append, h, List.find?_cons, hp]
  rfl
/-- Behind a sign stands a rune of the text. -/
theorem sgn_in {l t : List UInt8} {K j : Nat} (hcr : (∀ k, k < K → (stn ⟨l, 1, 1⟩ k).rest ≠ []) ∧ (stn ⟨l, 1, 1⟩ K).rest = []) (hj : j < K) (h : sgnF (stn ⟨l, 1, 1⟩ j).rest = some t) : j < j + t.length ∧ j + t.length ≤ K := by
  obtain ⟨_, h2, h3⟩ := sgn_upTo h
  refine ⟨by omega, ?_⟩
  rcases h2 with h2 | h2
  · omega
  · rcases Nat.lt_or_ge (j + 1) K with h4 | h4
    · omega
    · exfalso
      have : j + 1 = K := by omega
      have h5 := hcr.2
      rw [← this] at h5
      have h6 : (stn (stn ⟨l, 1, 1⟩ j) t.length).rest.length ≤ (stn ⟨l, 1, 1⟩ (j + 1)).rest.length := by
        rw [h2]
        exact step_leq (stn ⟨l, 1, 1⟩ (j + 1))
      rw [h5] at h6
      simp only [List.length_nil, Nat.le_zero] at h6
      obtain ⟨h7, h8⟩ := sgn_mem h
      obtain ⟨u, e⟩ := List.isPrefixOf_iff_prefix.1 h8
      have hl := (signs_low t h7).2
      have e1 : (stn ⟨l, 1, 1⟩ (j + 1)).rest = (stn ⟨l, 1, 1⟩ j).rest.drop 1 := by
        match t, h2, hl, e with
        | [x, y], _, hl, e =>
          have hx := hl x (List.mem_cons_self ..)
          show (stn ⟨l, 1, 1⟩ j).step.rest = _
          rw [step_rest, ← e]
          have : dec ([x, y] ++ u) = ((x.toNat : Int), 1) := dec_ascii hx
          rw [this]
      rw [h5] at e1
      have := congrArg List.length e1
      simp at this
      omega


set_option maxHeartbeats 2000000 in
set_option maxRecDepth 10000 in
theorem refLex_any (A : Option Addr) (n c : Nat) (l : List UInt8) (w : World) (hl : Bytes w A n l) (hnc : n ≤ c) :
    Calls Tryd.prog 13 #[.slice A n c] w (RLexDone l w) := by
  obtain ⟨i0, hi0, hz0, hz1, hz2⟩ := info_parts info_rtok
  by_cases hbig : 65536 < l.length
  · have hb : (65536 : Int) < (n : Int) := by have := hl.1; omega
    have hS : lexS l = .error (32, 1, 1) := by unfold lexS; rw [if_pos hbig]
    go_enter Tryd.func13, Tryd.ntmps13
    go_wp2_with fail
    refine bodyPost_ret (v := .tuple #[.slice none 0 0, .agg #[.int .i64 32, .int .i64 1, .int .i64 1]]) (by simp [results, Tryd.results13, go_sem]) rfl ⟨?_, .inl ⟨32, 1, 1, hS, rfl⟩⟩
    exact (Below.refl _ _).alloc (Nat.le_refl _) _
  · have hb : (n : Int) ≤ 65536 := by have := hl.1; omega
    have hlen : l.length ≤ 1048576 := by omega
    have hS : lexS l = match lexLoop (stn ⟨l, 1, 1⟩ 0) with | .error (ln, cl) => .error (20, ln, cl) | .ok ts => .ok ts := by
      unfold lexS
      rw [if_neg hbig]
      rfl
    have HS := Lib.hid hS
    have HL := Lib.hid hl
    have hcr := cnt_rest ⟨l, 1, 1⟩
    have hK0 := cnt_le ⟨l, 1, 1⟩
    have hlz : (n : Int) = (l.length : Int) := by rw [hl.1]
    have hb0 := Kit.Below.al (Below.refl w.heap.size w) (.cells #[.int .i64 0, .int .i64 0, .int .i64 0] 38)
    have hF0 := Blk.new w 38 #[.int .i64 0, .int .i64 0, .int .i64 0]
    clear hS hl
    go_enter Tryd.func13, Tryd.ntmps13
    go_wp2_with fail
    refine (Runes_any _ _ _ l _ (HL.out.below hb0) hlen).mono ?_
    rintro e w1 ⟨hb1, v, rfl, hown⟩
    have hbt := Kit.Below.then hb0 hb1
    have hF1 := hF0.below' hb1
    obtain ⟨g, cap, rfl, _, hR⟩ := Runes.own hown (by omega)
    have hL1 := HL.out.below hbt
    clear hb0 hb1 hF0 hown HL
    generalize hKe : cnt ⟨l, 1, 1⟩ = K at *
    clear hKe
    obtain ⟨w0, hmk, hown, hgrow⟩ := Go.run_makeSlice_owned (P := Tryd.prog) w1 w1.heap.size 36 44 i0 _ 5 Tryd.underlying36 hi0 hz0 hz1 .i64 .i64 0 (by omega) (by omega) (by decide) (Nat.le_refl _)
    rw [Int.natCast_zero] at hmk
    have hbg := (Below.refl w1.heap.size w1).grown hgrow (by omega) (fun j hj => by cases hj)
    have HCR := Lib.hid hcr
    have HF1 := Lib.hid hF1
    have HR := Lib.hid hR
    have HL1 := Lib.hid hL1
    have Hbt := Lib.hid hbt
    clear hgrow hF1 hR hL1 hcr hbt
    generalize hwant : lexLoop (stn ⟨l, 1, 1⟩ 0) = want at *
    have HWA := Lib.hid hwant
    clear hwant
    go_wp2_with fail
    clear hmk
    go_loopg [5, 6] K (fun m s5 s6 wr => RlRel l K want w1 m s5 s6 wr)
    case atStart => exact ⟨0, [], rfl, by omega, hbg, hown, Nat.le_refl _, rfl, by rw [HWA.out]; cases want <;> rfl⟩
    case round =>
      clear hbg hown HWA
      obtain ⟨k, toks, rfl, hk, hbw, hown, htk, hm, hw⟩ := hrel
      obtain ⟨oa, on, oc, rfl⟩ := ownsRow_slice hown
      have hbt := Kit.Below.then Hbt.out hbw
      have HW := Lib.hid hw
      have HM := Lib.hid hm
      clear hw hm
      have HSK := Lib.hid (skipped_any A n c l g cap K k wr (HL1.out.below hbw) hlen HCR.out (by omega) (HR.out.below hbw) hk)
      have HO := Lib.hid hown
      clear hown
      go_wp2_with fail
      refine HSK.out.mono ?_
      clear HSK
      rintro e w2 ⟨h2, j, rfl, hkj, hjK, hbl⟩
      have HBL := Lib.hid hbl
      have hbw2 := Kit.Below.then hbw h2
      have hbt2 := Kit.Below.then hbt h2
      have hown2 := ownsRow_kept (g := w2.heap.size) HO.out (Kept.of_below w2.heap.size h2) (by have := ownsRow_new HO.out (w2.heap.size - wr.heap.size); have h5 := h2.size; rwa [show wr.heap.size + (w2.heap.size - wr.heap.size) = w2.heap.size by omega] at this)
      have HO2 := Lib.hid hown2
      have a1 : (0 : Int) ≤ (j : Int) := by omega
      have a2 : (j : Int) < (K : Int) + 1 := by omega
      obtain ⟨c0, c1, c2, c3, c4⟩ := (HR.out.below hbw2).2 j (by omega)
      clear hbl hown2 HO h2 hbt hbw
      by_cases hj : j < K
      · have hne := HCR.out.1 j hj
        have hdp := dec_pos hne
        have HNE := Lib.hid hne
        have hD := fun w => rdigit_any (dec (stn ⟨l, 1, 1⟩ j).rest).1 (l.length - (stn ⟨l, 1, 1⟩ j).rest.length : Nat) (dec (stn ⟨l, 1, 1⟩ j).rest).2 (stn ⟨l, 1, 1⟩ j).line (stn ⟨l, 1, 1⟩ j).col w
        have hL := fun w => rletter_any (dec (stn ⟨l, 1, 1⟩ j).rest).1 (l.length - (stn ⟨l, 1, 1⟩ j).rest.length : Nat) (dec (stn ⟨l, 1, 1⟩ j).rest).2 (stn ⟨l, 1, 1⟩ j).line (stn ⟨l, 1, 1⟩ j).col w
        have hH := fun w => here_any (dec (stn ⟨l, 1, 1⟩ j).rest).1 (l.length - (stn ⟨l, 1, 1⟩ j).rest.length : Nat) (dec (stn ⟨l, 1, 1⟩ j).rest).2 (stn ⟨l, 1, 1⟩ j).line (stn ⟨l, 1, 1⟩ j).col w
        rw [decide_eq_true (show (0 : Int) < ((dec (stn ⟨l, 1, 1⟩ j).rest).2 : Nat) by omega), Bool.true_and] at hD hL
        unfold runeV at hD hL hH
        have hd0 : (((dec (stn ⟨l, 1, 1⟩ j).rest).2 : Int) == 0) = false := by simp; omega
        have HLE := Lib.hid hL
        have HHE := Lib.hid hH
        clear hne hL hH
        go_wp2_with fail
        have BR := (Blk.new w2 52 #[.int .i64 (dec (stn ⟨l, 1, 1⟩ j).rest).1, .int .i64 (l.length - (stn ⟨l, 1, 1⟩ j).rest.length : Nat), .int .i64 (dec (stn ⟨l, 1, 1⟩ j).rest).2, .int .i64 (stn ⟨l, 1, 1⟩ j).line, .int .i64 (stn ⟨l, 1, 1⟩ j).col]).alloc (.cells #[.int .i64 0, .string ⟨#[]⟩, .int .u64 0, .int .i64 (stn ⟨l, 1, 1⟩ j).line, .int .i64 (stn ⟨l, 1, 1⟩ j).col] 44)
        have BT := Blk.newAt (sizeA w2 (.cells #[.int .i64 (dec (stn ⟨l, 1, 1⟩ j).rest).1, .int .i64 (l.length - (stn ⟨l, 1, 1⟩ j).rest.length : Nat), .int .i64 (dec (stn ⟨l, 1, 1⟩ j).rest).2, .int .i64 (stn ⟨l, 1, 1⟩ j).line, .int .i64 (stn ⟨l, 1, 1⟩ j).col] 52)) 44 #[.int .i64 0, .string ⟨#[]⟩, .int .u64 0, .int .i64 (stn ⟨l, 1, 1⟩ j).line, .int .i64 (stn ⟨l, 1, 1⟩ j).col]
        refine (hD _).mono ?_
        rintro e w4 ⟨rfl, h4⟩
        have BR4 := BR.below' h4
        have BT4 := BT.below' h4
        have hbw4 := Kit.Below.then (Kit.Below.al (Kit.Below.al hbw2 _) _) h4
        clear BR BT hD
        go_upto_if 44 with fail
        go_cut [6, 9, 10, 11, 12, 13] (fun s6 s9 s10 s11 s12 s13 wx => CutR l K j (w2.heap.size + 1) w4 s6 wx)
        case first =>
          have hFl := HF1.out.lt
          have hs0 := hbw2.size
          have hs4 := h4.size
          rw [sizeA, sizeA] at hs4
          cases hdg : digB (dec (stn ⟨l, 1, 1⟩ j).rest).1 with
          | true =>
            have HX := Lib.hid (rnumber_any l g cap K j w4 hlen HCR.out (by omega) (HR.out.below hbw4) hj hdg)
            have HTD := Lib.hid (tokenS_digit HNE.out hdg)
            clear c0 c1 c2 c3 c4
            go_wp2_with fail
            refine HX.out.mono ?_
            clear HX
            rintro e w5 ⟨h5, hcase⟩
            have hbw5 := hbw4.trans (h5.mono hbw4.size)
            have hs5 := hbw5.size
            have BF5 := HF1.out.below' hbw5
            rcases hcase with ⟨ln2, cl2, q, hnum, rfl⟩ | ⟨v, j', hnum, hjj, hjK', hv, rfl⟩
            · have hS2 : lexS l = .error (20, ln2, cl2) := by
                have h := HS.out
                rw [HW.out, lexLoop_bad (f := (ln2, cl2)) (by rw [← HBL.out, HTD.out, hnum])] at h
                exact h
              have HS2 := Lib.hid hS2
              have n0 := cellA1 (show w5.cell? ⟨w.heap.size, 0, none⟩ = some (.int .i64 0) from BF5.cell 0)
              have n1 := cellA1 (show w5.cell? ⟨w.heap.size, 1, none⟩ = some (.int .i64 0) from BF5.cell 1)
              have n2 := cellA1 (show w5.cell? ⟨w.heap.size, 2, none⟩ = some (.int .i64 0) from BF5.cell 2)
              have nz := fun o i => (BF5.alloc o).frozen i
              have qq := fun (i : Nat) => (Blk.new w5 38 #[.int .i64 20, .int .i64 ln2, .int .i64 cl2]).cell i
              have hbF := Kit.Below.al (Kit.Below.then Hbt.out hbw5) (.cells #[.int .i64 20, .int .i64 ln2, .int .i64 cl2] 38)
              clear hS2 hnum BF5
              go_wp2_with fail
              go_region_held3 (fun w' => w'.cell? ⟨w5.heap.size, 0, none⟩ = some (.int .i64 20) ∧ w'.cell? ⟨w5.heap.size, 1, none⟩ = some (.int .i64 ln2) ∧ w'.cell? ⟨w5.heap.size, 2, none⟩ = some (.int .i64 cl2)) (refine ⟨?_, ?_, ?_⟩ <;> (try with_reducible refine cellD ?_) <;> (repeat (with_reducible refine cellS ?_ (by omega))) <;> exact qq _) (fail)
              go_wp2_with fail
              refine bodyPost_ret (v := .tuple #[.slice none 0 0, .agg #[.int .i64 20, .int .i64 ln2, .int .i64 cl2]]) (by simp [results, Tryd.results13, go_sem, n0, n1, n2]) rfl ⟨?_, .inl ⟨20, ln2, cl2, HS2.out, rfl⟩⟩
              repeat (first | with_reducible exact hbF | with_reducible refine Kit.Below.setN ?_ (Nat.le_refl _) _ | with_reducible refine Kit.Below.d ?_)
            · have BT5 := BT4.below' h5
              have t0 := cellA1 (show w5.cell? ⟨w2.heap.size + 1, 0, none⟩ = some (.int .i64 0) from BT5.cell 0)
              have t2 := cellA1 (show w5.cell? ⟨w2.heap.size + 1, 2, none⟩ = some (.int .u64 0) from BT5.cell 2)
              have tz := fun o i => (BT5.alloc o).frozen i
              have HNU := Lib.hid hnum
              have HB5 := Lib.hid BT5
              clear hnum BF5 BT5
              go_wp2_with fail
              go_meet
              refine ⟨j', 2, v, rfl, hjj, hjK', by decide, ?_, ?_, ?_⟩
              · exact ((Kept.of_below _ (Kit.Below.al h5 _)).set 0 _).set 2 _
              · exact (((HB5.out.alloc _).set 0 _).set 2 _)
              · rw [HTD.out, HNU.out]
          | false =>
            cases hlt : letB (dec (stn ⟨l, 1, 1⟩ j).rest).1 with
            | true =>
              have r0 : w4.cell? ⟨w2.heap.size, 0, none⟩ = some (.int .i64 (dec (stn ⟨l, 1, 1⟩ j).rest).1) := BR4.cell 0
              have r1 : w4.cell? ⟨w2.heap.size, 1, none⟩ = some (.int .i64 (l.length - (stn ⟨l, 1, 1⟩ j).rest.length : Nat)) := BR4.cell 1
              have r2 : w4.cell? ⟨w2.heap.size, 2, none⟩ = some (.int .i64 (dec (stn ⟨l, 1, 1⟩ j).rest).2) := BR4.cell 2
              have r3 : w4.cell? ⟨w2.heap.size, 3, none⟩ = some (.int .i64 (stn ⟨l, 1, 1⟩ j).line) := BR4.cell 3
              have r4 : w4.cell? ⟨w2.heap.size, 4, none⟩ = some (.int .i64 (stn ⟨l, 1, 1⟩ j).col) := BR4.cell 4
              have hLE := HLE.out
              rw [hlt] at hLE
              have hgj : (stn ⟨l, 1, 1⟩ j).goes nameB = true := by
                rw [goes_name, hlt, decide_eq_true (show (0 : Int) < ((dec (stn ⟨l, 1, 1⟩ j).rest).2 : Nat) by omega)]
                rfl
              have HGJ := Lib.hid hgj
              have HTD := Lib.hid (tokenS_name HNE.out hdg hlt)
              clear c0 c1 c2 c3 c4 hgj
              go_wp2_with fail
              refine (hLE _).mono ?_
              rintro e w5 ⟨rfl, h5⟩
              have hbw5 := hbw4.trans (h5.mono hbw4.size)
              clear r0 r1 r2 r3 r4 hLE
              go_wp2_with fail
              go_loopg [6] (K - j) (fun m s6 wr2 => NmRel l K j w5 m s6 wr2)
              case atStart => exact ⟨j, rfl, Below.refl _ _, Nat.le_refl _, by omega, rfl, rfl⟩
              case round =>
                obtain ⟨i, rfl, h6, hji, hi, hmi, hwh⟩ := hrel
                have hbw6 := hbw5.trans (h6.mono hbw5.size)
                have hce := fun w' (hw' : Below w1.heap.size w1 w') => (HR.out.below hw').2 i (by omega)
                obtain ⟨c0, c1, c2, c3, c4⟩ := hce _ hbw6
                have hLi := fun w => rletter_any (dec (stn ⟨l, 1, 1⟩ i).rest).1 (l.length - (stn ⟨l, 1, 1⟩ i).rest.length : Nat) (dec (stn ⟨l, 1, 1⟩ i).rest).2 (stn ⟨l, 1, 1⟩ i).line (stn ⟨l, 1, 1⟩ i).col w
                have hDi := fun w => rdigit_any (dec (stn ⟨l, 1, 1⟩ i).rest).1 (l.length - (stn ⟨l, 1, 1⟩ i).rest.length : Nat) (dec (stn ⟨l, 1, 1⟩ i).rest).2 (stn ⟨l, 1, 1⟩ i).line (stn ⟨l, 1, 1⟩ i).col w
                unfold runeV at hLi hDi
                have hgo := goes_name (stn ⟨l, 1, 1⟩ i)
                have hend : (stn ⟨l, 1, 1⟩ i).goes nameB = true → i < K := by
                  intro h
                  rcases Nat.lt_or_ge i K with h1 | h1
                  · exact h1
                  · have : i = K := by omega
                    subst this
                    simp only [St.goes, Bool.and_eq_true, decide_eq_true_eq] at h
                    rw [HCR.out.2, dec_nil] at h
                    cases h.1
                have a3 : (0 : Int) ≤ (i : Int) := by omega
                have a4 : (i : Int) < (K : Int) + 1 := by omega
                have HCE := Lib.hid hce
                have HGO := Lib.hid hgo
                have HEND := Lib.hid hend
                have HWH := Lib.hid hwh
                have HMI := Lib.hid hmi
                clear hce hgo hend hwh hmi
                cases hl1 : decide ((0 : Int) < ((dec (stn ⟨l, 1, 1⟩ i).rest).2 : Nat)) && letB (dec (stn ⟨l, 1, 1⟩ i).rest).1 with
                | true =>
                  have hgy : (stn ⟨l, 1, 1⟩ i).goes nameB = true := by rw [HGO.out, hl1]; rfl
                  have hiK := HEND.out hgy
                  have HNX : Hid ((stn ⟨l, 1, 1⟩ (i + 1)).while nameB = (stn ⟨l, 1, 1⟩ j).while nameB) := by have h := HWH.out; rw [while_yes hgy] at h; exact h
                  rw [hl1] at hLi
                  clear hl1 hgy hDi
                  go_wp2_with fail
                  refine (hLi _).mono ?_
                  rintro e w7 ⟨rfl, h7⟩
                  have h67 := Kit.Below.then h6 h7
                  clear hLi c0 c1 c2 c3 c4
                  go_wp2_with fail
                  go_roundg (K - (i + 1))
                  case measure => have := HMI.out; omega
                  case rel => exact ⟨i + 1, rfl, h67, by omega, by omega, rfl, HNX.out⟩
                | false =>
                  cases hd1 : decide ((0 : Int) < ((dec (stn ⟨l, 1, 1⟩ i).rest).2 : Nat)) && digB (dec (stn ⟨l, 1, 1⟩ i).rest).1 with
                  | true =>
                    have hgy : (stn ⟨l, 1, 1⟩ i).goes nameB = true := by rw [HGO.out, hl1, hd1]; rfl
                    have hiK := HEND.out hgy
                    have HNX : Hid ((stn ⟨l, 1, 1⟩ (i + 1)).while nameB = (stn ⟨l, 1, 1⟩ j).while nameB) := by have h := HWH.out; rw [while_yes hgy] at h; exact h
                    rw [hl1] at hLi
                    rw [hd1] at hDi
                    clear hl1 hd1 hgy
                    go_wp2_with fail
                    refine (hLi _).mono ?_
                    rintro e w7 ⟨rfl, h7⟩
                    have h67 := Kit.Below.then h6 h7
                    clear hLi c0 c1 c2 c3 c4
                    obtain ⟨c0, c1, c2, c3, c4⟩ := HCE.out _ (hbw5.trans (h67.mono hbw5.size))
                    go_wp2_with fail
                    refine (hDi _).mono ?_
                    rintro e w8 ⟨rfl, h8⟩
                    have h68 := Kit.Below.then h67 h8
                    clear hDi c0 c1 c2 c3 c4
                    go_wp2_with fail
                    go_roundg (K - (i + 1))
                    case measure => have := HMI.out; omega
                    case rel => exact ⟨i + 1, rfl, h68, by omega, by omega, rfl, HNX.out⟩
                  | false =>
                    have hgn : (stn ⟨l, 1, 1⟩ i).goes nameB = false := by rw [HGO.out, hl1, hd1]; rfl
                    have hst : stn ⟨l, 1, 1⟩ i = (stn ⟨l, 1, 1⟩ j).while nameB := by rw [← HWH.out, while_no hgn]
                    have hij : j < i := by
                      rcases Nat.lt_or_ge j i with h | h
                      · exact h
                      · have : i = j := by omega
                        subst this
                        rw [HGJ.out] at hgn
                        cases hgn
                    have htk := HTD.out
                    rw [← hst] at htk
                    have HTK := Lib.hid htk
                    have hlen2 := while_less HGJ.out
                    rw [← hst] at hlen2
                    rw [hl1] at hLi
                    rw [hd1] at hDi
                    clear hl1 hd1 hgn hst htk HWH HNE
                    go_wp2_with fail
                    refine (hLi _).mono ?_
                    rintro e w7 ⟨rfl, h7⟩
                    have h67 := Kit.Below.then h6 h7
                    clear hLi c0 c1 c2 c3 c4
                    obtain ⟨c0, c1, c2, c3, c4⟩ := HCE.out _ (hbw5.trans (h67.mono hbw5.size))
                    go_wp2_with fail
                    refine (hDi _).mono ?_
                    rintro e w8 ⟨rfl, h8⟩
                    have h48 := Kit.Below.then h5 (Kit.Below.then h67 h8)
                    have BT8 := BT4.below' h48
                    have BR8 := BR4.below' h48
                    have t0 : w8.cell? ⟨w2.heap.size + 1, 0, none⟩ = some (.int .i64 0) := BT8.cell 0
                    have tz := fun i => BT8.frozen i
                    clear hDi c0 c1 c2 c3 c4
                    go_wp2_with fail
                    have BT9 := BT8.set 0 (.int .i64 1)
                    have BR9 := BR8.farN (b := w2.heap.size + 1) (o := 0) (by omega) (.int .i64 1)
                    have hK9 := (Kept.of_below (w2.heap.size + 1) h48).set 0 (.int .i64 1)
                    clear BT8 BR8 t0 tz
                    generalize w8.setCell ⟨w2.heap.size + 1, 0, none⟩ (.int .i64 1) = w9 at *
                    have hbw9 := hbw4.trans (hK9.below hbw4.size (by omega))
                    have hll1 := stn_len l 1 1 j
                    have hll2 := stn_len l 1 1 i
                    obtain ⟨ad, rfl, _⟩ := HL1.out.2 0 (by omega)
                    have htx : (l.drop (l.length - (stn ⟨l, 1, 1⟩ j).rest.length)).take ((l.length - (stn ⟨l, 1, 1⟩ i).rest.length) - (l.length - (stn ⟨l, 1, 1⟩ j).rest.length)) = upTo (stn ⟨l, 1, 1⟩ j) (stn ⟨l, 1, 1⟩ i) := by
                      rw [stn_drop]
                      unfold upTo
                      congr 1
                      omega
                    have hcv : ∀ p : Cls (Below w9.heap.size w9), (convert 32 9 (.slice (some (ad.add (l.length - (stn ⟨l, 1, 1⟩ j).rest.length))) ((l.length - (stn ⟨l, 1, 1⟩ i).rest.length) - (l.length - (stn ⟨l, 1, 1⟩ j).rest.length)) (c - (l.length - (stn ⟨l, 1, 1⟩ j).rest.length)))).run Tryd.prog p.w = .ok (.string ⟨(upTo (stn ⟨l, 1, 1⟩ j) (stn ⟨l, 1, 1⟩ i)).toArray⟩) p.w := by
                      intro p
                      have h := (((HL1.out.below hbw9).below p.h).sub (l.length - (stn ⟨l, 1, 1⟩ j).rest.length) (l.length - (stn ⟨l, 1, 1⟩ i).rest.length) (by omega) (by omega)).conv (c - (l.length - (stn ⟨l, 1, 1⟩ j).rest.length))
                      rwa [htx] at h
                    have r1 : ∀ p : Cls (Below w9.heap.size w9), p.w.cell? ⟨w2.heap.size, 1, none⟩ = some (.int .i64 (l.length - (stn ⟨l, 1, 1⟩ j).rest.length : Nat)) := fun p => BR9.cls 1 p
                    have r2 : ∀ p : Cls (Below w9.heap.size w9), p.w.cell? ⟨g, i * 5 + 1, none⟩ = some (.int .i64 (l.length - (stn ⟨l, 1, 1⟩ i).rest.length : Nat)) := fun p => (((HR.out.below hbw9).below p.h).2 i (by omega)).2.1
                    have CI : ∀ p : Cls (Below w9.heap.size w9), Hid (Calls Tryd.prog 28 #[.string ⟨(upTo (stn ⟨l, 1, 1⟩ j) (stn ⟨l, 1, 1⟩ i)).toArray⟩] p.w fun e w' => e = .returned (.bool (wordsW.contains (upTo (stn ⟨l, 1, 1⟩ j) (stn ⟨l, 1, 1⟩ i)))) ∧ ∃ q : Cls (Below w9.heap.size w9), w' = q.w) :=
                      fun p => Calls.cls ((IsWord_any ⟨(upTo (stn ⟨l, 1, 1⟩ j) (stn ⟨l, 1, 1⟩ i)).toArray⟩ p.w).mono fun e w' ⟨h1, h2⟩ => ⟨h1, Kit.Below.then p.h h2⟩)
                    have hlh : l.length - (stn ⟨l, 1, 1⟩ j).rest.length < l.length - (stn ⟨l, 1, 1⟩ i).rest.length := by omega
                    have hhl : l.length - (stn ⟨l, 1, 1⟩ i).rest.length ≤ c := by omega
                    clear htx hll1 hll2 hlen2 HCE
                    generalize htxt : upTo (stn ⟨l, 1, 1⟩ j) (stn ⟨l, 1, 1⟩ i) = txt at *
                    have HTX := Lib.hid htxt
                    clear htxt
                    generalize l.length - (stn ⟨l, 1, 1⟩ j).rest.length = lo at *
                    generalize l.length - (stn ⟨l, 1, 1⟩ i).rest.length = hi2 at *
                    have b3 : (0 : Int) ≤ (lo : Int) := by omega
                    have b4 : (lo : Int) ≤ (hi2 : Int) := by omega
                    have b5 : (hi2 : Int) ≤ (c : Int) := by omega
                    have b6 : ¬ (c = lo) := by omega
                    generalize hwb : wordsW.contains txt = wb at *
                    have HWB := Lib.hid hwb
                    clear hwb
                    refine wp_region_cls (Below w9.heap.size w9) (Below_drewN _ 1) (by kernel_rfl) (by kernel_rfl) ?_
                    intro hne
                    repeat (go_big_quiet_step ((go_at_call 28; exact (CI _).out)))
                    refine wpQuiet_nil ?_
                    intro w10 h10
                    clear hne
                    have BT10 := BT9.below' h10
                    have hK10 := hK9.trans (Kept.of_below (w2.heap.size + 1) h10)
                    clear CI r1 r2 hcv BT9 BR9
                    cases wb with
                    | true =>
                      have t0 : w10.cell? ⟨w2.heap.size + 1, 0, none⟩ = some (.int .i64 1) := BT10.cell 0
                      have tz := fun i => BT10.frozen i
                      go_wp2_with fail
                      go_meet
                      refine ⟨i, 3, 0, rfl, hij, by omega, by decide, hK10.set 0 _, BT10.set 0 _, ?_⟩
                      rw [HTX.out, HTK.out]
                      simp
                    | false =>
                      go_wp2_with fail
                      go_meet
                      refine ⟨i, 1, 0, rfl, hij, by omega, by decide, hK10, BT10, ?_⟩
                      rw [HTX.out, HTK.out]
                      simp
            | false =>
              have r0 : w4.cell? ⟨w2.heap.size, 0, none⟩ = some (.int .i64 (dec (stn ⟨l, 1, 1⟩ j).rest).1) := BR4.cell 0
              have r1 : w4.cell? ⟨w2.heap.size, 1, none⟩ = some (.int .i64 (l.length - (stn ⟨l, 1, 1⟩ j).rest.length : Nat)) := BR4.cell 1
              have r2 : w4.cell? ⟨w2.heap.size, 2, none⟩ = some (.int .i64 (dec (stn ⟨l, 1, 1⟩ j).rest).2) := BR4.cell 2
              have r3 : w4.cell? ⟨w2.heap.size, 3, none⟩ = some (.int .i64 (stn ⟨l, 1, 1⟩ j).line) := BR4.cell 3
              have r4 : w4.cell? ⟨w2.heap.size, 4, none⟩ = some (.int .i64 (stn ⟨l, 1, 1⟩ j).col) := BR4.cell 4
              have hLE := HLE.out
              rw [hlt] at hLE
              have HTD := Lib.hid (tokenS_sign HNE.out hdg hlt)
              clear c0 c1 c2 c3 c4
              go_wp2_with fail
              refine (hLE _).mono ?_
              rintro e w5 ⟨rfl, h5⟩
              clear r0 r1 r2 r3 r4 hLE
              go_wp2_with fail
              refine (signs_any _).mono ?_
              rintro e w6 ⟨rfl, rfl⟩
              have hs5 := h5.size
              have h46 := Kit.Below.al h5 (.cells (rowS signsW) 9)
              have SB := Blk.new w5 9 (rowS signsW)
              have BT6 := BT4.below' h46
              have BR6 := BR4.below' h46
              generalize w5.alloc (.cells (rowS signsW) 9) = w6 at *
              go_wp2_with fail
              go_loopg [6, 13] 25 (fun m s6 s13 wq => SgRel l j (w2.heap.size + 1) w6 m s6 s13 wq)
              case atStart => exact ⟨0, rfl, by omega, rfl, Kept.refl _ _, .inl ⟨rfl, BT6, rfl⟩⟩
              case round =>
                obtain ⟨i, rfl, hi, hmi, hKr, hcase⟩ := hrel
                have hbr : Below w1.heap.size w1 wr := (hbw4.trans (h46.mono hbw4.size)).trans (hKr.below (by have := h46.size; omega) (by omega))
                have hbt6 := Kit.Below.then Hbt.out hbr
                have BRr := BR6.kept hKr (by omega)
                have SBr := SB.kept hKr (by omega)
                have BFr := HF1.out.below' hbr
                have a3 : (0 : Int) ≤ (i : Int) := by omega
                have HMI := Lib.hid hmi
                clear hmi
                rcases hcase with ⟨rfl, hBT, hnone⟩ | ⟨t, hsg, rfl, hBT⟩
                · by_cases hi25 : i < 25
                  · have hi' : i < signsW.length := hi25
                    have b1 : (i : Int) < 25 := by omega
                    have t0 : wr.cell? ⟨w2.heap.size + 1, 0, none⟩ = some (.int .i64 0) := hBT.cell 0
                    have HBT := Lib.hid hBT
                    have HNO := Lib.hid hnone
                    clear hBT hnone
                    go_wp2_with fail
                    have q1 : ∀ p : Cls (Below wr.heap.size wr), p.w.cell? ⟨w2.heap.size, 1, none⟩ = some (.int .i64 (l.length - (stn ⟨l, 1, 1⟩ j).rest.length : Nat)) := fun p => BRr.cls 1 p
                    have q2 : ∀ p : Cls (Below wr.heap.size wr), p.w.cell? ⟨w5.heap.size, i, none⟩ = some (.string ⟨(signsW[i]).toArray⟩) := fun p => by
                      rw [SBr.cls i p]
                      simp [rowS, hi']
                    have hlow := signs_low signsW[i] (List.getElem_mem hi')
                    have hsz : (⟨(signsW[i]).toArray⟩ : ByteArray).size = (signsW[i]).length := by simp [ByteArray.size]
                    have hll1 := stn_len l 1 1 j
                    have CI : ∀ p : Cls (Below wr.heap.size wr), Hid (Calls Tryd.prog 30 #[.slice A n c, .int .i64 (l.length - (stn ⟨l, 1, 1⟩ j).rest.length : Nat), .string ⟨(signsW[i]).toArray⟩] p.w fun e w' => e = .returned (.bool ((signsW[i]).isPrefixOf (stn ⟨l, 1, 1⟩ j).rest)) ∧ ∃ q : Cls (Below wr.heap.size wr), w' = q.w) := by
                      intro p
                      have h := begins_any A n c l (l.length - (stn ⟨l, 1, 1⟩ j).rest.length) ⟨(signsW[i]).toArray⟩ p.w ((HL1.out.below hbr).below p.h) (by omega) hlen (by rw [hsz]; omega)
                      rw [stn_drop] at h
                      exact Calls.cls (h.mono fun e w' ⟨h1, h2⟩ => ⟨h1, Kit.Below.then p.h h2⟩)
                    have hsz2 : (((⟨(signsW[i]).toArray⟩ : ByteArray).size : Nat) : Int) = ((signsW[i]).length : Int) := by rw [hsz]
                    clear t0 hll1
                    refine wp_region_cls (Below wr.heap.size wr) (Below_drewN _ 1) (by kernel_rfl) (by kernel_rfl) ?_
                    intro hne
                    repeat (go_big_quiet_step ((go_at_call 30; exact (CI _).out)))
                    refine wpQuiet_nil ?_
                    intro w7 h7
                    clear hne
                    have hK7 := hKr.trans (Kept.of_below (w2.heap.size + 1) h7)
                    have BT7 := HBT.out.below' h7
                    have hcs : w7.cell? ⟨w5.heap.size, i, none⟩ = some (.string ⟨(signsW[i]).toArray⟩) := q2 ⟨w7, h7⟩
                    clear CI q1 q2
                    cases hp : (signsW[i]).isPrefixOf (stn ⟨l, 1, 1⟩ j).rest with
                    | true =>
                      have hf := find_take (p := fun t => t.isPrefixOf (stn ⟨l, 1, 1⟩ j).rest) hi' HNO.out hp
                      have HSG : Hid (sgnF (stn ⟨l, 1, 1⟩ j).rest = some signsW[i]) := hf
                      have hBT8 := BT7.set 0 (.int .i64 4)
                      have hK8 := hK7.set 0 (.int .i64 4)
                      have t0 : w7.cell? ⟨w2.heap.size + 1, 0, none⟩ = some (.int .i64 0) := BT7.cell 0
                      have tz := fun i => BT7.frozen i
                      have a5 : ¬ w5.heap.size = w2.heap.size + 1 := by omega
                      have hlt2 : (signsW[i]).length ≤ 2 := by omega
                      clear hf hp
                      generalize signsW[i] = t at *
                      have hsz3 : (⟨t.toArray⟩ : ByteArray).size = t.length := hsz
                      go_wp2_with fail
                      go_roundg (25 - (i + 1))
                      case measure => have := HMI.out; omega
                      case rel => exact ⟨i + 1, rfl, by omega, rfl, hK8, .inr ⟨t, HSG.out, congrArg (Value.int .i64) (by push_cast; rfl), hBT8⟩⟩
                    | false =>
                      have hf := find_take1 (p := fun t => t.isPrefixOf (stn ⟨l, 1, 1⟩ j).rest) hi' HNO.out hp
                      have HF := Lib.hid hf
                      clear hf hp
                      go_wp2_with fail
                      go_roundg (25 - (i + 1))
                      case measure => have := HMI.out; omega
                      case rel => exact ⟨i + 1, rfl, by omega, rfl, hK7, .inl ⟨rfl, BT7, HF.out⟩⟩
                  · obtain rfl : i = 25 := by omega
                    have b1 : ¬ ((25 : Int) < 25) := by omega
                    have hsn : sgnF (stn ⟨l, 1, 1⟩ j).rest = none := hnone
                    have hS2 : lexS l = .error (20, (stn ⟨l, 1, 1⟩ j).line, (stn ⟨l, 1, 1⟩ j).col) := by
                      have h := HS.out
                      rw [HW.out, lexLoop_bad (f := ((stn ⟨l, 1, 1⟩ j).line, (stn ⟨l, 1, 1⟩ j).col)) (by rw [← HBL.out, HTD.out, hsn])] at h
                      exact h
                    have HS2 := Lib.hid hS2
                    have t0 : wr.cell? ⟨w2.heap.size + 1, 0, none⟩ = some (.int .i64 0) := hBT.cell 0
                    have r0 : wr.cell? ⟨w2.heap.size, 0, none⟩ = some (.int .i64 (dec (stn ⟨l, 1, 1⟩ j).rest).1) := BRr.cell 0
                    have r1 : wr.cell? ⟨w2.heap.size, 1, none⟩ = some (.int .i64 (l.length - (stn ⟨l, 1, 1⟩ j).rest.length : Nat)) := BRr.cell 1
                    have r2 : wr.cell? ⟨w2.heap.size, 2, none⟩ = some (.int .i64 (dec (stn ⟨l, 1, 1⟩ j).rest).2) := BRr.cell 2
                    have r3 : wr.cell? ⟨w2.heap.size, 3, none⟩ = some (.int .i64 (stn ⟨l, 1, 1⟩ j).line) := BRr.cell 3
                    have r4 : wr.cell? ⟨w2.heap.size, 4, none⟩ = some (.int .i64 (stn ⟨l, 1, 1⟩ j).col) := BRr.cell 4
                    clear hnone hsn hS2 hBT
                    go_wp2_with fail
                    refine (HHE.out _).mono ?_
                    rintro e w8 ⟨rfl, h8⟩
                    have BF8 := BFr.below' h8
                    have hbF := Kit.Below.then hbt6 h8
                    have n0 : w8.cell? ⟨w.heap.size, 0, none⟩ = some (.int .i64 0) := BF8.cell 0
                    have n1 : w8.cell? ⟨w.heap.size, 1, none⟩ = some (.int .i64 0) := BF8.cell 1
                    have n2 : w8.cell? ⟨w.heap.size, 2, none⟩ = some (.int .i64 0) := BF8.cell 2
                    have nz := fun i => BF8.frozen i
                    clear r0 r1 r2 r3 r4 t0 BF8
                    go_wp2_with fail
                    refine bodyPost_ret (v := .tuple #[.slice none 0 0, .agg #[.int .i64 20, .int .i64 (stn ⟨l, 1, 1⟩ j).line, .int .i64 (stn ⟨l, 1, 1⟩ j).col]]) (by simp [results, Tryd.results13, go_sem, n0, n1, n2]) rfl ⟨?_, .inl ⟨20, _, _, HS2.out, rfl⟩⟩
                    repeat (first | with_reducible exact hbF | with_reducible refine Kit.Below.setN ?_ (Nat.le_refl _) _ | with_reducible refine Kit.Below.d ?_)
                · have t0 : wr.cell? ⟨w2.heap.size + 1, 0, none⟩ = some (.int .i64 4) := hBT.cell 0
                  have hin := sgn_in HCR.out hj hsg
                  have hup := sgn_upTo hsg
                  have htk : tokenS (stn ⟨l, 1, 1⟩ j) = .ok (⟨4, upTo (stn ⟨l, 1, 1⟩ j) (stn ⟨l, 1, 1⟩ (j + t.length)), 0, (stn ⟨l, 1, 1⟩ j).line, (stn ⟨l, 1, 1⟩ j).col⟩, stn ⟨l, 1, 1⟩ (j + t.length)) := by
                    have e : stn (stn ⟨l, 1, 1⟩ j) t.length = stn ⟨l, 1, 1⟩ (j + t.length) := stn_add _ _ _
                    rw [HTD.out, hsg, ← e, hup.1]
                  have HTK := Lib.hid htk
                  have hKT := (Kept.of_below (w2.heap.size + 1) h46).trans hKr
                  have HBT := Lib.hid hBT
                  clear hup htk hsg hBT
                  by_cases hi25 : i < 25
                  · have b1 : (i : Int) < 25 := by omega
                    go_wp2_with fail
                    go_meet
                    exact ⟨_, 4, 0, rfl, hin.1, hin.2, by decide, hKT, HBT.out, HTK.out⟩
                  · obtain rfl : i = 25 := by omega
                    have b1 : ¬ ((25 : Int) < 25) := by omega
                    go_wp2_with fail
                    go_meet
                    exact ⟨_, 4, 0, rfl, hin.1, hin.2, by decide, hKT, HBT.out, HTK.out⟩
        case rest =>
          obtain ⟨j', kind, val, rfl, hjj, hjK', hk5, hKp, hBT, htok⟩ := hcut
          have hs0 := hbw2.size
          have hs4 := h4.size
          rw [sizeA, sizeA] at hs4
          have h24 := Kit.Below.then (Kit.Below.al (Kit.Below.al (Below.refl w2.heap.size w2) _) _) h4
          have hbwc := hbw4.trans (hKp.below hbw4.size (Nat.le_succ_of_le hs0))
          have BRc := BR4.kept hKp (by omega)
          have hsc := hKp.size
          have hKw : Kept (w2.heap.size + 1) w2 wc := (Kept.of_below _ h24).trans hKp
          have ag := ownsRow_new HO2.out 1
          have HOc := Lib.hid (ownsRow_kept HO2.out hKw ag)
          have hll := tokenS_less htok hk5
          have hl1 := stn_len l 1 1 j
          have hl2 := stn_len l 1 1 j'
          obtain ⟨ad, rfl, _⟩ := HL1.out.2 0 (by omega)
          have htx : (l.drop (l.length - (stn ⟨l, 1, 1⟩ j).rest.length)).take ((l.length - (stn ⟨l, 1, 1⟩ j').rest.length) - (l.length - (stn ⟨l, 1, 1⟩ j).rest.length)) = upTo (stn ⟨l, 1, 1⟩ j) (stn ⟨l, 1, 1⟩ j') := by
            rw [stn_drop]
            unfold upTo
            congr 1
            omega
          have hcv : ∀ p : Cls (Below wc.heap.size wc), (convert 32 9 (.slice (some (ad.add (l.length - (stn ⟨l, 1, 1⟩ j).rest.length))) ((l.length - (stn ⟨l, 1, 1⟩ j').rest.length) - (l.length - (stn ⟨l, 1, 1⟩ j).rest.length)) (c - (l.length - (stn ⟨l, 1, 1⟩ j).rest.length)))).run Tryd.prog p.w = .ok (.string ⟨(upTo (stn ⟨l, 1, 1⟩ j) (stn ⟨l, 1, 1⟩ j')).toArray⟩) p.w := by
            intro p
            have h := (((HL1.out.below hbwc).below p.h).sub (l.length - (stn ⟨l, 1, 1⟩ j).rest.length) (l.length - (stn ⟨l, 1, 1⟩ j').rest.length) (by omega) (by omega)).conv (c - (l.length - (stn ⟨l, 1, 1⟩ j).rest.length))
            rwa [htx] at h
          have r1 : ∀ p : Cls (Below wc.heap.size wc), p.w.cell? ⟨w2.heap.size, 1, none⟩ = some (.int .i64 (l.length - (stn ⟨l, 1, 1⟩ j).rest.length : Nat)) := fun p => BRc.cls 1 p
          have r2 : ∀ p : Cls (Below wc.heap.size wc), p.w.cell? ⟨g, j' * 5 + 1, none⟩ = some (.int .i64 (l.length - (stn ⟨l, 1, 1⟩ j').rest.length : Nat)) := fun p => (((HR.out.below hbwc).below p.h).2 j' (by omega)).2.1
          have HTK := Lib.hid htok
          have hlh : l.length - (stn ⟨l, 1, 1⟩ j).rest.length < l.length - (stn ⟨l, 1, 1⟩ j').rest.length := by omega
          have hhl : l.length - (stn ⟨l, 1, 1⟩ j').rest.length ≤ c := by omega
          clear htok htx hll hl1 hl2 c0 c1 c2 c3 c4
          generalize upTo (stn ⟨l, 1, 1⟩ j) (stn ⟨l, 1, 1⟩ j') = txt at *
          generalize l.length - (stn ⟨l, 1, 1⟩ j).rest.length = lo at *
          generalize l.length - (stn ⟨l, 1, 1⟩ j').rest.length = hi at *
          generalize (stn ⟨l, 1, 1⟩ j).line = ln at *
          generalize (stn ⟨l, 1, 1⟩ j).col = cl at *
          have b1 : (0 : Int) ≤ (j' : Int) := by omega
          have b2 : (j' : Int) < (K : Int) + 1 := by omega
          have b3 : (0 : Int) ≤ (lo : Int) := by omega
          have b4 : (lo : Int) ≤ (hi : Int) := by omega
          have b5 : (hi : Int) ≤ (c : Int) := by omega
          have b6 : ¬ (c = lo) := by omega
          go_wp2_with fail
          refine wp_region_cls_tail (Below wc.heap.size wc) 11 (Below_drewN _ 1) (by kernel_rfl) (by kernel_rfl) ?_
          intro hne
          simp only [List.take_succ_cons, List.take_zero, List.drop_succ_cons, List.drop_zero]
          repeat (go_big_quiet_step ((fail)))
          refine wpQuiet_nil ?_
          intro w8 h8
          clear hne
          have hs8 := h8.size
          have hbw8 := hbwc.trans (h8.mono hbwc.size)
          have BT8 := hBT.below' h8
          have t0 : w8.cell? ⟨w2.heap.size + 1, 0, none⟩ = some (.int .i64 kind) := BT8.cell 0
          have t1 : w8.cell? ⟨w2.heap.size + 1, 1, none⟩ = some (.string ⟨#[]⟩) := BT8.cell 1
          have t2 : w8.cell? ⟨w2.heap.size + 1, 2, none⟩ = some (.int .u64 val) := BT8.cell 2
          have t3 : w8.cell? ⟨w2.heap.size + 1, 3, none⟩ = some (.int .i64 ln) := BT8.cell 3
          have t4 : w8.cell? ⟨w2.heap.size + 1, 4, none⟩ = some (.int .i64 cl) := BT8.cell 4
          have tz := fun i => BT8.frozen i
          have hown9 := ownsRow_far (b := w2.heap.size + 1) (o := 1) (ownsRow_kept HOc.out (Kept.of_below (w2.heap.size + 1) h8) ag) ag (.string ⟨txt.toArray⟩)
          have HO9 := Lib.hid hown9
          have htk1 : toks.length + 1 ≤ maxLen := by unfold maxLen; omega
          have htk2 : (toks.length + 1) * 48 ≤ 140737488355328 := by omega
          have hbase : ∀ j, (Value.slice oa on oc).ownBlock = some j → w1.heap.size ≤ j := fun j hj => ownsRow_base HO2.out hj
          have hx : toksC toks ++ [.int .i64 kind, .string ⟨txt.toArray⟩, .int .u64 val, .int .i64 ln, .int .i64 cl] = toksC (toks ++ [⟨kind, txt, val, ln, cl⟩]) := by simp [toksC, tokC]
          have HX := Lib.hid hx
          clear hown9 BT8 r1 r2 hcv hBT BR4 BT4 BRc hKp hKw h24 hx
          go_wp2_with (first
            | (at_builtin; refine wpList_append_lies _ (by rfl) _ _ _ (by rfl) w1.heap.size 44 i0 _ 5 48 Tryd.underlying36 hi0 hz0 hz1 hz2 rfl (by omega) (.slice oa on oc) toks.length (toksC toks) (by rfl) (HO9.out.alloc _) ⟨w8.heap.size, 0, none⟩ 1 1 [.int .i64 kind, .string ⟨txt.toArray⟩, .int .u64 val, .int .i64 ln, .int .i64 cl] (by rfl) (by rfl) (World.news_of_block (cs := #[.int .i64 kind, .string ⟨txt.toArray⟩, .int .u64 val, .int .i64 ln, .int .i64 cl]) (t := 44) (fr := (0, 0)) (Blk.newAt (by simp) _ _)) (by simp [Value.oneCell']) (by omega) htk1 htk2 (by simp; omega) _ rfl ?_; intro g' cap' w6 hown6 hgrow hat hlt6; have hb6 : Below w1.heap.size w1 w6 := (((hbw8.setCell (by simp; omega) _).alloc (by simp; omega) _)).grown hgrow (by simp; omega) hbase))
          go_roundg (K - j')
          case measure => have := HM.out; omega
          case rel =>
            refine ⟨j', toks ++ [⟨kind, txt, val, ln, cl⟩], rfl, hjK', hb6, ?_, by rw [List.length_append]; simp; omega, rfl, ?_⟩
            · rw [List.length_append, ← HX.out]
              exact hown6
            · rw [HW.out, lexLoop_more (by rw [← HBL.out]; exact HTK.out) hk5]
              cases lexLoop (stn ⟨l, 1, 1⟩ j') with
              | error f => rfl
              | ok l => simp
      · obtain rfl : j = K := by omega
        have hre := HCR.out.2
        have htok := tokenS_end hre
        rw [hre] at c0 c1 c2
        rw [dec_nil] at c0 c2
        have HT := Lib.hid htok
        have hS2 : lexS l = .ok (toks ++ [⟨5, [], 0, (stn ⟨l, 1, 1⟩ j).line, (stn ⟨l, 1, 1⟩ j).col⟩]) := by
          have h := HS.out
          rw [HW.out, lexLoop_end (by rw [← HBL.out]; exact htok) rfl] at h
          exact h
        have HS2 := Lib.hid hS2
        have hs0 := hbw2.size
        have htk1 : toks.length + 1 ≤ maxLen := by unfold maxLen; omega
        have htk2 : (toks.length + 1) * 48 ≤ 140737488355328 := by omega
        have hbase : ∀ j, (Value.slice oa on oc).ownBlock = some j → w1.heap.size ≤ j := fun j hj => ownsRow_base HO2.out hj
        clear hre htok hS2 HT
        generalize (stn ⟨l, 1, 1⟩ j).line = ln at *
        generalize (stn ⟨l, 1, 1⟩ j).col = cl at *
        have HC := Lib.hid c0
        clear HC
        go_wp2_with (first
          | (at_builtin; refine wpList_append_lies _ (by rfl) _ _ _ (by rfl) w1.heap.size 44 i0 _ 5 48 Tryd.underlying36 hi0 hz0 hz1 hz2 rfl (by omega) (.slice oa on oc) toks.length (toksC toks) (by rfl) (((HO2.out.alloc _).alloc _).alloc _) ⟨w2.heap.size + 1 + 1, 0, none⟩ 1 1 [.int .i64 5, .string ⟨#[]⟩, .int .u64 0, .int .i64 ln, .int .i64 cl] (by rfl) (by rfl) (World.news_of_block (cs := #[.int .i64 5, .string ⟨#[]⟩, .int .u64 0, .int .i64 ln, .int .i64 cl]) (t := 44) (fr := (0, 0)) (Blk.newAt (by rw [sizeA, sizeA]) _ _)) (by simp [Value.oneCell']) (by omega) htk1 htk2 (by simp; omega) _ rfl ?_; intro g' cap' w6 hown6 hgrow hat hlt6; have hb6 : Below w1.heap.size w1 w6 := ((Kit.Below.al (Kit.Below.al (Kit.Below.al hbw2 _) _) _)).grown hgrow (by simp; omega) hbase; have B6 := HF1.out.below' hb6; have n0 : w6.cell? ⟨w.heap.size, 0, none⟩ = some (.int .i64 0) := B6.cell 0; have n1 : w6.cell? ⟨w.heap.size, 1, none⟩ = some (.int .i64 0) := B6.cell 1; have n2 : w6.cell? ⟨w.heap.size, 2, none⟩ = some (.int .i64 0) := B6.cell 2; have nz := fun i => B6.frozen i; clear c0 c1 c2 c3 c4))
        have hFl := HF1.out.lt
        have hg1 : g' ≠ w.heap.size := by
          rcases hat with h | h
          · have := hbase _ h; omega
          · simp at h; omega
        have hbF := Kit.Below.then Hbt.out hb6
        refine bodyPost_ret (v := .tuple #[.slice (some ⟨g', 0, none⟩) (toks.length + 1) cap', .agg #[.int .i64 0, .int .i64 0, .int .i64 0]]) (by simp [results, Tryd.results13, go_sem, n0, n1, n2]) rfl ⟨?_, .inr ⟨_, .slice (some ⟨g', 0, none⟩) (toks.length + 1) cap', HS2.out, rfl, ?_⟩⟩
        · repeat (first | with_reducible exact hbF | with_reducible refine Kit.Below.setN ?_ (Nat.le_refl _) _)
        · rw [List.length_append]
          have hx : toksC toks ++ [.int .i64 5, .string ⟨#[]⟩, .int .u64 0, .int .i64 ln, .int .i64 cl] = toksC (toks ++ [⟨5, [], 0, ln, cl⟩]) := by simp [toksC, tokC]
          rw [hx] at hown6
          have hm := ownsRow_mono hown6 (show w.heap.size ≤ w1.heap.size by omega)
          exact ownsRow_far (ownsRow_far (ownsRow_far hm (by simp [Value.ownBlock]; exact hg1) _) (by simp [Value.ownBlock]; exact hg1) _) (by simp [Value.ownBlock]; exact hg1) _
end Go.Proofs.YtpamnnllijkpfaaDoor.LexW
