/- WALKS: the reference's number. -/
import Derived.Test.YtpamnnllijkpfaaDoorRefJ
namespace Go.Proofs.YtpamnnllijkpfaaDoor.LexW
open Go Go.RowKit Go.Proofs.YtpamnnllijkpfaaDoor.Kit Go.Proofs.YtpamnnllijkpfaaDoor.LexP

/-- What the reference's number leaves. -/
def RNumDone (l : List UInt8) (K k : Nat) (w : World) (e : Ending) (w' : World) : Prop :=
  Below w.heap.size w w' ∧ ((∃ ln cl q : Nat, numS (stn ⟨l, 1, 1⟩ k) = .error (ln, cl) ∧ e = .returned (.tuple #[.int .u64 0, .int .i64 q, .agg #[.int .i64 20, .int .i64 ln, .int .i64 cl]])) ∨
    ∃ v j : Nat, numS (stn ⟨l, 1, 1⟩ k) = .ok (v, stn ⟨l, 1, 1⟩ j) ∧ k < j ∧ j ≤ K ∧ v < 18446744073709551616 ∧ e = .returned (.tuple #[.int .u64 v, .int .i64 j, .agg #[.int .i64 0, .int .i64 0, .int .i64 0]]))

def RNumRel (l : List UInt8) (K k0 base : Nat) (is : Int → Bool) (s1 : St) (want : Option Nat) (w : World) (m : Nat) (sk sv sg : Value) (wr : World) : Prop :=
  ∃ j v : Nat, ∃ gb : Bool, sk = .int .i64 j ∧ sv = .int .u64 v ∧ sg = .bool gb ∧ Below w.heap.size w wr ∧ k0 ≤ j ∧ j ≤ K ∧ v < 18446744073709551616 ∧ m = K - j ∧
    (stn ⟨l, 1, 1⟩ j).while is = s1 ∧ (gb = true → want = none) ∧ (gb = false → want = valS base v (upTo (stn ⟨l, 1, 1⟩ j) s1))

theorem rsix_any (s : St) (at0 : Nat) (w : World) :
    Calls Tryd.prog 47 #[.agg #[.int .i64 (dec s.rest).1, .int .i64 at0, .int .i64 (dec s.rest).2, .int .i64 s.line, .int .i64 s.col]] w fun e w' => e = .returned (.int .i64 (sixN s : Nat)) ∧ Below w.heap.size w w' := by
  have h1 := dec_lo s.rest
  have h2 := dec_hi s.rest
  exact rsixteen_any (dec s.rest).1 at0 (dec s.rest).2 s.line s.col w (by omega) (by omega)

theorem wrap_nat (y : Int) : ∃ v : Nat, IntKind.u64.wrap y = (v : Int) ∧ v < 18446744073709551616 := by
  refine ⟨(IntKind.u64.wrap y).toNat, ?_, ?_⟩
  · rw [Int.toNat_of_nonneg (wrap_u64_nonneg y)]
  · rw [IntKind.wrap_u64]
    omega
theorem wrap_fits (v b x : Nat) (h : v * b + x < 18446744073709551616) : IntKind.u64.wrap (IntKind.u64.wrap ((v : Int) * (b : Int)) + (x : Int)) = ((v * b + x : Nat) : Int) := by
  have e1 : (v : Int) * (b : Int) = ((v * b : Nat) : Int) := by push_cast; rfl
  rw [e1]
  generalize v * b = y at *
  rw [IntKind.wrap_u64, IntKind.wrap_u64]
  omega
theorem great_int (v d b : Nat) (hb : 0 < b) (hd : d < 16) : ((18446744073709551615 - (d : Int)) / (b : Int) < (v : Int)) ↔ ¬ (v * b + d < 18446744073709551616) := by
  rw [← great_iff v d b hb hd]
  have e : (18446744073709551615 - (d : Int)) / (b : Int) = (((18446744073709551615 - d) / b : Nat) : Int) := by
    have e2 : (18446744073709551615 - (d : Int)) = ((18446744073709551615 - d : Nat) : Int) := by omega
    rw [e2]
    norm_cast
  rw [e]
  omega


set_option maxHeartbeats 1000000 in
set_option maxRecDepth 10000 in
theorem rnumber_any (l : List UInt8) (g cap K k : Nat) (w : World) (hlen : l.length ≤ 1048576) (hcr : (∀ k, k < K → (stn ⟨l, 1, 1⟩ k).rest ≠ []) ∧ (stn ⟨l, 1, 1⟩ K).rest = [])
    (hK : K ≤ 1048576) (hR : Runes w g l.length ⟨l, 1, 1⟩ (K + 1)) (hk : k < K) (hd : digB (dec (stn ⟨l, 1, 1⟩ k).rest).1 = true) :
    Calls Tryd.prog 26 #[.slice (some ⟨g, 0, none⟩) (K + 1 : Nat) cap, .int .i64 k] w (RNumDone l K k w) := by
  have HCR := Lib.hid hcr
  have hR0 := hR.below (Kit.Below.al (Below.refl w.heap.size w) (.cells #[.int .i64 0, .int .i64 0, .int .i64 0] 38))
  have B0 := Blk.new w 38 #[.int .i64 0, .int .i64 0, .int .i64 0]
  have hb0 := Kit.Below.al (Below.refl w.heap.size w) (.cells #[.int .i64 0, .int .i64 0, .int .i64 0] 38)
  obtain ⟨c0, c1, c2, c3, c4⟩ := hR0.2 k (by omega)
  obtain ⟨d0, d1, d2, d3, d4⟩ := hR0.2 (k + 1) (by omega)
  have hhex := hexP_ref (stn ⟨l, 1, 1⟩ k)
  rw [show (stn ⟨l, 1, 1⟩ k).step = stn ⟨l, 1, 1⟩ (k + 1) from rfl] at hhex
  have a1 : (0 : Int) ≤ (k : Int) := by omega
  have a2 : (k : Int) < (K : Int) + 1 := by omega
  have a3 : (0 : Int) ≤ (k : Int) + 1 := by omega
  have a4 : (k : Int) + 1 < (K : Int) + 1 := by omega
  clear hcr hR0 c1 c2 c3 c4 d1 d3 d4
  have HB0 := Lib.hid B0
  have Hb0 := Lib.hid hb0
  have HR := Lib.hid hR
  clear B0 hb0 hR
  cases hh : hexP (stn ⟨l, 1, 1⟩ k).rest with
  | true =>
    rw [hh] at hhex
    simp only [Bool.and_eq_true, Bool.or_eq_true, decide_eq_true_eq, Bool.true_eq] at hhex
    obtain ⟨h48, hd1, hx⟩ := hhex
    rw [h48] at c0
    have hd1' : (0 : Int) < ((dec (stn ⟨l, 1, 1⟩ (k + 1)).rest).2 : Nat) := by omega
    have hk2 : k + 1 < K := by
      rcases Nat.lt_or_ge (k + 1) K with h | h
      · exact h
      · have : k + 1 = K := by omega
        rw [this, HCR.out.2, dec_nil] at hd1
        cases hd1
    have HH := Lib.hid hh
    clear hh
    have hRk2 := (HR.out.below Hb0.out).2 (k + 2) (by omega)
    obtain ⟨e0, e1, e2, e3, e4⟩ := hRk2
    have a5 : (0 : Int) ≤ (k : Int) + 2 := by omega
    have a6 : (k : Int) + 2 < (K : Int) + 1 := by omega
    have hsx := fun w => rsix_any (stn ⟨l, 1, 1⟩ (k + 2)) (l.length - (stn ⟨l, 1, 1⟩ (k + 2)).rest.length) w
    have hgo0 := goes_sixN (base := 16) (is := hexB) (.inr ⟨rfl, rfl⟩) (stn ⟨l, 1, 1⟩ (k + 2))
    have hle0 := sixN_le (stn ⟨l, 1, 1⟩ (k + 2))
    have HGO0 := Lib.hid hgo0
    have hce0 := fun w' (hw' : Below w.heap.size w w') => (HR.out.below hw').2 (k + 2) (by omega)
    have HC0 := Lib.hid hce0
    clear hgo0 hce0
    generalize sixN (stn ⟨l, 1, 1⟩ (k + 2)) = x0 at *
    by_cases hx120 : (dec (stn ⟨l, 1, 1⟩ (k + 1)).rest).1 = 120
    · rw [hx120] at d0
      generalize (dec (stn ⟨l, 1, 1⟩ (k + 1)).rest).2 = dd at *
      clear hx120 hx h48 hd
      go_enter Tryd.func26, Tryd.ntmps26
      go_wp2_with fail
      refine (hsx _).mono ?_
      rintro e wc ⟨rfl, hwc⟩
      have hbc := Kit.Below.then Hb0.out hwc
      have HRc := Lib.hid (HR.out.below hbc)
      have HBc := Lib.hid (HB0.out.below' hwc)
      clear c0 d0 e0 e1 e2 e3 e4 hsx
      by_cases hx0 : x0 = 16
      · subst hx0
        have hgn : St.goes hexB (stn ⟨l, 1, 1⟩ (k + 2)) = false := by rw [HGO0.out]; rfl
        have hs0 := numS_of (s := stn ⟨l, 1, 1⟩ k) (s0 := stn ⟨l, 1, 1⟩ (k + 2)) (s1 := stn ⟨l, 1, 1⟩ (k + 2)) (base := 16) (is := hexB) (by rw [HH.out]; exact ⟨rfl, rfl, rfl⟩) (while_no hgn)
        rw [if_pos (by simp [upTo])] at hs0
        have HN := Lib.hid hs0
        have hH := fun w => here_any (dec (stn ⟨l, 1, 1⟩ (k + 2)).rest).1 (l.length - (stn ⟨l, 1, 1⟩ (k + 2)).rest.length : Nat) (dec (stn ⟨l, 1, 1⟩ (k + 2)).rest).2 (stn ⟨l, 1, 1⟩ (k + 2)).line (stn ⟨l, 1, 1⟩ (k + 2)).col w
        unfold runeV at hH
        obtain ⟨c0, c1, c2, c3, c4⟩ := HC0.out _ hbc
        clear hs0 hgn
        generalize (stn ⟨l, 1, 1⟩ (k + 2)).line = ln at *
        generalize (stn ⟨l, 1, 1⟩ (k + 2)).col = cl at *
        go_wp2_with fail
        refine (hH _).mono ?_
        rintro e w5 ⟨rfl, hw5⟩
        have hb5 := Kit.Below.then hbc hw5
        have B5 := HBc.out.below' hw5
        have n0 : w5.cell? ⟨w.heap.size, 0, none⟩ = some (.int .i64 0) := B5.cell 0
        have n1 : w5.cell? ⟨w.heap.size, 1, none⟩ = some (.int .i64 0) := B5.cell 1
        have n2 : w5.cell? ⟨w.heap.size, 2, none⟩ = some (.int .i64 0) := B5.cell 2
        have nz := fun i => B5.frozen i
        clear c0 c1 c2 c3 c4 hH B5
        go_wp2_with fail
        refine bodyPost_ret (v := .tuple #[.int .u64 0, .int .i64 (k + 2 : Nat), .agg #[.int .i64 20, .int .i64 ln, .int .i64 cl]]) (by simp [results, Tryd.results26, go_sem, n0, n1, n2]) rfl ⟨?_, .inl ⟨ln, cl, k + 2, HN.out, rfl⟩⟩
        repeat (first | with_reducible exact hb5 | with_reducible refine Kit.Below.setN ?_ (Nat.le_refl _) _)
      · have hx1 : ((x0 : Int) == 16) = false := by simp; omega
        have HBI : Hid (BaseIs 16 hexB) := .inr ⟨rfl, rfl⟩
        have hs0 := numS_start (s := stn ⟨l, 1, 1⟩ k) (s0 := stn ⟨l, 1, 1⟩ (k + 2)) (base := 16) (is := hexB) (by rw [HH.out]; exact ⟨rfl, rfl, rfl⟩) HBI.out (by rw [HGO0.out, decide_eq_true]; omega) rfl
        have HN := Lib.hid hs0
        have HJK : Hid (∀ j, k + 2 ≤ j → St.goes hexB (stn ⟨l, 1, 1⟩ j) = false → k < j) := fun j h _ => by omega
        clear hs0
        generalize hs1 : (stn ⟨l, 1, 1⟩ (k + 2)).while hexB = s1 at *
        generalize hwant : valS 16 0 (upTo (stn ⟨l, 1, 1⟩ (k + 2)) s1) = want at *
        have HS1 := Lib.hid hs1
        have HW := Lib.hid hwant.symm
        clear hs1 hwant
        go_wp2_with fail
        go_loopg [1, 9, 10] (K - (k + 2)) (fun m sk sv sg wr => RNumRel l K (k + 2) 16 hexB s1 want wc m sk sv sg wr)
        case atStart => exact ⟨k + 2, 0, false, rfl, rfl, rfl, Below.refl _ _, Nat.le_refl _, by omega, by decide, rfl, HS1.out, (fun h => by cases h), fun _ => HW.out⟩
        case round =>
          obtain ⟨j, v, gb, rfl, rfl, rfl, hbw, hkj, hj, hv, hm, hw, ht, hf⟩ := hrel
          have hRr := HRc.out.below hbw
          have hbt := Kit.Below.then hbc hbw
          have HBr := Lib.hid (HBc.out.below' hbw)
          have hce := fun w' (hw' : Below wr.heap.size wr w') => (hRr.below hw').2 j (by omega)
          have hsix := fun w => rsix_any (stn ⟨l, 1, 1⟩ j) (l.length - (stn ⟨l, 1, 1⟩ j).rest.length) w
          have hgo := goes_sixN (base := 16) (is := hexB) HBI.out (stn ⟨l, 1, 1⟩ j)
          have hval := fun h => val_sixN (base := 16) (is := hexB) HBI.out (s := stn ⟨l, 1, 1⟩ j) h hw v
          have hle := sixN_le (stn ⟨l, 1, 1⟩ j)
          have hend : St.goes hexB (stn ⟨l, 1, 1⟩ j) = true → j < K := by
            intro h
            rcases Nat.lt_or_ge j K with h1 | h1
            · exact h1
            · have : j = K := by omega
              subst this
              simp only [St.goes, Bool.and_eq_true, decide_eq_true_eq] at h
              rw [HCR.out.2, dec_nil] at h
              cases h.1
          have b1 : (0 : Int) ≤ (j : Int) := by omega
          have b2 : (j : Int) < (K : Int) + 1 := by omega
          have hg := hRr.1
          have HWH := Lib.hid hw
          have HGO := Lib.hid hgo
          have HVAL := Lib.hid hval
          have HEND := Lib.hid hend
          have HM := Lib.hid hm
          have HT := Lib.hid ht
          have HF := Lib.hid hf
          obtain ⟨c0, c1, c2, c3, c4⟩ := hce _ (Below.refl _ _)
          have HCE := Lib.hid hce
          clear hw hgo hval hend hm ht hf hce hRr
          generalize sixN (stn ⟨l, 1, 1⟩ j) = x at *
          by_cases hx : x < 16
          · have hx1 : (x : Int) < 16 := by omega
            have hgy : St.goes hexB (stn ⟨l, 1, 1⟩ j) = true := by rw [HGO.out, decide_eq_true hx]
            have hjK := HEND.out hgy
            have hvn := HVAL.out hgy
            have HNX : Hid ((stn ⟨l, 1, 1⟩ (j + 1)).while hexB = s1) := by have h := HWH.out; rw [while_yes hgy] at h; exact h
            have HVN := Lib.hid hvn
            clear hgy hvn
            generalize (dec (stn ⟨l, 1, 1⟩ j).rest).1 = r at *
            generalize (dec (stn ⟨l, 1, 1⟩ j).rest).2 = d at *
            generalize (stn ⟨l, 1, 1⟩ j).line = ln at *
            generalize (stn ⟨l, 1, 1⟩ j).col = cl at *
            generalize l.length - (stn ⟨l, 1, 1⟩ j).rest.length = at0 at *
            cases gb with
            | true =>
              go_wp2_with fail
              refine (hsix _).mono ?_
              rintro e w2 ⟨rfl, hw2⟩
              clear c0 c1 c2 c3 c4
              obtain ⟨c0, c1, c2, c3, c4⟩ := HCE.out _ hw2
              go_wp2_with fail
              refine (hsix _).mono ?_
              rintro e w3 ⟨rfl, hw3⟩
              have hb3 := Kit.Below.then (Kit.Below.then hbw hw2) hw3
              clear c0 c1 c2 c3 c4 hsix
              go_wp2_with fail
              obtain ⟨v2, hv2, hlt2⟩ := wrap_nat (IntKind.u64.wrap ((v : Int) * 16) + (x : Int))
              go_roundg (K - (j + 1))
              case measure => have := HM.out; omega
              case rel => exact ⟨j + 1, v2, true, rfl, congrArg (Value.int .u64) hv2, rfl, hb3, by omega, by omega, hlt2, rfl, HNX.out, fun _ => HT.out (by simp), fun h => by cases h⟩
            | false =>
              go_wp2_with fail
              refine (hsix _).mono ?_
              rintro e w2 ⟨rfl, hw2⟩
              clear c0 c1 c2 c3 c4
              obtain ⟨c0, c1, c2, c3, c4⟩ := HCE.out _ hw2
              go_wp2_with fail
              refine (hsix _).mono ?_
              rintro e w3 ⟨rfl, hw3⟩
              have hb3 := Kit.Below.then (Kit.Below.then hbw hw2) hw3
              clear c0 c1 c2 c3 c4 hsix
              go_wp2_with fail
              obtain ⟨v2, hv2, hlt2⟩ := wrap_nat (IntKind.u64.wrap ((v : Int) * 16) + (x : Int))
              go_roundg (K - (j + 1))
              case measure => have := HM.out; omega
              case rel =>
                refine ⟨j + 1, v2, decide ((18446744073709551615 - (x : Int)) / 16 < (v : Int)), rfl, congrArg (Value.int .u64) hv2, rfl, hb3, by omega, by omega, hlt2, rfl, HNX.out, fun h => ?_, fun h => ?_⟩
                · have h2 := (great_int v x 16 (by decide) (by omega)).1 (of_decide_eq_true h)
                  rw [HF.out (by simp), HVN.out, if_neg h2]
                · have h2 : v * 16 + x < 18446744073709551616 := by
                    have h3 := of_decide_eq_false h
                    have h4 := great_int v x 16 (by decide) (by omega)
                    rcases Nat.lt_or_ge (v * 16 + x) 18446744073709551616 with h5 | h5
                    · exact h5
                    · exact absurd (h4.2 (by omega)) h3
                  have h6 := wrap_fits v 16 x h2
                  have h7 : v2 = v * 16 + x := Int.ofNat.inj (hv2.symm.trans h6)
                  rw [HF.out (by simp), HVN.out, if_pos h2, h7]
                  rfl
          · have hx1 : ¬ ((x : Int) < 16) := by omega
            have hgn : St.goes hexB (stn ⟨l, 1, 1⟩ j) = false := by rw [HGO.out, decide_eq_false hx]
            have hs1 : stn ⟨l, 1, 1⟩ j = s1 := by have h := HWH.out; rwa [while_no hgn] at h
            subst hs1
            clear hgn
            have hL := fun w => rletter_any (dec (stn ⟨l, 1, 1⟩ j).rest).1 (l.length - (stn ⟨l, 1, 1⟩ j).rest.length : Nat) (dec (stn ⟨l, 1, 1⟩ j).rest).2 (stn ⟨l, 1, 1⟩ j).line (stn ⟨l, 1, 1⟩ j).col w
            have hD := fun w => rdigit_any (dec (stn ⟨l, 1, 1⟩ j).rest).1 (l.length - (stn ⟨l, 1, 1⟩ j).rest.length : Nat) (dec (stn ⟨l, 1, 1⟩ j).rest).2 (stn ⟨l, 1, 1⟩ j).line (stn ⟨l, 1, 1⟩ j).col w
            have hH := fun w => here_any (dec (stn ⟨l, 1, 1⟩ j).rest).1 (l.length - (stn ⟨l, 1, 1⟩ j).rest.length : Nat) (dec (stn ⟨l, 1, 1⟩ j).rest).2 (stn ⟨l, 1, 1⟩ j).line (stn ⟨l, 1, 1⟩ j).col w
            have hHk := fun w => here_any (dec (stn ⟨l, 1, 1⟩ k).rest).1 (l.length - (stn ⟨l, 1, 1⟩ k).rest.length : Nat) (dec (stn ⟨l, 1, 1⟩ k).rest).2 (stn ⟨l, 1, 1⟩ k).line (stn ⟨l, 1, 1⟩ k).col w
            have hck := fun w' (hw' : Below wr.heap.size wr w') => (HRc.out.below (Kit.Below.then hbw hw')).2 k (by omega)
            unfold runeV at hL hD hH hHk
            have hbn := fun w' (hw' : Below wr.heap.size wr w') => HBr.out.below' hw'
            have HBN := Lib.hid hbn
            have HCK := Lib.hid hck
            clear hck hbn
            cases gb with
            | true =>
              have hns : numS (stn ⟨l, 1, 1⟩ k) = .error ((stn ⟨l, 1, 1⟩ k).line, (stn ⟨l, 1, 1⟩ k).col) := by rw [HN.out, HT.out (by simp)]
              have HNS := Lib.hid hns
              clear hns hL hD hH
              generalize (stn ⟨l, 1, 1⟩ k).line = kln at *
              generalize (stn ⟨l, 1, 1⟩ k).col = kcl at *
              go_wp2_with fail
              refine (hsix _).mono ?_
              rintro e w2 ⟨rfl, hw2⟩
              clear c0 c1 c2 c3 c4
              obtain ⟨c0, c1, c2, c3, c4⟩ := HCK.out _ hw2
              go_wp2_with fail
              refine (hHk _).mono ?_
              rintro e w3 ⟨rfl, hw3⟩
              have hw23 := Kit.Below.then hw2 hw3
              have hb3 := Kit.Below.then hbt hw23
              have B3 := HBN.out _ hw23
              have n0 : w3.cell? ⟨w.heap.size, 0, none⟩ = some (.int .i64 0) := B3.cell 0
              have n1 : w3.cell? ⟨w.heap.size, 1, none⟩ = some (.int .i64 0) := B3.cell 1
              have n2 : w3.cell? ⟨w.heap.size, 2, none⟩ = some (.int .i64 0) := B3.cell 2
              have nz := fun i => B3.frozen i
              clear c0 c1 c2 c3 c4 hHk hsix B3
              go_wp2_with fail
              refine bodyPost_ret (v := .tuple #[.int .u64 0, .int .i64 j, .agg #[.int .i64 20, .int .i64 kln, .int .i64 kcl]]) (by simp [results, Tryd.results26, go_sem, n0, n1, n2]) rfl ⟨?_, .inl ⟨kln, kcl, j, HNS.out, rfl⟩⟩
              repeat (first | with_reducible exact hb3 | with_reducible refine Kit.Below.setN ?_ (Nat.le_refl _) _)
            | false =>
              have hwant : want = some v := by
                rw [HF.out (by simp)]
                simp [upTo, valS]
              have hns : numS (stn ⟨l, 1, 1⟩ k) = if 0 < (dec (stn ⟨l, 1, 1⟩ j).rest).2 ∧ nameB (dec (stn ⟨l, 1, 1⟩ j).rest).1 = true then .error ((stn ⟨l, 1, 1⟩ j).line, (stn ⟨l, 1, 1⟩ j).col) else .ok (v, stn ⟨l, 1, 1⟩ j) := by rw [HN.out, hwant]
              have HNS := Lib.hid hns
              have hjk : k < j := HJK.out j hkj (by rw [HGO.out, decide_eq_false hx])
              clear hns hwant hHk
              generalize (dec (stn ⟨l, 1, 1⟩ j).rest).1 = r at *
              generalize (dec (stn ⟨l, 1, 1⟩ j).rest).2 = d at *
              generalize (stn ⟨l, 1, 1⟩ j).line = ln at *
              generalize (stn ⟨l, 1, 1⟩ j).col = cl at *
              generalize l.length - (stn ⟨l, 1, 1⟩ j).rest.length = at0 at *
              go_wp2_with fail
              refine (hsix _).mono ?_
              rintro e w2 ⟨rfl, hw2⟩
              clear c0 c1 c2 c3 c4
              obtain ⟨c0, c1, c2, c3, c4⟩ := HCE.out _ hw2
              cases hl : decide ((0 : Int) < (d : Int)) && letB r with
              | true =>
                rw [hl] at hL
                have hns : numS (stn ⟨l, 1, 1⟩ k) = .error (ln, cl) := by
                  rw [HNS.out, if_pos]
                  simp only [Bool.and_eq_true, decide_eq_true_eq] at hl
                  exact ⟨by omega, by unfold nameB; rw [hl.2]; rfl⟩
                have HNT := Lib.hid hns
                clear hns hl hD
                go_wp2_with fail
                refine (hL _).mono ?_
                rintro e w3 ⟨rfl, hw3⟩
                have hw23 := Kit.Below.then hw2 hw3
                clear c0 c1 c2 c3 c4
                obtain ⟨c0, c1, c2, c3, c4⟩ := HCE.out _ hw23
                go_wp2_with fail
                refine (hH _).mono ?_
                rintro e w4 ⟨rfl, hw4⟩
                have hw24 := Kit.Below.then hw23 hw4
                have hb4 := Kit.Below.then hbt hw24
                have B4 := HBN.out _ hw24
                have n0 : w4.cell? ⟨w.heap.size, 0, none⟩ = some (.int .i64 0) := B4.cell 0
                have n1 : w4.cell? ⟨w.heap.size, 1, none⟩ = some (.int .i64 0) := B4.cell 1
                have n2 : w4.cell? ⟨w.heap.size, 2, none⟩ = some (.int .i64 0) := B4.cell 2
                have nz := fun i => B4.frozen i
                clear c0 c1 c2 c3 c4 hH hL hsix B4
                go_wp2_with fail
                refine bodyPost_ret (v := .tuple #[.int .u64 0, .int .i64 j, .agg #[.int .i64 20, .int .i64 ln, .int .i64 cl]]) (by simp [results, Tryd.results26, go_sem, n0, n1, n2]) rfl ⟨?_, .inl ⟨ln, cl, j, HNT.out, rfl⟩⟩
                repeat (first | with_reducible exact hb4 | with_reducible refine Kit.Below.setN ?_ (Nat.le_refl _) _)
              | false =>
                rw [hl] at hL
                cases hdg : decide ((0 : Int) < (d : Int)) && digB r with
                | true =>
                  rw [hdg] at hD
                  have hns : numS (stn ⟨l, 1, 1⟩ k) = .error (ln, cl) := by
                    rw [HNS.out, if_pos]
                    simp only [Bool.and_eq_true, decide_eq_true_eq] at hdg
                    exact ⟨by omega, by unfold nameB; rw [hdg.2, Bool.or_true]⟩
                  have HNT := Lib.hid hns
                  clear hns hl hdg
                  go_wp2_with fail
                  refine (hL _).mono ?_
                  rintro e w3 ⟨rfl, hw3⟩
                  have hw23 := Kit.Below.then hw2 hw3
                  clear c0 c1 c2 c3 c4
                  obtain ⟨c0, c1, c2, c3, c4⟩ := HCE.out _ hw23
                  go_wp2_with fail
                  refine (hD _).mono ?_
                  rintro e w4 ⟨rfl, hw4⟩
                  have hw24 := Kit.Below.then hw23 hw4
                  clear c0 c1 c2 c3 c4
                  obtain ⟨c0, c1, c2, c3, c4⟩ := HCE.out _ hw24
                  go_wp2_with fail
                  refine (hH _).mono ?_
                  rintro e w5 ⟨rfl, hw5⟩
                  have hw25 := Kit.Below.then hw24 hw5
                  have hb5 := Kit.Below.then hbt hw25
                  have B5 := HBN.out _ hw25
                  have n0 : w5.cell? ⟨w.heap.size, 0, none⟩ = some (.int .i64 0) := B5.cell 0
                  have n1 : w5.cell? ⟨w.heap.size, 1, none⟩ = some (.int .i64 0) := B5.cell 1
                  have n2 : w5.cell? ⟨w.heap.size, 2, none⟩ = some (.int .i64 0) := B5.cell 2
                  have nz := fun i => B5.frozen i
                  clear c0 c1 c2 c3 c4 hH hL hD hsix B5
                  go_wp2_with fail
                  refine bodyPost_ret (v := .tuple #[.int .u64 0, .int .i64 j, .agg #[.int .i64 20, .int .i64 ln, .int .i64 cl]]) (by simp [results, Tryd.results26, go_sem, n0, n1, n2]) rfl ⟨?_, .inl ⟨ln, cl, j, HNT.out, rfl⟩⟩
                  repeat (first | with_reducible exact hb5 | with_reducible refine Kit.Below.setN ?_ (Nat.le_refl _) _)
                | false =>
                  rw [hdg] at hD
                  have hns : numS (stn ⟨l, 1, 1⟩ k) = .ok (v, stn ⟨l, 1, 1⟩ j) := by
                    rw [HNS.out, if_neg]
                    rintro ⟨h1, h2⟩
                    rw [decide_eq_true (show (0 : Int) < (d : Int) by omega), Bool.true_and] at hl hdg
                    unfold nameB at h2
                    rw [hl, hdg] at h2
                    cases h2
                  have HNT := Lib.hid hns
                  clear hns hl hdg
                  go_wp2_with fail
                  refine (hL _).mono ?_
                  rintro e w3 ⟨rfl, hw3⟩
                  have hw23 := Kit.Below.then hw2 hw3
                  clear c0 c1 c2 c3 c4
                  obtain ⟨c0, c1, c2, c3, c4⟩ := HCE.out _ hw23
                  go_wp2_with fail
                  refine (hD _).mono ?_
                  rintro e w4 ⟨rfl, hw4⟩
                  have hw24 := Kit.Below.then hw23 hw4
                  have hb4 := Kit.Below.then hbt hw24
                  have B4 := HBN.out _ hw24
                  have n0 : w4.cell? ⟨w.heap.size, 0, none⟩ = some (.int .i64 0) := B4.cell 0
                  have n1 : w4.cell? ⟨w.heap.size, 1, none⟩ = some (.int .i64 0) := B4.cell 1
                  have n2 : w4.cell? ⟨w.heap.size, 2, none⟩ = some (.int .i64 0) := B4.cell 2
                  have nz := fun i => B4.frozen i
                  clear c0 c1 c2 c3 c4 hH hL hD hsix B4
                  go_wp2_with fail
                  refine bodyPost_ret (v := .tuple #[.int .u64 v, .int .i64 j, .agg #[.int .i64 0, .int .i64 0, .int .i64 0]]) (by simp [results, Tryd.results26, go_sem, n0, n1, n2]) rfl ⟨?_, .inr ⟨v, j, HNT.out, hjk, hj, hv, rfl⟩⟩
                  repeat (first | with_reducible exact hb4 | with_reducible refine Kit.Below.setN ?_ (Nat.le_refl _) _)
    by_cases hx88 : (dec (stn ⟨l, 1, 1⟩ (k + 1)).rest).1 = 88
    · rw [hx88] at d0
      generalize (dec (stn ⟨l, 1, 1⟩ (k + 1)).rest).2 = dd at *
      clear hx88 hx h48 hd
      go_enter Tryd.func26, Tryd.ntmps26
      go_wp2_with fail
      refine (hsx _).mono ?_
      rintro e wc ⟨rfl, hwc⟩
      have hbc := Kit.Below.then Hb0.out hwc
      have HRc := Lib.hid (HR.out.below hbc)
      have HBc := Lib.hid (HB0.out.below' hwc)
      clear c0 d0 e0 e1 e2 e3 e4 hsx
      by_cases hx0 : x0 = 16
      · subst hx0
        have hgn : St.goes hexB (stn ⟨l, 1, 1⟩ (k + 2)) = false := by rw [HGO0.out]; rfl
        have hs0 := numS_of (s := stn ⟨l, 1, 1⟩ k) (s0 := stn ⟨l, 1, 1⟩ (k + 2)) (s1 := stn ⟨l, 1, 1⟩ (k + 2)) (base := 16) (is := hexB) (by rw [HH.out]; exact ⟨rfl, rfl, rfl⟩) (while_no hgn)
        rw [if_pos (by simp [upTo])] at hs0
        have HN := Lib.hid hs0
        have hH := fun w => here_any (dec (stn ⟨l, 1, 1⟩ (k + 2)).rest).1 (l.length - (stn ⟨l, 1, 1⟩ (k + 2)).rest.length : Nat) (dec (stn ⟨l, 1, 1⟩ (k + 2)).rest).2 (stn ⟨l, 1, 1⟩ (k + 2)).line (stn ⟨l, 1, 1⟩ (k + 2)).col w
        unfold runeV at hH
        obtain ⟨c0, c1, c2, c3, c4⟩ := HC0.out _ hbc
        clear hs0 hgn
        generalize (stn ⟨l, 1, 1⟩ (k + 2)).line = ln at *
        generalize (stn ⟨l, 1, 1⟩ (k + 2)).col = cl at *
        go_wp2_with fail
        refine (hH _).mono ?_
        rintro e w5 ⟨rfl, hw5⟩
        have hb5 := Kit.Below.then hbc hw5
        have B5 := HBc.out.below' hw5
        have n0 : w5.cell? ⟨w.heap.size, 0, none⟩ = some (.int .i64 0) := B5.cell 0
        have n1 : w5.cell? ⟨w.heap.size, 1, none⟩ = some (.int .i64 0) := B5.cell 1
        have n2 : w5.cell? ⟨w.heap.size, 2, none⟩ = some (.int .i64 0) := B5.cell 2
        have nz := fun i => B5.frozen i
        clear c0 c1 c2 c3 c4 hH B5
        go_wp2_with fail
        refine bodyPost_ret (v := .tuple #[.int .u64 0, .int .i64 (k + 2 : Nat), .agg #[.int .i64 20, .int .i64 ln, .int .i64 cl]]) (by simp [results, Tryd.results26, go_sem, n0, n1, n2]) rfl ⟨?_, .inl ⟨ln, cl, k + 2, HN.out, rfl⟩⟩
        repeat (first | with_reducible exact hb5 | with_reducible refine Kit.Below.setN ?_ (Nat.le_refl _) _)
      · have hx1 : ((x0 : Int) == 16) = false := by simp; omega
        have HBI : Hid (BaseIs 16 hexB) := .inr ⟨rfl, rfl⟩
        have hs0 := numS_start (s := stn ⟨l, 1, 1⟩ k) (s0 := stn ⟨l, 1, 1⟩ (k + 2)) (base := 16) (is := hexB) (by rw [HH.out]; exact ⟨rfl, rfl, rfl⟩) HBI.out (by rw [HGO0.out, decide_eq_true]; omega) rfl
        have HN := Lib.hid hs0
        have HJK : Hid (∀ j, k + 2 ≤ j → St.goes hexB (stn ⟨l, 1, 1⟩ j) = false → k < j) := fun j h _ => by omega
        clear hs0
        generalize hs1 : (stn ⟨l, 1, 1⟩ (k + 2)).while hexB = s1 at *
        generalize hwant : valS 16 0 (upTo (stn ⟨l, 1, 1⟩ (k + 2)) s1) = want at *
        have HS1 := Lib.hid hs1
        have HW := Lib.hid hwant.symm
        clear hs1 hwant
        go_wp2_with fail
        go_loopg [1, 9, 10] (K - (k + 2)) (fun m sk sv sg wr => RNumRel l K (k + 2) 16 hexB s1 want wc m sk sv sg wr)
        case atStart => exact ⟨k + 2, 0, false, rfl, rfl, rfl, Below.refl _ _, Nat.le_refl _, by omega, by decide, rfl, HS1.out, (fun h => by cases h), fun _ => HW.out⟩
        case round =>
          obtain ⟨j, v, gb, rfl, rfl, rfl, hbw, hkj, hj, hv, hm, hw, ht, hf⟩ := hrel
          have hRr := HRc.out.below hbw
          have hbt := Kit.Below.then hbc hbw
          have HBr := Lib.hid (HBc.out.below' hbw)
          have hce := fun w' (hw' : Below wr.heap.size wr w') => (hRr.below hw').2 j (by omega)
          have hsix := fun w => rsix_any (stn ⟨l, 1, 1⟩ j) (l.length - (stn ⟨l, 1, 1⟩ j).rest.length) w
          have hgo := goes_sixN (base := 16) (is := hexB) HBI.out (stn ⟨l, 1, 1⟩ j)
          have hval := fun h => val_sixN (base := 16) (is := hexB) HBI.out (s := stn ⟨l, 1, 1⟩ j) h hw v
          have hle := sixN_le (stn ⟨l, 1, 1⟩ j)
          have hend : St.goes hexB (stn ⟨l, 1, 1⟩ j) = true → j < K := by
            intro h
            rcases Nat.lt_or_ge j K with h1 | h1
            · exact h1
            · have : j = K := by omega
              subst this
              simp only [St.goes, Bool.and_eq_true, decide_eq_true_eq] at h
              rw [HCR.out.2, dec_nil] at h
              cases h.1
          have b1 : (0 : Int) ≤ (j : Int) := by omega
          have b2 : (j : Int) < (K : Int) + 1 := by omega
          have hg := hRr.1
          have HWH := Lib.hid hw
          have HGO := Lib.hid hgo
          have HVAL := Lib.hid hval
          have HEND := Lib.hid hend
          have HM := Lib.hid hm
          have HT := Lib.hid ht
          have HF := Lib.hid hf
          obtain ⟨c0, c1, c2, c3, c4⟩ := hce _ (Below.refl _ _)
          have HCE := Lib.hid hce
          clear hw hgo hval hend hm ht hf hce hRr
          generalize sixN (stn ⟨l, 1, 1⟩ j) = x at *
          by_cases hx : x < 16
          · have hx1 : (x : Int) < 16 := by omega
            have hgy : St.goes hexB (stn ⟨l, 1, 1⟩ j) = true := by rw [HGO.out, decide_eq_true hx]
            have hjK := HEND.out hgy
            have hvn := HVAL.out hgy
            have HNX : Hid ((stn ⟨l, 1, 1⟩ (j + 1)).while hexB = s1) := by have h := HWH.out; rw [while_yes hgy] at h; exact h
            have HVN := Lib.hid hvn
            clear hgy hvn
            generalize (dec (stn ⟨l, 1, 1⟩ j).rest).1 = r at *
            generalize (dec (stn ⟨l, 1, 1⟩ j).rest).2 = d at *
            generalize (stn ⟨l, 1, 1⟩ j).line = ln at *
            generalize (stn ⟨l, 1, 1⟩ j).col = cl at *
            generalize l.length - (stn ⟨l, 1, 1⟩ j).rest.length = at0 at *
            cases gb with
            | true =>
              go_wp2_with fail
              refine (hsix _).mono ?_
              rintro e w2 ⟨rfl, hw2⟩
              clear c0 c1 c2 c3 c4
              obtain ⟨c0, c1, c2, c3, c4⟩ := HCE.out _ hw2
              go_wp2_with fail
              refine (hsix _).mono ?_
              rintro e w3 ⟨rfl, hw3⟩
              have hb3 := Kit.Below.then (Kit.Below.then hbw hw2) hw3
              clear c0 c1 c2 c3 c4 hsix
              go_wp2_with fail
              obtain ⟨v2, hv2, hlt2⟩ := wrap_nat (IntKind.u64.wrap ((v : Int) * 16) + (x : Int))
              go_roundg (K - (j + 1))
              case measure => have := HM.out; omega
              case rel => exact ⟨j + 1, v2, true, rfl, congrArg (Value.int .u64) hv2, rfl, hb3, by omega, by omega, hlt2, rfl, HNX.out, fun _ => HT.out (by simp), fun h => by cases h⟩
            | false =>
              go_wp2_with fail
              refine (hsix _).mono ?_
              rintro e w2 ⟨rfl, hw2⟩
              clear c0 c1 c2 c3 c4
              obtain ⟨c0, c1, c2, c3, c4⟩ := HCE.out _ hw2
              go_wp2_with fail
              refine (hsix _).mono ?_
              rintro e w3 ⟨rfl, hw3⟩
              have hb3 := Kit.Below.then (Kit.Below.then hbw hw2) hw3
              clear c0 c1 c2 c3 c4 hsix
              go_wp2_with fail
              obtain ⟨v2, hv2, hlt2⟩ := wrap_nat (IntKind.u64.wrap ((v : Int) * 16) + (x : Int))
              go_roundg (K - (j + 1))
              case measure => have := HM.out; omega
              case rel =>
                refine ⟨j + 1, v2, decide ((18446744073709551615 - (x : Int)) / 16 < (v : Int)), rfl, congrArg (Value.int .u64) hv2, rfl, hb3, by omega, by omega, hlt2, rfl, HNX.out, fun h => ?_, fun h => ?_⟩
                · have h2 := (great_int v x 16 (by decide) (by omega)).1 (of_decide_eq_true h)
                  rw [HF.out (by simp), HVN.out, if_neg h2]
                · have h2 : v * 16 + x < 18446744073709551616 := by
                    have h3 := of_decide_eq_false h
                    have h4 := great_int v x 16 (by decide) (by omega)
                    rcases Nat.lt_or_ge (v * 16 + x) 18446744073709551616 with h5 | h5
                    · exact h5
                    · exact absurd (h4.2 (by omega)) h3
                  have h6 := wrap_fits v 16 x h2
                  have h7 : v2 = v * 16 + x := Int.ofNat.inj (hv2.symm.trans h6)
                  rw [HF.out (by simp), HVN.out, if_pos h2, h7]
                  rfl
          · have hx1 : ¬ ((x : Int) < 16) := by omega
            have hgn : St.goes hexB (stn ⟨l, 1, 1⟩ j) = false := by rw [HGO.out, decide_eq_false hx]
            have hs1 : stn ⟨l, 1, 1⟩ j = s1 := by have h := HWH.out; rwa [while_no hgn] at h
            subst hs1
            clear hgn
            have hL := fun w => rletter_any (dec (stn ⟨l, 1, 1⟩ j).rest).1 (l.length - (stn ⟨l, 1, 1⟩ j).rest.length : Nat) (dec (stn ⟨l, 1, 1⟩ j).rest).2 (stn ⟨l, 1, 1⟩ j).line (stn ⟨l, 1, 1⟩ j).col w
            have hD := fun w => rdigit_any (dec (stn ⟨l, 1, 1⟩ j).rest).1 (l.length - (stn ⟨l, 1, 1⟩ j).rest.length : Nat) (dec (stn ⟨l, 1, 1⟩ j).rest).2 (stn ⟨l, 1, 1⟩ j).line (stn ⟨l, 1, 1⟩ j).col w
            have hH := fun w => here_any (dec (stn ⟨l, 1, 1⟩ j).rest).1 (l.length - (stn ⟨l, 1, 1⟩ j).rest.length : Nat) (dec (stn ⟨l, 1, 1⟩ j).rest).2 (stn ⟨l, 1, 1⟩ j).line (stn ⟨l, 1, 1⟩ j).col w
            have hHk := fun w => here_any (dec (stn ⟨l, 1, 1⟩ k).rest).1 (l.length - (stn ⟨l, 1, 1⟩ k).rest.length : Nat) (dec (stn ⟨l, 1, 1⟩ k).rest).2 (stn ⟨l, 1, 1⟩ k).line (stn ⟨l, 1, 1⟩ k).col w
            have hck := fun w' (hw' : Below wr.heap.size wr w') => (HRc.out.below (Kit.Below.then hbw hw')).2 k (by omega)
            unfold runeV at hL hD hH hHk
            have hbn := fun w' (hw' : Below wr.heap.size wr w') => HBr.out.below' hw'
            have HBN := Lib.hid hbn
            have HCK := Lib.hid hck
            clear hck hbn
            cases gb with
            | true =>
              have hns : numS (stn ⟨l, 1, 1⟩ k) = .error ((stn ⟨l, 1, 1⟩ k).line, (stn ⟨l, 1, 1⟩ k).col) := by rw [HN.out, HT.out (by simp)]
              have HNS := Lib.hid hns
              clear hns hL hD hH
              generalize (stn ⟨l, 1, 1⟩ k).line = kln at *
              generalize (stn ⟨l, 1, 1⟩ k).col = kcl at *
              go_wp2_with fail
              refine (hsix _).mono ?_
              rintro e w2 ⟨rfl, hw2⟩
              clear c0 c1 c2 c3 c4
              obtain ⟨c0, c1, c2, c3, c4⟩ := HCK.out _ hw2
              go_wp2_with fail
              refine (hHk _).mono ?_
              rintro e w3 ⟨rfl, hw3⟩
              have hw23 := Kit.Below.then hw2 hw3
              have hb3 := Kit.Below.then hbt hw23
              have B3 := HBN.out _ hw23
              have n0 : w3.cell? ⟨w.heap.size, 0, none⟩ = some (.int .i64 0) := B3.cell 0
              have n1 : w3.cell? ⟨w.heap.size, 1, none⟩ = some (.int .i64 0) := B3.cell 1
              have n2 : w3.cell? ⟨w.heap.size, 2, none⟩ = some (.int .i64 0) := B3.cell 2
              have nz := fun i => B3.frozen i
              clear c0 c1 c2 c3 c4 hHk hsix B3
              go_wp2_with fail
              refine bodyPost_ret (v := .tuple #[.int .u64 0, .int .i64 j, .agg #[.int .i64 20, .int .i64 kln, .int .i64 kcl]]) (by simp [results, Tryd.results26, go_sem, n0, n1, n2]) rfl ⟨?_, .inl ⟨kln, kcl, j, HNS.out, rfl⟩⟩
              repeat (first | with_reducible exact hb3 | with_reducible refine Kit.Below.setN ?_ (Nat.le_refl _) _)
            | false =>
              have hwant : want = some v := by
                rw [HF.out (by simp)]
                simp [upTo, valS]
              have hns : numS (stn ⟨l, 1, 1⟩ k) = if 0 < (dec (stn ⟨l, 1, 1⟩ j).rest).2 ∧ nameB (dec (stn ⟨l, 1, 1⟩ j).rest).1 = true then .error ((stn ⟨l, 1, 1⟩ j).line, (stn ⟨l, 1, 1⟩ j).col) else .ok (v, stn ⟨l, 1, 1⟩ j) := by rw [HN.out, hwant]
              have HNS := Lib.hid hns
              have hjk : k < j := HJK.out j hkj (by rw [HGO.out, decide_eq_false hx])
              clear hns hwant hHk
              generalize (dec (stn ⟨l, 1, 1⟩ j).rest).1 = r at *
              generalize (dec (stn ⟨l, 1, 1⟩ j).rest).2 = d at *
              generalize (stn ⟨l, 1, 1⟩ j).line = ln at *
              generalize (stn ⟨l, 1, 1⟩ j).col = cl at *
              generalize l.length - (stn ⟨l, 1, 1⟩ j).rest.length = at0 at *
              go_wp2_with fail
              refine (hsix _).mono ?_
              rintro e w2 ⟨rfl, hw2⟩
              clear c0 c1 c2 c3 c4
              obtain ⟨c0, c1, c2, c3, c4⟩ := HCE.out _ hw2
              cases hl : decide ((0 : Int) < (d : Int)) && letB r with
              | true =>
                rw [hl] at hL
                have hns : numS (stn ⟨l, 1, 1⟩ k) = .error (ln, cl) := by
                  rw [HNS.out, if_pos]
                  simp only [Bool.and_eq_true, decide_eq_true_eq] at hl
                  exact ⟨by omega, by unfold nameB; rw [hl.2]; rfl⟩
                have HNT := Lib.hid hns
                clear hns hl hD
                go_wp2_with fail
                refine (hL _).mono ?_
                rintro e w3 ⟨rfl, hw3⟩
                have hw23 := Kit.Below.then hw2 hw3
                clear c0 c1 c2 c3 c4
                obtain ⟨c0, c1, c2, c3, c4⟩ := HCE.out _ hw23
                go_wp2_with fail
                refine (hH _).mono ?_
                rintro e w4 ⟨rfl, hw4⟩
                have hw24 := Kit.Below.then hw23 hw4
                have hb4 := Kit.Below.then hbt hw24
                have B4 := HBN.out _ hw24
                have n0 : w4.cell? ⟨w.heap.size, 0, none⟩ = some (.int .i64 0) := B4.cell 0
                have n1 : w4.cell? ⟨w.heap.size, 1, none⟩ = some (.int .i64 0) := B4.cell 1
                have n2 : w4.cell? ⟨w.heap.size, 2, none⟩ = some (.int .i64 0) := B4.cell 2
                have nz := fun i => B4.frozen i
                clear c0 c1 c2 c3 c4 hH hL hsix B4
                go_wp2_with fail
                refine bodyPost_ret (v := .tuple #[.int .u64 0, .int .i64 j, .agg #[.int .i64 20, .int .i64 ln, .int .i64 cl]]) (by simp [results, Tryd.results26, go_sem, n0, n1, n2]) rfl ⟨?_, .inl ⟨ln, cl, j, HNT.out, rfl⟩⟩
                repeat (first | with_reducible exact hb4 | with_reducible refine Kit.Below.setN ?_ (Nat.le_refl _) _)
              | false =>
                rw [hl] at hL
                cases hdg : decide ((0 : Int) < (d : Int)) && digB r with
                | true =>
                  rw [hdg] at hD
                  have hns : numS (stn ⟨l, 1, 1⟩ k) = .error (ln, cl) := by
                    rw [HNS.out, if_pos]
                    simp only [Bool.and_eq_true, decide_eq_true_eq] at hdg
                    exact ⟨by omega, by unfold nameB; rw [hdg.2, Bool.or_true]⟩
                  have HNT := Lib.hid hns
                  clear hns hl hdg
                  go_wp2_with fail
                  refine (hL _).mono ?_
                  rintro e w3 ⟨rfl, hw3⟩
                  have hw23 := Kit.Below.then hw2 hw3
                  clear c0 c1 c2 c3 c4
                  obtain ⟨c0, c1, c2, c3, c4⟩ := HCE.out _ hw23
                  go_wp2_with fail
                  refine (hD _).mono ?_
                  rintro e w4 ⟨rfl, hw4⟩
                  have hw24 := Kit.Below.then hw23 hw4
                  clear c0 c1 c2 c3 c4
                  obtain ⟨c0, c1, c2, c3, c4⟩ := HCE.out _ hw24
                  go_wp2_with fail
                  refine (hH _).mono ?_
                  rintro e w5 ⟨rfl, hw5⟩
                  have hw25 := Kit.Below.then hw24 hw5
                  have hb5 := Kit.Below.then hbt hw25
                  have B5 := HBN.out _ hw25
                  have n0 : w5.cell? ⟨w.heap.size, 0, none⟩ = some (.int .i64 0) := B5.cell 0
                  have n1 : w5.cell? ⟨w.heap.size, 1, none⟩ = some (.int .i64 0) := B5.cell 1
                  have n2 : w5.cell? ⟨w.heap.size, 2, none⟩ = some (.int .i64 0) := B5.cell 2
                  have nz := fun i => B5.frozen i
                  clear c0 c1 c2 c3 c4 hH hL hD hsix B5
                  go_wp2_with fail
                  refine bodyPost_ret (v := .tuple #[.int .u64 0, .int .i64 j, .agg #[.int .i64 20, .int .i64 ln, .int .i64 cl]]) (by simp [results, Tryd.results26, go_sem, n0, n1, n2]) rfl ⟨?_, .inl ⟨ln, cl, j, HNT.out, rfl⟩⟩
                  repeat (first | with_reducible exact hb5 | with_reducible refine Kit.Below.setN ?_ (Nat.le_refl _) _)
                | false =>
                  rw [hdg] at hD
                  have hns : numS (stn ⟨l, 1, 1⟩ k) = .ok (v, stn ⟨l, 1, 1⟩ j) := by
                    rw [HNS.out, if_neg]
                    rintro ⟨h1, h2⟩
                    rw [decide_eq_true (show (0 : Int) < (d : Int) by omega), Bool.true_and] at hl hdg
                    unfold nameB at h2
                    rw [hl, hdg] at h2
                    cases h2
                  have HNT := Lib.hid hns
                  clear hns hl hdg
                  go_wp2_with fail
                  refine (hL _).mono ?_
                  rintro e w3 ⟨rfl, hw3⟩
                  have hw23 := Kit.Below.then hw2 hw3
                  clear c0 c1 c2 c3 c4
                  obtain ⟨c0, c1, c2, c3, c4⟩ := HCE.out _ hw23
                  go_wp2_with fail
                  refine (hD _).mono ?_
                  rintro e w4 ⟨rfl, hw4⟩
                  have hw24 := Kit.Below.then hw23 hw4
                  have hb4 := Kit.Below.then hbt hw24
                  have B4 := HBN.out _ hw24
                  have n0 : w4.cell? ⟨w.heap.size, 0, none⟩ = some (.int .i64 0) := B4.cell 0
                  have n1 : w4.cell? ⟨w.heap.size, 1, none⟩ = some (.int .i64 0) := B4.cell 1
                  have n2 : w4.cell? ⟨w.heap.size, 2, none⟩ = some (.int .i64 0) := B4.cell 2
                  have nz := fun i => B4.frozen i
                  clear c0 c1 c2 c3 c4 hH hL hD hsix B4
                  go_wp2_with fail
                  refine bodyPost_ret (v := .tuple #[.int .u64 v, .int .i64 j, .agg #[.int .i64 0, .int .i64 0, .int .i64 0]]) (by simp [results, Tryd.results26, go_sem, n0, n1, n2]) rfl ⟨?_, .inr ⟨v, j, HNT.out, hjk, hj, hv, rfl⟩⟩
                  repeat (first | with_reducible exact hb4 | with_reducible refine Kit.Below.setN ?_ (Nat.le_refl _) _)
    rcases hx with hx | hx
    · exact absurd hx hx120
    · exact absurd hx hx88
  | false =>
    have HH := Lib.hid hh
    rw [hh] at hhex
    have hg0 : St.goes digB (stn ⟨l, 1, 1⟩ k) = true := by
      unfold St.goes
      have h1 : 0 ≤ (dec (stn ⟨l, 1, 1⟩ k).rest).1 := by simp [digB] at hd; omega
      have h2 : 0 < (dec (stn ⟨l, 1, 1⟩ k).rest).2 := dec_pos (HCR.out.1 k hk)
      rw [hd, decide_eq_true h1, decide_eq_true h2]
      rfl
    have HBI : Hid (BaseIs 10 digB) := .inl ⟨rfl, rfl⟩
    have hs0 := numS_start (s := stn ⟨l, 1, 1⟩ k) (s0 := stn ⟨l, 1, 1⟩ k) (base := 10) (is := digB) (by rw [HH.out]; exact ⟨rfl, rfl, rfl⟩) HBI.out hg0 rfl
    have HN := Lib.hid hs0
    have HJK : Hid (∀ j, k ≤ j → St.goes digB (stn ⟨l, 1, 1⟩ j) = false → k < j) := by
      intro j h1 h2
      rcases Nat.lt_or_ge k j with h | h
      · exact h
      · have : j = k := by omega
        subst this
        rw [hg0] at h2
        cases h2
    clear hs0 hg0 hd hh
    generalize hs1 : (stn ⟨l, 1, 1⟩ k).while digB = s1 at *
    generalize hwant : valS 10 0 (upTo (stn ⟨l, 1, 1⟩ k) s1) = want at *
    have HS1 := Lib.hid hs1
    have HW := Lib.hid hwant.symm
    clear hs1 hwant
    have hbc := Hb0.out
    have HRc := Lib.hid (HR.out.below hbc)
    have HBc := Lib.hid (HB0.out)
    by_cases h48 : (dec (stn ⟨l, 1, 1⟩ k).rest).1 = 48
    · rw [h48] at c0
      by_cases hd1 : 0 < (dec (stn ⟨l, 1, 1⟩ (k + 1)).rest).2
      · have hd1' : (0 : Int) < ((dec (stn ⟨l, 1, 1⟩ (k + 1)).rest).2 : Nat) := by omega
        have h120 : (dec (stn ⟨l, 1, 1⟩ (k + 1)).rest).1 ≠ 120 := by
          intro h
          rw [h48, h, decide_eq_true hd1] at hhex
          simp at hhex
        have h88 : (dec (stn ⟨l, 1, 1⟩ (k + 1)).rest).1 ≠ 88 := by
          intro h
          rw [h48, h, decide_eq_true hd1] at hhex
          simp at hhex
        clear hhex h48
        generalize (dec (stn ⟨l, 1, 1⟩ (k + 1)).rest).2 = dd at *
        generalize (dec (stn ⟨l, 1, 1⟩ (k + 1)).rest).1 = rr at *
        have q1 : (rr == 120) = false := by simpa using h120
        have q2 : (rr == 88) = false := by simpa using h88
        go_enter Tryd.func26, Tryd.ntmps26
        go_wp2_with fail
        generalize w.alloc (.cells #[.int .i64 0, .int .i64 0, .int .i64 0] 38) = wc at *
        go_loopg [1, 9, 10] (K - (k)) (fun m sk sv sg wr => RNumRel l K (k) 10 digB s1 want wc m sk sv sg wr)
        case atStart => exact ⟨k, 0, false, rfl, rfl, rfl, Below.refl _ _, Nat.le_refl _, by omega, by decide, rfl, HS1.out, (fun h => by cases h), fun _ => HW.out⟩
        case round =>
          obtain ⟨j, v, gb, rfl, rfl, rfl, hbw, hkj, hj, hv, hm, hw, ht, hf⟩ := hrel
          have hRr := HRc.out.below hbw
          have hbt := Kit.Below.then hbc hbw
          have HBr := Lib.hid (HBc.out.below' hbw)
          have hce := fun w' (hw' : Below wr.heap.size wr w') => (hRr.below hw').2 j (by omega)
          have hsix := fun w => rsix_any (stn ⟨l, 1, 1⟩ j) (l.length - (stn ⟨l, 1, 1⟩ j).rest.length) w
          have hgo := goes_sixN (base := 10) (is := digB) HBI.out (stn ⟨l, 1, 1⟩ j)
          have hval := fun h => val_sixN (base := 10) (is := digB) HBI.out (s := stn ⟨l, 1, 1⟩ j) h hw v
          have hle := sixN_le (stn ⟨l, 1, 1⟩ j)
          have hend : St.goes digB (stn ⟨l, 1, 1⟩ j) = true → j < K := by
            intro h
            rcases Nat.lt_or_ge j K with h1 | h1
            · exact h1
            · have : j = K := by omega
              subst this
              simp only [St.goes, Bool.and_eq_true, decide_eq_true_eq] at h
              rw [HCR.out.2, dec_nil] at h
              cases h.1
          have b1 : (0 : Int) ≤ (j : Int) := by omega
          have b2 : (j : Int) < (K : Int) + 1 := by omega
          have hg := hRr.1
          have HWH := Lib.hid hw
          have HGO := Lib.hid hgo
          have HVAL := Lib.hid hval
          have HEND := Lib.hid hend
          have HM := Lib.hid hm
          have HT := Lib.hid ht
          have HF := Lib.hid hf
          obtain ⟨c0, c1, c2, c3, c4⟩ := hce _ (Below.refl _ _)
          have HCE := Lib.hid hce
          clear hw hgo hval hend hm ht hf hce hRr
          generalize sixN (stn ⟨l, 1, 1⟩ j) = x at *
          by_cases hx : x < 10
          · have hx1 : (x : Int) < 10 := by omega
            have hgy : St.goes digB (stn ⟨l, 1, 1⟩ j) = true := by rw [HGO.out, decide_eq_true hx]
            have hjK := HEND.out hgy
            have hvn := HVAL.out hgy
            have HNX : Hid ((stn ⟨l, 1, 1⟩ (j + 1)).while digB = s1) := by have h := HWH.out; rw [while_yes hgy] at h; exact h
            have HVN := Lib.hid hvn
            clear hgy hvn
            generalize (dec (stn ⟨l, 1, 1⟩ j).rest).1 = r at *
            generalize (dec (stn ⟨l, 1, 1⟩ j).rest).2 = d at *
            generalize (stn ⟨l, 1, 1⟩ j).line = ln at *
            generalize (stn ⟨l, 1, 1⟩ j).col = cl at *
            generalize l.length - (stn ⟨l, 1, 1⟩ j).rest.length = at0 at *
            cases gb with
            | true =>
              go_wp2_with fail
              refine (hsix _).mono ?_
              rintro e w2 ⟨rfl, hw2⟩
              clear c0 c1 c2 c3 c4
              obtain ⟨c0, c1, c2, c3, c4⟩ := HCE.out _ hw2
              go_wp2_with fail
              refine (hsix _).mono ?_
              rintro e w3 ⟨rfl, hw3⟩
              have hb3 := Kit.Below.then (Kit.Below.then hbw hw2) hw3
              clear c0 c1 c2 c3 c4 hsix
              go_wp2_with fail
              obtain ⟨v2, hv2, hlt2⟩ := wrap_nat (IntKind.u64.wrap ((v : Int) * 10) + (x : Int))
              go_roundg (K - (j + 1))
              case measure => have := HM.out; omega
              case rel => exact ⟨j + 1, v2, true, rfl, congrArg (Value.int .u64) hv2, rfl, hb3, by omega, by omega, hlt2, rfl, HNX.out, fun _ => HT.out (by simp), fun h => by cases h⟩
            | false =>
              go_wp2_with fail
              refine (hsix _).mono ?_
              rintro e w2 ⟨rfl, hw2⟩
              clear c0 c1 c2 c3 c4
              obtain ⟨c0, c1, c2, c3, c4⟩ := HCE.out _ hw2
              go_wp2_with fail
              refine (hsix _).mono ?_
              rintro e w3 ⟨rfl, hw3⟩
              have hb3 := Kit.Below.then (Kit.Below.then hbw hw2) hw3
              clear c0 c1 c2 c3 c4 hsix
              go_wp2_with fail
              obtain ⟨v2, hv2, hlt2⟩ := wrap_nat (IntKind.u64.wrap ((v : Int) * 10) + (x : Int))
              go_roundg (K - (j + 1))
              case measure => have := HM.out; omega
              case rel =>
                refine ⟨j + 1, v2, decide ((18446744073709551615 - (x : Int)) / 10 < (v : Int)), rfl, congrArg (Value.int .u64) hv2, rfl, hb3, by omega, by omega, hlt2, rfl, HNX.out, fun h => ?_, fun h => ?_⟩
                · have h2 := (great_int v x 10 (by decide) (by omega)).1 (of_decide_eq_true h)
                  rw [HF.out (by simp), HVN.out, if_neg h2]
                · have h2 : v * 10 + x < 18446744073709551616 := by
                    have h3 := of_decide_eq_false h
                    have h4 := great_int v x 10 (by decide) (by omega)
                    rcases Nat.lt_or_ge (v * 10 + x) 18446744073709551616 with h5 | h5
                    · exact h5
                    · exact absurd (h4.2 (by omega)) h3
                  have h6 := wrap_fits v 10 x h2
                  have h7 : v2 = v * 10 + x := Int.ofNat.inj (hv2.symm.trans h6)
                  rw [HF.out (by simp), HVN.out, if_pos h2, h7]
                  rfl
          · have hx1 : ¬ ((x : Int) < 10) := by omega
            have hgn : St.goes digB (stn ⟨l, 1, 1⟩ j) = false := by rw [HGO.out, decide_eq_false hx]
            have hs1 : stn ⟨l, 1, 1⟩ j = s1 := by have h := HWH.out; rwa [while_no hgn] at h
            subst hs1
            clear hgn
            have hL := fun w => rletter_any (dec (stn ⟨l, 1, 1⟩ j).rest).1 (l.length - (stn ⟨l, 1, 1⟩ j).rest.length : Nat) (dec (stn ⟨l, 1, 1⟩ j).rest).2 (stn ⟨l, 1, 1⟩ j).line (stn ⟨l, 1, 1⟩ j).col w
            have hD := fun w => rdigit_any (dec (stn ⟨l, 1, 1⟩ j).rest).1 (l.length - (stn ⟨l, 1, 1⟩ j).rest.length : Nat) (dec (stn ⟨l, 1, 1⟩ j).rest).2 (stn ⟨l, 1, 1⟩ j).line (stn ⟨l, 1, 1⟩ j).col w
            have hH := fun w => here_any (dec (stn ⟨l, 1, 1⟩ j).rest).1 (l.length - (stn ⟨l, 1, 1⟩ j).rest.length : Nat) (dec (stn ⟨l, 1, 1⟩ j).rest).2 (stn ⟨l, 1, 1⟩ j).line (stn ⟨l, 1, 1⟩ j).col w
            have hHk := fun w => here_any (dec (stn ⟨l, 1, 1⟩ k).rest).1 (l.length - (stn ⟨l, 1, 1⟩ k).rest.length : Nat) (dec (stn ⟨l, 1, 1⟩ k).rest).2 (stn ⟨l, 1, 1⟩ k).line (stn ⟨l, 1, 1⟩ k).col w
            have hck := fun w' (hw' : Below wr.heap.size wr w') => (HRc.out.below (Kit.Below.then hbw hw')).2 k (by omega)
            unfold runeV at hL hD hH hHk
            have hbn := fun w' (hw' : Below wr.heap.size wr w') => HBr.out.below' hw'
            have HBN := Lib.hid hbn
            have HCK := Lib.hid hck
            clear hck hbn
            cases gb with
            | true =>
              have hns : numS (stn ⟨l, 1, 1⟩ k) = .error ((stn ⟨l, 1, 1⟩ k).line, (stn ⟨l, 1, 1⟩ k).col) := by rw [HN.out, HT.out (by simp)]
              have HNS := Lib.hid hns
              clear hns hL hD hH
              generalize (stn ⟨l, 1, 1⟩ k).line = kln at *
              generalize (stn ⟨l, 1, 1⟩ k).col = kcl at *
              go_wp2_with fail
              refine (hsix _).mono ?_
              rintro e w2 ⟨rfl, hw2⟩
              clear c0 c1 c2 c3 c4
              obtain ⟨c0, c1, c2, c3, c4⟩ := HCK.out _ hw2
              go_wp2_with fail
              refine (hHk _).mono ?_
              rintro e w3 ⟨rfl, hw3⟩
              have hw23 := Kit.Below.then hw2 hw3
              have hb3 := Kit.Below.then hbt hw23
              have B3 := HBN.out _ hw23
              have n0 : w3.cell? ⟨w.heap.size, 0, none⟩ = some (.int .i64 0) := B3.cell 0
              have n1 : w3.cell? ⟨w.heap.size, 1, none⟩ = some (.int .i64 0) := B3.cell 1
              have n2 : w3.cell? ⟨w.heap.size, 2, none⟩ = some (.int .i64 0) := B3.cell 2
              have nz := fun i => B3.frozen i
              clear c0 c1 c2 c3 c4 hHk hsix B3
              go_wp2_with fail
              refine bodyPost_ret (v := .tuple #[.int .u64 0, .int .i64 j, .agg #[.int .i64 20, .int .i64 kln, .int .i64 kcl]]) (by simp [results, Tryd.results26, go_sem, n0, n1, n2]) rfl ⟨?_, .inl ⟨kln, kcl, j, HNS.out, rfl⟩⟩
              repeat (first | with_reducible exact hb3 | with_reducible refine Kit.Below.setN ?_ (Nat.le_refl _) _)
            | false =>
              have hwant : want = some v := by
                rw [HF.out (by simp)]
                simp [upTo, valS]
              have hns : numS (stn ⟨l, 1, 1⟩ k) = if 0 < (dec (stn ⟨l, 1, 1⟩ j).rest).2 ∧ nameB (dec (stn ⟨l, 1, 1⟩ j).rest).1 = true then .error ((stn ⟨l, 1, 1⟩ j).line, (stn ⟨l, 1, 1⟩ j).col) else .ok (v, stn ⟨l, 1, 1⟩ j) := by rw [HN.out, hwant]
              have HNS := Lib.hid hns
              have hjk : k < j := HJK.out j hkj (by rw [HGO.out, decide_eq_false hx])
              clear hns hwant hHk
              generalize (dec (stn ⟨l, 1, 1⟩ j).rest).1 = r at *
              generalize (dec (stn ⟨l, 1, 1⟩ j).rest).2 = d at *
              generalize (stn ⟨l, 1, 1⟩ j).line = ln at *
              generalize (stn ⟨l, 1, 1⟩ j).col = cl at *
              generalize l.length - (stn ⟨l, 1, 1⟩ j).rest.length = at0 at *
              go_wp2_with fail
              refine (hsix _).mono ?_
              rintro e w2 ⟨rfl, hw2⟩
              clear c0 c1 c2 c3 c4
              obtain ⟨c0, c1, c2, c3, c4⟩ := HCE.out _ hw2
              cases hl : decide ((0 : Int) < (d : Int)) && letB r with
              | true =>
                rw [hl] at hL
                have hns : numS (stn ⟨l, 1, 1⟩ k) = .error (ln, cl) := by
                  rw [HNS.out, if_pos]
                  simp only [Bool.and_eq_true, decide_eq_true_eq] at hl
                  exact ⟨by omega, by unfold nameB; rw [hl.2]; rfl⟩
                have HNT := Lib.hid hns
                clear hns hl hD
                go_wp2_with fail
                refine (hL _).mono ?_
                rintro e w3 ⟨rfl, hw3⟩
                have hw23 := Kit.Below.then hw2 hw3
                clear c0 c1 c2 c3 c4
                obtain ⟨c0, c1, c2, c3, c4⟩ := HCE.out _ hw23
                go_wp2_with fail
                refine (hH _).mono ?_
                rintro e w4 ⟨rfl, hw4⟩
                have hw24 := Kit.Below.then hw23 hw4
                have hb4 := Kit.Below.then hbt hw24
                have B4 := HBN.out _ hw24
                have n0 : w4.cell? ⟨w.heap.size, 0, none⟩ = some (.int .i64 0) := B4.cell 0
                have n1 : w4.cell? ⟨w.heap.size, 1, none⟩ = some (.int .i64 0) := B4.cell 1
                have n2 : w4.cell? ⟨w.heap.size, 2, none⟩ = some (.int .i64 0) := B4.cell 2
                have nz := fun i => B4.frozen i
                clear c0 c1 c2 c3 c4 hH hL hsix B4
                go_wp2_with fail
                refine bodyPost_ret (v := .tuple #[.int .u64 0, .int .i64 j, .agg #[.int .i64 20, .int .i64 ln, .int .i64 cl]]) (by simp [results, Tryd.results26, go_sem, n0, n1, n2]) rfl ⟨?_, .inl ⟨ln, cl, j, HNT.out, rfl⟩⟩
                repeat (first | with_reducible exact hb4 | with_reducible refine Kit.Below.setN ?_ (Nat.le_refl _) _)
              | false =>
                rw [hl] at hL
                cases hdg : decide ((0 : Int) < (d : Int)) && digB r with
                | true =>
                  rw [hdg] at hD
                  have hns : numS (stn ⟨l, 1, 1⟩ k) = .error (ln, cl) := by
                    rw [HNS.out, if_pos]
                    simp only [Bool.and_eq_true, decide_eq_true_eq] at hdg
                    exact ⟨by omega, by unfold nameB; rw [hdg.2, Bool.or_true]⟩
                  have HNT := Lib.hid hns
                  clear hns hl hdg
                  go_wp2_with fail
                  refine (hL _).mono ?_
                  rintro e w3 ⟨rfl, hw3⟩
                  have hw23 := Kit.Below.then hw2 hw3
                  clear c0 c1 c2 c3 c4
                  obtain ⟨c0, c1, c2, c3, c4⟩ := HCE.out _ hw23
                  go_wp2_with fail
                  refine (hD _).mono ?_
                  rintro e w4 ⟨rfl, hw4⟩
                  have hw24 := Kit.Below.then hw23 hw4
                  clear c0 c1 c2 c3 c4
                  obtain ⟨c0, c1, c2, c3, c4⟩ := HCE.out _ hw24
                  go_wp2_with fail
                  refine (hH _).mono ?_
                  rintro e w5 ⟨rfl, hw5⟩
                  have hw25 := Kit.Below.then hw24 hw5
                  have hb5 := Kit.Below.then hbt hw25
                  have B5 := HBN.out _ hw25
                  have n0 : w5.cell? ⟨w.heap.size, 0, none⟩ = some (.int .i64 0) := B5.cell 0
                  have n1 : w5.cell? ⟨w.heap.size, 1, none⟩ = some (.int .i64 0) := B5.cell 1
                  have n2 : w5.cell? ⟨w.heap.size, 2, none⟩ = some (.int .i64 0) := B5.cell 2
                  have nz := fun i => B5.frozen i
                  clear c0 c1 c2 c3 c4 hH hL hD hsix B5
                  go_wp2_with fail
                  refine bodyPost_ret (v := .tuple #[.int .u64 0, .int .i64 j, .agg #[.int .i64 20, .int .i64 ln, .int .i64 cl]]) (by simp [results, Tryd.results26, go_sem, n0, n1, n2]) rfl ⟨?_, .inl ⟨ln, cl, j, HNT.out, rfl⟩⟩
                  repeat (first | with_reducible exact hb5 | with_reducible refine Kit.Below.setN ?_ (Nat.le_refl _) _)
                | false =>
                  rw [hdg] at hD
                  have hns : numS (stn ⟨l, 1, 1⟩ k) = .ok (v, stn ⟨l, 1, 1⟩ j) := by
                    rw [HNS.out, if_neg]
                    rintro ⟨h1, h2⟩
                    rw [decide_eq_true (show (0 : Int) < (d : Int) by omega), Bool.true_and] at hl hdg
                    unfold nameB at h2
                    rw [hl, hdg] at h2
                    cases h2
                  have HNT := Lib.hid hns
                  clear hns hl hdg
                  go_wp2_with fail
                  refine (hL _).mono ?_
                  rintro e w3 ⟨rfl, hw3⟩
                  have hw23 := Kit.Below.then hw2 hw3
                  clear c0 c1 c2 c3 c4
                  obtain ⟨c0, c1, c2, c3, c4⟩ := HCE.out _ hw23
                  go_wp2_with fail
                  refine (hD _).mono ?_
                  rintro e w4 ⟨rfl, hw4⟩
                  have hw24 := Kit.Below.then hw23 hw4
                  have hb4 := Kit.Below.then hbt hw24
                  have B4 := HBN.out _ hw24
                  have n0 : w4.cell? ⟨w.heap.size, 0, none⟩ = some (.int .i64 0) := B4.cell 0
                  have n1 : w4.cell? ⟨w.heap.size, 1, none⟩ = some (.int .i64 0) := B4.cell 1
                  have n2 : w4.cell? ⟨w.heap.size, 2, none⟩ = some (.int .i64 0) := B4.cell 2
                  have nz := fun i => B4.frozen i
                  clear c0 c1 c2 c3 c4 hH hL hD hsix B4
                  go_wp2_with fail
                  refine bodyPost_ret (v := .tuple #[.int .u64 v, .int .i64 j, .agg #[.int .i64 0, .int .i64 0, .int .i64 0]]) (by simp [results, Tryd.results26, go_sem, n0, n1, n2]) rfl ⟨?_, .inr ⟨v, j, HNT.out, hjk, hj, hv, rfl⟩⟩
                  repeat (first | with_reducible exact hb4 | with_reducible refine Kit.Below.setN ?_ (Nat.le_refl _) _)
      · have hd1' : ¬ ((0 : Int) < ((dec (stn ⟨l, 1, 1⟩ (k + 1)).rest).2 : Nat)) := by omega
        clear hhex h48
        generalize (dec (stn ⟨l, 1, 1⟩ (k + 1)).rest).2 = dd at *
        generalize (dec (stn ⟨l, 1, 1⟩ (k + 1)).rest).1 = rr at *
        go_enter Tryd.func26, Tryd.ntmps26
        go_wp2_with fail
        generalize w.alloc (.cells #[.int .i64 0, .int .i64 0, .int .i64 0] 38) = wc at *
        go_loopg [1, 9, 10] (K - (k)) (fun m sk sv sg wr => RNumRel l K (k) 10 digB s1 want wc m sk sv sg wr)
        case atStart => exact ⟨k, 0, false, rfl, rfl, rfl, Below.refl _ _, Nat.le_refl _, by omega, by decide, rfl, HS1.out, (fun h => by cases h), fun _ => HW.out⟩
        case round =>
          obtain ⟨j, v, gb, rfl, rfl, rfl, hbw, hkj, hj, hv, hm, hw, ht, hf⟩ := hrel
          have hRr := HRc.out.below hbw
          have hbt := Kit.Below.then hbc hbw
          have HBr := Lib.hid (HBc.out.below' hbw)
          have hce := fun w' (hw' : Below wr.heap.size wr w') => (hRr.below hw').2 j (by omega)
          have hsix := fun w => rsix_any (stn ⟨l, 1, 1⟩ j) (l.length - (stn ⟨l, 1, 1⟩ j).rest.length) w
          have hgo := goes_sixN (base := 10) (is := digB) HBI.out (stn ⟨l, 1, 1⟩ j)
          have hval := fun h => val_sixN (base := 10) (is := digB) HBI.out (s := stn ⟨l, 1, 1⟩ j) h hw v
          have hle := sixN_le (stn ⟨l, 1, 1⟩ j)
          have hend : St.goes digB (stn ⟨l, 1, 1⟩ j) = true → j < K := by
            intro h
            rcases Nat.lt_or_ge j K with h1 | h1
            · exact h1
            · have : j = K := by omega
              subst this
              simp only [St.goes, Bool.and_eq_true, decide_eq_true_eq] at h
              rw [HCR.out.2, dec_nil] at h
              cases h.1
          have b1 : (0 : Int) ≤ (j : Int) := by omega
          have b2 : (j : Int) < (K : Int) + 1 := by omega
          have hg := hRr.1
          have HWH := Lib.hid hw
          have HGO := Lib.hid hgo
          have HVAL := Lib.hid hval
          have HEND := Lib.hid hend
          have HM := Lib.hid hm
          have HT := Lib.hid ht
          have HF := Lib.hid hf
          obtain ⟨c0, c1, c2, c3, c4⟩ := hce _ (Below.refl _ _)
          have HCE := Lib.hid hce
          clear hw hgo hval hend hm ht hf hce hRr
          generalize sixN (stn ⟨l, 1, 1⟩ j) = x at *
          by_cases hx : x < 10
          · have hx1 : (x : Int) < 10 := by omega
            have hgy : St.goes digB (stn ⟨l, 1, 1⟩ j) = true := by rw [HGO.out, decide_eq_true hx]
            have hjK := HEND.out hgy
            have hvn := HVAL.out hgy
            have HNX : Hid ((stn ⟨l, 1, 1⟩ (j + 1)).while digB = s1) := by have h := HWH.out; rw [while_yes hgy] at h; exact h
            have HVN := Lib.hid hvn
            clear hgy hvn
            generalize (dec (stn ⟨l, 1, 1⟩ j).rest).1 = r at *
            generalize (dec (stn ⟨l, 1, 1⟩ j).rest).2 = d at *
            generalize (stn ⟨l, 1, 1⟩ j).line = ln at *
            generalize (stn ⟨l, 1, 1⟩ j).col = cl at *
            generalize l.length - (stn ⟨l, 1, 1⟩ j).rest.length = at0 at *
            cases gb with
            | true =>
              go_wp2_with fail
              refine (hsix _).mono ?_
              rintro e w2 ⟨rfl, hw2⟩
              clear c0 c1 c2 c3 c4
              obtain ⟨c0, c1, c2, c3, c4⟩ := HCE.out _ hw2
              go_wp2_with fail
              refine (hsix _).mono ?_
              rintro e w3 ⟨rfl, hw3⟩
              have hb3 := Kit.Below.then (Kit.Below.then hbw hw2) hw3
              clear c0 c1 c2 c3 c4 hsix
              go_wp2_with fail
              obtain ⟨v2, hv2, hlt2⟩ := wrap_nat (IntKind.u64.wrap ((v : Int) * 10) + (x : Int))
              go_roundg (K - (j + 1))
              case measure => have := HM.out; omega
              case rel => exact ⟨j + 1, v2, true, rfl, congrArg (Value.int .u64) hv2, rfl, hb3, by omega, by omega, hlt2, rfl, HNX.out, fun _ => HT.out (by simp), fun h => by cases h⟩
            | false =>
              go_wp2_with fail
              refine (hsix _).mono ?_
              rintro e w2 ⟨rfl, hw2⟩
              clear c0 c1 c2 c3 c4
              obtain ⟨c0, c1, c2, c3, c4⟩ := HCE.out _ hw2
              go_wp2_with fail
              refine (hsix _).mono ?_
              rintro e w3 ⟨rfl, hw3⟩
              have hb3 := Kit.Below.then (Kit.Below.then hbw hw2) hw3
              clear c0 c1 c2 c3 c4 hsix
              go_wp2_with fail
              obtain ⟨v2, hv2, hlt2⟩ := wrap_nat (IntKind.u64.wrap ((v : Int) * 10) + (x : Int))
              go_roundg (K - (j + 1))
              case measure => have := HM.out; omega
              case rel =>
                refine ⟨j + 1, v2, decide ((18446744073709551615 - (x : Int)) / 10 < (v : Int)), rfl, congrArg (Value.int .u64) hv2, rfl, hb3, by omega, by omega, hlt2, rfl, HNX.out, fun h => ?_, fun h => ?_⟩
                · have h2 := (great_int v x 10 (by decide) (by omega)).1 (of_decide_eq_true h)
                  rw [HF.out (by simp), HVN.out, if_neg h2]
                · have h2 : v * 10 + x < 18446744073709551616 := by
                    have h3 := of_decide_eq_false h
                    have h4 := great_int v x 10 (by decide) (by omega)
                    rcases Nat.lt_or_ge (v * 10 + x) 18446744073709551616 with h5 | h5
                    · exact h5
                    · exact absurd (h4.2 (by omega)) h3
                  have h6 := wrap_fits v 10 x h2
                  have h7 : v2 = v * 10 + x := Int.ofNat.inj (hv2.symm.trans h6)
                  rw [HF.out (by simp), HVN.out, if_pos h2, h7]
                  rfl
          · have hx1 : ¬ ((x : Int) < 10) := by omega
            have hgn : St.goes digB (stn ⟨l, 1, 1⟩ j) = false := by rw [HGO.out, decide_eq_false hx]
            have hs1 : stn ⟨l, 1, 1⟩ j = s1 := by have h := HWH.out; rwa [while_no hgn] at h
            subst hs1
            clear hgn
            have hL := fun w => rletter_any (dec (stn ⟨l, 1, 1⟩ j).rest).1 (l.length - (stn ⟨l, 1, 1⟩ j).rest.length : Nat) (dec (stn ⟨l, 1, 1⟩ j).rest).2 (stn ⟨l, 1, 1⟩ j).line (stn ⟨l, 1, 1⟩ j).col w
            have hD := fun w => rdigit_any (dec (stn ⟨l, 1, 1⟩ j).rest).1 (l.length - (stn ⟨l, 1, 1⟩ j).rest.length : Nat) (dec (stn ⟨l, 1, 1⟩ j).rest).2 (stn ⟨l, 1, 1⟩ j).line (stn ⟨l, 1, 1⟩ j).col w
            have hH := fun w => here_any (dec (stn ⟨l, 1, 1⟩ j).rest).1 (l.length - (stn ⟨l, 1, 1⟩ j).rest.length : Nat) (dec (stn ⟨l, 1, 1⟩ j).rest).2 (stn ⟨l, 1, 1⟩ j).line (stn ⟨l, 1, 1⟩ j).col w
            have hHk := fun w => here_any (dec (stn ⟨l, 1, 1⟩ k).rest).1 (l.length - (stn ⟨l, 1, 1⟩ k).rest.length : Nat) (dec (stn ⟨l, 1, 1⟩ k).rest).2 (stn ⟨l, 1, 1⟩ k).line (stn ⟨l, 1, 1⟩ k).col w
            have hck := fun w' (hw' : Below wr.heap.size wr w') => (HRc.out.below (Kit.Below.then hbw hw')).2 k (by omega)
            unfold runeV at hL hD hH hHk
            have hbn := fun w' (hw' : Below wr.heap.size wr w') => HBr.out.below' hw'
            have HBN := Lib.hid hbn
            have HCK := Lib.hid hck
            clear hck hbn
            cases gb with
            | true =>
              have hns : numS (stn ⟨l, 1, 1⟩ k) = .error ((stn ⟨l, 1, 1⟩ k).line, (stn ⟨l, 1, 1⟩ k).col) := by rw [HN.out, HT.out (by simp)]
              have HNS := Lib.hid hns
              clear hns hL hD hH
              generalize (stn ⟨l, 1, 1⟩ k).line = kln at *
              generalize (stn ⟨l, 1, 1⟩ k).col = kcl at *
              go_wp2_with fail
              refine (hsix _).mono ?_
              rintro e w2 ⟨rfl, hw2⟩
              clear c0 c1 c2 c3 c4
              obtain ⟨c0, c1, c2, c3, c4⟩ := HCK.out _ hw2
              go_wp2_with fail
              refine (hHk _).mono ?_
              rintro e w3 ⟨rfl, hw3⟩
              have hw23 := Kit.Below.then hw2 hw3
              have hb3 := Kit.Below.then hbt hw23
              have B3 := HBN.out _ hw23
              have n0 : w3.cell? ⟨w.heap.size, 0, none⟩ = some (.int .i64 0) := B3.cell 0
              have n1 : w3.cell? ⟨w.heap.size, 1, none⟩ = some (.int .i64 0) := B3.cell 1
              have n2 : w3.cell? ⟨w.heap.size, 2, none⟩ = some (.int .i64 0) := B3.cell 2
              have nz := fun i => B3.frozen i
              clear c0 c1 c2 c3 c4 hHk hsix B3
              go_wp2_with fail
              refine bodyPost_ret (v := .tuple #[.int .u64 0, .int .i64 j, .agg #[.int .i64 20, .int .i64 kln, .int .i64 kcl]]) (by simp [results, Tryd.results26, go_sem, n0, n1, n2]) rfl ⟨?_, .inl ⟨kln, kcl, j, HNS.out, rfl⟩⟩
              repeat (first | with_reducible exact hb3 | with_reducible refine Kit.Below.setN ?_ (Nat.le_refl _) _)
            | false =>
              have hwant : want = some v := by
                rw [HF.out (by simp)]
                simp [upTo, valS]
              have hns : numS (stn ⟨l, 1, 1⟩ k) = if 0 < (dec (stn ⟨l, 1, 1⟩ j).rest).2 ∧ nameB (dec (stn ⟨l, 1, 1⟩ j).rest).1 = true then .error ((stn ⟨l, 1, 1⟩ j).line, (stn ⟨l, 1, 1⟩ j).col) else .ok (v, stn ⟨l, 1, 1⟩ j) := by rw [HN.out, hwant]
              have HNS := Lib.hid hns
              have hjk : k < j := HJK.out j hkj (by rw [HGO.out, decide_eq_false hx])
              clear hns hwant hHk
              generalize (dec (stn ⟨l, 1, 1⟩ j).rest).1 = r at *
              generalize (dec (stn ⟨l, 1, 1⟩ j).rest).2 = d at *
              generalize (stn ⟨l, 1, 1⟩ j).line = ln at *
              generalize (stn ⟨l, 1, 1⟩ j).col = cl at *
              generalize l.length - (stn ⟨l, 1, 1⟩ j).rest.length = at0 at *
              go_wp2_with fail
              refine (hsix _).mono ?_
              rintro e w2 ⟨rfl, hw2⟩
              clear c0 c1 c2 c3 c4
              obtain ⟨c0, c1, c2, c3, c4⟩ := HCE.out _ hw2
              cases hl : decide ((0 : Int) < (d : Int)) && letB r with
              | true =>
                rw [hl] at hL
                have hns : numS (stn ⟨l, 1, 1⟩ k) = .error (ln, cl) := by
                  rw [HNS.out, if_pos]
                  simp only [Bool.and_eq_true, decide_eq_true_eq] at hl
                  exact ⟨by omega, by unfold nameB; rw [hl.2]; rfl⟩
                have HNT := Lib.hid hns
                clear hns hl hD
                go_wp2_with fail
                refine (hL _).mono ?_
                rintro e w3 ⟨rfl, hw3⟩
                have hw23 := Kit.Below.then hw2 hw3
                clear c0 c1 c2 c3 c4
                obtain ⟨c0, c1, c2, c3, c4⟩ := HCE.out _ hw23
                go_wp2_with fail
                refine (hH _).mono ?_
                rintro e w4 ⟨rfl, hw4⟩
                have hw24 := Kit.Below.then hw23 hw4
                have hb4 := Kit.Below.then hbt hw24
                have B4 := HBN.out _ hw24
                have n0 : w4.cell? ⟨w.heap.size, 0, none⟩ = some (.int .i64 0) := B4.cell 0
                have n1 : w4.cell? ⟨w.heap.size, 1, none⟩ = some (.int .i64 0) := B4.cell 1
                have n2 : w4.cell? ⟨w.heap.size, 2, none⟩ = some (.int .i64 0) := B4.cell 2
                have nz := fun i => B4.frozen i
                clear c0 c1 c2 c3 c4 hH hL hsix B4
                go_wp2_with fail
                refine bodyPost_ret (v := .tuple #[.int .u64 0, .int .i64 j, .agg #[.int .i64 20, .int .i64 ln, .int .i64 cl]]) (by simp [results, Tryd.results26, go_sem, n0, n1, n2]) rfl ⟨?_, .inl ⟨ln, cl, j, HNT.out, rfl⟩⟩
                repeat (first | with_reducible exact hb4 | with_reducible refine Kit.Below.setN ?_ (Nat.le_refl _) _)
              | false =>
                rw [hl] at hL
                cases hdg : decide ((0 : Int) < (d : Int)) && digB r with
                | true =>
                  rw [hdg] at hD
                  have hns : numS (stn ⟨l, 1, 1⟩ k) = .error (ln, cl) := by
                    rw [HNS.out, if_pos]
                    simp only [Bool.and_eq_true, decide_eq_true_eq] at hdg
                    exact ⟨by omega, by unfold nameB; rw [hdg.2, Bool.or_true]⟩
                  have HNT := Lib.hid hns
                  clear hns hl hdg
                  go_wp2_with fail
                  refine (hL _).mono ?_
                  rintro e w3 ⟨rfl, hw3⟩
                  have hw23 := Kit.Below.then hw2 hw3
                  clear c0 c1 c2 c3 c4
                  obtain ⟨c0, c1, c2, c3, c4⟩ := HCE.out _ hw23
                  go_wp2_with fail
                  refine (hD _).mono ?_
                  rintro e w4 ⟨rfl, hw4⟩
                  have hw24 := Kit.Below.then hw23 hw4
                  clear c0 c1 c2 c3 c4
                  obtain ⟨c0, c1, c2, c3, c4⟩ := HCE.out _ hw24
                  go_wp2_with fail
                  refine (hH _).mono ?_
                  rintro e w5 ⟨rfl, hw5⟩
                  have hw25 := Kit.Below.then hw24 hw5
                  have hb5 := Kit.Below.then hbt hw25
                  have B5 := HBN.out _ hw25
                  have n0 : w5.cell? ⟨w.heap.size, 0, none⟩ = some (.int .i64 0) := B5.cell 0
                  have n1 : w5.cell? ⟨w.heap.size, 1, none⟩ = some (.int .i64 0) := B5.cell 1
                  have n2 : w5.cell? ⟨w.heap.size, 2, none⟩ = some (.int .i64 0) := B5.cell 2
                  have nz := fun i => B5.frozen i
                  clear c0 c1 c2 c3 c4 hH hL hD hsix B5
                  go_wp2_with fail
                  refine bodyPost_ret (v := .tuple #[.int .u64 0, .int .i64 j, .agg #[.int .i64 20, .int .i64 ln, .int .i64 cl]]) (by simp [results, Tryd.results26, go_sem, n0, n1, n2]) rfl ⟨?_, .inl ⟨ln, cl, j, HNT.out, rfl⟩⟩
                  repeat (first | with_reducible exact hb5 | with_reducible refine Kit.Below.setN ?_ (Nat.le_refl _) _)
                | false =>
                  rw [hdg] at hD
                  have hns : numS (stn ⟨l, 1, 1⟩ k) = .ok (v, stn ⟨l, 1, 1⟩ j) := by
                    rw [HNS.out, if_neg]
                    rintro ⟨h1, h2⟩
                    rw [decide_eq_true (show (0 : Int) < (d : Int) by omega), Bool.true_and] at hl hdg
                    unfold nameB at h2
                    rw [hl, hdg] at h2
                    cases h2
                  have HNT := Lib.hid hns
                  clear hns hl hdg
                  go_wp2_with fail
                  refine (hL _).mono ?_
                  rintro e w3 ⟨rfl, hw3⟩
                  have hw23 := Kit.Below.then hw2 hw3
                  clear c0 c1 c2 c3 c4
                  obtain ⟨c0, c1, c2, c3, c4⟩ := HCE.out _ hw23
                  go_wp2_with fail
                  refine (hD _).mono ?_
                  rintro e w4 ⟨rfl, hw4⟩
                  have hw24 := Kit.Below.then hw23 hw4
                  have hb4 := Kit.Below.then hbt hw24
                  have B4 := HBN.out _ hw24
                  have n0 : w4.cell? ⟨w.heap.size, 0, none⟩ = some (.int .i64 0) := B4.cell 0
                  have n1 : w4.cell? ⟨w.heap.size, 1, none⟩ = some (.int .i64 0) := B4.cell 1
                  have n2 : w4.cell? ⟨w.heap.size, 2, none⟩ = some (.int .i64 0) := B4.cell 2
                  have nz := fun i => B4.frozen i
                  clear c0 c1 c2 c3 c4 hH hL hD hsix B4
                  go_wp2_with fail
                  refine bodyPost_ret (v := .tuple #[.int .u64 v, .int .i64 j, .agg #[.int .i64 0, .int .i64 0, .int .i64 0]]) (by simp [results, Tryd.results26, go_sem, n0, n1, n2]) rfl ⟨?_, .inr ⟨v, j, HNT.out, hjk, hj, hv, rfl⟩⟩
                  repeat (first | with_reducible exact hb4 | with_reducible refine Kit.Below.setN ?_ (Nat.le_refl _) _)
    · clear hhex d0 d2
      generalize hr0 : (dec (stn ⟨l, 1, 1⟩ k).rest).1 = rr at c0 h48
      clear hr0
      have q1 : (rr == 48) = false := by simpa using h48
      go_enter Tryd.func26, Tryd.ntmps26
      go_wp2_with fail
      generalize w.alloc (.cells #[.int .i64 0, .int .i64 0, .int .i64 0] 38) = wc at *
      go_loopg [1, 9, 10] (K - (k)) (fun m sk sv sg wr => RNumRel l K (k) 10 digB s1 want wc m sk sv sg wr)
      case atStart => exact ⟨k, 0, false, rfl, rfl, rfl, Below.refl _ _, Nat.le_refl _, by omega, by decide, rfl, HS1.out, (fun h => by cases h), fun _ => HW.out⟩
      case round =>
        obtain ⟨j, v, gb, rfl, rfl, rfl, hbw, hkj, hj, hv, hm, hw, ht, hf⟩ := hrel
        have hRr := HRc.out.below hbw
        have hbt := Kit.Below.then hbc hbw
        have HBr := Lib.hid (HBc.out.below' hbw)
        have hce := fun w' (hw' : Below wr.heap.size wr w') => (hRr.below hw').2 j (by omega)
        have hsix := fun w => rsix_any (stn ⟨l, 1, 1⟩ j) (l.length - (stn ⟨l, 1, 1⟩ j).rest.length) w
        have hgo := goes_sixN (base := 10) (is := digB) HBI.out (stn ⟨l, 1, 1⟩ j)
        have hval := fun h => val_sixN (base := 10) (is := digB) HBI.out (s := stn ⟨l, 1, 1⟩ j) h hw v
        have hle := sixN_le (stn ⟨l, 1, 1⟩ j)
        have hend : St.goes digB (stn ⟨l, 1, 1⟩ j) = true → j < K := by
          intro h
          rcases Nat.lt_or_ge j K with h1 | h1
          · exact h1
          · have : j = K := by omega
            subst this
            simp only [St.goes, Bool.and_eq_true, decide_eq_true_eq] at h
            rw [HCR.out.2, dec_nil] at h
            cases h.1
        have b1 : (0 : Int) ≤ (j : Int) := by omega
        have b2 : (j : Int) < (K : Int) + 1 := by omega
        have hg := hRr.1
        have HWH := Lib.hid hw
        have HGO := Lib.hid hgo
        have HVAL := Lib.hid hval
        have HEND := Lib.hid hend
        have HM := Lib.hid hm
        have HT := Lib.hid ht
        have HF := Lib.hid hf
        obtain ⟨c0, c1, c2, c3, c4⟩ := hce _ (Below.refl _ _)
        have HCE := Lib.hid hce
        clear hw hgo hval hend hm ht hf hce hRr
        generalize sixN (stn ⟨l, 1, 1⟩ j) = x at *
        by_cases hx : x < 10
        · have hx1 : (x : Int) < 10 := by omega
          have hgy : St.goes digB (stn ⟨l, 1, 1⟩ j) = true := by rw [HGO.out, decide_eq_true hx]
          have hjK := HEND.out hgy
          have hvn := HVAL.out hgy
          have HNX : Hid ((stn ⟨l, 1, 1⟩ (j + 1)).while digB = s1) := by have h := HWH.out; rw [while_yes hgy] at h; exact h
          have HVN := Lib.hid hvn
          clear hgy hvn
          generalize (dec (stn ⟨l, 1, 1⟩ j).rest).1 = r at *
          generalize (dec (stn ⟨l, 1, 1⟩ j).rest).2 = d at *
          generalize (stn ⟨l, 1, 1⟩ j).line = ln at *
          generalize (stn ⟨l, 1, 1⟩ j).col = cl at *
          generalize l.length - (stn ⟨l, 1, 1⟩ j).rest.length = at0 at *
          cases gb with
          | true =>
            go_wp2_with fail
            refine (hsix _).mono ?_
            rintro e w2 ⟨rfl, hw2⟩
            clear c0 c1 c2 c3 c4
            obtain ⟨c0, c1, c2, c3, c4⟩ := HCE.out _ hw2
            go_wp2_with fail
            refine (hsix _).mono ?_
            rintro e w3 ⟨rfl, hw3⟩
            have hb3 := Kit.Below.then (Kit.Below.then hbw hw2) hw3
            clear c0 c1 c2 c3 c4 hsix
            go_wp2_with fail
            obtain ⟨v2, hv2, hlt2⟩ := wrap_nat (IntKind.u64.wrap ((v : Int) * 10) + (x : Int))
            go_roundg (K - (j + 1))
            case measure => have := HM.out; omega
            case rel => exact ⟨j + 1, v2, true, rfl, congrArg (Value.int .u64) hv2, rfl, hb3, by omega, by omega, hlt2, rfl, HNX.out, fun _ => HT.out (by simp), fun h => by cases h⟩
          | false =>
            go_wp2_with fail
            refine (hsix _).mono ?_
            rintro e w2 ⟨rfl, hw2⟩
            clear c0 c1 c2 c3 c4
            obtain ⟨c0, c1, c2, c3, c4⟩ := HCE.out _ hw2
            go_wp2_with fail
            refine (hsix _).mono ?_
            rintro e w3 ⟨rfl, hw3⟩
            have hb3 := Kit.Below.then (Kit.Below.then hbw hw2) hw3
            clear c0 c1 c2 c3 c4 hsix
            go_wp2_with fail
            obtain ⟨v2, hv2, hlt2⟩ := wrap_nat (IntKind.u64.wrap ((v : Int) * 10) + (x : Int))
            go_roundg (K - (j + 1))
            case measure => have := HM.out; omega
            case rel =>
              refine ⟨j + 1, v2, decide ((18446744073709551615 - (x : Int)) / 10 < (v : Int)), rfl, congrArg (Value.int .u64) hv2, rfl, hb3, by omega, by omega, hlt2, rfl, HNX.out, fun h => ?_, fun h => ?_⟩
              · have h2 := (great_int v x 10 (by decide) (by omega)).1 (of_decide_eq_true h)
                rw [HF.out (by simp), HVN.out, if_neg h2]
              · have h2 : v * 10 + x < 18446744073709551616 := by
                  have h3 := of_decide_eq_false h
                  have h4 := great_int v x 10 (by decide) (by omega)
                  rcases Nat.lt_or_ge (v * 10 + x) 18446744073709551616 with h5 | h5
                  · exact h5
                  · exact absurd (h4.2 (by omega)) h3
                have h6 := wrap_fits v 10 x h2
                have h7 : v2 = v * 10 + x := Int.ofNat.inj (hv2.symm.trans h6)
                rw [HF.out (by simp), HVN.out, if_pos h2, h7]
                rfl
        · have hx1 : ¬ ((x : Int) < 10) := by omega
          have hgn : St.goes digB (stn ⟨l, 1, 1⟩ j) = false := by rw [HGO.out, decide_eq_false hx]
          have hs1 : stn ⟨l, 1, 1⟩ j = s1 := by have h := HWH.out; rwa [while_no hgn] at h
          subst hs1
          clear hgn
          have hL := fun w => rletter_any (dec (stn ⟨l, 1, 1⟩ j).rest).1 (l.length - (stn ⟨l, 1, 1⟩ j).rest.length : Nat) (dec (stn ⟨l, 1, 1⟩ j).rest).2 (stn ⟨l, 1, 1⟩ j).line (stn ⟨l, 1, 1⟩ j).col w
          have hD := fun w => rdigit_any (dec (stn ⟨l, 1, 1⟩ j).rest).1 (l.length - (stn ⟨l, 1, 1⟩ j).rest.length : Nat) (dec (stn ⟨l, 1, 1⟩ j).rest).2 (stn ⟨l, 1, 1⟩ j).line (stn ⟨l, 1, 1⟩ j).col w
          have hH := fun w => here_any (dec (stn ⟨l, 1, 1⟩ j).rest).1 (l.length - (stn ⟨l, 1, 1⟩ j).rest.length : Nat) (dec (stn ⟨l, 1, 1⟩ j).rest).2 (stn ⟨l, 1, 1⟩ j).line (stn ⟨l, 1, 1⟩ j).col w
          have hHk := fun w => here_any (dec (stn ⟨l, 1, 1⟩ k).rest).1 (l.length - (stn ⟨l, 1, 1⟩ k).rest.length : Nat) (dec (stn ⟨l, 1, 1⟩ k).rest).2 (stn ⟨l, 1, 1⟩ k).line (stn ⟨l, 1, 1⟩ k).col w
          have hck := fun w' (hw' : Below wr.heap.size wr w') => (HRc.out.below (Kit.Below.then hbw hw')).2 k (by omega)
          unfold runeV at hL hD hH hHk
          have hbn := fun w' (hw' : Below wr.heap.size wr w') => HBr.out.below' hw'
          have HBN := Lib.hid hbn
          have HCK := Lib.hid hck
          clear hck hbn
          cases gb with
          | true =>
            have hns : numS (stn ⟨l, 1, 1⟩ k) = .error ((stn ⟨l, 1, 1⟩ k).line, (stn ⟨l, 1, 1⟩ k).col) := by rw [HN.out, HT.out (by simp)]
            have HNS := Lib.hid hns
            clear hns hL hD hH
            generalize (stn ⟨l, 1, 1⟩ k).line = kln at *
            generalize (stn ⟨l, 1, 1⟩ k).col = kcl at *
            go_wp2_with fail
            refine (hsix _).mono ?_
            rintro e w2 ⟨rfl, hw2⟩
            clear c0 c1 c2 c3 c4
            obtain ⟨c0, c1, c2, c3, c4⟩ := HCK.out _ hw2
            go_wp2_with fail
            refine (hHk _).mono ?_
            rintro e w3 ⟨rfl, hw3⟩
            have hw23 := Kit.Below.then hw2 hw3
            have hb3 := Kit.Below.then hbt hw23
            have B3 := HBN.out _ hw23
            have n0 : w3.cell? ⟨w.heap.size, 0, none⟩ = some (.int .i64 0) := B3.cell 0
            have n1 : w3.cell? ⟨w.heap.size, 1, none⟩ = some (.int .i64 0) := B3.cell 1
            have n2 : w3.cell? ⟨w.heap.size, 2, none⟩ = some (.int .i64 0) := B3.cell 2
            have nz := fun i => B3.frozen i
            clear c0 c1 c2 c3 c4 hHk hsix B3
            go_wp2_with fail
            refine bodyPost_ret (v := .tuple #[.int .u64 0, .int .i64 j, .agg #[.int .i64 20, .int .i64 kln, .int .i64 kcl]]) (by simp [results, Tryd.results26, go_sem, n0, n1, n2]) rfl ⟨?_, .inl ⟨kln, kcl, j, HNS.out, rfl⟩⟩
            repeat (first | with_reducible exact hb3 | with_reducible refine Kit.Below.setN ?_ (Nat.le_refl _) _)
          | false =>
            have hwant : want = some v := by
              rw [HF.out (by simp)]
              simp [upTo, valS]
            have hns : numS (stn ⟨l, 1, 1⟩ k) = if 0 < (dec (stn ⟨l, 1, 1⟩ j).rest).2 ∧ nameB (dec (stn ⟨l, 1, 1⟩ j).rest).1 = true then .error ((stn ⟨l, 1, 1⟩ j).line, (stn ⟨l, 1, 1⟩ j).col) else .ok (v, stn ⟨l, 1, 1⟩ j) := by rw [HN.out, hwant]
            have HNS := Lib.hid hns
            have hjk : k < j := HJK.out j hkj (by rw [HGO.out, decide_eq_false hx])
            clear hns hwant hHk
            generalize (dec (stn ⟨l, 1, 1⟩ j).rest).1 = r at *
            generalize (dec (stn ⟨l, 1, 1⟩ j).rest).2 = d at *
            generalize (stn ⟨l, 1, 1⟩ j).line = ln at *
            generalize (stn ⟨l, 1, 1⟩ j).col = cl at *
            generalize l.length - (stn ⟨l, 1, 1⟩ j).rest.length = at0 at *
            go_wp2_with fail
            refine (hsix _).mono ?_
            rintro e w2 ⟨rfl, hw2⟩
            clear c0 c1 c2 c3 c4
            obtain ⟨c0, c1, c2, c3, c4⟩ := HCE.out _ hw2
            cases hl : decide ((0 : Int) < (d : Int)) && letB r with
            | true =>
              rw [hl] at hL
              have hns : numS (stn ⟨l, 1, 1⟩ k) = .error (ln, cl) := by
                rw [HNS.out, if_pos]
                simp only [Bool.and_eq_true, decide_eq_true_eq] at hl
                exact ⟨by omega, by unfold nameB; rw [hl.2]; rfl⟩
              have HNT := Lib.hid hns
              clear hns hl hD
              go_wp2_with fail
              refine (hL _).mono ?_
              rintro e w3 ⟨rfl, hw3⟩
              have hw23 := Kit.Below.then hw2 hw3
              clear c0 c1 c2 c3 c4
              obtain ⟨c0, c1, c2, c3, c4⟩ := HCE.out _ hw23
              go_wp2_with fail
              refine (hH _).mono ?_
              rintro e w4 ⟨rfl, hw4⟩
              have hw24 := Kit.Below.then hw23 hw4
              have hb4 := Kit.Below.then hbt hw24
              have B4 := HBN.out _ hw24
              have n0 : w4.cell? ⟨w.heap.size, 0, none⟩ = some (.int .i64 0) := B4.cell 0
              have n1 : w4.cell? ⟨w.heap.size, 1, none⟩ = some (.int .i64 0) := B4.cell 1
              have n2 : w4.cell? ⟨w.heap.size, 2, none⟩ = some (.int .i64 0) := B4.cell 2
              have nz := fun i => B4.frozen i
              clear c0 c1 c2 c3 c4 hH hL hsix B4
              go_wp2_with fail
              refine bodyPost_ret (v := .tuple #[.int .u64 0, .int .i64 j, .agg #[.int .i64 20, .int .i64 ln, .int .i64 cl]]) (by simp [results, Tryd.results26, go_sem, n0, n1, n2]) rfl ⟨?_, .inl ⟨ln, cl, j, HNT.out, rfl⟩⟩
              repeat (first | with_reducible exact hb4 | with_reducible refine Kit.Below.setN ?_ (Nat.le_refl _) _)
            | false =>
              rw [hl] at hL
              cases hdg : decide ((0 : Int) < (d : Int)) && digB r with
              | true =>
                rw [hdg] at hD
                have hns : numS (stn ⟨l, 1, 1⟩ k) = .error (ln, cl) := by
                  rw [HNS.out, if_pos]
                  simp only [Bool.and_eq_true, decide_eq_true_eq] at hdg
                  exact ⟨by omega, by unfold nameB; rw [hdg.2, Bool.or_true]⟩
                have HNT := Lib.hid hns
                clear hns hl hdg
                go_wp2_with fail
                refine (hL _).mono ?_
                rintro e w3 ⟨rfl, hw3⟩
                have hw23 := Kit.Below.then hw2 hw3
                clear c0 c1 c2 c3 c4
                obtain ⟨c0, c1, c2, c3, c4⟩ := HCE.out _ hw23
                go_wp2_with fail
                refine (hD _).mono ?_
                rintro e w4 ⟨rfl, hw4⟩
                have hw24 := Kit.Below.then hw23 hw4
                clear c0 c1 c2 c3 c4
                obtain ⟨c0, c1, c2, c3, c4⟩ := HCE.out _ hw24
                go_wp2_with fail
                refine (hH _).mono ?_
                rintro e w5 ⟨rfl, hw5⟩
                have hw25 := Kit.Below.then hw24 hw5
                have hb5 := Kit.Below.then hbt hw25
                have B5 := HBN.out _ hw25
                have n0 : w5.cell? ⟨w.heap.size, 0, none⟩ = some (.int .i64 0) := B5.cell 0
                have n1 : w5.cell? ⟨w.heap.size, 1, none⟩ = some (.int .i64 0) := B5.cell 1
                have n2 : w5.cell? ⟨w.heap.size, 2, none⟩ = some (.int .i64 0) := B5.cell 2
                have nz := fun i => B5.frozen i
                clear c0 c1 c2 c3 c4 hH hL hD hsix B5
                go_wp2_with fail
                refine bodyPost_ret (v := .tuple #[.int .u64 0, .int .i64 j, .agg #[.int .i64 20, .int .i64 ln, .int .i64 cl]]) (by simp [results, Tryd.results26, go_sem, n0, n1, n2]) rfl ⟨?_, .inl ⟨ln, cl, j, HNT.out, rfl⟩⟩
                repeat (first | with_reducible exact hb5 | with_reducible refine Kit.Below.setN ?_ (Nat.le_refl _) _)
              | false =>
                rw [hdg] at hD
                have hns : numS (stn ⟨l, 1, 1⟩ k) = .ok (v, stn ⟨l, 1, 1⟩ j) := by
                  rw [HNS.out, if_neg]
                  rintro ⟨h1, h2⟩
                  rw [decide_eq_true (show (0 : Int) < (d : Int) by omega), Bool.true_and] at hl hdg
                  unfold nameB at h2
                  rw [hl, hdg] at h2
                  cases h2
                have HNT := Lib.hid hns
                clear hns hl hdg
                go_wp2_with fail
                refine (hL _).mono ?_
                rintro e w3 ⟨rfl, hw3⟩
                have hw23 := Kit.Below.then hw2 hw3
                clear c0 c1 c2 c3 c4
                obtain ⟨c0, c1, c2, c3, c4⟩ := HCE.out _ hw23
                go_wp2_with fail
                refine (hD _).mono ?_
                rintro e w4 ⟨rfl, hw4⟩
                have hw24 := Kit.Below.then hw23 hw4
                have hb4 := Kit.Below.then hbt hw24
                have B4 := HBN.out _ hw24
                have n0 : w4.cell? ⟨w.heap.size, 0, none⟩ = some (.int .i64 0) := B4.cell 0
                have n1 : w4.cell? ⟨w.heap.size, 1, none⟩ = some (.int .i64 0) := B4.cell 1
                have n2 : w4.cell? ⟨w.heap.size, 2, none⟩ = some (.int .i64 0) := B4.cell 2
                have nz := fun i => B4.frozen i
                clear c0 c1 c2 c3 c4 hH hL hD hsix B4
                go_wp2_with fail
                refine bodyPost_ret (v := .tuple #[.int .u64 v, .int .i64 j, .agg #[.int .i64 0, .int .i64 0, .int .i64 0]]) (by simp [results, Tryd.results26, go_sem, n0, n1, n2]) rfl ⟨?_, .inr ⟨v, j, HNT.out, hjk, hj, hv, rfl⟩⟩
                repeat (first | with_reducible exact hb4 | with_reducible refine Kit.Below.setN ?_ (Nat.le_refl _) _)
end Go.Proofs.YtpamnnllijkpfaaDoor.LexW
