/- WALKS: the law LexFirst. -/
import Derived.Test.YtpamnnllijkpfaaDoorMetaC
import Derived.Test.YtpamnnllijkpfaaDoorOwnB
import Derived.Test.YtpamnnllijkpfaaDoorRefR
namespace Go.Proofs.YtpamnnllijkpfaaDoor.LexW
open Go Go.RowKit Go.Proofs.YtpamnnllijkpfaaDoor.Kit Go.Proofs.YtpamnnllijkpfaaDoor.LexP

def FiRel (l : List UInt8) (ln : Nat) (W : World) (m : Nat) (s7 s8 s9 : Value) (wr : World) : Prop :=
  ∃ i line : Nat, s8 = .int .i64 line ∧ s9 = .int .i64 i ∧ i ≤ l.length ∧ m = l.length - i ∧ Below W.heap.size W wr ∧ Owns wr W.heap.size s7 (l.take i) ∧ line = 1 + (l.take i).count 10 ∧ line ≤ ln


set_option maxHeartbeats 2000000 in
set_option maxRecDepth 10000 in
theorem LexFirst_any (A A2 : Option Addr) (n c n2 c2 : Nat) (l l2 : List UInt8) (w : World) (hE : Env w) (hl : Bytes w A n l) (hl2 : Bytes w A2 n2 l2) :
    Calls Tryd.prog 8 #[.slice A n c, .slice A2 n2 c2] w fun e w' => e = .returned (.bool true) ∧ Below w.heap.size w w' := by
  obtain rfl := hl.1
  obtain rfl := hl2.1
  have HL := Lib.hid hl
  have HL2 := Lib.hid hl2
  clear hl hl2
  go_enter Tryd.func8, Tryd.ntmps8
  go_wp2_with fail
  refine (awake_any _ hE).mono ?_
  rintro e w1 ⟨rfl, h1⟩
  have hX := Lex_any A l.length c l w1 (hE.below h1) (HL.out.below h1)
  go_wp2_with fail
  refine hX.mono ?_
  clear hX
  rintro e w2 ⟨h2, hcase⟩
  have hb2 := Kit.Below.then h1 h2
  rcases hcase with ⟨q, ln, cl, hls, rfl⟩ | ⟨toks, v, hls, rfl, hown⟩
  · have hq := lexS_err hls
    rcases hq with rfl | rfl
    · by_cases hbig : 60000 < l.length
      · have b1 : (60000 : Int) < (l.length : Int) := by omega
        clear hls
        go_wp2_with fail
        go_ret
        exact ⟨rfl, Kit.Below.al hb2 _⟩
      · have b1 : ¬ ((60000 : Int) < (l.length : Int)) := by omega
        by_cases hbig2 : 5000 < l2.length
        · have b2 : (5000 : Int) < (l2.length : Int) := by omega
          clear hls
          go_wp2_with fail
          go_ret
          exact ⟨rfl, Kit.Below.al hb2 _⟩
        · have b2 : ¬ ((5000 : Int) < (l2.length : Int)) := by omega
          have hll : lexLoop ⟨l, 1, 1⟩ = .error (ln, cl) := by
            unfold lexS at hls
            rw [if_neg (by omega)] at hls
            split at hls
            · rename_i h
              injection hls with hls
              injection hls with _ hls
              injection hls with e1 e2
              rw [h, e1, e2]
            · cases hls
          have hln1 := lexLoop_line _ _ _ _ rfl hll
          have HLL := Lib.hid hll
          have BF := Blk.new w2 29 #[.int .i64 20, .int .i64 ln, .int .i64 cl]
          have hbW := Kit.Below.al hb2 (.cells #[.int .i64 20, .int .i64 ln, .int .i64 cl] 29)
          have HBF0 := Lib.hid BF
          clear hls hll BF
          generalize hW : w2.alloc (.cells #[.int .i64 20, .int .i64 ln, .int .i64 cl] 29) = W at *
          have HW := Lib.hid hW
          have HLW := Lib.hid (HL.out.below hbW)
          have HL2W := Lib.hid (HL2.out.below hbW)
          obtain ⟨i0, hi0, hz0, hz1, hz2⟩ := info_parts info_u8
          obtain ⟨w0, hmk, hown, hgrow⟩ := Go.run_makeSlice_owned (P := Tryd.prog) W W.heap.size 32 5 i0 _ 1 Tryd.underlying32 hi0 hz0 hz1 .i64 .i64 0 (by omega) (by omega) (by decide) (Nat.le_refl _)
          rw [Int.natCast_zero] at hmk
          have hbg := (Below.refl W.heap.size W).grown hgrow (by omega) (fun j hj => by cases hj)
          clear hgrow HL HL2
          have f0 : W.cell? ⟨w2.heap.size, 0, none⟩ = some (.int .i64 20) := HBF0.out.cell 0
          have hF := HBF0.out.lt
          generalize hFe : w2.heap.size = F at *
          go_wp2_with fail
          clear hmk f0 hW HW hFe
          have HBF := HBF0
          go_loopg [7, 8, 9] l.length (fun m s7 s8 s9 wr => FiRel l ln W m s7 s8 s9 wr)
          case atStart => exact ⟨0, 1, rfl, rfl, Nat.zero_le _, rfl, hbg, hown, rfl, hln1⟩
          case round =>
            clear hown hbg
            obtain ⟨i, line, rfl, rfl, hi, hm, hbw, hown, hli, hle⟩ := hrel
            have HM := Lib.hid hm
            have HLI := Lib.hid hli
            have HO := Lib.hid hown
            have a0 : (0 : Int) ≤ (i : Int) := by omega
            clear hm hli hown
            have hsz0 := hbw.size
            have hline : line ≤ 60001 := by
              have h1 := List.count_le_length (a := (10 : UInt8)) (l := l.take i)
              rw [List.length_take] at h1
              have := HLI.out
              omega
            have hF1 : wr.cell? ⟨F, 1, none⟩ = some (.int .i64 ln) := (HBF.out.below' hbw).cell 1
            by_cases hil : i < l.length
            · obtain ⟨ad, rfl, hadb, hcell⟩ := (HLW.out.below hbw).2 i hil
              have a1 : (i : Int) < (l.length : Int) := by omega
              have hx256 : (l[i]).toNat < 256 := UInt8.toNat_lt _
              by_cases hx : l[i] = 10
              · have hx2 : (l[i]).toNat = 10 := by rw [hx]; rfl
                have hcnt : [l[i]].count 10 = 1 := by rw [hx]; rfl
                have HX := Lib.hid hx
                have HCNT := Lib.hid hcnt
                clear hx hcnt
                by_cases hlt : line < ln
                · have a2 : (line : Int) < (ln : Int) := by omega
                  have x1 : (((l[i]).toNat : Int) == 10) = true := by rw [hx2]; rfl
                  have x2 : (((l[i]).toNat : Int) != 10) = false := by rw [hx2]; rfl
                  clear hx2
                  have hsz := hbw.size
                  obtain ⟨v3, w3, hrun, hown3, hgr3, _⟩ := append_owned (wr.alloc (.cells #[.int .u8 (l[i]).toNat] 5)) W.heap.size u7 (l.take i) (some ⟨wr.heap.size, 0, none⟩) 1 1 [l[i]] (HO.out.below (Kit.Below.al (Below.refl _ _) _)) (Bytes.new wr [l[i]] (0, 0)) (by simp; omega) (by simp; omega)
                  have hbw3 : Below W.heap.size W w3 := grown_below (HO.out.below (Kit.Below.al (Below.refl _ _) _)) (Kit.Below.al hbw _) hgr3 (by simp; omega)
                  obtain ⟨ad3, e3, _, c3⟩ := (HLW.out.below hbw3).2 i hil
                  injection e3 with e3
                  subst e3
                  have HRUN := Lib.hid hrun
                  have HO3 := Lib.hid hown3
                  clear hrun hown3 hgr3
                  go_wp2_with (first | (at_builtin; refine wpList_append_given (by rfl) _ _ _ (by rfl) rfl rfl HRUN.out ?_))
                  go_roundg (l.length - (i + 1))
                  case measure => have := HM.out; omega
                  case rel =>
                    refine ⟨i + 1, line + 1, rfl, rfl, by omega, rfl, hbw3, ?_, ?_, by omega⟩
                    · rw [List.take_succ_eq_append_getElem hil]
                      exact HO3.out
                    · rw [List.take_succ_eq_append_getElem hil, List.count_append, HCNT.out]
                      have := HLI.out
                      omega
                · have a2 : ¬ ((line : Int) < (ln : Int)) := by omega
                  have a3 : ((line : Int) == (ln : Int)) = true := by simp; omega
                  have x1 : (((l[i]).toNat : Int) == 10) = true := by rw [hx2]; rfl
                  have x2 : (((l[i]).toNat : Int) != 10) = false := by rw [hx2]; rfl
                  clear hx2
                  have hstop : i = l.length ∨ (l[i]? = some 10 ∧ 1 + (l.take i).count 10 = ln) := .inr ⟨by rw [List.getElem?_eq_getElem hil, HX.out], by have := HLI.out; omega⟩
                  have HSTOP := Lib.hid hstop
                  clear hstop
                  have hsz := hbw.size
                  obtain ⟨v3, w3, hrun3, hown3, hgr3, _⟩ := append_owned (wr.alloc (.cells #[.int .u8 10] 5)) W.heap.size u7 (l.take i) (some ⟨wr.heap.size, 0, none⟩) 1 1 [10] (HO.out.below (Kit.Below.al (Below.refl _ _) _)) (Bytes.new wr [10] (0, 0)) (by simp; omega) (by simp; omega)
                  have hbw3 : Below W.heap.size W w3 := grown_below (HO.out.below (Kit.Below.al (Below.refl _ _) _)) (Kit.Below.al hbw _) hgr3 (by simp; omega)
                  have hsz3 := hbw3.size
                  obtain ⟨v4, w4, hrun4, hown4, hgr4, _⟩ := append_owned w3 W.heap.size v3 (l.take i ++ [10]) A2 l2.length c2 l2 hown3 (HL2W.out.below hbw3) hsz3 (by simp; omega)
                  have hbw4 : Below W.heap.size W w4 := grown_below hown3 hbw3 hgr4 hsz3
                  obtain ⟨A5, c5, rfl, hB5, _⟩ := hown4.bytes
                  have hb5 := Kit.Below.then hbW hbw4
                  have hlx : lexS (l.take i ++ [10] ++ l2) = .error (20, ln, cl) := by
                    have h := first_law (more := l2) hi HSTOP.out HLL.out
                    have h2 : (l.take i ++ [10] ++ l2) = l.take i ++ 10 :: l2 := by simp
                    rw [h2]
                    unfold lexS
                    rw [if_neg (by simp; omega), h]
                  generalize hL3 : l.take i ++ [10] ++ l2 = L3 at *
                  clear hL3
                  have hX := Lex_any A5 L3.length c5 L3 w4 (hE.below hb5) hB5
                  have BF4 := HBF.out.below' hbw4
                  have f0 := cellA1 (show w4.cell? ⟨F, 0, none⟩ = some (.int .i64 20) from BF4.cell 0)
                  have HRUN3 := Lib.hid hrun3
                  have HRUN4 := Lib.hid hrun4
                  have HLX := Lib.hid hlx
                  clear hrun3 hrun4 hown3 hown4 hgr3 hgr4 hlx hB5 f0 BF4
                  go_wp2_with (first | (at_builtin; first | refine wpList_append_given (by rfl) _ _ _ (by rfl) rfl rfl HRUN3.out ?_ | refine wpList_append_given (by rfl) _ _ _ (by rfl) rfl rfl HRUN4.out ?_))
                  refine hX.mono ?_
                  clear hX
                  rintro e w5 ⟨h5, hcase⟩
                  rcases hcase with ⟨q2, ln2, cl2, hls2, rfl⟩ | ⟨toks2, v2, hls2, rfl, hown2⟩
                  · rw [HLX.out] at hls2
                    injection hls2 with hls2
                    injection hls2 with e1 hls2
                    injection hls2 with e2 e3
                    subst e1 e2 e3
                    have BF5 := (HBF.out.below' hbw4).below' h5
                    have f0 := cellA1 (show w5.cell? ⟨F, 0, none⟩ = some (.int .i64 20) from BF5.cell 0)
                    have f1 := cellA1 (show w5.cell? ⟨F, 1, none⟩ = some (.int .i64 ln) from BF5.cell 1)
                    have f2 := cellA1 (show w5.cell? ⟨F, 2, none⟩ = some (.int .i64 cl) from BF5.cell 2)
                    have hbz := Kit.Below.al (Kit.Below.then hb5 h5) (.cells #[.int .i64 20, .int .i64 ln, .int .i64 cl] 29)
                    clear BF5
                    go_wp2_with fail
                    go_ret
                    exact ⟨rfl, hbz⟩
                  · rw [HLX.out] at hls2
                    cases hls2
              · have hx2 : (l[i]).toNat ≠ 10 := fun h => hx (UInt8.toNat_inj.1 h)
                have hcnt : [l[i]].count 10 = 0 := by
                  rw [List.count_eq_zero]
                  simp only [List.mem_singleton]
                  exact fun h => hx h.symm
                have HCNT := Lib.hid hcnt
                have x1 : (((l[i]).toNat : Int) == 10) = false := by rw [beq_eq_false_iff_ne]; omega
                have x2 : (((l[i]).toNat : Int) != 10) = true := by simp [bne]; omega
                clear hx hx2 hcnt
                by_cases hlt : line < ln
                · have a2 : (line : Int) < (ln : Int) := by omega
                  have hsz := hbw.size
                  obtain ⟨v3, w3, hrun, hown3, hgr3, _⟩ := append_owned (wr.alloc (.cells #[.int .u8 (l[i]).toNat] 5)) W.heap.size u7 (l.take i) (some ⟨wr.heap.size, 0, none⟩) 1 1 [l[i]] (HO.out.below (Kit.Below.al (Below.refl _ _) _)) (Bytes.new wr [l[i]] (0, 0)) (by simp; omega) (by simp; omega)
                  have hbw3 : Below W.heap.size W w3 := grown_below (HO.out.below (Kit.Below.al (Below.refl _ _) _)) (Kit.Below.al hbw _) hgr3 (by simp; omega)
                  obtain ⟨ad3, e3, _, c3⟩ := (HLW.out.below hbw3).2 i hil
                  injection e3 with e3
                  subst e3
                  have HRUN := Lib.hid hrun
                  have HO3 := Lib.hid hown3
                  clear hrun hown3 hgr3
                  go_wp2_with (first | (at_builtin; refine wpList_append_given (by rfl) _ _ _ (by rfl) rfl rfl HRUN.out ?_))
                  go_roundg (l.length - (i + 1))
                  case measure => have := HM.out; omega
                  case rel =>
                    refine ⟨i + 1, line, rfl, rfl, by omega, rfl, hbw3, ?_, ?_, by omega⟩
                    · rw [List.take_succ_eq_append_getElem hil]
                      exact HO3.out
                    · rw [List.take_succ_eq_append_getElem hil, List.count_append, HCNT.out]
                      have := HLI.out
                      omega
                · have a2 : ¬ ((line : Int) < (ln : Int)) := by omega
                  have a3 : ((line : Int) == (ln : Int)) = true := by simp; omega
                  have hsz := hbw.size
                  obtain ⟨v3, w3, hrun, hown3, hgr3, _⟩ := append_owned (wr.alloc (.cells #[.int .u8 (l[i]).toNat] 5)) W.heap.size u7 (l.take i) (some ⟨wr.heap.size, 0, none⟩) 1 1 [l[i]] (HO.out.below (Kit.Below.al (Below.refl _ _) _)) (Bytes.new wr [l[i]] (0, 0)) (by simp; omega) (by simp; omega)
                  have hbw3 : Below W.heap.size W w3 := grown_below (HO.out.below (Kit.Below.al (Below.refl _ _) _)) (Kit.Below.al hbw _) hgr3 (by simp; omega)
                  obtain ⟨ad3, e3, _, c3⟩ := (HLW.out.below hbw3).2 i hil
                  injection e3 with e3
                  subst e3
                  have HRUN := Lib.hid hrun
                  have HO3 := Lib.hid hown3
                  clear hrun hown3 hgr3
                  go_wp2_with (first | (at_builtin; refine wpList_append_given (by rfl) _ _ _ (by rfl) rfl rfl HRUN.out ?_))
                  go_roundg (l.length - (i + 1))
                  case measure => have := HM.out; omega
                  case rel =>
                    refine ⟨i + 1, line, rfl, rfl, by omega, rfl, hbw3, ?_, ?_, by omega⟩
                    · rw [List.take_succ_eq_append_getElem hil]
                      exact HO3.out
                    · rw [List.take_succ_eq_append_getElem hil, List.count_append, HCNT.out]
                      have := HLI.out
                      omega
            · have a1 : ¬ ((i : Int) < (l.length : Int)) := by omega
              have hstop : i = l.length ∨ (l[i]? = some 10 ∧ 1 + (l.take i).count 10 = ln) := .inl (by omega)
              have HSTOP := Lib.hid hstop
              clear hstop
              have hsz := hbw.size
              obtain ⟨v3, w3, hrun3, hown3, hgr3, _⟩ := append_owned (wr.alloc (.cells #[.int .u8 10] 5)) W.heap.size u7 (l.take i) (some ⟨wr.heap.size, 0, none⟩) 1 1 [10] (HO.out.below (Kit.Below.al (Below.refl _ _) _)) (Bytes.new wr [10] (0, 0)) (by simp; omega) (by simp; omega)
              have hbw3 : Below W.heap.size W w3 := grown_below (HO.out.below (Kit.Below.al (Below.refl _ _) _)) (Kit.Below.al hbw _) hgr3 (by simp; omega)
              have hsz3 := hbw3.size
              obtain ⟨v4, w4, hrun4, hown4, hgr4, _⟩ := append_owned w3 W.heap.size v3 (l.take i ++ [10]) A2 l2.length c2 l2 hown3 (HL2W.out.below hbw3) hsz3 (by simp; omega)
              have hbw4 : Below W.heap.size W w4 := grown_below hown3 hbw3 hgr4 hsz3
              obtain ⟨A5, c5, rfl, hB5, _⟩ := hown4.bytes
              have hb5 := Kit.Below.then hbW hbw4
              have hlx : lexS (l.take i ++ [10] ++ l2) = .error (20, ln, cl) := by
                have h := first_law (more := l2) hi HSTOP.out HLL.out
                have h2 : (l.take i ++ [10] ++ l2) = l.take i ++ 10 :: l2 := by simp
                rw [h2]
                unfold lexS
                rw [if_neg (by simp; omega), h]
              generalize hL3 : l.take i ++ [10] ++ l2 = L3 at *
              clear hL3
              have hX := Lex_any A5 L3.length c5 L3 w4 (hE.below hb5) hB5
              have BF4 := HBF.out.below' hbw4
              have f0 := cellA1 (show w4.cell? ⟨F, 0, none⟩ = some (.int .i64 20) from BF4.cell 0)
              have HRUN3 := Lib.hid hrun3
              have HRUN4 := Lib.hid hrun4
              have HLX := Lib.hid hlx
              clear hrun3 hrun4 hown3 hown4 hgr3 hgr4 hlx hB5 f0 BF4
              go_wp2_with (first | (at_builtin; first | refine wpList_append_given (by rfl) _ _ _ (by rfl) rfl rfl HRUN3.out ?_ | refine wpList_append_given (by rfl) _ _ _ (by rfl) rfl rfl HRUN4.out ?_))
              refine hX.mono ?_
              clear hX
              rintro e w5 ⟨h5, hcase⟩
              rcases hcase with ⟨q2, ln2, cl2, hls2, rfl⟩ | ⟨toks2, v2, hls2, rfl, hown2⟩
              · rw [HLX.out] at hls2
                injection hls2 with hls2
                injection hls2 with e1 hls2
                injection hls2 with e2 e3
                subst e1 e2 e3
                have BF5 := (HBF.out.below' hbw4).below' h5
                have f0 := cellA1 (show w5.cell? ⟨F, 0, none⟩ = some (.int .i64 20) from BF5.cell 0)
                have f1 := cellA1 (show w5.cell? ⟨F, 1, none⟩ = some (.int .i64 ln) from BF5.cell 1)
                have f2 := cellA1 (show w5.cell? ⟨F, 2, none⟩ = some (.int .i64 cl) from BF5.cell 2)
                have hbz := Kit.Below.al (Kit.Below.then hb5 h5) (.cells #[.int .i64 20, .int .i64 ln, .int .i64 cl] 29)
                clear BF5
                go_wp2_with fail
                go_ret
                exact ⟨rfl, hbz⟩
              · rw [HLX.out] at hls2
                cases hls2
    · clear hls
      go_wp2_with fail
      go_ret
      exact ⟨rfl, Kit.Below.al hb2 _⟩
  · clear hls hown
    go_wp2_with fail
    go_ret
    exact ⟨rfl, Kit.Below.al hb2 _⟩
end Go.Proofs.YtpamnnllijkpfaaDoor.LexW
