/- WALKS: the law LexPlaces. -/
import Derived.Test.YtpamnnllijkpfaaDoorRefQ
namespace Go.Proofs.YtpamnnllijkpfaaDoor.LexP
open Go
theorem lexS_err {b : List UInt8} {q ln cl : Nat} (h : lexS b = .error (q, ln, cl)) : q = 20 ∨ q = 32 := by
  unfold lexS at h
  split at h
  · injection h with h
    injection h with h _
    exact .inr h.symm
  · split at h
    · injection h with h
      injection h with h _
      exact .inl h.symm
    · cases h
theorem lexS_small {b : List UInt8} {l : List Tok} (h : lexS b = .ok l) : b.length ≤ 65536 ∧ lexLoop (stn ⟨b, 1, 1⟩ 0) = .ok l := by
  unfold lexS at h
  split at h
  · cases h
  · rename_i hb
    refine ⟨by omega, ?_⟩
    show lexLoop ⟨b, 1, 1⟩ = _
    split at h
    · cases h
    · rename_i ts ht
      injection h with h
      subst h
      exact ht
theorem placed_last {b : List UInt8} {K : Nat} : ∀ (toks : List Tok) (k e : Nat), Placed b K k e toks → ∀ (h : 0 < toks.length), (toks[toks.length - 1]).kind = 5
  | [], _, _, _, h => absurd h (by simp)
  | [t], _, _, hp, _ => by
    obtain ⟨j, _, _, _, _, _, _, _, _, h, _⟩ := hp
    exact h rfl
  | t :: u :: ts, _, _, hp, _ => by
    obtain ⟨j, _, _, _, _, _, _, _, _, _, h⟩ := hp
    exact placed_last (u :: ts) _ _ h (by simp)
end Go.Proofs.YtpamnnllijkpfaaDoor.LexP
namespace Go.Proofs.YtpamnnllijkpfaaDoor.LexW
open Go Go.RowKit Go.Proofs.YtpamnnllijkpfaaDoor.Kit Go.Proofs.YtpamnnllijkpfaaDoor.LexP

theorem drewN_add (w : World) (a b : Nat) : (w.drewN a).drewN b = w.drewN (a + b) := by simp [World.drewN]; omega

def PlRel (l : List UInt8) (K : Nat) (toks : List Tok) (w3 : World) (m : Nat) (s6 s7 s8 : Value) (wr : World) : Prop :=
  ∃ k e i q : Nat, s6 = .int .i64 k ∧ s7 = .int .i64 e ∧ s8 = .int .i64 i ∧ wr = w3.drewN q ∧ k ≤ K ∧ e ≤ l.length ∧ i ≤ toks.length ∧ m = toks.length - i ∧ Placed l K k e (toks.drop i)
def PiRel (k j : Nat) (w3 : World) (m : Nat) (s6 : Value) (wr : World) : Prop :=
  ∃ q nq : Nat, s6 = .int .i64 q ∧ wr = w3.drewN nq ∧ k ≤ q ∧ q ≤ j ∧ m = j - q

set_option maxHeartbeats 2000000 in
set_option maxRecDepth 10000 in
theorem LexPlaces_any (A : Option Addr) (n c : Nat) (l : List UInt8) (w : World) (hE : Env w) (hl : Bytes w A n l) (hnc : n ≤ c) (hnil : A = none → c = 0) :
    Calls Tryd.prog 7 #[.slice A n c] w fun e w' => e = .returned (.bool true) ∧ Below w.heap.size w w' := by
  obtain rfl := hl.1
  have HL := Lib.hid hl
  have HNIL := Lib.hid hnil
  clear hl hnil
  go_enter Tryd.func7, Tryd.ntmps7
  go_wp2_with fail
  refine (awake_any _ hE).mono ?_
  rintro e w1 ⟨rfl, h1⟩
  have hX := Lex_any A l.length c l w1 (hE.below h1) (HL.out.below h1)
  go_wp2_with fail
  refine hX.mono ?_
  clear hX
  rintro e w2 ⟨h2, hcase⟩
  have hb2 := Kit.Below.then h1 h2
  rcases hcase with ⟨q, ln, cl, hls, rfl⟩ | ⟨toks, v, hls, rfl, hown⟩
  · have hq := lexS_err hls
    have hq2 : ((q : Int) == 0) = false := by simp; omega
    have hq3 : ((q : Int) != 0) = true := by simp; omega
    clear hls hq
    go_wp2_with fail
    go_ret
    exact ⟨rfl, Kit.Below.al hb2 _⟩
  · have hpos := lexS_pos hls
    have htl := lexS_le hls
    obtain ⟨hsm, hlp⟩ := lexS_small hls
    obtain ⟨g2, cap2, rfl, hg2, hT2⟩ := Toks.own hown hpos
    have hcr := cnt_rest ⟨l, 1, 1⟩
    have hK0 := cnt_le ⟨l, 1, 1⟩
    have hba := Kit.Below.al (Below.refl w2.heap.size w2) (.cells #[.int .i64 0, .int .i64 0, .int .i64 0] 29)
    have hT3 := hT2.below hba
    have hb3 := Kit.Below.then hb2 hba
    clear hls hown hT2
    go_wp2_with fail
    refine (Runes_any A l.length c l _ (HL.out.below hb3) (by omega)).mono ?_
    rintro e w3 ⟨h3, v, rfl, hownR⟩
    have hb4 := Kit.Below.then hb3 h3
    obtain ⟨g, cap, rfl, _, hR⟩ := Runes.own hownR (by omega)
    have hT4 := hT3.below h3
    have HL3 := Lib.hid (HL.out.below hb4)
    clear hownR hT3 h3 hb3 hba HL
    generalize hKe : cnt ⟨l, 1, 1⟩ = K at *
    clear hKe
    have hpl := placed_loop l K hcr _ 0 0 0 toks rfl (Nat.zero_le _) (Nat.le_refl _) (Nat.zero_le _) hlp
    have hlast := placed_last toks _ _ hpl hpos
    have HLAST := Lib.hid hlast
    have HCR := Lib.hid hcr
    have HPL := Lib.hid hpl
    have HR := Lib.hid hR
    have HT := Lib.hid hT4
    clear hlp hlast hcr hpl hR hT4
    go_wp2_with fail
    go_loopg [6, 7, 8] toks.length (fun m s6 s7 s8 wr => PlRel l K toks w3 m s6 s7 s8 wr)
    case atStart => exact ⟨0, 0, 0, 0, rfl, rfl, rfl, rfl, Nat.zero_le _, Nat.zero_le _, Nat.zero_le _, rfl, HPL.out⟩
    case round =>
      obtain ⟨k, e, i, q, rfl, rfl, rfl, rfl, hk, he, hi, hm, hp⟩ := hrel
      have HM := Lib.hid hm
      clear hm HPL
      by_cases hil : i < toks.length
      · rw [List.drop_eq_getElem_cons hil] at hp
        obtain ⟨j, hkj, hjK, hln, hcl, htle, htx, hk5, hee, _, hrest⟩ := hp
        have a1 : (i : Int) < (toks.length : Int) := by omega
        have a2 : (0 : Int) ≤ (i : Int) := by omega
        have HLN := Lib.hid hln
        have HCL := Lib.hid hcl
        have HTX := Lib.hid htx
        have HK5 := Lib.hid hk5
        have HRE := Lib.hid hrest
        clear hln hcl htx hk5 hrest
        go_wp2_with fail
        go_loopg [6] (j - k) (fun m s6 wq => PiRel k j w3 m s6 wq)
        case atStart => exact ⟨k, q, rfl, rfl, Nat.le_refl _, hkj, rfl⟩
        case round =>
          obtain ⟨p, nq, rfl, rfl, hkp, hpj, hmp⟩ := hrel
          have HMP := Lib.hid hmp
          clear hmp
          obtain ⟨_, _, _, c3, c4⟩ := HR.out.2 p (by omega)
          obtain ⟨t0, t1, _, t3, t4⟩ := HT.out.2.2 i hil (Nat.zero_le _)
          have b1 : (p : Int) < (K : Int) + 1 := by omega
          have b2 : (0 : Int) ≤ (p : Int) := by omega
          by_cases hpj2 : p < j
          · have hlt := place_lt HCR.out.1 hpj2 hjK
            rw [← HLN.out, ← HCL.out] at hlt
            generalize (toks[i]).line = tl at *
            generalize (toks[i]).col = tc at *
            generalize (stn ⟨l, 1, 1⟩ p).line = pl at *
            generalize (stn ⟨l, 1, 1⟩ p).col = pc at *
            by_cases hle : pl = tl
            · subst hle
              have q1 : ((pc : Int) != (tc : Int)) = true := by simp; omega
              have q2 : ((pc : Int) == (tc : Int)) = false := by simp; omega
              clear hlt
              go_wp2_with fail
              go_quiet (fail)
              go_wp2_with fail
              go_roundg (j - (p + 1))
              case measure => have := HMP.out; omega
              case rel => exact ⟨p + 1, _, rfl, rfl, by omega, by omega, rfl⟩
            · have q1 : ((pl : Int) != (tl : Int)) = true := by simp; omega
              have q2 : ((pl : Int) == (tl : Int)) = false := by simp; omega
              clear hlt
              go_wp2_with fail
              go_quiet (fail)
              go_wp2_with fail
              go_roundg (j - (p + 1))
              case measure => have := HMP.out; omega
              case rel => exact ⟨p + 1, _, rfl, rfl, by omega, by omega, rfl⟩
          · obtain rfl : p = j := by omega
            rw [← HLN.out] at c3
            rw [← HCL.out] at c4
            go_wp2_with fail
            go_quiet (fail)
            rename_i nq2
            go_upto_region 14 with fail
            clear c3 c4 t3 t4
            obtain ⟨_, c1, _, _, _⟩ := HR.out.2 p (by omega)
            have hll := stn_len l 1 1 p
            have hrestd := stn_drop l 1 1 p
            have hts : (⟨(toks[i]).text.toArray⟩ : ByteArray).size = (toks[i]).text.length := by simp [ByteArray.size]
            have hxx : (l.drop (l.length - (stn ⟨l, 1, 1⟩ p).rest.length)).take (toks[i]).text.length = (toks[i]).text := by rw [hrestd]; exact HTX.out.symm
            have h5 := HK5.out
            have hre := HRE.out
            rw [← hts] at htle hxx h5 hre
            generalize hxg : (⟨(toks[i]).text.toArray⟩ : ByteArray) = x at *
            have hxl : ∀ ys : List UInt8, ys = (toks[i]).text → (⟨ys.toArray⟩ : ByteArray) = x := fun ys h => by rw [h, hxg]
            generalize hlo : l.length - (stn ⟨l, 1, 1⟩ p).rest.length = lo at *
            have hlo2 : lo + x.size ≤ l.length := by omega
            have hgt : ¬ (((l.length : Int) - (lo : Int)) < (x.size : Int)) := by omega
            have hne : ((p : Int) == (K : Int) + 1) = false := by simp; omega
            have d1 : (0 : Int) ≤ (lo : Int) := by omega
            have d2 : (lo : Int) ≤ (lo : Int) + (x.size : Int) := by omega
            have d3 : (lo : Int) + (x.size : Int) ≤ (c : Int) := by omega
            have HX := Lib.hid hxx
            have H5 := Lib.hid h5
            have HRE2 := Lib.hid hre
            have hxq := hxg
            clear hrestd hxx hlo h5 htle hll hts hxg hre HRE
            go_cut [126] (fun s126 wx => s126 = .bool false ∧ ∃ z, wx = w3.drewN z)
            case first =>
              simp only [List.append]
              by_cases hcl : c = lo
              · have hx0 : x.size = 0 := by omega
                have e1 : ((x.size : Int) == 0) = true := by simp [hx0]
                have e2 : (((toks[i]).kind : Int) == 5) = true := by have := H5.out.1 hx0; simp [this]
                have hcv : ∀ z, (convert 32 9 (.slice A 0 0)).run Tryd.prog (w3.drewN z) = .ok (.string x) (w3.drewN z) := by
                  intro z
                  have h : Bytes (w3.drewN z) A 0 [] := ⟨rfl, fun j hj => by simp at hj⟩
                  rw [← hxl [] (by have h2 := HX.out; rw [hx0, List.take_zero] at h2; exact h2)]
                  exact h.conv 0
                have hcv2 := fun y z => hcv (y + z)
                have hcv3 := fun y z u => hcv (y + z + u)
                have hz2 : ∀ y z, (w3.drewN (y + z)) = (w3.drewN y).drewN z := fun y z => by simp [World.drewN]; omega
                simp only [hz2] at hcv2 hcv3
                clear hz2
                subst hcl
                have e3 : (c : Int) + (x.size : Int) = (c : Int) := by omega
                clear hx0
                go_quiet (fail)
                go_wp2_with fail
                go_meet
                exact ⟨rfl, _, by first | rfl | (rw [drewN_add, drewN_add]) | (rw [drewN_add])⟩
              · obtain ⟨ad, rfl⟩ : ∃ ad, A = some ad := by
                  cases hA : A with
                  | none => exfalso; have := HNIL.out hA; omega
                  | some ad => exact ⟨ad, rfl⟩
                have hcv : ∀ z, (convert 32 9 (.slice (some (ad.add lo)) x.size (c - lo))).run Tryd.prog (w3.drewN z) = .ok (.string x) (w3.drewN z) := by
                  intro z
                  have h := ((HL3.out.below (Below_drewN _ z)).sub lo (lo + x.size) (by omega) (by omega)).conv (c - lo)
                  rw [show lo + x.size - lo = x.size by omega, HX.out, hxl _ rfl] at h
                  exact h
                have hcv2 := fun y z => hcv (y + z)
                have hcv3 := fun y z u => hcv (y + z + u)
                have hz2 : ∀ y z, (w3.drewN (y + z)) = (w3.drewN y).drewN z := fun y z => by rw [drewN_add]
                simp only [hz2] at hcv2 hcv3
                clear hz2
                by_cases hx0 : x.size = 0
                · have e1 : ((x.size : Int) == 0) = true := by simp [hx0]
                  have e2 : (((toks[i]).kind : Int) == 5) = true := by have := H5.out.1 hx0; simp [this]
                  clear hx0
                  go_quiet (fail)
                  go_wp2_with fail
                  go_meet
                  exact ⟨rfl, _, by first | rfl | (rw [drewN_add, drewN_add]) | (rw [drewN_add])⟩
                · have e1 : ((x.size : Int) == 0) = false := by rw [beq_eq_false_iff_ne]; omega
                  have e2 : (((toks[i]).kind : Int) == 5) = false := by
                    have : ¬ (toks[i]).kind = 5 := fun h => hx0 (H5.out.2 h)
                    simp; omega
                  clear hx0
                  go_quiet (fail)
                  go_wp2_with fail
                  go_meet
                  exact ⟨rfl, _, by first | rfl | (rw [drewN_add, drewN_add]) | (rw [drewN_add])⟩
            case rest =>
              obtain ⟨rfl, z, rfl⟩ := hcut
              have f1 : ¬ ((lo : Int) < (e : Int)) := by omega
              obtain ⟨_, t1, _, _, _⟩ := HT.out.2.2 i hil (Nat.zero_le _)
              rw [hxq] at t1
              go_wp2_with fail
              go_quiet (fail)
              go_wp2_with fail
              go_roundg (toks.length - (i + 1))
              case measure => have := HM.out; omega
              case rel => exact ⟨p, lo + x.size, i + 1, _, rfl, rfl, rfl, by first | rfl | (rw [drewN_add]), hjK, hlo2, by omega, rfl, HRE2.out⟩
      · obtain rfl : i = toks.length := by omega
        have a1 : ¬ ((toks.length : Int) < (toks.length : Int)) := by omega
        rw [List.drop_length] at hp
        have hrk : (stn ⟨l, 1, 1⟩ k).rest = [] := hp
        obtain ⟨_, _, c2, _, _⟩ := HR.out.2 k (by omega)
        rw [hrk, dec_nil] at c2
        obtain ⟨t0, _, _, _, _⟩ := HT.out.2.2 (toks.length - 1) (by omega) (Nat.zero_le _)
        rw [HLAST.out] at t0
        have b1 : (k : Int) < (K : Int) + 1 := by omega
        have b2 : (0 : Int) ≤ (k : Int) := by omega
        have b3 : (0 : Int) < (toks.length : Int) := by omega
        have b4 : (0 : Int) ≤ (toks.length : Int) - 1 := by omega
        have b5 : (toks.length : Int) - 1 < (toks.length : Int) := by omega
        have b6 : ((toks.length : Int) - 1) = ((toks.length - 1 : Nat) : Int) := by omega
        clear hrk hp
        go_wp2_with fail
        go_ret
        exact ⟨rfl, Kit.Below.dn hb4⟩
end Go.Proofs.YtpamnnllijkpfaaDoor.LexW
