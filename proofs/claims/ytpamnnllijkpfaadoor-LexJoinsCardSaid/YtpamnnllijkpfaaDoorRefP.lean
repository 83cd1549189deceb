/- WALKS: the law LexCuts. -/
import Derived.Test.YtpamnnllijkpfaaDoorRefO
namespace Go.Proofs.YtpamnnllijkpfaaDoor.LexW
open Go Go.RowKit Go.Proofs.YtpamnnllijkpfaaDoor.Kit Go.Proofs.YtpamnnllijkpfaaDoor.LexP

/-- A row of tokens in memory, from the i-th on. -/
def Toks (w : World) (g : Nat) (i : Nat) (l : List Tok) : Prop :=
  g < w.heap.size ∧ (∀ o, w.frozen? ⟨g, o, none⟩ = false) ∧ ∀ k (hk : k < l.length), i ≤ k → w.cell? ⟨g, k * 5, none⟩ = some (.int .i64 (l[k]).kind) ∧ w.cell? ⟨g, k * 5 + 1, none⟩ = some (.string ⟨(l[k]).text.toArray⟩) ∧ w.cell? ⟨g, k * 5 + 2, none⟩ = some (.int .u64 (l[k]).val) ∧
    w.cell? ⟨g, k * 5 + 3, none⟩ = some (.int .i64 (l[k]).line) ∧ w.cell? ⟨g, k * 5 + 4, none⟩ = some (.int .i64 (l[k]).col)
theorem toksC_at (l : List Tok) (k j : Nat) (hk : k < l.length) (hj : j < 5) : (toksC l)[k * 5 + j]? = (tokC l[k])[j]? := by
  induction l generalizing k with
  | nil => simp at hk
  | cons t l ih =>
    have e : (toksC (t :: l)) = tokC t ++ toksC l := rfl
    cases k with
    | zero => rw [e, List.getElem?_append_left (by simp [tokC]; omega)]; simp
    | succ k =>
      rw [e, List.getElem?_append_right (by simp [tokC]; omega)]
      have e2 : (k + 1) * 5 + j - (tokC t).length = k * 5 + j := by simp [tokC]; omega
      rw [e2, ih k (by simpa using hk)]
      rfl
theorem ownsRow_frozen {w : World} {base e size n g c : Nat} {xs : List Value} (h : w.ownsRow base e size (.slice (some ⟨g, 0, none⟩) n c) n xs) (o : Nat) : w.frozen? ⟨g, o, none⟩ = false := by
  rcases h.2 with ⟨h0, _⟩ | ⟨g', cap, cur, h0, _, hh, _⟩
  · cases h0
  · injection h0 with h0
    injection h0 with h0
    injection h0 with h0
    subst h0
    unfold World.frozen?
    rw [hh]
    simp
theorem Toks.own {w : World} {base T : Nat} {v : Value} {l : List Tok} (h : w.ownsRow base T 5 v l.length (toksC l)) (hn : 0 < l.length) : ∃ g cap, v = .slice (some ⟨g, 0, none⟩) l.length cap ∧ base ≤ g ∧ Toks w g 0 l := by
  obtain ⟨g, cap, rfl, hb, hlt, _, hcell⟩ := ownsRow_at h hn
  refine ⟨g, cap, rfl, hb, hlt, ownsRow_frozen h, fun k hk _ => ?_⟩
  have := fun j hj => toksC_at l k j hk hj
  exact ⟨hcell _ _ (this 0 (by omega)), hcell _ _ (this 1 (by omega)), hcell _ _ (this 2 (by omega)), hcell _ _ (this 3 (by omega)), hcell _ _ (this 4 (by omega))⟩
theorem Toks.below {w w' : World} {g i : Nat} {l : List Tok} (h : Toks w g i l) (hb : Below w.heap.size w w') : Toks w' g i l := by
  refine ⟨Nat.lt_of_lt_of_le h.1 hb.size, fun o => (hb.frozen (p := ⟨g, o, none⟩) h.1).trans (h.2.1 o), fun k hk hi => ?_⟩
  obtain ⟨a, b, c, d, e⟩ := h.2.2 k hk hi
  have hc := fun o => hb.cell (p := ⟨g, o, none⟩) h.1
  rw [hc, hc, hc, hc, hc]
  exact ⟨a, b, c, d, e⟩
theorem Toks.next {w : World} {g i : Nat} {l : List Tok} (h : Toks w g i l) (a b c d e : Value) : Toks (((((w.setCell ⟨g, i * 5, none⟩ a).setCell ⟨g, i * 5 + 1, none⟩ b).setCell ⟨g, i * 5 + 2, none⟩ c).setCell ⟨g, i * 5 + 3, none⟩ d).setCell ⟨g, i * 5 + 4, none⟩ e) g (i + 1) l := by
  refine ⟨by simpa using h.1, fun o => by simpa using h.2.1 o, fun k hk hi => ?_⟩
  obtain ⟨p0, p1, p2, p3, p4⟩ := h.2.2 k hk (by omega)
  have hs : ∀ (w : World) (o o' : Nat) (u : Value), o ≠ o' → (w.setCell ⟨g, o, none⟩ u).cell? ⟨g, o', none⟩ = w.cell? ⟨g, o', none⟩ := fun w o o' u hne =>
    World.cell?_setCell_other w _ _ u (by intro e; injection e with _ e; exact hne e)
  refine ⟨?_, ?_, ?_, ?_, ?_⟩ <;> (rw [hs _ _ _ _ (by omega), hs _ _ _ _ (by omega), hs _ _ _ _ (by omega), hs _ _ _ _ (by omega), hs _ _ _ _ (by omega)]; assumption)
theorem lexLoop_pos (s : St) : ∀ l, lexLoop s = .ok l → 0 < l.length := by
  intro l h
  rw [lexLoop] at h
  split at h
  · cases h
  · split at h
    · injection h with h; subst h; simp
    · split at h
      · cases h
      · injection h with h; subst h; simp
theorem lexS_pos {b : List UInt8} {l : List Tok} (h : lexS b = .ok l) : 0 < l.length := by
  unfold lexS at h
  split at h
  · cases h
  · split at h
    · cases h
    · rename_i ts ht
      injection h with h
      subst h
      exact lexLoop_pos _ _ ht
theorem lexLoop_le (s : St) : ∀ l, lexLoop s = .ok l → l.length ≤ s.rest.length + 1 := by
  generalize hn : s.rest.length = n
  induction n using Nat.strongRecOn generalizing s with
  | ind n ih =>
    subst hn
    intro l h
    cases ht : tokenS s.blanks with
    | error f => rw [lexLoop_bad ht] at h; cases h
    | ok p =>
      obtain ⟨t, s1⟩ := p
      by_cases hk : t.kind = 5
      · rw [lexLoop_end ht hk] at h
        injection h with h
        subst h
        simp
      · have h1 := tokenS_less ht hk
        have h2 := blanks_len s
        rw [lexLoop_more ht hk] at h
        cases h3 : lexLoop s1 with
        | error f => rw [h3] at h; cases h
        | ok l1 =>
          rw [h3] at h
          injection h with h
          subst h
          have := ih s1.rest.length (by omega) s1 rfl l1 h3
          simp only [List.length_cons]
          omega
theorem lexS_le {b : List UInt8} {l : List Tok} (h : lexS b = .ok l) : l.length ≤ b.length + 1 := by
  unfold lexS at h
  split at h
  · cases h
  · split at h
    · cases h
    · rename_i ts ht
      injection h with h
      subst h
      exact lexLoop_le _ _ ht
theorem Bytes.start {w : World} {g n : Nat} {l l2 : List UInt8} (h : Bytes w (some ⟨g, 0, none⟩) n (l ++ l2)) (_h2 : l.length ≤ (l ++ l2).length) : Bytes w (some ⟨g, 0, none⟩) l.length l := by
  refine ⟨rfl, fun j hj => ?_⟩
  obtain ⟨ad, e, h1, h2⟩ := h.2 j (by rw [List.length_append]; omega)
  refine ⟨ad, e, h1, ?_⟩
  rw [h2, List.getElem_append_left hj]

def CiRel (l : List Tok) (W : World) (base g : Nat) (m : Nat) (s9 : Value) (wr : World) : Prop :=
  ∃ i : Nat, s9 = .int .i64 i ∧ i ≤ l.length ∧ m = l.length - i ∧ Below base W wr ∧ Toks wr g i l
def CoRel (W : World) (m : Nat) (s6 : Value) (wr : World) : Prop :=
  ∃ i : Nat, s6 = .int .i64 i ∧ i ≤ 2 ∧ m = 2 - i ∧ Below W.heap.size W wr

set_option maxHeartbeats 400000 in
set_option maxRecDepth 10000 in
theorem LexCuts_any (A : Option Addr) (n c : Nat) (l : List UInt8) (w : World) (hE : Env w) (hl : Bytes w A n l) (hnc : n ≤ c) (hlen : l.length ≤ 1048576) :
    Calls Tryd.prog 4 #[.slice A n c] w fun e w' => e = .returned (.bool true) ∧ Below w.heap.size w w' := by
  obtain rfl := hl.1
  have HL := Lib.hid hl
  clear hl
  go_enter Tryd.func4, Tryd.ntmps4
  go_wp2_with fail
  refine (refLex_any A l.length c l w HL.out hnc).mono ?_
  rintro e w1 ⟨h1, hcase⟩
  rcases hcase with ⟨q, ln, cl, hls, rfl⟩ | ⟨toks, v, hls, rfl, hown⟩
  · have hba := Kit.Below.al h1 (.cells #[.int .i64 q, .int .i64 ln, .int .i64 cl] 38)
    have BF := Blk.new w1 38 #[.int .i64 q, .int .i64 ln, .int .i64 cl]
    have HLS := Lib.hid hls
    clear hls
    go_wp2_with fail
    refine (marked_any A l.length c l _ (HL.out.below hba) hlen).mono ?_
    rintro e w2 ⟨h2, ga, capa, rfl, hB, hca⟩
    have hb2 := Kit.Below.then hba h2
    have BF2 := BF.below' h2
    clear hba BF h2
    go_wp2_with fail
    go_loopg [6] 2 (fun m s6 wr => CoRel w2 m s6 wr)
    case atStart => exact ⟨0, rfl, by omega, rfl, Below.refl _ _⟩
    case round =>
      obtain ⟨i, rfl, hi, hm, hr⟩ := hrel
      have hbr := Kit.Below.then hb2 hr
      have HM := Lib.hid hm
      clear hm
      by_cases hi2 : i < 2
      · have b1 : (i : Int) < 2 := by omega
        have hX := Lex_any (some ⟨ga, 0, none⟩) l.length capa l wr (hE.below hbr) ((hB.below hr).start (by simp))
        have b2 : ¬ (capa = 0) := by omega
        have b3 : (l.length : Int) ≤ (capa : Int) := by omega
        go_wp2_with fail
        refine hX.mono ?_
        clear hX
        rintro e w3 ⟨h3, hcase⟩
        rcases hcase with ⟨q2, ln2, cl2, hls2, rfl⟩ | ⟨toks2, v2, hls2, rfl, hown2⟩
        · rw [HLS.out] at hls2
          injection hls2 with hls2
          injection hls2 with e1 hls2
          injection hls2 with e2 e3
          subst e1 e2 e3
          have BF3 := (BF2.below' hr).below' h3
          have f0 := cellA1 (show w3.cell? ⟨w1.heap.size, 0, none⟩ = some (.int .i64 q) from BF3.cell 0)
          have f1 := cellA1 (show w3.cell? ⟨w1.heap.size, 1, none⟩ = some (.int .i64 ln) from BF3.cell 1)
          have f2 := cellA1 (show w3.cell? ⟨w1.heap.size, 2, none⟩ = some (.int .i64 cl) from BF3.cell 2)
          have hr3 := Kit.Below.al (Kit.Below.then hr h3) (.cells #[.int .i64 q, .int .i64 ln, .int .i64 cl] 29)
          clear BF3
          go_wp2_with fail
          refine (lfault_eq _ _ _ _).mono ?_
          rintro e w4 ⟨rfl, h4⟩
          have hr4 := Kit.Below.then hr3 h4
          clear f0 f1 f2
          go_wp2_with fail
          go_loopg [9] 0 (fun m s9 wq => s9 = .int .i64 0 ∧ wq = w4 ∧ m = 0)
          case atStart => exact ⟨rfl, rfl, rfl⟩
          case round =>
            obtain ⟨rfl, rfl, rfl⟩ := hrel
            go_wp2_with fail
            go_roundg (2 - (i + 1))
            case measure => have := HM.out; omega
            case rel => exact ⟨i + 1, rfl, by omega, rfl, hr4⟩
        · rw [HLS.out] at hls2
          cases hls2
      · obtain rfl : i = 2 := by omega
        have b1 : ¬ ((2 : Int) < 2) := by omega
        go_wp2_with fail
        refine (left_any ga capa A l.length c l _ (hB.below hr) hca (HL.out.below hbr) hlen).mono ?_
        rintro e w4 ⟨rfl, h4⟩
        have hb4 := Kit.Below.then hbr h4
        go_wp2_with fail
        refine (awake_any _ (hE.below hb4)).mono ?_
        rintro e w5 ⟨rfl, h5⟩
        go_wp2_with fail
        go_ret
        exact ⟨rfl, Kit.Below.then hb4 h5⟩
  · have hpos := lexS_pos hls
    have htl := lexS_le hls
    obtain ⟨gw, capw, rfl, _, hTW⟩ := Toks.own hown hpos
    have hba := Kit.Below.al h1 (.cells #[.int .i64 0, .int .i64 0, .int .i64 0] 38)
    have BF := Blk.new w1 38 #[.int .i64 0, .int .i64 0, .int .i64 0]
    have HLS := Lib.hid hls
    have hTWa := hTW.below (Kit.Below.al (Below.refl w1.heap.size w1) (.cells #[.int .i64 0, .int .i64 0, .int .i64 0] 38))
    clear hls hTW hown
    go_wp2_with fail
    refine (marked_any A l.length c l _ (HL.out.below hba) hlen).mono ?_
    rintro e w2 ⟨h2, ga, capa, rfl, hB, hca⟩
    have hb2 := Kit.Below.then hba h2
    have BF2 := BF.below' h2
    have hTW2 := hTWa.below h2
    clear hba BF h2 hTWa
    go_wp2_with fail
    go_loopg [6] 2 (fun m s6 wr => CoRel w2 m s6 wr)
    case atStart => exact ⟨0, rfl, by omega, rfl, Below.refl _ _⟩
    case round =>
      obtain ⟨W0, rfl⟩ : ∃ x, x = wr := ⟨_, rfl⟩
      obtain ⟨i, rfl, hi, hm, hr⟩ := hrel
      have hbr := Kit.Below.then hb2 hr
      have HM := Lib.hid hm
      clear hm
      by_cases hi2 : i < 2
      · have b1 : (i : Int) < 2 := by omega
        have hX := Lex_any (some ⟨ga, 0, none⟩) l.length capa l W0 (hE.below hbr) ((hB.below hr).start (by simp))
        have b2 : ¬ (capa = 0) := by omega
        have b3 : (l.length : Int) ≤ (capa : Int) := by omega
        go_wp2_with fail
        refine hX.mono ?_
        clear hX
        rintro e w3 ⟨h3, hcase⟩
        rcases hcase with ⟨q2, ln2, cl2, hls2, rfl⟩ | ⟨toks2, v2, hls2, rfl, hown2⟩
        · rw [HLS.out] at hls2
          cases hls2
        · rw [HLS.out] at hls2
          injection hls2 with hls2
          subst hls2
          obtain ⟨g2, cap2, rfl, hg2, hT2⟩ := Toks.own hown2 hpos
          have BF3 := (BF2.below' hr).below' h3
          have f0 := cellA1 (show w3.cell? ⟨w1.heap.size, 0, none⟩ = some (.int .i64 0) from BF3.cell 0)
          have f1 := cellA1 (show w3.cell? ⟨w1.heap.size, 1, none⟩ = some (.int .i64 0) from BF3.cell 1)
          have f2 := cellA1 (show w3.cell? ⟨w1.heap.size, 2, none⟩ = some (.int .i64 0) from BF3.cell 2)
          have ha3 := Kit.Below.al (Below.refl w3.heap.size w3) (.cells #[.int .i64 0, .int .i64 0, .int .i64 0] 29)
          clear BF3 hown2
          go_wp2_with fail
          refine (lfault_eq _ _ _ _).mono ?_
          rintro e w4 ⟨rfl, h4⟩
          have h34 := Kit.Below.then ha3 h4
          have hr4 := Kit.Below.then h3 h34
          have hT4 := hT2.below h34
          clear f0 f1 f2 ha3 h34 hT2 h4
          go_wp2_with fail
          go_loopg [9] toks.length (fun m s9 wq => CiRel toks W0 W0.heap.size g2 m s9 wq)
          case atStart => exact ⟨0, rfl, by omega, rfl, hr4, hT4⟩
          case round =>
            obtain ⟨k, rfl, hk, hmk, hbk, hTk⟩ := hrel
            have HMK := Lib.hid hmk
            clear hmk
            by_cases hkl : k < toks.length
            · have a1 : (0 : Int) ≤ (k : Int) := by omega
              have a2 : (k : Int) < (toks.length : Int) := by omega
              have hbr2 : Below w2.heap.size w2 wr := hr.trans (hbk.mono hr.size)
              have hTq := hTW2.below hbr2
              have p0 : ∀ p : Cls (Below wr.heap.size wr), p.w.cell? ⟨g2, k * 5, none⟩ = some (.int .i64 (toks[k]).kind) := fun p => ((hTk.below p.h).2.2 k hkl (Nat.le_refl _)).1
              have p1 : ∀ p : Cls (Below wr.heap.size wr), p.w.cell? ⟨g2, k * 5 + 1, none⟩ = some (.string ⟨(toks[k]).text.toArray⟩) := fun p => ((hTk.below p.h).2.2 k hkl (Nat.le_refl _)).2.1
              have p2 : ∀ p : Cls (Below wr.heap.size wr), p.w.cell? ⟨g2, k * 5 + 2, none⟩ = some (.int .u64 (toks[k]).val) := fun p => ((hTk.below p.h).2.2 k hkl (Nat.le_refl _)).2.2.1
              have p3 : ∀ p : Cls (Below wr.heap.size wr), p.w.cell? ⟨g2, k * 5 + 3, none⟩ = some (.int .i64 (toks[k]).line) := fun p => ((hTk.below p.h).2.2 k hkl (Nat.le_refl _)).2.2.2.1
              have p4 : ∀ p : Cls (Below wr.heap.size wr), p.w.cell? ⟨g2, k * 5 + 4, none⟩ = some (.int .i64 (toks[k]).col) := fun p => ((hTk.below p.h).2.2 k hkl (Nat.le_refl _)).2.2.2.2
              have q0 : ∀ p : Cls (Below wr.heap.size wr), p.w.cell? ⟨gw, k * 5, none⟩ = some (.int .i64 (toks[k]).kind) := fun p => ((hTq.below p.h).2.2 k hkl (Nat.zero_le _)).1
              have q1 : ∀ p : Cls (Below wr.heap.size wr), p.w.cell? ⟨gw, k * 5 + 1, none⟩ = some (.string ⟨(toks[k]).text.toArray⟩) := fun p => ((hTq.below p.h).2.2 k hkl (Nat.zero_le _)).2.1
              have q2 : ∀ p : Cls (Below wr.heap.size wr), p.w.cell? ⟨gw, k * 5 + 2, none⟩ = some (.int .u64 (toks[k]).val) := fun p => ((hTq.below p.h).2.2 k hkl (Nat.zero_le _)).2.2.1
              have q3 : ∀ p : Cls (Below wr.heap.size wr), p.w.cell? ⟨gw, k * 5 + 3, none⟩ = some (.int .i64 (toks[k]).line) := fun p => ((hTq.below p.h).2.2 k hkl (Nat.zero_le _)).2.2.2.1
              have q4 : ∀ p : Cls (Below wr.heap.size wr), p.w.cell? ⟨gw, k * 5 + 4, none⟩ = some (.int .i64 (toks[k]).col) := fun p => ((hTq.below p.h).2.2 k hkl (Nat.zero_le _)).2.2.2.2
              have CI : ∀ p : Cls (Below wr.heap.size wr), Hid (Calls Tryd.prog 16 #[.agg #[.int .i64 (toks[k]).kind, .string ⟨(toks[k]).text.toArray⟩, .int .u64 (toks[k]).val, .int .i64 (toks[k]).line, .int .i64 (toks[k]).col], .agg #[.int .i64 (toks[k]).kind, .string ⟨(toks[k]).text.toArray⟩, .int .u64 (toks[k]).val, .int .i64 (toks[k]).line, .int .i64 (toks[k]).col]] p.w fun e w' => e = .returned (.bool true) ∧ ∃ q : Cls (Below wr.heap.size wr), w' = q.w) :=
                fun p => Calls.cls ((lsame_eq toks[k] p.w).mono fun e w' ⟨h1, h2⟩ => ⟨h1, Kit.Below.then p.h h2⟩)
              clear hTq
              go_wp2_with fail
              refine wp_region_cls (Below wr.heap.size wr) (Below_drewN _ 1) (by kernel_rfl) (by kernel_rfl) ?_
              intro hne
              repeat (go_big_quiet_step ((go_at_call 16; exact (CI _).out)))
              refine wpQuiet_nil ?_
              intro w8 h8
              clear hne
              have hT8 := hTk.below h8
              have hbk8 := hbk.trans (h8.mono hbk.size)
              obtain ⟨t0, t1, t2, t3, t4⟩ := hT8.2.2 k hkl (Nat.le_refl _)
              have tz := hT8.2.1
              have hN := hT8.next (.int .i64 9) (.string ⟨#[]⟩) (.int .u64 0) (.int .i64 0) (.int .i64 0)
              have HN := Lib.hid hN
              clear CI p0 p1 p2 p3 p4 q0 q1 q2 q3 q4 hT8 hN
              go_wp2_with fail
              go_roundg (toks.length - (k + 1))
              case measure => have := HMK.out; omega
              case rel =>
                refine ⟨k + 1, rfl, by omega, rfl, ?_, HN.out⟩
                exact ((((hbk8.setCell hg2 _).setCell hg2 _).setCell hg2 _).setCell hg2 _).setCell hg2 _
            · obtain rfl : k = toks.length := by omega
              have a2 : ¬ ((toks.length : Int) < (toks.length : Int)) := by omega
              have hr5 := hr.trans (hbk.mono hr.size)
              go_wp2_with fail
              go_roundg (2 - (i + 1))
              case measure => have := HM.out; omega
              case rel => exact ⟨i + 1, rfl, by omega, rfl, hr5⟩
      · obtain rfl : i = 2 := by omega
        have b1 : ¬ ((2 : Int) < 2) := by omega
        go_wp2_with fail
        refine (left_any ga capa A l.length c l _ (hB.below hr) hca (HL.out.below hbr) hlen).mono ?_
        rintro e w4 ⟨rfl, h4⟩
        have hb4 := Kit.Below.then hbr h4
        go_wp2_with fail
        refine (awake_any _ (hE.below hb4)).mono ?_
        rintro e w5 ⟨rfl, h5⟩
        go_wp2_with fail
        go_ret
        exact ⟨rfl, Kit.Below.then hb4 h5⟩
end Go.Proofs.YtpamnnllijkpfaaDoor.LexW
