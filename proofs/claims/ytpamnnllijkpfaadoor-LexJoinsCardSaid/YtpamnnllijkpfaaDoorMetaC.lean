/- PLAIN: P5.6, its last sentence: a text that is refused is refused at the same place, whatever stands behind the next line's end. -/
import Derived.Test.YtpamnnllijkpfaaDoorMetaB
namespace Go.Proofs.YtpamnnllijkpfaaDoor.LexP
open Go

/-- Nothing, or a line's end. -/
def Eol (x : List UInt8) : Prop := x = [] ∨ ∃ v, x = 10 :: v
theorem Eol.sep {x : List UInt8} (h : Eol x) : Sep x := by
  rcases h with rfl | ⟨v, rfl⟩
  · exact .inl rfl
  · exact .inr ⟨10, v, rfl, .inl rfl⟩
theorem Eol.line {x : List UInt8} (h : Eol x) : ∀ l c, St.goes lineB ⟨x, l, c⟩ = false := by
  intro l c
  rcases h with rfl | ⟨v, rfl⟩
  · simp [St.goes, dec_nil]
  · unfold St.goes
    rw [dec_head (by decide)]
    rfl
theorem blanks_fix (s : St) : s.blanks.goes blkB = false ∧ slash s.blanks.rest = false := by
  generalize hn : s.rest.length = n
  induction n using Nat.strongRecOn generalizing s with
  | ind n ih =>
    subst hn
    have hst : ∀ (u : St), (u.while blkB).goes blkB = false := by
      intro u
      generalize hm : u.rest.length = m
      induction m using Nat.strongRecOn generalizing u with
      | ind m ih2 =>
        subst hm
        by_cases h : u.goes blkB = true
        · rw [while_yes h]
          exact ih2 _ (step_len (goes_ne h)) u.step rfl
        · have h' : u.goes blkB = false := by simpa using h
          rw [while_no h']
          exact h'
    by_cases h : slash (s.while blkB).rest = true
    · have h1 := while_len blkB s
      have h2 := slash_less h
      rw [blanks_yes h]
      exact ih _ (by omega) _ rfl
    · have h' : slash (s.while blkB).rest = false := by simpa using h
      rw [blanks_no h']
      exact ⟨hst s, h'⟩
theorem ext_slash {p x : List UInt8} (hp : p ≠ []) (hx : Eol x) : slash (p ++ x) = slash p := by
  match p, hp with
  | [a], _ =>
    rcases hx with rfl | ⟨v, rfl⟩
    · rfl
    · unfold slash Lib.hasPrefix
      simp [List.isPrefixOf]
  | a :: b :: t, _ =>
    unfold slash Lib.hasPrefix
    simp [List.isPrefixOf]
theorem slash_ne {l : List UInt8} (h : slash l = true) : l ≠ [] := by
  obtain ⟨t, rfl⟩ := slash_cons h
  simp
theorem ext_blanks {x : List UInt8} (hx : Eol x) (s : St) : (s.ext x).blanks = (s.blanks.ext x).blanks := by
  generalize hn : s.rest.length = n
  induction n using Nat.strongRecOn generalizing s with
  | ind n ih =>
    subst hn
    by_cases h : s.goes blkB = true
    · have hne := goes_ne h
      rw [blanks_step h, blanks_step (s := s.ext x) (by rw [ext_goes hne hx.sep]; exact h), ext_step hne hx.sep]
      exact ih _ (step_len hne) s.step rfl
    · have h' : s.goes blkB = false := by simpa using h
      by_cases hs : slash s.rest = true
      · have hne := slash_ne hs
        rw [blanks_line h' hs, blanks_line (s := s.ext x) (by rw [ext_goes hne hx.sep]; exact h') (by show slash (s.rest ++ x) = true; rw [ext_slash hne hx]; exact hs), ext_while hx.sep hx.line]
        exact ih _ (slash_less hs) (s.while lineB) rfl
      · have hs' : slash s.rest = false := by simpa using hs
        rw [blanks_stay h' hs']
theorem ext_blanks_ne {x : List UInt8} (hx : Eol x) {s : St} (h : s.blanks.rest ≠ []) : (s.ext x).blanks = s.blanks.ext x := by
  obtain ⟨h1, h2⟩ := blanks_fix s
  rw [ext_blanks hx, blanks_stay (s := s.blanks.ext x) (by rw [ext_goes h hx.sep]; exact h1) (by show slash (s.blanks.rest ++ x) = false; rw [ext_slash h hx]; exact h2)]
theorem blanks_idem (s : St) : s.blanks.blanks = s.blanks := blanks_stay (blanks_fix s).1 (blanks_fix s).2
theorem lexLoop_congr {s u : St} (h : s.blanks = u.blanks) : lexLoop s = lexLoop u := by
  cases ht : tokenS s.blanks with
  | error f => rw [lexLoop_bad ht, lexLoop_bad (by rw [← h]; exact ht)]
  | ok p =>
    obtain ⟨t, s1⟩ := p
    by_cases hk : t.kind = 5
    · rw [lexLoop_end ht hk, lexLoop_end (by rw [← h]; exact ht) hk]
    · have h1 := lexLoop_more ht hk
      have h2 : lexLoop u = _ := lexLoop_more (by rw [← h]; exact ht) hk
      rw [h1, h2]

/-! Lines. -/
theorem line_step (s : St) : s.line ≤ s.step.line := by
  by_cases h : s.rest = []
  · have := stn_nil h 1
    have e : s.step = s := this
    rw [e]; exact Nat.le_refl _
  · rcases place_step h with h1 | h1
    · exact Nat.le_of_lt h1
    · exact Nat.le_of_eq h1.1
theorem line_stn (s : St) (k : Nat) : s.line ≤ (stn s k).line := by
  induction k with
  | zero => exact Nat.le_refl _
  | succ k ih => exact Nat.le_trans ih (line_step _)
theorem numS_line {s : St} {ln cl : Nat} (h : numS s = .error (ln, cl)) : s.line ≤ ln := by
  unfold numS at h
  simp only at h
  have h0 : ∃ m, (if hexP s.rest = true then s.step.step else s) = stn s m := by
    split
    · exact ⟨2, rfl⟩
    · exact ⟨0, rfl⟩
  obtain ⟨a, ha⟩ := h0
  rw [ha] at h
  obtain ⟨b, hb⟩ := while_stn (if hexP s.rest = true then hexB else digB) (stn s a)
  rw [hb, LexW.stn_add] at h
  have hl := line_stn s (a + b)
  split at h
  · injection h with h
    injection h with h1 _
    omega
  · split at h
    · injection h with h
      injection h with h1 _
      omega
    · split at h
      · injection h with h
        injection h with h1 _
        omega
      · cases h
theorem tokenS_line {s : St} {ln cl : Nat} (h : tokenS s = .error (ln, cl)) : s.line ≤ ln := by
  by_cases hne : s.rest = []
  · rw [tokenS_end hne] at h; cases h
  · cases hd : digB (dec s.rest).1 with
    | true =>
      rw [tokenS_digit hne hd] at h
      split at h
      · rename_i f hn
        injection h with h
        subst h
        exact numS_line hn
      · cases h
    | false =>
      cases hl : letB (dec s.rest).1 with
      | true => rw [tokenS_name hne hd hl] at h; cases h
      | false =>
        rw [tokenS_sign hne hd hl] at h
        cases hs : sgnF s.rest with
        | none =>
          rw [hs] at h
          injection h with h
          injection h with h _
          exact Nat.le_of_eq h
        | some t => rw [hs] at h; cases h
theorem lexLoop_line : ∀ (n : Nat) (s : St) (ln cl : Nat), s.rest.length = n → lexLoop s = .error (ln, cl) → s.line ≤ ln := by
  intro n
  induction n using Nat.strongRecOn with
  | ind n ih =>
    intro s ln cl hn h
    subst hn
    obtain ⟨m, hm⟩ := blanks_stn s
    have h1 := line_stn s m
    have hbl := blanks_len s
    cases ht : tokenS s.blanks with
    | error f =>
      rw [lexLoop_bad ht] at h
      injection h with h
      subst h
      have := tokenS_line ht
      rw [hm] at this
      omega
    | ok p =>
      obtain ⟨t, s1⟩ := p
      by_cases hk : t.kind = 5
      · rw [lexLoop_end ht hk] at h; cases h
      · rw [lexLoop_more ht hk] at h
        have hls := tokenS_less ht hk
        obtain ⟨m2, hm2⟩ := (tokenS_is ht).next
        have h2 := line_stn s.blanks m2
        cases h3 : lexLoop s1 with
        | error f =>
          rw [h3] at h
          injection h with h
          subst h
          have := ih _ (by omega) s1 ln cl rfl h3
          rw [hm2, hm] at this
          rw [hm] at h2
          omega
        | ok l => rw [h3] at h; cases h

/-- The end of what is left. -/
def St.fin (s : St) : St := stn s (cnt s)
theorem fin_rest (s : St) : s.fin.rest = [] := (cnt_rest s).2
theorem fin_stn (s : St) (k : Nat) : (stn s k).fin = s.fin := by
  have h1 : (stn s (k + cnt (stn s k))).rest = [] := by rw [← LexW.stn_add]; exact fin_rest (stn s k)
  have h2 : (stn s (cnt s)).rest = [] := fin_rest s
  unfold St.fin
  rw [LexW.stn_add]
  rcases Nat.le_total (cnt s) (k + cnt (stn s k)) with h | h
  · exact stn_sat h2 h
  · exact (stn_sat h1 h).symm
theorem fin_nil {s : St} (h : s.rest = []) : s.fin = s := stn_nil h _

theorem first_ext {x y : List UInt8} (hx : Eol x) (hy : Eol y) : ∀ (n : Nat) (s : St) (ln cl : Nat), s.rest.length = n → (x = [] ∨ ln ≤ s.fin.line) → lexLoop (s.ext x) = .error (ln, cl) → lexLoop (s.ext y) = .error (ln, cl) := by
  intro n
  induction n using Nat.strongRecOn with
  | ind n ih =>
    intro s ln cl hn hL h
    subst hn
    obtain ⟨m, hm⟩ := blanks_stn s
    have hbl := blanks_len s
    have hfin : s.blanks.fin = s.fin := by rw [hm]; exact fin_stn s m
    by_cases hne : s.blanks.rest = []
    · exfalso
      have e : s.blanks.ext x = ⟨x, s.blanks.line, s.blanks.col⟩ := by unfold St.ext; rw [hne]; rfl
      have h1 : lexLoop ⟨x, s.blanks.line, s.blanks.col⟩ = .error (ln, cl) := by
        rw [← e, ← h]
        exact lexLoop_congr (ext_blanks hx s).symm
      rcases hx with rfl | ⟨v, rfl⟩
      · rw [lexLoop_end (t := ⟨5, [], 0, s.blanks.line, s.blanks.col⟩) (s1 := ⟨[], s.blanks.line, s.blanks.col⟩) ?_ rfl] at h1
        · cases h1
        · have hst : St.blanks ⟨[], s.blanks.line, s.blanks.col⟩ = ⟨[], s.blanks.line, s.blanks.col⟩ := blanks_stay (by simp [St.goes, dec_nil]) rfl
          rw [hst]
          exact tokenS_end rfl
      · have hgo : St.goes blkB ⟨10 :: v, s.blanks.line, s.blanks.col⟩ = true := by
          unfold St.goes
          rw [dec_head (by decide)]
          rfl
        have hst : St.step ⟨10 :: v, s.blanks.line, s.blanks.col⟩ = ⟨v, s.blanks.line + 1, 1⟩ := by
          unfold St.step
          rw [dec_head (h := 10) (t := v) (by decide)]
          rfl
        have h2 : lexLoop ⟨v, s.blanks.line + 1, 1⟩ = .error (ln, cl) := by
          rw [← h1]
          refine lexLoop_congr ?_
          rw [blanks_step hgo, hst]
        have h3 := lexLoop_line _ _ _ _ rfl h2
        simp only at h3
        rcases hL with hL | hL
        · cases hL
        · rw [← hfin, fin_nil hne] at hL
          omega
    · have ex := ext_blanks_ne hx hne
      have ey := ext_blanks_ne hy hne
      have tx := ext_tokenS hne hx.sep
      have ty := ext_tokenS hne hy.sep
      cases ht : tokenS s.blanks with
      | error f =>
        rw [ht] at tx ty
        have h1 : lexLoop (s.ext x) = .error f := lexLoop_bad (by rw [ex, tx]; rfl)
        rw [h1] at h
        rw [← h]
        exact lexLoop_bad (by rw [ey, ty]; rfl)
      | ok p =>
        obtain ⟨t, s1⟩ := p
        rw [ht] at tx ty
        have hI := tokenS_is ht
        have hk : t.kind ≠ 5 := fun hk => hne (hI.last.1 hk)
        have hls := tokenS_less ht hk
        obtain ⟨m2, hm2⟩ := hI.next
        have hfin1 : s1.fin = s.fin := by rw [hm2, fin_stn, hfin]
        have mx : lexLoop (s.ext x) = match lexLoop (s1.ext x) with | .error f => .error f | .ok l => .ok (t :: l) := lexLoop_more (by rw [ex, tx]; rfl) hk
        have my : lexLoop (s.ext y) = match lexLoop (s1.ext y) with | .error f => .error f | .ok l => .ok (t :: l) := lexLoop_more (by rw [ey, ty]; rfl) hk
        cases h3 : lexLoop (s1.ext x) with
        | ok l => rw [mx, h3] at h; cases h
        | error f =>
          rw [mx, h3] at h
          injection h with h
          subst h
          have := ih _ (by omega) s1 ln cl rfl (by rw [hfin1]; exact hL) h3
          rw [my, this]

/-- Lines are counted by the bytes 10. -/
theorem count_rune (l : List UInt8) (h : l ≠ []) : (l.take (dec l).2).count 10 = if (dec l).1 = 10 then 1 else 0 := by
  unfold dec
  rw [if_neg h]
  have hpos : 0 < l.length := List.length_pos_iff.2 h
  have hN := Lib.decodeL_N l
  have hle := Lib.decodeL_le l h
  have none : ∀ w, w ≤ l.length → w ≤ 4 → (0 < w → 128 ≤ (l.getD 0 0).toNat) → (1 < w → 128 ≤ (l.getD 1 0).toNat) → (2 < w → 128 ≤ (l.getD 2 0).toNat) → (3 < w → 128 ≤ (l.getD 3 0).toNat) → (l.take w).count 10 = 0 := by
    intro w hw hw4 h0 h1 h2 h3
    rw [List.count_eq_zero]
    intro hm
    obtain ⟨j, hj, he⟩ := List.mem_iff_getElem.1 hm
    rw [List.getElem_take] at he
    simp only [List.length_take] at hj
    have hg : (l.getD j 0) = 10 := by rw [List.getD, List.getElem?_eq_getElem (by omega), he]; rfl
    have h32 : (l.getD j 0).toNat = 10 := by rw [hg]; rfl
    have : j = 0 ∨ j = 1 ∨ j = 2 ∨ j = 3 := by omega
    rcases this with rfl | rfl | rfl | rfl <;> omega
  by_cases hv : Lib.decodeL l = (65533, 1)
  · rw [if_pos hv]
    have h0 : 128 ≤ (l.getD 0 0).toNat := by
      rcases Nat.lt_or_ge (l.getD 0 0).toNat 128 with h1 | h1
      · exfalso
        rw [hN] at hv
        unfold Lib.decodeN at hv
        rw [if_pos h1] at hv
        injection hv with hv _
        omega
      · exact h1
    rw [none 1 (by omega) (by omega) (fun _ => h0) (fun h => by omega) (fun h => by omega) (fun h => by omega), if_neg (by decide)]
  · rw [if_neg hv]
    have hvd := hv
    rw [hN] at hvd
    rcases decodeN_valid hvd with ⟨hw, h0⟩ | ⟨hw, h0, h1⟩ | ⟨hw, h0, h1, h2⟩ | ⟨hw, h0, h1, h2, h3⟩
    · have e : Lib.decodeL l = ((l.getD 0 0).toNat, 1) := by
        rw [hN]
        unfold Lib.decodeN
        rw [if_pos h0]
      rw [e]
      match l, h with
      | a :: t, _ =>
        simp only [List.take_succ_cons, List.take_zero]
        by_cases ha : a = 10
        · subst ha; rfl
        · rw [if_neg]
          · rw [List.count_eq_zero]
            simp only [List.mem_singleton]
            exact fun h => ha h.symm
          · intro h
            apply ha
            apply UInt8.toNat_inj.1
            have : (a.toNat : Int) = 10 := h
            show a.toNat = 10
            omega
    all_goals
      rw [← hN] at hw
      have hne : ¬ (((Lib.decodeL l).1 : Int) = 10) := by
        have := decodeN_high l.length (l.getD 0 0).toNat (l.getD 1 0).toNat (l.getD 2 0).toNat (l.getD 3 0).toNat (by omega)
        rw [← hN] at this
        omega
      rw [if_neg hne, hw]
    · exact none 2 (by omega) (by omega) (fun _ => by omega) (fun _ => by omega) (fun h => by omega) (fun h => by omega)
    · exact none 3 (by omega) (by omega) (fun _ => by omega) (fun _ => by omega) (fun _ => by omega) (fun h => by omega)
    · exact none 4 (by omega) (by omega) (fun _ => by omega) (fun _ => by omega) (fun _ => by omega) (fun _ => by omega)
theorem fin_line (s : St) : s.fin.line = s.line + s.rest.count 10 := by
  generalize hn : s.rest.length = n
  induction n using Nat.strongRecOn generalizing s with
  | ind n ih =>
    subst hn
    by_cases h : s.rest = []
    · rw [fin_nil h, h]; rfl
    · have e : s.fin = s.step.fin := (fin_stn s 1).symm
      rw [e, ih _ (step_len h) s.step rfl, step_rest]
      have hc := count_rune s.rest h
      have hsplit : s.rest.count 10 = (s.rest.take (dec s.rest).2).count 10 + (s.rest.drop (dec s.rest).2).count 10 := by
        rw [← List.count_append, List.take_append_drop]
      rw [hsplit, hc]
      have hp := dec_pos h
      unfold St.step
      split
      · simp only; omega
      · rw [if_pos (by omega)]
        simp only
        omega
/-- P5.6, its last sentence. -/
theorem first_law {b more : List UInt8} {i ln cl : Nat} (hi : i ≤ b.length) (hstop : i = b.length ∨ (b[i]? = some 10 ∧ 1 + (b.take i).count 10 = ln)) (h : lexLoop ⟨b, 1, 1⟩ = .error (ln, cl)) :
    lexLoop ⟨b.take i ++ 10 :: more, 1, 1⟩ = .error (ln, cl) := by
  have hx : Eol (b.drop i) := by
    rcases hstop with rfl | ⟨h1, _⟩
    · exact .inl (List.drop_length)
    · obtain ⟨h2, h3⟩ := List.getElem?_eq_some_iff.1 h1
      exact .inr ⟨b.drop (i + 1), by rw [List.drop_eq_getElem_cons h2, h3]⟩
  have hb : St.ext ⟨b.take i, 1, 1⟩ (b.drop i) = ⟨b, 1, 1⟩ := by unfold St.ext; rw [List.take_append_drop]
  refine first_ext hx (.inr ⟨more, rfl⟩) _ ⟨b.take i, 1, 1⟩ ln cl rfl ?_ (by rw [hb]; exact h)
  rcases hstop with rfl | ⟨_, h2⟩
  · exact .inl (List.drop_length)
  · right
    rw [fin_line]
    exact Nat.le_of_eq h2.symm
end Go.Proofs.YtpamnnllijkpfaaDoor.LexP
