/- PLAIN: P5.6: the tokens' texts, something between each two, are cut into the same. -/
import Derived.Test.YtpamnnllijkpfaaDoorMetaC
namespace Go.Proofs.YtpamnnllijkpfaaDoor.LexP
open Go

theorem upTo_append {s s1 : St} (h : s1.le s) : upTo s s1 ++ s1.rest = s.rest := by
  obtain ⟨k, hk, e⟩ := h
  have hl := congrArg List.length e
  rw [List.length_drop] at hl
  unfold upTo
  rw [hl, show s.rest.length - (s.rest.length - k) = k by omega, e, List.take_append_drop]
theorem upTo_of (t x : List UInt8) (l c l2 c2 : Nat) : upTo ⟨t ++ x, l, c⟩ ⟨x, l2, c2⟩ = t := by
  unfold upTo
  simp
theorem step_mk (p : List UInt8) (l c : Nat) (hr : (dec p).1 ≠ 10) (h0 : 0 < (dec p).2) : St.step ⟨p, l, c⟩ = ⟨p.drop (dec p).2, l, c + 1⟩ := by
  unfold St.step
  simp only
  rw [if_neg hr, if_pos h0]
theorem while_cut {is : Int → Bool} (h10 : is 10 = false) {x : List UInt8} (hx : ∀ l c, St.goes is ⟨x, l, c⟩ = false) : ∀ (n : Nat) (s : St) (l c : Nat), s.rest.length = n → ∃ c', St.while is ⟨upTo s (s.while is) ++ x, l, c⟩ = ⟨x, l, c'⟩ := by
  intro n
  induction n using Nat.strongRecOn with
  | ind n ih =>
    intro s l c hn
    subst hn
    by_cases h : s.goes is = true
    · have hne := goes_ne h
      have hg := h
      simp only [St.goes, Bool.and_eq_true, decide_eq_true_eq] at hg
      obtain ⟨h0, h1, h2⟩ := hg
      have hle := while_le is s.step
      have hlen := St.le_len hle
      have hpre := upTo_append (s := s) (s1 := s.while is) (while_le is s)
      have hdl := dec_le s.rest
      have hsr := step_rest s
      have hsl : s.step.rest.length = s.rest.length - (dec s.rest).2 := by rw [hsr, List.length_drop]
      have hp : upTo s (s.while is) = s.rest.take (dec s.rest).2 ++ upTo s.step (s.step.while is) := by
        rw [while_yes h]
        unfold upTo
        rw [hsl] at hlen ⊢
        rw [hsr, show s.rest.length - (s.step.while is).rest.length = (dec s.rest).2 + (s.rest.length - (dec s.rest).2 - (s.step.while is).rest.length) by omega, List.take_add]
      have hpl : (dec s.rest).2 ≤ (upTo s (s.while is)).length := by
        rw [hp, List.length_append, List.length_take]
        omega
      have hd : dec (upTo s (s.while is) ++ x) = dec s.rest := by
        have := dec_within (p := upTo s (s.while is)) (u := (s.while is).rest) (x := x) (by rw [hpre]; exact h1) (by rw [hpre]; exact hpl) (by rw [hpre]; exact h0)
        rw [this, hpre]
      have hr10 : (dec s.rest).1 ≠ 10 := by
        intro e
        rw [e, h10] at h2
        cases h2
      have hgo : St.goes is ⟨upTo s (s.while is) ++ x, l, c⟩ = true := by
        unfold St.goes
        rw [hd]
        exact h
      have hst : St.step ⟨upTo s (s.while is) ++ x, l, c⟩ = ⟨upTo s.step (s.step.while is) ++ x, l, c + 1⟩ := by
        rw [step_mk _ l c (by rw [hd]; exact hr10) (by rw [hd]; exact h0), hd, hp, List.append_assoc, List.drop_append_of_le_length (by rw [List.length_take]; omega)]
        have : List.drop (dec s.rest).2 (List.take (dec s.rest).2 s.rest) = [] := List.drop_eq_nil_of_le (by rw [List.length_take]; omega)
        rw [this, List.nil_append]
      rw [while_yes hgo, hst]
      exact ih _ (step_len hne) s.step l (c + 1) rfl
    · have h' : s.goes is = false := by simpa using h
      have hp : upTo s (s.while is) = [] := upTo_stop h'
      exact ⟨c, by rw [hp, List.nil_append, while_no (hx l c)]⟩
theorem while_first {is : Int → Bool} {s : St} (h : s.goes is = true) {x : List UInt8} : dec (upTo s (s.while is) ++ x) = dec s.rest ∧ upTo s (s.while is) ≠ [] := by
  have hg := h
  simp only [St.goes, Bool.and_eq_true, decide_eq_true_eq] at hg
  obtain ⟨h0, h1, h2⟩ := hg
  have hpre := upTo_append (s := s) (s1 := s.while is) (while_le is s)
  have hdl := dec_le s.rest
  have hlen := while_len is s.step
  have hsl : s.step.rest.length = s.rest.length - (dec s.rest).2 := by rw [step_rest, List.length_drop]
  have hul : (upTo s (s.while is)).length = s.rest.length - (s.while is).rest.length := by
    unfold upTo
    rw [List.length_take]
    omega
  rw [while_yes h] at hul
  have hpl : (dec s.rest).2 ≤ (upTo s (s.while is)).length := by rw [while_yes h]; omega
  refine ⟨?_, fun e => by rw [e] at hpl; simp at hpl; omega⟩
  have := dec_within (p := upTo s (s.while is)) (u := (s.while is).rest) (x := x) (by rw [hpre]; exact h1) (by rw [hpre]; exact hpl) (by rw [hpre]; exact h0)
  rw [this, hpre]

theorem hexP_cons {l : List UInt8} (h : hexP l = true) : ∃ c u, l = 48 :: c :: u ∧ (c = 120 ∨ c = 88) := by
  unfold hexP Lib.hasPrefix at h
  match l, h with
  | [], h => cases h
  | [a], h => simp at h
  | a :: b :: t, h =>
    simp at h
    rcases h with h | h
    · exact ⟨b, t, by rw [← h.1], .inl h.2.symm⟩
    · exact ⟨b, t, by rw [← h.1], .inr h.2.symm⟩
theorem hexP_mk (c : UInt8) (u : List UInt8) (h : c = 120 ∨ c = 88) : hexP (48 :: c :: u) = true := by
  rcases h with rfl | rfl
  · rfl
  · unfold hexP Lib.hasPrefix
    simp [List.isPrefixOf]
theorem name_not {x : List UInt8} (hx : Sep x) : ¬ (0 < (dec x).2 ∧ nameB (dec x).1 = true) := by
  have h := name_behind (s := ⟨[], 0, 0⟩) hx
  intro hc
  have := h.1 hc
  simp [dec_nil] at this
theorem goes_dig {s : St} (hne : s.rest ≠ []) (hd : digB (dec s.rest).1 = true) : s.goes digB = true := by
  have := dec_pos hne
  have h1 : 0 ≤ (dec s.rest).1 := by simp [digB] at hd; omega
  unfold St.goes
  rw [hd, decide_eq_true h1, decide_eq_true (by omega : 0 < (dec s.rest).2)]
  rfl
theorem goes_let {s : St} (hne : s.rest ≠ []) (hl : letB (dec s.rest).1 = true) : s.goes nameB = true := by
  have := dec_pos hne
  have h1 : 0 ≤ (dec s.rest).1 := by simp [letB] at hl; omega
  unfold St.goes nameB
  rw [hl, decide_eq_true h1, decide_eq_true (by omega : 0 < (dec s.rest).2)]
  rfl

theorem num_again {s s1 : St} {v : Nat} (hne : s.rest ≠ []) (hd : digB (dec s.rest).1 = true) (h : numS s = .ok (v, s1)) {x : List UInt8} (hx : Sep x) (l c : Nat) :
    digB (dec (upTo s s1 ++ x)).1 = true ∧ upTo s s1 ≠ [] ∧ ∃ c', numS ⟨upTo s s1 ++ x, l, c⟩ = .ok (v, ⟨x, l, c'⟩) := by
  have hn := h
  unfold numS at hn
  simp only at hn
  cases hh : hexP s.rest with
  | true =>
    obtain ⟨a, u, e, ha⟩ := hexP_cons hh
    have ha2 : a.toNat < 128 := by rcases ha with rfl | rfl <;> decide
    have ha3 : (a.toNat : Int) ≠ 10 := by rcases ha with rfl | rfl <;> decide
    rw [hh] at hn
    simp only [if_true] at hn
    have d1 : dec s.rest = (48, 1) := by rw [e]; exact dec_ascii (by decide)
    have r1 : s.step.rest = a :: u := by rw [step_rest, d1, e]; rfl
    have d2 : dec s.step.rest = ((a.toNat : Int), 1) := by rw [r1, dec_ascii ha2]
    have r2 : s.step.step.rest = u := by rw [step_rest, d2, r1]; rfl
    generalize hs0 : s.step.step = s0 at *
    have hle := while_len hexB s0
    split at hn
    · cases hn
    · rename_i hne0
      split at hn
      · cases hn
      · rename_i w hv
        split at hn
        · cases hn
        · rename_i hnm
          injection hn with hn
          injection hn with e1 e2
          subst e1
          have htx : upTo s s1 = 48 :: a :: upTo s0 (s0.while hexB) := by
            rw [← e2]
            unfold upTo
            rw [e, ← r2]
            rw [show (48 :: a :: s0.rest).length - (s0.while hexB).rest.length = (s0.rest.length - (s0.while hexB).rest.length) + 1 + 1 by simp only [List.length_cons]; omega, List.take_succ_cons, List.take_succ_cons]
          obtain ⟨c', hw⟩ := while_cut (is := hexB) (by decide) (sep_hex hx) _ s0 l (c + 1 + 1) rfl
          rw [htx]
          have q1 : dec (48 :: a :: upTo s0 (s0.while hexB) ++ x) = (48, 1) := dec_ascii (by decide)
          refine ⟨by rw [q1]; decide, by simp, c', ?_⟩
          have t1 : St.step ⟨48 :: a :: upTo s0 (s0.while hexB) ++ x, l, c⟩ = ⟨a :: upTo s0 (s0.while hexB) ++ x, l, c + 1⟩ := by
            unfold St.step
            simp only [q1]
            rfl
          have q2 : dec (a :: upTo s0 (s0.while hexB) ++ x) = ((a.toNat : Int), 1) := dec_ascii ha2
          have t2 : St.step ⟨a :: upTo s0 (s0.while hexB) ++ x, l, c + 1⟩ = ⟨upTo s0 (s0.while hexB) ++ x, l, c + 1 + 1⟩ := by
            unfold St.step
            simp only [q2]
            rw [if_neg ha3]
            rfl
          have hm := hexP_mk a (upTo s0 (s0.while hexB) ++ x) ha
          unfold numS
          simp only
          rw [show (48 :: a :: upTo s0 (s0.while hexB) ++ x) = 48 :: a :: (upTo s0 (s0.while hexB) ++ x) from rfl, hm]
          simp only [if_true]
          rw [show (48 :: a :: (upTo s0 (s0.while hexB) ++ x)) = 48 :: a :: upTo s0 (s0.while hexB) ++ x from rfl, t1, t2, hw, upTo_of, if_neg hne0, hv]
          simp only
          rw [if_neg (name_not hx)]
  | false =>
    rw [hh] at hn
    simp only [Bool.false_eq_true, if_false] at hn
    have hg := goes_dig hne hd
    split at hn
    · cases hn
    · rename_i hne0
      split at hn
      · cases hn
      · rename_i w hv
        split at hn
        · cases hn
        · rename_i hnm
          injection hn with hn
          injection hn with e1 e2
          subst e1 e2
          obtain ⟨c', hw⟩ := while_cut (is := digB) (by decide) (sep_digit hx) _ s l c rfl
          obtain ⟨hdec, _⟩ := while_first hg (x := x)
          have hpre := upTo_append (s := s) (s1 := s.while digB) (while_le digB s)
          have hhx : hexP (upTo s (s.while digB) ++ x) = false := by
            rw [ext_hexP hne0 hx, ← Bool.not_eq_true]
            intro hc
            obtain ⟨a, u, e, ha⟩ := hexP_cons hc
            rw [e] at hpre
            have := hexP_mk a (u ++ (s.while digB).rest) ha
            rw [show (48 :: a :: (u ++ (s.while digB).rest)) = 48 :: a :: u ++ (s.while digB).rest from rfl, hpre, hh] at this
            cases this
          refine ⟨by rw [hdec]; exact hd, hne0, c', ?_⟩
          unfold numS
          simp only
          rw [hhx]
          simp only [Bool.false_eq_true, if_false]
          rw [hw, upTo_of, if_neg hne0, hv]
          simp only
          rw [if_neg (name_not hx)]

theorem stn_asc (t : List UInt8) : ∀ (x : List UInt8) (l c : Nat), (∀ a ∈ t, a.toNat < 128 ∧ a ≠ 10) → stn ⟨t ++ x, l, c⟩ t.length = ⟨x, l, c + t.length⟩ := by
  induction t with
  | nil => intro x l c _; rfl
  | cons a t ih =>
    intro x l c h
    obtain ⟨h1, h2⟩ := h a (List.mem_cons_self ..)
    have hd : dec ((a :: t) ++ x) = ((a.toNat : Int), 1) := dec_ascii h1
    have h10 : ((a.toNat : Int)) ≠ 10 := by
      intro e
      apply h2
      apply UInt8.toNat_inj.1
      show a.toNat = 10
      omega
    have hst : St.step ⟨(a :: t) ++ x, l, c⟩ = ⟨t ++ x, l, c + 1⟩ := by
      unfold St.step
      simp only [hd]
      rw [if_neg h10]
      rfl
    have e : stn ⟨(a :: t) ++ x, l, c⟩ (a :: t).length = stn (St.step ⟨(a :: t) ++ x, l, c⟩) t.length := (stn_step _ _).symm
    rw [e, hst, ih x l (c + 1) (fun b hb => h b (List.mem_cons_of_mem _ hb))]
    rw [List.length_cons]
    congr 1
    omega
theorem signs_ten : ∀ t ∈ signsW, ∀ a ∈ t, a.toNat < 128 ∧ a ≠ 10 := by decide +kernel
theorem sgn_again {t u x : List UInt8} (h : sgnF (t ++ u) = some t) (hx : Sep x) : sgnF (t ++ x) = some t := by
  have hm := sgn_mem h
  have hl := (signs_low t hm.1).1
  have hne : t ≠ [] := by rintro rfl; simp at hl
  rw [ext_sgnF hne hx]
  rw [← h]
  unfold sgnF
  rw [signs_split, List.find?_append, List.find?_append]
  match t, hl with
  | [a], _ =>
    match u with
    | [] => rw [List.append_nil]
    | b :: u =>
      have h2 := h
      unfold sgnF at h2
      rw [signs_split, List.find?_append, show [a] ++ b :: u = a :: b :: u from rfl, find_dbl, find_sgl] at h2
      rw [find_dbl1, find_sgl, show [a] ++ b :: u = a :: b :: u from rfl, find_dbl, find_sgl]
      by_cases hc : dbls.contains [a, b] = true
      · rw [if_pos hc] at h2
        injection h2 with h2
        cases h2
      · rw [if_neg hc]
  | [a, b], _ => rw [show [a, b] ++ u = a :: b :: u from rfl, find_dbl, find_sgl, find_dbl, find_sgl]

/-- A token, cut again wherever its text stands ahead of what parts it. -/
theorem tok_again {s s1 : St} {t : Tok} (h : tokenS s = .ok (t, s1)) (hk : t.kind ≠ 5) {x : List UInt8} (hx : Sep x) (l c : Nat) :
    ∃ c', tokenS ⟨t.text ++ x, l, c⟩ = .ok (⟨t.kind, t.text, t.val, l, c⟩, ⟨x, l, c'⟩) := by
  have hI := tokenS_is h
  have hne : s.rest ≠ [] := fun e => hk (hI.last.2 e)
  cases hd : digB (dec s.rest).1 with
  | true =>
    rw [tokenS_digit hne hd] at h
    cases hn : numS s with
    | error f => rw [hn] at h; cases h
    | ok p =>
      obtain ⟨v, s2⟩ := p
      rw [hn] at h
      injection h with h
      injection h with e1 e2
      subst e1 e2
      obtain ⟨h1, h2, c', h3⟩ := num_again hne hd hn hx l c
      refine ⟨c', ?_⟩
      rw [tokenS_digit (s := ⟨upTo s s2 ++ x, l, c⟩) (by simp [h2]) h1, h3]
      simp only
      rw [upTo_of]
  | false =>
    cases hl : letB (dec s.rest).1 with
    | true =>
      rw [tokenS_name hne hd hl] at h
      injection h with h
      injection h with e1 e2
      subst e1 e2
      have hg := goes_let hne hl
      obtain ⟨h1, h2⟩ := while_first hg (x := x)
      obtain ⟨c', hw⟩ := while_cut (is := nameB) (by decide) (sep_name hx) _ s l c rfl
      refine ⟨c', ?_⟩
      rw [tokenS_name (s := ⟨upTo s (s.while nameB) ++ x, l, c⟩) (by simp [h2]) (by rw [h1]; exact hd) (by rw [h1]; exact hl), hw, upTo_of]
    | false =>
      rw [tokenS_sign hne hd hl] at h
      cases hs : sgnF s.rest with
      | none => rw [hs] at h; cases h
      | some y =>
        rw [hs] at h
        injection h with h
        injection h with e1 e2
        subst e1 e2
        obtain ⟨hm, hp⟩ := sgn_mem hs
        obtain ⟨u, e⟩ := List.isPrefixOf_iff_prefix.1 hp
        have hlo := signs_low y hm
        have h2 := sgn_again (t := y) (u := u) (x := x) (by rw [e]; exact hs) hx
        have hyne : y ≠ [] := by rintro rfl; simp at hlo
        have hdd : dec (y ++ x) = dec s.rest := by
          match y, hyne with
          | a :: y', _ =>
            have ha := hlo.2 a (List.mem_cons_self ..)
            rw [← e]
            have q1 : dec ((a :: y') ++ x) = _ := dec_ascii ha
            have q2 : dec ((a :: y') ++ u) = _ := dec_ascii ha
            rw [q1, q2]
        refine ⟨c + y.length, ?_⟩
        rw [tokenS_sign (s := ⟨y ++ x, l, c⟩) (by simp [hyne]) (by rw [hdd]; exact hd) (by rw [hdd]; exact hl)]
        simp only [h2]
        rw [stn_asc y x l c (signs_ten y hm)]
end Go.Proofs.YtpamnnllijkpfaaDoor.LexP
