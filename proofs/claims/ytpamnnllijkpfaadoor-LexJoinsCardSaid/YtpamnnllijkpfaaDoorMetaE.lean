/- PLAIN: P5.6: the joined texts. -/
import Derived.Test.YtpamnnllijkpfaaDoorMetaD
namespace Go.Proofs.YtpamnnllijkpfaaDoor.LexP
open Go

theorem tok_start {s s1 : St} {t : Tok} (h : tokenS s = .ok (t, s1)) (hk : t.kind ≠ 5) : s.goes blkB = false ∧ slash s.rest = false := by
  have hI := tokenS_is h
  have hne : s.rest ≠ [] := fun e => hk (hI.last.2 e)
  have key : blkB (dec s.rest).1 = false ∧ (dec s.rest).1 ≠ 47 := by
    cases hd : digB (dec s.rest).1 with
    | true =>
      simp [digB] at hd
      constructor
      · simp [blkB]; omega
      · omega
    | false =>
      cases hl : letB (dec s.rest).1 with
      | true =>
        simp [letB] at hl
        constructor
        · simp [blkB]; omega
        · omega
      | false =>
        rw [tokenS_sign hne hd hl] at h
        cases hs : sgnF s.rest with
        | none => rw [hs] at h; cases h
        | some y =>
          obtain ⟨hm, hp⟩ := sgn_mem hs
          obtain ⟨u, e⟩ := List.isPrefixOf_iff_prefix.1 hp
          have hlo := signs_low y hm
          have hyne : y ≠ [] := by rintro rfl; simp at hlo
          have hhd : ∀ z ∈ signsW, ∀ a, z.head? = some a → blkB (a.toNat : Int) = false ∧ (a.toNat : Int) ≠ 47 := by
            have h0 : ∀ z ∈ signsW, blkB (((z.head?).getD 0).toNat : Int) = false ∧ (((z.head?).getD 0).toNat : Int) ≠ 47 := by decide +kernel
            intro z hz a ha
            have := h0 z hz
            rw [ha] at this
            exact this
          match y, hyne with
          | a :: y', _ =>
            have ha := hlo.2 a (List.mem_cons_self ..)
            have hdd : dec s.rest = ((a.toNat : Int), 1) := by rw [← e]; exact dec_ascii ha
            rw [hdd]
            exact hhd _ hm a rfl
  constructor
  · unfold St.goes
    rw [key.1]
    simp
  · rw [← Bool.not_eq_true]
    intro hsl
    obtain ⟨t, e⟩ := slash_cons hsl
    exact key.2 (by rw [e, dec_ascii (by decide)]; rfl)

/-- A token, places aside. -/
def core (t : Tok) : Nat × List UInt8 × Nat := (t.kind, t.text, t.val)

theorem join_loop (g : List UInt8) (nl nc : Nat → Nat) (hg : ∀ P l c, Sep (g ++ P) ∧ lexLoop ⟨g ++ P, l, c⟩ = lexLoop ⟨P, nl l, nc c⟩) :
    ∀ (n : Nat) (s : St) (toks : List Tok), s.rest.length = n → lexLoop s = .ok toks → ∀ l c, ∃ toks', lexLoop ⟨toks.dropLast.flatMap (fun t => t.text ++ g), l, c⟩ = .ok toks' ∧ toks'.map core = toks.map core ∧
      (∀ i (h : i < toks'.length), (toks'[i]).line = Nat.repeat nl i l ∧ (c = 1 → (∀ c, nc c = 1) → (toks'[i]).col = 1)) := by
  intro n
  induction n using Nat.strongRecOn with
  | ind n ih =>
    intro s toks hn h l c
    subst hn
    have hbl := blanks_len s
    cases ht : tokenS s.blanks with
    | error f => rw [lexLoop_bad ht] at h; cases h
    | ok p =>
      obtain ⟨t, s1⟩ := p
      by_cases hk : t.kind = 5
      · rw [lexLoop_end ht hk] at h
        injection h with h
        subst h
        have hne := (tokenS_is ht).last.1 hk
        have he := tokenS_end hne
        rw [ht] at he
        injection he with he
        injection he with he _
        have hst : St.blanks ⟨[], l, c⟩ = ⟨[], l, c⟩ := blanks_stay (by simp [St.goes, dec_nil]) rfl
        refine ⟨[⟨5, [], 0, l, c⟩], lexLoop_end (by rw [show ([t].dropLast.flatMap fun t => t.text ++ g) = [] from rfl, hst]; exact tokenS_end rfl) rfl, by rw [he]; rfl, ?_⟩
        intro i hi
        have : i = 0 := by simpa using hi
        subst this
        exact ⟨rfl, fun hc _ => hc⟩
      · have hls := tokenS_less ht hk
        rw [lexLoop_more ht hk] at h
        cases h3 : lexLoop s1 with
        | error f => rw [h3] at h; cases h
        | ok l1 =>
          rw [h3] at h
          injection h with h
          subst h
          have hl1 : l1 ≠ [] := by
            intro e
            have := LexW.lexLoop_pos _ _ h3
            rw [e] at this
            simp at this
          have hdl : (t :: l1).dropLast = t :: l1.dropLast := List.dropLast_cons_of_ne_nil hl1
          have hP : (t :: l1).dropLast.flatMap (fun t => t.text ++ g) = t.text ++ (g ++ l1.dropLast.flatMap (fun t => t.text ++ g)) := by
            rw [hdl, List.flatMap_cons, List.append_assoc]
          obtain ⟨hsep, _⟩ := hg (l1.dropLast.flatMap (fun t => t.text ++ g)) l c
          obtain ⟨c', hagain⟩ := tok_again ht hk hsep l c
          obtain ⟨hb1, hb2⟩ := tok_start hagain hk
          have hbs := blanks_stay hb1 hb2
          obtain ⟨_, hgl⟩ := hg (l1.dropLast.flatMap (fun t => t.text ++ g)) l c'
          obtain ⟨l1', q1, q2, q3⟩ := ih _ (by omega) s1 l1 rfl h3 (nl l) (nc c')
          rw [hP]
          refine ⟨⟨t.kind, t.text, t.val, l, c⟩ :: l1', ?_, ?_, ?_⟩
          · have hm : lexLoop ⟨t.text ++ (g ++ l1.dropLast.flatMap (fun t => t.text ++ g)), l, c⟩ = _ := lexLoop_more (t := ⟨t.kind, t.text, t.val, l, c⟩) (s1 := ⟨g ++ l1.dropLast.flatMap (fun t => t.text ++ g), l, c'⟩) (by rw [hbs]; exact hagain) hk
            rw [hm, hgl, q1]
          · simp only [List.map_cons, q2]
            rfl
          · intro i hi
            cases i with
            | zero => exact ⟨rfl, fun hc _ => hc⟩
            | succ i =>
              have := q3 i (by simpa using hi)
              simp only [List.getElem_cons_succ]
              refine ⟨?_, fun _ hnc => this.2 (hnc c') hnc⟩
              rw [this.1]
              clear this
              induction i with
              | zero => rfl
              | succ i ih2 =>
                show nl (Nat.repeat nl i (nl l)) = nl (Nat.repeat nl (i + 1) l)
                rw [ih2 (by simp at hi ⊢; omega)]
theorem repeat_succ (i l : Nat) : Nat.repeat (· + 1) i l = l + i := by
  induction i with
  | zero => rfl
  | succ i ih => show Nat.repeat (· + 1) i l + 1 = _; rw [ih]; omega

def glue1 : List UInt8 := [32]
/-- "// α\n" -/
def glue2 : List UInt8 := [47, 47, 32, 206, 177, 10]
theorem glue1_ok (P : List UInt8) (l c : Nat) : Sep (glue1 ++ P) ∧ lexLoop ⟨glue1 ++ P, l, c⟩ = lexLoop ⟨P, l, c + 1⟩ := by
  refine ⟨.inr ⟨32, P, rfl, .inr (.inl rfl)⟩, lexLoop_congr ?_⟩
  have hd : dec (glue1 ++ P) = (32, 1) := dec_ascii (by decide)
  have hgo : St.goes blkB ⟨glue1 ++ P, l, c⟩ = true := by unfold St.goes; rw [hd]; rfl
  rw [blanks_step hgo, step_mk _ l c (by rw [hd]; decide) (by rw [hd]; decide), hd]
  rfl
theorem dec_alpha (P : List UInt8) : dec (206 :: 177 :: P) = (945, 2) := by
  have e : Lib.decodeL (206 :: 177 :: P) = (945, 2) := by
    rw [Lib.decodeL_N]
    have h0 : ((206 :: 177 :: P : List UInt8).getD 0 0).toNat = 206 := rfl
    have h1 : ((206 :: 177 :: P : List UInt8).getD 1 0).toNat = 177 := rfl
    rw [h0, h1, decodeN_w2 (by decide) ⟨by simp, by decide⟩]
    rfl
  unfold dec
  rw [if_neg (by simp), e, if_neg (by decide)]
  rfl
theorem glue2_ok (P : List UInt8) (l c : Nat) : Sep (glue2 ++ P) ∧ lexLoop ⟨glue2 ++ P, l, c⟩ = lexLoop ⟨P, l + 1, 1⟩ := by
  refine ⟨.inr ⟨47, _, rfl, .inr (.inr rfl)⟩, lexLoop_congr ?_⟩
  have d1 : dec (47 :: 47 :: 32 :: 206 :: 177 :: 10 :: P) = (47, 1) := dec_ascii (by decide)
  have d2 : dec (47 :: 32 :: 206 :: 177 :: 10 :: P) = (47, 1) := dec_ascii (by decide)
  have d3 : dec (32 :: 206 :: 177 :: 10 :: P) = (32, 1) := dec_ascii (by decide)
  have d4 : dec (206 :: 177 :: 10 :: P) = (945, 2) := dec_alpha _
  have d5 : dec (10 :: P) = (10, 1) := dec_ascii (by decide)
  have s1 : ∀ c, St.step ⟨47 :: 47 :: 32 :: 206 :: 177 :: 10 :: P, l, c⟩ = ⟨47 :: 32 :: 206 :: 177 :: 10 :: P, l, c + 1⟩ := fun c => by rw [step_mk _ l c (by rw [d1]; decide) (by rw [d1]; decide), d1]; rfl
  have s2 : ∀ c, St.step ⟨47 :: 32 :: 206 :: 177 :: 10 :: P, l, c⟩ = ⟨32 :: 206 :: 177 :: 10 :: P, l, c + 1⟩ := fun c => by rw [step_mk _ l c (by rw [d2]; decide) (by rw [d2]; decide), d2]; rfl
  have s3 : ∀ c, St.step ⟨32 :: 206 :: 177 :: 10 :: P, l, c⟩ = ⟨206 :: 177 :: 10 :: P, l, c + 1⟩ := fun c => by rw [step_mk _ l c (by rw [d3]; decide) (by rw [d3]; decide), d3]; rfl
  have s4 : ∀ c, St.step ⟨206 :: 177 :: 10 :: P, l, c⟩ = ⟨10 :: P, l, c + 1⟩ := fun c => by rw [step_mk _ l c (by rw [d4]; decide) (by rw [d4]; decide), d4]; rfl
  have s5 : ∀ c, St.step ⟨10 :: P, l, c⟩ = ⟨P, l + 1, 1⟩ := fun c => by
    unfold St.step
    simp only [d5]
    rfl
  have g0 : St.goes blkB ⟨47 :: 47 :: 32 :: 206 :: 177 :: 10 :: P, l, c⟩ = false := by unfold St.goes; rw [d1]; rfl
  have sl : slash (47 :: 47 :: 32 :: 206 :: 177 :: 10 :: P) = true := rfl
  have w1 : St.while lineB ⟨47 :: 47 :: 32 :: 206 :: 177 :: 10 :: P, l, c⟩ = ⟨10 :: P, l, c + 1 + 1 + 1 + 1⟩ := by
    rw [while_yes (by unfold St.goes; rw [d1]; rfl), s1, while_yes (by unfold St.goes; rw [d2]; rfl), s2, while_yes (by unfold St.goes; rw [d3]; rfl), s3, while_yes (by unfold St.goes; rw [d4]; rfl), s4,
      while_no (by unfold St.goes; rw [d5]; rfl)]
  show St.blanks ⟨47 :: 47 :: 32 :: 206 :: 177 :: 10 :: P, l, c⟩ = _
  rw [blanks_line g0 sl, w1, blanks_step (by unfold St.goes; rw [d5]; rfl), s5]

theorem join1 {b : List UInt8} {toks : List Tok} (h : lexLoop ⟨b, 1, 1⟩ = .ok toks) : ∃ toks', lexLoop ⟨toks.dropLast.flatMap (fun t => t.text ++ glue1), 1, 1⟩ = .ok toks' ∧ toks'.map core = toks.map core := by
  obtain ⟨toks', h1, h2, _⟩ := join_loop glue1 id (· + 1) glue1_ok _ _ _ rfl h 1 1
  exact ⟨toks', h1, h2⟩
theorem join2 {b : List UInt8} {toks : List Tok} (h : lexLoop ⟨b, 1, 1⟩ = .ok toks) : ∃ toks', lexLoop ⟨toks.dropLast.flatMap (fun t => t.text ++ glue2), 1, 1⟩ = .ok toks' ∧ toks'.map core = toks.map core ∧
    ∀ i (h : i < toks'.length), (toks'[i]).line = i + 1 ∧ (toks'[i]).col = 1 := by
  obtain ⟨toks', h1, h2, h3⟩ := join_loop glue2 (· + 1) (fun _ => 1) glue2_ok _ _ _ rfl h 1 1
  refine ⟨toks', h1, h2, fun i hi => ?_⟩
  have := h3 i hi
  rw [repeat_succ] at this
  exact ⟨by rw [this.1]; omega, this.2 rfl (fun _ => rfl)⟩
end Go.Proofs.YtpamnnllijkpfaaDoor.LexP
