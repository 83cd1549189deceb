/- PLAIN: the tokens of a text that is written out, reckoned. -/
import Derived.Test.YtpamnnllijkpfaaDoorLexO
import Derived.KernelRfl
namespace Go.Proofs.YtpamnnllijkpfaaDoor.LexP
open Go

def whileE : Nat → (Int → Bool) → St → Option St
  | 0, _, _ => none
  | f + 1, is, s => if s.goes is = true then whileE f is s.step else some s
theorem whileE_eq {is : Int → Bool} {t : St} (f : Nat) : ∀ s : St, whileE f is s = some t → s.while is = t := by
  induction f with
  | zero => intro s h; cases h
  | succ f ih =>
    intro s h
    unfold whileE at h
    split at h
    · rename_i hg
      rw [while_yes hg]
      exact ih _ h
    · rename_i hg
      rw [while_no (by simpa using hg)]
      injection h

def blanksE : Nat → St → Option St
  | 0, _ => none
  | f + 1, s => match whileE f blkB s with
    | none => none
    | some t => if slash t.rest = true then match whileE f lineB t with
        | none => none
        | some u => blanksE f u
      else some t
theorem blanksE_eq {t : St} (f : Nat) : ∀ s : St, blanksE f s = some t → s.blanks = t := by
  induction f with
  | zero => intro s h; cases h
  | succ f ih =>
    intro s h
    unfold blanksE at h
    split at h
    · cases h
    · rename_i u hu
      have e1 := whileE_eq f s hu
      split at h
      · rename_i hs
        split at h
        · cases h
        · rename_i v hv
          have e2 := whileE_eq f u hv
          rw [blanks_yes (by rw [e1]; exact hs), e1, e2]
          exact ih _ h
      · rename_i hs
        rw [blanks_no (by rw [e1]; simpa using hs), e1]
        injection h

def numE (f : Nat) (s : St) : Option (Except (Nat × Nat) (Nat × St)) :=
  match whileE f (if hexP s.rest then hexB else digB) (if hexP s.rest then s.step.step else s) with
  | none => none
  | some s1 => some (if upTo (if hexP s.rest then s.step.step else s) s1 = [] then .error (s1.line, s1.col)
    else match valS (if hexP s.rest then 16 else 10) 0 (upTo (if hexP s.rest then s.step.step else s) s1) with
      | none => .error (s.line, s.col)
      | some v => if 0 < (dec s1.rest).2 ∧ nameB (dec s1.rest).1 = true then .error (s1.line, s1.col) else .ok (v, s1))
theorem numE_eq {f : Nat} {s : St} {r : Except (Nat × Nat) (Nat × St)} (h : numE f s = some r) : numS s = r := by
  unfold numE at h
  split at h
  · cases h
  · rename_i s1 h1
    have e := whileE_eq f _ h1
    injection h with h
    rw [← h]
    unfold numS
    simp only [e]
    rfl

def tokenE (f : Nat) (s : St) : Option (Except (Nat × Nat) (Tok × St)) :=
  if (dec s.rest).2 = 0 then some (.ok (⟨5, [], 0, s.line, s.col⟩, s))
  else if digB (dec s.rest).1 then match numE f s with
    | none => none
    | some r => some (match r with
      | .error f => .error f
      | .ok (v, s1) => .ok (⟨2, upTo s s1, v, s.line, s.col⟩, s1))
  else if letB (dec s.rest).1 then match whileE f nameB s with
    | none => none
    | some s1 => some (.ok (⟨if wordB (upTo s s1) then 3 else 1, upTo s s1, 0, s.line, s.col⟩, s1))
  else some (if dblB s.rest then .ok (⟨4, s.rest.take 2, 0, s.line, s.col⟩, s.step.step)
    else if 0 < (dec s.rest).1 ∧ sg1 (dec s.rest).1 = true then .ok (⟨4, s.rest.take 1, 0, s.line, s.col⟩, s.step)
    else .error (s.line, s.col))
theorem tokenE_eq {f : Nat} {s : St} {r : Except (Nat × Nat) (Tok × St)} (h : tokenE f s = some r) : tokenS s = r := by
  unfold tokenE at h
  unfold tokenS
  split at h
  · rename_i h0
    rw [if_pos h0]
    injection h
  · rename_i h0
    rw [if_neg h0]
    split at h
    · rename_i h1
      rw [if_pos h1]
      split at h
      · cases h
      · rename_i r' hr
        rw [numE_eq hr]
        injection h
    · rename_i h1
      rw [if_neg h1]
      split at h
      · rename_i h2
        rw [if_pos h2]
        split at h
        · cases h
        · rename_i s1 hs
          rw [whileE_eq f _ hs]
          injection h
      · rename_i h2
        rw [if_neg h2]
        injection h

def loopE : Nat → St → Option (Except (Nat × Nat) (List Tok))
  | 0, _ => none
  | f + 1, s => match blanksE f s with
    | none => none
    | some s1 => match tokenE f s1 with
      | none => none
      | some (.error e) => some (.error e)
      | some (.ok (t, s2)) => if t.kind = 5 then some (.ok [t]) else match loopE f s2 with
        | none => none
        | some (.error e) => some (.error e)
        | some (.ok l) => some (.ok (t :: l))
theorem loopE_eq (f : Nat) : ∀ (s : St) (r : Except (Nat × Nat) (List Tok)), loopE f s = some r → lexLoop s = r := by
  induction f with
  | zero => intro s r h; cases h
  | succ f ih =>
    intro s r h
    unfold loopE at h
    split at h
    · cases h
    · rename_i s1 h1
      have e1 := blanksE_eq f s h1
      split at h
      · cases h
      · rename_i e he
        injection h with h
        rw [← h]
        exact lexLoop_bad (by rw [e1]; exact tokenE_eq he)
      · rename_i t s2 ht
        split at h
        · rename_i hk
          injection h with h
          rw [← h]
          exact lexLoop_end (by rw [e1]; exact tokenE_eq ht) hk
        · rename_i hk
          rw [lexLoop_more (by rw [e1]; exact tokenE_eq ht) hk]
          split at h
          · cases h
          · rename_i e he
            injection h with h
            rw [ih _ _ he, ← h]
          · rename_i l hl
            injection h with h
            rw [ih _ _ hl, ← h]

def lexE (f : Nat) (b : List UInt8) : Option (Except (Nat × Nat × Nat) (List Tok)) :=
  match loopE f ⟨b, 1, 1⟩ with
  | none => none
  | some (.error (l, c)) => some (.error (20, l, c))
  | some (.ok ts) => some (.ok ts)
theorem lexE_eq {f : Nat} {b : List UInt8} {r : Except (Nat × Nat × Nat) (List Tok)} (h : lexE f b = some r) (hb : b.length ≤ 65536) : lexS b = r := by
  unfold lexE at h
  unfold lexS
  rw [if_neg (by omega)]
  split at h
  · cases h
  · rename_i l c hl
    rw [loopE_eq f _ _ hl]
    injection h
  · rename_i ts hl
    rw [loopE_eq f _ _ hl]
    injection h

/-- "let α1 = 0x1F;" -/
def text1 : List UInt8 := [108, 101, 116, 32, 206, 177, 49, 32, 61, 32, 48, 120, 49, 70, 59]
theorem lex_text1 : lexS text1 = .ok [⟨3, [108, 101, 116], 0, 1, 1⟩, ⟨1, [206, 177, 49], 0, 1, 5⟩, ⟨4, [61], 0, 1, 8⟩, ⟨2, [48, 120, 49, 70], 31, 1, 10⟩, ⟨4, [59], 0, 1, 14⟩, ⟨5, [], 0, 1, 15⟩] :=
  lexE_eq (f := 40) (by kernel_rfl) (by decide)
end Go.Proofs.YtpamnnllijkpfaaDoor.LexP
