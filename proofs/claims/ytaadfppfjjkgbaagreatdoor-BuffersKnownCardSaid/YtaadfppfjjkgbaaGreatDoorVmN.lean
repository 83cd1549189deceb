/- PLAIN: a region that draws its order, in the small machine: what its canonical way says; what stands ahead of what. -/
import Derived.Test.YtaadfppfjjkgbaaGreatDoorVmM
namespace Go.Proofs.YtaadfppfjjkgbaaGreatDoor.Vm
open Go Go.RowKit

/-! ### The canonical way -/
noncomputable def smalls (t : Tr V) : List Nat → Tr V → Tr V
  | [], a => a
  | k :: us, a => smalls t us (match t.get k with | some v => a.set k (some v) | none => a)
theorem small_eq {β : Type} (t : Tr V) : ∀ (us : List Nat) (a : Tr V) (K : Tr V → Option β), small t us a K = K (smalls t us a)
  | [], _, _ => rfl
  | k :: us, a, K => by
    show orr (Tr.getP (path k) t) (small t us a K) (fun v => Tr.putP (some v) (path k) a fun a => small t us a K) = _
    rw [Tr.getP_path]
    unfold smalls
    cases t.get k with
    | none => exact small_eq t us a K
    | some v =>
      show Tr.putP (some v) (path k) a (fun a => small t us a K) = _
      rw [Tr.putP_set, small_eq t us]
theorem get_smalls (t : Tr V) : ∀ (us : List Nat) (a : Tr V) (k : Nat), (smalls t us a).get k = if k ∈ us ∧ (t.get k).isSome = true then t.get k else a.get k
  | [], a, k => by simp [smalls]
  | j :: us, a, k => by
    unfold smalls
    rw [get_smalls t us]
    by_cases h1 : k ∈ us ∧ (t.get k).isSome = true
    · rw [if_pos h1, if_pos ⟨by simp [h1.1], h1.2⟩]
    · rw [if_neg h1]
      by_cases h2 : k = j
      · subst h2
        cases hk : t.get k with
        | none => simp
        | some v =>
          rw [Tr.get_set]
          simp
      · have h3 : ¬ (k ∈ j :: us ∧ (t.get k).isSome = true) := fun h => h1 ⟨by
          rcases List.mem_cons.1 h.1 with h4 | h4
          · exact absurd h4 h2
          · exact h4, h.2⟩
        rw [if_neg h3]
        cases t.get j with
        | none => rfl
        | some v => rw [Tr.get_set, if_neg h2]
theorem smalls_get (t : Tr V) (us : List Nat) (k : Nat) : orU ((smalls t us .e).get k) = if k ∈ us then orU (t.get k) else .u := by
  rw [get_smalls, Tr.get_e]
  by_cases h : k ∈ us
  · rw [if_pos h]
    cases hk : t.get k with
    | none => simp
    | some v => simp [h]
  · rw [if_neg h, if_neg (fun h1 => h h1.1)]
    rfl
theorem one_some {x : Option (List Out)} {p : V × H} (h : one x = some p) : ∃ e l r, x = some [⟨e, .n l (some p.1) r, p.2⟩] := by
  unfold one at h
  split at h
  · injection h with h
    subst h
    exact ⟨_, _, _, rfl⟩
  · cases h
theorem tell_inj {v v' : V} {h h' : H} {e : Ex} {l r : Tr V} (he : tell v h = some [⟨e, .n l (some v') r, h'⟩]) : v = v' ∧ h = h' := by
  unfold tell at he
  injection he with he
  injection he with he _
  injection he with _ he h2
  injection he with _ h3 _
  injection h3 with h3
  exact ⟨h3, h2⟩
/-- One operation of the canonical way. -/
def CStep (C : CallF) (far : Nat) (d : Dr) (t : Tr V) (hs h : H) (v : V) (t' : Tr V) (hs' h' : H) : Prop :=
  t' = setT t d.s.d v ∧ ((wantK (smalls t d.us .e) d.s.g = false ∧ v = .u ∧ h' = h ∧ hs' = (match d.k with | .e => h | _ => hs)) ∨
    (wantK (smalls t d.us .e) d.s.g = true ∧ match d.k with
      | .e => underT (smalls t d.us .e) h.next d.us = true ∧ one (d.s.f.f C (smalls t d.us .e) h tell) = some (v, h') ∧ h.next ≤ h'.next ∧ hs' = h'
      | .soft g => ∃ x, g (smalls t d.us .e) = some x ∧ v = x.2.2 h.next ∧ h' = ⟨h.next + 1, h.t.set h.next (some (.cells x.1 x.2.1.length false (Tr.putsL x.2.1 .e 0)))⟩ ∧ hs' = hs
      | .q _ => (∃ q, one (d.s.f.f noC (smalls t d.us .e) ⟨far, hs.t⟩ tell) = some (v, q)) ∧ h' = h ∧ hs' = hs))
theorem runD_n (C : CallF) (far j : Nat) (t : Tr V) (hs h : H) (st : List (Option Nat × H)) (rs : List Re) (vs : List V) : runD C far [] j t hs h st rs vs = bb (Nat.ble h.next far) (bb (readsOk far st rs) (bb (underL h.next vs) (some [⟨.normal, t, h⟩]))) := rfl
theorem runD_c (C : CallF) (far j : Nat) (d : Dr) (l : List Dr) (t : Tr V) (hs h : H) (st : List (Option Nat × H)) (rs : List Re) (vs : List V) : runD C far (d :: l) j t hs h st rs vs = small t d.us .e fun ts => br (wantK ts d.s.g)
    (match d.k with
      | .e => bb (underT ts h.next d.us) (ob (one (d.s.f.f C ts h tell)) fun p => bb (Nat.ble h.next p.2.next) (putK t d.s.d p.1 fun t' => runD C far l (j + 1) t' p.2 p.2 ((some j, p.2) :: st) rs (p.1 :: vs)))
      | .soft g => ob (g ts) fun x => Tr.putL x.2.1 .e 0 fun c => newO h (.cells x.1 x.2.1.length false c) fun b h' => putK t d.s.d (x.2.2 b) fun t' => runD C far l (j + 1) t' hs h' st rs (x.2.2 b :: vs)
      | .q ks => ob (one (d.s.f.f noC ts ⟨far, hs.t⟩ tell)) fun p => putK t d.s.d p.1 fun t' => runD C far l (j + 1) t' hs h st (⟨ks, d.s.f, ts, p.1⟩ :: rs) (p.1 :: vs))
    (putK t d.s.d .u fun t' => match d.k with
      | .e => runD C far l (j + 1) t' h h ((some j, h) :: st) rs (.u :: vs)
      | _ => runD C far l (j + 1) t' hs h st rs (.u :: vs)) := rfl
/-- All that a canonical way says. -/
structure Canon (C : CallF) (far : Nat) (l : List Dr) (j : Nat) (t : Tr V) (hs h : H) (st : List (Option Nat × H)) (rs : List Re) (vs : List V) (outs : List Out) (T : Nat → Tr V) (S H : Nat → Vm.H) (v : Nat → V) (stf : List (Option Nat × Vm.H)) (rsf : List Re) : Prop where
  t0 : T 0 = t
  s0 : S 0 = hs
  h0 : H 0 = h
  step : ∀ i d, l[i]? = some d → CStep C far d (T i) (S i) (H i) (v i) (T (i + 1)) (S (i + 1)) (H (i + 1))
  outs : outs = [⟨.normal, T l.length, H l.length⟩]
  farle : (H l.length).next ≤ far
  ok : readsOk far stf rsf = true
  und : ∀ i, i < l.length → (v i).under (H l.length).next = true
  und0 : ∀ u9 ∈ vs, u9.under (H l.length).next = true
  st : ∀ x ∈ st, x ∈ stf
  rs : ∀ x ∈ rs, x ∈ rsf
  stE : ∀ i d, l[i]? = some d → d.k = .e → (some (j + i), S (i + 1)) ∈ stf
  rsQ : ∀ i d ks, l[i]? = some d → d.k = .q ks → wantK (smalls (T i) d.us .e) d.s.g = true → (⟨ks, d.s.f, smalls (T i) d.us .e, v i⟩ : Re) ∈ rsf
theorem underL_mem {n : Nat} : ∀ {vs : List V}, underL n vs = true → ∀ u9 ∈ vs, u9.under n = true
  | [], _, u9, hu => by cases hu
  | v :: vs, h, u9, hu => by
    simp only [underL, Bool.and_eq_true] at h
    rcases List.mem_cons.1 hu with rfl | hu
    · exact h.1
    · exact underL_mem h.2 u9 hu
theorem Canon.cons {C : CallF} {far : Nat} {d : Dr} {l : List Dr} {j : Nat} {t t' : Tr V} {hs h hs' h' : H} {v : V} {st st' : List (Option Nat × H)} {rs rs' : List Re} {vs : List V} {outs : List Out} {T : Nat → Tr V} {S H : Nat → Vm.H} {w : Nat → V} {stf : List (Option Nat × Vm.H)} {rsf : List Re}
    (hc : Canon C far l (j + 1) t' hs' h' st' rs' (v :: vs) outs T S H w stf rsf) (hst : CStep C far d t hs h v t' hs' h') (h1 : ∀ x ∈ st, x ∈ st') (h2 : ∀ x ∈ rs, x ∈ rs') (h3 : d.k = .e → (some j, hs') ∈ st')
    (h4 : ∀ ks, d.k = .q ks → wantK (smalls t d.us .e) d.s.g = true → (⟨ks, d.s.f, smalls t d.us .e, v⟩ : Re) ∈ rs') :
    Canon C far (d :: l) j t hs h st rs vs outs (fun i => match i with | 0 => t | i + 1 => T i) (fun i => match i with | 0 => hs | i + 1 => S i) (fun i => match i with | 0 => h | i + 1 => H i) (fun i => match i with | 0 => v | i + 1 => w i) stf rsf := by
  refine ⟨rfl, rfl, rfl, ?_, hc.outs, hc.farle, hc.ok, ?_, fun u9 hu => hc.und0 u9 (by simp [hu]), fun x hx => hc.st x (h1 x hx), fun x hx => hc.rs x (h2 x hx), ?_, ?_⟩
  · intro i d' hd'
    cases i with
    | zero =>
      simp only [List.getElem?_cons_zero, Option.some.injEq] at hd'
      subst hd'
      show CStep C far d t hs h v (T 0) (S 0) (H 0)
      rw [hc.t0, hc.s0, hc.h0]
      exact hst
    | succ i => exact hc.step i d' (by simpa using hd')
  · intro i hi
    cases i with
    | zero => exact hc.und0 v (by simp)
    | succ i => exact hc.und i (by simpa using hi)
  · intro i d' hd' hk
    cases i with
    | zero =>
      simp only [List.getElem?_cons_zero, Option.some.injEq] at hd'
      subst hd'
      show (some (j + 0), S 0) ∈ stf
      rw [hc.s0]
      exact hc.st _ (h3 hk)
    | succ i =>
      have := hc.stE i d' (by simpa using hd') hk
      rw [show j + (i + 1) = j + 1 + i by omega]
      exact this
  · intro i d' ks hd' hk hw
    cases i with
    | zero =>
      simp only [List.getElem?_cons_zero, Option.some.injEq] at hd'
      subst hd'
      exact hc.rs _ (h4 ks hk hw)
    | succ i => exact hc.rsQ i d' ks (by simpa using hd') hk hw
theorem canon {C : CallF} {far : Nat} : ∀ (l : List Dr) (j : Nat) (t : Tr V) (hs h : H) (st : List (Option Nat × H)) (rs : List Re) (vs : List V) (outs : List Out), runD C far l j t hs h st rs vs = some outs → ∃ T S H v stf rsf, Canon C far l j t hs h st rs vs outs T S H v stf rsf
  | [], j, t, hs, h, st, rs, vs, outs, hr => by
    rw [runD_n] at hr
    obtain ⟨h1, hr⟩ := bb_some hr
    obtain ⟨h2, hr⟩ := bb_some hr
    obtain ⟨h3, hr⟩ := bb_some hr
    injection hr with hr
    exact ⟨fun _ => t, fun _ => hs, fun _ => h, fun _ => .u, st, rs, rfl, rfl, rfl, fun i d hd => by simp at hd, hr.symm, Nat.le_of_ble_eq_true h1, h2, fun i hi => by simp at hi, underL_mem h3, fun _ h => h, fun _ h => h, fun i d hd => by simp at hd, fun i d ks hd => by simp at hd⟩
  | d :: l, j, t, hs, h, st, rs, vs, outs, hr => by
    rw [runD_c, small_eq] at hr
    cases hw : wantK (smalls t d.us .e) d.s.g with
    | true =>
      rw [hw, br_t] at hr
      cases hk : d.k with
      | e =>
        rw [hk] at hr
        obtain ⟨h1, hr⟩ := bb_some hr
        obtain ⟨p, h2, hr⟩ := ob_some hr
        obtain ⟨h3, hr⟩ := bb_some hr
        rw [putK_eq] at hr
        obtain ⟨T, S, H, w, stf, rsf, hc⟩ := canon l _ _ _ _ _ _ _ _ hr
        exact ⟨_, _, _, _, stf, rsf, hc.cons ⟨rfl, .inr ⟨hw, by rw [hk]; exact ⟨h1, h2, Nat.le_of_ble_eq_true h3, rfl⟩⟩⟩ (fun x hx => by simp [hx]) (fun x hx => hx) (fun _ => by simp) (fun ks hq => by rw [hk] at hq; cases hq)⟩
      | soft g =>
        rw [hk] at hr
        simp only at hr
        obtain ⟨x, hx, hr⟩ := ob_some hr
        rw [Tr.putL_eq] at hr
        have hr := newO_some hr
        rw [putK_eq] at hr
        obtain ⟨T, S, H, w, stf, rsf, hc⟩ := canon l _ _ _ _ _ _ _ _ hr
        exact ⟨_, _, _, _, stf, rsf, hc.cons ⟨rfl, .inr ⟨hw, by rw [hk]; exact ⟨x, hx, rfl, rfl, rfl⟩⟩⟩ (fun x hx => hx) (fun x hx => hx) (fun hq => by rw [hk] at hq; cases hq) (fun ks hq => by rw [hk] at hq; cases hq)⟩
      | q ks =>
        rw [hk] at hr
        obtain ⟨p, h2, hr⟩ := ob_some hr
        rw [putK_eq] at hr
        obtain ⟨T, S, H, w, stf, rsf, hc⟩ := canon l _ _ _ _ _ _ _ _ hr
        exact ⟨_, _, _, _, stf, rsf, hc.cons ⟨rfl, .inr ⟨hw, by rw [hk]; exact ⟨⟨p.2, h2⟩, rfl, rfl⟩⟩⟩ (fun x hx => hx) (fun x hx => by simp [hx]) (fun hq => by rw [hk] at hq; cases hq) (fun ks' hq _ => by
          rw [hk] at hq
          injection hq with hq
          subst hq
          simp)⟩
    | false =>
      rw [hw, br_f, putK_eq] at hr
      cases hk : d.k with
      | e =>
        rw [hk] at hr
        obtain ⟨T, S, H, w, stf, rsf, hc⟩ := canon l _ _ _ _ _ _ _ _ hr
        exact ⟨_, _, _, _, stf, rsf, hc.cons ⟨rfl, .inl ⟨hw, rfl, rfl, by rw [hk]⟩⟩ (fun x hx => by simp [hx]) (fun x hx => hx) (fun _ => by simp) (fun ks hq => by rw [hk] at hq; cases hq)⟩
      | soft g =>
        rw [hk] at hr
        obtain ⟨T, S, H, w, stf, rsf, hc⟩ := canon l _ _ _ _ _ _ _ _ hr
        exact ⟨_, _, _, _, stf, rsf, hc.cons ⟨rfl, .inl ⟨hw, rfl, rfl, by rw [hk]⟩⟩ (fun x hx => hx) (fun x hx => hx) (fun hq => by rw [hk] at hq; cases hq) (fun ks hq => by rw [hk] at hq; cases hq)⟩
      | q ks =>
        rw [hk] at hr
        obtain ⟨T, S, H, w, stf, rsf, hc⟩ := canon l _ _ _ _ _ _ _ _ hr
        exact ⟨_, _, _, _, stf, rsf, hc.cons ⟨rfl, .inl ⟨hw, rfl, rfl, by rw [hk]⟩⟩ (fun x hx => hx) (fun x hx => hx) (fun hq => by rw [hk] at hq; cases hq) (fun ks' _ hq => by rw [hw] at hq; cases hq)⟩
/-! ### What stands ahead -/
theorem bef_len : ∀ (l : List Oper) (acc : List Nat), (bef l acc).length = acc.length + l.length
  | [], acc => by simp [bef]
  | o :: l, acc => by simp [bef, bef_len l]; omega
theorem bef_pre : ∀ (l : List Oper) (acc : List Nat) (k : Nat), k < acc.length → (bef l acc)[k]? = acc[k]?
  | [], acc, k, _ => rfl
  | o :: l, acc, k, h => by
    simp only [bef]
    rw [bef_pre l _ k (by simp; omega), List.getElem?_append_left h]
theorem bef_take : ∀ (l : List Oper) (acc : List Nat), (bef l acc).take acc.length = acc
  | l, acc => by
    apply List.ext_getElem?
    intro k
    rw [List.getElem?_take]
    split
    · rename_i h; exact bef_pre l acc k h
    · rename_i h; rw [List.getElem?_eq_none (by omega)]
theorem bef_get : ∀ (l : List Oper) (acc : List Nat) (i : Nat) (o : Oper), l[i]? = some o → (bef l acc)[acc.length + i]? = some (bitsAt ((bef l acc).take (acc.length + i)) o)
  | [], _, _, _, h => by simp at h
  | o :: l, acc, 0, o', h => by
    simp only [List.getElem?_cons_zero, Option.some.injEq] at h
    subst h
    rw [Nat.add_zero, bef_take]
    simp only [bef]
    rw [bef_pre l _ _ (by simp)]
    simp
  | o :: l, acc, i + 1, o', h => by
    have := bef_get l (acc ++ [bitsAt acc o]) i o' (by simpa using h)
    simp only [bef]
    rw [show acc.length + (i + 1) = (acc ++ [bitsAt acc o]).length + i by simp; omega]
    exact this
theorem bits_fold (l : List Nat) (k : Nat) : ∀ (es : List Edge) (s : Nat), (es.foldl (fun s e => bif Region.binds .any e then s ||| 2 ^ e.on ||| l.getD e.on 0 else s) s).testBit k = true → s.testBit k = true ∨ ∃ e ∈ es, Region.binds .any e = true ∧ (k = e.on ∨ (l.getD e.on 0).testBit k = true)
  | [], s, h => .inl h
  | e :: es, s, h => by
    rw [List.foldl_cons] at h
    rcases bits_fold l k es _ h with h1 | ⟨e', h1, h2⟩
    · cases hb : Region.binds .any e with
      | false => rw [hb] at h1; exact .inl (by simpa using h1)
      | true =>
        rw [hb] at h1
        simp only [cond_true, Nat.testBit_or, Bool.or_eq_true] at h1
        rcases h1 with (h1 | h1) | h1
        · exact .inl h1
        · rw [Nat.testBit_two_pow] at h1
          exact .inr ⟨e, by simp, hb, .inl (of_decide_eq_true h1).symm⟩
        · exact .inr ⟨e, by simp, hb, .inr h1⟩
    · exact .inr ⟨e', by simp [h1], h2⟩
/-- What stands ahead of an operation. -/
def Ahead (ops : Array Oper) (i j : Nat) : Prop := ((bef ops.toList []).getD j 0).testBit i = true
theorem ahead_edge {ops : Array Oper} {i j : Nat} (h : Ahead ops i j) : ∃ o e, ops[j]? = some o ∧ e ∈ o.after ∧ Region.binds .any e = true ∧ (i = e.on ∨ (e.on < j ∧ Ahead ops i e.on)) := by
  unfold Ahead at h
  have hl := bef_len ops.toList []
  by_cases hj : j < ops.size
  · have ho : ops.toList[j]? = some ops[j] := by rw [Array.getElem?_toList]; exact Array.getElem?_eq_getElem hj
    have hg := bef_get ops.toList [] j ops[j] ho
    simp only [List.length_nil, Nat.zero_add] at hg
    rw [List.getD_eq_getElem?_getD, hg, Option.getD_some] at h
    unfold bitsAt at h
    rcases bits_fold _ i _ 0 h with h1 | ⟨e, h1, h2, h3⟩
    · simp at h1
    · refine ⟨ops[j], e, Array.getElem?_eq_getElem hj, by simpa using h1, h2, ?_⟩
      rcases h3 with h3 | h3
      · exact .inl h3
      · right
        by_cases hlt : e.on < j
        · refine ⟨hlt, ?_⟩
          unfold Ahead
          rw [List.getD_eq_getElem?_getD, List.getElem?_take_of_lt hlt] at h3
          rw [List.getD_eq_getElem?_getD]
          exact h3
        · rw [List.getD_eq_getElem?_getD, List.getElem?_eq_none (by simp; omega)] at h3
          simp at h3
  · rw [List.getD_eq_getElem?_getD, List.getElem?_eq_none (by rw [hl]; simp; omega)] at h
    simp at h
/-- Whatever is listed has what stands ahead of it listed. -/
def Closed (ops : Array Oper) (listed : Array Bool) : Prop := ∀ (j : Nat) (o : Oper) (e : Edge), listed.getD j false = true → ops[j]? = some o → e ∈ o.after → Region.binds .any e = true → listed.getD e.on false = true
theorem ahead_listed {ops : Array Oper} {listed : Array Bool} (hc : Closed ops listed) : ∀ (n i j : Nat), j < n → Ahead ops i j → (∀ (o : Oper) (e : Edge), ops[j]? = some o → e ∈ o.after → Region.binds .any e = true → listed.getD e.on false = true) → listed.getD i false = true
  | 0, _, _, h, _, _ => absurd h (Nat.not_lt_zero _)
  | n + 1, i, j, hj, ha, hr => by
    obtain ⟨o, e, ho, he, hb, h1⟩ := ahead_edge ha
    have hl := hr o e ho he hb
    rcases h1 with rfl | ⟨h1, h2⟩
    · exact hl
    · exact ahead_listed hc n i e.on (by omega) h2 (fun o' e' ho' he' hb' => hc e.on o' e' hl ho' he' hb')
end Go.Proofs.YtaadfppfjjkgbaaGreatDoor.Vm
