/- The small machine's calls do what the model's do. -/
import Derived.Test.YtmjilfamjlnigaaGreatQ07
namespace Go.Proofs.YtmjilfamjlnigaaGreat.Vm
open Go Go.RowKit

section
variable {P : Program}
/-- A result's value. -/
def resS (tmps : Array Value) : ResultVar → Sem Value
  | .tmp t => pure (tmps.getD t undef)
  | .cell a t => do loadVar t (← asAddr (tmps.getD a undef))
theorem results_eq (fn : Func) (tmps : Array Value) : results fn tmps = (do
    let vs ← fn.results.mapM (resS tmps)
    pure (if h : vs.size = 1 then vs[0] else .tuple vs)) := by
  unfold results
  congr 1
theorem loadB_ptr {ty : TypeId} {r : Rd} {f : Fx} {C : CallF} {t : Tr V} {h : H} {K : V → H → Option (List Out)} {q : List Out} (hf : loadB P ty r = some f) (hq : f.f C t h K = some q) : ∃ b o, r.val t = .p b o := by
  unfold loadB at hf
  obtain ⟨g, hg, hf⟩ := ob_some hf
  cases g with
  | false =>
    injection hf with hf
    subst hf
    simp only [rdK_eq] at hq
    obtain ⟨b, o, hv, _⟩ := asP_some hq
    exact ⟨b, o, hv⟩
  | true =>
    obtain ⟨n, hn, hf⟩ := ob_some hf
    injection hf with hf
    subst hf
    simp only [rdK_eq] at hq
    obtain ⟨b, o, hv, _⟩ := asP_some hq
    exact ⟨b, o, hv⟩
theorem resB_ok {A : Sub} {h : H} {w : World} {N : Nat} {t : Tr V} {a : Act} (hm : Mt A h w) (ht : TRel A h.next N t a.tmps) {r : ResultVar} {f : Tr V → H → Option V} (hr : resB P r = some f) {v : V} (hv : f t h = some v) :
    ∃ x, (resS a.tmps r).run P w = .ok x w ∧ Rel A h.next v x := by
  cases r with
  | tmp k =>
    injection hr with hr
    subst hr
    refine ⟨a.tmps.getD k undef, rfl, ?_⟩
    have := ht.2 k
    cases hk : t.get k with
    | none =>
      rw [hk] at this
      have hv : orr (t.get k) (some V.u) (fun v => some v) = some v := hv
      rw [hk] at hv
      injection hv with hv
      subst hv
      exact this
    | some u9 =>
      rw [hk] at this
      have hv : orr (t.get k) (some V.u) (fun v => some v) = some v := hv
      rw [hk] at hv
      injection hv with hv
      subst hv
      exact this
  | cell k ty =>
    obtain ⟨f', hf, hr⟩ := ob_some hr
    injection hr with hr
    subst hr
    simp only at hv
    split at hv
    · rename_i e l v' r' h' hq
      obtain ⟨v2, h1, x, h2, h3⟩ := load_ok (C := noC) (show rdB (.tmp k) = some (.t k) from rfl) hf ⟨none, .load ty (.tmp k), 0, default, #[], none⟩ rfl A h w N t a _ _ hm ht hq
      have h1 : some [(⟨.normal, .n .e (some v2) .e, h⟩ : Out)] = some _ := h1
      injection h1 with h1
      injection h1 with h1 _
      injection h1 with _ h1 _
      injection h1 with _ h1 _
      subst h1
      injection hv with hv
      subst hv
      refine ⟨x, ?_, h3⟩
      obtain ⟨b, o, hpt⟩ := loadB_ptr hf hq
      have hrel := ht.2 k
      rw [show orU (t.get k) = .p b o from hpt] at hrel
      have had := hrel.of_p.1
      have hev : a.eval (.tmp k) = .pointer (some ⟨A.ι b, o, none⟩) := had
      simp only [execOp, hev, Instr.loadAt, Instr.sureAddr, Sem.run_bind, Sem.run_pure, Result.andThen_ok] at h2
      simp only [resS, had, asAddr, Sem.run_bind, Sem.run_pure, Result.andThen_ok]
      cases hl : (loadVar ty ⟨A.ι b, o, none⟩).run P w with
      | ok y w2 =>
        rw [hl] at h2
        simp only [Result.andThen_ok] at h2
        injection h2 with h2 h2'
        injection h2 with h2
        rw [h2, h2']
      | halt x w2 =>
        rw [hl] at h2
        cases h2
    · cases hv
theorem resL_ok {A : Sub} {h : H} {w : World} {N : Nat} {t : Tr V} {a : Act} (hm : Mt A h w) (ht : TRel A h.next N t a.tmps) : ∀ {rs : List ResultVar} {fs : List (Tr V → H → Option V)} {l : List V}, mapO (resB P) rs = some fs → mapO (fun f => f t h) fs = some l →
    ∃ ys : List Value, (rs.mapM (resS a.tmps)).run P w = .ok ys w ∧ RelL A h.next l ys
  | [], fs, l, h1, h2 => by
    obtain rfl := mapO_nil h1
    obtain rfl := mapO_nil h2
    exact ⟨[], rfl, .nil⟩
  | r :: rs, fs, l, h1, h2 => by
    obtain ⟨f, fs', h3, h4, rfl⟩ := mapO_cons h1
    obtain ⟨v, l', h5, h6, rfl⟩ := mapO_cons h2
    obtain ⟨x, h7, h8⟩ := resB_ok hm ht h3 h5
    obtain ⟨ys, h9, h10⟩ := resL_ok hm ht h4 h6
    refine ⟨x :: ys, ?_, .cons _ _ _ _ h8 h10⟩
    simp [List.mapM_cons, h7, h9]
theorem resultsV_ok {A : Sub} {w : World} {N : Nat} {a : Act} {fn : Func} {fs : List (Tr V → H → Option V)} {o : Out} {p : V × H} (hm : Mt A o.h w) (ht : TRel A o.h.next N o.t a.tmps) (hf : mapO (resB P) fn.results.toList = some fs) (hr : resultsV fs o = some p) :
    (o.x = .normal ∨ o.x = .ret) ∧ p.2 = o.h ∧ ∃ x, (results fn a.tmps).run P w = .ok x w ∧ Rel A o.h.next p.1 x := by
  unfold resultsV at hr
  obtain ⟨hx, hr⟩ := bb_some hr
  obtain ⟨l, hl, hr⟩ := ob_some hr
  obtain ⟨ys, h1, h2⟩ := resL_ok hm ht hf hl
  have h3 : (fn.results.mapM (resS a.tmps)).run P w = .ok ys.toArray w := by
    rw [Array.mapM_eq_mapM_toList]
    simp [h1]
  refine ⟨?_, ?_⟩
  · cases ho : o.x with
    | normal => exact .inl rfl
    | ret => exact .inr rfl
    | exit n => rw [ho] at hx; cases hx
  · rw [results_eq]
    simp only [Sem.run_bind, h3, Result.andThen_ok, Sem.run_pure]
    split at hr
    · injection hr with hr
      subst hr
      refine ⟨rfl, _, rfl, ?_⟩
      cases h2
      exact .u
    · injection hr with hr
      subst hr
      refine ⟨rfl, _, rfl, ?_⟩
      cases h2 with
      | cons v x l xs hv hl =>
        cases hl
        exact hv
    · rename_i l' hn1 hn2
      injection hr with hr
      subst hr
      refine ⟨rfl, _, rfl, ?_⟩
      have hlen := h2.length
      have : ¬ ys.toArray.size = 1 := fun h => by
        have h4 : l.length = 1 := by rw [← hlen]; simpa using h
        match l, h4 with
        | [v], _ => exact hn2 v rfl
      rw [dif_neg this]
      exact .tup _ _ (by simpa using h2)
end
theorem fuB_some {G : Cfg} {f : FuncId} {F : Fu} (h : fuB G f = some F) : Nat.testBit G.fs f = true ∧ ∃ fn c, G.P.funcs[f]? = some fn ∧ fn.body = some c ∧ F.n = fn.ntmps ∧ mapO (resB G.P) fn.results.toList = some F.rs ∧ F.c = vcB G.P fn.ntmps c := by
  unfold fuB at h
  obtain ⟨h1, h⟩ := bb_some h
  obtain ⟨fn, hf, h⟩ := ob_some h
  obtain ⟨c, hc, h⟩ := ob_some h
  rw [fN_eq] at h
  obtain ⟨rs, hrs, h⟩ := ob_some h
  rw [fB_eq] at h
  injection h with h
  subst h
  exact ⟨h1, fn, c, hf, hc, rfl, hrs, rfl⟩
theorem trel_args {A : Sub} {n N : Nat} {args : List V} {xs : List Value} (hr : RelL A n args xs) (hl : args.length ≤ N) : TRel A n N (Tr.putsL args .e 0) (xs.toArray ++ Array.replicate (N - xs.toArray.size) undef) := by
  have hlen := hr.length
  refine ⟨by simp; omega, fun k => ?_⟩
  rw [Tr.get_putsL, Array.getD_eq_getD_getElem?]
  by_cases hk : k < args.length
  · rw [if_pos ⟨Nat.zero_le _, by omega⟩, Nat.sub_zero]
    have h1 : args[k]? = some args[k] := List.getElem?_eq_getElem hk
    obtain ⟨y, hy, h2⟩ := hr.get h1
    rw [Array.getElem?_append_left (by simp; omega), List.getElem?_toArray, hy, h1]
    exact h2
  · rw [if_neg (by omega), Tr.get_e, Array.getElem?_append_right (by simp; omega), Array.getElem?_replicate]
    split <;> exact .u
theorem callS_ok {G : Cfg} (hG : Fits G) {ex : Vc → Tr V → H → Option (List Out)} (h1 : ∀ (N : Nat) (c : Code) t h outs, ex (vcB G.P N c) t h = some outs → dokC c = true → Runs G.P N c t h outs (fun Q a w => c.wp G.P Q a w)) : CallOk G.P (callS G ex) := by
  intro f args h r hr
  unfold callS at hr
  cases hmm : G.memo f args with
  | some v =>
    rw [hmm] at hr
    injection hr with hr
    subst hr
    obtain ⟨hfl, hen, hcl⟩ := hG.memo f args v hmm
    refine ⟨hen, fun A w xs hm hrel => (hcl A h.next w xs hrel).mono fun e w' ⟨x, he, hb, A', n', hx⟩ => ⟨x, he, A, .of_below hm hb, hx.of_flat hfl⟩⟩
  | none =>
    rw [hmm] at hr
    obtain ⟨F, hF, hr⟩ := ob_some (show ob (fuB G f) _ = some r from hr)
    obtain ⟨hle, hr⟩ := bb_some hr
    rw [Tr.putL_eq] at hr
    obtain ⟨hbit, fn, c, hfn, hc, hn, hrs, hFc⟩ := fuB_some hF
    obtain ⟨hname, hdok⟩ := hG.fit f fn hbit hfn
    refine ⟨fun xs w => Go.MuLone.run_callFunc_enter hfn hname hc xs w, fun A w xs hm hrel => calls_of_wp hfn hc ?_⟩
    have hle : args.length ≤ fn.ntmps := by rw [← hn]; exact Nat.le_of_ble_eq_true hle
    have ht := trel_args hrel hle
    rw [hFc] at hr
    cases hp : F.pure && flatL args with
    | true =>
      rw [hp, br_t] at hr
      obtain ⟨outs, ho, hr⟩ := ob_some hr
      obtain ⟨ps, hps, hr⟩ := ob_some hr
      split at hr
      · rename_i x rest
        obtain ⟨hx, hr⟩ := bb_some hr
        injection hr with hr
        subst hr
        simp only [Bool.and_eq_true, List.all_eq_true] at hx
        refine h1 fn.ntmps c _ ⟨h.next, .e⟩ outs ho (hdok c hc) A w _ _ (Mt.empty A h.next w) ht rfl fun o hoo a' w' hres => ?_
        obtain ⟨A', hev, ht', hd'⟩ := hres
        obtain ⟨p, hpm, hp⟩ := mapO_mem hps o hoo
        obtain ⟨hox, _, y, hy, hrel'⟩ := resultsV_ok hev.mt ht' hrs hp
        have hpx : p.1 = x.1 := by
          rcases List.mem_cons.1 hpm with rfl | hpm
          · rfl
          · exact same_eq _ _ (hx.2 p hpm)
        rw [hpx] at hrel'
        have key : ∃ v, (results fn a'.tmps).run G.P w' = .ok v w' ∧ ∃ x', Ending.returned v = Ending.returned x' ∧ Post A h w x.1 h x' w' := ⟨y, hy, y, rfl, A, .of_below hm (Ev.below (h := h) hev), hrel'.of_flat hx.1⟩
        rcases hox with hox | hox <;> rw [hox] <;> exact ⟨hd', key⟩
      · cases hr
    | false =>
      rw [hp, br_f] at hr
      obtain ⟨outs, ho, hr⟩ := ob_some hr
      split at hr
      · rename_i o
        refine h1 fn.ntmps c _ h [o] ho (hdok c hc) A w _ _ hm ht rfl fun o' hoo a' w' hres => ?_
        obtain rfl := List.mem_singleton.1 hoo
        obtain ⟨A', hev, ht', hd'⟩ := hres
        obtain ⟨hox, hph, y, hy, hrel'⟩ := resultsV_ok hev.mt ht' hrs hr
        rw [hph]
        have key : ∃ v, (results fn a'.tmps).run G.P w' = .ok v w' ∧ ∃ x', Ending.returned v = Ending.returned x' ∧ Post A h w r.1 o'.h x' w' := ⟨y, hy, y, rfl, A', hev, hrel'⟩
        rcases hox with hox | hox <;> rw [hox] <;> exact ⟨hd', key⟩
      · cases hr
theorem exec_ok {G : Cfg} (hG : Fits G) : ∀ (n N : Nat), (∀ (c : Code) t h outs, exec G n (vcB G.P N c) t h = some outs → dokC c = true → Runs G.P N c t h outs (fun Q a w => c.wp G.P Q a w)) ∧
    (∀ (c : Code) t h outs, exec G n (.loop (vcB G.P N c)) t h = some outs → dokC c = true → Runs G.P N c t h outs (fun Q a w => Code.rounds G.P c Q n a w))
  | 0, N => ⟨fun c t h outs he => (by cases he), fun c t h outs he => (by cases he)⟩
  | n + 1, N => ⟨execS_ok hG (callS_ok hG fun N => (exec_ok hG n N).1) (exec_ok hG n N).1 n (exec_ok hG n N).2, loop_ok (exec_ok hG n N).1 (exec_ok hG n N).2⟩
theorem call_ok {G : Cfg} (hG : Fits G) (n : Nat) : CallOk G.P (call G n) := callS_ok hG fun N => (exec_ok hG n N).1
/-- A call with nothing to point at: a fact of its own. -/
theorem call_memo {G : Cfg} (hG : Fits G) {n : Nat} {f : FuncId} {args : List V} {r : V × H} (h : call G n f args ⟨0, .e⟩ = some r) (ha : flatL args = true) : (∀ (xs : Array Value) (w : World), (callFunc f xs).run G.P w = .ok (.enter f xs) w) ∧
    ∀ (A : Sub) (n : Nat) (w : World) (xs : List Value), RelL A n args xs → Calls G.P f xs.toArray w fun e w' => ∃ x, e = .returned x ∧ Below w.heap.size w w' ∧ ∃ A' n', Rel A' n' r.1 x := by
  obtain ⟨h1, h2⟩ := call_ok hG n f args ⟨0, .e⟩ r h
  refine ⟨h1, fun A n w xs hrel => (h2 A w xs (Mt.empty A 0 w) (hrel.of_flat ha)).mono fun e w' ⟨x, he, A', hev, hx⟩ => ⟨x, he, Ev.below (h := ⟨0, .e⟩) hev, A', _, hx⟩⟩
end Go.Proofs.YtmjilfamjlnigaaGreat.Vm
