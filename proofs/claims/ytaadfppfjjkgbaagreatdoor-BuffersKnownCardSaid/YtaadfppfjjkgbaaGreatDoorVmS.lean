/- The small machine's code and calls do what the model's do. -/
import Derived.Test.YtaadfppfjjkgbaaGreatDoorVmR
import Derived.LoopNIn
import Derived.RangeFuncIn
import Derived.RangeFuncRecord
import Derived.Scope
namespace Go.Proofs.YtaadfppfjjkgbaaGreatDoor.Vm
open Go Go.RowKit

section
variable {P : Program} {C : CallF}
def exitOf : Ex → Exit
  | .normal => .normal
  | .exit n => .exit n
  | .ret => .ret
theorem andThen_some {l : Option (List Out)} {f : Out → Option (List Out)} {r : List Out} (h : andThen l f = some r) : ∃ l0, l = some l0 ∧ ∀ o ∈ l0, (o.x = .normal → ∃ a, f o = some a ∧ ∀ y ∈ a, y ∈ r) ∧ (o.x ≠ .normal → o ∈ r) := by
  obtain ⟨l0, h1, h2⟩ := ob_some h
  refine ⟨l0, h1, fun o ho => ?_⟩
  obtain ⟨a, h3, h4⟩ := bindO_mem h2 o ho
  refine ⟨fun hx => ?_, fun hx => ?_⟩
  · rw [hx] at h3
    exact ⟨a, h3, h4⟩
  · cases ho' : o.x with
    | normal => exact absurd ho' hx
    | exit n => rw [ho'] at h3; injection h3 with h3; subst h3; exact h4 o (by simp)
    | ret => rw [ho'] at h3; injection h3 with h3; subst h3; exact h4 o (by simp)
theorem stepR_scope {b : Frame} {a : Act} {k : List Item} {cs : List Frame} {w : World} {c : Code} : step P (lone (b.atR a (.code (.scope c) :: k)) cs w) = .next (lone (b.atR a (.code c :: .inScope c :: k)) cs w) :=
  step_lone_go (by simp [stepG, stepG.exec, Frame.atR])
theorem stepR_inScope {b : Frame} {a : Act} {k : List Item} {cs : List Frame} {w : World} {c : Code} : step P (lone (b.atR a (.inScope c :: k)) cs w) = .next (lone (b.atR a k) cs w) :=
  step_lone_go (by simp [stepG, stepG.exec, Frame.atR])
theorem wpIn_scope {F : Fence} {n : Nat} {Q : Exit → Act → World → Prop} {a : Act} {w : World} {c : Code} (h : c.wpIn F n P (Exit.noGoto Q) a w) : (Code.scope c).wpIn F n P Q a w := by
  intro b k cs hro hb hr
  have h0 : (lone (b.atR a (.code (.scope c) :: k)) cs w).fenced P F := fenced_calm hb hr rfl
  obtain ⟨e, a₁, w₁, hq, harr⟩ := h b (.inScope c :: k) cs hro hb hr
  cases e with
  | normal => exact ⟨.normal, a₁, w₁, hq, .head h0 stepR_scope (StepsIn.trans harr (.one (fenced_calm hb hr rfl) stepR_inScope))⟩
  | exit id =>
    have hx : exitTo id (.inScope c :: k) = exitTo id k := by simp [exitTo]
    exact ⟨.exit id, a₁, w₁, hq, fun k' hk => .head h0 stepR_scope (harr.1 k' (by rw [hx]; exact hk)),
        fun hr' hk => let ⟨k₁, h1, h2⟩ := harr.2 hr' (by rw [hx]; exact hk); ⟨k₁, h1, .head h0 stepR_scope h2⟩⟩
  | goto l => exact hq.elim
  | ret => exact ⟨_, a₁, w₁, hq, .of_steps (.one h0 stepR_scope) harr⟩
  | panic ch => exact ⟨_, a₁, w₁, hq, .of_steps (.one h0 stepR_scope) harr⟩
  | outgrown => exact ⟨_, a₁, w₁, hq, .of_steps (.one h0 stepR_scope) harr⟩
theorem orNo_region {x : Option Vc} {C : CallF} {ih : Vc → Tr V → H → Option (List Out)} {t : Tr V} {h : H} {outs : List Out} (he : execS C ih (orNo x) t h = some outs) : ∃ c, x = some c ∧ execS C ih c t h = some outs := by
  cases x with
  | none => cases he
  | some c => exact ⟨c, rfl, he⟩
/-- What running some code says. -/
def Runs (_P : Program) (N : Nat) (_c : Code) (t : Tr V) (h : H) (outs : List Out) (W : (Exit → Act → World → Prop) → Act → World → Prop) : Prop :=
  ∀ (lo : Nat) (A : Sub) (w : World) (a : Act) (Q : Exit → Act → World → Prop), Mt A h w → TRel A h.next N t a.tmps → Marks lo A h w a.defers → (∀ o ∈ outs, ∀ a' w', Res lo A h w N o a' w' → Q (exitOf o.x) a' w') → W Q a w
theorem exec_s (G : Cfg) (n : Nat) (c : Vc) (t : Tr V) (h : H) : exec G (n + 1) c t h = execS (callS G (exec G n)) (exec G n) c t h := rfl
theorem exec_z (G : Cfg) (c : Vc) (t : Tr V) (h : H) : exec G 0 c t h = none := rfl
theorem seq_runs {r : Option Nat} {k N : Nat} {t : Tr V} {h : H} {outs : List Out} {ih : Vc → Tr V → H → Option (List Out)} {x y : Vc} {cx : Code} {next : (Exit → Act → World → Prop) → Act → World → Prop} (he : andThen (ih x t h) (fun o => ih y o.t o.h) = some outs)
    (h1 : ∀ t h outs, ih x t h = some outs → Runs P N cx t h outs (fun Q a w => cx.wpIn (Wide r) k P Q a w)) (h2 : ∀ t h outs, ih y t h = some outs → Runs P N cx t h outs next) :
    Runs P N cx t h outs (fun Q a w => cx.wpIn (Wide r) k P (Exit.then (next Q) Q) a w) := by
  intro lo A w a Q hm ht hd hQ
  obtain ⟨l0, h3, h4⟩ := andThen_some he
  refine h1 t h l0 h3 lo A w a _ hm ht hd fun o ho a' w' hr => ?_
  obtain ⟨h5, h6⟩ := h4 o ho
  obtain ⟨A', hev, ht', hd'⟩ := hr
  cases hx : o.x with
  | normal =>
    obtain ⟨b, h7, h8⟩ := h5 hx
    exact h2 o.t o.h b h7 lo A' w' a' Q hev.mt ht' hd' fun o2 ho2 a2 w2 hr2 => hQ o2 (h8 o2 ho2) a2 w2 (hr2.trans hev)
  | exit j =>
    have := hQ o (h6 (by rw [hx]; exact fun h => by cases h)) a' w' ⟨A', hev, ht', hd'⟩
    rw [hx] at this
    exact this
  | ret =>
    have := hQ o (h6 (by rw [hx]; exact fun h => by cases h)) a' w' ⟨A', hev, ht', hd'⟩
    rw [hx] at this
    exact this
/-- A block is given up, whatever becomes of it. -/
theorem Ev.drop {A0 A : Sub} {h0 h : H} {w0 w : World} (e : Ev A0 h0 w0 A h w) {b : Nat} {O : Vm.O} (hb : h.t.get b = some O) (hnp : O.pin = none) (o' : Obj) : Ev A0 h0 w0 A ⟨h.next, h.t.set b none⟩ (w.putObj (A.ι b) o') := by
  refine e.trans ?_
  have hg : ∀ c U, (h.t.set b none).get c = some U → c ≠ b ∧ h.t.get c = some U := fun c U hc => by
    rw [Tr.get_set] at hc
    split at hc
    · cases hc
    · rename_i hne; exact ⟨hne, hc⟩
  have hne : ∀ k, k ≠ A.ι b → (w.putObj (A.ι b) o').heap[k]? = w.heap[k]? := fun k hk => World.putObj_heap_other hk
  refine ⟨⟨fun c U hc => e.mt.lt c U (hg c U hc).2, fun c U hc => ?_, fun c c' U U' hc hc' he => e.mt.inj c c' U U' (hg c U hc).2 (hg c' U' hc').2 he⟩, Nat.le_refl _, fun _ _ => ⟨rfl, rfl⟩, fun c U hc => .inr ⟨c, U, (hg c U hc).2, rfl⟩, fun k _ hn => hne k (fun e => hn b O hb e.symm), by simp, rfl, rfl, rfl, fun c U g hc hp => by
    have hcb : c ≠ b := fun e => by
      subst e
      rw [hb] at hc
      injection hc with hc
      subst hc
      rw [hnp] at hp
      cases hp
    exact ⟨rfl, ⟨U, by rw [Tr.get_set, if_neg hcb]; exact hc, hp⟩, hne _ (fun he => hcb (e.mt.inj c b U O hc hb he))⟩⟩
  obtain ⟨h1, h2⟩ := hg c U hc
  obtain ⟨x, hx, hr⟩ := e.mt.obj c U h2
  exact ⟨x, (hne _ (fun he => h1 (e.mt.inj c b U O h2 hb he))).trans hx, hr⟩
structure Fits (G : Cfg) : Prop where
  mixed : G.P.follows .mixedOrders = true
  fit : ∀ (f : FuncId) (fn : Func), Nat.testBit G.fs f = true → G.P.funcs[f]? = some fn → (fn.name == "runtime.NumGoroutine") = false ∧ ∀ c, fn.body = some c → dokC (G.sk f) c = true
  memo : ∀ (f : FuncId) (args : List V) (h : H) (r : V × H), G.memo f args h = some r → (∀ (xs : Array Value) (w : World), (callFunc f xs).run G.P w = .ok (.enter f xs) w) ∧
    ∀ (A : Sub) (w : World) (xs : List Value), Mt A h w → RelL A h.next args xs → Calls G.P f xs.toArray w fun e w' => ∃ x, e = .returned x ∧ Post A h w r.1 r.2 x w'
theorem execS_ok {r : Option Nat} {k : Nat} {G : Cfg} (hG : Fits G) {ih : Vc → Tr V → H → Option (List Out)} (hC : CallOk G.P (callS G ih)) {N sk : Nat} {rf : Bool} (hrf : rf = true → r = none) (h1 : ∀ (c : Code) t h outs, ih (vcB G.P N rf sk c) t h = some outs → dokC sk c = true → Runs G.P N c t h outs (fun Q a w => c.wpIn (Wide r) k G.P Q a w))
    (m : Nat) (h2 : ∀ (c : Code) t h outs, ih (.loop (vcB G.P N rf sk c)) t h = some outs → dokC sk c = true → Runs G.P N c t h outs (fun Q a w => Code.roundsIn (Wide r) k G.P c Q m a w)) :
    ∀ (c : Code) t h outs, execS (callS G ih) ih (vcB G.P N rf sk c) t h = some outs → dokC sk c = true → Runs G.P N c t h outs (fun Q a w => c.wpIn (Wide r) k G.P Q a w) := by
  intro c
  have one : ∀ {lo : Nat} {t : Tr V} {h : H} {o : Out} {A : Sub} {w : World} {a : Act}, o.t = t → o.h = h → Mt A h w → TRel A h.next N t a.tmps → Marks lo A h w a.defers → Res lo A h w N o a w := by
    rintro lo t h o A w a rfl rfl hm ht hd
    exact ⟨A, .refl hm, ht, hd⟩
  induction c with
  | skip =>
    intro t h outs he _ lo A w a Q hm ht hd hQ
    injection he with he
    subst he
    exact wpIn_skip (hQ ⟨.normal, t, h⟩ (List.mem_singleton.2 rfl) a w (one rfl rfl hm ht hd))
  | label l =>
    intro t h outs he _ lo A w a Q hm ht hd hQ
    injection he with he
    subst he
    exact wpIn_label (hQ ⟨.normal, t, h⟩ (List.mem_singleton.2 rfl) a w (one rfl rfl hm ht hd))
  | exit j =>
    intro t h outs he _ lo A w a Q hm ht hd hQ
    injection he with he
    subst he
    exact wpIn_exit (hQ ⟨.exit j, t, h⟩ (List.mem_singleton.2 rfl) a w (one rfl rfl hm ht hd))
  | ret =>
    intro t h outs he _ lo A w a Q hm ht hd hQ
    injection he with he
    subst he
    exact wpIn_ret (hQ ⟨.ret, t, h⟩ (List.mem_singleton.2 rfl) a w (one rfl rfl hm ht hd))
  | seq x y _ _ =>
    intro t h outs he hk lo A w a Q hm ht hd hQ
    simp only [dokC, Bool.and_eq_true] at hk
    exact wpIn_seq (seq_runs (next := fun Q a w => y.wpIn (Wide r) k G.P Q a w) he (fun t h outs hx => h1 x t h outs hx hk.1) (fun t h outs hx => h1 y t h outs hx hk.2) lo A w a Q hm ht hd hQ)
  | cond x b e _ _ =>
    intro t h outs he hk lo A w a Q hm ht hd hQ
    simp only [dokC, Bool.and_eq_true] at hk
    obtain ⟨c, hc, he⟩ := orNo_region he
    obtain ⟨r, hr, hc⟩ := ob_some hc
    injection hc with hc
    subst hc
    have he : rdK t r (fun v => asB v fun v => br v (ih (vcB G.P N rf sk b) t h) (ih (vcB G.P N rf sk e) t h)) = some outs := he
    rw [rdK_eq] at he
    obtain ⟨y, hy, he⟩ := asB_some he
    have hrel := rd_rel ht hr
    rw [hy] at hrel
    refine wpIn_cond hrel.of_b ?_
    cases y with
    | true =>
      rw [br_t] at he
      exact h1 b t h outs he hk.1 lo A w a Q hm ht hd hQ
    | false =>
      rw [br_f] at he
      exact h1 e t h outs he hk.2 lo A w a Q hm ht hd hQ
  | block j b _ =>
    intro t h outs he hk lo A w a Q hm ht hd hQ
    obtain ⟨l0, hl, he⟩ := ob_some (show ob (ih (vcB G.P N rf sk b) t h) _ = some outs from he)
    refine wpIn_block (h1 b t h l0 hl hk lo A w a _ hm ht hd fun o ho a' w' hr => ?_)
    obtain ⟨o2, ho2, h3⟩ := mapO_mem he o ho
    cases hx : o.x with
    | normal =>
      rw [hx] at h3
      injection h3 with h3
      subst h3
      have := hQ o ho2 a' w' hr
      rw [hx] at this
      exact this
    | ret =>
      rw [hx] at h3
      injection h3 with h3
      subst h3
      have := hQ o ho2 a' w' hr
      rw [hx] at this
      exact this
    | exit i =>
      rw [hx] at h3
      have h3 : br (Nat.beq i j) (some ⟨.normal, o.t, o.h⟩) (some o) = some o2 := h3
      rw [br_beq] at h3
      show if i = j then Q .normal a' w' else Q (.exit i) a' w'
      split at h3
      · rename_i e
        rw [if_pos e]
        injection h3 with h3
        subst h3
        exact hQ _ ho2 a' w' hr
      · rename_i e
        rw [if_neg e]
        injection h3 with h3
        subst h3
        have := hQ o ho2 a' w' hr
        rw [hx] at this
        exact this
  | loop b _ =>
    intro t h outs he hk lo A w a Q hm ht hd hQ
    refine wpIn_loop_rounds (m + 1) ?_
    exact seq_runs (next := fun Q a w => Code.roundsIn (Wide r) k G.P b Q m a w) he (fun t h outs hx => h1 b t h outs hx hk) (fun t h outs hx => h2 b t h outs hx hk) lo A w a Q hm ht hd hQ
  | region id ops d =>
    intro t h outs he hk lo A w a Q hm ht hd hQ
    obtain ⟨c, hc, he⟩ := orNo_region he
    cases d with
    | true =>
      rw [br_t] at hc
      have hsk : Nat.testBit sk id = false := by
        cases hb : Nat.testBit sk id with
        | false => rfl
        | true => rw [hb, br_t] at hc; cases hc
      rw [hsk, br_f] at hc
      obtain ⟨l, hl, hc⟩ := ob_some hc
      injection hc with hc
      subst hc
      have he : fN (Nat.add h.next 1048576) (fun far => runD (callS G ih) far l 0 t h h [(none, h)] [] []) = some outs := he
      rw [fN_eq] at he
      exact draw_ok hC hG.mixed (by simp only [dokC, hsk, Bool.false_or] at hk; exact hk) hl he hm ht hd fun o ho a' w' hx hr => by
        have := hQ o ho a' w' hr
        rw [hx] at this
        exact this
    | false =>
      rw [br_f] at hc
      obtain ⟨l, hl, hc⟩ := ob_some hc
      injection hc with hc
      subst hc
      exact region_ok hC hl he hm ht hd fun o ho a' w' hx hr => by
        have := hQ o ho a' w' hr
        rw [hx] at this
        exact this
  | scope b hb =>
    intro t h outs he hk lo A w a Q hm ht hd hQ
    refine wpIn_scope (hb t h outs he hk lo A w a _ hm ht hd fun o ho a' w' hr => ?_)
    have := hQ o ho a' w' hr
    cases hx : o.x <;> rw [hx] at this <;> exact this
  | goto l =>
    intro t h outs he
    cases he
  | rangeFunc f ps as bd _ _ =>
    intro t h outs he hk lo A w a Q hm ht hd hQ
    simp only [dokC, Bool.and_eq_true] at hk
    obtain ⟨c, hc, he⟩ := orNo_region he
    obtain ⟨hr, hc⟩ := bb_some hc
    obtain rfl := hrf hr
    obtain ⟨hps, hc⟩ := bb_some hc
    obtain ⟨x, hx, hc⟩ := ob_some hc
    injection hc with hc
    subst hc
    have he : rdK t x (fun v => rangeK (callS G ih) t h N ps.toList as bd v) = some outs := he
    rw [rdK_eq] at he
    unfold rangeK at he
    split at he
    · rename_i g cap hv
      have he := newO_some he
      obtain ⟨res, hres, he⟩ := ob_some he
      obtain ⟨o, ho, he⟩ := ob_some he
      have hrx := rd_rel ht hx
      rw [hv] at hrx
      obtain ⟨xs, ys, h3, h4, h5⟩ := hrx.of_fn
      obtain rfl : xs = #[] := by
        apply Array.eq_empty_of_size_eq_zero
        have := h4.length
        simpa using this
      refine wpIn_rangeFunc fun fn _ => ?_
      obtain ⟨W0, hW0⟩ : ∃ W0, w.alloc (.deferred (some [])) = W0 := ⟨_, rfl⟩
      obtain ⟨lp, hlp⟩ : ∃ lp : Loop, lp = { state := .ready, pending := none, fn, tmps := a.tmps, params := ps, assign := as, body := bd, defers := w.heap.size } := ⟨_, rfl⟩
      have hW0s : W0.heap.size = w.heap.size + 1 := by rw [← hW0]; simp
      have hD : W0.heap[w.heap.size]? = some (.deferred (some [])) := by rw [← hW0]; exact heap_alloc_new w _
      have e0 : Ev A h w A h W0 := by
        rw [← hW0]
        refine ⟨⟨hm.lt, fun b O hb => ?_, hm.inj⟩, Nat.le_refl _, fun _ _ => ⟨rfl, rfl⟩, fun b O hb => .inr ⟨b, O, hb, rfl⟩, fun j hj _ => Below.heap_alloc w _ j hj, by simp, rfl, rfl, rfl, fun b O g hb hp => ⟨rfl, ⟨O, hb, hp⟩, Below.heap_alloc w _ _ (hm.ilt hb)⟩⟩
        obtain ⟨x, hx, hr⟩ := hm.obj b O hb
        exact ⟨x, (Below.heap_alloc w _ _ (hm.ilt hb)).trans hx, hr⟩
      have hmk : Marks lo A h W0 ({ target := .collected w.heap.size, args := #[] } :: a.defers) := by
        have h6 := hd.ev e0
        refine ⟨⟨h6.1.1, List.nodup_cons.2 ⟨fun hin => ?_, h6.1.2⟩⟩, fun d hdm => ?_⟩
        · obtain ⟨D, h7, h8, h9, _⟩ := hd.2 _ hin
          injection h7 with h7 _
          injection h7 with h7
          have := (Array.getElem?_eq_some_iff.1 h9).1
          omega
        · rcases List.mem_cons.1 hdm with rfl | hdm
          · exact ⟨w.heap.size, rfl, hd.1.1, hD, fun b O hb he => by have := hm.ilt hb; omega⟩
          · exact h6.2 d hdm
      have hlo : ORel A h.next W0.heap.size 0 (.loop .ready t N ps.toList as bd) (.loop lp) := by
        subst hlp
        exact ⟨_, rfl, ⟨rfl, rfl⟩, ht, by simp, rfl, rfl, fun p hp => by
          have := List.all_eq_true.1 hps p hp
          exact blt_iff.1 this, hk.1, hk.2⟩
      have e1 := Ev.new (k := 0) e0.mt hlo
      obtain ⟨hen, hcall⟩ := hC.f _ _ _ _ hres
      have hy : Rel (A.ext h.next W0.heap.size 0) (h.next + 1) (.y h.next) (.func (.yield (w.heap.size + 1)) #[] #[]) := by
        have : Rel (A.ext h.next W0.heap.size 0) (h.next + 1) (.y h.next) (.func (.yield ((A.ext h.next W0.heap.size 0).ι h.next)) #[] #[]) := .y h.next (Nat.lt_succ_self _)
        simpa [Sub.ext, hW0s] using this
      have hcl := hcall (A.ext h.next W0.heap.size 0) (W0.alloc (.loop lp)) (.func (.yield (w.heap.size + 1)) #[] #[] :: ys.toList) e1.mt (.cons _ _ _ _ hy (h5.mono e1.old e1.next))
      refine ⟨w.heap.size + 1, [{ target := .collected w.heap.size, args := #[] }], W0.alloc (.loop lp), { target := .fn (.func g) ys, args := #[.func (.yield (w.heap.size + 1)) #[] #[]] }, W0.alloc (.loop lp), g,
        (.func (.yield (w.heap.size + 1)) #[] #[] :: ys.toList).toArray, W0.alloc (.loop lp), ?_, ?_, fun _ _ => trivial, ?_, (fun h => by cases h), Wide.calls (hcl.mono fun e w' hp => ?_)⟩
      · rw [← hW0, hlp]; exact run_enterLoop_outer _ _ _ _ _
      · simp only [resolve, h3]
        simp [go_sem]
      · have e2 : (#[Value.func (.yield (w.heap.size + 1)) #[] #[]] ++ ys) = (.func (.yield (w.heap.size + 1)) #[] #[] :: ys.toList).toArray := by simp
        simp only [invoke, e2, hen]
      · obtain ⟨y, rfl, A2, hev2, _⟩ := hp
        obtain ⟨ob, hob, hor⟩ := hev2.mt.obj _ _ ho
        have hl : A2.ι h.next = w.heap.size + 1 := by
          rw [(hev2.old h.next (Nat.lt_succ_self _)).1]
          simp [Sub.ext, hW0s]
        rw [hl] at hob
        have fin : ∀ (ex : Ex) (o' : Obj), (⟨ex, t, ⟨res.2.next, res.2.t.set h.next none⟩⟩ : Out) ∈ outs → Q (exitOf ex) { a with defers := { target := .collected w.heap.size, args := #[] } :: a.defers } (w'.putObj (w.heap.size + 1) o') := fun ex o' hin => by
          have hnp : o.pin = none := by
            split at he
            · rfl
            · rfl
            · cases he
          have e3 := hev2.drop ho hnp o'
          rw [hl] at e3
          have e4 := e1.trans e3
          exact hQ _ hin _ _ ⟨A2, e0.trans e4, ht.mono (e0.trans e4).old (e0.trans e4).next, hmk.ev e4⟩
        split at he
        · rename_i t' N' ps' a' b'
          obtain ⟨rr, rfl, ⟨h6, h7⟩, _⟩ := hor
          rw [Tr.put_set] at he
          injection he with he
          subst he
          exact ⟨none, _, by rw [run_endLoop hob (by rw [h6]; exact fun h => by cases h), h7], fin .normal _ (List.mem_singleton.2 rfl)⟩
        · rename_i ex t' N' ps' a' b'
          rw [Tr.put_set] at he
          injection he with he
          subst he
          cases ex with
          | normal =>
            obtain ⟨rr, rfl, h6, _⟩ := hor
            exact h6.elim
          | ret =>
            obtain ⟨rr, rfl, ⟨h6, h7⟩, _⟩ := hor
            exact ⟨some .ret, _, by rw [run_endLoop hob (by rw [h6]; exact fun h => by cases h), h7], wpIn_ret (fin .ret _ (List.mem_singleton.2 rfl))⟩
          | exit j =>
            obtain ⟨rr, rfl, ⟨h6, h7⟩, _⟩ := hor
            exact ⟨some (.exit j), _, by rw [run_endLoop hob (by rw [h6]; exact fun h => by cases h), h7], wpIn_exit (fin (.exit j) _ (List.mem_singleton.2 rfl))⟩
        · cases he
    · cases he
  | refuse _ =>
    intro t h outs he
    cases he
theorem loop_ok {r : Option Nat} {k : Nat} {G : Cfg} {N n sk : Nat} {rf : Bool} (h1 : ∀ (c : Code) t h outs, exec G n (vcB G.P N rf sk c) t h = some outs → dokC sk c = true → Runs G.P N c t h outs (fun Q a w => c.wpIn (Wide r) k G.P Q a w))
    (h2 : ∀ (c : Code) t h outs, exec G n (.loop (vcB G.P N rf sk c)) t h = some outs → dokC sk c = true → Runs G.P N c t h outs (fun Q a w => Code.roundsIn (Wide r) k G.P c Q n a w)) :
    ∀ (c : Code) t h outs, exec G (n + 1) (.loop (vcB G.P N rf sk c)) t h = some outs → dokC sk c = true → Runs G.P N c t h outs (fun Q a w => Code.roundsIn (Wide r) k G.P c Q (n + 1) a w) := by
  intro c t h outs he hk
  exact seq_runs (next := fun Q a w => Code.roundsIn (Wide r) k G.P c Q n a w) he (fun t h outs hx => h1 c t h outs hx hk) (fun t h outs hx => h2 c t h outs hx hk)
end
end Go.Proofs.YtaadfppfjjkgbaaGreatDoor.Vm
