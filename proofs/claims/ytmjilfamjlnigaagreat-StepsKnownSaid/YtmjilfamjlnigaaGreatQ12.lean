/- StepsKnown, run by the small machine: what the run says. -/
import Derived.Test.YtmjilfamjlnigaaGreatQ08
import Derived.Test.YtmjilfamjlnigaaGreatQ11
namespace Go.Proofs.YtmjilfamjlnigaaGreat.Vm
open Go Go.RowKit

theorem bits_mem : ∀ (l : List Nat) (k : Nat), Nat.testBit (bits l) k = true → k ∈ l
  | [], k, h => by simp [bits] at h
  | j :: l, k, h => by
    simp only [bits, Nat.testBit_or, Bool.or_eq_true, Nat.testBit_two_pow, decide_eq_true_eq] at h
    rcases h with h | h
    · simp [h]
    · simp [bits_mem l k h]
theorem fitAll_ok {P : Program} {l : List Nat} (h : fitAll P l = true) {B : Nat} (hB : bits l = B) (f : FuncId) (fn : Func) (hf : Nat.testBit B f = true) (hfn : P.funcs[f]? = some fn) : (fn.name == "runtime.NumGoroutine") = false ∧ ∀ c, fn.body = some c → dokC c = true := by
  subst hB
  have := List.all_eq_true.1 h f (bits_mem l f hf)
  rw [hfn] at this
  simp only [fitFn, Bool.and_eq_true, Bool.not_eq_true'] at this
  refine ⟨this.1, fun c hc => ?_⟩
  rw [hc] at this
  exact this.2
def MemoOk (P : Program) (m : Nat × List V × V) : Prop := m.2.2.flat = true ∧ (∀ (xs : Array Value) (w : World), (callFunc m.1 xs).run P w = .ok (.enter m.1 xs) w) ∧
    ∀ (A : Sub) (n : Nat) (w : World) (xs : List Value), RelL A n m.2.1 xs → Calls P m.1 xs.toArray w fun e w' => ∃ x, e = .returned x ∧ Below w.heap.size w w' ∧ ∃ A' n', Rel A' n' m.2.2 x
theorem memoL_ok : ∀ (ms : List (Nat × List V × V)) (f : FuncId) (args : List V) (v : V), memoL ms f args = some v → (f, args, v) ∈ ms
  | [], f, args, v, h => by cases h
  | m :: ms, f, args, v, h => by
    have h : br (Nat.beq f m.1) (br (sameL args m.2.1) (some m.2.2) (memoL ms f args)) (memoL ms f args) = some v := h
    rw [br_beq] at h
    split at h
    · rename_i e
      rw [br_eq] at h
      split at h
      · rename_i e'
        injection h with h
        have := sameL_eq _ _ e'
        obtain ⟨m1, m2, m3⟩ := m
        simp only at e this h
        rw [e, this, h]
        simp
      · simp [memoL_ok ms f args v h]
    · simp [memoL_ok ms f args v h]
theorem cfg_fits {ms : List (Nat × List V × V)} (h : ∀ m ∈ ms, MemoOk Tryz.prog m) : Fits (cfg ms) := ⟨mixed, fun f fn hf hfn => fitAll_ok fit_all fs_bits f fn hf hfn, fun f args v hv => h _ (memoL_ok ms f args v hv)⟩
theorem memo_of {ms : List (Nat × List V × V)} (hms : ∀ m ∈ ms, MemoOk Tryz.prog m) {n : Nat} {f : FuncId} {args : List V} {r : V × H} (h : call (cfg ms) n f args ⟨0, .e⟩ = some r) (ha : flatL args = true) (hr : r.1.flat = true) : MemoOk Tryz.prog (f, args, r.1) := ⟨hr, call_memo (cfg_fits hms) h ha⟩
theorem memos_ok : ∀ m ∈ memos, MemoOk Tryz.prog m := by
  have h0 : ∀ m ∈ ([] : List (Nat × List V × V)), MemoOk Tryz.prog m := fun m h => by cases h
  intro m hm
  simp only [memos, List.mem_cons, List.not_mem_nil, or_false] at hm
  rcases hm with rfl | rfl | rfl | rfl | rfl | rfl | rfl | rfl | rfl | rfl | rfl | rfl | rfl
  · exact memo_of h0 m0 rfl rfl
  · exact memo_of h0 m1 rfl rfl
  · exact memo_of h0 m2 rfl rfl
  · exact memo_of h0 m3 rfl rfl
  · exact memo_of h0 m4 rfl rfl
  · exact memo_of h0 m5 rfl rfl
  · exact memo_of h0 m6 rfl rfl
  · exact memo_of h0 m7 rfl rfl
  · exact memo_of h0 m8 rfl rfl
  · exact memo_of h0 m9 rfl rfl
  · exact memo_of h0 m10 rfl rfl
  · exact memo_of h0 m11 rfl rfl
  · exact memo_of h0 m12 rfl rfl
theorem known_any (w : World) : Calls Tryz.prog 7 #[] w fun e w' => e = .returned (.bool true) ∧ Below w.heap.size w w' := by
  have h := known_run
  cases hc : call (cfg memos) 3000 7 [] ⟨0, .e⟩ with
  | none => rw [hc] at h; cases h
  | some r =>
    rw [hc] at h
    obtain ⟨v, h'⟩ := r
    have hv : v = .b true := by
      cases v <;> first | (cases h; done) | skip
      rename_i x
      cases x
      · cases h
      · rfl
    subst hv
    refine ((call_memo (cfg_fits memos_ok) hc rfl).2 ⟨fun _ => 0, fun _ => 0⟩ 0 w [] .nil).mono fun e w' hx => ?_
    obtain ⟨x, he, hb, A', n', hr⟩ := hx
    rw [he, hr.of_b]
    exact ⟨rfl, hb⟩
end Go.Proofs.YtmjilfamjlnigaaGreat.Vm
