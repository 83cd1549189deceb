/- WALKS: a thread's act, whatever it is. -/
import Derived.Test.YtmjilfamjlnigaaGreatQ15
namespace Go.Proofs.YtmjilfamjlnigaaGreat.SrcP
/-- An act done: what it wants, and how the machine stands then. -/
def stepW (m : Mch) (a : SrcP.Act) : Want × Mch := if ownB a = true then (Want.zero, ownS m a) else (wantS m a, m)
end Go.Proofs.YtmjilfamjlnigaaGreat.SrcP
namespace Go.Proofs.YtmjilfamjlnigaaGreat.MchW
open Go Go.RowKit Go.Proofs.YtmjilfamjlnigaaGreat.Kit Go.Proofs.YtmjilfamjlnigaaGreat.SrcP Go.Proofs.YtmjilfamjlnigaaGreat.SrcW

theorem callFunc_enter {P : Program} {f : FuncId} {fn : Func} (hf : P.funcs[f]? = some fn) (hn : (fn.name == "runtime.NumGoroutine") = false) (hb : fn.body.isNone = false) (args : Array Value) (w : World) : (callFunc f args).run P w = .ok (.enter f args) w := by
  unfold callFunc
  have h1 : ¬ (fn.name = "runtime.NumGoroutine") := by simpa using hn
  have h2 : ¬ (fn.body = none) := fun h => by rw [h] at hb; cases hb
  simp [go_sem, hf, h1, h2]
theorem work_call (op : Int) (h1 : 1 ≤ op) (h2 : op ≤ 10) (args : Array Value) (w : World) : (callFunc (workOf op) args).run Tryz.prog w = .ok (.enter (workOf op) args) w := by
  have cmset : (callFunc 222 args).run Tryz.prog w = .ok (.enter 222 args) w := callFunc_enter Tryz.func222 (by kernel_rfl) (by kernel_rfl) args w
  have cmload : (callFunc 223 args).run Tryz.prog w = .ok (.enter 223 args) w := callFunc_enter Tryz.func223 (by kernel_rfl) (by kernel_rfl) args w
  have cmstore : (callFunc 224 args).run Tryz.prog w = .ok (.enter 224 args) w := callFunc_enter Tryz.func224 (by kernel_rfl) (by kernel_rfl) args w
  have cmpair : (callFunc 225 args).run Tryz.prog w = .ok (.enter 225 args) w := callFunc_enter Tryz.func225 (by kernel_rfl) (by kernel_rfl) args w
  have cmfence : (callFunc 226 args).run Tryz.prog w = .ok (.enter 226 args) w := callFunc_enter Tryz.func226 (by kernel_rfl) (by kernel_rfl) args w
  have cmprint : (callFunc 227 args).run Tryz.prog w = .ok (.enter 227 args) w := callFunc_enter Tryz.func227 (by kernel_rfl) (by kernel_rfl) args w
  have cmjump : (callFunc 228 args).run Tryz.prog w = .ok (.enter 228 args) w := callFunc_enter Tryz.func228 (by kernel_rfl) (by kernel_rfl) args w
  have cmzero : (callFunc 229 args).run Tryz.prog w = .ok (.enter 229 args) w := callFunc_enter Tryz.func229 (by kernel_rfl) (by kernel_rfl) args w
  have h : op = 1 ∨ op = 2 ∨ op = 3 ∨ op = 4 ∨ op = 5 ∨ op = 6 ∨ op = 7 ∨ op = 8 ∨ op = 9 ∨ op = 10 := by omega
  rcases h with rfl | rfl | rfl | rfl | rfl | rfl | rfl | rfl | rfl | rfl
  · exact cmset
  · exact cmload
  · exact cmstore
  · exact cmpair
  · exact cmpair
  · exact cmpair
  · exact cmfence
  · exact cmprint
  · exact cmjump
  · exact cmzero
theorem MS_kept {g gl : Nat} {w w' : World} (h : Below w.heap.size w w') : KeptS (MS g gl) w w' := KeptS.of_below h
theorem work_any {w : World} {g gl nl cells : Nat} (hcells : cells ≤ 4096) {tl : Int} {va : Value} {m : Mch} (h : MachM w g gl tl va nl m) (hw : MchW cells nl m) {n : Nat} (a : SrcP.Act) (ha : ActWell cells nl n a) {I E F : Option Addr} {li ci le ce lf cf : Nat} (hav : ActVS w (.slice I li ci) (.slice E le ce) (.slice F lf cf) a) :
    Calls Tryz.prog (workOf a.op) #[.pointer (some ⟨g, 0, none⟩), .agg (actC a (.slice I li ci) (.slice E le ce) (.slice F lf cf))] w fun r w' => r = .returned (.agg (wantC (stepW m a).1).toArray) ∧ MachM w' g gl tl va nl (stepW m a).2 ∧ KeptS (MS g gl) w w' := by
  have hop := ha.parts.1
  have own : ∀ (k : Nat), ownB a = true → workOf a.op = k → (Calls Tryz.prog k #[.pointer (some ⟨g, 0, none⟩), .agg (actC a (.slice I li ci) (.slice E le ce) (.slice F lf cf))] w fun r w' => r = .returned (.agg zeroW) ∧ MachM w' g gl tl va nl (ownS m a) ∧ KeptS (MS g gl) w w') → Calls Tryz.prog (workOf a.op) #[.pointer (some ⟨g, 0, none⟩), .agg (actC a (.slice I li ci) (.slice E le ce) (.slice F lf cf))] w fun r w' => r = .returned (.agg (wantC (stepW m a).1).toArray) ∧ MachM w' g gl tl va nl (stepW m a).2 ∧ KeptS (MS g gl) w w' := by
    intro k ho hk hc
    rw [hk]
    unfold stepW
    rw [if_pos ho]
    exact hc
  have not : ∀ (k : Nat), ownB a = false → workOf a.op = k → (Calls Tryz.prog k #[.pointer (some ⟨g, 0, none⟩), .agg (actC a (.slice I li ci) (.slice E le ce) (.slice F lf cf))] w fun r w' => r = .returned (.agg (wantC (wantS m a)).toArray) ∧ Below w.heap.size w w') → Calls Tryz.prog (workOf a.op) #[.pointer (some ⟨g, 0, none⟩), .agg (actC a (.slice I li ci) (.slice E le ce) (.slice F lf cf))] w fun r w' => r = .returned (.agg (wantC (stepW m a).1).toArray) ∧ MachM w' g gl tl va nl (stepW m a).2 ∧ KeptS (MS g gl) w w' := by
    intro k ho hk hc
    rw [hk]
    unfold stepW
    rw [if_neg (by rw [ho]; exact Bool.false_ne_true)]
    exact hc.mono fun _ _ ⟨h1, h2⟩ => ⟨h1, h.below h2, MS_kept h2⟩
  have hc : a.op = 1 ∨ a.op = 2 ∨ a.op = 3 ∨ (a.op = 4 ∨ a.op = 5 ∨ a.op = 6) ∨ a.op = 7 ∨ a.op = 8 ∨ a.op = 9 ∨ a.op = 10 := by omega
  rcases hc with e | e | e | e | e | e | e | e
  · exact own _ (by simp [ownB, e]) (by simp [workOf, e]) (set_any h hw a ha e hav)
  · exact not _ (by simp [ownB, e]) (by simp [workOf, e]) (load_any hcells h hw a ha e hav.here)
  · exact not _ (by simp [ownB, e]) (by simp [workOf, e]) (store_any hcells h hw a ha e hav.here)
  · exact not _ (by rcases e with e | e | e <;> simp [ownB, e]) (by rcases e with e | e | e <;> simp [workOf, e]) (pair_any hcells h hw a ha e hav.here)
  · exact not _ (by simp [ownB, e]) (by simp [workOf, e]) (fence_any g m w a e)
  · exact not _ (by simp [ownB, e]) (by simp [workOf, e]) (print_any h hw a ha e hav.here)
  · exact own _ (by simp [ownB, e]) (by simp [workOf, e]) (jump_any h a ha e)
  · exact own _ (by simp [ownB, e]) (by simp [workOf, e]) (zero_any h hw a ha e hav)
end Go.Proofs.YtmjilfamjlnigaaGreat.MchW
