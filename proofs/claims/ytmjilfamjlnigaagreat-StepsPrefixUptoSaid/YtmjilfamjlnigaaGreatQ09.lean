/- WALKS: a thread's machine as it lies; small functions of it. -/
import Derived.Test.YtmjilfamjlnigaaGreatQ05
import Derived.Test.YtmjilfamjlnigaaGreatQ07
import Derived.Test.YtmjilfamjlnigaaGreatQ08
import Derived.Laws.EntriesVeiled
namespace Go.Proofs.YtmjilfamjlnigaaGreat.MchW
open Go Go.RowKit Go.Proofs.YtmjilfamjlnigaaGreat.Kit Go.Proofs.YtmjilfamjlnigaaGreat.SrcP Go.Proofs.YtmjilfamjlnigaaGreat.SrcW

/-- All that was there but some blocks is as it was. -/
def KeptS (S : Nat → Prop) (w w' : World) : Prop :=
  w'.os = w.os ∧ w'.tape = w.tape ∧ w'.output = w.output ∧ w.heap.size ≤ w'.heap.size ∧ ∀ k, k < w.heap.size → ¬ S k → w'.heap[k]? = w.heap[k]?
section
variable {S : Nat → Prop} {w w1 w2 : World}
theorem KeptS.refl (S : Nat → Prop) (w : World) : KeptS S w w := ⟨rfl, rfl, rfl, Nat.le_refl _, fun _ _ _ => rfl⟩
theorem KeptS.trans (h : KeptS S w w1) (k : KeptS S w1 w2) : KeptS S w w2 :=
  ⟨k.1.trans h.1, k.2.1.trans h.2.1, k.2.2.1.trans h.2.2.1, Nat.le_trans h.2.2.2.1 k.2.2.2.1, fun i hi hg => (k.2.2.2.2 i (Nat.lt_of_lt_of_le hi h.2.2.2.1) hg).trans (h.2.2.2.2 i hi hg)⟩
theorem KeptS.mono {S' : Nat → Prop} (h : KeptS S w w1) (hs : ∀ k, S k → S' k) : KeptS S' w w1 := ⟨h.1, h.2.1, h.2.2.1, h.2.2.2.1, fun k hk hn => h.2.2.2.2 k hk (fun h => hn (hs k h))⟩
theorem KeptS.of_below (h : Below w.heap.size w w1) : KeptS S w w1 := ⟨h.os, h.tape, h.output, h.size, fun k hk _ => h.block k hk⟩
theorem KeptS.dn (h : KeptS S w w1) (n : Nat) : KeptS S w (w1.drewN n) := h
theorem KeptS.al (h : KeptS S w w1) (o : Obj) : KeptS S w (w1.alloc o) := h.trans (KeptS.of_below (Kit.Below.al (Below.refl _ _) o))
theorem KeptS.set (h : KeptS S w w1) {g : Nat} (hg : S g) (i : Nat) (u : Value) : KeptS S w (w1.setCell ⟨g, i, none⟩ u) :=
  h.trans ⟨rfl, rfl, rfl, by simp [World.setCell], fun k _ hn => Below.heap_setCell _ _ _ _ (fun e => hn (by rw [e]; exact hg))⟩
theorem KeptS.setN (h : KeptS S w w1) {g i : Nat} (hg : w.heap.size ≤ g) (u : Value) : KeptS S w (w1.setCell ⟨g, i, none⟩ u) :=
  ⟨h.1, h.2.1, h.2.2.1, by simp [World.setCell]; exact h.2.2.2.1, fun k hk hn => (Below.heap_setCell _ ⟨g, i, none⟩ _ _ (by simp only; omega)).trans (h.2.2.2.2 k hk hn)⟩
theorem KeptS.blk (h : KeptS S w w1) {g : Nat} {t : TypeId} {cs : Array Value} (hb : Blk w g t cs) (hg : ¬ S g) : Blk w1 g t cs := (h.2.2.2.2 g hb.lt hg).trans hb
theorem KeptS.size (h : KeptS S w w1) : w.heap.size ≤ w1.heap.size := h.2.2.2.1
theorem KeptS.still {T : TypeId → Prop} (h : KeptS S w w1) (hs : ∀ k, S k → ∃ t cs, Blk w k t cs ∧ ¬ T t) : Still T w w1 := fun k cs t fr hk hh => by
  rw [h.2.2.2.2 k]
  · exact hk
  · rcases Nat.lt_or_ge k w.heap.size with h | h
    · exact h
    · rw [Array.getElem?_eq_none h] at hk; cases hk
  · intro hS
    obtain ⟨t', cs', hb, hn⟩ := hs k hS
    unfold Blk at hb
    rw [hb] at hk
    injection hk with hk
    injection hk with _ hk
    subst hk
    exact hn hh
end

def wantC (x : Want) : List Value := [.int .i64 x.what, .int .i64 x.loc, .int .i64 x.mode, .int .u64 x.val, .bool x.ex, .bool x.one]
def machC (tl : Int) (va : Value) (gl nl : Nat) (m : Mch) : Array Value :=
  #[.int .i64 tl, va, .int .i64 m.at_, .slice (some ⟨gl, 0, none⟩) nl nl, .int .i64 m.now.what, .int .i64 m.now.loc, .int .i64 m.now.mode, .int .u64 m.now.val, .bool m.now.ex, .bool m.now.one, .bool m.asked, .int .u64 m.old, .bool m.opn]
/-- A machine, as it lies. -/
structure MachM (w : World) (g gl : Nat) (tl : Int) (va : Value) (nl : Nat) (m : Mch) : Prop where
  blk : Blk w g 170 (machC tl va gl nl m)
  loc : Blk w gl 40 (m.locals.map u64V).toArray
  acts : ActsS w va m.acts
theorem MachM.below {w w' : World} {g gl nl : Nat} {tl : Int} {va : Value} {m : Mch} (h : MachM w g gl tl va nl m) (hb : Below w.heap.size w w') : MachM w' g gl tl va nl m :=
  ⟨h.blk.below' hb, h.loc.below' hb, h.acts.still (Still.below hb)⟩
theorem MachM.ne {w : World} {g gl nl : Nat} {tl : Int} {va : Value} {m : Mch} (h : MachM w g gl tl va nl m) : g ≠ gl := by
  rintro rfl
  have h1 := h.blk
  have h2 := h.loc
  unfold Blk at h1 h2
  rw [h1] at h2
  injection h2 with h2
  injection h2 with _ h2
  cases h2
theorem MachM.locals {w : World} {g gl nl : Nat} {tl : Int} {va : Value} {m : Mch} (h : MachM w g gl tl va nl m) (hl : ∀ x ∈ m.locals, x < M64) (hlen : m.locals.length = nl) : U64At w (.slice (some ⟨gl, 0, none⟩) m.locals.length nl) m.locals := by
  refine ⟨_, _, rfl, fun i x hi => ⟨hl x (List.mem_of_getElem? hi), ⟨gl, 0, none⟩, rfl, ?_⟩⟩
  rw [show (Addr.add ⟨gl, 0, none⟩ i) = ⟨gl, i, none⟩ by simp [Addr.add]; exact fun h => h.symm, h.loc.cell]
  simp [hi, u64V]

set_option maxRecDepth 100000 in
set_option maxHeartbeats 4000000 in
theorem own_any (a : SrcP.Act) (I E F : Option Addr) (li ci le ce lf cf : Nat) (w : World) : Calls Tryz.prog 219 #[.agg (actC a (.slice I li ci) (.slice E le ce) (.slice F lf cf))] w fun r w' => r = .returned (.bool (ownB a)) ∧ Below w.heap.size w w' := by
  obtain ⟨op, dst, base, size, index, e, f, mode, to_, line, col⟩ := a
  unfold actC ownB
  simp only
  by_cases h1 : op = 1
  · subst h1
    go_enter Tryz.func219, Tryz.ntmps219
    go_wp2_with fail
    go_ret
    refine ⟨congrArg (fun x : Bool => Ending.returned (.bool x)) ?_, Kit.Below.al (Below.refl _ _) _⟩
    rfl
  have q1 : (op == 1) = false := by simp [h1]
  by_cases h9 : op = 9
  · subst h9
    go_enter Tryz.func219, Tryz.ntmps219
    go_wp2_with fail
    go_ret
    refine ⟨congrArg (fun x : Bool => Ending.returned (.bool x)) ?_, Kit.Below.al (Below.refl _ _) _⟩
    rfl
  have q9 : (op == 9) = false := by simp [h9]
  by_cases h10 : op = 10
  · subst h10
    go_enter Tryz.func219, Tryz.ntmps219
    go_wp2_with fail
    go_ret
    refine ⟨congrArg (fun x : Bool => Ending.returned (.bool x)) ?_, Kit.Below.al (Below.refl _ _) _⟩
    rfl
  have q10 : (op == 10) = false := by simp [h10]
  go_enter Tryz.func219, Tryz.ntmps219
  go_wp2_with fail
  go_ret
  refine ⟨congrArg (fun x : Bool => Ending.returned (.bool x)) ?_, Kit.Below.al (Below.refl _ _) _⟩
  simp [q1, q9, q10]

theorem reading_ix (mode : Int) (h1 : 1 ≤ mode) (h2 : mode ≤ 5) (w : World) : (Instr.index 330 (.agg (#[0, 1, 2, 1, 2, 5].map fun x : Int => Value.int .i64 x)) (.int .i64 mode)).run Tryz.prog w = .ok (.int .i64 (reading mode)) w := by
  have t1 : (Instr.index 330 (.agg (#[0, 1, 2, 1, 2, 5].map fun x : Int => Value.int .i64 x)) (.int .i64 1)).run Tryz.prog w = .ok (.int .i64 (reading 1)) w := by kernel_rfl
  have t2 : (Instr.index 330 (.agg (#[0, 1, 2, 1, 2, 5].map fun x : Int => Value.int .i64 x)) (.int .i64 2)).run Tryz.prog w = .ok (.int .i64 (reading 2)) w := by kernel_rfl
  have t3 : (Instr.index 330 (.agg (#[0, 1, 2, 1, 2, 5].map fun x : Int => Value.int .i64 x)) (.int .i64 3)).run Tryz.prog w = .ok (.int .i64 (reading 3)) w := by kernel_rfl
  have t4 : (Instr.index 330 (.agg (#[0, 1, 2, 1, 2, 5].map fun x : Int => Value.int .i64 x)) (.int .i64 4)).run Tryz.prog w = .ok (.int .i64 (reading 4)) w := by kernel_rfl
  have t5 : (Instr.index 330 (.agg (#[0, 1, 2, 1, 2, 5].map fun x : Int => Value.int .i64 x)) (.int .i64 5)).run Tryz.prog w = .ok (.int .i64 (reading 5)) w := by kernel_rfl
  have h : mode = 1 ∨ mode = 2 ∨ mode = 3 ∨ mode = 4 ∨ mode = 5 := by omega
  rcases h with rfl | rfl | rfl | rfl | rfl
  · exact t1
  · exact t2
  · exact t3
  · exact t4
  · exact t5
set_option maxRecDepth 100000 in
theorem reading_any (mode : Int) (h1 : 1 ≤ mode) (h2 : mode ≤ 5) (w : World) : Calls Tryz.prog 232 #[.int .i64 mode] w fun r w' => r = .returned (.int .i64 (reading mode)) ∧ w' = w := by
  have hix := fun w => reading_ix mode h1 h2 w
  simp only [List.map_toArray, List.map_cons, List.map_nil] at hix
  generalize reading mode = x at *
  go_enter Tryz.func232, Tryz.ntmps232
  go_wp2_with fail
  go_ret
  exact ⟨rfl, rfl⟩
theorem writing_ix (mode : Int) (h1 : 1 ≤ mode) (h2 : mode ≤ 5) (w : World) : (Instr.index 330 (.agg (#[0, 1, 1, 3, 3, 5].map fun x : Int => Value.int .i64 x)) (.int .i64 mode)).run Tryz.prog w = .ok (.int .i64 (writing mode)) w := by
  have t1 : (Instr.index 330 (.agg (#[0, 1, 1, 3, 3, 5].map fun x : Int => Value.int .i64 x)) (.int .i64 1)).run Tryz.prog w = .ok (.int .i64 (writing 1)) w := by kernel_rfl
  have t2 : (Instr.index 330 (.agg (#[0, 1, 1, 3, 3, 5].map fun x : Int => Value.int .i64 x)) (.int .i64 2)).run Tryz.prog w = .ok (.int .i64 (writing 2)) w := by kernel_rfl
  have t3 : (Instr.index 330 (.agg (#[0, 1, 1, 3, 3, 5].map fun x : Int => Value.int .i64 x)) (.int .i64 3)).run Tryz.prog w = .ok (.int .i64 (writing 3)) w := by kernel_rfl
  have t4 : (Instr.index 330 (.agg (#[0, 1, 1, 3, 3, 5].map fun x : Int => Value.int .i64 x)) (.int .i64 4)).run Tryz.prog w = .ok (.int .i64 (writing 4)) w := by kernel_rfl
  have t5 : (Instr.index 330 (.agg (#[0, 1, 1, 3, 3, 5].map fun x : Int => Value.int .i64 x)) (.int .i64 5)).run Tryz.prog w = .ok (.int .i64 (writing 5)) w := by kernel_rfl
  have h : mode = 1 ∨ mode = 2 ∨ mode = 3 ∨ mode = 4 ∨ mode = 5 := by omega
  rcases h with rfl | rfl | rfl | rfl | rfl
  · exact t1
  · exact t2
  · exact t3
  · exact t4
  · exact t5
set_option maxRecDepth 100000 in
theorem writing_any (mode : Int) (h1 : 1 ≤ mode) (h2 : mode ≤ 5) (w : World) : Calls Tryz.prog 233 #[.int .i64 mode] w fun r w' => r = .returned (.int .i64 (writing mode)) ∧ w' = w := by
  have hix := fun w => writing_ix mode h1 h2 w
  simp only [List.map_toArray, List.map_cons, List.map_nil] at hix
  generalize writing mode = x at *
  go_enter Tryz.func233, Tryz.ntmps233
  go_wp2_with fail
  go_ret
  exact ⟨rfl, rfl⟩

def worksV : Array Value := #[.nilFunc, .func (.func 222) #[] #[], .func (.func 223) #[] #[], .func (.func 224) #[] #[], .func (.func 225) #[] #[], .func (.func 225) #[] #[], .func (.func 225) #[] #[], .func (.func 226) #[] #[], .func (.func 227) #[] #[], .func (.func 228) #[] #[], .func (.func 229) #[] #[]]
def workOf (op : Int) : Nat := if op = 1 then 222 else if op = 2 then 223 else if op = 3 then 224 else if op = 7 then 226 else if op = 8 then 227 else if op = 9 then 228 else if op = 10 then 229 else 225
theorem works_ix (op : Int) (h1 : 1 ≤ op) (h2 : op ≤ 10) (w : World) : (Instr.index 323 (.agg worksV) (.int .i64 op)).run Tryz.prog w = .ok (.func (.func (workOf op)) #[] #[]) w := by
  have t1 : (Instr.index 323 (.agg worksV) (.int .i64 1)).run Tryz.prog w = .ok (.func (.func (workOf 1)) #[] #[]) w := by kernel_rfl
  have t2 : (Instr.index 323 (.agg worksV) (.int .i64 2)).run Tryz.prog w = .ok (.func (.func (workOf 2)) #[] #[]) w := by kernel_rfl
  have t3 : (Instr.index 323 (.agg worksV) (.int .i64 3)).run Tryz.prog w = .ok (.func (.func (workOf 3)) #[] #[]) w := by kernel_rfl
  have t4 : (Instr.index 323 (.agg worksV) (.int .i64 4)).run Tryz.prog w = .ok (.func (.func (workOf 4)) #[] #[]) w := by kernel_rfl
  have t5 : (Instr.index 323 (.agg worksV) (.int .i64 5)).run Tryz.prog w = .ok (.func (.func (workOf 5)) #[] #[]) w := by kernel_rfl
  have t6 : (Instr.index 323 (.agg worksV) (.int .i64 6)).run Tryz.prog w = .ok (.func (.func (workOf 6)) #[] #[]) w := by kernel_rfl
  have t7 : (Instr.index 323 (.agg worksV) (.int .i64 7)).run Tryz.prog w = .ok (.func (.func (workOf 7)) #[] #[]) w := by kernel_rfl
  have t8 : (Instr.index 323 (.agg worksV) (.int .i64 8)).run Tryz.prog w = .ok (.func (.func (workOf 8)) #[] #[]) w := by kernel_rfl
  have t9 : (Instr.index 323 (.agg worksV) (.int .i64 9)).run Tryz.prog w = .ok (.func (.func (workOf 9)) #[] #[]) w := by kernel_rfl
  have t10 : (Instr.index 323 (.agg worksV) (.int .i64 10)).run Tryz.prog w = .ok (.func (.func (workOf 10)) #[] #[]) w := by kernel_rfl
  have h : op = 1 ∨ op = 2 ∨ op = 3 ∨ op = 4 ∨ op = 5 ∨ op = 6 ∨ op = 7 ∨ op = 8 ∨ op = 9 ∨ op = 10 := by omega
  rcases h with rfl | rfl | rfl | rfl | rfl | rfl | rfl | rfl | rfl | rfl
  · exact t1
  · exact t2
  · exact t3
  · exact t4
  · exact t5
  · exact t6
  · exact t7
  · exact t8
  · exact t9
  · exact t10
theorem works_any (w : World) : Calls Tryz.prog 218 #[] w fun r w' => r = .returned (.agg worksV) ∧ Below w.heap.size w w' := by
  unfold worksV
  go_enter Tryz.func218, Tryz.ntmps218
  go_wp2_with fail
  exact bodyPost_ret (v := .agg worksV) (by simp [results, Tryz.results218, go_sem, worksV]) rfl ⟨rfl, Kit.Below.al (Below.refl _ _) _⟩

end Go.Proofs.YtmjilfamjlnigaaGreat.MchW
/- WALKS: a thread's machine: its act, its place. -/
namespace Go.Proofs.YtmjilfamjlnigaaGreat.MchW
open Go Go.RowKit Go.Proofs.YtmjilfamjlnigaaGreat.Kit Go.Proofs.YtmjilfamjlnigaaGreat.SrcP Go.Proofs.YtmjilfamjlnigaaGreat.SrcW

set_option maxRecDepth 100000 in
set_option maxHeartbeats 4000000 in
theorem act_any {w : World} {g gl nl : Nat} {tl : Int} {va : Value} {m : Mch} (h : MachM w g gl tl va nl m) (hal : m.acts.length ≤ 65536) (a : SrcP.Act) (ha : m.acts[m.at_]? = some a) :
    Calls Tryz.prog 216 #[.pointer (some ⟨g, 0, none⟩)] w fun r w' => ∃ I E F li ci le ce lf cf, r = .returned (.agg (actC a (.slice I li ci) (.slice E le ce) (.slice F lf cf))) ∧ ActVS w' (.slice I li ci) (.slice E le ce) (.slice F lf cf) a ∧ Below w.heap.size w w' := by
  have hlt := at_lt ha
  obtain ⟨A, c, rfl, hE⟩ := h.acts
  obtain ⟨ad, vi, ve, vf, rfl, hC, hVS⟩ := hE _ _ ha
  replace hC := hC w (Still.refl w)
  have hV := hVS.here
  have HV := Lib.hid hV
  have HV0 := Lib.hid hVS
  obtain ⟨I, ci, rfl, _⟩ := hV.index
  obtain ⟨E, ce, rfl, _⟩ := hV.e
  obtain ⟨F, cf, rfl, _⟩ := hV.f
  have m1 : w.cell? ⟨g, 1, none⟩ = some (.slice (some ad) m.acts.length c) := h.blk.cell 1
  have m2 : w.cell? ⟨g, 2, none⟩ = some (.int .i64 m.at_) := h.blk.cell 2
  clear hE hV hVS h
  generalize m.acts.length = L at *
  generalize m.at_ = j at *
  clear ha
  have b1 : (j : Int) < (L : Int) := by omega
  have b2 : (0 : Int) ≤ (j : Int) := by omega
  generalize a.index.length = li at *
  generalize a.e.length = le at *
  generalize a.f.length = lf at *
  go_enter Tryz.func216, Tryz.ntmps216
  go_upto_region 1 with fail
  obtain ⟨w0, hw0⟩ : ∃ x, x = w.alloc (.cells #[.int .i64 0, .int .i64 0, .int .i64 0, .int .i64 0, .slice none 0 0, .slice none 0 0, .slice none 0 0, .int .i64 0, .int .i64 0, .int .i64 0, .int .i64 0] 58) := ⟨_, rfl⟩
  have hb1 : Below w.heap.size w w0 := by rw [hw0]; exact Kit.Below.al (Below.refl w.heap.size w) _
  replace hC := hC.below hb1
  replace m1 := (hb1.cell (World.block_lt_of_cell? w _ m1)).trans m1
  replace m2 := (hb1.cell (World.block_lt_of_cell? w _ m2)).trans m2
  have n2 : w0.cell? (ad.add (j * 11)) = some (.int .i64 a.op) := hC 0 _ rfl
  have r1 : w0.cell? ⟨(ad.add (j * 11)).block, (ad.add (j * 11)).off + 1, none⟩ = some (.int .i64 a.dst) := hC 1 _ rfl
  have r2 : w0.cell? ⟨(ad.add (j * 11)).block, (ad.add (j * 11)).off + 2, none⟩ = some (.int .i64 a.base) := hC 2 _ rfl
  have r3 : w0.cell? ⟨(ad.add (j * 11)).block, (ad.add (j * 11)).off + 3, none⟩ = some (.int .i64 a.size) := hC 3 _ rfl
  have r4 : w0.cell? ⟨(ad.add (j * 11)).block, (ad.add (j * 11)).off + 4, none⟩ = some (.slice I li ci) := hC 4 _ rfl
  have r5 : w0.cell? ⟨(ad.add (j * 11)).block, (ad.add (j * 11)).off + 5, none⟩ = some (.slice E le ce) := hC 5 _ rfl
  have r6 : w0.cell? ⟨(ad.add (j * 11)).block, (ad.add (j * 11)).off + 6, none⟩ = some (.slice F lf cf) := hC 6 _ rfl
  have r7 : w0.cell? ⟨(ad.add (j * 11)).block, (ad.add (j * 11)).off + 7, none⟩ = some (.int .i64 a.mode) := hC 7 _ rfl
  have r8 : w0.cell? ⟨(ad.add (j * 11)).block, (ad.add (j * 11)).off + 8, none⟩ = some (.int .i64 a.to) := hC 8 _ rfl
  have r9 : w0.cell? ⟨(ad.add (j * 11)).block, (ad.add (j * 11)).off + 9, none⟩ = some (.int .i64 a.line) := hC 9 _ rfl
  have r10 : w0.cell? ⟨(ad.add (j * 11)).block, (ad.add (j * 11)).off + 10, none⟩ = some (.int .i64 a.col) := hC 10 _ rfl
  clear hC HV
  subst hw0
  go_region
  go_wp2_with fail
  have hbe := Kit.Below.d (Kit.Below.al (Below.refl w.heap.size w) (.cells (actC a (.slice I li ci) (.slice E le ce) (.slice F lf cf)) 58))
  exact bodyPost_ret (v := .agg (actC a (.slice I li ci) (.slice E le ce) (.slice F lf cf))) (by simp [results, Tryz.results216, go_sem, actC]) rfl ⟨I, E, F, li, ci, le, ce, lf, cf, rfl, HV0.out.still (Still.below hbe), hbe⟩

set_option maxRecDepth 100000 in
set_option maxHeartbeats 4000000 in
/-- A machine's expression, worked out. -/
theorem val_any {w : World} {g gl nl cells : Nat} {tl : Int} {va : Value} {m : Mch} (h : MachM w g gl tl va nl m) (hw : MchW cells nl m) {A : Option Addr} {c : Nat} (e : List SrcP.Node) (hv : NodesAt w (.slice A e.length c) e) (he : EvalsAll nl e) :
    Calls Tryz.prog 217 #[.slice A e.length c, .slice (some ⟨gl, 0, none⟩) nl nl] w fun r w' => r = .returned (.int .u64 (value e m.locals : Nat)) ∧ Below w.heap.size w w' ∧ value e m.locals < M64 := by
  have hl := h.locals hw.lt hw.len
  have hh := value_any A (some ⟨gl, 0, none⟩) c nl e m.locals w hv hl (by rw [hw.len]; exact he)
  rw [hw.len] at hh
  exact hh

set_option maxRecDepth 100000 in
set_option maxHeartbeats 4000000 in
theorem loc_any {w : World} {g gl nl cells : Nat} (hcells : cells ≤ 4096) {tl : Int} {va : Value} {m : Mch} (h : MachM w g gl tl va nl m) (hw : MchW cells nl m) {n : Nat} (a : SrcP.Act) (ha : ActWell cells nl n a) (hp : hasPlace a.op = true) {I E F : Option Addr} {li ci le ce lf cf : Nat} (hav : ActV w (.slice I li ci) (.slice E le ce) (.slice F lf cf) a) :
    Calls Tryz.prog 231 #[.pointer (some ⟨g, 0, none⟩), .agg (actC a (.slice I li ci) (.slice E le ce) (.slice F lf cf))] w fun r w' => r = .returned (.int .i64 (locS a m.locals)) ∧ Below w.heap.size w w' := by
  obtain ⟨⟨h1, h2⟩, h3, h4, h5, h6⟩ := place_parts (ha.place hp)
  by_cases h0 : a.size = 0
  · have hl : locS a m.locals = a.base := by simp [locS, h0]
    rw [hl]
    clear hl
    generalize hs : a.size = sz at *
    unfold actC
    rw [hs]
    subst h0
    go_enter Tryz.func231, Tryz.ntmps231
    go_wp2_with fail
    go_ret
    exact ⟨rfl, Kit.Below.al (Below.refl _ _) _⟩
  · have hev := h6 h0
    obtain ⟨_, _, hli, _⟩ := hav.index
    obtain ⟨rfl, rfl, rfl⟩ : I = _ ∧ li = a.index.length ∧ ci = _ := by simpa using hli
    obtain ⟨z, hz⟩ := Int.eq_ofNat_of_zero_le h1
    have hz0 : 0 < z := by omega
    have hz1 : z ≤ 1024 := by omega
    have hzn : z &&& (z - 1) = 0 := by rw [hz] at h3; simpa using h3
    have hloc : locS a m.locals = a.base + ((value a.index m.locals % z : Nat) : Int) := by simp [locS, hz]; omega
    rw [hloc]
    have hvl := value_lt a.index m.locals hw.lt ha.li
    have hand : bits .and .u64 ((value a.index m.locals : Nat) : Int) ((z : Int) - 1) = ((value a.index m.locals % z : Nat) : Int) := by
      rw [show ((z : Int) - 1) = ((z - 1 : Nat) : Int) by omega, u64_and_nat _ _ hvl (by omega), and_size z _ hz0 hz1 hzn]
    have hmod : value a.index m.locals % z < z := Nat.mod_lt _ hz0
    have hwr : IntKind.u64.wrap ((z : Int) - 1) = (z : Int) - 1 := by rw [IntKind.wrap_u64]; omega
    have hwr2 : IntKind.i64.wrap ((value a.index m.locals % z : Nat) : Int) = ((value a.index m.locals % z : Nat) : Int) := by rw [IntKind.wrap_i64]; omega
    have HV : ∀ w2, Below w.heap.size w w2 → Calls Tryz.prog 217 #[.slice I a.index.length ci, .slice (some ⟨gl, 0, none⟩) nl nl] w2 fun r w' => r = .returned (.int .u64 (value a.index m.locals : Nat)) ∧ Below w2.heap.size w2 w' :=
      fun w2 hb => (val_any (h.below hb) hw a.index (hav.index.below hb) hev).mono fun _ _ ⟨e1, e2, _⟩ => ⟨e1, e2⟩
    generalize value a.index m.locals = v at *
    have hB : a.base + z ≤ 4096 := by omega
    clear h6 hev hloc hli h5 h3 h1 h2
    generalize hq : v % z = q at *
    have HV := Lib.hid HV
    have hmc : Blk w g 170 (machC tl va gl nl m) := h.blk
    generalize hb : a.base = base at *
    unfold actC
    rw [hb, hz]
    clear h hav hw ha hz hb
    go_enter Tryz.func231, Tryz.ntmps231
    go_upto_region 1 with fail
    obtain ⟨w0, hw0⟩ : ∃ x, x = w.alloc (.cells #[.int .i64 a.op, .int .i64 a.dst, .int .i64 base, .int .i64 z, .slice I a.index.length ci, .slice E le ce, .slice F lf cf, .int .i64 a.mode, .int .i64 a.to, .int .i64 a.line, .int .i64 a.col] 58) := ⟨_, rfl⟩
    have hb0 : Below w.heap.size w w0 := by rw [hw0]; exact Kit.Below.al (Below.refl _ _) _
    have hA0 : Blk w0 w.heap.size 58 #[.int .i64 a.op, .int .i64 a.dst, .int .i64 base, .int .i64 z, .slice I a.index.length ci, .slice E le ce, .slice F lf cf, .int .i64 a.mode, .int .i64 a.to, .int .i64 a.line, .int .i64 a.col] := by rw [hw0]; exact Blk.new _ _ _
    have hM0 := hmc.below' hb0
    rw [← hw0]
    clear hw0 hmc
    have k3 : w0.cell? ⟨w.heap.size, 3, none⟩ = some (.int .i64 z) := hA0.cell 3
    have q0 : ((z : Int) == 0) = false := by simp; omega
    go_upto_region 3 with fail
    have hval : ∀ p : Cls (Below w0.heap.size w0), Hid (Calls Tryz.prog 217 #[.slice I a.index.length ci, .slice (some ⟨gl, 0, none⟩) nl nl] p.w fun e w' => e = .returned (.int .u64 v) ∧ ∃ q : Cls (Below w0.heap.size w0), w' = q.w) :=
      fun p => Calls.cls ((HV.out p.w (Kit.Below.then hb0 p.h)).mono fun e w' ⟨h1, h2⟩ => ⟨h1, Kit.Below.then p.h h2⟩)
    have c2 : ∀ p : Cls (Below w0.heap.size w0), p.w.cell? ⟨w.heap.size, 2, none⟩ = some (.int .i64 base) := fun p => hA0.cls 2 p
    have c3 : ∀ p : Cls (Below w0.heap.size w0), p.w.cell? ⟨w.heap.size, 3, none⟩ = some (.int .i64 z) := fun p => hA0.cls 3 p
    have c4 : ∀ p : Cls (Below w0.heap.size w0), p.w.cell? ⟨w.heap.size, 4, none⟩ = some (.slice I a.index.length ci) := fun p => hA0.cls 4 p
    have cl : ∀ p : Cls (Below w0.heap.size w0), p.w.cell? ⟨g, 3, none⟩ = some (.slice (some ⟨gl, 0, none⟩) nl nl) := fun p => hM0.cls 3 p
    clear k3 HV
    refine wp_region_cls (Below w0.heap.size w0) (Below_drewN _ 1) (by kernel_rfl) (by kernel_rfl) ?_
    intro hne
    repeat (go_big_quiet_step ((go_at_call 217; exact (hval _).out)))
    refine wpQuiet_nil ?_
    intro w8 h8
    clear hne
    go_wp2_with fail
    go_ret
    exact ⟨rfl, Kit.Below.then hb0 h8⟩
end Go.Proofs.YtmjilfamjlnigaaGreat.MchW
