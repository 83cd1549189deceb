/- PLAIN: what picks do, and what they leave (chapter 19), whatever the machines. No program in sight. -/
import Derived.Test.YtmjilfamjlnigaaGreatQ01
import Derived.Test.YtmjilfamjlnigaaGreatProg
import Derived.WalkKit
import Derived.Deep.LoopGhost
import Derived.Deep.DeepCutAuto
import Derived.Deep.CutBlock
import Derived.Outline
import Derived.BigQuiet
import Derived.Deep.QuietTactic
import Derived.OwnWalk
import Derived.Laws.MakeOwn
import Derived.Lib.Hide
import Derived.Laws.BitsAllLaws
import Derived.StillTail
namespace Go.Proofs.YtmjilfamjlnigaaGreat.SrcP
open Go

section
variable {M : Type} (K : Kd M)
/-- What a run grows by. -/
structure Grows (r r' : Rn M) : Prop where
  events : ∃ l, r'.events = r.events ++ l
  used : r.used ≤ r'.used
  ths : r'.ths.length = r.ths.length
  outs : r'.outs.length = r.outs.length
  out : ∀ t, ∃ l, r'.outs.getD t [] = r.outs.getD t [] ++ l
  cells : r'.cells.length = r.cells.length
theorem Grows.refl (r : Rn M) : Grows r r := ⟨⟨[], by simp⟩, Nat.le_refl _, rfl, rfl, fun _ => ⟨[], by simp⟩, rfl⟩
theorem Grows.trans {r r1 r2 : Rn M} (h : Grows r r1) (h' : Grows r1 r2) : Grows r r2 := by
  refine ⟨?_, Nat.le_trans h.used h'.used, h'.ths.trans h.ths, h'.outs.trans h.outs, fun t => ?_, h'.cells.trans h.cells⟩
  · obtain ⟨l, hl⟩ := h.events
    obtain ⟨l', hl'⟩ := h'.events
    exact ⟨l ++ l', by rw [hl', hl, List.append_assoc]⟩
  · obtain ⟨l, hl⟩ := h.out t
    obtain ⟨l', hl'⟩ := h'.out t
    exact ⟨l ++ l', by rw [hl', hl, List.append_assoc]⟩
theorem Grows.setT (r : Rn M) (t : Nat) (x : Th M) : Grows r (r.setT t x) := ⟨⟨[], by simp [Rn.setT]⟩, Nat.le_refl _, by simp [Rn.setT], rfl, fun _ => ⟨[], by simp [Rn.setT]⟩, rfl⟩
theorem Grows.event (r : Rn M) (t : Nat) (k l : Int) (v : Nat) (m : Int) : Grows r (r.event K t k l v m) := ⟨⟨_, rfl⟩, Nat.le_refl _, by simp [Rn.event], rfl, fun _ => ⟨[], by simp [Rn.event]⟩, rfl⟩
theorem Grows.read (r : Rn M) (n : Nat) (w : Want) : Grows r (r.read n w) := ⟨⟨[], by simp [Rn.read]⟩, Nat.le_refl _, rfl, rfl, fun _ => ⟨[], by simp [Rn.read]⟩, rfl⟩
theorem Grows.exd (r : Rn M) (t : Nat) (w : Want) : Grows r (r.exd K t w) := by
  unfold Rn.exd
  split
  · exact Grows.setT _ _ _
  · exact Grows.refl _
theorem Grows.feed (r : Rn M) (t v : Nat) : Grows r (r.feed K t v) := Grows.setT _ _ _
theorem Grows.ask (r : Rn M) (t : Nat) : Grows r (r.ask K t) := Grows.setT _ _ _
theorem Grows.load (r : Rn M) (t : Nat) (w : Want) : Grows r (r.load K t w) :=
  (((Grows.event K r t 1 w.loc (r.cell w) w.mode).trans (Grows.read _ _ w)).trans (Grows.exd K _ t w)).trans (Grows.feed K _ t _)
theorem Grows.wrote (r : Rn M) (n : Nat) (w : Want) : Grows r (r.wrote n w) := ⟨⟨[], by simp [Rn.wrote]⟩, Nat.le_refl _, rfl, rfl, fun _ => ⟨[], by simp [Rn.wrote]⟩, by simp [Rn.wrote]⟩
theorem Grows.store (r : Rn M) (t : Nat) (w : Want) : Grows r (r.store K t w) :=
  ((Grows.event K r t 2 w.loc w.val w.mode).trans (Grows.wrote _ _ w)).trans (Grows.feed K _ t _)
theorem Grows.did (r : Rn M) (t : Nat) : Grows r (r.did t) := ⟨⟨[], by simp [Rn.did]⟩, Nat.le_succ _, rfl, rfl, fun _ => ⟨[], by simp [Rn.did]⟩, rfl⟩
theorem Grows.outR (r : Rn M) (t v : Nat) : Grows r (r.out t v) := by
  refine ⟨⟨[], by simp [Rn.out]⟩, Nat.le_refl _, rfl, by simp [Rn.out], fun u => ?_, rfl⟩
  simp only [Rn.out, List.getD, List.getElem?_set]
  by_cases hu : t = u
  · subst hu
    by_cases hl : t < r.outs.length
    · exact ⟨[v], by simp [hl]⟩
    · exact ⟨[], by simp [hl]⟩
  · exact ⟨[], by simp [hu]⟩
theorem Grows.second (r : Rn M) (t n : Nat) : Grows r (r.second K t n) := by
  unfold Rn.second
  simp only
  split
  · exact Grows.refl r
  · have h3 := Grows.store K r t (r.wants K t)
    split
    · exact h3
    · split
      · exact h3.trans ⟨⟨[], by simp⟩, Nat.le_refl _, rfl, rfl, fun _ => ⟨[], by simp⟩, rfl⟩
      · exact h3.trans ⟨⟨[], by simp⟩, Nat.le_refl _, rfl, rfl, fun _ => ⟨[], by simp⟩, rfl⟩
theorem Grows.doo (r : Rn M) (t : Nat) (w : Want) : Grows r (r.doo K t w) := by
  unfold Rn.doo
  repeat' split
  · exact Grows.load K r t w
  · exact ((Grows.load K r t w).trans (Grows.ask K _ t)).trans (Grows.second K _ t _)
  · exact Grows.load K r t w
  · exact ((Grows.load K r t w).trans (Grows.ask K _ t)).trans (Grows.second K _ t _)
  · exact Grows.feed K r t 0
  · exact Grows.store K r t w
  · exact (Grows.event K r t _ _ _ _).trans (Grows.feed K _ t 0)
  · exact (Grows.outR r t _).trans (Grows.feed K _ t 0)
  · exact Grows.refl r
theorem Grows.pick (r : Rn M) (t : Int) : Grows r (r.pick K t) := by
  unfold Rn.pick
  simp only
  split
  · exact Grows.refl r
  · split
    · exact ((Grows.ask K r _).trans (Grows.did _ _)).trans (Grows.doo K _ _ _)
    · exact Grows.ask K r _
theorem play_grows (fuel : Int) : ∀ (l : List Int) (r : Rn M), Grows r (K.play fuel l r).1
  | [], r => Grows.refl r
  | t :: l, r => by
    unfold Kd.play
    split
    · exact Grows.refl r
    · split
      · exact Grows.refl r
      · exact (Grows.pick K r t).trans (play_grows fuel l _)
/-- A beginning of picks. -/
theorem play_append (fuel : Int) (l2 : List Int) : ∀ (l1 : List Int) (r x : Rn M), K.play fuel (l1 ++ l2) r = (x, false) → ∃ y, K.play fuel l1 r = (y, false) ∧ Grows y x
  | [], r, x, h => by
    have hg := play_grows K fuel l2 r
    rw [List.nil_append] at h
    rw [h] at hg
    refine ⟨r, ?_, hg⟩
    unfold Kd.play
    by_cases hl : 256 < r.events.length
    · exfalso
      cases l2 with
      | nil => simp [Kd.play, hl] at h
      | cons t l => simp [Kd.play, hl] at h
    · simp [hl]
  | t :: l1, r, x, h => by
    rw [List.cons_append] at h
    unfold Kd.play at h ⊢
    by_cases hl : 256 < r.events.length
    · simp [hl] at h
    · rw [if_neg hl] at h ⊢
      by_cases hf : fuel ≤ r.used
      · rw [if_pos hf] at h ⊢
        injection h with h _
        subst h
        exact ⟨r, rfl, Grows.refl r⟩
      · rw [if_neg hf] at h ⊢
        exact play_append fuel l2 l1 _ x h
/-- Picks that are no thread's. -/
def oddL (odd : Int) : List Int → List Int
  | [] => []
  | t :: l => odd :: t :: oddL odd l
theorem play_odd (fuel odd : Int) : ∀ (l : List Int) (r : Rn M), (odd < 0 ∨ (r.ths.length : Int) ≤ odd) → K.play fuel (oddL odd l) r = K.play fuel l r
  | [], r, _ => rfl
  | t :: l, r, ho => by
    have hp : r.pick K odd = r := by unfold Rn.pick; rw [if_pos ho]
    have ih := play_odd fuel odd l (r.pick K t) (by rw [(Grows.pick K r t).ths]; exact ho)
    show K.play fuel (odd :: t :: oddL odd l) r = K.play fuel (t :: l) r
    rw [Kd.play, Kd.play]
    rw [hp]
    rw [Kd.play, ih]
    split
    · rfl
    · split
      · rfl
      · rename_i h1 h2
        simp [h1, h2]
theorem run_take {n : Nat} {ms : List M} {picks : List Int} {fuel : Int} {x : Rn M} (h : K.run n ms picks fuel = some x) (k : Nat) : ∃ y, K.run n ms (picks.take k) fuel = some y ∧ Grows y x := by
  unfold Kd.run at h ⊢
  cases hp : K.play fuel picks (K.start n ms) with
  | mk r b =>
    rw [hp] at h
    cases b with
    | true => cases h
    | false =>
      obtain rfl : r = x := by simpa using h
      rw [← List.take_append_drop k picks] at hp
      obtain ⟨y, hy, hg⟩ := play_append K fuel _ _ _ _ hp
      exact ⟨y, by rw [hy], hg⟩
theorem run_odd (n : Nat) (ms : List M) (picks : List Int) (fuel : Int) (odd : Int) (ho : odd < 0 ∨ (ms.length : Int) ≤ odd) : K.run n ms (oddL odd picks) fuel = K.run n ms picks fuel := by
  unfold Kd.run
  rw [play_odd K fuel odd picks (K.start n ms) (by rw [K.start_eq]; simpa using ho)]
end
theorem source_take {p : Prog} {picks : List Int} {fuel : Int} {lse : Bool} {x : Rn Mch} (h : sourceS p picks fuel lse = .ok x) (k : Nat) : ∃ y, sourceS p (picks.take k) fuel lse = .ok y ∧ Grows y x := by
  unfold sourceS at h ⊢
  split at h
  · cases h
  · rename_i hc
    rw [if_neg hc]
    cases hp : (srcK lse).run p.cells.toNat (p.threads.map newM) picks fuel with
    | none => rw [hp] at h; cases h
    | some r =>
      rw [hp] at h
      obtain rfl : r = x := by simpa using h
      obtain ⟨y, hy, hg⟩ := run_take _ hp k
      exact ⟨y, by rw [hy], hg⟩
theorem source_odd (p : Prog) (picks : List Int) (fuel : Int) (lse : Bool) (odd : Int) (ho : odd < 0 ∨ (p.threads.length : Int) ≤ odd) : sourceS p (oddL odd picks) fuel lse = sourceS p picks fuel lse := by
  unfold sourceS
  rw [run_odd _ _ _ _ _ odd (by simpa using ho)]
def fenceA : SrcP.Act := ⟨7, 0, 0, 0, [], [], [], 5, 0, 0, 0⟩
def limitP : Prog := ⟨1, [⟨0, List.replicate 256 fenceA⟩]⟩
def res (x : Except Nat (Rn Mch)) : Option (Nat × Nat × Nat) := match x with | .ok r => some (r.events.length, r.used, ((r.ask (srcK false) 0).wants (srcK false) 0).what.toNat) | .error _ => none
theorem limit_a : res (sourceS limitP (List.replicate 255 0) 1000 false) = some (256, 255, 3) := by decide +kernel
theorem limit_b : (match sourceS limitP (List.replicate 300 0) 1000 false with | .ok _ => 0 | .error e => e) = 2 := by decide +kernel
theorem limit_c : res (sourceS limitP (List.replicate 300 0) 255 false) = some (256, 255, 3) := by decide +kernel
end Go.Proofs.YtmjilfamjlnigaaGreat.SrcP
/- MEMORY: a program of the source, as it lies. -/
namespace Go.Proofs.YtmjilfamjlnigaaGreat.SrcW
open Go Go.RowKit Go.Proofs.YtmjilfamjlnigaaGreat.Kit Go.Proofs.YtmjilfamjlnigaaGreat.SrcP

/-- These cells lie at an address. -/
def CellsAt (w : World) (a : Addr) (cs : List Value) : Prop := ∀ j u, cs[j]? = some u → w.cell? (a.add j) = some u
theorem CellsAt.below {w w' : World} {a : Addr} {cs : List Value} (h : CellsAt w a cs) (hb : Below w.heap.size w w') : CellsAt w' a cs := fun j u hj =>
  (hb.cell (World.block_lt_of_cell? w _ (h j u hj))).trans (h j u hj)

def nodeC (n : SrcP.Node) : List Value := [.int .i64 n.op, .int .u64 n.val, .int .i64 n.a, .int .i64 n.b]
def NodesAt (w : World) (v : Value) (l : List SrcP.Node) : Prop :=
  ∃ A c, v = .slice A l.length c ∧ ∀ i n, l[i]? = some n → n.val < M64 ∧ ∃ ad, A = some ad ∧ CellsAt w (ad.add (i * 4)) (nodeC n)
theorem NodesAt.below {w w' : World} {v : Value} {l : List SrcP.Node} (h : NodesAt w v l) (hb : Below w.heap.size w w') : NodesAt w' v l := by
  obtain ⟨A, c, rfl, h⟩ := h
  refine ⟨A, c, rfl, fun i n hi => ?_⟩
  obtain ⟨h1, ad, h2, h3⟩ := h i n hi
  exact ⟨h1, ad, h2, h3.below hb⟩
theorem info_u64 : (Tryz.prog.info? 40).map (fun i => (i.zero, i.size, i.bytes)) = some (some (.int .u64 0), 1, 8) := by kernel_rfl
/-- make of so many zeros. -/
theorem make_u64 (n : Nat) (hn : n ≤ 1048576) (w : World) : (Instr.makeSlice 32 (.int .i64 (n : Int)) (.int .i64 (n : Int))).run Tryz.prog w = .ok (.slice (some ⟨w.heap.size, 0, none⟩) n n) (w.alloc (.cells (Array.replicate n (.int .u64 0)) 40)) := by
  obtain ⟨i0, hi0, hz0, hz1, hz2⟩ := info_parts info_u64
  have hr := run_make (P := Tryz.prog) w 32 40 i0 (.int .u64 0) Tryz.underlying32 hi0 hz0 .i64 .i64 n n (by omega) (Int.le_refl _) (by rw [hz2]; omega) (by omega)
  rw [hr, hz1]
  have e : madeCells (Value.int .u64 0).cells ((n : Int).toNat * 1) = Array.replicate n (.int .u64 0) := by
    apply Array.ext
    · simp [madeCells]
    · intro j h1 h2
      simp only [madeCells, Array.getElem_map, Array.getElem_range, Array.getElem_replicate]
      have : ∀ x : Nat, x % (Value.int .u64 0).cells.size = 0 := fun x => Nat.mod_one x
      rw [this]
      rfl
  rw [e]
  simp
end Go.Proofs.YtmjilfamjlnigaaGreat.SrcW
/- WALKS: small functions of a source thread; an expression's value. -/
namespace Go.Proofs.YtmjilfamjlnigaaGreat.SrcP
theorem evalL_append (locals : List Nat) (a b : List SrcP.Node) (v : List Nat) : evalL locals (a ++ b) v = evalL locals b (evalL locals a v) := by
  induction a generalizing v with
  | nil => rfl
  | cons n a ih => exact ih _
theorem evalL_len (locals : List Nat) (a : List SrcP.Node) (v : List Nat) : (evalL locals a v).length = v.length + a.length := by
  induction a generalizing v with
  | nil => rfl
  | cons n a ih => rw [evalL, ih]; simp; omega
theorem evalL_take (locals : List Nat) (a : List SrcP.Node) (k : Nat) (h : k < a.length) : evalL locals (a.take (k + 1)) [] = evalL locals (a.take k) [] ++ [nodeV locals (evalL locals (a.take k) []) a[k]] := by
  rw [List.take_add_one, List.getElem?_eq_getElem h, evalL_append]
  rfl
end Go.Proofs.YtmjilfamjlnigaaGreat.SrcP
namespace Go.Proofs.YtmjilfamjlnigaaGreat.SrcW
open Go Go.RowKit Go.Proofs.YtmjilfamjlnigaaGreat.Kit Go.Proofs.YtmjilfamjlnigaaGreat.SrcP

def u64s (l : List Nat) : List Value := l.map fun (x : Nat) => .int .u64 (x : Int)
theorem truth_any (b : Bool) (w : World) : Calls Tryz.prog 230 #[.bool b] w fun e w' => e = .returned (.int .u64 (truth b : Nat)) ∧ w' = w := by
  cases b
  all_goals
    go_enter Tryz.func230, Tryz.ntmps230
    go_wp2_with fail
    go_ret
    exact ⟨rfl, rfl⟩
theorem and63 (b : Nat) (hb : b < M64) : bits .and .u64 (b : Int) 63 = ((b % 64 : Nat) : Int) := by
  have h := u64_and_nat b 63 hb (by decide)
  rw [show (63 : Int) = ((63 : Nat) : Int) from rfl, h]
  congr 1
  exact Nat.and_two_pow_sub_one_eq_mod b 6
theorem wrap_sub (a b : Nat) (ha : a < M64) (hb : b < M64) : IntKind.u64.wrap ((a : Int) - b) = ((a + (M64 - b)) % M64 : Nat) := by
  rw [IntKind.wrap_u64]
  unfold M64 at *
  omega
theorem beq_cast (a b : Nat) : ((a : Int) == (b : Int)) = (a == b) := by
  by_cases h : a = b
  · simp [h]
  · have : ¬ ((a : Int) = b) := by omega
    rw [beq_eq_false_iff_ne.2 this, beq_eq_false_iff_ne.2 h]
theorem two_lt (op : Int) (a b : Nat) (ha : a < M64) (hb : b < M64) : two op a b < M64 := by
  have ht : ∀ b, truth b < M64 := fun b => by cases b <;> decide
  unfold two
  by_cases h6 : op = 6
  · rw [if_pos h6]; exact Nat.mod_lt _ (by decide)
  rw [if_neg h6]
  by_cases h7 : op = 7
  · rw [if_pos h7]; exact Nat.mod_lt _ (by decide)
  rw [if_neg h7]
  by_cases h8 : op = 8
  · rw [if_pos h8]; exact Nat.mod_lt _ (by decide)
  rw [if_neg h8]
  by_cases h9 : op = 9
  · rw [if_pos h9]; exact Nat.mod_lt _ (by decide)
  rw [if_neg h9]
  by_cases h10 : op = 10
  · rw [if_pos h10]; exact Nat.lt_of_le_of_lt (Nat.div_le_self _ _) ha
  rw [if_neg h10]
  by_cases h11 : op = 11
  · rw [if_pos h11]; exact Nat.lt_of_le_of_lt Nat.and_le_left ha
  rw [if_neg h11]
  by_cases h12 : op = 12
  · rw [if_pos h12]; exact Nat.xor_lt_two_pow (n := 64) ha hb
  rw [if_neg h12]
  by_cases h13 : op = 13
  · rw [if_pos h13]; exact Nat.or_lt_two_pow (n := 64) ha hb
  rw [if_neg h13]
  by_cases h14 : op = 14
  · rw [if_pos h14]; exact ht _
  rw [if_neg h14]
  by_cases h15 : op = 15
  · rw [if_pos h15]; exact ht _
  rw [if_neg h15]
  by_cases h16 : op = 16
  · rw [if_pos h16]; exact ht _
  rw [if_neg h16]
  by_cases h17 : op = 17
  · rw [if_pos h17]; exact ht _
  rw [if_neg h17]
  by_cases h18 : op = 18
  · rw [if_pos h18]; exact ht _
  rw [if_neg h18]
  exact ht _
theorem one_lt (op : Int) (a : Nat) (ha : a < M64) : one op a < M64 := by
  have ht : ∀ b, truth b < M64 := fun b => by cases b <;> decide
  unfold one
  split; · exact Nat.mod_lt _ (by decide)
  split; · unfold M64 at *; omega
  exact ht _
set_option maxRecDepth 100000 in
set_option maxHeartbeats 1000000 in
theorem one_any (op : Int) (a : Nat) (ha : a < M64) (w : World) : Calls Tryz.prog 220 #[.int .i64 op, .int .u64 a] w fun e w' => e = .returned (.int .u64 (one op a : Nat)) ∧ w' = w := by
  have ht := fun b => truth_any b w
  by_cases h3 : op = 3
  · subst h3
    go_enter Tryz.func220, Tryz.ntmps220
    go_wp2_with fail
    go_ret
    refine ⟨congrArg (fun x : Int => Ending.returned (.int .u64 x)) ?_, rfl⟩
    show IntKind.u64.wrap (-(a : Int)) = (((M64 - a) % M64 : Nat) : Int)
    rw [IntKind.wrap_u64]
    unfold M64 at *
    omega
  · by_cases h4 : op = 4
    · subst h4
      go_enter Tryz.func220, Tryz.ntmps220
      go_wp2_with fail
      go_ret
      refine ⟨congrArg (fun x : Int => Ending.returned (.int .u64 x)) ?_, rfl⟩
      show bits .xor .u64 ((18446744073709551615 : Nat) : Int) (a : Int) = ((M64 - 1 - a : Nat) : Int)
      rw [u64_xor_nat _ _ (by decide) ha]
      congr 1
      exact Nat.eq_of_testBit_eq fun i => by
        rw [Nat.testBit_xor, show M64 - 1 - a = 2 ^ 64 - (a + 1) by unfold M64; omega, Nat.testBit_two_pow_sub_succ ha, show (18446744073709551615 : Nat) = 2 ^ 64 - 1 by rfl, Nat.testBit_two_pow_sub_one]
        by_cases hi : i < 64
        · simp [hi]
        · have : a.testBit i = false := Nat.testBit_lt_two_pow (Nat.lt_of_lt_of_le ha (show 2 ^ 64 ≤ 2 ^ i from Nat.pow_le_pow_right (by decide) (Nat.le_of_not_lt hi)))
          simp [hi, this]
    · have q3 : (op == 3) = false := by simp [h3]
      have q4 : (op == 4) = false := by simp [h4]
      go_enter Tryz.func220, Tryz.ntmps220
      go_wp2_with (go_at_call 230; refine (ht _).mono ?_; rintro e w' ⟨rfl, rfl⟩)
      go_ret
      refine ⟨congrArg (fun x : Int => Ending.returned (.int .u64 x)) ?_, rfl⟩
      show ((truth ((a : Int) == ((0 : Nat) : Int)) : Nat) : Int) = _
      rw [beq_cast]
      simp [one, h3, h4]
set_option maxRecDepth 100000 in
set_option maxHeartbeats 4000000 in
theorem two_any (op : Int) (a b : Nat) (ha : a < M64) (hb : b < M64) (w : World) : Calls Tryz.prog 221 #[.int .i64 op, .int .u64 a, .int .u64 b] w fun e w' => e = .returned (.int .u64 (two op a b : Nat)) ∧ w' = w := by
  have ht := fun b => truth_any b w
  have k63 := and63 b hb
  have k1 : 0 ≤ bits .and .u64 (b : Int) 63 := by omega
  have k2 : bits .and .u64 (b : Int) 63 ≤ 64 := by omega
  by_cases h6 : op = 6
  · subst h6
    go_enter Tryz.func221, Tryz.ntmps221
    go_wp2_with (go_at_call 230; refine (ht _).mono ?_; rintro e w' ⟨rfl, rfl⟩)
    go_ret
    refine ⟨congrArg (fun x : Int => Ending.returned (.int .u64 x)) ?_, rfl⟩
    exact (show _ = ((a * b % M64 : Nat) : Int) by rw [IntKind.wrap_u64, Int.natCast_emod, Int.natCast_mul]; rfl)
  have q6 : (op == 6) = false := by simp [h6]
  by_cases h7 : op = 7
  · subst h7
    go_enter Tryz.func221, Tryz.ntmps221
    go_wp2_with (go_at_call 230; refine (ht _).mono ?_; rintro e w' ⟨rfl, rfl⟩)
    go_ret
    refine ⟨congrArg (fun x : Int => Ending.returned (.int .u64 x)) ?_, rfl⟩
    exact (show _ = (((a + b) % M64 : Nat) : Int) by rw [IntKind.wrap_u64, Int.natCast_emod, Int.natCast_add]; rfl)
  have q7 : (op == 7) = false := by simp [h7]
  by_cases h8 : op = 8
  · subst h8
    go_enter Tryz.func221, Tryz.ntmps221
    go_wp2_with (go_at_call 230; refine (ht _).mono ?_; rintro e w' ⟨rfl, rfl⟩)
    go_ret
    refine ⟨congrArg (fun x : Int => Ending.returned (.int .u64 x)) ?_, rfl⟩
    exact wrap_sub a b ha hb
  have q8 : (op == 8) = false := by simp [h8]
  by_cases h9 : op = 9
  · subst h9
    go_enter Tryz.func221, Tryz.ntmps221
    go_wp2_with (go_at_call 230; refine (ht _).mono ?_; rintro e w' ⟨rfl, rfl⟩)
    go_ret
    refine ⟨congrArg (fun x : Int => Ending.returned (.int .u64 x)) ?_, rfl⟩
    exact (show _ = ((a * 2 ^ (b % 64) % M64 : Nat) : Int) by rw [IntKind.wrap_u64]; unfold M64; simp)
  have q9 : (op == 9) = false := by simp [h9]
  by_cases h10 : op = 10
  · subst h10
    go_enter Tryz.func221, Tryz.ntmps221
    go_wp2_with (go_at_call 230; refine (ht _).mono ?_; rintro e w' ⟨rfl, rfl⟩)
    go_ret
    refine ⟨congrArg (fun x : Int => Ending.returned (.int .u64 x)) ?_, rfl⟩
    exact (show _ = ((a / 2 ^ (b % 64) : Nat) : Int) by simp)
  have q10 : (op == 10) = false := by simp [h10]
  by_cases h11 : op = 11
  · subst h11
    go_enter Tryz.func221, Tryz.ntmps221
    go_wp2_with (go_at_call 230; refine (ht _).mono ?_; rintro e w' ⟨rfl, rfl⟩)
    go_ret
    refine ⟨congrArg (fun x : Int => Ending.returned (.int .u64 x)) ?_, rfl⟩
    exact u64_and_nat a b ha hb
  have q11 : (op == 11) = false := by simp [h11]
  by_cases h12 : op = 12
  · subst h12
    go_enter Tryz.func221, Tryz.ntmps221
    go_wp2_with (go_at_call 230; refine (ht _).mono ?_; rintro e w' ⟨rfl, rfl⟩)
    go_ret
    refine ⟨congrArg (fun x : Int => Ending.returned (.int .u64 x)) ?_, rfl⟩
    exact u64_xor_nat a b ha hb
  have q12 : (op == 12) = false := by simp [h12]
  by_cases h13 : op = 13
  · subst h13
    go_enter Tryz.func221, Tryz.ntmps221
    go_wp2_with (go_at_call 230; refine (ht _).mono ?_; rintro e w' ⟨rfl, rfl⟩)
    go_ret
    refine ⟨congrArg (fun x : Int => Ending.returned (.int .u64 x)) ?_, rfl⟩
    exact u64_or_nat a b ha hb
  have q13 : (op == 13) = false := by simp [h13]
  by_cases h14 : op = 14
  · subst h14
    go_enter Tryz.func221, Tryz.ntmps221
    go_wp2_with (go_at_call 230; refine (ht _).mono ?_; rintro e w' ⟨rfl, rfl⟩)
    go_ret
    refine ⟨congrArg (fun x : Int => Ending.returned (.int .u64 x)) ?_, rfl⟩
    exact (show ((truth ((a : Int) == (b : Int)) : Nat) : Int) = ((truth (a == b) : Nat) : Int) by rw [beq_cast])
  have q14 : (op == 14) = false := by simp [h14]
  by_cases h15 : op = 15
  · subst h15
    go_enter Tryz.func221, Tryz.ntmps221
    go_wp2_with (go_at_call 230; refine (ht _).mono ?_; rintro e w' ⟨rfl, rfl⟩)
    go_ret
    refine ⟨congrArg (fun x : Int => Ending.returned (.int .u64 x)) ?_, rfl⟩
    exact (show ((truth ((a : Int) != (b : Int)) : Nat) : Int) = ((truth (a != b) : Nat) : Int) by rw [bne, bne, beq_cast])
  have q15 : (op == 15) = false := by simp [h15]
  by_cases h16 : op = 16
  · subst h16
    go_enter Tryz.func221, Tryz.ntmps221
    go_wp2_with (go_at_call 230; refine (ht _).mono ?_; rintro e w' ⟨rfl, rfl⟩)
    go_ret
    refine ⟨congrArg (fun x : Int => Ending.returned (.int .u64 x)) ?_, rfl⟩
    rfl
  have q16 : (op == 16) = false := by simp [h16]
  by_cases h17 : op = 17
  · subst h17
    go_enter Tryz.func221, Tryz.ntmps221
    go_wp2_with (go_at_call 230; refine (ht _).mono ?_; rintro e w' ⟨rfl, rfl⟩)
    go_ret
    refine ⟨congrArg (fun x : Int => Ending.returned (.int .u64 x)) ?_, rfl⟩
    rfl
  have q17 : (op == 17) = false := by simp [h17]
  by_cases h18 : op = 18
  · subst h18
    go_enter Tryz.func221, Tryz.ntmps221
    go_wp2_with (go_at_call 230; refine (ht _).mono ?_; rintro e w' ⟨rfl, rfl⟩)
    go_ret
    refine ⟨congrArg (fun x : Int => Ending.returned (.int .u64 x)) ?_, rfl⟩
    rfl
  have q18 : (op == 18) = false := by simp [h18]
  go_enter Tryz.func221, Tryz.ntmps221
  go_wp2_with (go_at_call 230; refine (ht _).mono ?_; rintro e w' ⟨rfl, rfl⟩)
  go_ret
  refine ⟨congrArg (fun x : Int => Ending.returned (.int .u64 x)) ?_, rfl⟩
  show ((truth (decide (b ≤ a)) : Nat) : Int) = _
  simp [two, *]
end Go.Proofs.YtmjilfamjlnigaaGreat.SrcW
/- A region that draws its order: first what reads or calls within a class of worlds, in any order; then a tail whose order is forced. -/
namespace Go.Proofs.YtmjilfamjlnigaaGreat.Kit
open Go Go.RowKit

section
variable {P : Program} {ops : Array Oper} {md : Region.Mode} {C : World → Prop}

/-- Just so many operations of the head come up, each of them quiet; then T. -/
def headQ (P : Program) (md : Region.Mode) (ops : Array Oper) (C : World → Prop) (n : Nat) (T : Array Bool → Act → Prop) : Nat → Array Bool → Act → Prop
  | 0, listed, a => T listed a
  | f + 1, listed, a => Region.ready md ops listed ≠ [] ∧ ∀ i, i ∈ Region.ready md ops listed → i < n ∧ qOp P ops C i (headQ P md ops C n T f (listed.setIfInBounds i true)) a

theorem headQ_run {n g : Nat} {T : Array Bool → Act → Prop} {Q : Exit → Act → World → Prop} (hT : ∀ listed a w, C w → T listed a → wpAny P md ops Q g listed a w) (f : Nat) :
    ∀ (listed : Array Bool) (a : Act) (w : World), C w → headQ P md ops C n T f listed a → wpAny P md ops Q (f + g) listed a w := by
  induction f with
  | zero => intro listed a w hC h; rw [Nat.zero_add]; exact hT _ _ _ hC h
  | succ f ih =>
    intro listed a w hC h
    have e : f + 1 + g = (f + g) + 1 := by omega
    rw [e]
    refine ⟨fun h0 => absurd h0 h.1, fun i hi => ?_⟩
    exact wpOp_of_qOp hC (fun a' w' hC' h' => ih _ a' w' hC' h') (h.2 i hi).2

/-- What stands in the tail does not come up ahead of the head's end. -/
theorem head_first {n i j : Nat} {listed : Array Bool} (hs : Region.sinkB md ops n = true) (hc : Region.chainB md ops n = true) (hn : n < ops.size) (inv : HeadInv md ops n listed) (hi : i < n)
    (hr : i ∈ Region.ready md ops listed) (hj : j ∈ Region.ready md ops listed) : j < n := by
  rcases Nat.lt_or_ge j n with h | h
  · exact h
  · exact absurd hj (tail_waits hs hc hn inv (n - i) i rfl hi (mem_ready.1 hr).1 j h)

theorem headQ_take {n i : Nat} {oi : Oper} {v : Value} {T : Array Bool → Act → Prop} (hi : ops[i]? = some oi) (hsel : ∀ (j : Nat) (o : Oper) cs b, ops[j]? = some o → o.op ≠ .select cs b)
    (hs : Region.sinkB md ops n = true) (hc : Region.chainB md ops n = true) (hn : n < ops.size) (hin : i < n) (hT : ∀ listed a, T listed a → ∀ j ∈ Region.ready md ops listed, n ≤ j) (f : Nat) :
    ∀ (listed : Array Bool) (a : Act), HeadInv md ops n listed →
      (∀ j oj, ops[j]? = some oj → j ≠ i → listed.getD j true = false → (∀ e ∈ oj.after, Region.binds md e = true → e.on ≠ i) → oi.apart ops oj = true) →
      i ∈ Region.ready md ops listed → YieldsIn P ops C oi v a → headQ P md ops C n T f (listed.setIfInBounds i true) (a.put oi.dst v) → headQ P md ops C n T (f + 1) listed a := by
  induction f with
  | zero =>
    intro listed a inv _ hr hy H
    refine ⟨List.ne_nil_of_mem hr, fun j hj => ?_⟩
    have hjn := head_first hs hc hn inv hin hr hj
    by_cases hji : j = i
    · subst hji; exact ⟨hjn, hy.qOp hi H⟩
    · have := hT _ _ H j (ready_mono hj hji)
      omega
  | succ f ih =>
    intro listed a inv hap hr hy H
    refine ⟨List.ne_nil_of_mem hr, fun j hj => ?_⟩
    have hjn := head_first hs hc hn inv hin hr hj
    refine ⟨hjn, ?_⟩
    by_cases hji : j = i
    · subst hji; exact hy.qOp hi H
    · obtain ⟨hun, oj, hoj, hall⟩ := mem_ready.1 hj
      have hwait : ∀ e ∈ oj.after, Region.binds md e = true → e.on ≠ i := by
        intro e he hb heq
        have h1 := hall e he hb
        rw [heq, getD_both (mem_ready.1 hr).1] at h1
        cases h1
      have step := qOp_put hoj (hap j oj hoj hji hun hwait) (fun cs b => hsel i oi cs b hi) (fun cs b => hsel j oj cs b hoj) hy ((H.2 j (ready_mono hj hji)).2)
      refine qOp_mono (fun a' h3 => ?_) step
      refine ih (listed.setIfInBounds j true) a' (inv.set hj hjn) (fun k ok hk hki hkun hno => ?_) (ready_mono hr (Ne.symm hji)) h3.1 ?_
      · refine hap k ok hk hki ?_ hno
        by_cases hjk : j = k
        · subst hjk; exact hun
        · rwa [getD_set_ne true hjk] at hkun
      · rw [Array.setIfInBounds_comm _ _ hji]
        exact h3.2

theorem headQ_lex {n g : Nat} {R : Act → Prop} (hsel : Region.noSelect ops = true) (hs : Region.sinkB md ops n = true) (hc : Region.chainB md ops n = true) (hn : n < ops.size) (l : List Oper) :
    ∀ (k : Nat) (listed : Array Bool) (a : Act), (∀ j, j < l.length → l[j]? = ops[k + j]?) → k + l.length = n → HeadInv md ops n listed →
      Region.lexHead md ops g l.length k listed = true → wpQuiet P ops C R l a → headQ P md ops C n (fun listed' a' => Region.seqB md ops g n listed' = true ∧ R a') l.length listed a := by
  induction l with
  | nil =>
    intro k listed a _ hk _ hB h
    obtain rfl : k = n := by simpa using hk
    exact ⟨by simpa [Region.lexHead] using hB, h⟩
  | cons o l ih =>
    intro k listed a hl hk inv hB h
    have h0 : ops[k]? = some o := by
      have := hl 0 (by simp)
      simpa using this.symm
    simp only [List.length_cons, Region.lexHead, Bool.and_eq_true] at hB
    obtain ⟨⟨hr, hf⟩, hB'⟩ := hB
    simp only [List.length_cons] at hk
    have hr' : k ∈ Region.ready md ops listed := by simpa using hr
    have hq : qOp P ops C k (wpQuiet P ops C R l) a := by
      unfold qOp
      simp only [h0]
      exact h
    obtain ⟨v, hy, hK⟩ := yieldsIn_of_qOp h0 hq
    refine headQ_take h0 (Region.noSelect_spec hsel) hs hc hn (by omega) (fun _ _ hT => seqB_ready hT.1) l.length listed a inv (Region.free_spec h0 hf) hr' hy ?_
    refine ih (k + 1) _ _ (fun j hj => ?_) (by omega) (inv.set hr' (by omega)) hB' hK
    have := hl (j + 1) (by simp; omega)
    simpa [Nat.add_assoc, Nat.add_comm 1 j] using this

end

/-- **The head is quiet in the class; the tail is walked in the text's order, in every world of the class.** -/
theorem wp_region_cls_tail (C : World → Prop) (n : Nat) {P : Program} {id : Nat} {Q : Exit → Act → World → Prop} {a : Act} {w : World} {l : List Oper} (hC : C { w with drawn := w.drawn + 1 })
    (hm : P.follows .mixedOrders = true) (hB : Region.lexTailB .any l.toArray n = true)
    (h : Nonempty (Cls C) → wpQuiet P l.toArray (fun w' => ∃ p : Cls C, w' = p.w) (fun a' => ∀ w', C w' → wpList P l.toArray Q (l.drop n) a' w') (l.take n) a) : (Code.region id l.toArray true).wp P Q a w := by
  simp only [Region.lexTailB, Bool.and_eq_true, decide_eq_true_eq] at hB
  obtain ⟨⟨⟨⟨hsel, hn⟩, hs⟩, hc⟩, hlex⟩ := hB
  have hn' : n < l.length := by simpa using hn
  have htl : (l.take n).length = n := by simp; omega
  have hdl : (l.drop n).length = l.toArray.size - n := by simp
  have inv0 : HeadInv .any l.toArray n (Array.replicate l.toArray.size false) := by
    refine ⟨by simp, fun j oj _ hl => ?_, fun t _ ht => getD_in (by simpa using ht) (getD_replicate_false _ _)⟩
    rw [getD_replicate_false] at hl
    cases hl
  have H := headQ_lex (md := .any) (g := l.toArray.size - n) hsel hs hc hn (l.take n) 0 _ a (fun j hj => by
    rw [htl] at hj
    simp [hj]) (by simpa using htl) inv0 (by rw [htl]; exact hlex) (h ⟨⟨_, hC⟩⟩)
  refine wp_region_any hm ?_
  have := headQ_run (Q := Q) (g := l.toArray.size - n) (fun listed a' w' hC' hT => by
    obtain ⟨p, rfl⟩ := hC'
    have := wpAny_of_seq (md := .any) (Q' := Q) (l.drop n) n listed a' p.w (fun j => by simp [List.getElem?_drop]) (by rw [hdl]; exact hT.1) (hT.2 p.w p.h)
    rwa [hdl] at this) _ _ _ _ ⟨⟨_, hC⟩, rfl⟩ H
  rw [htl, show n + (l.toArray.size - n) = l.toArray.size by omega] at this
  exact this

end Go.Proofs.YtmjilfamjlnigaaGreat.Kit
