/- WALKS: what a whole program is: each node but the last is an operand just once. -/
import Derived.Test.YtmjilfamjlnigaaGreatQ03
namespace Go.Proofs.YtmjilfamjlnigaaGreat.SrcP
theorem uses_snoc (l : List SrcP.Node) (n : SrcP.Node) (i : Nat) : uses (l ++ [n]) i = uses l i + (if 3 ≤ n.op ∧ n.a = (i : Int) then 1 else 0) + (if 6 ≤ n.op ∧ n.b = (i : Int) then 1 else 0) := by
  unfold uses
  simp only [List.countP_append, List.countP_cons, List.countP_nil]
  by_cases h1 : 3 ≤ n.op ∧ n.a = (i : Int) <;> by_cases h2 : 6 ≤ n.op ∧ n.b = (i : Int) <;> simp [h1, h2] <;> omega
end Go.Proofs.YtmjilfamjlnigaaGreat.SrcP
namespace Go.Proofs.YtmjilfamjlnigaaGreat.SrcW
open Go Go.RowKit Go.Proofs.YtmjilfamjlnigaaGreat.Kit Go.Proofs.YtmjilfamjlnigaaGreat.SrcP

theorem info_int : (Tryz.prog.info? 3).map (fun i => (i.zero, i.size, i.bytes)) = some (some (.int .i64 0), 1, 8) := by kernel_rfl
theorem make_int (n : Nat) (hn : n ≤ 1048576) (w : World) : (Instr.makeSlice 25 (.int .i64 (n : Int)) (.int .i64 (n : Int))).run Tryz.prog w = .ok (.slice (some ⟨w.heap.size, 0, none⟩) n n) (w.alloc (.cells (Array.replicate n (.int .i64 0)) 3)) := by
  obtain ⟨i0, hi0, hz0, hz1, hz2⟩ := info_parts info_int
  have hr := run_make (P := Tryz.prog) w 25 3 i0 (.int .i64 0) Tryz.underlying25 hi0 hz0 .i64 .i64 n n (by omega) (Int.le_refl _) (by rw [hz2]; omega) (by omega)
  rw [hr, hz1]
  have e : madeCells (Value.int .i64 0).cells ((n : Int).toNat * 1) = Array.replicate n (.int .i64 0) := by
    apply Array.ext
    · simp [madeCells]
    · intro j h1 h2
      simp only [madeCells, Array.getElem_map, Array.getElem_range, Array.getElem_replicate]
      have : ∀ x : Nat, x % (Value.int .i64 0).cells.size = 0 := fun x => Nat.mod_one x
      rw [this]
      rfl
  rw [e]
  simp
/-- So many numbers, told by their places. -/
def cellsF (f : Nat → Nat) (n : Nat) : Array Value := ((List.range n).map fun i => Value.int .i64 (f i : Nat)).toArray
theorem cellsF_get (f : Nat → Nat) (n j : Nat) (h : j < n) : (cellsF f n)[j]? = some (.int .i64 (f j : Nat)) := by simp [cellsF, h]
theorem cellsF_set (f g : Nat → Nat) (n j : Nat) (v : Int) (hv : v = (g j : Nat)) (hg : ∀ i, i ≠ j → g i = f i) : (cellsF f n).setIfInBounds j (.int .i64 v) = cellsF g n := by
  apply Array.ext_getElem?
  intro i
  subst hv
  rw [Array.getElem?_setIfInBounds]
  by_cases hi : i < n
  · rw [cellsF_get f n i hi, cellsF_get g n i hi]
    by_cases hj : j = i
    · subst hj; simp [cellsF, hi]
    · rw [if_neg hj, hg i (fun e => hj e.symm)]
  · have h1 : (cellsF f n)[i]? = none := by simp [cellsF]; omega
    have h2 : (cellsF g n)[i]? = none := by simp [cellsF]; omega
    rw [h1, h2]
    split
    · rename_i h
      subst h
      have : ¬ j < (cellsF f n).size := by simp [cellsF]; omega
      rw [if_neg this]
    · rfl

def OnRel (l : List SrcP.Node) (w : World) (m : Nat) (s13 : Value) (wr : World) : Prop :=
  ∃ k : Nat, s13 = .int .i64 k ∧ k ≤ l.length ∧ m = l.length - k ∧ Below w.heap.size w wr ∧ Blk wr w.heap.size 3 (cellsF (uses (l.take k)) l.length)
def On2Rel (l : List SrcP.Node) (w w1 : World) (m : Nat) (s40 : Value) (wr : World) : Prop :=
  ∃ k : Nat, s40 = .int .i64 k ∧ k ≤ l.length ∧ m = l.length - k ∧ wr = w1 ∧ ((List.range l.length).drop k).all (fun i => uses l i == if i + 1 < l.length then 1 else 0) = onceB l

set_option maxRecDepth 100000 in
set_option maxHeartbeats 4000000 in
theorem once_any (A : Option Addr) (c : Nat) (l : List SrcP.Node) (w : World) (hl : NodesAt w (.slice A l.length c) l) (h6 : 0 < l.length ∧ l.length ≤ 65536)
    (hok : ∀ (i : Nat) (n : SrcP.Node), l[i]? = some n → (3 ≤ n.op → 0 ≤ n.a ∧ n.a < l.length) ∧ (6 ≤ n.op → 0 ≤ n.b ∧ n.b < l.length)) :
    Calls Tryz.prog 138 #[.slice A l.length c] w fun r w' => r = .returned (.bool (onceB l)) ∧ Below w.heap.size w w' := by
  obtain ⟨h0, h6⟩ := h6
  have hmk := make_int l.length (by omega) w
  obtain ⟨A', c', hv, hE⟩ := hl
  obtain ⟨rfl, rfl⟩ : A = A' ∧ c = c' := by simpa using hv
  obtain ⟨_, ad, rfl, _⟩ := hE 0 l[0] (by simp)
  have HE := Lib.hid hE
  have HV := Lib.hid hok
  clear hE hok hv
  go_enter Tryz.func138, Tryz.ntmps138
  go_wp2_with fail
  go_loopg [13] l.length (fun m s13 wr => OnRel l w m s13 wr)
  case atStart =>
    refine ⟨0, rfl, Nat.zero_le _, rfl, Kit.Below.al (Below.refl _ _) _, ?_⟩
    have := Blk.new w 3 (Array.replicate l.length (.int .i64 0))
    have e : cellsF (uses (l.take 0)) l.length = Array.replicate l.length (.int .i64 0) := by
      apply Array.ext
      · simp [cellsF]
      · intro j h1 h2
        simp [cellsF, uses]
    rwa [e]
  case round =>
    obtain ⟨k, rfl, hk, hm, hb, hB⟩ := hrel
    have HM := Lib.hid hm
    have HB := Lib.hid hB
    clear hm hB
    by_cases hke : k < l.length
    · obtain ⟨_, ad', hh, hC⟩ := HE.out k l[k] (by simp [hke])
      obtain rfl : ad = ad' := by simpa using hh
      have hE := HV.out k l[k] (by simp [hke])
      have hsn : ∀ i : Nat, uses (l.take (k + 1)) i = uses (l.take k) i + (if 3 ≤ l[k].op ∧ l[k].a = (i : Int) then 1 else 0) + (if 6 ≤ l[k].op ∧ l[k].b = (i : Int) then 1 else 0) := fun i => by
        rw [List.take_add_one, List.getElem?_eq_getElem hke]
        exact uses_snoc (l.take k) l[k] i
      generalize hn : l[k] = n at *
      obtain ⟨op, val, na, nb⟩ := n
      replace hC := hC.below hb
      have n0 : wr.cell? (ad.add (k * 4)) = some (.int .i64 op) := hC 0 _ rfl
      have n1 : wr.cell? ⟨(ad.add (k * 4)).block, (ad.add (k * 4)).off + 1, none⟩ = some (.int .u64 val) := hC 1 _ rfl
      have n2 : wr.cell? ⟨(ad.add (k * 4)).block, (ad.add (k * 4)).off + 2, none⟩ = some (.int .i64 na) := hC 2 _ rfl
      have n3 : wr.cell? ⟨(ad.add (k * 4)).block, (ad.add (k * 4)).off + 3, none⟩ = some (.int .i64 nb) := hC 3 _ rfl
      have a1 : (k : Int) < (l.length : Int) := by omega
      have a2 : (0 : Int) ≤ (k : Int) := by omega
      have hgs := HB.out.lt
      go_upto_region 5 with fail
      obtain ⟨wx, hwx⟩ : ∃ x, x = wr.alloc (.cells #[.int .i64 op, .int .u64 val, .int .i64 na, .int .i64 nb] 112) := ⟨_, rfl⟩
      have hbx : Below w.heap.size w wx := by rw [hwx]; exact Kit.Below.al hb _
      have hBx : Blk wx w.heap.size 3 (cellsF (uses (l.take k)) l.length) := by rw [hwx]; exact HB.out.alloc _
      have hBL : Blk wx wr.heap.size 112 #[.int .i64 op, .int .u64 val, .int .i64 na, .int .i64 nb] := by rw [hwx]; exact Blk.new _ _ _
      have hgne : wr.heap.size ≠ w.heap.size := by omega
      generalize wr.heap.size = gl at *
      rw [← hwx]
      clear hwx n0 n1 n2 n3 hC hb
      have n0 : wx.cell? ⟨gl, 0, none⟩ = some (.int .i64 op) := hBL.cell 0
      have n2 : wx.cell? ⟨gl, 2, none⟩ = some (.int .i64 na) := hBL.cell 2
      simp only at hE hsn
      have HS := Lib.hid hsn
      clear hsn
      by_cases h3 : 3 ≤ op
      · obtain ⟨e1, e2⟩ := hE.1 h3
        obtain ⟨x, rfl⟩ := Int.eq_ofNat_of_zero_le e1
        have hx : x < l.length := by omega
        have c1 : wx.cell? ⟨w.heap.size, x, none⟩ = some (.int .i64 (uses (l.take k) x : Nat)) := (hBx.cell x).trans (cellsF_get _ _ _ hx)
        have c2 : wx.frozen? ⟨w.heap.size, x, none⟩ = false := hBx.frozen x
        have hB1 := hBx.set x (.int .i64 ((uses (l.take k) x : Nat) + 1))
        rw [cellsF_set (uses (l.take k)) (fun i => uses (l.take k) i + if i = x then 1 else 0) l.length x _ (by simp) (fun i hi => by simp [hi])] at hB1
        have hbu : (uses (l.take k) x : Nat) ≤ 131072 := by
          have h1 := List.countP_le_length (p := fun n : SrcP.Node => decide (3 ≤ n.op) && decide (n.a = (x : Int))) (l := l.take k)
          have h2 := List.countP_le_length (p := fun n : SrcP.Node => decide (6 ≤ n.op) && decide (n.b = (x : Int))) (l := l.take k)
          have h3 : (l.take k).length ≤ 65536 := by simp; omega
          unfold uses
          omega
        have b1 : (0 : Int) ≤ (x : Int) := by omega
        have b2 : (x : Int) < (l.length : Int) := by omega
        have HB1 := Lib.hid hB1
        clear hB1
        go_upto_region 7 with fail
        obtain ⟨wy, hwy⟩ : ∃ y, y = wx.setCell ⟨w.heap.size, x, none⟩ (.int .i64 ((uses (l.take k) x : Nat) + 1)) := ⟨_, rfl⟩
        have hB2 := HB1.out
        have hby : Below w.heap.size w wy := by rw [hwy]; exact Kit.Below.setN hbx (Nat.le_refl _) _
        have hBM : Blk wy gl 112 #[.int .i64 op, .int .u64 val, .int .i64 x, .int .i64 nb] := by rw [hwy]; exact hBL.farN hgne _
        rw [← hwy] at hB2 ⊢
        clear HB1 hwy c1 c2 n0 n2
        have n0 : wy.cell? ⟨gl, 0, none⟩ = some (.int .i64 op) := hBM.cell 0
        have n3 : wy.cell? ⟨gl, 3, none⟩ = some (.int .i64 nb) := hBM.cell 3
        by_cases h6 : 6 ≤ op
        · obtain ⟨e3, e4⟩ := hE.2 h6
          obtain ⟨y, rfl⟩ := Int.eq_ofNat_of_zero_le e3
          have hy : y < l.length := by omega
          have c1 : wy.cell? ⟨w.heap.size, y, none⟩ = some (.int .i64 ((uses (l.take k) y + if y = x then 1 else 0 : Nat))) := (hB2.cell y).trans (cellsF_get _ _ _ hy)
          have c2 : wy.frozen? ⟨w.heap.size, y, none⟩ = false := hB2.frozen y
          have hB3 := hB2.set y (.int .i64 ((uses (l.take k) y + if y = x then 1 else 0 : Nat) + 1))
          have hg1 : ∀ i : Nat, uses (l.take (k + 1)) i = (uses (l.take k) i + if i = x then 1 else 0) + if i = y then 1 else 0 := fun i => by
            rw [HS.out]
            by_cases e1 : i = x
            · subst e1
              by_cases e2 : i = y
              · subst e2; simp [h3, h6]
              · have e2' : ¬ ((y : Int) = (i : Int)) := by omega
                simp [h3, e2, e2']
            · have e1' : ¬ ((x : Int) = (i : Int)) := by omega
              by_cases e2 : i = y
              · subst e2; simp [h6, e1, e1']
              · have e2' : ¬ ((y : Int) = (i : Int)) := by omega
                simp [e1, e1', e2, e2']
          rw [cellsF_set _ (uses (l.take (k + 1))) l.length y _ (by rw [hg1]; simp) (fun i hi => by rw [hg1]; simp [hi])] at hB3
          clear hg1
          have hbv : ((uses (l.take k) y + if y = x then 1 else 0 : Nat)) ≤ 131073 := by
            have h1 := List.countP_le_length (p := fun n : SrcP.Node => decide (3 ≤ n.op) && decide (n.a = (y : Int))) (l := l.take k)
            have h2 := List.countP_le_length (p := fun n : SrcP.Node => decide (6 ≤ n.op) && decide (n.b = (y : Int))) (l := l.take k)
            have h3 : (l.take k).length ≤ 65536 := by simp; omega
            unfold uses
            split <;> omega
          generalize (uses (l.take k) y + if y = x then 1 else 0 : Nat) = u at *
          have b3 : (0 : Int) ≤ (y : Int) := by omega
          have b4 : (y : Int) < (l.length : Int) := by omega
          have HB3 := Lib.hid hB3
          clear hB3
          go_wp2_with fail
          go_roundg (l.length - (k + 1))
          case measure => have := HM.out; omega
          case rel => exact ⟨k + 1, by push_cast; rfl, hke, rfl, Kit.Below.setN hby (Nat.le_refl _) _, HB3.out⟩
        · have hB3 : Blk wy w.heap.size 3 (cellsF (uses (l.take (k + 1))) l.length) := by
            have : uses (l.take (k + 1)) = fun i => uses (l.take k) i + if i = x then 1 else 0 := by
              funext i
              rw [HS.out]
              by_cases hxy : i = x <;> simp [h3, h6, hxy]
              omega
            rw [this]; exact hB2
          have HB3 := Lib.hid hB3
          clear hB3
          go_wp2_with fail
          go_roundg (l.length - (k + 1))
          case measure => have := HM.out; omega
          case rel => exact ⟨k + 1, by push_cast; rfl, hke, rfl, hby, HB3.out⟩
      · have h6 : ¬ 6 ≤ op := by omega
        have hB3 : Blk wx w.heap.size 3 (cellsF (uses (l.take (k + 1))) l.length) := by
          have : uses (l.take (k + 1)) = uses (l.take k) := by
            funext i
            rw [HS.out]
            simp [h3, h6]
          rw [this]; exact hBx
        have HB3 := Lib.hid hB3
        clear hB3
        go_wp2_with fail
        go_roundg (l.length - (k + 1))
        case measure => have := HM.out; omega
        case rel => exact ⟨k + 1, by push_cast; rfl, hke, rfl, hbx, HB3.out⟩
    · obtain rfl : k = l.length := by omega
      have hB2 := HB.out
      rw [List.take_length] at hB2
      have HB2 := Lib.hid hB2
      obtain ⟨w1, rfl⟩ : ∃ x, x = wr := ⟨_, rfl⟩
      clear hB2
      go_wp2_with fail
      go_loopg [40] l.length (fun m s40 wr => On2Rel l w w1 m s40 wr)
      case atStart => exact ⟨0, rfl, Nat.zero_le _, rfl, rfl, rfl⟩
      case round =>
        obtain ⟨k, rfl, hk, hm2, rfl, hall⟩ := hrel
        have HM2 := Lib.hid hm2
        clear hm2
        by_cases hke : k < l.length
        · have c1 : wr.cell? ⟨w.heap.size, k, none⟩ = some (.int .i64 (uses l k : Nat)) := (HB2.out.cell k).trans (cellsF_get _ _ _ hke)
          have a1 : (k : Int) < (l.length : Int) := by omega
          have a2 : (0 : Int) ≤ (k : Int) := by omega
          rw [List.drop_eq_getElem_cons (by simpa using hke), List.all_cons, List.getElem_range] at hall
          generalize uses l k = u at *
          have HA := Lib.hid hall
          clear hall
          by_cases hk1 : k + 1 < l.length
          · have b1 : (k : Int) < (l.length : Int) - 1 := by omega
            by_cases hu : u = 1
            · subst hu
              go_wp2_with fail
              go_roundg (l.length - (k + 1))
              case measure => have := HM2.out; omega
              case rel =>
                refine ⟨k + 1, by push_cast; rfl, hke, rfl, rfl, ?_⟩
                rw [← HA.out]
                simp [hk1]
            · have b2 : ((u : Int) == 1) = false := by simp; omega
              go_wp2_with fail
              go_ret
              refine ⟨congrArg (fun x : Bool => Ending.returned (.bool x)) (?_ : false = onceB l), hb⟩
              rw [← HA.out]
              simp [hk1, hu]
          · have b1 : ¬ ((k : Int) < (l.length : Int) - 1) := by omega
            by_cases hu : u = 1
            · subst hu
              go_wp2_with fail
              go_ret
              refine ⟨congrArg (fun x : Bool => Ending.returned (.bool x)) (?_ : false = onceB l), hb⟩
              rw [← HA.out]
              simp [hk1]
            · have b2 : ((u : Int) == 1) = false := by simp; omega
              by_cases hu2 : 1 < u
              · have b3 : (1 : Int) < (u : Int) := by omega
                have hu0 : ¬ u = 0 := by omega
                go_wp2_with fail
                go_ret
                refine ⟨congrArg (fun x : Bool => Ending.returned (.bool x)) (?_ : false = onceB l), hb⟩
                rw [← HA.out]
                simp [hk1, hu0]
              · obtain rfl : u = 0 := by omega
                go_wp2_with fail
                go_roundg (l.length - (k + 1))
                case measure => have := HM2.out; omega
                case rel =>
                  refine ⟨k + 1, by push_cast; rfl, hke, rfl, rfl, ?_⟩
                  rw [← HA.out]
                  simp [hk1]
        · obtain rfl : k = l.length := by omega
          rw [List.drop_eq_nil_of_le (by simp)] at hall
          have HA := Lib.hid hall
          clear hall
          go_wp2_with fail
          go_ret
          exact ⟨congrArg (fun x : Bool => Ending.returned (.bool x)) (HA.out : true = onceB l), hb⟩
end Go.Proofs.YtmjilfamjlnigaaGreat.SrcW
/- WALKS: what a whole program is: an expression that may be. -/
namespace Go.Proofs.YtmjilfamjlnigaaGreat.SrcP
theorem nodesOk_all (locals : Int) (l : List SrcP.Node) (i : Nat) (h : nodesOk locals i l = true) (j : Nat) (n : SrcP.Node) (hj : l[j]? = some n) : nodeOk locals (i + j) n = true := by
  induction l generalizing i j with
  | nil => simp at hj
  | cons a l ih =>
    simp only [nodesOk, Bool.and_eq_true] at h
    cases j with
    | zero => simp only [List.getElem?_cons_zero, Option.some.injEq] at hj; subst hj; exact h.1
    | succ j =>
      simp only [List.getElem?_cons_succ] at hj
      have := ih (i + 1) h.2 j hj
      rwa [show i + 1 + j = i + (j + 1) by omega] at this
theorem nodeOk_lim (locals : Int) (i : Nat) (n : SrcP.Node) (h : nodeOk locals i n = true) : (3 ≤ n.op → 0 ≤ n.a ∧ n.a < i) ∧ (6 ≤ n.op → 0 ≤ n.b ∧ n.b < i) := by
  unfold nodeOk at h
  split at h
  · exact ⟨fun _ => by omega, fun _ => by omega⟩
  · split at h
    · exact ⟨fun _ => by omega, fun _ => by omega⟩
    · split at h
      · simp only [Bool.and_eq_true, decide_eq_true_eq] at h
        exact ⟨fun _ => h.1, fun _ => by omega⟩
      · simp only [Bool.and_eq_true, decide_eq_true_eq] at h
        exact ⟨fun _ => h.1, fun _ => h.2.1⟩
end Go.Proofs.YtmjilfamjlnigaaGreat.SrcP
namespace Go.Proofs.YtmjilfamjlnigaaGreat.SrcW
open Go Go.RowKit Go.Proofs.YtmjilfamjlnigaaGreat.Kit Go.Proofs.YtmjilfamjlnigaaGreat.SrcP

def ExRel (l : List SrcP.Node) (locals : Nat) (w : World) (m : Nat) (s11 : Value) (wr : World) : Prop :=
  ∃ k : Nat, s11 = .int .i64 k ∧ k ≤ l.length ∧ m = l.length - k ∧ Below w.heap.size w wr ∧ nodesOk locals k (l.drop k) = nodesOk locals 0 l

set_option maxRecDepth 100000 in
set_option maxHeartbeats 4000000 in
theorem expression_any (A : Option Addr) (c : Nat) (l : List SrcP.Node) (locals : Nat) (hloc : locals ≤ 24) (hlen : l.length ≤ 1048576) (w : World) (hl : NodesAt w (.slice A l.length c) l) :
    Calls Tryz.prog 98 #[.slice A l.length c, .int .i64 locals] w fun r w' => r = .returned (.bool (exprOk l locals)) ∧ Below w.heap.size w w' := by
  have HNA := Lib.hid hl
  obtain ⟨A', c', hv, hE⟩ := hl
  obtain ⟨rfl, rfl⟩ : A = A' ∧ c = c' := by simpa using hv
  have HE := Lib.hid hE
  clear hE hv
  go_enter Tryz.func98, Tryz.ntmps98
  go_wp2_with fail
  go_loopg [11] l.length (fun m s11 wr => ExRel l locals w m s11 wr)
  case atStart => exact ⟨0, rfl, Nat.zero_le _, rfl, Below.refl _ _, rfl⟩
  case round =>
    obtain ⟨k, rfl, hk, hm, hb, hok⟩ := hrel
    have HM := Lib.hid hm
    clear hm
    by_cases hke : k < l.length
    · obtain ⟨hvl, ad, rfl, hC⟩ := HE.out k l[k] (by simp [hke])
      rw [List.drop_eq_getElem_cons hke] at hok
      simp only [nodesOk] at hok
      have HOK := Lib.hid hok
      clear hok
      generalize hn : l[k] = n at *
      obtain ⟨op, val, na, nb⟩ := n
      replace hC := hC.below hb
      have n0 : wr.cell? (ad.add (k * 4)) = some (.int .i64 op) := hC 0 _ rfl
      have n1 : wr.cell? ⟨(ad.add (k * 4)).block, (ad.add (k * 4)).off + 1, none⟩ = some (.int .u64 val) := hC 1 _ rfl
      have n2 : wr.cell? ⟨(ad.add (k * 4)).block, (ad.add (k * 4)).off + 2, none⟩ = some (.int .i64 na) := hC 2 _ rfl
      have n3 : wr.cell? ⟨(ad.add (k * 4)).block, (ad.add (k * 4)).off + 3, none⟩ = some (.int .i64 nb) := hC 3 _ rfl
      have a1 : (k : Int) < (l.length : Int) := by omega
      have a2 : (0 : Int) ≤ (k : Int) := by omega
      go_upto_region 4 with fail
      obtain ⟨wx, hwx⟩ : ∃ x, x = wr.alloc (.cells #[.int .i64 op, .int .u64 val, .int .i64 na, .int .i64 nb] 112) := ⟨_, rfl⟩
      have hbx : Below w.heap.size w wx := by rw [hwx]; exact Kit.Below.al hb _
      have hBL : Blk wx wr.heap.size 112 #[.int .i64 op, .int .u64 val, .int .i64 na, .int .i64 nb] := by rw [hwx]; exact Blk.new _ _ _
      generalize wr.heap.size = gl at *
      rw [← hwx]
      clear hwx n0 n1 n2 n3 hC hb
      have n0 : wx.cell? ⟨gl, 0, none⟩ = some (.int .i64 op) := hBL.cell 0
      have n1 : wx.cell? ⟨gl, 1, none⟩ = some (.int .u64 val) := hBL.cell 1
      have n2 : wx.cell? ⟨gl, 2, none⟩ = some (.int .i64 na) := hBL.cell 2
      have n3 : wx.cell? ⟨gl, 3, none⟩ = some (.int .i64 nb) := hBL.cell 3
      go_cut [7, 8] (fun s7 s8 wz => s7 = .bool (decide (0 ≤ na ∧ na < k)) ∧ s8 = .bool (decide (0 ≤ nb ∧ nb < k)) ∧ ∃ z, wz = wx.drewN z)
      case first =>
        have hpa : decide (0 ≤ na ∧ na < (k : Int)) = (decide (0 ≤ na) && decide (na < (k : Int))) := Bool.decide_and _ _
        have hpb : decide (0 ≤ nb ∧ nb < (k : Int)) = (decide (0 ≤ nb) && decide (nb < (k : Int))) := Bool.decide_and _ _
        by_cases ha : 0 ≤ na
        · by_cases hb : 0 ≤ nb
          · go_quiet (fail)
            go_wp2_with fail
            go_meet
            exact ⟨by first | (simp [ha]; done) | (simp; omega), by first | (simp [hb]; done) | (simp; omega), _, rfl⟩
          · go_quiet (fail)
            go_wp2_with fail
            go_meet
            exact ⟨by first | (simp [ha]; done) | (simp; omega), by first | (simp [hb]; done) | (simp; omega), _, rfl⟩
        · by_cases hb : 0 ≤ nb
          · go_quiet (fail)
            go_wp2_with fail
            go_meet
            exact ⟨by first | (simp [ha]; done) | (simp; omega), by first | (simp [hb]; done) | (simp; omega), _, rfl⟩
          · go_quiet (fail)
            go_wp2_with fail
            go_meet
            exact ⟨by first | (simp [ha]; done) | (simp; omega), by first | (simp [hb]; done) | (simp; omega), _, rfl⟩
      case rest =>
        obtain ⟨rfl, rfl, z, rfl⟩ := hcut
        obtain ⟨wy, rfl⟩ : ∃ y, y = wx.drewN z := ⟨_, rfl⟩
        have hby := Kit.Below.dn (n := z) hbx
        have hBM : Blk (wx.drewN z) gl 112 #[.int .i64 op, .int .u64 val, .int .i64 na, .int .i64 nb] := hBL
        generalize wx.drewN z = wy at *
        clear n0 n1 n2 n3 hBL hbx
        have n0 : wy.cell? ⟨gl, 0, none⟩ = some (.int .i64 op) := hBM.cell 0
        have n1 : wy.cell? ⟨gl, 1, none⟩ = some (.int .u64 val) := hBM.cell 1
        have n2 : wy.cell? ⟨gl, 2, none⟩ = some (.int .i64 na) := hBM.cell 2
        have n3 : wy.cell? ⟨gl, 3, none⟩ = some (.int .i64 nb) := hBM.cell 3
        have hda : decide (0 ≤ na ∧ na < (k : Int)) = decide (0 ≤ na ∧ na < (k : Int)) := rfl
        generalize hpa : decide (0 ≤ na ∧ na < (k : Int)) = pa at *
        generalize hpb : decide (0 ≤ nb ∧ nb < (k : Int)) = pb at *
        have HPA := Lib.hid hpa
        have HPB := Lib.hid hpb
        clear hpa hpb hda
        go_upto_block 2 with fail
        go_cut [7, 8] (fun s7 s8 wz => ∃ x y, s7 = .bool x ∧ s8 = .bool y ∧ nodeOk locals k ⟨op, val, na, nb⟩ = (x && y) ∧ ∃ z, wz = wy.drewN z)
        case first =>
          have hvz : ((val : Int) == 0) = (val == 0) := beq_cast val 0
          have HVZ := Lib.hid hvz
          clear hvz
          by_cases h1 : op = 1
          · subst h1
            go_wp2_with fail
            go_quiet (fail)
            go_wp2_with fail
            go_meet
            refine ⟨_, _, rfl, rfl, ?_, by first | exact ⟨_, rfl⟩ | exact ⟨0, rfl⟩⟩
            simp [nodeOk]
          have q1 : (op == 1) = false := by simp [h1]
          by_cases h2 : op = 2
          · subst h2
            have hw : IntKind.u64.wrap (locals : Int) = (locals : Int) := by rw [IntKind.wrap_u64]; omega
            by_cases ha : na = 0
            · subst ha
              go_wp2_with fail
              go_quiet (fail)
              go_wp2_with fail
              go_meet
              refine ⟨_, _, rfl, rfl, ?_, by first | exact ⟨_, rfl⟩ | exact ⟨0, rfl⟩⟩
              simp [nodeOk]
            · have q3 : (na == 0) = false := by simp [ha]
              go_wp2_with fail
              go_quiet (fail)
              go_wp2_with fail
              go_meet
              refine ⟨_, _, rfl, rfl, ?_, by first | exact ⟨_, rfl⟩ | exact ⟨0, rfl⟩⟩
              simp [nodeOk, ha]
          have q2 : (op == 2) = false := by simp [h2]
          by_cases h3 : 3 ≤ op
          · by_cases h5 : op ≤ 5
            · by_cases hz : nb = 0
              · subst hz
                go_wp2_with fail
                go_meet
                refine ⟨_, _, rfl, rfl, ?_, by first | exact ⟨_, rfl⟩ | exact ⟨0, rfl⟩⟩
                simp [nodeOk, h1, h2, h3, h5, HPA.out, HVZ.out]
              · have q3 : (nb == 0) = false := by simp [hz]
                go_wp2_with fail
                go_meet
                refine ⟨_, _, rfl, rfl, ?_, by first | exact ⟨_, rfl⟩ | exact ⟨0, rfl⟩⟩
                simp [nodeOk, h1, h2, h3, h5, HPA.out, hz]
            · have h6 : 6 ≤ op := by omega
              have g3 : ¬ (3 ≤ op ∧ op ≤ 5) := by omega
              by_cases h19 : op ≤ 19
              · cases pb
                · skip
                  go_wp2_with fail
                  go_meet
                  refine ⟨_, _, rfl, rfl, ?_, by first | exact ⟨_, rfl⟩ | exact ⟨0, rfl⟩⟩
                  simp [nodeOk, h1, h2, g3, HPA.out, HPB.out, HVZ.out] <;> (intros; omega)
                · skip
                  go_wp2_with fail
                  go_meet
                  refine ⟨_, _, rfl, rfl, ?_, by first | exact ⟨_, rfl⟩ | exact ⟨0, rfl⟩⟩
                  simp [nodeOk, h1, h2, g3, h6, h19, HPA.out, HPB.out, HVZ.out] <;> (intros; omega)
              · cases pb
                · skip
                  go_wp2_with fail
                  go_meet
                  refine ⟨_, _, rfl, rfl, ?_, by first | exact ⟨_, rfl⟩ | exact ⟨0, rfl⟩⟩
                  simp [nodeOk, h1, h2, g3, HPA.out, HPB.out, HVZ.out] <;> (intros; omega)
                · skip
                  go_wp2_with fail
                  go_meet
                  refine ⟨_, _, rfl, rfl, ?_, by first | exact ⟨_, rfl⟩ | exact ⟨0, rfl⟩⟩
                  simp [nodeOk, h1, h2, g3, h6, h19, HPA.out, HPB.out, HVZ.out] <;> (intros; omega)
          · have h6 : ¬ 6 ≤ op := by omega
            have g3 : ¬ (3 ≤ op ∧ op ≤ 5) := by omega
            cases pb
            · skip
              go_wp2_with fail
              go_meet
              refine ⟨_, _, rfl, rfl, ?_, by first | exact ⟨_, rfl⟩ | exact ⟨0, rfl⟩⟩
              simp [nodeOk, h1, h2, g3, HPA.out, HPB.out, HVZ.out] <;> (intros; omega)
            · skip
              go_wp2_with fail
              go_meet
              refine ⟨_, _, rfl, rfl, ?_, by first | exact ⟨_, rfl⟩ | exact ⟨0, rfl⟩⟩
              simp [nodeOk, h1, h2, g3, h6, HPA.out, HPB.out, HVZ.out] <;> (intros; omega)
        case rest =>
          obtain ⟨x, y, rfl, rfl, hxy, z, rfl⟩ := hcut
          rw [hxy] at HOK
          have HXY := Lib.hid hxy
          clear hxy
          cases x
          · go_wp2_with fail
            go_ret
            refine ⟨congrArg (fun x : Bool => Ending.returned (.bool x)) (?_ : false = exprOk l locals), Kit.Below.dn hby⟩
            simp [exprOk, ← HOK.out]
          · cases y
            · go_wp2_with fail
              go_ret
              refine ⟨congrArg (fun x : Bool => Ending.returned (.bool x)) (?_ : false = exprOk l locals), Kit.Below.dn hby⟩
              simp [exprOk, ← HOK.out]
            · go_wp2_with fail
              go_roundg (l.length - (k + 1))
              case measure => have := HM.out; omega
              case rel => exact ⟨k + 1, by push_cast; rfl, hke, rfl, Kit.Below.dn hby, by rw [← HOK.out]; simp⟩
    · obtain rfl : k = l.length := by omega
      rw [List.drop_length] at hok
      have hok2 : nodesOk locals 0 l = true := hok.symm
      have hlim : ∀ (i : Nat) (n : SrcP.Node), l[i]? = some n → (3 ≤ n.op → 0 ≤ n.a ∧ n.a < l.length) ∧ (6 ≤ n.op → 0 ≤ n.b ∧ n.b < l.length) := fun i n hi => by
        have h := nodeOk_lim _ _ _ (nodesOk_all locals l 0 hok2 i n hi)
        have hi2 : i < l.length := (List.getElem?_eq_some_iff.1 hi).1
        exact ⟨fun h3 => by have := h.1 h3; omega, fun h3 => by have := h.2 h3; omega⟩
      have hex : exprOk l locals = (decide (0 < l.length ∧ l.length ≤ 65536) && onceB l) := by simp [exprOk, hok2]
      have HEX := Lib.hid hex
      clear hok hok2 hex
      by_cases h0 : 0 < l.length
      · by_cases h6 : l.length ≤ 65536
        · have CO := once_any A c l wr (HNA.out.below hb) ⟨h0, h6⟩ hlim
          generalize hob : onceB l = ob at *
          have b1 : (0 : Int) < (l.length : Int) := by omega
          have b2 : (l.length : Int) ≤ 65536 := by omega
          have HCO := Lib.hid CO
          clear CO hlim
          go_wp2_with (go_at_call 138; refine HCO.out.mono ?_; rintro e w2 ⟨rfl, h2⟩)
          go_ret
          refine ⟨congrArg (fun x : Bool => Ending.returned (.bool x)) (?_ : ob = exprOk l locals), Kit.Below.then hb h2⟩
          rw [HEX.out]; simp [h0, h6]
        · have b1 : (0 : Int) < (l.length : Int) := by omega
          have b2 : ¬ ((l.length : Int) ≤ 65536) := by omega
          go_wp2_with fail
          go_ret
          refine ⟨congrArg (fun x : Bool => Ending.returned (.bool x)) (?_ : false = exprOk l locals), hb⟩
          rw [HEX.out]; simp [h6]
      · have b1 : ¬ ((0 : Int) < (l.length : Int)) := by omega
        go_wp2_with fail
        go_ret
        refine ⟨congrArg (fun x : Bool => Ending.returned (.bool x)) (?_ : false = exprOk l locals), hb⟩
        rw [HEX.out]; simp [h0]
end Go.Proofs.YtmjilfamjlnigaaGreat.SrcW
