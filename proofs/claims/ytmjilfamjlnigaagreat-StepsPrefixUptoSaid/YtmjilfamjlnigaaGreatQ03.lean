/- WALKS: an expression's value. -/
import Derived.Test.YtmjilfamjlnigaaGreatQ02
import Derived.StillTailTactics
namespace Go.Proofs.YtmjilfamjlnigaaGreat.SrcP
/-- Such an expression is read without a fault: what its nodes name is there. -/
def Evals (nl : Nat) (i : Nat) (n : SrcP.Node) : Prop :=
  n.op = 1 ∨ (n.op = 2 ∧ n.val < nl) ∨ (3 ≤ n.op ∧ n.op ≤ 5 ∧ 0 ≤ n.a ∧ n.a < i) ∨ (6 ≤ n.op ∧ 0 ≤ n.a ∧ n.a < i ∧ 0 ≤ n.b ∧ n.b < i)
def EvalsAll (nl : Nat) (l : List SrcP.Node) : Prop := (0 < l.length ∧ l.length ≤ 65536) ∧ ∀ i n, l[i]? = some n → Evals nl i n
end Go.Proofs.YtmjilfamjlnigaaGreat.SrcP
namespace Go.Proofs.YtmjilfamjlnigaaGreat.SrcW
open Go Go.RowKit Go.Proofs.YtmjilfamjlnigaaGreat.Kit Go.Proofs.YtmjilfamjlnigaaGreat.SrcP

/-- A slice of unsigned numbers, read. -/
def U64At (w : World) (v : Value) (l : List Nat) : Prop := ∃ A c, v = .slice A l.length c ∧ ∀ (i x : Nat), l[i]? = some x → x < M64 ∧ ∃ ad, A = some ad ∧ w.cell? (ad.add i) = some (.int .u64 x)
theorem U64At.below {w w' : World} {v : Value} {l : List Nat} (h : U64At w v l) (hb : Below w.heap.size w w') : U64At w' v l := by
  obtain ⟨A, c, rfl, h⟩ := h
  refine ⟨A, c, rfl, fun i n hi => ?_⟩
  obtain ⟨h1, ad, h2, h3⟩ := h i n hi
  exact ⟨h1, ad, h2, (hb.cell (World.block_lt_of_cell? w _ h3)).trans h3⟩

def u64V (x : Nat) : Value := .int .u64 (x : Int)
def ValRel (e : List SrcP.Node) (locals : List Nat) (w : World) (m : Nat) (s13 : Value) (wr : World) : Prop :=
  ∃ k : Nat, s13 = .int .i64 k ∧ k ≤ e.length ∧ m = e.length - k ∧ Below w.heap.size w wr ∧
    Blk wr w.heap.size 40 (((evalL locals (e.take k) []).map u64V) ++ List.replicate (e.length - k) (Value.int .u64 0)).toArray ∧ ∀ x ∈ evalL locals (e.take k) [], x < M64

set_option maxRecDepth 100000 in
set_option maxHeartbeats 4000000 in
theorem value_any (A B : Option Addr) (c d : Nat) (e : List SrcP.Node) (locals : List Nat) (w : World) (he : NodesAt w (.slice A e.length c) e) (hl : U64At w (.slice B locals.length d) locals) (hev : EvalsAll locals.length e) :
    Calls Tryz.prog 217 #[.slice A e.length c, .slice B locals.length d] w fun r w' => r = .returned (.int .u64 (value e locals : Nat)) ∧ Below w.heap.size w w' ∧ value e locals < M64 := by
  obtain ⟨⟨h0, h6⟩, hev⟩ := hev
  have hmk := make_u64 e.length (by omega) w
  obtain ⟨A', c', hv, hE⟩ := he
  obtain ⟨rfl, rfl⟩ : A = A' ∧ c = c' := by simpa using hv
  obtain ⟨B', d', hv2, hL⟩ := hl
  obtain ⟨rfl, rfl⟩ : B = B' ∧ d = d' := by simpa using hv2
  obtain ⟨_, ad, rfl, _⟩ := hE 0 e[0] (by simp)
  have HE := Lib.hid hE
  have HL := Lib.hid hL
  have HV := Lib.hid hev
  have h00 : (0 : Int) < (e.length : Int) := by omega
  clear hE hL hev hv hv2
  go_enter Tryz.func217, Tryz.ntmps217
  go_wp2_with fail
  go_loopg [13] e.length (fun m s13 wr => ValRel e locals w m s13 wr)
  case atStart =>
    refine ⟨0, rfl, Nat.zero_le _, rfl, (Below.refl _ _).alloc (Nat.le_refl _) _, ?_, fun x h => by simp [evalL] at h⟩
    have := Blk.new w 40 (Array.replicate e.length (.int .u64 0))
    simpa [evalL] using this
  case round =>
    obtain ⟨k, rfl, hk, hm, hb, hB, hlt⟩ := hrel
    have HM := Lib.hid hm
    have HB := Lib.hid hB
    clear hm hB
    by_cases hke : k < e.length
    · obtain ⟨hvl, ad', hh, hC⟩ := HE.out k e[k] (by simp [hke])
      obtain rfl : ad = ad' := by simpa using hh
      have hE := HV.out k e[k] (by simp [hke])
      have htk := evalL_take locals e k hke
      have hlen := evalL_len locals (e.take k) []
      have hkk : (e.take k).length = k := by simp; omega
      rw [hkk] at hlen
      simp only [List.length_nil, Nat.zero_add] at hlen
      generalize hvs : evalL locals (e.take k) [] = vs at *
      generalize hn : e[k] = n at *
      obtain ⟨op, val, na, nb⟩ := n
      replace hC := hC.below hb
      have n0 : wr.cell? (ad.add (k * 4)) = some (.int .i64 op) := hC 0 _ rfl
      have n1 : wr.cell? ⟨(ad.add (k * 4)).block, (ad.add (k * 4)).off + 1, none⟩ = some (.int .u64 val) := hC 1 _ rfl
      have n2 : wr.cell? ⟨(ad.add (k * 4)).block, (ad.add (k * 4)).off + 2, none⟩ = some (.int .i64 na) := hC 2 _ rfl
      have n3 : wr.cell? ⟨(ad.add (k * 4)).block, (ad.add (k * 4)).off + 3, none⟩ = some (.int .i64 nb) := hC 3 _ rfl
      have a1 : (k : Int) < (e.length : Int) := by omega
      have a2 : (0 : Int) ≤ (k : Int) := by omega
      have hgs := HB.out.lt
      go_upto_region 6 with fail
      obtain ⟨wx, hwx⟩ : ∃ x, x = wr.alloc (.cells #[.int .i64 op, .int .u64 val, .int .i64 na, .int .i64 nb] 112) := ⟨_, rfl⟩
      have hbx : Below w.heap.size w wx := by rw [hwx]; exact Kit.Below.al hb _
      have hBx : Blk wx w.heap.size 40 (vs.map u64V ++ List.replicate (e.length - k) (Value.int .u64 0)).toArray := by rw [hwx]; exact HB.out.alloc _
      have hBL : Blk wx wr.heap.size 112 #[.int .i64 op, .int .u64 val, .int .i64 na, .int .i64 nb] := by rw [hwx]; exact Blk.new _ _ _
      have hgne : w.heap.size ≠ wr.heap.size := by omega
      generalize wr.heap.size = gl at *
      rw [← hwx]
      clear hwx n0 n1 n2 n3 hC
      have n0 : wx.cell? ⟨gl, 0, none⟩ = some (.int .i64 op) := hBL.cell 0
      have n1 : wx.cell? ⟨gl, 1, none⟩ = some (.int .u64 val) := hBL.cell 1
      have n2 : wx.cell? ⟨gl, 2, none⟩ = some (.int .i64 na) := hBL.cell 2
      have n3 : wx.cell? ⟨gl, 3, none⟩ = some (.int .i64 nb) := hBL.cell 3
      have hcv : ∀ w2, Below wx.heap.size wx w2 → ∀ (j : Nat), j < k → w2.cell? ⟨w.heap.size, j, none⟩ = some (.int .u64 (vs.getD j 0 : Nat)) := fun w2 h2 j hj => by
        rw [(hBx.below' h2).cell j]
        have hj2 : j < vs.length := by omega
        simp [List.getElem?_append, hj2, u64V, List.getD]
      have hck : ∀ w2, Below wx.heap.size wx w2 → w2.cell? ⟨w.heap.size, k, none⟩ = some (.int .u64 0) ∧ w2.frozen? ⟨w.heap.size, k, none⟩ = false := fun w2 h2 => by
        refine ⟨?_, (hBx.below' h2).frozen k⟩
        rw [(hBx.below' h2).cell k]
        have : 0 < e.length - k := by omega
        simp [List.getElem?_append, hlen, this]
      have hfin : ∀ x : Nat, x = nodeV locals vs ⟨op, val, na, nb⟩ → x < M64 → ∀ w2, Below wx.heap.size wx w2 → ValRel e locals w (e.length - (k + 1)) (.int .i64 ((k : Int) + 1)) (w2.setCell ⟨w.heap.size, k, none⟩ (.int .u64 x)) := fun x hx hx2 w2 h2 => by
        refine ⟨k + 1, by push_cast; rfl, hke, rfl, Kit.Below.setN (Kit.Below.then hbx h2) (Nat.le_refl _) _, ?_, ?_⟩
        · have h3 := (hBx.below' h2).set k (.int .u64 x)
          have e1 : ((vs.map u64V ++ List.replicate (e.length - k) (Value.int .u64 0)).toArray).setIfInBounds k (.int .u64 x) = ((evalL locals (e.take (k + 1)) []).map u64V ++ List.replicate (e.length - (k + 1)) (Value.int .u64 0)).toArray := by
            rw [htk, ← hx]
            have e2 : e.length - k = (e.length - (k + 1)) + 1 := by omega
            rw [e2, List.replicate_succ]
            simp only [List.setIfInBounds_toArray]
            congr 1
            rw [List.set_append_right _ _ (by simp [hlen])]
            simp [hlen, u64V]
          rwa [e1] at h3
        · rw [htk, ← hx]
          intro y hy
          simp only [List.mem_append, List.mem_singleton] at hy
          rcases hy with hy | rfl
          · exact hlt y hy
          · exact hx2
      have hlv : ∀ j, j < k → vs.getD j 0 < M64 := fun j hj => by
        have hj2 : j < vs.length := by omega
        rw [show vs.getD j 0 = vs[j] by simp [List.getD, hj2]]
        exact hlt _ (List.getElem_mem hj2)
      have HF := Lib.hid hfin
      have HVS := Lib.hid hlv
      have HCV := Lib.hid hcv
      have HCK := Lib.hid hck
      clear hlen hkk htk hfin hlt hlv hcv hck
      simp only [Evals] at hE
      rcases hE with h1 | ⟨h1, h2⟩ | ⟨h1, h2, h3, h4⟩ | ⟨h1, h2, h3, h4, h5⟩
      · subst h1
        obtain ⟨c1, c2⟩ := HCK.out wx (Below.refl _ _)
        go_wp2_with fail
        go_roundg (e.length - (k + 1))
        case measure => have := HM.out; omega
        case rel => exact HF.out val (by simp [nodeV]) hvl wx (Below.refl _ _)
      · subst h1
        obtain ⟨c1, c2⟩ := HCK.out wx (Below.refl _ _)
        obtain ⟨hvv, ld, rfl, c3⟩ := HL.out val (locals.getD val 0) (by simp [List.getD, h2])
        replace c3 := (hbx.cell (World.block_lt_of_cell? w _ c3)).trans c3
        have b1 : (val : Int) < (locals.length : Int) := by omega
        have b2 : (0 : Int) ≤ (val : Int) := by omega
        have hq : locals.getD val 0 = nodeV locals vs ⟨2, val, na, nb⟩ := by simp [nodeV]
        generalize locals.getD val 0 = lv at *
        have HQ := Lib.hid hq
        clear hq
        go_wp2_with fail
        go_roundg (e.length - (k + 1))
        case measure => have := HM.out; omega
        case rel => exact HF.out lv HQ.out hvv wx (Below.refl _ _)
      · obtain ⟨x, rfl⟩ := Int.eq_ofNat_of_zero_le h3
        have hx : x < k := by omega
        have q1 : (op == 1) = false := by simp; omega
        have q2 : (op == 2) = false := by simp; omega
        have q3 : op ≤ 5 := h2
        have hxv := HVS.out x hx
        have hq : one op (vs.getD x 0) = nodeV locals vs ⟨op, val, x, nb⟩ := by
          have d1 : ¬ op = 1 := by omega
          have d2 : ¬ op = 2 := by omega
          simp [nodeV, d1, d2, q3]
        have c1 : ∀ p : Cls (Below wx.heap.size wx), p.w.cell? ⟨w.heap.size, x, none⟩ = some (.int .u64 (vs.getD x 0 : Nat)) := fun p => HCV.out p.w p.h x hx
        have hone : ∀ p : Cls (Below wx.heap.size wx), Hid (Calls Tryz.prog 220 #[.int .i64 op, .int .u64 (vs.getD x 0 : Nat)] p.w fun e w' => e = .returned (.int .u64 (one op (vs.getD x 0) : Nat)) ∧ ∃ q : Cls (Below wx.heap.size wx), w' = q.w) :=
          fun p => Calls.cls ((one_any op _ hxv p.w).mono fun e w' ⟨h1, h2⟩ => ⟨h1, h2 ▸ p.h⟩)
        have m0 : ∀ p : Cls (Below wx.heap.size wx), p.w.cell? ⟨gl, 0, none⟩ = some (.int .i64 op) := fun p => hBL.cls 0 p
        have m2 : ∀ p : Cls (Below wx.heap.size wx), p.w.cell? ⟨gl, 2, none⟩ = some (.int .i64 x) := fun p => hBL.cls 2 p
        have hov := one_lt op _ hxv
        generalize one op (vs.getD x 0) = ov at *
        have HQ := Lib.hid hq
        clear hq
        generalize vs.getD x 0 = vx at *
        have b1 : (x : Int) < (e.length : Int) := by omega
        have b2 : (0 : Int) ≤ (x : Int) := by omega
        go_wp2_with fail
        refine wp_region_cls_tail (Below wx.heap.size wx) 11 (Below_drewN _ 1) (by kernel_rfl) (by kernel_rfl) ?_
        intro hne
        simp only [List.take_succ_cons, List.take_zero, List.drop_succ_cons, List.drop_zero]
        repeat (go_big_quiet_step ((go_at_call 220; exact (hone _).out)))
        refine wpQuiet_nil ?_
        intro w8 h8
        clear hne
        obtain ⟨c2, c3⟩ := HCK.out w8 h8
        clear c1 hone m0 m2
        go_wp2_with fail
        go_roundg (e.length - (k + 1))
        case measure => have := HM.out; omega
        case rel => exact HF.out ov HQ.out hov w8 h8
      · obtain ⟨x, rfl⟩ := Int.eq_ofNat_of_zero_le h2
        obtain ⟨y, rfl⟩ := Int.eq_ofNat_of_zero_le h4
        have hx : x < k := by omega
        have hy : y < k := by omega
        have q1 : (op == 1) = false := by simp; omega
        have q2 : (op == 2) = false := by simp; omega
        have q3 : ¬ (op ≤ 5) := by omega
        have hxv := HVS.out x hx
        have hyv := HVS.out y hy
        have hq : two op (vs.getD x 0) (vs.getD y 0) = nodeV locals vs ⟨op, val, x, y⟩ := by
          have d1 : ¬ op = 1 := by omega
          have d2 : ¬ op = 2 := by omega
          simp [nodeV, d1, d2, q3]
        have c1 : ∀ p : Cls (Below wx.heap.size wx), p.w.cell? ⟨w.heap.size, x, none⟩ = some (.int .u64 (vs.getD x 0 : Nat)) := fun p => HCV.out p.w p.h x hx
        have c4 : ∀ p : Cls (Below wx.heap.size wx), p.w.cell? ⟨w.heap.size, y, none⟩ = some (.int .u64 (vs.getD y 0 : Nat)) := fun p => HCV.out p.w p.h y hy
        have htwo : ∀ p : Cls (Below wx.heap.size wx), Hid (Calls Tryz.prog 221 #[.int .i64 op, .int .u64 (vs.getD x 0 : Nat), .int .u64 (vs.getD y 0 : Nat)] p.w fun e w' => e = .returned (.int .u64 (two op (vs.getD x 0) (vs.getD y 0) : Nat)) ∧ ∃ q : Cls (Below wx.heap.size wx), w' = q.w) :=
          fun p => Calls.cls ((two_any op _ _ hxv hyv p.w).mono fun e w' ⟨h1, h2⟩ => ⟨h1, h2 ▸ p.h⟩)
        have m0 : ∀ p : Cls (Below wx.heap.size wx), p.w.cell? ⟨gl, 0, none⟩ = some (.int .i64 op) := fun p => hBL.cls 0 p
        have m2 : ∀ p : Cls (Below wx.heap.size wx), p.w.cell? ⟨gl, 2, none⟩ = some (.int .i64 x) := fun p => hBL.cls 2 p
        have m3 : ∀ p : Cls (Below wx.heap.size wx), p.w.cell? ⟨gl, 3, none⟩ = some (.int .i64 y) := fun p => hBL.cls 3 p
        have hov := two_lt op _ _ hxv hyv
        generalize two op (vs.getD x 0) (vs.getD y 0) = ov at *
        have HQ := Lib.hid hq
        clear hq
        generalize vs.getD x 0 = vx at *
        generalize vs.getD y 0 = vy at *
        have b1 : (x : Int) < (e.length : Int) := by omega
        have b2 : (0 : Int) ≤ (x : Int) := by omega
        have b3 : (y : Int) < (e.length : Int) := by omega
        have b4 : (0 : Int) ≤ (y : Int) := by omega
        go_wp2_with fail
        refine wp_region_cls_tail (Below wx.heap.size wx) 16 (Below_drewN _ 1) (by kernel_rfl) (by kernel_rfl) ?_
        intro hne
        simp only [List.take_succ_cons, List.take_zero, List.drop_succ_cons, List.drop_zero]
        repeat (go_big_quiet_step ((go_at_call 221; exact (htwo _).out)))
        refine wpQuiet_nil ?_
        intro w8 h8
        clear hne
        obtain ⟨c2, c3⟩ := HCK.out w8 h8
        clear c1 c4 htwo m0 m2 m3
        go_wp2_with fail
        go_roundg (e.length - (k + 1))
        case measure => have := HM.out; omega
        case rel => exact HF.out ov HQ.out hov w8 h8
    · obtain rfl : k = e.length := by omega
      rw [List.take_length] at hlt
      have hB2 := HB.out
      rw [List.take_length, Nat.sub_self, List.replicate_zero, List.append_nil] at hB2
      have hlen := evalL_len locals e []
      simp only [List.length_nil, Nat.zero_add] at hlen
      have hlast : value e locals = (evalL locals e []).getD (e.length - 1) 0 := by
        unfold value
        rw [← hlen, List.getLastD_eq_getLast?, List.getLast?_eq_getElem?]
        simp [List.getD]
      have hj2 : e.length - 1 < (evalL locals e []).length := by omega
      have hvl : value e locals < M64 := by
        rw [hlast, List.getD, List.getElem?_eq_getElem hj2]
        exact hlt _ (List.getElem_mem hj2)
      have c1 : wr.cell? ⟨w.heap.size, e.length - 1, none⟩ = some (.int .u64 (value e locals : Nat)) := by
        rw [hB2.cell, hlast]
        simp [hj2, u64V, List.getD]
      have b1 : (0 : Int) ≤ (e.length : Int) - 1 := by omega
      have b2 : ((e.length : Int) - 1) < (e.length : Int) := by omega
      have b3 : ((e.length : Int) - 1).toNat = e.length - 1 := by omega
      clear hlast hlt
      go_wp2_with fail
      go_ret
      exact ⟨rfl, hb, hvl⟩
end Go.Proofs.YtmjilfamjlnigaaGreat.SrcW
/- WALKS: what a whole program is: may, parts, once. -/
namespace Go.Proofs.YtmjilfamjlnigaaGreat.SrcW
open Go Go.RowKit Go.Proofs.YtmjilfamjlnigaaGreat.Kit Go.Proofs.YtmjilfamjlnigaaGreat.SrcP

set_option maxRecDepth 100000 in
set_option maxHeartbeats 4000000 in
theorem may_any (op mode : Int) (w : World) : Calls Tryz.prog 95 #[.int .i64 op, .int .i64 mode] w fun e w' => e = .returned (.bool (mayB op mode)) ∧ w' = w := by
  by_cases h2 : op = 2
  · subst h2
    by_cases h1 : mode = 1
    · subst h1
      go_enter Tryz.func95, Tryz.ntmps95
      go_wp2_with fail
      go_ret
      refine ⟨congrArg (fun x : Bool => Ending.returned (.bool x)) ?_, rfl⟩
      rfl
    · have q1 : (mode == 1) = false := by simp [h1]
      by_cases h2 : mode = 2
      · subst h2
        go_enter Tryz.func95, Tryz.ntmps95
        go_wp2_with fail
        go_ret
        refine ⟨congrArg (fun x : Bool => Ending.returned (.bool x)) ?_, rfl⟩
        rfl
      · have q2 : (mode == 2) = false := by simp [h2]
        go_enter Tryz.func95, Tryz.ntmps95
        go_wp2_with fail
        go_ret
        refine ⟨congrArg (fun x : Bool => Ending.returned (.bool x)) ?_, rfl⟩
        simp [mayB, q1, q2]
  have q2 : (op == 2) = false := by simp [h2]
  by_cases h3 : op = 3
  · subst h3
    by_cases h1 : mode = 1
    · subst h1
      go_enter Tryz.func95, Tryz.ntmps95
      go_wp2_with fail
      go_ret
      refine ⟨congrArg (fun x : Bool => Ending.returned (.bool x)) ?_, rfl⟩
      rfl
    · have q1 : (mode == 1) = false := by simp [h1]
      by_cases h2 : mode = 3
      · subst h2
        go_enter Tryz.func95, Tryz.ntmps95
        go_wp2_with fail
        go_ret
        refine ⟨congrArg (fun x : Bool => Ending.returned (.bool x)) ?_, rfl⟩
        rfl
      · have q2 : (mode == 3) = false := by simp [h2]
        go_enter Tryz.func95, Tryz.ntmps95
        go_wp2_with fail
        go_ret
        refine ⟨congrArg (fun x : Bool => Ending.returned (.bool x)) ?_, rfl⟩
        simp [mayB, q1, q2]
  have q3 : (op == 3) = false := by simp [h3]
  by_cases h4 : op = 4
  · subst h4
    by_cases h1 : 1 ≤ mode
    · skip
      go_enter Tryz.func95, Tryz.ntmps95
      go_wp2_with fail
      go_ret
      refine ⟨congrArg (fun x : Bool => Ending.returned (.bool x)) ?_, rfl⟩
      simp [mayB, h1]
    · skip
      go_enter Tryz.func95, Tryz.ntmps95
      go_wp2_with fail
      go_ret
      refine ⟨congrArg (fun x : Bool => Ending.returned (.bool x)) ?_, rfl⟩
      simp [mayB]; omega
  have q4 : (op == 4) = false := by simp [h4]
  by_cases h5 : op = 5
  · subst h5
    by_cases h1 : 1 ≤ mode
    · skip
      go_enter Tryz.func95, Tryz.ntmps95
      go_wp2_with fail
      go_ret
      refine ⟨congrArg (fun x : Bool => Ending.returned (.bool x)) ?_, rfl⟩
      simp [mayB, h1]
    · skip
      go_enter Tryz.func95, Tryz.ntmps95
      go_wp2_with fail
      go_ret
      refine ⟨congrArg (fun x : Bool => Ending.returned (.bool x)) ?_, rfl⟩
      simp [mayB]; omega
  have q5 : (op == 5) = false := by simp [h5]
  by_cases h6 : op = 6
  · subst h6
    by_cases h1 : 1 ≤ mode
    · skip
      go_enter Tryz.func95, Tryz.ntmps95
      go_wp2_with fail
      go_ret
      refine ⟨congrArg (fun x : Bool => Ending.returned (.bool x)) ?_, rfl⟩
      simp [mayB, h1]
    · skip
      go_enter Tryz.func95, Tryz.ntmps95
      go_wp2_with fail
      go_ret
      refine ⟨congrArg (fun x : Bool => Ending.returned (.bool x)) ?_, rfl⟩
      simp [mayB]; omega
  have q6 : (op == 6) = false := by simp [h6]
  by_cases h7 : op = 7
  · subst h7
    by_cases h1 : 2 ≤ mode
    · skip
      go_enter Tryz.func95, Tryz.ntmps95
      go_wp2_with fail
      go_ret
      refine ⟨congrArg (fun x : Bool => Ending.returned (.bool x)) ?_, rfl⟩
      simp [mayB, h1]
    · skip
      go_enter Tryz.func95, Tryz.ntmps95
      go_wp2_with fail
      go_ret
      refine ⟨congrArg (fun x : Bool => Ending.returned (.bool x)) ?_, rfl⟩
      simp [mayB]; omega
  have q7 : (op == 7) = false := by simp [h7]
  go_enter Tryz.func95, Tryz.ntmps95
  go_wp2_with fail
  go_ret
  refine ⟨congrArg (fun x : Bool => Ending.returned (.bool x)) ?_, rfl⟩
  simp [mayB, h2, h3, h4, h5, h6, h7]

/-- What an act has, as the program's table tells it. -/
def hasV (op : Int) : Array Value := #[.bool (hasDst op), .bool (hasPlace op), .bool (hasE op), .bool (hasF op), .bool (hasTo op)]
theorem tab_ix (op : Int) (h1 : 1 ≤ op) (h2 : op ≤ 10) (w : World) : (Instr.index 247 (.agg #[.bool false, .bool false, .bool false, .bool false, .bool false, .bool true, .bool false, .bool true, .bool false, .bool false, .bool true, .bool true, .bool false, .bool false, .bool false, .bool false, .bool true, .bool true, .bool false, .bool false, .bool true, .bool true, .bool true, .bool false, .bool false, .bool true, .bool true, .bool true, .bool false, .bool false, .bool true, .bool true, .bool true, .bool true, .bool false, .bool false, .bool false, .bool false, .bool false, .bool false, .bool false, .bool false, .bool true, .bool false, .bool false, .bool false, .bool false, .bool false, .bool false, .bool true, .bool false, .bool false, .bool true, .bool false, .bool true]) (.int .i64 op)).run Tryz.prog w = .ok (.agg #[.bool (hasDst op), .bool (hasPlace op), .bool (hasE op), .bool (hasF op), .bool (hasTo op)]) w := by
  have t1 : (Instr.index 247 (.agg #[.bool false, .bool false, .bool false, .bool false, .bool false, .bool true, .bool false, .bool true, .bool false, .bool false, .bool true, .bool true, .bool false, .bool false, .bool false, .bool false, .bool true, .bool true, .bool false, .bool false, .bool true, .bool true, .bool true, .bool false, .bool false, .bool true, .bool true, .bool true, .bool false, .bool false, .bool true, .bool true, .bool true, .bool true, .bool false, .bool false, .bool false, .bool false, .bool false, .bool false, .bool false, .bool false, .bool true, .bool false, .bool false, .bool false, .bool false, .bool false, .bool false, .bool true, .bool false, .bool false, .bool true, .bool false, .bool true]) (.int .i64 1)).run Tryz.prog w = .ok (.agg #[.bool (hasDst 1), .bool (hasPlace 1), .bool (hasE 1), .bool (hasF 1), .bool (hasTo 1)]) w := by kernel_rfl
  have t2 : (Instr.index 247 (.agg #[.bool false, .bool false, .bool false, .bool false, .bool false, .bool true, .bool false, .bool true, .bool false, .bool false, .bool true, .bool true, .bool false, .bool false, .bool false, .bool false, .bool true, .bool true, .bool false, .bool false, .bool true, .bool true, .bool true, .bool false, .bool false, .bool true, .bool true, .bool true, .bool false, .bool false, .bool true, .bool true, .bool true, .bool true, .bool false, .bool false, .bool false, .bool false, .bool false, .bool false, .bool false, .bool false, .bool true, .bool false, .bool false, .bool false, .bool false, .bool false, .bool false, .bool true, .bool false, .bool false, .bool true, .bool false, .bool true]) (.int .i64 2)).run Tryz.prog w = .ok (.agg #[.bool (hasDst 2), .bool (hasPlace 2), .bool (hasE 2), .bool (hasF 2), .bool (hasTo 2)]) w := by kernel_rfl
  have t3 : (Instr.index 247 (.agg #[.bool false, .bool false, .bool false, .bool false, .bool false, .bool true, .bool false, .bool true, .bool false, .bool false, .bool true, .bool true, .bool false, .bool false, .bool false, .bool false, .bool true, .bool true, .bool false, .bool false, .bool true, .bool true, .bool true, .bool false, .bool false, .bool true, .bool true, .bool true, .bool false, .bool false, .bool true, .bool true, .bool true, .bool true, .bool false, .bool false, .bool false, .bool false, .bool false, .bool false, .bool false, .bool false, .bool true, .bool false, .bool false, .bool false, .bool false, .bool false, .bool false, .bool true, .bool false, .bool false, .bool true, .bool false, .bool true]) (.int .i64 3)).run Tryz.prog w = .ok (.agg #[.bool (hasDst 3), .bool (hasPlace 3), .bool (hasE 3), .bool (hasF 3), .bool (hasTo 3)]) w := by kernel_rfl
  have t4 : (Instr.index 247 (.agg #[.bool false, .bool false, .bool false, .bool false, .bool false, .bool true, .bool false, .bool true, .bool false, .bool false, .bool true, .bool true, .bool false, .bool false, .bool false, .bool false, .bool true, .bool true, .bool false, .bool false, .bool true, .bool true, .bool true, .bool false, .bool false, .bool true, .bool true, .bool true, .bool false, .bool false, .bool true, .bool true, .bool true, .bool true, .bool false, .bool false, .bool false, .bool false, .bool false, .bool false, .bool false, .bool false, .bool true, .bool false, .bool false, .bool false, .bool false, .bool false, .bool false, .bool true, .bool false, .bool false, .bool true, .bool false, .bool true]) (.int .i64 4)).run Tryz.prog w = .ok (.agg #[.bool (hasDst 4), .bool (hasPlace 4), .bool (hasE 4), .bool (hasF 4), .bool (hasTo 4)]) w := by kernel_rfl
  have t5 : (Instr.index 247 (.agg #[.bool false, .bool false, .bool false, .bool false, .bool false, .bool true, .bool false, .bool true, .bool false, .bool false, .bool true, .bool true, .bool false, .bool false, .bool false, .bool false, .bool true, .bool true, .bool false, .bool false, .bool true, .bool true, .bool true, .bool false, .bool false, .bool true, .bool true, .bool true, .bool false, .bool false, .bool true, .bool true, .bool true, .bool true, .bool false, .bool false, .bool false, .bool false, .bool false, .bool false, .bool false, .bool false, .bool true, .bool false, .bool false, .bool false, .bool false, .bool false, .bool false, .bool true, .bool false, .bool false, .bool true, .bool false, .bool true]) (.int .i64 5)).run Tryz.prog w = .ok (.agg #[.bool (hasDst 5), .bool (hasPlace 5), .bool (hasE 5), .bool (hasF 5), .bool (hasTo 5)]) w := by kernel_rfl
  have t6 : (Instr.index 247 (.agg #[.bool false, .bool false, .bool false, .bool false, .bool false, .bool true, .bool false, .bool true, .bool false, .bool false, .bool true, .bool true, .bool false, .bool false, .bool false, .bool false, .bool true, .bool true, .bool false, .bool false, .bool true, .bool true, .bool true, .bool false, .bool false, .bool true, .bool true, .bool true, .bool false, .bool false, .bool true, .bool true, .bool true, .bool true, .bool false, .bool false, .bool false, .bool false, .bool false, .bool false, .bool false, .bool false, .bool true, .bool false, .bool false, .bool false, .bool false, .bool false, .bool false, .bool true, .bool false, .bool false, .bool true, .bool false, .bool true]) (.int .i64 6)).run Tryz.prog w = .ok (.agg #[.bool (hasDst 6), .bool (hasPlace 6), .bool (hasE 6), .bool (hasF 6), .bool (hasTo 6)]) w := by kernel_rfl
  have t7 : (Instr.index 247 (.agg #[.bool false, .bool false, .bool false, .bool false, .bool false, .bool true, .bool false, .bool true, .bool false, .bool false, .bool true, .bool true, .bool false, .bool false, .bool false, .bool false, .bool true, .bool true, .bool false, .bool false, .bool true, .bool true, .bool true, .bool false, .bool false, .bool true, .bool true, .bool true, .bool false, .bool false, .bool true, .bool true, .bool true, .bool true, .bool false, .bool false, .bool false, .bool false, .bool false, .bool false, .bool false, .bool false, .bool true, .bool false, .bool false, .bool false, .bool false, .bool false, .bool false, .bool true, .bool false, .bool false, .bool true, .bool false, .bool true]) (.int .i64 7)).run Tryz.prog w = .ok (.agg #[.bool (hasDst 7), .bool (hasPlace 7), .bool (hasE 7), .bool (hasF 7), .bool (hasTo 7)]) w := by kernel_rfl
  have t8 : (Instr.index 247 (.agg #[.bool false, .bool false, .bool false, .bool false, .bool false, .bool true, .bool false, .bool true, .bool false, .bool false, .bool true, .bool true, .bool false, .bool false, .bool false, .bool false, .bool true, .bool true, .bool false, .bool false, .bool true, .bool true, .bool true, .bool false, .bool false, .bool true, .bool true, .bool true, .bool false, .bool false, .bool true, .bool true, .bool true, .bool true, .bool false, .bool false, .bool false, .bool false, .bool false, .bool false, .bool false, .bool false, .bool true, .bool false, .bool false, .bool false, .bool false, .bool false, .bool false, .bool true, .bool false, .bool false, .bool true, .bool false, .bool true]) (.int .i64 8)).run Tryz.prog w = .ok (.agg #[.bool (hasDst 8), .bool (hasPlace 8), .bool (hasE 8), .bool (hasF 8), .bool (hasTo 8)]) w := by kernel_rfl
  have t9 : (Instr.index 247 (.agg #[.bool false, .bool false, .bool false, .bool false, .bool false, .bool true, .bool false, .bool true, .bool false, .bool false, .bool true, .bool true, .bool false, .bool false, .bool false, .bool false, .bool true, .bool true, .bool false, .bool false, .bool true, .bool true, .bool true, .bool false, .bool false, .bool true, .bool true, .bool true, .bool false, .bool false, .bool true, .bool true, .bool true, .bool true, .bool false, .bool false, .bool false, .bool false, .bool false, .bool false, .bool false, .bool false, .bool true, .bool false, .bool false, .bool false, .bool false, .bool false, .bool false, .bool true, .bool false, .bool false, .bool true, .bool false, .bool true]) (.int .i64 9)).run Tryz.prog w = .ok (.agg #[.bool (hasDst 9), .bool (hasPlace 9), .bool (hasE 9), .bool (hasF 9), .bool (hasTo 9)]) w := by kernel_rfl
  have t10 : (Instr.index 247 (.agg #[.bool false, .bool false, .bool false, .bool false, .bool false, .bool true, .bool false, .bool true, .bool false, .bool false, .bool true, .bool true, .bool false, .bool false, .bool false, .bool false, .bool true, .bool true, .bool false, .bool false, .bool true, .bool true, .bool true, .bool false, .bool false, .bool true, .bool true, .bool true, .bool false, .bool false, .bool true, .bool true, .bool true, .bool true, .bool false, .bool false, .bool false, .bool false, .bool false, .bool false, .bool false, .bool false, .bool true, .bool false, .bool false, .bool false, .bool false, .bool false, .bool false, .bool true, .bool false, .bool false, .bool true, .bool false, .bool true]) (.int .i64 10)).run Tryz.prog w = .ok (.agg #[.bool (hasDst 10), .bool (hasPlace 10), .bool (hasE 10), .bool (hasF 10), .bool (hasTo 10)]) w := by kernel_rfl
  have h : op = 1 ∨ op = 2 ∨ op = 3 ∨ op = 4 ∨ op = 5 ∨ op = 6 ∨ op = 7 ∨ op = 8 ∨ op = 9 ∨ op = 10 := by omega
  rcases h with rfl | rfl | rfl | rfl | rfl | rfl | rfl | rfl | rfl | rfl
  · exact t1
  · exact t2
  · exact t3
  · exact t4
  · exact t5
  · exact t6
  · exact t7
  · exact t8
  · exact t9
  · exact t10
set_option maxRecDepth 100000 in
set_option maxHeartbeats 4000000 in
theorem parts_any (op : Int) (h1 : 1 ≤ op) (h2 : op ≤ 10) (w : World) : Calls Tryz.prog 96 #[.int .i64 op] w fun e w' => e = .returned (.agg (hasV op)) ∧ Below w.heap.size w w' := by
  have hix := fun w => tab_ix op h1 h2 w
  unfold hasV
  generalize hasDst op = b0 at *
  generalize hasPlace op = b1 at *
  generalize hasE op = b2 at *
  generalize hasF op = b3 at *
  generalize hasTo op = b4 at *
  go_enter Tryz.func96, Tryz.ntmps96
  go_wp2_with fail
  refine bodyPost_ret (v := .agg #[.bool b0, .bool b1, .bool b2, .bool b3, .bool b4]) (by simp [results, Tryz.results96, go_sem]) rfl ⟨rfl, ?_⟩
  exact (by repeat (first | exact Below.refl _ _ | refine Kit.Below.setN ?_ (Nat.le_refl _) _ | refine Kit.Below.al ?_ _))

end Go.Proofs.YtmjilfamjlnigaaGreat.SrcW
