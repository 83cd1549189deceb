/- WALKS: the example's program. -/
import Derived.Test.YtmjilfamjlnigaaGreatQ25
import Derived.Test.YtmjilfamjlnigaaGreatQ14
import Derived.Test.YtmjilfamjlnigaaGreatQ32
namespace Go.Proofs.YtmjilfamjlnigaaGreat.LawW
open Go Go.RowKit Go.Proofs.YtmjilfamjlnigaaGreat.Kit Go.Proofs.YtmjilfamjlnigaaGreat.SrcP Go.Proofs.YtmjilfamjlnigaaGreat.SrcW Go.Proofs.YtmjilfamjlnigaaGreat.MchW Go.Proofs.YtmjilfamjlnigaaGreat.OwnR Go.Proofs.YtmjilfamjlnigaaGreat.NewW Go.Proofs.YtmjilfamjlnigaaGreat.RunW

def numN (v : Nat) : SrcP.Node := ⟨1, v, 0, 0⟩
def localN (n : Nat) : SrcP.Node := ⟨2, n, 0, 0⟩
theorem num_any (v : Nat) (w : World) : Calls Tryz.prog 18 #[.int .u64 v] w fun e w' => e = .returned (.slice (some ⟨w.heap.size, 0, none⟩) 1 1) ∧ w' = w.alloc (.cells #[.int .i64 1, .int .u64 v, .int .i64 0, .int .i64 0] 112) := by
  go_enter Tryz.func18, Tryz.ntmps18
  go_wp2_with fail
  go_ret
  exact ⟨rfl, rfl⟩
theorem local_any (v : Nat) (w : World) : Calls Tryz.prog 19 #[.int .u64 v] w fun e w' => e = .returned (.slice (some ⟨w.heap.size, 0, none⟩) 1 1) ∧ w' = w.alloc (.cells #[.int .i64 2, .int .u64 v, .int .i64 0, .int .i64 0] 112) := by
  go_enter Tryz.func19, Tryz.ntmps19
  go_wp2_with fail
  go_ret
  exact ⟨rfl, rfl⟩
def bufActs (t : Nat) : List SrcP.Act := [⟨3, 0, t, 0, [], [numN 1], [], 1, 0, 0, 0⟩, ⟨2, 0, 1 - (t : Int), 0, [], [], [], 1, 0, 0, 0⟩, ⟨8, 0, 0, 0, [], [localN 0], [], 0, 0, 0, 0⟩]
def bufferP : SrcP.Prog := ⟨2, [⟨1, bufActs 0⟩, ⟨1, bufActs 1⟩]⟩
def thrC (va : Value) : List Value := [.int .i64 1, va]
def BufRel (w : World) (g0 gP : Nat) (mm : Nat) (s2 : Value) (wr : World) : Prop :=
  ∃ (t : Nat) (vt : Value) (vas : List Value), s2 = .int .i64 t ∧ t ≤ 2 ∧ mm = 2 - t ∧ Blk wr gP 24 #[.int .i64 2, vt] ∧ wr.ownsRow w.heap.size 60 2 vt t (vas.flatMap thrC) ∧ vas.length = t ∧ Below w.heap.size w wr ∧ Blk wr g0 24 #[.int .i64 0, nilV] ∧
    ∀ (i : Nat) (va : Value), vas[i]? = some va → ActsS wr va (bufActs i) ∧ NilOk va
theorem info_thread : (Tryz.prog.info? 60).map (fun i => (i.zero, i.size, i.bytes)) = some (some (.agg #[.int .i64 0, .slice none 0 0]), 2, 32) := by kernel_rfl
theorem thrC_one (va : Value) (h : va.oneCell' = true) : ∀ u ∈ thrC va, u.oneCell' = true := fun u hu => by
  simp only [thrC, List.mem_cons, List.not_mem_nil, or_false] at hu
  rcases hu with rfl | rfl
  · rfl
  · exact h
theorem nodes_blk {w : World} {g : Nat} {l : List SrcP.Node} (h : Blk w g 112 (l.flatMap nodeC).toArray) (hv : ∀ n ∈ l, n.val < M64) (c : Nat) : NodesS w (.slice (some ⟨g, 0, none⟩) l.length c) l := fun w' hs => by
  have hb := hs g _ 112 (0, 0) h rfl
  refine ⟨_, c, rfl, fun i n hi => ⟨hv n (List.mem_of_getElem? hi), ⟨g, 0, none⟩, rfl, fun j u hj => ?_⟩⟩
  have hj4 : j < 4 := (List.getElem?_eq_some_iff.1 hj).1
  have hget := flat_get nodeC 4 (fun _ => rfl) l i j n hi hj4
  rw [add_add, show Addr.add ⟨g, 0, none⟩ (i * 4 + j) = ⟨g, i * 4 + j, none⟩ by unfold Addr.add; split <;> simp_all]
  rw [World.cell?, hb]
  simpa [hj] using hget
theorem nodes_nil (w : World) : NodesS w nilV [] := fun w' _ => ⟨none, 0, rfl, fun i n hi => by simp at hi⟩
theorem own_ty {w : World} {base e size n k : Nat} {v : Value} {xs : List Value} (h : w.ownsRow base e size v n xs) (hk : v.ownBlock = some k) : ∃ cur, Blk w k e cur := by
  rcases h.2 with ⟨h0, _⟩ | ⟨g', cap', cur, h0, _, hh, _⟩
  · rw [h0] at hk; cases hk
  · rw [h0] at hk
    obtain rfl : g' = k := by simpa [Value.ownBlock] using hk
    exact ⟨cur, hh⟩
theorem still_own {T : TypeId → Prop} {w w' : World} {base e size n : Nat} {v : Value} {xs : List Value} (h : w.ownsRow base e size v n xs) (hT : ¬ T e) (hg : w.grownBy w' v.ownBlock) : Still T w w' :=
  Still.grown hg fun k hk cs t fr hb => by
    obtain ⟨cur, hb'⟩ := own_ty h hk
    unfold Blk at hb'
    rw [hb'] at hb
    injection hb with hb
    injection hb with _ hb _
    rw [← hb]
    exact hT
def thrP (p : SrcP.Thread × Value) : List Value := [.int .i64 p.1.locals, p.2]
theorem acts_here {w : World} {v : Value} {l : List SrcP.Act} (h : ActsS w v l) : ActsAt w v l := by
  obtain ⟨A, c, rfl, h⟩ := h
  refine ⟨A, c, rfl, fun i a hi => ?_⟩
  obtain ⟨ad, vi, ve, vf, h1, h2, h3⟩ := h i a hi
  exact ⟨ad, vi, ve, vf, h1, h2 w (Still.refl w), h3.here⟩
theorem threads_own {w : World} {base : Nat} {vt : Value} {ths : List SrcP.Thread} {vas : List Value} (hl : vas.length = ths.length) (h : w.ownsRow base 60 2 vt ths.length ((ths.zip vas).flatMap thrP))
    (ha : ∀ (i : Nat) (th : SrcP.Thread) (va : Value), ths[i]? = some th → vas[i]? = some va → ActsS w va th.acts ∧ NilOk va ∧ th.acts.length ≤ 1048576) : ThreadsAt w vt ths := by
  obtain ⟨A, c, rfl, _⟩ := own_slice h
  refine ⟨A, c, rfl, fun i th hi => ?_⟩
  have hil := (List.getElem?_eq_some_iff.1 hi).1
  obtain ⟨va, hva⟩ : ∃ va, vas[i]? = some va := ⟨_, List.getElem?_eq_getElem (by omega)⟩
  obtain ⟨h1, h2, h3⟩ := ha i th va hi hva
  obtain ⟨g, cap, hv, _, _, _, _, hc⟩ := own_cells h (by omega)
  injection hv with hv _ _
  subst hv
  refine ⟨⟨g, 0, none⟩, va, rfl, fun j u hj => ?_, acts_here h1, h3, h2⟩
  have hj2 : j < 2 := (List.getElem?_eq_some_iff.1 hj).1
  have hget := flat_get thrP 2 (fun _ => rfl) (ths.zip vas) i j (th, va) (by rw [List.getElem?_zip_eq_some]; exact ⟨hi, hva⟩) hj2
  rw [add_add, show Addr.add ⟨g, 0, none⟩ (i * 2 + j) = ⟨g, i * 2 + j, none⟩ by unfold Addr.add; split <;> simp_all]
  exact hc _ u (by rw [hget]; exact hj)
set_option maxRecDepth 100000 in
set_option maxHeartbeats 0 in
theorem Buffer_any (w : World) : Calls Tryz.prog 17 #[] w fun e w' => ∃ vt, e = .returned (.agg #[.int .i64 2, vt]) ∧ ThreadsAt w' vt bufferP.threads ∧ Below w.heap.size w w' := by
  obtain ⟨i0, hi0, hz0, hz1, hz2⟩ := info_parts info_thread
  go_enter Tryz.func17, Tryz.ntmps17
  go_upto_region 2 with fail
  obtain ⟨w1, hw1⟩ : ∃ y, y = (w.alloc (.cells #[.int .i64 0, .slice none 0 0] 24)).alloc (.cells #[.int .i64 2, .slice none 0 0] 24) := ⟨_, rfl⟩
  have hb1 : Below w.heap.size w w1 := by rw [hw1]; exact Kit.Below.al (Kit.Below.al (Below.refl _ _) _) _
  have h0 : Blk w1 w.heap.size 24 #[.int .i64 0, nilV] := by rw [hw1]; exact (Blk.new w _ _).alloc _
  have hP : Blk w1 (w.heap.size + 1) 24 #[.int .i64 2, nilV] := by rw [hw1]; exact Blk.newAt (sizeA w _) _ _
  rw [← hw1]
  clear hw1
  obtain ⟨g0, hg0⟩ : ∃ y, y = w.heap.size := ⟨_, rfl⟩
  obtain ⟨gP, hgP⟩ : ∃ y, y = w.heap.size + 1 := ⟨_, rfl⟩
  have hgw : w.heap.size ≤ gP := by omega
  have hg0w : w.heap.size ≤ g0 := by omega
  have hg0P : g0 ≠ gP := by omega
  rw [← hgP] at hP ⊢
  rw [← hg0] at h0 ⊢
  clear hg0 hgP
  go_upto_region 3 with fail
  go_loopg [2] 2 (fun mm s2 wr => BufRel w g0 gP mm s2 wr)
  case atStart => exact ⟨0, nilV, [], rfl, Nat.zero_le _, rfl, hP, ⟨by simp, .inl ⟨rfl, rfl⟩⟩, rfl, hb1, h0, fun i va h => by simp at h⟩
  case round =>
    obtain ⟨t, vt, vas, rfl, ht, hmm, hP2, hown, hlen, hb2, h02, hva⟩ := hrel
    have HM := Lib.hid hmm
    clear hmm hP h0 hb1
    have hml : (16 * 1048576 : Nat) ≤ maxLen := by decide
    by_cases hke : t < 2
    · have hbs2 := hb2.size
      have HN := fun w => Lib.hid (num_any 1 w)
      have HL := fun w => Lib.hid (local_any 0 w)
      obtain ⟨A, cA, rfl, _⟩ := own_slice hown
      have k1 : wr.cell? ⟨gP, 1, none⟩ = some (.slice A t cA) := hP2.cell 1
      have q1 : (t : Int) < 2 := by omega
      have q0 : (0 : Int) ≤ (t : Int) := by omega
      have q2 : IntKind.i64.wrap (1 - (t : Int)) = 1 - (t : Int) := by rw [IntKind.wrap_i64]; omega
      go_upto_region 6 with (first | (go_at_call 18; refine (HN _).out.mono ?_; rintro e w1 ⟨rfl, rfl⟩) | (go_at_call 19; refine (HL _).out.mono ?_; rintro e w2 ⟨rfl, rfl⟩))
      obtain ⟨w5, hw5⟩ : ∃ y, y = ((wr.alloc (.cells #[.int .i64 1, .int .u64 1, .int .i64 0, .int .i64 0] 112)).alloc (.cells #[.int .i64 2, .int .u64 0, .int .i64 0, .int .i64 0] 112)).alloc (.cells #[.int .i64 3, .int .i64 0, .int .i64 (t : Int), .int .i64 0, .slice none 0 0, .slice (some ⟨wr.heap.size, 0, none⟩) 1 1, .slice none 0 0, .int .i64 1, .int .i64 0, .int .i64 0, .int .i64 0, .int .i64 2, .int .i64 0, .int .i64 (1 - (t : Int)), .int .i64 0, .slice none 0 0, .slice none 0 0, .slice none 0 0, .int .i64 1, .int .i64 0, .int .i64 0, .int .i64 0, .int .i64 8, .int .i64 0, .int .i64 0, .int .i64 0, .slice none 0 0, .slice (some ⟨wr.heap.size + 1, 0, none⟩) 1 1, .slice none 0 0, .int .i64 0, .int .i64 0, .int .i64 0, .int .i64 0] 58) := ⟨_, rfl⟩
      have hb5 : Below wr.heap.size wr w5 := by rw [hw5]; exact Kit.Below.al (Kit.Below.al (Kit.Below.al (Below.refl _ _) _) _) _
      have hn1 : Blk w5 wr.heap.size 112 ([numN 1].flatMap nodeC).toArray := by rw [hw5]; exact ((Blk.new wr _ _).alloc _).alloc _
      have hn2 : Blk w5 (wr.heap.size + 1) 112 ([localN 0].flatMap nodeC).toArray := by rw [hw5]; exact (Blk.newAt (sizeA wr _) _ _).alloc _
      have hA5 : Blk w5 (wr.heap.size + 1 + 1) 58 (actsC (bufActs t) [(nilV, .slice (some ⟨wr.heap.size, 0, none⟩) 1 1, nilV), (nilV, nilV, nilV), (nilV, .slice (some ⟨wr.heap.size + 1, 0, none⟩) 1 1, nilV)]).toArray := by
        rw [hw5]; exact Blk.newAt (by rw [sizeA, sizeA]) _ _
      rw [← hw5]
      have HW5 := Lib.hid hw5
      clear hw5
      have hac : ActsS w5 (.slice (some ⟨wr.heap.size + 1 + 1, 0, none⟩) 3 3) (bufActs t) := by
        refine acts_own (base := wr.heap.size) (l := bufActs t) (vs := [(nilV, .slice (some ⟨wr.heap.size, 0, none⟩) 1 1, nilV), (nilV, nilV, nilV), (nilV, .slice (some ⟨wr.heap.size + 1, 0, none⟩) 1 1, nilV)]) (B := some ⟨wr.heap.size + 1 + 1, 0, none⟩) (d := 3) ⟨rfl, .inr ⟨_, 3, _, rfl, by omega, hA5, Nat.le_refl _, by decide, rfl, rfl⟩⟩ rfl (fun i a tv hi htv => ?_) (fun a ha => ?_)
        · have hnl : NodesS w5 nilV [] := nodes_nil w5
          have hno : NilOk nilV := fun n c h => by injection h with _ _ h; exact h.symm
          have h1 := nodes_blk hn1 (by decide) 1
          have h2 := nodes_blk hn2 (by decide) 1
          have hs : ∀ (g n c : Nat), NilOk (.slice (some ⟨g, 0, none⟩) n c) := fun g n c n' c' h => by injection h with h; cases h
          match i, hi, htv with
          | 0, hi, htv => cases hi; cases htv; exact ⟨⟨hnl, h1, hnl⟩, hno, hs _ _ _, hno⟩
          | 1, hi, htv => cases hi; cases htv; exact ⟨⟨hnl, hnl, hnl⟩, hno, hno, hno⟩
          | 2, hi, htv => cases hi; cases htv; exact ⟨⟨hnl, h2, hnl⟩, hno, hs _ _ _, hno⟩
          | i + 3, hi, htv => simp [bufActs] at hi
        · simp only [bufActs, List.mem_cons, List.not_mem_nil, or_false] at ha
          rcases ha with rfl | rfl | rfl <;> exact ⟨by simp, by simp, by simp⟩
      obtain ⟨gA, hvaq⟩ : ∃ y, y = wr.heap.size + 1 + 1 := ⟨_, rfl⟩
      rw [← hvaq] at hac ⊢
      have hnil : NilOk (.slice (some ⟨gA, 0, none⟩) 3 3) := by intro n' c' h; injection h with h; cases h
      have hsz5 : wr.heap.size ≤ w5.heap.size := hb5.size
      have hP5 := hP2.below' hb5
      have h05 := h02.below' hb5
      have hown5 := own_stays hown (fun k hk => hb5.block k (own_lt hown hk))
      have hva5 : ∀ (i : Nat) (va : Value), vas[i]? = some va → ActsS w5 va (bufActs i) ∧ NilOk va := fun i va hi => ⟨(hva i va hi).1.still (Still.below hb5), (hva i va hi).2⟩
      have hb25 := Kit.Below.then hb2 hb5
      have k5 : w5.cell? ⟨gP, 1, none⟩ = some (.slice A t cA) := hP5.cell 1
      have kf := fun i => hP5.frozen i
      clear hn1 hn2 hA5 HW5 hP2 h02 hown hva k1 hb5 hvaq HN HL
      have hN6 : Blk (w5.alloc (.cells #[.int .i64 1, .slice (some ⟨gA, 0, none⟩) 3 3] 60)) w5.heap.size 60 (List.toArray (thrC (.slice (some ⟨gA, 0, none⟩) 3 3))) := Blk.new w5 _ _
      have hb6 : Below w5.heap.size w5 (w5.alloc (.cells #[.int .i64 1, .slice (some ⟨gA, 0, none⟩) 3 3] 60)) := Kit.Below.al (Below.refl _ _) _
      have hown6 := own_stays hown5 (fun k hk => hb6.block k (own_lt hown5 hk))
      have HEO := Lib.hid hown6
      have hbs6 : w.heap.size ≤ (w5.alloc (.cells #[.int .i64 1, .slice (some ⟨gA, 0, none⟩) 3 3] 60)).heap.size := Nat.le_trans hb25.size hb6.size
      go_wp2_with (at_builtin; refine wpList_append_lies _ (by rfl) _ _ _ (by rfl) w.heap.size 60 i0 _ 2 32 Tryz.underlying22 hi0 hz0 hz1 hz2 rfl (by omega) _ t _ (by rfl) HEO.out ⟨w5.heap.size, 0, none⟩ 1 1 (thrC (.slice (some ⟨gA, 0, none⟩) 3 3)) (by rfl) rfl (news_one hN6) (thrC_one _ rfl) (by omega) (by omega) (by omega) hbs6 _ rfl ?_; intro g8 cap8 w8 hown8 hgrow8 hat8 hlt8; have hB8 := ((hP5.below' hb6).grown hgrow8 (fun h => OwnR.own_type HEO.out (hP5.below' hb6) (by decide) h)); have kf := fun i => hB8.frozen i; have k6' : w8.cell? ⟨gP, 1, none⟩ = some (.slice A t cA) := hB8.cell 1)
      have hst : Still TA w5 (w8.setCell ⟨gP, 1, none⟩ (.slice (some ⟨g8, 0, none⟩) (t + 1) cap8)) :=
        ((Still.below hb6).trans (still_own HEO.out (by unfold TA; decide) hgrow8)).trans (Still.set hB8 (by unfold TA; decide) _)
      have hP9 : Blk (w8.setCell ⟨gP, 1, none⟩ (.slice (some ⟨g8, 0, none⟩) (t + 1) cap8)) gP 24 #[.int .i64 2, .slice (some ⟨g8, 0, none⟩) (t + 1) cap8] := hB8.set 1 _
      have h09 : Blk (w8.setCell ⟨gP, 1, none⟩ (.slice (some ⟨g8, 0, none⟩) (t + 1) cap8)) g0 24 #[.int .i64 0, nilV] :=
        ((h05.below' hb6).grown hgrow8 (fun h => OwnR.own_type HEO.out (h05.below' hb6) (by decide) h)).farN hg0P _
      have hown9 : (w8.setCell ⟨gP, 1, none⟩ (.slice (some ⟨g8, 0, none⟩) (t + 1) cap8)).ownsRow w.heap.size 60 2 (.slice (some ⟨g8, 0, none⟩) (t + 1) cap8) (t + 1) ((vas ++ [Value.slice (some ⟨gA, 0, none⟩) 3 3]).flatMap thrC) := by
        rw [List.flatMap_append]
        refine own_stays (xs := vas.flatMap thrC ++ thrC (Value.slice (some ⟨gA, 0, none⟩) 3 3)) hown8 (fun k hk => Below.heap_setCell _ _ _ k (fun e => OwnR.own_type hown8 hB8 (by decide) (by rw [hk, e])))
      have hb9 : Below w.heap.size w (w8.setCell ⟨gP, 1, none⟩ (.slice (some ⟨g8, 0, none⟩) (t + 1) cap8)) :=
        ((Kit.Below.then hb25 hb6).grown hgrow8 hbs6 (fun k hk => OwnR.own_base HEO.out hk)).setCell (p := ⟨gP, 1, none⟩) hgw _
      have hva9 : ∀ (i : Nat) (va : Value), (vas ++ [Value.slice (some ⟨gA, 0, none⟩) 3 3])[i]? = some va → ActsS (w8.setCell ⟨gP, 1, none⟩ (.slice (some ⟨g8, 0, none⟩) (t + 1) cap8)) va (bufActs i) ∧ NilOk va := fun i va hi => by
        rcases Nat.lt_trichotomy i t with h | h | h
        · rw [List.getElem?_append_left (by omega)] at hi
          exact ⟨(hva5 i va hi).1.still hst, (hva5 i va hi).2⟩
        · rw [h, List.getElem?_append_right (by omega), hlen, Nat.sub_self] at hi
          obtain rfl : _ = va := Option.some.inj hi
          rw [h]
          exact ⟨hac.still hst, hnil⟩
        · rw [List.getElem?_eq_none (by simp; omega)] at hi
          cases hi
      generalize w8.setCell ⟨gP, 1, none⟩ (.slice (some ⟨g8, 0, none⟩) (t + 1) cap8) = w9 at *
      clear hst hB8 hgrow8 hat8 hlt8 hown8 HEO hown6 hown5 hP5 h05 hva5 hac kf k6' k5 hN6 hb6 hbs6
      go_roundg (2 - (t + 1))
      case measure => have := HM.out; omega
      case rel => exact ⟨t + 1, _, _, by push_cast; rfl, hke, rfl, hP9, hown9, by simp [hlen], hb9, h09, hva9⟩
    · obtain rfl : t = 2 := by omega
      clear hke
      obtain ⟨A, cA, rfl, _⟩ := own_slice hown
      have k0 : wr.cell? ⟨gP, 0, none⟩ = some (.int .i64 2) := hP2.cell 0
      have k1 : wr.cell? ⟨gP, 1, none⟩ = some (.slice A 2 cA) := hP2.cell 1
      have c0 : wr.cell? ⟨g0, 0, none⟩ = some (.int .i64 0) := h02.cell 0
      have c1 : wr.cell? ⟨g0, 1, none⟩ = some (.slice none 0 0) := h02.cell 1
      have kf := fun i => h02.frozen i
      have hbz : Below w.heap.size w ((wr.setCell ⟨g0, 0, none⟩ (.int .i64 2)).setCell ⟨g0, 1, none⟩ (.slice A 2 cA)) := (hb2.setCell (p := ⟨g0, 0, none⟩) hg0w _).setCell (p := ⟨g0, 1, none⟩) hg0w _
      have hown9 : ((wr.setCell ⟨g0, 0, none⟩ (.int .i64 2)).setCell ⟨g0, 1, none⟩ (.slice A 2 cA)).ownsRow w.heap.size 60 2 (.slice A 2 cA) 2 (vas.flatMap thrC) :=
        own_stays hown (fun k hk => by
          have hne : k ≠ g0 := fun e => OwnR.own_type hown h02 (by decide) (by rw [hk, e])
          rw [Below.heap_setCell _ _ _ k hne, Below.heap_setCell _ _ _ k hne])
      have hst : Still TA wr ((wr.setCell ⟨g0, 0, none⟩ (.int .i64 2)).setCell ⟨g0, 1, none⟩ (.slice A 2 cA)) := (Still.set h02 (by unfold TA; decide) _).trans (Still.set (h02.set 0 _) (by unfold TA; decide) _)
      have hth : ThreadsAt ((wr.setCell ⟨g0, 0, none⟩ (.int .i64 2)).setCell ⟨g0, 1, none⟩ (.slice A 2 cA)) (.slice A 2 cA) bufferP.threads := by
        match vas, hlen with
        | [a, b], _ =>
          refine threads_own (ths := bufferP.threads) (vas := [a, b]) rfl hown9 (fun i th va hi hv => ?_)
          match i, hi, hv with
          | 0, hi, hv => cases hi; cases hv; exact ⟨(hva 0 a rfl).1.still hst, (hva 0 a rfl).2, by simp [bufActs]⟩
          | 1, hi, hv => cases hi; cases hv; exact ⟨(hva 1 b rfl).1.still hst, (hva 1 b rfl).2, by simp [bufActs]⟩
          | i + 2, hi, hv => simp [bufferP] at hi
      clear hst hown9
      have hg9 : Blk ((wr.setCell ⟨g0, 0, none⟩ (.int .i64 2)).setCell ⟨g0, 1, none⟩ (.slice A 2 cA)) g0 24 #[.int .i64 2, .slice A 2 cA] := (h02.set 0 (.int .i64 2)).set 1 (.slice A 2 cA)
      go_wp2_with fail
      generalize (wr.setCell ⟨g0, 0, none⟩ (.int .i64 2)).setCell ⟨g0, 1, none⟩ (.slice A 2 cA) = w9 at *
      have e0 : w9.cell? ⟨g0, 0, none⟩ = some (.int .i64 2) := hg9.cell 0
      have e1 : w9.cell? ⟨g0, 1, none⟩ = some (.slice A 2 cA) := hg9.cell 1
      exact bodyPost_ret (v := .agg #[.int .i64 2, .slice A 2 cA]) (by simp [results, Tryz.results17, go_sem, e0, e1]) rfl ⟨_, rfl, hth, hbz⟩
end Go.Proofs.YtmjilfamjlnigaaGreat.LawW
/- WALKS: a program's run as it is answered, in short; the example's run. -/
namespace Go.Proofs.YtmjilfamjlnigaaGreat.LawW
open Go Go.RowKit Go.Proofs.YtmjilfamjlnigaaGreat.Kit Go.Proofs.YtmjilfamjlnigaaGreat.SrcP Go.Proofs.YtmjilfamjlnigaaGreat.SrcW Go.Proofs.YtmjilfamjlnigaaGreat.MchW Go.Proofs.YtmjilfamjlnigaaGreat.OwnR Go.Proofs.YtmjilfamjlnigaaGreat.NewW Go.Proofs.YtmjilfamjlnigaaGreat.RunW

/-- Where a play's parts lie. -/
structure SL where
  ae : Option Addr
  ce : Nat
  af : Option Addr
  cf : Nat
  ao : Option Addr
  no : Nat
  co : Nat
  am : Option Addr
  cm : Nat
  ac : Option Addr
  cc : Nat
  au : Option Addr
  nu : Nat
  cu : Nat
  ah : Option Addr
  ch : Nat
  coi : List Value
  outi : List Value
def SL.pv (Q : SL) (r : Rn Mch) : PV := ⟨.slice Q.ae r.events.length Q.ce, .slice Q.af r.rf.length Q.cf, .slice Q.ao Q.no Q.co, .slice Q.am r.rmw.length Q.cm, .slice Q.ac r.cells.length Q.cc, .slice Q.au Q.nu Q.cu, .slice Q.ah r.ths.length Q.ch, Q.coi, Q.outi⟩
/-- A play's rows. -/
def PlayQ (lo : Nat) (w : World) (Q : SL) (r : Rn Mch) : Prop := PlayW lo w (Q.pv r) (toldR r) (haltL (srcK false) r.ths)
theorem PlayQ.below {lo : Nat} {w w' : World} {Q : SL} {r : Rn Mch} (h : PlayQ lo w Q r) (hb : Below w.heap.size w w') : PlayQ lo w' Q r := PlayW.below h hb
def SrcOk (nc : Nat) (r : Rn Mch) (w : World) (e : Ending) (w' : World) : Prop :=
  Below w.heap.size w w' ∧ ∃ Q : SL, e = .returned (.tuple #[.agg #[.int .i64 (nc : Int), .slice Q.ae r.events.length Q.ce, .slice Q.af r.rf.length Q.cf, .slice Q.ao Q.no Q.co, .slice Q.am r.rmw.length Q.cm, .slice none 0 0, .slice none 0 0, .slice none 0 0, .slice Q.ac r.cells.length Q.cc, .slice Q.au Q.nu Q.cu, .slice Q.ah r.ths.length Q.ch, .int .i64 (r.used : Int)], .int .i64 0]) ∧ PlayQ w.heap.size w' Q r
section
variable {p : SrcP.Prog} {picks : List Int} {fuel : Int} {w : World} {e : Ending} {w' : World}
theorem source_ok {r : Rn Mch} (hr : sourceS p picks fuel false = .ok r) (h : SourcePost p picks fuel w e w') : SrcOk p.cells.toNat r w e w' := by
  unfold SourcePost at h
  simp only [hr] at h
  obtain ⟨hb, Ae, ce, Af, cf, Ao, no, co, Am, cm, Ac, cc, Au, nu, cu, Ah, ch, coi, outi, he, hP⟩ := h
  exact ⟨hb, ⟨Ae, ce, Af, cf, Ao, no, co, Am, cm, Ac, cc, Au, nu, cu, Ah, ch, coi, outi⟩, he, hP⟩
theorem source_no {n : Nat} (hr : sourceS p picks fuel false = .error n) (h : SourcePost p picks fuel w e w') : Below w.heap.size w w' ∧ e = .returned (.tuple #[.agg #[.int .i64 0, .slice none 0 0, .slice none 0 0, .slice none 0 0, .slice none 0 0, .slice none 0 0, .slice none 0 0, .slice none 0 0, .slice none 0 0, .slice none 0 0, .slice none 0 0, .int .i64 0], .int .i64 (n : Int)]) := by
  unfold SourcePost at h
  simp only [hr] at h
  exact h
end
theorem row_at {w : World} {lo e size n c : Nat} {A : Option Addr} {xs : List Value} (h : w.ownsRow lo e size (.slice A n c) n xs) (hn : 0 < n) : ∃ g, A = some ⟨g, 0, none⟩ ∧ g < w.heap.size ∧ lo ≤ g ∧ n ≤ c ∧ (∀ o, w.frozen? ⟨g, o, none⟩ = false) ∧ ∀ j u, xs[j]? = some u → w.cell? ⟨g, j, none⟩ = some u := by
  obtain ⟨g, cap, hv, h1, h2, h3, h4, h5⟩ := own_cells h hn
  injection hv with hv hn' hc
  subst hc
  exact ⟨g, hv, h2, h1, h3, h4, h5⟩
theorem PlayQ.out {lo : Nat} {w : World} {Q : SL} {r : Rn Mch} (h : PlayQ lo w Q r) : Q.nu = r.outs.length ∧ Q.outi.length = r.outs.length := by
  have h1 := h.outs
  have h2 := h.outl
  have e : (toldR r).outs = r.outs := rfl
  rw [e] at h2
  have h3 : Q.nu = Q.outi.length := by
    obtain ⟨A, c, hv, _⟩ := own_slice h1
    injection hv
  exact ⟨h3.trans h2, h2⟩
theorem PlayQ.evR {lo : Nat} {w : World} {Q : SL} {r : Rn Mch} (h : PlayQ lo w Q r) : w.ownsRow lo 42 5 (.slice Q.ae r.events.length Q.ce) r.events.length (r.events.flatMap evC) := h.ev
theorem PlayQ.cellsR {lo : Nat} {w : World} {Q : SL} {r : Rn Mch} (h : PlayQ lo w Q r) : w.ownsRow lo 40 1 (.slice Q.ac r.cells.length Q.cc) r.cells.length (r.cells.map u64V) := h.cells
theorem PlayQ.outsR {lo : Nat} {w : World} {Q : SL} {r : Rn Mch} (h : PlayQ lo w Q r) : w.ownsRow lo 32 1 (.slice Q.au Q.nu Q.cu) Q.nu Q.outi := by
  have := h.outs
  rw [show (Q.pv r).outi.length = Q.nu from h.out.2.trans h.out.1.symm] at this
  exact this
theorem PlayQ.hvR {lo : Nat} {w : World} {Q : SL} {r : Rn Mch} (h : PlayQ lo w Q r) : w.ownsRow lo 4 1 (.slice Q.ah r.ths.length Q.ch) r.ths.length ((haltL (srcK false) r.ths).map Value.bool) := by
  have := h.hv
  rw [haltL_len] at this
  exact this
theorem PlayQ.outAt {lo : Nat} {w : World} {Q : SL} {r : Rn Mch} (h : PlayQ lo w Q r) {t : Nat} {l : List Nat} (hl : r.outs[t]? = some l) : ∃ A c, Q.outi[t]? = some (.slice A l.length c) ∧ w.ownsRow lo 40 1 (.slice A l.length c) l.length (l.map u64V) := by
  have h1 := h.outi t
  have e : (toldR r).outs.getD t [] = l := by show r.outs.getD t [] = l; rw [List.getD_eq_getElem?_getD, hl]; rfl
  rw [e] at h1
  obtain ⟨A, c, hv, _⟩ := own_slice h1
  have hlt : t < Q.outi.length := by rw [h.out.2]; exact (List.getElem?_eq_some_iff.1 hl).1
  have e2 : Q.outi[t]? = some (Q.outi.getD t nilV) := by rw [List.getD_eq_getElem?_getD, List.getElem?_eq_getElem hlt]; rfl
  refine ⟨A, c, ?_, ?_⟩
  · rw [e2]; exact congrArg some hv
  · have h2 : w.ownsRow lo 40 1 (Q.outi.getD t nilV) l.length (l.map u64V) := h1
    rw [show Q.outi.getD t nilV = _ from hv] at h2
    exact h2
/-- The example's run. -/
def awakeB : Bool := match sourceS bufferP [0, 0, 0, 1, 1, 1] 100 false with
  | .ok r => r.used == 6 && r.events.length == 6 && r.cells.length == 2 && r.cells[0]? == some 1 && r.ths.length == 2 && haltL (srcK false) r.ths == [true, true] && r.outs.length == 2 && r.outs[1]? == some [1]
  | .error _ => false
theorem awakeB_true : awakeB = true := by decide +kernel
theorem awake_run : ∃ r, sourceS bufferP [0, 0, 0, 1, 1, 1] 100 false = .ok r ∧ r.used = 6 ∧ r.events.length = 6 ∧ r.cells.length = 2 ∧ r.cells[0]? = some 1 ∧ r.ths.length = 2 ∧ haltL (srcK false) r.ths = [true, true] ∧ r.outs.length = 2 ∧ r.outs[1]? = some [1] := by
  have h := awakeB_true
  unfold awakeB at h
  cases hr : sourceS bufferP [0, 0, 0, 1, 1, 1] 100 false with
  | error n => rw [hr] at h; cases h
  | ok r =>
    rw [hr] at h
    simp only [Bool.and_eq_true, beq_iff_eq] at h
    obtain ⟨⟨⟨⟨⟨⟨⟨h1, h2⟩, h3⟩, h4⟩, h5⟩, h6⟩, h7⟩, h8⟩ := h
    exact ⟨r, rfl, h1, h2, h3, h4, h5, h6, h7, h8⟩
theorem bufferV : ProgV bufferP := fun th hth a ha => by
  simp only [bufferP, List.mem_cons, List.not_mem_nil, or_false] at hth
  rcases hth with rfl | rfl <;> (simp only [bufActs, List.mem_cons, List.not_mem_nil, or_false] at ha; rcases ha with rfl | rfl | rfl <;> (refine ⟨?_, ?_, ?_⟩ <;> intro x hx <;> simp only [List.mem_cons, List.not_mem_nil, or_false] at hx <;> subst hx <;> decide))
theorem ints_blk {w : World} {g : Nat} {l : List Int} (h : Blk w g 3 (l.map (Value.int .i64)).toArray) : IntsAt w (some ⟨g, 0, none⟩) l := fun i p hp => by
  refine ⟨_, rfl, ?_⟩
  rw [show Addr.add ⟨g, 0, none⟩ i = ⟨g, i, none⟩ by unfold Addr.add; split <;> simp_all, h.cell]
  simp [hp]
set_option maxRecDepth 100000 in
set_option maxHeartbeats 0 in
theorem awake_any (w : World) : Calls Tryz.prog 8 #[] w fun e w' => e = .returned (.bool true) ∧ Below w.heap.size w w' := by
  have HBf := Lib.hid (Buffer_any w)
  obtain ⟨r, hr, h1, h2, h3, h4, h5, h6, h7, h8⟩ := awake_run
  have HSrc : ∀ w1 vt, ThreadsAt w1 vt bufferP.threads → Hid (Calls Tryz.prog 9 #[.agg #[.int .i64 2, vt], .slice (some ⟨w1.heap.size, 0, none⟩) 6 6, .int .i64 100] (w1.alloc (.cells #[.int .i64 0, .int .i64 0, .int .i64 0, .int .i64 1, .int .i64 1, .int .i64 1] 3)) fun e w' => SrcOk 2 r (w1.alloc (.cells #[.int .i64 0, .int .i64 0, .int .i64 0, .int .i64 1, .int .i64 1, .int .i64 1] 3)) e w') := fun w1 vt hth =>
    Lib.hid ((Source_any bufferP bufferV vt (by decide) [0, 0, 0, 1, 1, 1] (by decide) 100 (by decide) _ (hth.below (Kit.Below.al (Below.refl _ _) _)) (some ⟨w1.heap.size, 0, none⟩) 6 (ints_blk (Blk.new w1 _ _)) (fun ad had => by
      injection had with had
      subst had
      rw [sizeA]
      exact Nat.lt_succ_self _)).mono fun e w' h => source_ok hr h)
  clear hr
  have H1 := Lib.hid h1
  have H2 := Lib.hid h2
  have H3 := Lib.hid h3
  have H5 := Lib.hid h5
  clear h1 h2 h3 h5
  go_enter Tryz.func8, Tryz.ntmps8
  go_upto_region 2 with (first | (go_at_call 17; refine HBf.out.mono ?_; rintro e w1 ⟨vt, rfl, hth, hb1⟩; have HS1 := HSrc w1 vt hth) | (go_at_call 9; refine HS1.out.mono ?_; rintro e w2 ⟨hb2, Q, rfl, hP⟩))
  obtain ⟨w3, hw3⟩ : ∃ y, y = w2.alloc (.cells #[.int .i64 2, .slice Q.ae r.events.length Q.ce, .slice Q.af r.rf.length Q.cf, .slice Q.ao Q.no Q.co, .slice Q.am r.rmw.length Q.cm, .slice none 0 0, .slice none 0 0, .slice none 0 0, .slice Q.ac r.cells.length Q.cc, .slice Q.au Q.nu Q.cu, .slice Q.ah r.ths.length Q.ch, .int .i64 (r.used : Int)] 36) := ⟨_, rfl⟩
  have hX : Blk w3 w2.heap.size 36 #[.int .i64 2, .slice Q.ae r.events.length Q.ce, .slice Q.af r.rf.length Q.cf, .slice Q.ao Q.no Q.co, .slice Q.am r.rmw.length Q.cm, .slice none 0 0, .slice none 0 0, .slice none 0 0, .slice Q.ac r.cells.length Q.cc, .slice Q.au Q.nu Q.cu, .slice Q.ah r.ths.length Q.ch, .int .i64 (r.used : Int)] := by rw [hw3]; exact Blk.new _ _ _
  have hb23 : Below w2.heap.size w2 w3 := by rw [hw3]; exact Kit.Below.al (Below.refl _ _) _
  have hb3 : Below w.heap.size w w3 := Kit.Below.then (Kit.Below.then (Kit.Below.al hb1 _) hb2) hb23
  have hP3 := hP.below hb23
  rw [← hw3]
  clear hw3 hb23 hP hb2 HS1 HSrc hth hb1 HBf
  generalize w2.heap.size = gx at *
  obtain ⟨ho1, ho2⟩ := hP3.out
  obtain ⟨gc, hac, _, _, _, _, hcc⟩ := row_at hP3.cellsR (by rw [H3.out]; decide)
  obtain ⟨gh, hah, _, _, _, _, hch⟩ := row_at hP3.hvR (by rw [H5.out]; decide)
  have hou := hP3.outsR
  obtain ⟨go_, hau, _, _, _, _, hco⟩ := row_at hou (by rw [ho1, h7]; decide)
  obtain ⟨A1, c1, he1, hr1⟩ := hP3.outAt h8
  obtain ⟨g1, rfl, _, _, _, _, hc1⟩ := row_at hr1 (by decide)
  have k11 : w3.cell? ⟨gx, 11, none⟩ = some (.int .i64 6) := by rw [hX.cell 11, ← show ((r.used : Nat) : Int) = 6 by rw [H1.out]; rfl]; rfl
  have k1 : w3.cell? ⟨gx, 1, none⟩ = some (.slice Q.ae 6 Q.ce) := by rw [hX.cell 1, ← H2.out]; rfl
  have k8 : w3.cell? ⟨gx, 8, none⟩ = some (.slice (some ⟨gc, 0, none⟩) 2 Q.cc) := by rw [hX.cell 8, ← H3.out, ← hac]; rfl
  have k9 : w3.cell? ⟨gx, 9, none⟩ = some (.slice (some ⟨go_, 0, none⟩) 2 Q.cu) := by rw [hX.cell 9, ← h7, ← ho1, ← hau]; rfl
  have k10 : w3.cell? ⟨gx, 10, none⟩ = some (.slice (some ⟨gh, 0, none⟩) 2 Q.ch) := by rw [hX.cell 10, ← H5.out, ← hah]; rfl
  have kc : w3.cell? ⟨gc, 0, none⟩ = some (.int .u64 1) := hcc 0 _ (by show (r.cells.map u64V)[0]? = _; rw [List.getElem?_map, h4]; rfl)
  have kh : w3.cell? ⟨gh, 1, none⟩ = some (.bool true) := hch 1 _ (by rw [h6]; rfl)
  have ko : w3.cell? ⟨go_, 1, none⟩ = some (.slice (some ⟨g1, 0, none⟩) 1 c1) := hco 1 _ he1
  have k1' : w3.cell? ⟨g1, 0, none⟩ = some (.int .u64 1) := hc1 0 _ rfl
  clear hcc hch hco hc1 he1 hr1 hou hau hah hac ho1 ho2 hX hP3 h4 h6 h7 h8
  go_wp2_with fail
  go_ret
  exact ⟨rfl, hb3⟩
end Go.Proofs.YtmjilfamjlnigaaGreat.LawW
