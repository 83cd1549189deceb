/- WALKS: a graph of so many events is told, one more is not: the law StepsLimit. -/
import Derived.Test.YtmjilfamjlnigaaGreatQ34
namespace Go.Proofs.YtmjilfamjlnigaaGreat.LawW
open Go Go.RowKit Go.Proofs.YtmjilfamjlnigaaGreat.Kit Go.Proofs.YtmjilfamjlnigaaGreat.SrcP Go.Proofs.YtmjilfamjlnigaaGreat.SrcW Go.Proofs.YtmjilfamjlnigaaGreat.MchW Go.Proofs.YtmjilfamjlnigaaGreat.OwnR Go.Proofs.YtmjilfamjlnigaaGreat.NewW Go.Proofs.YtmjilfamjlnigaaGreat.RunW

def limB : Bool := (match sourceS limitP (List.replicate 255 0) 1000 false with
  | .ok r => r.events.length == 256 && r.ths.length == 1 && haltL (srcK false) r.ths == [false]
  | .error _ => false) && (match sourceS limitP (List.replicate 300 0) 1000 false with
  | .ok _ => false
  | .error n => n == 2) && (match sourceS limitP (List.replicate 300 0) 255 false with
  | .ok r => r.used == 255
  | .error _ => false)
theorem limB_true : limB = true := by decide +kernel
theorem lim_runs : (∃ r, sourceS limitP (List.replicate 255 0) 1000 false = .ok r ∧ r.events.length = 256 ∧ r.ths.length = 1 ∧ haltL (srcK false) r.ths = [false]) ∧ sourceS limitP (List.replicate 300 0) 1000 false = .error 2 ∧ (∃ r, sourceS limitP (List.replicate 300 0) 255 false = .ok r ∧ r.used = 255) := by
  have h := limB_true
  unfold limB at h
  simp only [Bool.and_eq_true] at h
  obtain ⟨⟨h1, h2⟩, h3⟩ := h
  refine ⟨?_, ?_, ?_⟩
  · cases hr : sourceS limitP (List.replicate 255 0) 1000 false with
    | error n => rw [hr] at h1; cases h1
    | ok r =>
      rw [hr] at h1
      simp only [Bool.and_eq_true, beq_iff_eq] at h1
      exact ⟨r, rfl, h1.1.1, h1.1.2, h1.2⟩
  · cases hr : sourceS limitP (List.replicate 300 0) 1000 false with
    | ok r => rw [hr] at h2; cases h2
    | error n => rw [hr] at h2; simp only [beq_iff_eq] at h2; rw [h2]
  · cases hr : sourceS limitP (List.replicate 300 0) 255 false with
    | error n => rw [hr] at h3; cases h3
    | ok r =>
      rw [hr] at h3
      simp only [beq_iff_eq] at h3
      exact ⟨r, rfl, h3⟩
theorem limitV : ProgV limitP := fun th hth a ha => by
  simp only [limitP, List.mem_cons, List.not_mem_nil, or_false] at hth
  subst hth
  simp only [List.mem_replicate] at ha
  rw [ha.2]
  exact ⟨fun x hx => (by cases hx), fun x hx => (by cases hx), fun x hx => (by cases hx)⟩
def fenceC : List Value := [.int .i64 7, .int .i64 0, .int .i64 0, .int .i64 0, .slice none 0 0, .slice none 0 0, .slice none 0 0, .int .i64 5, .int .i64 0, .int .i64 0, .int .i64 0]
theorem fenceC_one : ∀ u ∈ fenceC, u.oneCell' = true := by decide
theorem flat_succ (k : Nat) (l : List Value) : (List.replicate k l).flatten ++ l = (List.replicate (k + 1) l).flatten := by simp [List.replicate_succ']
theorem fence_acts : ∀ k : Nat, (List.replicate k fenceC).flatten = actsC (List.replicate k fenceA) (List.replicate k (nilV, nilV, nilV))
  | 0 => rfl
  | k + 1 => by
    rw [List.replicate_succ, List.replicate_succ, List.replicate_succ, actsC_cons, List.flatten_cons, fence_acts k]
    rfl
theorem own_ints {w : World} {lo n c : Nat} {A : Option Addr} {l : List Int} (h : w.ownsRow lo 3 1 (.slice A n c) n (l.map (Value.int .i64))) (hn : n = l.length) : IntsAt w A l := fun i x hi => by
  have hil := (List.getElem?_eq_some_iff.1 hi).1
  obtain ⟨g, hA, _, _, _, _, hc⟩ := row_at h (by omega)
  refine ⟨_, hA, ?_⟩
  rw [show Addr.add ⟨g, 0, none⟩ i = ⟨g, i, none⟩ by unfold Addr.add; split <;> simp_all]
  exact hc i _ (by rw [List.getElem?_map, hi]; rfl)
def LimR1 (w : World) (mm : Nat) (s1 s2 : Value) (wr : World) : Prop :=
  ∃ (k : Nat) (A : Option Addr) (c : Nat), s1 = .slice A k c ∧ s2 = .int .i64 k ∧ k ≤ 256 ∧ mm = 256 - k ∧ wr.ownsRow w.heap.size 58 11 (.slice A k c) k (List.replicate k fenceC).flatten ∧ Below w.heap.size w wr
def LimR2 (w : World) (va : Value) (gT gP : Nat) (mm : Nat) (s4 s5 : Value) (wr : World) : Prop :=
  ∃ (k : Nat) (A : Option Addr) (c : Nat), s4 = .slice A k c ∧ s5 = .int .i64 k ∧ k ≤ 300 ∧ mm = 300 - k ∧ wr.ownsRow w.heap.size 3 1 (.slice A k c) k ((List.replicate k (0 : Int)).map (Value.int .i64)) ∧ Below w.heap.size w wr ∧
    Blk wr gT 60 #[.int .i64 0, va] ∧ ActsS wr va (List.replicate 256 fenceA) ∧ Blk wr gP 24 #[.int .i64 1, .slice (some ⟨gT, 0, none⟩) 1 1]
set_option maxRecDepth 100000 in
set_option maxHeartbeats 0 in
theorem StepsLimit_any (w : World) : Calls Tryz.prog 5 #[] w fun e w' => e = .returned (.bool true) ∧ Below w.heap.size w w' := by
  have hml : (16 * 1048576 : Nat) ≤ maxLen := by decide
  have HAW := Lib.hid (awake_any w)
  go_enter Tryz.func5, Tryz.ntmps5
  go_upto_region 4 with (go_at_call 8; refine HAW.out.mono ?_; rintro e w1 ⟨rfl, hb1⟩)
  clear HAW
  go_upto_region 5 with fail
  go_loopg [1, 2] 256 (fun mm s1 s2 wr => LimR1 w mm s1 s2 wr)
  case atStart => exact ⟨0, none, 0, rfl, rfl, Nat.zero_le _, rfl, ⟨by simp, .inl ⟨rfl, rfl⟩⟩, hb1⟩
  case round =>
    obtain ⟨k, A, c, rfl, rfl, hk, hmm, hown, hb⟩ := hrel
    have HM := Lib.hid hmm
    clear hmm hb1
    by_cases hke : k < 256
    · have q1 : (k : Int) < 256 := by omega
      obtain ⟨i0, hi0, hz0, hz1, hz2⟩ := info_parts info_act
      have hN6 : Blk (wr.alloc (.cells #[.int .i64 7, .int .i64 0, .int .i64 0, .int .i64 0, .slice none 0 0, .slice none 0 0, .slice none 0 0, .int .i64 5, .int .i64 0, .int .i64 0, .int .i64 0] 58)) wr.heap.size 58 (List.toArray fenceC) := Blk.new wr _ _
      have hb6 : Below wr.heap.size wr (wr.alloc (.cells #[.int .i64 7, .int .i64 0, .int .i64 0, .int .i64 0, .slice none 0 0, .slice none 0 0, .slice none 0 0, .int .i64 5, .int .i64 0, .int .i64 0, .int .i64 0] 58)) := Kit.Below.al (Below.refl _ _) _
      have HEO := Lib.hid (own_below hown hb6)
      have hbs6 := Nat.le_trans hb.size hb6.size
      clear hown
      go_wp2_with (at_builtin; refine wpList_append_lies _ (by rfl) _ _ _ (by rfl) w.heap.size 58 i0 _ 11 136 Tryz.underlying55 hi0 hz0 hz1 hz2 rfl (by omega) _ k _ (by rfl) HEO.out ⟨wr.heap.size, 0, none⟩ 1 1 fenceC (by rfl) rfl (news_one hN6) fenceC_one (by omega) (by omega) (by omega) hbs6 _ rfl ?_; intro g8 cap8 w8 hown8 hgrow8 hat8 hlt8)
      rw [flat_succ] at hown8
      have hb8 := (Kit.Below.then hb hb6).grown hgrow8 hbs6 (fun k hk => OwnR.own_base HEO.out hk)
      clear hgrow8 hat8 hlt8 HEO hN6 hb6 hbs6 hi0 hz0 hz1 hz2
      go_roundg (256 - (k + 1))
      case measure => have := HM.out; omega
      case rel => exact ⟨k + 1, _, _, rfl, by push_cast; rfl, hke, rfl, hown8, hb8⟩
    · obtain rfl : k = 256 := by omega
      clear hke hk HM
      have hac : ActsS wr (.slice A 256 c) (List.replicate 256 fenceA) := by
        refine acts_own (l := List.replicate 256 fenceA) (vs := List.replicate 256 (nilV, nilV, nilV)) (B := A) (d := c) (base := w.heap.size) ?_ (by simp) (fun i a t hi ht => ?_) (fun a ha => ?_)
        · rw [← fence_acts, List.length_replicate]; exact hown
        · obtain rfl := (List.mem_replicate.1 (List.mem_of_getElem? hi)).2
          obtain rfl := (List.mem_replicate.1 (List.mem_of_getElem? ht)).2
          have hnl : NodesS wr nilV [] := nodes_nil wr
          have hno : NilOk nilV := fun n c h => by injection h with _ _ h; exact h.symm
          exact ⟨⟨hnl, hnl, hnl⟩, hno, hno, hno⟩
        · obtain rfl := (List.mem_replicate.1 ha).2
          exact ⟨by simp [fenceA], by simp [fenceA], by simp [fenceA]⟩
      have hnil : NilOk (.slice A 256 c) := by
        obtain ⟨g, rfl, _⟩ := row_at hown (by decide)
        intro n' c' h
        injection h with h
        cases h
      clear hown
      go_upto_region 9 with fail
      obtain ⟨w2, hw2⟩ : ∃ y, y = (wr.alloc (.cells #[.int .i64 0, .slice A 256 c] 60)).alloc (.cells #[.int .i64 1, .slice (some ⟨wr.heap.size, 0, none⟩) 1 1] 24) := ⟨_, rfl⟩
      have hb2 : Below wr.heap.size wr w2 := by rw [hw2]; exact Kit.Below.al (Kit.Below.al (Below.refl _ _) _) _
      have hT2 : Blk w2 wr.heap.size 60 #[.int .i64 0, .slice A 256 c] := by rw [hw2]; exact (Blk.new wr _ _).alloc _
      have hP2 : Blk w2 (wr.heap.size + 1) 24 #[.int .i64 1, .slice (some ⟨wr.heap.size, 0, none⟩) 1 1] := by rw [hw2]; exact Blk.newAt (sizeA wr _) _ _
      have hac2 := hac.still (Still.below hb2)
      have hbw2 := Kit.Below.then hb hb2
      rw [← hw2]
      clear hw2 hac
      obtain ⟨gP, hgP⟩ : ∃ y, y = wr.heap.size + 1 := ⟨_, rfl⟩
      have hgTw : w.heap.size ≤ wr.heap.size := hb.size
      have hgPw : w.heap.size ≤ gP := by omega
      rw [← hgP] at hP2 ⊢
      clear hgP hb2 hb
      generalize wr.heap.size = gT at *
      generalize Value.slice A 256 c = va at *
      go_upto_region 11 with fail
      go_loopg [4, 5] 300 (fun mm s4 s5 wr => LimR2 w va gT gP mm s4 s5 wr)
      case atStart => exact ⟨0, none, 0, rfl, rfl, Nat.zero_le _, rfl, ⟨by simp, .inl ⟨rfl, rfl⟩⟩, hbw2, hT2, hac2, hP2⟩
      case round =>
        obtain ⟨k, A, c, rfl, rfl, hk, hmm, hown, hb, hT, hac, hP⟩ := hrel
        have HM := Lib.hid hmm
        clear hmm hbw2 hT2 hac2 hP2
        by_cases hke : k < 300
        · have q1 : (k : Int) < 300 := by omega
          obtain ⟨i0, hi0, hz0, hz1, hz2⟩ := info_parts RunW.info_int
          have hN6 : Blk (wr.alloc (.cells #[.int .i64 0] 3)) wr.heap.size 3 (List.toArray [.int .i64 0]) := Blk.new wr _ _
          have hb6 : Below wr.heap.size wr (wr.alloc (.cells #[.int .i64 0] 3)) := Kit.Below.al (Below.refl _ _) _
          have HEO := Lib.hid (own_below hown hb6)
          have hbs6 := Nat.le_trans hb.size hb6.size
          clear hown
          go_wp2_with (at_builtin; refine wpList_append_lies _ (by rfl) _ _ _ (by rfl) w.heap.size 3 i0 _ 1 8 Tryz.underlying25 hi0 hz0 hz1 hz2 rfl (by omega) _ k _ (by rfl) HEO.out ⟨wr.heap.size, 0, none⟩ 1 1 [.int .i64 0] (by rfl) rfl (news_one hN6) (RunW.one_one rfl) (by omega) (by omega) (by omega) hbs6 _ rfl ?_; intro g8 cap8 w8 hown8 hgrow8 hat8 hlt8)
          have he : (List.replicate k (0 : Int)).map (Value.int .i64) ++ [.int .i64 0] = (List.replicate (k + 1) (0 : Int)).map (Value.int .i64) := by simp [List.replicate_succ']
          rw [he] at hown8
          have hb8 := (Kit.Below.then hb hb6).grown hgrow8 hbs6 (fun k hk => OwnR.own_base HEO.out hk)
          have hT8 := (hT.below' hb6).grown hgrow8 (fun h => OwnR.own_type HEO.out (hT.below' hb6) (by decide) h)
          have hP8 := (hP.below' hb6).grown hgrow8 (fun h => OwnR.own_type HEO.out (hP.below' hb6) (by decide) h)
          have hac8 := (hac.still (Still.below hb6)).still (still_own HEO.out (by unfold TA; decide) hgrow8)
          clear hgrow8 hat8 hlt8 HEO hN6 hb6 hbs6 hi0 hz0 hz1 hz2 hT hac hP he
          go_roundg (300 - (k + 1))
          case measure => have := HM.out; omega
          case rel => exact ⟨k + 1, _, _, rfl, by push_cast; rfl, hke, rfl, hown8, hb8, hT8, hac8, hP8⟩
        · obtain rfl : k = 300 := by omega
          clear hke hk HM
          have hth : ThreadsAt wr (.slice (some ⟨gT, 0, none⟩) 1 1) limitP.threads := by
            refine threads_own (base := w.heap.size) (ths := limitP.threads) (vas := [va]) rfl ⟨rfl, .inr ⟨gT, 1, _, rfl, hgTw, hT, Nat.le_refl _, by decide, rfl, rfl⟩⟩ (fun i th v hi hv => ?_)
            match i, hi, hv with
            | 0, hi, hv => cases hi; cases hv; exact ⟨hac, hnil, by simp⟩
            | i + 1, hi, hv => simp at hv
          have hI : IntsAt wr A (List.replicate 300 0) := own_ints hown (by simp)
          obtain ⟨gi, rfl, hgi, _, hc300, _, _⟩ := row_at hown (by decide)
          have hAl : ∀ ad, some (⟨gi, 0, none⟩ : Addr) = some ad → ad.block < wr.heap.size := fun ad h => by injection h with h; subst h; exact hgi
          have hI2 : IntsAt wr (some ⟨gi, 0, none⟩) (List.replicate 255 0) := fun i x hi => hI i x (by
            have := List.getElem?_replicate (n := 255) (a := (0 : Int)) (i := i)
            rw [hi] at this
            rw [List.getElem?_replicate]
            split at this
            · rw [if_pos (by omega)]; exact this.symm
            · cases this)
          obtain ⟨⟨r1, hr1, h11, h12, h13⟩, hr2, ⟨r3, hr3, h31⟩⟩ := lim_runs
          have HS1 : ∀ w2, Below wr.heap.size wr w2 → Hid (Calls Tryz.prog 9 #[.agg #[.int .i64 1, .slice (some ⟨gT, 0, none⟩) 1 1], .slice (some ⟨gi, 0, none⟩) 255 c, .int .i64 1000] w2 fun e w' => SrcOk 1 r1 w2 e w') := fun w2 hb2 =>
            Lib.hid ((Source_any limitP limitV _ (by decide) (List.replicate 255 0) (by simp) 1000 (by decide) w2 (hth.below hb2) (some ⟨gi, 0, none⟩) c (ints_below hI2 hAl hb2) (fun ad h => Nat.lt_of_lt_of_le (hAl ad h) hb2.size)).mono fun e w' h => source_ok hr1 h)
          have HS2 : ∀ w2, Below wr.heap.size wr w2 → Hid (Calls Tryz.prog 9 #[.agg #[.int .i64 1, .slice (some ⟨gT, 0, none⟩) 1 1], .slice (some ⟨gi, 0, none⟩) 300 c, .int .i64 1000] w2 fun e w' => Below w2.heap.size w2 w' ∧ e = .returned (.tuple #[.agg #[.int .i64 0, .slice none 0 0, .slice none 0 0, .slice none 0 0, .slice none 0 0, .slice none 0 0, .slice none 0 0, .slice none 0 0, .slice none 0 0, .slice none 0 0, .slice none 0 0, .int .i64 0], .int .i64 2])) := fun w2 hb2 =>
            Lib.hid ((Source_any limitP limitV _ (by decide) (List.replicate 300 0) (by simp) 1000 (by decide) w2 (hth.below hb2) (some ⟨gi, 0, none⟩) c (ints_below hI hAl hb2) (fun ad h => Nat.lt_of_lt_of_le (hAl ad h) hb2.size)).mono fun e w' h => source_no hr2 h)
          have HS3 : ∀ w2, Below wr.heap.size wr w2 → Hid (Calls Tryz.prog 9 #[.agg #[.int .i64 1, .slice (some ⟨gT, 0, none⟩) 1 1], .slice (some ⟨gi, 0, none⟩) 300 c, .int .i64 255] w2 fun e w' => SrcOk 1 r3 w2 e w') := fun w2 hb2 =>
            Lib.hid ((Source_any limitP limitV _ (by decide) (List.replicate 300 0) (by simp) 255 (by decide) w2 (hth.below hb2) (some ⟨gi, 0, none⟩) c (ints_below hI hAl hb2) (fun ad h => Nat.lt_of_lt_of_le (hAl ad h) hb2.size)).mono fun e w' h => source_ok hr3 h)
          have H11 := Lib.hid h11
          have H12 := Lib.hid h12
          have H13 := Lib.hid h13
          have H31 := Lib.hid h31
          clear hr1 hr2 hr3 h11 h12 h13 h31 hI hI2 hAl hth hT hac hown hnil
          have q1 : (255 : Int) ≤ (c : Int) := by omega
          have q2 : (0 : Int) ≤ 255 := by decide
          have q3 : 255 ≤ c := by omega
          have c0 : ∀ p : Cls (Below wr.heap.size wr), p.w.cell? ⟨gP, 0, none⟩ = some (.int .i64 1) := fun p => hP.cls 0 p
          have c1 : ∀ p : Cls (Below wr.heap.size wr), p.w.cell? ⟨gP, 1, none⟩ = some (.slice (some ⟨gT, 0, none⟩) 1 1) := fun p => hP.cls 1 p
          have hbd : Below wr.heap.size wr (World.drewN wr 1) := Below_drewN _ 1
          have hne : Nonempty (Cls (Below wr.heap.size wr)) := ⟨⟨wr, Below.refl _ _⟩⟩
          go_upto_region 14 with fail
          refine wp_region_float_go (fun w' => ∃ p : Cls (Below wr.heap.size wr), w' = p.w) 10 (by kernel_rfl) rfl ?_
          refine floatG_reads 7 [0, 1, 2] ⟨⟨_, hbd⟩, rfl⟩ rfl (by kernel_rfl) ?_
          simp only [pickL, List.map_cons, List.map_nil, List.getElem?_cons_succ, List.getElem?_cons_zero, Option.getD_some]
          repeat (go_big_quiet_step (fail))
          refine wpQuiet_nil ?_
          clear c0 c1
          generalize World.drewN wr 1 = wd at *
          refine floatG_two (i := 3) (i' := 7) (by kernel_rfl) (by decide) (by decide) rfl rfl ?_ ?_
          · have HS10 := HS1 wd hbd
            go_wp2_with (go_at_call 9; refine HS10.out.mono ?_; rintro e w2 ⟨hb2, Q1, rfl, hP1⟩)
            clear HS10
            have hbd2 := Kit.Below.then hbd hb2
            refine onG_mk (fun _ => ⟨⟨_, hbd2⟩, rfl⟩) ?_
            refine floatG_reads 3 [4, 5, 6] ⟨⟨_, hbd2⟩, rfl⟩ rfl (by kernel_rfl) ?_
            simp only [pickL, List.map_cons, List.map_nil, List.getElem?_cons_succ, List.getElem?_cons_zero, Option.getD_some]
            repeat (go_big_quiet_step (fail))
            refine wpQuiet_nil ?_
            refine floatG_one (i := 7) (by kernel_rfl) (by decide) rfl ?_
            go_wp2_with fail
            have hZ : Blk (w2.alloc (.cells #[.int .i64 0, .slice none 0 0, .slice none 0 0, .slice none 0 0, .slice none 0 0, .slice none 0 0, .slice none 0 0, .slice none 0 0, .slice none 0 0, .slice none 0 0, .slice none 0 0, .int .i64 0] 36)) w2.heap.size 36 play0 := Blk.new w2 _ _
            have hb2z : Below w2.heap.size w2 (w2.alloc (.cells #[.int .i64 0, .slice none 0 0, .slice none 0 0, .slice none 0 0, .slice none 0 0, .slice none 0 0, .slice none 0 0, .slice none 0 0, .slice none 0 0, .slice none 0 0, .slice none 0 0, .int .i64 0] 36)) := Kit.Below.al (Below.refl _ _) _
            have hPz := hP1.below hb2z
            have hbz := Kit.Below.then hbd2 hb2z
            have hgx : wr.heap.size ≤ w2.heap.size := hbd2.size
            generalize w2.alloc (.cells #[.int .i64 0, .slice none 0 0, .slice none 0 0, .slice none 0 0, .slice none 0 0, .slice none 0 0, .slice none 0 0, .slice none 0 0, .slice none 0 0, .slice none 0 0, .slice none 0 0, .int .i64 0] 36) = wz at *
            clear hP1 hb2z hbd2 hb2
            generalize w2.heap.size = gx at *
            refine onG_mk (fun _ => ⟨⟨_, hbz⟩, rfl⟩) ?_
            refine floatG_one (i := 8) (by kernel_rfl) (by decide) rfl ?_
            have q0 : wz.cell? ⟨gx, 0, none⟩ = some (.int .i64 0) := hZ.cell 0
            have q1 : wz.cell? ⟨gx, 1, none⟩ = some (.slice none 0 0) := hZ.cell 1
            have q2 : wz.cell? ⟨gx, 2, none⟩ = some (.slice none 0 0) := hZ.cell 2
            have q3 : wz.cell? ⟨gx, 3, none⟩ = some (.slice none 0 0) := hZ.cell 3
            have q4 : wz.cell? ⟨gx, 4, none⟩ = some (.slice none 0 0) := hZ.cell 4
            have q5 : wz.cell? ⟨gx, 5, none⟩ = some (.slice none 0 0) := hZ.cell 5
            have q6 : wz.cell? ⟨gx, 6, none⟩ = some (.slice none 0 0) := hZ.cell 6
            have q7 : wz.cell? ⟨gx, 7, none⟩ = some (.slice none 0 0) := hZ.cell 7
            have q8 : wz.cell? ⟨gx, 8, none⟩ = some (.slice none 0 0) := hZ.cell 8
            have q9 : wz.cell? ⟨gx, 9, none⟩ = some (.slice none 0 0) := hZ.cell 9
            have q10 : wz.cell? ⟨gx, 10, none⟩ = some (.slice none 0 0) := hZ.cell 10
            have q11 : wz.cell? ⟨gx, 11, none⟩ = some (.int .i64 0) := hZ.cell 11
            have kf := fun i => hZ.frozen i
            go_wp2_with fail
            clear kf q0 q1 q2 q3 q4 q5 q6 q7 q8 q9 q10 q11
            refine (show onG _ _ _ _ _ (putL wz gx 0 [.int .i64 1, .slice Q1.ae r1.events.length Q1.ce, .slice Q1.af r1.rf.length Q1.cf, .slice Q1.ao Q1.no Q1.co, .slice Q1.am r1.rmw.length Q1.cm, .slice none 0 0, .slice none 0 0, .slice none 0 0, .slice Q1.ac r1.cells.length Q1.cc, .slice Q1.au Q1.nu Q1.cu, .slice Q1.ah r1.ths.length Q1.ch, .int .i64 (r1.used : Int)]) from ?_)
            have hX := putL_all hZ [.int .i64 1, .slice Q1.ae r1.events.length Q1.ce, .slice Q1.af r1.rf.length Q1.cf, .slice Q1.ao Q1.no Q1.co, .slice Q1.am r1.rmw.length Q1.cm, .slice none 0 0, .slice none 0 0, .slice none 0 0, .slice Q1.ac r1.cells.length Q1.cc, .slice Q1.au Q1.nu Q1.cu, .slice Q1.ah r1.ths.length Q1.ch, .int .i64 (r1.used : Int)] rfl
            have hkx := putL_kept (g := gx) [.int .i64 1, .slice Q1.ae r1.events.length Q1.ce, .slice Q1.af r1.rf.length Q1.cf, .slice Q1.ao Q1.no Q1.co, .slice Q1.am r1.rmw.length Q1.cm, .slice none 0 0, .slice none 0 0, .slice none 0 0, .slice Q1.ac r1.cells.length Q1.cc, .slice Q1.au Q1.nu Q1.cu, .slice Q1.ah r1.ths.length Q1.ch, .int .i64 (r1.used : Int)] wz 0
            have hPx := hPz.else_ hZ hkx (fun k hk => hk)
            have hbx := NewW.kept_below hbz hkx (fun j hj => by rw [hj]; exact hgx)
            generalize putL wz gx 0 [.int .i64 1, .slice Q1.ae r1.events.length Q1.ce, .slice Q1.af r1.rf.length Q1.cf, .slice Q1.ao Q1.no Q1.co, .slice Q1.am r1.rmw.length Q1.cm, .slice none 0 0, .slice none 0 0, .slice none 0 0, .slice Q1.ac r1.cells.length Q1.cc, .slice Q1.au Q1.nu Q1.cu, .slice Q1.ah r1.ths.length Q1.ch, .int .i64 (r1.used : Int)] = w4 at *
            clear hZ hPz hkx hbz
            refine onG_mk (fun _ => ⟨⟨_, hbx⟩, rfl⟩) ?_
            refine floatG_one (i := 9) (by kernel_rfl) (by decide) rfl ?_
            go_wp2_with fail
            refine onG_mk (fun _ => ⟨⟨_, hbx⟩, rfl⟩) ?_
            refine (show tailG _ _ _ _ _ _ _ from ⟨by kernel_rfl, ?_⟩)
            simp only [List.drop_succ_cons, List.drop_nil]
            have hP4 := hP.below' hbx
            have k0 : w4.cell? ⟨gP, 0, none⟩ = some (.int .i64 1) := hP4.cell 0
            have k1 : w4.cell? ⟨gP, 1, none⟩ = some (.slice (some ⟨gT, 0, none⟩) 1 1) := hP4.cell 1
            have HS20 := HS2 w4 hbx
            go_upto_region 16 with (go_at_call 9; refine HS20.out.mono ?_; rintro e w5 ⟨hb5, rfl⟩)
            clear k0 k1 HS20
            obtain ⟨w6, hw6⟩ : ∃ y, y = w5.alloc (.cells #[.int .i64 0, .slice none 0 0, .slice none 0 0, .slice none 0 0, .slice none 0 0, .slice none 0 0, .slice none 0 0, .slice none 0 0, .slice none 0 0, .slice none 0 0, .slice none 0 0, .int .i64 0] 36) := ⟨_, rfl⟩
            have hY : Blk w6 w5.heap.size 36 #[.int .i64 0, .slice none 0 0, .slice none 0 0, .slice none 0 0, .slice none 0 0, .slice none 0 0, .slice none 0 0, .slice none 0 0, .slice none 0 0, .slice none 0 0, .slice none 0 0, .int .i64 0] := by rw [hw6]; exact Blk.new _ _ _
            have hb46 : Below w4.heap.size w4 w6 := by rw [hw6]; exact Kit.Below.al hb5 _
            rw [← hw6]
            clear hw6 hb5
            generalize w5.heap.size = gy at *
            have hb6 := Kit.Below.then hbx hb46
            have hX6 := hX.below' hb46
            have hPx6 := hPx.below hb46
            have hP6 := hP.below' hb6
            clear hX hPx hP4 hb46
            have k0 : w6.cell? ⟨gP, 0, none⟩ = some (.int .i64 1) := hP6.cell 0
            have k1 : w6.cell? ⟨gP, 1, none⟩ = some (.slice (some ⟨gT, 0, none⟩) 1 1) := hP6.cell 1
            have HS30 := HS3 w6 hb6
            go_upto_region 17 with (go_at_call 9; refine HS30.out.mono ?_; rintro e w7 ⟨hb7, Q3, rfl, _⟩)
            clear k0 k1 HS30
            obtain ⟨w8, hw8⟩ : ∃ y, y = w7.alloc (.cells #[.int .i64 1, .slice Q3.ae r3.events.length Q3.ce, .slice Q3.af r3.rf.length Q3.cf, .slice Q3.ao Q3.no Q3.co, .slice Q3.am r3.rmw.length Q3.cm, .slice none 0 0, .slice none 0 0, .slice none 0 0, .slice Q3.ac r3.cells.length Q3.cc, .slice Q3.au Q3.nu Q3.cu, .slice Q3.ah r3.ths.length Q3.ch, .int .i64 (r3.used : Int)] 36) := ⟨_, rfl⟩
            have hW : Blk w8 w7.heap.size 36 #[.int .i64 1, .slice Q3.ae r3.events.length Q3.ce, .slice Q3.af r3.rf.length Q3.cf, .slice Q3.ao Q3.no Q3.co, .slice Q3.am r3.rmw.length Q3.cm, .slice none 0 0, .slice none 0 0, .slice none 0 0, .slice Q3.ac r3.cells.length Q3.cc, .slice Q3.au Q3.nu Q3.cu, .slice Q3.ah r3.ths.length Q3.ch, .int .i64 (r3.used : Int)] := by rw [hw8]; exact Blk.new _ _ _
            have hb68 : Below w6.heap.size w6 w8 := by rw [hw8]; exact Kit.Below.al hb7 _
            rw [← hw8]
            clear hw8 hb7
            generalize w7.heap.size = gw at *
            have hb8 := Kit.Below.then hb6 hb68
            have hX8 := hX6.below' hb68
            have hPx8 := hPx6.below hb68
            have hY8 := hY.below' hb68
            clear hX6 hPx6 hP6 hb68 hY
            obtain ⟨gh, hah, _, _, _, _, hch⟩ := row_at hPx8.hvR (by rw [H12.out]; decide)
            have x1 : w8.cell? ⟨gx, 1, none⟩ = some (.slice Q1.ae 256 Q1.ce) := by rw [hX8.cell 1, ← H11.out]; rfl
            have x10 : w8.cell? ⟨gx, 10, none⟩ = some (.slice (some ⟨gh, 0, none⟩) 1 Q1.ch) := by rw [hX8.cell 10, ← H12.out, ← hah]; rfl
            have xh : w8.cell? ⟨gh, 0, none⟩ = some (.bool false) := hch 0 _ (by rw [H13.out]; rfl)
            have y0 : w8.cell? ⟨gy, 0, none⟩ = some (.int .i64 0) := hY8.cell 0
            have y1 : w8.cell? ⟨gy, 1, none⟩ = some (.slice none 0 0) := hY8.cell 1
            have y2 : w8.cell? ⟨gy, 2, none⟩ = some (.slice none 0 0) := hY8.cell 2
            have y3 : w8.cell? ⟨gy, 3, none⟩ = some (.slice none 0 0) := hY8.cell 3
            have y4 : w8.cell? ⟨gy, 4, none⟩ = some (.slice none 0 0) := hY8.cell 4
            have y5 : w8.cell? ⟨gy, 5, none⟩ = some (.slice none 0 0) := hY8.cell 5
            have y6 : w8.cell? ⟨gy, 6, none⟩ = some (.slice none 0 0) := hY8.cell 6
            have y7 : w8.cell? ⟨gy, 7, none⟩ = some (.slice none 0 0) := hY8.cell 7
            have y8 : w8.cell? ⟨gy, 8, none⟩ = some (.slice none 0 0) := hY8.cell 8
            have y9 : w8.cell? ⟨gy, 9, none⟩ = some (.slice none 0 0) := hY8.cell 9
            have y10 : w8.cell? ⟨gy, 10, none⟩ = some (.slice none 0 0) := hY8.cell 10
            have y11 : w8.cell? ⟨gy, 11, none⟩ = some (.int .i64 0) := hY8.cell 11
            clear hch hah hPx8 hX8 hY8
            have HEm := Lib.hid (Empty_any w8)
            go_wp2_with (go_at_call 14; refine HEm.out.mono ?_; rintro e w9 ⟨rfl, hb9⟩; have z11 : w9.cell? ⟨gw, 11, none⟩ = some (.int .i64 255) := by rw [(hW.below' hb9).cell 11, ← show ((r3.used : Nat) : Int) = 255 by rw [H31.out]; rfl]; rfl)
            go_ret
            exact ⟨rfl, Kit.Below.then (Kit.Below.then hb hb8) hb9⟩
          · go_wp2_with fail
            have hZ0 : Blk (wd.alloc (.cells #[.int .i64 0, .slice none 0 0, .slice none 0 0, .slice none 0 0, .slice none 0 0, .slice none 0 0, .slice none 0 0, .slice none 0 0, .slice none 0 0, .slice none 0 0, .slice none 0 0, .int .i64 0] 36)) wd.heap.size 36 play0 := Blk.new wd _ _
            have hb0 : Below wr.heap.size wr (wd.alloc (.cells #[.int .i64 0, .slice none 0 0, .slice none 0 0, .slice none 0 0, .slice none 0 0, .slice none 0 0, .slice none 0 0, .slice none 0 0, .slice none 0 0, .slice none 0 0, .slice none 0 0, .int .i64 0] 36)) := Kit.Below.al hbd _
            have hgx : wr.heap.size ≤ wd.heap.size := hbd.size
            generalize wd.alloc (.cells #[.int .i64 0, .slice none 0 0, .slice none 0 0, .slice none 0 0, .slice none 0 0, .slice none 0 0, .slice none 0 0, .slice none 0 0, .slice none 0 0, .slice none 0 0, .slice none 0 0, .int .i64 0] 36) = wa at *
            generalize wd.heap.size = gx at *
            refine onG_mk (fun _ => ⟨⟨_, hb0⟩, rfl⟩) ?_
            have HS10 := HS1 wa hb0
            refine floatG_one (i := 3) (by kernel_rfl) (by decide) rfl ?_
            go_wp2_with (go_at_call 9; refine HS10.out.mono ?_; rintro e wz ⟨hb2, Q1, rfl, hPz⟩)
            clear HS10
            have hZ := hZ0.below' hb2
            have hbz := Kit.Below.then hb0 hb2
            clear hZ0 hb0 hb2
            refine onG_mk (fun _ => ⟨⟨_, hbz⟩, rfl⟩) ?_
            refine floatG_reads 2 [4, 5, 6] ⟨⟨_, hbz⟩, rfl⟩ rfl (by kernel_rfl) ?_
            simp only [pickL, List.map_cons, List.map_nil, List.getElem?_cons_succ, List.getElem?_cons_zero, Option.getD_some]
            repeat (go_big_quiet_step (fail))
            refine wpQuiet_nil ?_
            refine floatG_one (i := 8) (by kernel_rfl) (by decide) rfl ?_
            have q0 : wz.cell? ⟨gx, 0, none⟩ = some (.int .i64 0) := hZ.cell 0
            have q1 : wz.cell? ⟨gx, 1, none⟩ = some (.slice none 0 0) := hZ.cell 1
            have q2 : wz.cell? ⟨gx, 2, none⟩ = some (.slice none 0 0) := hZ.cell 2
            have q3 : wz.cell? ⟨gx, 3, none⟩ = some (.slice none 0 0) := hZ.cell 3
            have q4 : wz.cell? ⟨gx, 4, none⟩ = some (.slice none 0 0) := hZ.cell 4
            have q5 : wz.cell? ⟨gx, 5, none⟩ = some (.slice none 0 0) := hZ.cell 5
            have q6 : wz.cell? ⟨gx, 6, none⟩ = some (.slice none 0 0) := hZ.cell 6
            have q7 : wz.cell? ⟨gx, 7, none⟩ = some (.slice none 0 0) := hZ.cell 7
            have q8 : wz.cell? ⟨gx, 8, none⟩ = some (.slice none 0 0) := hZ.cell 8
            have q9 : wz.cell? ⟨gx, 9, none⟩ = some (.slice none 0 0) := hZ.cell 9
            have q10 : wz.cell? ⟨gx, 10, none⟩ = some (.slice none 0 0) := hZ.cell 10
            have q11 : wz.cell? ⟨gx, 11, none⟩ = some (.int .i64 0) := hZ.cell 11
            have kf := fun i => hZ.frozen i
            go_wp2_with fail
            clear kf q0 q1 q2 q3 q4 q5 q6 q7 q8 q9 q10 q11
            refine (show onG _ _ _ _ _ (putL wz gx 0 [.int .i64 1, .slice Q1.ae r1.events.length Q1.ce, .slice Q1.af r1.rf.length Q1.cf, .slice Q1.ao Q1.no Q1.co, .slice Q1.am r1.rmw.length Q1.cm, .slice none 0 0, .slice none 0 0, .slice none 0 0, .slice Q1.ac r1.cells.length Q1.cc, .slice Q1.au Q1.nu Q1.cu, .slice Q1.ah r1.ths.length Q1.ch, .int .i64 (r1.used : Int)]) from ?_)
            have hX := putL_all hZ [.int .i64 1, .slice Q1.ae r1.events.length Q1.ce, .slice Q1.af r1.rf.length Q1.cf, .slice Q1.ao Q1.no Q1.co, .slice Q1.am r1.rmw.length Q1.cm, .slice none 0 0, .slice none 0 0, .slice none 0 0, .slice Q1.ac r1.cells.length Q1.cc, .slice Q1.au Q1.nu Q1.cu, .slice Q1.ah r1.ths.length Q1.ch, .int .i64 (r1.used : Int)] rfl
            have hkx := putL_kept (g := gx) [.int .i64 1, .slice Q1.ae r1.events.length Q1.ce, .slice Q1.af r1.rf.length Q1.cf, .slice Q1.ao Q1.no Q1.co, .slice Q1.am r1.rmw.length Q1.cm, .slice none 0 0, .slice none 0 0, .slice none 0 0, .slice Q1.ac r1.cells.length Q1.cc, .slice Q1.au Q1.nu Q1.cu, .slice Q1.ah r1.ths.length Q1.ch, .int .i64 (r1.used : Int)] wz 0
            have hPx := hPz.else_ hZ hkx (fun k hk => hk)
            have hbx := NewW.kept_below hbz hkx (fun j hj => by rw [hj]; exact hgx)
            generalize putL wz gx 0 [.int .i64 1, .slice Q1.ae r1.events.length Q1.ce, .slice Q1.af r1.rf.length Q1.cf, .slice Q1.ao Q1.no Q1.co, .slice Q1.am r1.rmw.length Q1.cm, .slice none 0 0, .slice none 0 0, .slice none 0 0, .slice Q1.ac r1.cells.length Q1.cc, .slice Q1.au Q1.nu Q1.cu, .slice Q1.ah r1.ths.length Q1.ch, .int .i64 (r1.used : Int)] = w4 at *
            clear hZ hPz hkx hbz
            refine onG_mk (fun _ => ⟨⟨_, hbx⟩, rfl⟩) ?_
            refine floatG_one (i := 9) (by kernel_rfl) (by decide) rfl ?_
            go_wp2_with fail
            refine onG_mk (fun _ => ⟨⟨_, hbx⟩, rfl⟩) ?_
            refine (show tailG _ _ _ _ _ _ _ from ⟨by kernel_rfl, ?_⟩)
            simp only [List.drop_succ_cons, List.drop_nil]
            have hP4 := hP.below' hbx
            have k0 : w4.cell? ⟨gP, 0, none⟩ = some (.int .i64 1) := hP4.cell 0
            have k1 : w4.cell? ⟨gP, 1, none⟩ = some (.slice (some ⟨gT, 0, none⟩) 1 1) := hP4.cell 1
            have HS20 := HS2 w4 hbx
            go_upto_region 16 with (go_at_call 9; refine HS20.out.mono ?_; rintro e w5 ⟨hb5, rfl⟩)
            clear k0 k1 HS20
            obtain ⟨w6, hw6⟩ : ∃ y, y = w5.alloc (.cells #[.int .i64 0, .slice none 0 0, .slice none 0 0, .slice none 0 0, .slice none 0 0, .slice none 0 0, .slice none 0 0, .slice none 0 0, .slice none 0 0, .slice none 0 0, .slice none 0 0, .int .i64 0] 36) := ⟨_, rfl⟩
            have hY : Blk w6 w5.heap.size 36 #[.int .i64 0, .slice none 0 0, .slice none 0 0, .slice none 0 0, .slice none 0 0, .slice none 0 0, .slice none 0 0, .slice none 0 0, .slice none 0 0, .slice none 0 0, .slice none 0 0, .int .i64 0] := by rw [hw6]; exact Blk.new _ _ _
            have hb46 : Below w4.heap.size w4 w6 := by rw [hw6]; exact Kit.Below.al hb5 _
            rw [← hw6]
            clear hw6 hb5
            generalize w5.heap.size = gy at *
            have hb6 := Kit.Below.then hbx hb46
            have hX6 := hX.below' hb46
            have hPx6 := hPx.below hb46
            have hP6 := hP.below' hb6
            clear hX hPx hP4 hb46
            have k0 : w6.cell? ⟨gP, 0, none⟩ = some (.int .i64 1) := hP6.cell 0
            have k1 : w6.cell? ⟨gP, 1, none⟩ = some (.slice (some ⟨gT, 0, none⟩) 1 1) := hP6.cell 1
            have HS30 := HS3 w6 hb6
            go_upto_region 17 with (go_at_call 9; refine HS30.out.mono ?_; rintro e w7 ⟨hb7, Q3, rfl, _⟩)
            clear k0 k1 HS30
            obtain ⟨w8, hw8⟩ : ∃ y, y = w7.alloc (.cells #[.int .i64 1, .slice Q3.ae r3.events.length Q3.ce, .slice Q3.af r3.rf.length Q3.cf, .slice Q3.ao Q3.no Q3.co, .slice Q3.am r3.rmw.length Q3.cm, .slice none 0 0, .slice none 0 0, .slice none 0 0, .slice Q3.ac r3.cells.length Q3.cc, .slice Q3.au Q3.nu Q3.cu, .slice Q3.ah r3.ths.length Q3.ch, .int .i64 (r3.used : Int)] 36) := ⟨_, rfl⟩
            have hW : Blk w8 w7.heap.size 36 #[.int .i64 1, .slice Q3.ae r3.events.length Q3.ce, .slice Q3.af r3.rf.length Q3.cf, .slice Q3.ao Q3.no Q3.co, .slice Q3.am r3.rmw.length Q3.cm, .slice none 0 0, .slice none 0 0, .slice none 0 0, .slice Q3.ac r3.cells.length Q3.cc, .slice Q3.au Q3.nu Q3.cu, .slice Q3.ah r3.ths.length Q3.ch, .int .i64 (r3.used : Int)] := by rw [hw8]; exact Blk.new _ _ _
            have hb68 : Below w6.heap.size w6 w8 := by rw [hw8]; exact Kit.Below.al hb7 _
            rw [← hw8]
            clear hw8 hb7
            generalize w7.heap.size = gw at *
            have hb8 := Kit.Below.then hb6 hb68
            have hX8 := hX6.below' hb68
            have hPx8 := hPx6.below hb68
            have hY8 := hY.below' hb68
            clear hX6 hPx6 hP6 hb68 hY
            obtain ⟨gh, hah, _, _, _, _, hch⟩ := row_at hPx8.hvR (by rw [H12.out]; decide)
            have x1 : w8.cell? ⟨gx, 1, none⟩ = some (.slice Q1.ae 256 Q1.ce) := by rw [hX8.cell 1, ← H11.out]; rfl
            have x10 : w8.cell? ⟨gx, 10, none⟩ = some (.slice (some ⟨gh, 0, none⟩) 1 Q1.ch) := by rw [hX8.cell 10, ← H12.out, ← hah]; rfl
            have xh : w8.cell? ⟨gh, 0, none⟩ = some (.bool false) := hch 0 _ (by rw [H13.out]; rfl)
            have y0 : w8.cell? ⟨gy, 0, none⟩ = some (.int .i64 0) := hY8.cell 0
            have y1 : w8.cell? ⟨gy, 1, none⟩ = some (.slice none 0 0) := hY8.cell 1
            have y2 : w8.cell? ⟨gy, 2, none⟩ = some (.slice none 0 0) := hY8.cell 2
            have y3 : w8.cell? ⟨gy, 3, none⟩ = some (.slice none 0 0) := hY8.cell 3
            have y4 : w8.cell? ⟨gy, 4, none⟩ = some (.slice none 0 0) := hY8.cell 4
            have y5 : w8.cell? ⟨gy, 5, none⟩ = some (.slice none 0 0) := hY8.cell 5
            have y6 : w8.cell? ⟨gy, 6, none⟩ = some (.slice none 0 0) := hY8.cell 6
            have y7 : w8.cell? ⟨gy, 7, none⟩ = some (.slice none 0 0) := hY8.cell 7
            have y8 : w8.cell? ⟨gy, 8, none⟩ = some (.slice none 0 0) := hY8.cell 8
            have y9 : w8.cell? ⟨gy, 9, none⟩ = some (.slice none 0 0) := hY8.cell 9
            have y10 : w8.cell? ⟨gy, 10, none⟩ = some (.slice none 0 0) := hY8.cell 10
            have y11 : w8.cell? ⟨gy, 11, none⟩ = some (.int .i64 0) := hY8.cell 11
            clear hch hah hPx8 hX8 hY8
            have HEm := Lib.hid (Empty_any w8)
            go_wp2_with (go_at_call 14; refine HEm.out.mono ?_; rintro e w9 ⟨rfl, hb9⟩; have z11 : w9.cell? ⟨gw, 11, none⟩ = some (.int .i64 255) := by rw [(hW.below' hb9).cell 11, ← show ((r3.used : Nat) : Int) = 255 by rw [H31.out]; rfl]; rfl)
            go_ret
            exact ⟨rfl, Kit.Below.then (Kit.Below.then hb hb8) hb9⟩
end Go.Proofs.YtmjilfamjlnigaaGreat.LawW
