/- WALKS: the scanner's fault, number. -/
import Derived.Test.YtpamnnllijkpfaaDoorLexF
import Derived.Test.YtpamnnllijkpfaaDoorTail
import Derived.Deep.RegionHeld3
namespace Go.Proofs.YtpamnnllijkpfaaDoor.LexW
open Go Go.RowKit Go.Proofs.YtpamnnllijkpfaaDoor.Kit Go.Proofs.YtpamnnllijkpfaaDoor.LexP

set_option maxHeartbeats 400000 in
theorem sfault_any (g : Nat) (b : ByteArray) (k ln cl : Nat) (out : Value) (w : World) (hB : Blk w g 55 (scs b k ln cl out)) :
    Calls Tryd.prog 45 #[.pointer (some ⟨g, 0, none⟩)] w fun e w' => e = .returned (.agg #[.int .i64 20, .int .i64 ln, .int .i64 cl]) ∧ Below w.heap.size w w' := by
  have c2 : w.cell? ⟨g, 2, none⟩ = some (.int .i64 ln) := hB.cell 2
  have c3 : w.cell? ⟨g, 3, none⟩ = some (.int .i64 cl) := hB.cell 3
  have n2 := World.new_ne w ⟨g, 2, none⟩ c2
  have n3 := World.new_ne w ⟨g, 3, none⟩ c3
  go_enter Tryd.func45, Tryd.ntmps45
  go_wp2
  go_region_held3 (fun w' => w'.cell? ⟨g, 2, none⟩ = some (.int .i64 ln) ∧ w'.cell? ⟨g, 3, none⟩ = some (.int .i64 cl)) (go_keep) (fail)
  go_wp2
  refine bodyPost_ret (v := .agg #[.int .i64 20, .int .i64 ln, .int .i64 cl]) (by simp [results, Tryd.results45, go_sem]) rfl ⟨rfl, ?_⟩
  exact ((Below.refl _ _).alloc (Nat.le_refl _) _).drew

/-- What number leaves. -/
def NumDone (g : Nat) (b : ByteArray) (out : Value) (k ln cl tl tc : Nat) (w : World) (e : Ending) (w' : World) : Prop :=
  Kept g w w' ∧ ((∃ l c, numS (stOf b k ln cl) = .error (l, c) ∧ e = .returned (.tuple #[.agg #[.int .i64 0, .string ⟨#[]⟩, .int .u64 0, .int .i64 tl, .int .i64 tc], .agg #[.int .i64 20, .int .i64 (l : Nat), .int .i64 (c : Nat)]])) ∨
    ∃ v k1 l1 e1, numS (stOf b k ln cl) = .ok (v, stOf b k1 l1 e1) ∧ k ≤ k1 ∧ Pos b k1 l1 e1 ∧ Blk w' g 55 (scs b k1 l1 e1 out) ∧
      e = .returned (.tuple #[.agg #[.int .i64 2, .string (b.extract k k1), .int .u64 (v : Nat), .int .i64 tl, .int .i64 tc], .agg #[.int .i64 0, .int .i64 0, .int .i64 0]]))

set_option maxHeartbeats 1000000 in
set_option maxRecDepth 10000 in
theorem number_dec (g : Nat) (b : ByteArray) (k ln cl tl tc : Nat) (oa : Option Addr) (on oc : Nat) (w : World) (hE : Env w) (hg : 3 ≤ g)
    (hB : Blk w g 55 (scs b k ln cl (.slice oa on oc))) (hp : Pos b k ln cl) (hx1 : Lib.hasPrefix (b.data.toList.drop k) [48, 120] = false) (hx2 : Lib.hasPrefix (b.data.toList.drop k) [48, 88] = false) :
    Calls Tryd.prog 41 #[.pointer (some ⟨g, 0, none⟩), .agg #[.int .i64 0, .string ⟨#[]⟩, .int .u64 0, .int .i64 tl, .int .i64 tc]] w (NumDone g b (.slice oa on oc) k ln cl tl tc w) := by
  have c0 : w.cell? ⟨g, 0, none⟩ = some (.string b) := hB.cell 0
  have c1 : w.cell? ⟨g, 1, none⟩ = some (.int .i64 k) := hB.cell 1
  have c2 : w.cell? ⟨g, 2, none⟩ = some (.int .i64 ln) := hB.cell 2
  have c3 : w.cell? ⟨g, 3, none⟩ = some (.int .i64 cl) := hB.cell 3
  have c4 : w.cell? ⟨g, 4, none⟩ = some (.slice oa on oc) := hB.cell 4
  have hlt := hB.lt
  have a1 : (0 : Int) ≤ (k : Int) := by omega
  have a2 : (k : Int) ≤ (b.size : Int) := by have := hp.1; omega
  have a3 : ¬ w.heap.size + 1 + 1 + 1 = g := by omega
  have a4 : ¬ w.heap.size + 1 + 1 = g := by omega
  have a5 : ¬ w.heap.size + 1 = g := by omega
  have a6 : ¬ w.heap.size = g := by omega
  have hext : (b.extract k b.size).data.toList = b.data.toList.drop k := Lib.extract_to_end b k
  have d0 := cellA3 c0
  have d1 := cellA3 c1
  have d2 := cellA3 c2
  have d3 := cellA3 c3
  have d4 := cellA3 c4
  have f0 := cellA4 c0
  have f1 := cellA4 c1
  clear c0 c1 c2 c3 c4
  have hbw := fun n => Kit.Below.dn (n := n) (Kit.Below.al (Kit.Below.al (Kit.Below.al (Kit.Below.al (Below.refl w.heap.size w) (.cells #[.int .i64 0, .string ⟨#[]⟩, .int .u64 0, .int .i64 tl, .int .i64 tc] 35)) (.cells #[.int .i64 0, .string ⟨#[]⟩, .int .u64 0, .int .i64 0, .int .i64 0] 35)) (.cells #[.int .i64 0, .int .i64 0, .int .i64 0] 29)) (.cells #[.string b, .int .i64 k, .int .i64 ln, .int .i64 cl, .slice oa on oc] 55))
  have HP1 : Hid (∀ w, Calls Tryd.prog 38 #[.string (b.extract k b.size), .string ⟨#[48, 120]⟩] w fun e w' => e = .returned (.bool false) ∧ w' = w) := fun w => by
    have := HasPrefix_any (b.extract k b.size) ⟨#[48, 120]⟩ w
    rw [hext] at this
    rwa [hx1] at this
  have HP2 : Hid (∀ w, Calls Tryd.prog 38 #[.string (b.extract k b.size), .string ⟨#[48, 88]⟩] w fun e w' => e = .returned (.bool false) ∧ w' = w) := fun w => by
    have := HasPrefix_any (b.extract k b.size) ⟨#[48, 88]⟩ w
    rw [hext] at this
    rwa [hx2] at this
  have HX : Hid (hexP (b.data.toList.drop k) = false) := by show _ = _; simp [hexP, hx1, hx2]
  clear hext hx1 hx2
  go_enter Tryd.func41, Tryd.ntmps41
  go_wp2_with fail
  go_quiet (fail)
  go_wp2_with (first | (go_at_call 38; refine (HP1.out _).mono ?_; rintro e w' ⟨rfl, rfl⟩) | (go_at_call 38; refine (HP2.out _).mono ?_; rintro e w' ⟨rfl, rfl⟩))
  refine (while_isDigit g b k ln cl (.slice oa on oc) _ ?_ hg ?_ hp).mono ?_
  · exact hE.below (hbw nq)
  · exact ((((hB.alloc _).alloc _).alloc _).alloc _).drewN _
  rintro e w5 ⟨k1, l1, e1, hT, hk1, hp1, rfl, hB1, hK1⟩
  have hK : Kept g w w5 := (Kept.of_below g (hbw nq)).trans hK1
  have BT := (((((Blk.new w _ _).alloc _).alloc _).alloc _).drewN nq).kept hK1 (by omega)
  have B4 := ((((Blk.newAt (sizeA w _) _ _).alloc _).alloc _).drewN nq).kept hK1 (by omega)
  have B5 := (((Blk.newAt (by rw [sizeA, sizeA]) _ _).alloc _).drewN nq).kept hK1 (by omega)
  have B6 := ((Blk.newAt (by rw [sizeA, sizeA, sizeA]) _ _).drewN nq).kept hK1 (by omega)
  have hNS := numS_at false HX.out rfl hT hk1 hp1.1
  simp only [Bool.false_eq_true, if_false] at hNS
  have hE5 := hE.kept hK hg
  have HNS := Lib.hid hNS
  have hasc : Asc (b.extract k k1) := by
    intro j hj
    have h := while_asc digB_low (stOf b k ln cl)
    rw [hT, upTo_st b k ln cl k1 l1 e1 hk1 hp1.1] at h
    refine h _ ?_
    exact List.getElem_mem (by rw [← Lib.size_eq]; exact hj)
  clear hNS hT d0 d1 d2 d3 d4 f0 f1 hK1 hbw
  by_cases hz : k1 = k
  · have hem : (b.extract k k1).toList.isEmpty = true := by
      rw [Lib.toList_data, Lib.extract_data, hz]
      simp
    have HN2 := HNS.out
    rw [if_pos hz] at HN2
    have HN := Lib.hid HN2
    clear HN2 HNS hz hasc
    have BT5 := BT
    have B45 := B4
    have B55 := B5
    have BF5 := hB1
    have t0 : ∀ p : Cls (Below w5.heap.size w5), p.w.cell? ⟨w.heap.size, 0, none⟩ = some (.int .i64 0) := fun p => BT5.cls 0 p
    have t1 : ∀ p : Cls (Below w5.heap.size w5), p.w.cell? ⟨w.heap.size, 1, none⟩ = some (.string ⟨#[]⟩) := fun p => BT5.cls 1 p
    have t2 : ∀ p : Cls (Below w5.heap.size w5), p.w.cell? ⟨w.heap.size, 2, none⟩ = some (.int .u64 0) := fun p => BT5.cls 2 p
    have t3 : ∀ p : Cls (Below w5.heap.size w5), p.w.cell? ⟨w.heap.size, 3, none⟩ = some (.int .i64 tl) := fun p => BT5.cls 3 p
    have t4 : ∀ p : Cls (Below w5.heap.size w5), p.w.cell? ⟨w.heap.size, 4, none⟩ = some (.int .i64 tc) := fun p => BT5.cls 4 p
    have CF : ∀ p : Cls (Below w5.heap.size w5), Hid (Calls Tryd.prog 45 #[.pointer (some ⟨g, 0, none⟩)] p.w fun e w' => e = .returned (.agg #[.int .i64 20, .int .i64 l1, .int .i64 e1]) ∧ ∃ q : Cls (Below w5.heap.size w5), w' = q.w) :=
      fun p => Calls.cls ((sfault_any g b _ l1 e1 _ p.w (BF5.below' p.h)).mono fun e w' ⟨h1, h2⟩ => ⟨h1, Kit.Below.then p.h h2⟩)
    clear BT5 BF5
    go_wp2_with (fail)
    refine wp_region_cls_tail (Below w5.heap.size w5) 3 (Below_drewN _ 1) (by kernel_rfl) (by kernel_rfl) ?_
    intro hne
    simp only [List.take_succ_cons, List.take_zero, List.drop_succ_cons, List.drop_zero]
    repeat (go_big_quiet_step ((go_at_call 45; exact (CF _).out)))
    refine wpQuiet_nil ?_
    intro w8 h8
    clear hne
    clear t0 t1 t2 t3 t4 CF
    have B46 := B45.below' h8
    have B56 := B55.below' h8
    have s0 : w8.cell? ⟨w.heap.size + 1, 0, none⟩ = some (.int .i64 0) := B46.cell 0
    have s1 : w8.cell? ⟨w.heap.size + 1, 1, none⟩ = some (.string ⟨#[]⟩) := B46.cell 1
    have s2 : w8.cell? ⟨w.heap.size + 1, 2, none⟩ = some (.int .u64 0) := B46.cell 2
    have s3 : w8.cell? ⟨w.heap.size + 1, 3, none⟩ = some (.int .i64 0) := B46.cell 3
    have s4 : w8.cell? ⟨w.heap.size + 1, 4, none⟩ = some (.int .i64 0) := B46.cell 4
    have r0 : w8.cell? ⟨w.heap.size + 1 + 1, 0, none⟩ = some (.int .i64 0) := B56.cell 0
    have r1 : w8.cell? ⟨w.heap.size + 1 + 1, 1, none⟩ = some (.int .i64 0) := B56.cell 1
    have r2 : w8.cell? ⟨w.heap.size + 1 + 1, 2, none⟩ = some (.int .i64 0) := B56.cell 2
    have z4 := fun i => B46.frozen i
    have z5 := fun i => B56.frozen i
    clear B46 B56 B45 B55
    go_wp2_with fail
    refine bodyPost_ret (v := .tuple #[.agg #[.int .i64 0, .string ⟨#[]⟩, .int .u64 0, .int .i64 tl, .int .i64 tc], .agg #[.int .i64 20, .int .i64 l1, .int .i64 e1]]) (by simp [results, Tryd.results41, go_sem, s0, s1, s2, s3, s4, r0, r1, r2]) rfl ⟨?_, .inl ⟨l1, e1, HN.out, rfl⟩⟩
    repeat (with_reducible refine Kept.setN ?_ (by omega) _)
    exact hK.trans (Kept.of_below g h8)
  · have hem : (b.extract k k1).toList.isEmpty = false := by
      rw [Lib.toList_data, Lib.extract_data, List.isEmpty_eq_false_iff, ← List.length_pos_iff, List.length_take, List.length_drop, ← Lib.size_eq]
      have := hp1.1
      omega
    have HN2 := HNS.out
    rw [if_neg hz] at HN2
    have HN3 := Lib.hid HN2
    clear HN2 HNS hz
    have HV := Lib.hid (value_any 10 (by decide) (b.extract k k1) hasc w5)
    clear hasc
    go_wp2_with fail
    refine HV.out.mono ?_
    clear HV
    rintro e w6 ⟨hv, h6⟩
    rcases hv with ⟨v, hv, rfl⟩ | ⟨hv, rfl⟩
    · have HN4 := HN3.out
      rw [hv] at HN4
      simp only at HN4
      have HN3 := Lib.hid HN4
      clear HN4 hv
      have hB6 := hB1.below' h6
      have HR := Lib.hid (rune_any g b k1 l1 e1 _ w6 (hE5.below h6) hB6 hp1.1)
      go_wp2_with fail
      refine HR.out.mono ?_
      clear HR
      rintro e w7 ⟨rfl, h7⟩
      have h57 := Kit.Below.then h6 h7
      have hK7 : Kept g w w7 := hK.trans (Kept.of_below g h57)
      generalize (dec (b.data.toList.drop k1)).1 = r at *
      generalize (dec (b.data.toList.drop k1)).2 = n at *
      have hnm : nameB r = (letB r || digB r) := rfl
      rw [hnm] at HN3
      clear hnm
      by_cases hn : 0 < n
      · have hn' : (0 : Int) < (n : Int) := by omega
        cases hl : letB r with
        | true =>
          have HN4 := HN3.out
          rw [hl, if_pos ⟨hn, rfl⟩] at HN4
          have HN := Lib.hid HN4
          have HL : Hid (∀ w, Calls Tryd.prog 32 #[.int .i32 r] w fun e w' => e = .returned (.bool true) ∧ w = w') := fun w => by have := isLetter_any r w; rwa [hl] at this
          clear HN3 HN4 hl hn
          have BT5 := BT.below' h57
          have B45 := B4.below' h57
          have B55 := B5.below' h57
          have BF5 := hB1.below' h57
          have t0 : ∀ p : Cls (Below w7.heap.size w7), p.w.cell? ⟨w.heap.size, 0, none⟩ = some (.int .i64 0) := fun p => BT5.cls 0 p
          have t1 : ∀ p : Cls (Below w7.heap.size w7), p.w.cell? ⟨w.heap.size, 1, none⟩ = some (.string ⟨#[]⟩) := fun p => BT5.cls 1 p
          have t2 : ∀ p : Cls (Below w7.heap.size w7), p.w.cell? ⟨w.heap.size, 2, none⟩ = some (.int .u64 0) := fun p => BT5.cls 2 p
          have t3 : ∀ p : Cls (Below w7.heap.size w7), p.w.cell? ⟨w.heap.size, 3, none⟩ = some (.int .i64 tl) := fun p => BT5.cls 3 p
          have t4 : ∀ p : Cls (Below w7.heap.size w7), p.w.cell? ⟨w.heap.size, 4, none⟩ = some (.int .i64 tc) := fun p => BT5.cls 4 p
          have CF : ∀ p : Cls (Below w7.heap.size w7), Hid (Calls Tryd.prog 45 #[.pointer (some ⟨g, 0, none⟩)] p.w fun e w' => e = .returned (.agg #[.int .i64 20, .int .i64 l1, .int .i64 e1]) ∧ ∃ q : Cls (Below w7.heap.size w7), w' = q.w) :=
            fun p => Calls.cls ((sfault_any g b _ l1 e1 _ p.w (BF5.below' p.h)).mono fun e w' ⟨h1, h2⟩ => ⟨h1, Kit.Below.then p.h h2⟩)
          clear BT5 BF5
          go_wp2_with (go_at_call 32; refine (HL.out _).mono ?_; rintro e w' ⟨rfl, rfl⟩)
          refine wp_region_cls_tail (Below w7.heap.size w7) 3 (Below_drewN _ 1) (by kernel_rfl) (by kernel_rfl) ?_
          intro hne
          simp only [List.take_succ_cons, List.take_zero, List.drop_succ_cons, List.drop_zero]
          repeat (go_big_quiet_step ((go_at_call 45; exact (CF _).out)))
          refine wpQuiet_nil ?_
          intro w8 h8
          clear hne
          clear t0 t1 t2 t3 t4 CF
          have B46 := B45.below' h8
          have B56 := B55.below' h8
          have s0 : w8.cell? ⟨w.heap.size + 1, 0, none⟩ = some (.int .i64 0) := B46.cell 0
          have s1 : w8.cell? ⟨w.heap.size + 1, 1, none⟩ = some (.string ⟨#[]⟩) := B46.cell 1
          have s2 : w8.cell? ⟨w.heap.size + 1, 2, none⟩ = some (.int .u64 0) := B46.cell 2
          have s3 : w8.cell? ⟨w.heap.size + 1, 3, none⟩ = some (.int .i64 0) := B46.cell 3
          have s4 : w8.cell? ⟨w.heap.size + 1, 4, none⟩ = some (.int .i64 0) := B46.cell 4
          have r0 : w8.cell? ⟨w.heap.size + 1 + 1, 0, none⟩ = some (.int .i64 0) := B56.cell 0
          have r1 : w8.cell? ⟨w.heap.size + 1 + 1, 1, none⟩ = some (.int .i64 0) := B56.cell 1
          have r2 : w8.cell? ⟨w.heap.size + 1 + 1, 2, none⟩ = some (.int .i64 0) := B56.cell 2
          have z4 := fun i => B46.frozen i
          have z5 := fun i => B56.frozen i
          clear B46 B56 B45 B55
          go_wp2_with fail
          refine bodyPost_ret (v := .tuple #[.agg #[.int .i64 0, .string ⟨#[]⟩, .int .u64 0, .int .i64 tl, .int .i64 tc], .agg #[.int .i64 20, .int .i64 l1, .int .i64 e1]]) (by simp [results, Tryd.results41, go_sem, s0, s1, s2, s3, s4, r0, r1, r2]) rfl ⟨?_, .inl ⟨l1, e1, HN.out, rfl⟩⟩
          repeat (with_reducible refine Kept.setN ?_ (by omega) _)
          exact hK7.trans (Kept.of_below g h8)
        | false =>
          have HL : Hid (∀ w, Calls Tryd.prog 32 #[.int .i32 r] w fun e w' => e = .returned (.bool false) ∧ w = w') := fun w => by have := isLetter_any r w; rwa [hl] at this
          cases hd : digB r with
          | true =>
            have HN4 := HN3.out
            rw [hl, hd, if_pos ⟨hn, rfl⟩] at HN4
            have HN := Lib.hid HN4
            have HD : Hid (∀ w, Calls Tryd.prog 33 #[.int .i32 r] w fun e w' => e = .returned (.bool true) ∧ w = w') := fun w => by have := isDigit_any r w; rwa [hd] at this
            clear HN3 HN4 hl hd hn
            have BT5 := BT.below' h57
            have B45 := B4.below' h57
            have B55 := B5.below' h57
            have BF5 := hB1.below' h57
            have t0 : ∀ p : Cls (Below w7.heap.size w7), p.w.cell? ⟨w.heap.size, 0, none⟩ = some (.int .i64 0) := fun p => BT5.cls 0 p
            have t1 : ∀ p : Cls (Below w7.heap.size w7), p.w.cell? ⟨w.heap.size, 1, none⟩ = some (.string ⟨#[]⟩) := fun p => BT5.cls 1 p
            have t2 : ∀ p : Cls (Below w7.heap.size w7), p.w.cell? ⟨w.heap.size, 2, none⟩ = some (.int .u64 0) := fun p => BT5.cls 2 p
            have t3 : ∀ p : Cls (Below w7.heap.size w7), p.w.cell? ⟨w.heap.size, 3, none⟩ = some (.int .i64 tl) := fun p => BT5.cls 3 p
            have t4 : ∀ p : Cls (Below w7.heap.size w7), p.w.cell? ⟨w.heap.size, 4, none⟩ = some (.int .i64 tc) := fun p => BT5.cls 4 p
            have CF : ∀ p : Cls (Below w7.heap.size w7), Hid (Calls Tryd.prog 45 #[.pointer (some ⟨g, 0, none⟩)] p.w fun e w' => e = .returned (.agg #[.int .i64 20, .int .i64 l1, .int .i64 e1]) ∧ ∃ q : Cls (Below w7.heap.size w7), w' = q.w) :=
              fun p => Calls.cls ((sfault_any g b _ l1 e1 _ p.w (BF5.below' p.h)).mono fun e w' ⟨h1, h2⟩ => ⟨h1, Kit.Below.then p.h h2⟩)
            clear BT5 BF5
            go_wp2_with (first | (go_at_call 32; refine (HL.out _).mono ?_; rintro e w' ⟨rfl, rfl⟩) | (go_at_call 33; refine (HD.out _).mono ?_; rintro e w' ⟨rfl, rfl⟩))
            refine wp_region_cls_tail (Below w7.heap.size w7) 3 (Below_drewN _ 1) (by kernel_rfl) (by kernel_rfl) ?_
            intro hne
            simp only [List.take_succ_cons, List.take_zero, List.drop_succ_cons, List.drop_zero]
            repeat (go_big_quiet_step ((go_at_call 45; exact (CF _).out)))
            refine wpQuiet_nil ?_
            intro w8 h8
            clear hne
            clear t0 t1 t2 t3 t4 CF
            have B46 := B45.below' h8
            have B56 := B55.below' h8
            have s0 : w8.cell? ⟨w.heap.size + 1, 0, none⟩ = some (.int .i64 0) := B46.cell 0
            have s1 : w8.cell? ⟨w.heap.size + 1, 1, none⟩ = some (.string ⟨#[]⟩) := B46.cell 1
            have s2 : w8.cell? ⟨w.heap.size + 1, 2, none⟩ = some (.int .u64 0) := B46.cell 2
            have s3 : w8.cell? ⟨w.heap.size + 1, 3, none⟩ = some (.int .i64 0) := B46.cell 3
            have s4 : w8.cell? ⟨w.heap.size + 1, 4, none⟩ = some (.int .i64 0) := B46.cell 4
            have r0 : w8.cell? ⟨w.heap.size + 1 + 1, 0, none⟩ = some (.int .i64 0) := B56.cell 0
            have r1 : w8.cell? ⟨w.heap.size + 1 + 1, 1, none⟩ = some (.int .i64 0) := B56.cell 1
            have r2 : w8.cell? ⟨w.heap.size + 1 + 1, 2, none⟩ = some (.int .i64 0) := B56.cell 2
            have z4 := fun i => B46.frozen i
            have z5 := fun i => B56.frozen i
            clear B46 B56 B45 B55
            go_wp2_with fail
            refine bodyPost_ret (v := .tuple #[.agg #[.int .i64 0, .string ⟨#[]⟩, .int .u64 0, .int .i64 tl, .int .i64 tc], .agg #[.int .i64 20, .int .i64 l1, .int .i64 e1]]) (by simp [results, Tryd.results41, go_sem, s0, s1, s2, s3, s4, r0, r1, r2]) rfl ⟨?_, .inl ⟨l1, e1, HN.out, rfl⟩⟩
            repeat (with_reducible refine Kept.setN ?_ (by omega) _)
            exact hK7.trans (Kept.of_below g h8)
          | false =>
            have HN4 := HN3.out
            rw [hl, hd, if_neg (by simp)] at HN4
            have HN := Lib.hid HN4
            have HD : Hid (∀ w, Calls Tryd.prog 33 #[.int .i32 r] w fun e w' => e = .returned (.bool false) ∧ w = w') := fun w => by have := isDigit_any r w; rwa [hd] at this
            clear HN3 HN4 hl hd hn
            have BT7 := BT.below' h57
            have B47 := B4.below' h57
            have B57 := B5.below' h57
            have B67 := B6.below' h57
            have hB7 := hB1.below' h57
            have g0 : w7.cell? ⟨g, 0, none⟩ = some (.string b) := hB7.cell 0
            have g1 : w7.cell? ⟨g, 1, none⟩ = some (.int .i64 k1) := hB7.cell 1
            have q1 : w7.cell? ⟨w.heap.size + 1 + 1 + 1, 1, none⟩ = some (.int .i64 k) := B67.cell 1
            have t0 : w7.cell? ⟨w.heap.size, 0, none⟩ = some (.int .i64 0) := BT7.cell 0
            have t1 : w7.cell? ⟨w.heap.size, 1, none⟩ = some (.string ⟨#[]⟩) := BT7.cell 1
            have t2 : w7.cell? ⟨w.heap.size, 2, none⟩ = some (.int .u64 0) := BT7.cell 2
            have t3 : w7.cell? ⟨w.heap.size, 3, none⟩ = some (.int .i64 tl) := BT7.cell 3
            have t4 : w7.cell? ⟨w.heap.size, 4, none⟩ = some (.int .i64 tc) := BT7.cell 4
            have s0 : w7.cell? ⟨w.heap.size + 1, 0, none⟩ = some (.int .i64 0) := B47.cell 0
            have s1 : w7.cell? ⟨w.heap.size + 1, 1, none⟩ = some (.string ⟨#[]⟩) := B47.cell 1
            have s2 : w7.cell? ⟨w.heap.size + 1, 2, none⟩ = some (.int .u64 0) := B47.cell 2
            have s3 : w7.cell? ⟨w.heap.size + 1, 3, none⟩ = some (.int .i64 0) := B47.cell 3
            have s4 : w7.cell? ⟨w.heap.size + 1, 4, none⟩ = some (.int .i64 0) := B47.cell 4
            have r0 : w7.cell? ⟨w.heap.size + 1 + 1, 0, none⟩ = some (.int .i64 0) := B57.cell 0
            have r1 : w7.cell? ⟨w.heap.size + 1 + 1, 1, none⟩ = some (.int .i64 0) := B57.cell 1
            have r2 : w7.cell? ⟨w.heap.size + 1 + 1, 2, none⟩ = some (.int .i64 0) := B57.cell 2
            have zt := fun i => BT7.frozen i
            have z4 := fun i => B47.frozen i
            have z5 := fun i => B57.frozen i
            have b1 : (k : Int) ≤ (k1 : Int) := by omega
            have b2 : (k1 : Int) ≤ (b.size : Int) := by have := hp1.1; omega
            clear BT7 B47 B57 B67
            go_wp2_with (first | (go_at_call 32; refine (HL.out _).mono ?_; rintro e w' ⟨rfl, rfl⟩) | (go_at_call 33; refine (HD.out _).mono ?_; rintro e w' ⟨rfl, rfl⟩))
            go_region_held3 (fun w' => w'.cell? ⟨g, 0, none⟩ = some (.string b) ∧ w'.cell? ⟨w.heap.size + 1 + 1 + 1, 1, none⟩ = some (.int .i64 k) ∧ w'.cell? ⟨g, 1, none⟩ = some (.int .i64 k1)) (refine ⟨?_, ?_, ?_⟩ <;> (try with_reducible refine cellD ?_) <;> (repeat (with_reducible refine cellS ?_ (by omega))) <;> assumption) (fail)
            go_wp2_with fail
            refine bodyPost_ret (v := .tuple #[.agg #[.int .i64 2, .string (b.extract k k1), .int .u64 v, .int .i64 tl, .int .i64 tc], .agg #[.int .i64 0, .int .i64 0, .int .i64 0]]) (by simp [results, Tryd.results41, go_sem, s0, s1, s2, s3, s4, r0, r1, r2]) rfl ⟨?_, .inr ⟨v, k1, l1, e1, HN.out, by omega, hp1, ?_, rfl⟩⟩
            · repeat (first | with_reducible refine Kept.setN ?_ (by omega) _ | with_reducible refine Kept.d ?_)
              exact hK7
            · repeat (first | with_reducible refine Blk.farN ?_ (by omega) _ | with_reducible refine Blk.d ?_)
              exact hB7
      · have HN4 := HN3.out
        rw [if_neg (fun h => hn h.1)] at HN4
        have HN := Lib.hid HN4
        have hn' : (n : Int) ≤ 0 := by omega
        clear HN3 HN4 hn
        have BT7 := BT.below' h57
        have B47 := B4.below' h57
        have B57 := B5.below' h57
        have B67 := B6.below' h57
        have hB7 := hB1.below' h57
        have g0 : w7.cell? ⟨g, 0, none⟩ = some (.string b) := hB7.cell 0
        have g1 : w7.cell? ⟨g, 1, none⟩ = some (.int .i64 k1) := hB7.cell 1
        have q1 : w7.cell? ⟨w.heap.size + 1 + 1 + 1, 1, none⟩ = some (.int .i64 k) := B67.cell 1
        have t0 : w7.cell? ⟨w.heap.size, 0, none⟩ = some (.int .i64 0) := BT7.cell 0
        have t1 : w7.cell? ⟨w.heap.size, 1, none⟩ = some (.string ⟨#[]⟩) := BT7.cell 1
        have t2 : w7.cell? ⟨w.heap.size, 2, none⟩ = some (.int .u64 0) := BT7.cell 2
        have t3 : w7.cell? ⟨w.heap.size, 3, none⟩ = some (.int .i64 tl) := BT7.cell 3
        have t4 : w7.cell? ⟨w.heap.size, 4, none⟩ = some (.int .i64 tc) := BT7.cell 4
        have s0 : w7.cell? ⟨w.heap.size + 1, 0, none⟩ = some (.int .i64 0) := B47.cell 0
        have s1 : w7.cell? ⟨w.heap.size + 1, 1, none⟩ = some (.string ⟨#[]⟩) := B47.cell 1
        have s2 : w7.cell? ⟨w.heap.size + 1, 2, none⟩ = some (.int .u64 0) := B47.cell 2
        have s3 : w7.cell? ⟨w.heap.size + 1, 3, none⟩ = some (.int .i64 0) := B47.cell 3
        have s4 : w7.cell? ⟨w.heap.size + 1, 4, none⟩ = some (.int .i64 0) := B47.cell 4
        have r0 : w7.cell? ⟨w.heap.size + 1 + 1, 0, none⟩ = some (.int .i64 0) := B57.cell 0
        have r1 : w7.cell? ⟨w.heap.size + 1 + 1, 1, none⟩ = some (.int .i64 0) := B57.cell 1
        have r2 : w7.cell? ⟨w.heap.size + 1 + 1, 2, none⟩ = some (.int .i64 0) := B57.cell 2
        have zt := fun i => BT7.frozen i
        have z4 := fun i => B47.frozen i
        have z5 := fun i => B57.frozen i
        have b1 : (k : Int) ≤ (k1 : Int) := by omega
        have b2 : (k1 : Int) ≤ (b.size : Int) := by have := hp1.1; omega
        clear BT7 B47 B57 B67
        go_wp2_with (fail)
        go_region_held3 (fun w' => w'.cell? ⟨g, 0, none⟩ = some (.string b) ∧ w'.cell? ⟨w.heap.size + 1 + 1 + 1, 1, none⟩ = some (.int .i64 k) ∧ w'.cell? ⟨g, 1, none⟩ = some (.int .i64 k1)) (refine ⟨?_, ?_, ?_⟩ <;> (try with_reducible refine cellD ?_) <;> (repeat (with_reducible refine cellS ?_ (by omega))) <;> assumption) (fail)
        go_wp2_with fail
        refine bodyPost_ret (v := .tuple #[.agg #[.int .i64 2, .string (b.extract k k1), .int .u64 v, .int .i64 tl, .int .i64 tc], .agg #[.int .i64 0, .int .i64 0, .int .i64 0]]) (by simp [results, Tryd.results41, go_sem, s0, s1, s2, s3, s4, r0, r1, r2]) rfl ⟨?_, .inr ⟨v, k1, l1, e1, HN.out, by omega, hp1, ?_, rfl⟩⟩
        · repeat (first | with_reducible refine Kept.setN ?_ (by omega) _ | with_reducible refine Kept.d ?_)
          exact hK7
        · repeat (first | with_reducible refine Blk.farN ?_ (by omega) _ | with_reducible refine Blk.d ?_)
          exact hB7
    · have HN4 := HN3.out
      rw [hv] at HN4
      have HN := Lib.hid HN4
      clear HN3 HN4 hv
      have BT5 := BT.below' h6
      have B45 := B4.below' h6
      have B55 := B5.below' h6
      have BF5 := B6.below' h6
      have t0 : ∀ p : Cls (Below w6.heap.size w6), p.w.cell? ⟨w.heap.size, 0, none⟩ = some (.int .i64 0) := fun p => BT5.cls 0 p
      have t1 : ∀ p : Cls (Below w6.heap.size w6), p.w.cell? ⟨w.heap.size, 1, none⟩ = some (.string ⟨#[]⟩) := fun p => BT5.cls 1 p
      have t2 : ∀ p : Cls (Below w6.heap.size w6), p.w.cell? ⟨w.heap.size, 2, none⟩ = some (.int .u64 0) := fun p => BT5.cls 2 p
      have t3 : ∀ p : Cls (Below w6.heap.size w6), p.w.cell? ⟨w.heap.size, 3, none⟩ = some (.int .i64 tl) := fun p => BT5.cls 3 p
      have t4 : ∀ p : Cls (Below w6.heap.size w6), p.w.cell? ⟨w.heap.size, 4, none⟩ = some (.int .i64 tc) := fun p => BT5.cls 4 p
      have CF : ∀ p : Cls (Below w6.heap.size w6), Hid (Calls Tryd.prog 45 #[.pointer (some ⟨(w.heap.size + 1 + 1 + 1), 0, none⟩)] p.w fun e w' => e = .returned (.agg #[.int .i64 20, .int .i64 ln, .int .i64 cl]) ∧ ∃ q : Cls (Below w6.heap.size w6), w' = q.w) :=
        fun p => Calls.cls ((sfault_any (w.heap.size + 1 + 1 + 1) b _ ln cl _ p.w (BF5.below' p.h)).mono fun e w' ⟨h1, h2⟩ => ⟨h1, Kit.Below.then p.h h2⟩)
      clear BT5 BF5
      go_wp2_with (fail)
      refine wp_region_cls_tail (Below w6.heap.size w6) 2 (Below_drewN _ 1) (by kernel_rfl) (by kernel_rfl) ?_
      intro hne
      simp only [List.take_succ_cons, List.take_zero, List.drop_succ_cons, List.drop_zero]
      repeat (go_big_quiet_step ((go_at_call 45; exact (CF _).out)))
      refine wpQuiet_nil ?_
      intro w8 h8
      clear hne
      clear t0 t1 t2 t3 t4 CF
      have B46 := B45.below' h8
      have B56 := B55.below' h8
      have s0 : w8.cell? ⟨w.heap.size + 1, 0, none⟩ = some (.int .i64 0) := B46.cell 0
      have s1 : w8.cell? ⟨w.heap.size + 1, 1, none⟩ = some (.string ⟨#[]⟩) := B46.cell 1
      have s2 : w8.cell? ⟨w.heap.size + 1, 2, none⟩ = some (.int .u64 0) := B46.cell 2
      have s3 : w8.cell? ⟨w.heap.size + 1, 3, none⟩ = some (.int .i64 0) := B46.cell 3
      have s4 : w8.cell? ⟨w.heap.size + 1, 4, none⟩ = some (.int .i64 0) := B46.cell 4
      have r0 : w8.cell? ⟨w.heap.size + 1 + 1, 0, none⟩ = some (.int .i64 0) := B56.cell 0
      have r1 : w8.cell? ⟨w.heap.size + 1 + 1, 1, none⟩ = some (.int .i64 0) := B56.cell 1
      have r2 : w8.cell? ⟨w.heap.size + 1 + 1, 2, none⟩ = some (.int .i64 0) := B56.cell 2
      have z4 := fun i => B46.frozen i
      have z5 := fun i => B56.frozen i
      clear B46 B56 B45 B55
      go_wp2_with fail
      refine bodyPost_ret (v := .tuple #[.agg #[.int .i64 0, .string ⟨#[]⟩, .int .u64 0, .int .i64 tl, .int .i64 tc], .agg #[.int .i64 20, .int .i64 ln, .int .i64 cl]]) (by simp [results, Tryd.results41, go_sem, s0, s1, s2, s3, s4, r0, r1, r2]) rfl ⟨?_, .inl ⟨ln, cl, HN.out, rfl⟩⟩
      repeat (with_reducible refine Kept.setN ?_ (by omega) _)
      exact (hK.trans (Kept.of_below g h6)).trans (Kept.of_below g h8)

end Go.Proofs.YtpamnnllijkpfaaDoor.LexW
