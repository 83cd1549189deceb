/- WALKS: the other closures. -/
import Derived.Test.YtmjilfamjlnigaaGreatQ22
namespace Go.Proofs.YtmjilfamjlnigaaGreat.RunW
open Go Go.RowKit Go.Proofs.YtmjilfamjlnigaaGreat.Kit Go.Proofs.YtmjilfamjlnigaaGreat.SrcP Go.Proofs.YtmjilfamjlnigaaGreat.SrcW Go.Proofs.YtmjilfamjlnigaaGreat.MchW Go.Proofs.YtmjilfamjlnigaaGreat.OwnR

section
variable {M : Type} {X : Mk M} {K : Kd M} {base gr nc : Nat} {w w' w1 : World} {who who' : Nat → Option Pt} {V V' : RV} {r r' : Rn M}
set_option maxRecDepth 100000 in
set_option maxHeartbeats 0 in
theorem do2_any
    (hX : MkC X K nc) (h : RunW X K base gr nc w who V r) (hok : RnOk nc r) {t : Nat} {x : Th M} (hx : r.ths[t]? = some x) (hask : X.asked x.m) {gt : Nat} (hgt : V.gt[t]? = some gt) (hev : r.events.length ≤ 1000) (hus : r.used ≤ 4194304) (hth : r.ths.length ≤ 1048576)
        {wt : Want} (hwt : K.now x.m = wt)
    (hq : wt.what = 2) (hz : K.words = true ∧ wt.ex = true ∧ (r.lastW wt : Int) ≠ x.ex) {b1 b2 b3 b4 : Nat} (hC : Clo w gr t gt wt b1 b2 b3 b4) :
    Calls Tryz.prog 87 #[ptrV b4] w fun e w' => e = .returned (.tuple #[]) ∧ Step X K base gr nc w who V w' (r.doo K t wt) := by
  have HF0 : Hid (∀ w S g, X.Rep w S g x.m → Calls Tryz.prog X.feedF #[.pointer (some ⟨g, 0, none⟩), .int .u64 0] w fun e w' => e = .returned (.int .i64 0) ∧ MOp X w S g (K.feed x.m 0) w') := Lib.hid (fun w S g (h : X.Rep w S g x.m) => hX.feed h hask (by rw [hwt, hq]; decide) (by rw [hwt, hq]; decide) (v := 0) (by decide))
  have HDO : Hid (r.doo K t wt = r.feed K t 0) := Lib.hid (by
    unfold Rn.doo
    rw [if_neg (by rw [hq]; decide), if_pos hq, if_pos ⟨hz.1, hz.2.1, by simp only [Rn.th, List.getD_eq_getElem?_getD, hx, Option.getD_some]; exact hz.2.2⟩])
  unfold ptrV
  clear hz hwt hq hask
  go_enter Tryz.func87, Tryz.ntmps87
  obtain ⟨gt', gm1, hgt1, hgm1', _, _, hrep1⟩ := RunW.thOf h hx
  have e := hgt1
  rw [hgt] at e
  obtain rfl := Option.some.inj e
  have k4 : World.cell? w ⟨b4, 0, none⟩ = some (.pointer (some ⟨gt, 0, none⟩)) := (hC).cx.cell 0
  have km : World.cell? w ⟨gt, 0, none⟩ = some (.iface X.T (.pointer (some ⟨gm1, 0, none⟩))) := by
    rw [RunW.seeTh h (w' := w) (P := fun _ => False) (fun _ _ _ _ => rfl) (fun e => e) hx hgt1 hgm1' 0]; rfl
  have HFD := Lib.hid (HF0.out _ _ _ hrep1)
  have hmF := hX.feedM gm1
  have hmE := hX.feedE
  have hts := types_size
  clear hrep1
  go_wp2_with fail
  refine HFD.out.mono ?_
  rintro e wb ⟨rfl, S', hS', hrep, hkb, hsb⟩
  obtain ⟨whob, hRb, hmb⟩ := RunW.machOp hX.toMkM h hx hgm1' hS' hrep hkb hsb
  clear hS' hrep hkb hsb HFD hmF hmE k4 km
  try go_wp2_with fail
  first | go_end0 | refine bodyPost_ret (v := .tuple #[]) (by simp [results, Tryz.results87, go_sem]) rfl ?_
  exact ⟨rfl, whob, V, by rw [HDO.out, feed_eq hx]; exact hRb, hmb, rfl, rfl⟩
set_option maxRecDepth 100000 in
set_option maxHeartbeats 0 in
theorem do3_any
    (hX : MkC X K nc) (h : RunW X K base gr nc w who V r) (hok : RnOk nc r) {t : Nat} {x : Th M} (hx : r.ths[t]? = some x) (hask : X.asked x.m) {gt : Nat} (hgt : V.gt[t]? = some gt) (hev : r.events.length ≤ 1000) (hus : r.used ≤ 4194304) (hth : r.ths.length ≤ 1048576)
        {wt : Want} (hwt : K.now x.m = wt)
    (hq : wt.what = 2) (hcan : r.can wt = true) (hz : ¬ (K.words = true ∧ wt.ex = true ∧ (r.lastW wt : Int) ≠ x.ex)) {b1 b2 b3 b4 : Nat} (hC : Clo w gr t gt wt b1 b2 b3 b4) :
    Calls Tryz.prog 88 #[ptrV b1, ptrV b2, ptrV b3] w fun e w' => e = .returned (.tuple #[]) ∧ Step X K base gr nc w who V w' (r.doo K t wt) := by
  rw [can_loc (.inr hq), decide_eq_true_eq] at hcan
  obtain ⟨c, hc⟩ := Int.eq_ofNat_of_zero_le hcan.1
  have hcl : c < nc := by have := hok.cells; omega
  have HDO : Hid (r.doo K t wt = r.store K t wt) := Lib.hid (by
    unfold Rn.doo
    rw [if_neg (by rw [hq]; decide), if_pos hq, if_neg (fun hh => hz ⟨hh.1, hh.2.1, by have h2 := hh.2.2; simp only [Rn.th, List.getD_eq_getElem?_getD, hx, Option.getD_some] at h2; exact h2⟩)])
  have hxn := hok.nums x (List.mem_of_getElem? hx)
  have hcon := mem_getD (P := fun l => l.length ≤ r.events.length) hok.coi [] (Nat.zero_le _) c
  have HST := Lib.hid (store_any hX h hx hask (by rw [hwt, hq]; decide) (by rw [hwt, hq]; decide) (by omega) (by omega) (by omega) (by omega) wt hc (by rw [hok.cells]; exact hcl) (by rw [hok.last]; exact hcl) (by rw [hok.co]; exact hcl))
  unfold ptrV at HST ⊢
  have k1 : w.cell? ⟨b1, 0, none⟩ = some (.pointer (some ⟨gr, 0, none⟩)) := hC.cr.cell 0
  have k2 : w.cell? ⟨b2, 0, none⟩ = some (.int .i64 (t : Int)) := hC.ct.cell 0
  have c0 : w.cell? ⟨b3, 0, none⟩ = some (.int .i64 wt.what) := hC.cw.cell 0
  have c1 : w.cell? ⟨b3, 1, none⟩ = some (.int .i64 wt.loc) := hC.cw.cell 1
  have c2 : w.cell? ⟨b3, 2, none⟩ = some (.int .i64 wt.mode) := hC.cw.cell 2
  have c3 : w.cell? ⟨b3, 3, none⟩ = some (.int .u64 wt.val) := hC.cw.cell 3
  have c4 : w.cell? ⟨b3, 4, none⟩ = some (.bool wt.ex) := hC.cw.cell 4
  have c5 : w.cell? ⟨b3, 5, none⟩ = some (.bool wt.one) := hC.cw.cell 5
  clear hz hwt hq hask hcan hc hcl hxn hcon hok hev hus hth
  go_enter Tryz.func88, Tryz.ntmps88
  go_wp2_with (go_at_call 86; refine HST.out.mono ?_; rintro e w5 ⟨rfl, hst⟩)
  first | go_end0 | refine bodyPost_ret (v := .tuple #[]) (by simp [results, Tryz.results88, go_sem]) rfl ?_
  exact ⟨rfl, by rw [HDO.out]; exact hst⟩
set_option maxRecDepth 100000 in
set_option maxHeartbeats 0 in
theorem do4_any
    (hX : MkC X K nc) (h : RunW X K base gr nc w who V r) (hok : RnOk nc r) {t : Nat} {x : Th M} (hx : r.ths[t]? = some x) (hask : X.asked x.m) {gt : Nat} (hgt : V.gt[t]? = some gt) (hev : r.events.length ≤ 1000) (hus : r.used ≤ 4194304) (hth : r.ths.length ≤ 1048576)
        {wt : Want} (hwt : K.now x.m = wt)
    (hq : wt.what = 3) {b1 b2 b3 b4 : Nat} (hC : Clo w gr t gt wt b1 b2 b3 b4) (hn : who b1 = none ∧ who b2 = none ∧ who b3 = none ∧ who b4 = none) :
    Calls Tryz.prog 89 #[ptrV b1, ptrV b2, ptrV b3, ptrV b4] w fun e w' => e = .returned (.tuple #[]) ∧ Step X K base gr nc w who V w' (r.doo K t wt) := by
  have HF0 : Hid (∀ w S g, X.Rep w S g x.m → Calls Tryz.prog X.feedF #[.pointer (some ⟨g, 0, none⟩), .int .u64 0] w fun e w' => e = .returned (.int .i64 0) ∧ MOp X w S g (K.feed x.m 0) w') := Lib.hid (fun w S g (h : X.Rep w S g x.m) => hX.feed h hask (by rw [hwt, hq]; decide) (by rw [hwt, hq]; decide) (v := 0) (by decide))
  have HDO : Hid (r.doo K t wt = (r.event K t 3 (-1) 0 wt.mode).feed K t 0) := Lib.hid (by
    unfold Rn.doo
    rw [if_neg (by rw [hq]; decide), if_neg (by rw [hq]; decide), if_pos hq])
  have hxn := hok.nums x (List.mem_of_getElem? hx)
  have HEV := Lib.hid (event_any hX.toMkM h hx (by omega) (by omega) (by omega) 0 3 (-1) wt.mode 0)
  unfold ptrV at HEV ⊢
  have k1 : w.cell? ⟨b1, 0, none⟩ = some (.pointer (some ⟨gr, 0, none⟩)) := hC.cr.cell 0
  have k2 : w.cell? ⟨b2, 0, none⟩ = some (.int .i64 (t : Int)) := hC.ct.cell 0
  have c2 : w.cell? ⟨b3, 2, none⟩ = some (.int .i64 wt.mode) := hC.cw.cell 2
  clear hwt hq hask hxn hok hev hus hth
  go_enter Tryz.func89, Tryz.ntmps89
  go_upto_region 1 with (go_at_call 90; refine HEV.out.mono ?_; rintro e w5 ⟨rfl, who5, V5, hR5, hm5, hg5, hgm5⟩)
  clear k1 k2 c2 HEV
  obtain ⟨hC5, hn5⟩ := hC.moves hn hm5
  have hx5 : (r.event K t 3 (-1) 0 wt.mode).ths[t]? = some { x with nums := x.nums ++ [r.events.length] } := by
    show (r.ths.set t _)[t]? = _
    rw [List.getElem?_set_self (List.getElem?_eq_some_iff.1 hx).1]
    simp only [Rn.th, List.getD_eq_getElem?_getD, hx, Option.getD_some]
  generalize r.event K t 3 (-1) 0 wt.mode = r5 at *
  have hgt5 : V5.gt[t]? = some gt := by rw [hg5]; exact hgt
  obtain ⟨gt', gm1, hgt1, hgm1', _, _, hrep1⟩ := RunW.thOf hR5 hx5
  have e := hgt1
  rw [hgt5] at e
  obtain rfl := Option.some.inj e
  have k4 : World.cell? w5 ⟨b4, 0, none⟩ = some (.pointer (some ⟨gt, 0, none⟩)) := (hC5).cx.cell 0
  have km : World.cell? w5 ⟨gt, 0, none⟩ = some (.iface X.T (.pointer (some ⟨gm1, 0, none⟩))) := by
    rw [RunW.seeTh hR5 (w' := w5) (P := fun _ => False) (fun _ _ _ _ => rfl) (fun e => e) hx5 hgt1 hgm1' 0]; rfl
  have HFD := Lib.hid (HF0.out _ _ _ hrep1)
  have hmF := hX.feedM gm1
  have hmE := hX.feedE
  have hts := types_size
  clear hrep1
  go_wp2_with fail
  refine HFD.out.mono ?_
  rintro e wb ⟨rfl, S', hS', hrep, hkb, hsb⟩
  obtain ⟨whob, hRb, hmb⟩ := RunW.machOp hX.toMkM hR5 hx5 hgm1' hS' hrep hkb hsb
  clear hS' hrep hkb hsb HFD hmF hmE k4 km
  try go_wp2_with fail
  first | go_end0 | refine bodyPost_ret (v := .tuple #[]) (by simp [results, Tryz.results89, go_sem]) rfl ?_
  exact ⟨rfl, whob, V5, by rw [HDO.out, feed_eq hx5]; exact hRb, hm5.trans hmb, hg5, hgm5⟩
set_option maxRecDepth 100000 in
set_option maxHeartbeats 0 in
theorem do5_any
    (hX : MkC X K nc) (h : RunW X K base gr nc w who V r) (hok : RnOk nc r) {t : Nat} {x : Th M} (hx : r.ths[t]? = some x) (hask : X.asked x.m) {gt : Nat} (hgt : V.gt[t]? = some gt) (hev : r.events.length ≤ 1000) (hus : r.used ≤ 4194304) (hth : r.ths.length ≤ 1048576)
        {wt : Want} (hwt : K.now x.m = wt)
    (hq : wt.what = 4) {b1 b2 b3 b4 : Nat} (hC : Clo w gr t gt wt b1 b2 b3 b4) (hn : who b1 = none ∧ who b2 = none ∧ who b3 = none ∧ who b4 = none) :
    Calls Tryz.prog 91 #[ptrV b1, ptrV b2, ptrV b3, ptrV b4] w fun e w' => e = .returned (.tuple #[]) ∧ Step X K base gr nc w who V w' (r.doo K t wt) := by
  have HF0 : Hid (∀ w S g, X.Rep w S g x.m → Calls Tryz.prog X.feedF #[.pointer (some ⟨g, 0, none⟩), .int .u64 0] w fun e w' => e = .returned (.int .i64 0) ∧ MOp X w S g (K.feed x.m 0) w') := Lib.hid (fun w S g (h : X.Rep w S g x.m) => hX.feed h hask (by rw [hwt, hq]; decide) (by rw [hwt, hq]; decide) (v := 0) (by decide))
  have HDO : Hid (r.doo K t wt = (r.out t wt.val).feed K t 0) := Lib.hid (by
    unfold Rn.doo
    rw [if_neg (by rw [hq]; decide), if_neg (by rw [hq]; decide), if_neg (by rw [hq]; decide), if_pos hq])
  have htl := (List.getElem?_eq_some_iff.1 hx).1
  have hto : t < r.outs.length := by rw [hok.outs]; exact htl
  have hln := mem_getD (P := fun l => l.length ≤ r.used) hok.outi [] (Nat.zero_le _) t
  obtain ⟨L, hL⟩ : ∃ y, y = r.outs.getD t [] := ⟨_, rfl⟩
  rw [← hL] at hln
  have HL := Lib.hid hL
  obtain ⟨A, cA, hev', hcA⟩ := own_slice (h.own (.outi t))
  simp only [RV.val, rowN, ← hL] at hev' hcA
  have hcol : t < V.outi.length := by rw [h.outl]; exact hto
  obtain ⟨gb, capb, hvb, hwb, ⟨csb, hbb⟩, _, hcb⟩ := h.slice .outs (by show 0 < V.outi.length; omega)
  simp only [RV.val, rowN, rowX] at hvb hcb
  have hjb : V.outi[t]? = some (.slice A L.length cA) := by
    rw [← hev', List.getD_eq_getElem?_getD, List.getElem?_eq_getElem hcol]; rfl
  have hcb := hcb t _ hjb
  unfold ptrV
  go_enter Tryz.func91, Tryz.ntmps91
  go_upto_region 0 with fail
  obtain ⟨S, hS⟩ : ∃ S : Nat → Prop, ∀ k, S k ↔ (RV.val V (.outi t)).ownBlock = some k := ⟨_, fun _ => Iff.rfl⟩
  have nS : ∀ {k : Nat}, who k ≠ some (.row (.outi t)) → ¬ S k := fun hk hs => hk (RunW.ownW h (.outi t) _ ((hS _).1 hs))
  have hgrn : ¬ S gr := nS (by rw [(RunW.run h).1]; exact fun e => by cases e)
  have hb1n : ¬ S b1 := nS (by rw [hn.1]; exact fun e => by cases e)
  have hb2n : ¬ S b2 := nS (by rw [hn.2.1]; exact fun e => by cases e)
  have hb3n : ¬ S b3 := nS (by rw [hn.2.2.1]; exact fun e => by cases e)
  have hgbn : ¬ S gb := nS (by rw [hwb]; exact fun e => by cases e)
  have k13 : ∀ p : Cls (KeptS S w), p.w.cell? ⟨gr, 13, none⟩ = some (.slice (some ⟨gb, 0, none⟩) V.outi.length capb) := fun p => by
    rw [h.seeRun (h.sees hS p) (fun e => by cases e) 13, ← hvb]; rfl
  have kb : ∀ p : Cls (KeptS S w), p.w.cell? ⟨gb, t, none⟩ = some (.slice A L.length cA) := fun p => (World.cell?_of_block (p.h.2.2.2.2 gb hbb.lt hgbn)).trans hcb
  have kR : ∀ p : Cls (KeptS S w), p.w.cell? ⟨b1, 0, none⟩ = some (.pointer (some ⟨gr, 0, none⟩)) := fun p => (p.h.blk hC.cr hb1n).cell 0
  have kT : ∀ p : Cls (KeptS S w), p.w.cell? ⟨b2, 0, none⟩ = some (.int .i64 (t : Int)) := fun p => (p.h.blk hC.ct hb2n).cell 0
  have k3 : ∀ p : Cls (KeptS S w), p.w.cell? ⟨b3, 3, none⟩ = some (.int .u64 wt.val) := fun p => (p.h.blk hC.cw hb3n).cell 3
  have bb1 : (0 : Int) ≤ (t : Int) := by omega
  have bb2 : (t : Int) < (V.outi.length : Int) := by omega
  have HVB := Lib.hid hvb
  have hjb := Lib.hid hjb
  have HTO := Lib.hid hto
  clear hvb hL hwt hq hask hto
  obtain ⟨i0, hi0, hz0, hz1, hz2⟩ := info_parts info_u64
  have HEV := Lib.hid hev'
  have HS := Lib.hid hS
  clear hev' hS nS
  refine wp_region_float_at (KeptS S w) 16 2 [0, 1, 2, 3, 4, 5, 6, 7, 8, 9, 10, 11, 12, 13] [] ((KeptS.refl _ w).dn 1) (by kernel_rfl) (by kernel_rfl) ?_
  intro hne
  simp only [pickL, List.map_cons, List.map_nil, List.getElem?_cons_succ, List.getElem?_cons_zero, Option.getD_some]
  repeat (go_big_quiet_step (fail))
  refine wpQuiet_nil ?_
  refine floatG_one (i := 14) (by kernel_rfl) (by decide) rfl ?_
  go_wp2_with fail
  have hk7 : KeptS S w ((World.drewN w 1).alloc (.cells #[.int .u64 (wt.val : Nat)] 40)) := ((KeptS.refl _ w).dn 1).al _
  refine onG_mk (fun _ => ⟨⟨_, hk7⟩, rfl⟩) ?_
  obtain ⟨w7, hw7⟩ : ∃ y, y = (World.drewN w 1).alloc (.cells #[.int .u64 (wt.val : Nat)] 40) := ⟨_, rfl⟩
  have hb7 : Below (w).heap.size w w7 := by rw [hw7]; exact Kit.Below.al (Kit.Below.dn (Below.refl _ _)) _
  have hN7 : Blk w7 (w).heap.size 40 (List.toArray [u64V wt.val]) := by rw [hw7]; exact Blk.new (World.drewN w 1) _ _
  obtain ⟨hR7, hm7⟩ := RunW.below' hX.toMkM h hb7
  have hev7 := RunW.own hR7 (.outi t)
  simp only [RV.val, rowN, rowX, rowT, rowS] at hev7
  rw [HEV.out, ← HL.out] at hev7
  have HEO := Lib.hid hev7
  rw [← hw7] at hk7 ⊢
  have hbs := RunW.base_le hR7
  have hml : (16 * 1048576 : Nat) ≤ maxLen := by decide
  clear hw7 hev7 k13 kb kR kT k3
  refine floatG_one (i := 15) (by kernel_rfl) (by decide) rfl ?_
  refine wpList_append_lies _ (by rfl) _ _ _ (by rfl) base 40 i0 _ 1 8 Tryz.underlying32 hi0 hz0 hz1 hz2 rfl (by omega) _ L.length _ (by rfl) HEO.out ⟨(w).heap.size, 0, none⟩ 1 1 [u64V wt.val] (by rfl) rfl (news_one hN7) (one_one rfl) (by omega) (by omega) (by omega) hbs _ rfl ?_
  intro g8 cap8 w8 hown8 hgrow8 hat8 hlt8
  have hk8 := kept_grown hk7 hgrow8 (fun k hk => (HS.out k).2 (by rw [show RV.val V (.outi t) = _ from HEV.out]; exact hk))
  refine onG_mk (fun _ => ⟨⟨_, hk8⟩, rfl⟩) ?_
  refine (show tailG _ _ _ _ _ _ _ from ⟨by kernel_rfl, ?_⟩)
  simp only [List.drop_succ_cons, List.drop_zero]
  have hB8 := hk8.blk hbb hgbn
  have kf := fun i => hB8.frozen i
  have k6 : w8.cell? ⟨gb, t, none⟩ = some (.slice A L.length cA) := (World.cell?_of_block (hk8.2.2.2.2 gb hbb.lt hgbn)).trans hcb
  go_upto_region 1 with fail
  have hst := hR7.outiS hX.toMkM HVB.out HTO.out wt.val (by rw [HEV.out]; exact hgrow8) (by rw [HEV.out]; exact hat8) hlt8 (by rw [← HL.out]; exact hown8)
  rw [← HL.out] at hst
  obtain ⟨who9, V9, hR9, hm9, hg9, hgm9⟩ := Step.trans hm7 rfl rfl hst
  generalize w8.setCell ⟨gb, t, none⟩ _ = w9 at *
  obtain ⟨hC9, hn9⟩ := hC.moves hn hm9
  clear hst hm7 hR7 hk8 hk7 hB8 kf k6 hgrow8 hat8 hlt8 hown8 HEO HEV HS hgrn hgbn hN7 hb7 hne hi0 hz0 hz1 hz2 HVB hjb hcb hbb hcol bb1 bb2 hb1n hb2n hb3n
  obtain ⟨r9, hr9⟩ : ∃ y, y = r.out t wt.val := ⟨_, rfl⟩
  have hR9 : RunW X K base gr nc w9 who9 V9 r9 := by rw [hr9]; unfold Rn.out; rw [← HL.out]; exact hR9
  have hx9 : r9.ths[t]? = some x := by rw [hr9]; exact hx
  have HR9 := Lib.hid hr9
  have hgt9 : V9.gt[t]? = some gt := by rw [hg9]; exact hgt
  clear hr9
  obtain ⟨gt', gm1, hgt1, hgm1', _, _, hrep1⟩ := RunW.thOf hR9 hx9
  have e := hgt1
  rw [hgt9] at e
  obtain rfl := Option.some.inj e
  have k4 : World.cell? w9 ⟨b4, 0, none⟩ = some (.pointer (some ⟨gt, 0, none⟩)) := (hC9).cx.cell 0
  have km : World.cell? w9 ⟨gt, 0, none⟩ = some (.iface X.T (.pointer (some ⟨gm1, 0, none⟩))) := by
    rw [RunW.seeTh hR9 (w' := w9) (P := fun _ => False) (fun _ _ _ _ => rfl) (fun e => e) hx9 hgt1 hgm1' 0]; rfl
  have HFD := Lib.hid (HF0.out _ _ _ hrep1)
  have hmF := hX.feedM gm1
  have hmE := hX.feedE
  have hts := types_size
  clear hrep1
  go_wp2_with fail
  refine HFD.out.mono ?_
  rintro e wb ⟨rfl, S', hS', hrep, hkb, hsb⟩
  obtain ⟨whob, hRb, hmb⟩ := RunW.machOp hX.toMkM hR9 hx9 hgm1' hS' hrep hkb hsb
  clear hS' hrep hkb hsb HFD hmF hmE k4 km
  try go_wp2_with fail
  first | go_end0 | refine bodyPost_ret (v := .tuple #[]) (by simp [results, Tryz.results91, go_sem]) rfl ?_
  exact ⟨rfl, whob, V9, by rw [HDO.out, ← HR9.out, feed_eq hx9]; exact hRb, hm9.trans hmb, hg9, hgm9⟩
theorem do6_any (h : RunW X K base gr nc w who V r) : Calls Tryz.prog 92 #[] w fun e w' => e = .returned (.tuple #[]) ∧ Step X K base gr nc w who V w' r := by
  go_enter Tryz.func92, Tryz.ntmps92
  try go_wp2_with fail
  first | go_end0 | refine bodyPost_ret (v := .tuple #[]) (by simp [results, Tryz.results92, go_sem]) rfl ?_
  exact ⟨rfl, Step.refl h⟩
end
end Go.Proofs.YtmjilfamjlnigaaGreat.RunW
