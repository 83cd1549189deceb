/- WALKS: what a wish is turned into: a closure. -/
import Derived.Test.YtmjilfamjlnigaaGreatQ26
namespace Go.Proofs.YtmjilfamjlnigaaGreat.RunW
open Go Go.RowKit Kit SrcP SrcW MchW OwnR
structure Clo (w:World) (gr t gt:Nat) (wt:Want) (b1 b2 b3 b4:Nat):Prop where
 cr:Blk w b1 75 #[.pointer (some ⟨gr,0,none⟩)]
 ct:Blk w b2 3 #[.int .i64 (t:Int)]
 cw:Blk w b3 100 #[.int .i64 wt.what,.int .i64 wt.loc,.int .i64 wt.mode,.int .u64 wt.val,.bool wt.ex,.bool wt.one]
 cx:Blk w b4 122 #[.pointer (some ⟨gt,0,none⟩)]
section
variable {M:Type} {X:Mk M} {K:Kd M} {base gr nc:Nat} {w w' w1:World} {who who':Nat→Option Pt} {V V':RV} {r r':Rn M}
def cloV (K:Kd M) (r:Rn M) (x:Th M) (wt:Want) (b1 b2 b3 b4:Nat):Value :=
 if wt.what=1 then .func (.func 84) #[] #[ptrV b1,ptrV b2,ptrV b3,ptrV b4]
 else if wt.what=2 then
  if K.words=true∧wt.ex=true∧(r.lastW wt:Int)≠x.ex then .func (.func 87) #[] #[ptrV b4]else .func (.func 88) #[] #[ptrV b1,ptrV b2,ptrV b3]
 else if wt.what=3 then .func (.func 89) #[] #[ptrV b1,ptrV b2,ptrV b3,ptrV b4]
 else if wt.what=4 then .func (.func 91) #[] #[ptrV b1,ptrV b2,ptrV b3,ptrV b4]
 else .func (.func 92) #[] #[]
def ActP (K:Kd M) (r:Rn M) (x:Th M) (gr t gt:Nat) (wt:Want) (w:World) (v:Value) (w':World):Prop :=
 Below w.heap.size w w'∧∃b1 b2 b3 b4,Clo w' gr t gt wt b1 b2 b3 b4∧(w.heap.size≤b1∧w.heap.size≤b2∧w.heap.size≤b3∧w.heap.size≤b4)∧v=if r.can wt then cloV K r x wt b1 b2 b3 b4 else .nilFunc
theorem Clo.below {gr t gt:Nat} {wt:Want} {b1 b2 b3 b4:Nat} (h:Clo w gr t gt wt b1 b2 b3 b4) (hb:Below w.heap.size w w'):Clo w' gr t gt wt b1 b2 b3 b4 :=
 ⟨h.cr.below' hb,h.ct.below' hb,h.cw.below' hb,h.cx.below' hb⟩
theorem ActP.mk {x:Th M} {gr t gt:Nat} {wt:Want} {b1 b2 b3 b4:Nat} {v:Value} (hb:Below w.heap.size w w1) (h:Clo w1 gr t gt wt b1 b2 b3 b4) (hs:w.heap.size≤b1∧w.heap.size≤b2∧w.heap.size≤b3∧w.heap.size≤b4) (hb':Below w1.heap.size w1 w') (hv:v=if r.can wt then cloV K r x wt b1 b2 b3 b4 else .nilFunc):ActP K r x gr t gt wt w v w' :=
 ⟨Kit.Below.then hb hb',b1,b2,b3,b4,h.below hb',hs,hv⟩
theorem can_loc {wt:Want} (h:wt.what=1∨wt.what=2):r.can wt=decide (0≤wt.loc∧wt.loc<(r.cells.length:Int)):=if_pos h
set_option maxRecDepth 100000 in
set_option maxHeartbeats 0 in
theorem act_any (hX:MkM X) (h:RunW X K base gr nc w who V r) {t:Nat} {x:Th M} (hx:r.ths[t]?=some x) {gt:Nat} (hgt:V.gt[t]?=some gt) (wt:Want) (hlc:r.last.length=r.cells.length) :
  Calls Tryz.prog 55 #[ptrV gr,.int .i64 (t:Int),.agg #[.int .i64 wt.what,.int .i64 wt.loc,.int .i64 wt.mode,.int .u64 wt.val,.bool wt.ex,.bool wt.one]] w fun e w'=>∃v,e=.returned v∧ActP K r x gr t gt wt w v w':=by
 unfold ptrV
 have htl:=(List.getElem?_eq_some_iff.1 hx).1
 go_enter Tryz.func55,Tryz.ntmps55
 go_upto_region 1 with fail
 obtain⟨w0,hw0⟩:∃y,y=((w.alloc (.cells #[.pointer (some ⟨gr,0,none⟩)] 75)).alloc (.cells #[.int .i64 (t:Int)] 3)).alloc (.cells #[.int .i64 wt.what,.int .i64 wt.loc,.int .i64 wt.mode,.int .u64 wt.val,.bool wt.ex,.bool wt.one] 100):=⟨_,rfl⟩
 have hb0:Below w.heap.size w w0:=by rw[hw0];exact Kit.Below.al (Kit.bl2) _
 have c1:Blk w0 w.heap.size 75 #[.pointer (some ⟨gr,0,none⟩)]:=by rw[hw0];exact((Blk.new w _ _).alloc _).alloc _
 have c2:Blk w0 (w.heap.size+1) 3 #[.int .i64 (t:Int)]:=by rw[hw0];exact(Blk.newAt (sizeA w _) _ _).alloc _
 have c3:Blk w0 (w.heap.size+1+1) 100 #[.int .i64 wt.what,.int .i64 wt.loc,.int .i64 wt.mode,.int .u64 wt.val,.bool wt.ex,.bool wt.one]:=by rw[hw0];exact Blk.newAt (by rw[sizeA,sizeA]) _ _
 obtain⟨hR0,hm0⟩:=h.below' hX hb0
 have HS0:Hid (w0.heap.size=w.heap.size+3):=Lib.hid (by rw[hw0,sizeA,sizeA,sizeA])
 obtain⟨gth,capth,gt',gm,hvth,hgt',hgm,hjt⟩:=hR0.thr hx
 rw[hgt]at hgt'
 obtain rfl:=Option.some.inj hgt'
 rw[←hw0]
 clear hw0 h
 obtain⟨b3,hb3⟩:∃y,y=w.heap.size+1+1:=⟨_,rfl⟩
 rw[←hb3]at c3 ⊢
 obtain⟨b2,hb2⟩:∃y,y=w.heap.size+1:=⟨_,rfl⟩
 rw[←hb2]at c2 ⊢
 obtain⟨b1,hb1⟩:∃y,y=w.heap.size:=⟨_,rfl⟩
 rw[←hb1]at c1 ⊢
 have hbs:w.heap.size≤b1∧w.heap.size≤b2∧w.heap.size≤b3∧w.heap.size≤w0.heap.size:=by have:=HS0.out;omega
 have HBS:=Lib.hid hbs
 clear hb1 hb2 hb3 hbs HS0
 have k1:∀p:Cls (Below w0.heap.size w0),p.w.cell? ⟨b1,0,none⟩=some (.pointer (some ⟨gr,0,none⟩)):=fun p=>c1.cls 0 p
 have k0:∀p:Cls (Below w0.heap.size w0),p.w.cell? ⟨b2,0,none⟩=some (.int .i64 (t:Int)):=fun p=>c2.cls 0 p
 have k2:∀p:Cls (Below w0.heap.size w0),p.w.cell? ⟨gr,2,none⟩=some (.slice (some ⟨gth,0,none⟩) r.ths.length capth):=fun p=>by
  rw[hR0.seeRun (hR0.seesB p) (fun e=>e) 2,←hvth];rfl
 have kt:∀p:Cls (Below w0.heap.size w0),p.w.cell? ⟨gth,t,none⟩=some (.pointer (some ⟨gt,0,none⟩)):=fun p=>hR0.seeRow (hR0.seesB p) (fun e=>e) (q:=.thr) hvth t _ hjt
 have b5:(0:Int)≤(t:Int):=by omega
 have b6:(t:Int)<(r.ths.length:Int):=by omega
 have HGT:=Lib.hid hgt
 clear hvth hjt hgt
 refine wp_region_float_at (Below w0.heap.size w0) 8 1 [0,1,2,3,4,5,6] [] (Below_drewN _ 1) (by kernel_rfl) (by kernel_rfl) ?_
 intro hne
 simp only[pickL,List.map_cons,List.map_nil,List.getElem?_cons_succ,List.getElem?_cons_zero,Option.getD_some]
 repeat (go_big_quiet_step (fail))
 refine wpQuiet_nil ?_
 clear k1 k0 k2 kt b5 b6
 refine fG (i:=7) rfl ?_
 go_wp2_with fail
 have hb4:Below w0.heap.size w0 ((World.drewN w0 1).alloc (.cells #[.pointer none] 122)):=Kit.Below.al (Kit.Below.dn (Below.refl _ _)) _
 have c4:Blk ((World.drewN w0 1).alloc (.cells #[.pointer none] 122)) w0.heap.size 122 #[.pointer none]:=Blk.new (World.drewN w0 1) _ _
 refine Kit.oG hb4 ?_
 generalize (World.drewN w0 1).alloc (.cells #[.pointer none] 122)=wB at *
 have kf:=fun i=>c4.frozen i
 have k4:wB.cell? ⟨w0.heap.size,0,none⟩=some (.pointer none):=c4.cell 0
 refine(show tailG _ _ _ _ _ _ _ from⟨by kernel_rfl,?_⟩)
 simp only[List.drop_succ_cons,List.drop_zero]
 go_upto_region 2 with fail
 have hb5:=Kit.Below.setN hb4 (Nat.le_refl _) (o:=0) (.pointer (some ⟨gt,0,none⟩))
 have c5:=c4.set 0 (.pointer (some ⟨gt,0,none⟩))
 generalize wB.setCell ⟨w0.heap.size,0,none⟩ (.pointer (some ⟨gt,0,none⟩))=w1 at *
 obtain⟨b4,hb4e⟩:∃y,y=w0.heap.size:=⟨_,rfl⟩
 rw[←hb4e]at c5 HBS ⊢
 have hC1:Clo w1 gr t gt wt b1 b2 b3 b4:=⟨c1.below' hb5,c2.below' hb5,c3.below' hb5,c5⟩
 obtain⟨hR1,hm1⟩:=hR0.below' hX hb5
 have HB:=Lib.hid (Kit.Below.then hb0 hb5)
 clear hb4 c4 kf k4 hb5 c5 hb4e c1 c2 c3 hR0 hm1 hm0 hb0
 have e0:w1.cell? ⟨b3,0,none⟩=some (.int .i64 wt.what):=hC1.cw.cell 0
 by_cases q1:wt.what=1
 ·rw[q1]at e0
  obtain⟨A,cA,hev,_⟩:=own_slice (hR1.own .cells)
  simp only[RV.val,rowN]at hev
  have f1:∀p:Cls (Below w1.heap.size w1),p.w.cell? ⟨b3,1,none⟩=some (.int .i64 wt.loc):=fun p=>hC1.cw.cls 1 p
  have kR:∀p:Cls (Below w1.heap.size w1),p.w.cell? ⟨b1,0,none⟩=some (.pointer (some ⟨gr,0,none⟩)):=fun p=>hC1.cr.cls 0 p
  have k3:∀p:Cls (Below w1.heap.size w1),p.w.cell? ⟨gr,3,none⟩=some (.slice A r.cells.length cA):=fun p=>by
   rw[hR1.seeRun (hR1.seesB p) (fun e=>e) 3,←hev];rfl
  clear hev
  go_upto_region 5 with fail
  clear e0
  by_cases g1:wt.loc<0
  ·have hd:decide (wt.loc<0)=true:=decide_eq_true g1
   refine wp_region_cls (Below w1.heap.size w1) (Below_drewN _ 1) (by kernel_rfl) (by kernel_rfl) ?_
   intro hne
   repeat (go_big_quiet_step ((fail)))
   refine wpQuiet_nil ?_
   intro w2 h2
   clear hne
   clear f1 kR k3
   go_wp2_with fail
   go_ret
   exact⟨_,rfl,ActP.mk HB.out hC1 HBS.out h2 (by rw[can_loc (.inl q1),if_neg (by simp only[decide_eq_true_eq];omega)];rfl)⟩
  have hd:decide (wt.loc<0)=false:=decide_eq_false g1
  by_cases g2:(r.cells.length:Int)≤wt.loc
  ·have hd2:decide ((r.cells.length:Int)≤wt.loc)=true:=decide_eq_true g2
   refine wp_region_cls (Below w1.heap.size w1) (Below_drewN _ 1) (by kernel_rfl) (by kernel_rfl) ?_
   intro hne
   repeat (go_big_quiet_step ((fail)))
   refine wpQuiet_nil ?_
   intro w2 h2
   clear hne
   clear f1 kR k3
   go_wp2_with fail
   go_ret
   exact⟨_,rfl,ActP.mk HB.out hC1 HBS.out h2 (by rw[can_loc (.inl q1),if_neg (by simp only[decide_eq_true_eq];omega)];rfl)⟩
  have hd2:decide ((r.cells.length:Int)≤wt.loc)=false:=decide_eq_false g2
  refine wp_region_cls (Below w1.heap.size w1) (Below_drewN _ 1) (by kernel_rfl) (by kernel_rfl) ?_
  intro hne
  repeat (go_big_quiet_step ((fail)))
  refine wpQuiet_nil ?_
  intro w2 h2
  clear hne
  clear f1 kR k3 hd hd2
  have hcan:r.can wt=true:=by rw[can_loc (.inl q1)];simp only[decide_eq_true_eq];omega
  obtain⟨c,hc⟩:=Int.eq_ofNat_of_zero_le (show(0:Int)≤wt.loc by omega)
  have hcl:c<r.cells.length:=by omega
  have HC:=Lib.hid hc
  have hC2:=hC1.below h2
  obtain⟨hR2,hb2⟩:=hR1.below' hX h2
  clear hc
  have e0:w2.cell? ⟨b3,0,none⟩=some (.int .i64 1):=by rw[hC2.cw.cell 0,←q1];rfl
  go_wp2_with fail
  go_ret
  exact⟨_,rfl,ActP.mk HB.out hC1 HBS.out h2 (by rw[if_pos hcan];unfold cloV;rw[if_pos q1];rfl)⟩
 by_cases q2:wt.what=2
 ·rw[q2]at e0
  obtain⟨A,cA,hev,_⟩:=own_slice (hR1.own .cells)
  simp only[RV.val,rowN]at hev
  have f1:∀p:Cls (Below w1.heap.size w1),p.w.cell? ⟨b3,1,none⟩=some (.int .i64 wt.loc):=fun p=>hC1.cw.cls 1 p
  have kR:∀p:Cls (Below w1.heap.size w1),p.w.cell? ⟨b1,0,none⟩=some (.pointer (some ⟨gr,0,none⟩)):=fun p=>hC1.cr.cls 0 p
  have k3:∀p:Cls (Below w1.heap.size w1),p.w.cell? ⟨gr,3,none⟩=some (.slice A r.cells.length cA):=fun p=>by
   rw[hR1.seeRun (hR1.seesB p) (fun e=>e) 3,←hev];rfl
  clear hev
  go_upto_region 5 with fail
  clear e0
  by_cases g1:wt.loc<0
  ·have hd:decide (wt.loc<0)=true:=decide_eq_true g1
   refine wp_region_cls (Below w1.heap.size w1) (Below_drewN _ 1) (by kernel_rfl) (by kernel_rfl) ?_
   intro hne
   repeat (go_big_quiet_step ((fail)))
   refine wpQuiet_nil ?_
   intro w2 h2
   clear hne
   clear f1 kR k3
   go_wp2_with fail
   go_ret
   exact⟨_,rfl,ActP.mk HB.out hC1 HBS.out h2 (by rw[can_loc (.inr q2),if_neg (by simp only[decide_eq_true_eq];omega)];rfl)⟩
  have hd:decide (wt.loc<0)=false:=decide_eq_false g1
  by_cases g2:(r.cells.length:Int)≤wt.loc
  ·have hd2:decide ((r.cells.length:Int)≤wt.loc)=true:=decide_eq_true g2
   refine wp_region_cls (Below w1.heap.size w1) (Below_drewN _ 1) (by kernel_rfl) (by kernel_rfl) ?_
   intro hne
   repeat (go_big_quiet_step ((fail)))
   refine wpQuiet_nil ?_
   intro w2 h2
   clear hne
   clear f1 kR k3
   go_wp2_with fail
   go_ret
   exact⟨_,rfl,ActP.mk HB.out hC1 HBS.out h2 (by rw[can_loc (.inr q2),if_neg (by simp only[decide_eq_true_eq];omega)];rfl)⟩
  have hd2:decide ((r.cells.length:Int)≤wt.loc)=false:=decide_eq_false g2
  refine wp_region_cls (Below w1.heap.size w1) (Below_drewN _ 1) (by kernel_rfl) (by kernel_rfl) ?_
  intro hne
  repeat (go_big_quiet_step ((fail)))
  refine wpQuiet_nil ?_
  intro w2 h2
  clear hne
  clear f1 kR k3 hd hd2
  have hcan:r.can wt=true:=by rw[can_loc (.inr q2)];simp only[decide_eq_true_eq];omega
  obtain⟨c,hc⟩:=Int.eq_ofNat_of_zero_le (show(0:Int)≤wt.loc by omega)
  have hcl:c<r.cells.length:=by omega
  have HC:=Lib.hid hc
  have hC2:=hC1.below h2
  obtain⟨hR2,hb2⟩:=hR1.below' hX h2
  clear hc
  have e0:w2.cell? ⟨b3,0,none⟩=some (.int .i64 2):=by rw[hC2.cw.cell 0,←q2];rfl
  go_upto_region 9 with fail
  obtain⟨gl,capl,hvl,_⟩:=hR2.slice .last (by show 0<r.last.length;omega)
  simp only[RV.val,rowN]at hvl
  have hjl:(rowX V r .last)[c]?=some (.int .i64 (r.last.getD c 0:Nat)):=by
   show(r.last.map i64V)[c]?=_
   rw[List.getElem?_map,Kit.eG (by omega),Kit.gD,Kit.eG (by omega)];rfl
  obtain⟨gt',gm',hgt',hgm',_⟩:=hR2.thOf hx
  have hgg:=HGT.out
  rw[hgt']at hgg
  obtain rfl:=Option.some.inj hgg.symm
  obtain⟨lv,hlv⟩:∃y,y=r.last.getD c 0:=⟨_,rfl⟩
  rw[←hlv]at hjl
  have HLV:=Lib.hid hlv
  have f0:∀p:Cls (Below w2.heap.size w2),p.w.cell? ⟨b3,0,none⟩=some (.int .i64 2):=fun p=>by rw[hC2.cw.cls 0 p,←q2];rfl
  have f1:∀p:Cls (Below w2.heap.size w2),p.w.cell? ⟨b3,1,none⟩=some (.int .i64 (c:Int)):=fun p=>by rw[hC2.cw.cls 1 p,←HC.out];rfl
  have f4:∀p:Cls (Below w2.heap.size w2),p.w.cell? ⟨b3,4,none⟩=some (.bool wt.ex):=fun p=>hC2.cw.cls 4 p
  have kR:∀p:Cls (Below w2.heap.size w2),p.w.cell? ⟨b1,0,none⟩=some (.pointer (some ⟨gr,0,none⟩)):=fun p=>hC2.cr.cls 0 p
  have kX:∀p:Cls (Below w2.heap.size w2),p.w.cell? ⟨b4,0,none⟩=some (.pointer (some ⟨gt,0,none⟩)):=fun p=>hC2.cx.cls 0 p
  have k0:∀p:Cls (Below w2.heap.size w2),p.w.cell? ⟨gr,0,none⟩=some (.bool K.words):=fun p=>by rw[hR2.seeRun (hR2.seesB p) (fun e=>e) 0];rfl
  have k4:∀p:Cls (Below w2.heap.size w2),p.w.cell? ⟨gr,4,none⟩=some (.slice (some ⟨gl,0,none⟩) r.last.length capl):=fun p=>by
   rw[hR2.seeRun (hR2.seesB p) (fun e=>e) 4,←hvl];rfl
  have kl:∀p:Cls (Below w2.heap.size w2),p.w.cell? ⟨gl,c,none⟩=some (.int .i64 (lv:Int)):=fun p=>hR2.seeRow (hR2.seesB p) (fun e=>e) (q:=.last) hvl c _ hjl
  have kx:∀p:Cls (Below w2.heap.size w2),p.w.cell? ⟨gt,2,none⟩=some (.int .i64 x.ex):=fun p=>by rw[hR2.seeTh (hR2.seesB p) (fun e=>e) hx hgt' hgm' 2];rfl
  have b7:(0:Int)≤(c:Int):=by omega
  have b8:(c:Int)<(r.last.length:Int):=by omega
  have hlw:r.lastW wt=lv:=by unfold Rn.lastW;rw[HC.out,Int.toNat_natCast,HLV.out]
  have HLW:=Lib.hid hlw
  have H2':=Lib.hid h2
  clear hvl hjl hlv hgt' hgm' hgg hlw e0 hb2 h2
  cases hwd:K.words with
  | false =>
   rw[hwd]at k0
   refine wp_region_cls (Below w2.heap.size w2) (Below_drewN _ 1) (by kernel_rfl) (by kernel_rfl) ?_
   intro hne
   repeat (go_big_quiet_step ((fail)))
   refine wpQuiet_nil ?_
   intro w3 h3
   clear hne
   clear f0 f1 f4 kR kX k0 k4 kl kx b7 b8
   have e0:w3.cell? ⟨b3,0,none⟩=some (.int .i64 2):=by rw[(hC2.below h3).cw.cell 0,←q2];rfl
   go_wp2_with fail
   go_ret
   exact⟨_,rfl,ActP.mk HB.out hC1 HBS.out (Kit.Below.then H2'.out h3) (by rw[if_pos hcan];unfold cloV;rw[if_neg q1,if_pos q2,if_neg (fun h=>Bool.false_ne_true (hwd.symm.trans h.1))];rfl)⟩
  | true =>
   rw[hwd]at k0
   cases hex:wt.ex with
   | false =>
    rw[hex]at f4
    refine wp_region_cls (Below w2.heap.size w2) (Below_drewN _ 1) (by kernel_rfl) (by kernel_rfl) ?_
    intro hne
    repeat (go_big_quiet_step ((fail)))
    refine wpQuiet_nil ?_
    intro w3 h3
    clear hne
    clear f0 f1 f4 kR kX k0 k4 kl kx b7 b8
    have e0:w3.cell? ⟨b3,0,none⟩=some (.int .i64 2):=by rw[(hC2.below h3).cw.cell 0,←q2];rfl
    go_wp2_with fail
    go_ret
    exact⟨_,rfl,ActP.mk HB.out hC1 HBS.out (Kit.Below.then H2'.out h3) (by rw[if_pos hcan];unfold cloV;rw[if_neg q1,if_pos q2,if_neg (fun h=>Bool.false_ne_true (hex.symm.trans h.2.1))];rfl)⟩
   | true =>
    rw[hex]at f4
    by_cases hne:(lv:Int)=x.ex
    ·have hdn:decide ((lv:Int)=x.ex)=true:=decide_eq_true hne
     refine wp_region_cls (Below w2.heap.size w2) (Below_drewN _ 1) (by kernel_rfl) (by kernel_rfl) ?_
     intro hne
     repeat (go_big_quiet_step ((fail)))
     refine wpQuiet_nil ?_
     intro w3 h3
     clear hne
     clear f0 f1 f4 kR kX k0 k4 kl kx b7 b8
     have e0:w3.cell? ⟨b3,0,none⟩=some (.int .i64 2):=by rw[(hC2.below h3).cw.cell 0,←q2];rfl
     go_wp2_with fail
     go_ret
     exact⟨_,rfl,ActP.mk HB.out hC1 HBS.out (Kit.Below.then H2'.out h3) (by rw[if_pos hcan];unfold cloV;rw[if_neg q1,if_pos q2,if_neg (fun h=>h.2.2 (by rw[HLW.out];exact hne))];rfl)⟩
    ·have hdn:decide ((lv:Int)=x.ex)=false:=decide_eq_false hne
     refine wp_region_cls (Below w2.heap.size w2) (Below_drewN _ 1) (by kernel_rfl) (by kernel_rfl) ?_
     intro hne
     repeat (go_big_quiet_step ((fail)))
     refine wpQuiet_nil ?_
     intro w3 h3
     clear hne
     clear f0 f1 f4 kR kX k0 k4 kl kx b7 b8
     go_wp2_with fail
     go_ret
     exact⟨_,rfl,ActP.mk HB.out hC1 HBS.out (Kit.Below.then H2'.out h3) (by rw[if_pos hcan];unfold cloV;rw[if_neg q1,if_pos q2,if_pos ⟨hwd,hex,by rw[HLW.out];exact hne⟩];rfl)⟩
 by_cases q3:wt.what=3
 ·rw[q3]at e0
  go_upto_region 9 with fail
  have f0:∀p:Cls (Below w1.heap.size w1),p.w.cell? ⟨b3,0,none⟩=some (.int .i64 3):=fun p=>by rw[hC1.cw.cls 0 p,←q3];rfl
  refine wp_region_cls (Below w1.heap.size w1) (Below_drewN _ 1) (by kernel_rfl) (by kernel_rfl) ?_
  intro hne
  repeat (go_big_quiet_step ((fail)))
  refine wpQuiet_nil ?_
  intro w2 h2
  clear hne
  clear f0 e0
  have e0:w2.cell? ⟨b3,0,none⟩=some (.int .i64 3):=by rw[(hC1.below h2).cw.cell 0,←q3];rfl
  go_wp2_with fail
  go_ret
  exact⟨_,rfl,ActP.mk HB.out hC1 HBS.out h2 (by rw[if_pos (by unfold Rn.can;rw[q3,if_neg (by decide)];rfl)];unfold cloV;simp only[q3];rfl)⟩
 by_cases q4:wt.what=4
 ·rw[q4]at e0
  go_upto_region 9 with fail
  have f0:∀p:Cls (Below w1.heap.size w1),p.w.cell? ⟨b3,0,none⟩=some (.int .i64 4):=fun p=>by rw[hC1.cw.cls 0 p,←q4];rfl
  refine wp_region_cls (Below w1.heap.size w1) (Below_drewN _ 1) (by kernel_rfl) (by kernel_rfl) ?_
  intro hne
  repeat (go_big_quiet_step ((fail)))
  refine wpQuiet_nil ?_
  intro w2 h2
  clear hne
  clear f0 e0
  have e0:w2.cell? ⟨b3,0,none⟩=some (.int .i64 4):=by rw[(hC1.below h2).cw.cell 0,←q4];rfl
  go_wp2_with fail
  go_ret
  exact⟨_,rfl,ActP.mk HB.out hC1 HBS.out h2 (by rw[if_pos (by unfold Rn.can;rw[q4,if_neg (by decide)];rfl)];unfold cloV;simp only[q4];rfl)⟩
 by_cases q6:wt.what=6
 ·rw[q6]at e0
  go_upto_region 9 with fail
  have f0:∀p:Cls (Below w1.heap.size w1),p.w.cell? ⟨b3,0,none⟩=some (.int .i64 6):=fun p=>by rw[hC1.cw.cls 0 p,←q6];rfl
  refine wp_region_cls (Below w1.heap.size w1) (Below_drewN _ 1) (by kernel_rfl) (by kernel_rfl) ?_
  intro hne
  repeat (go_big_quiet_step ((fail)))
  refine wpQuiet_nil ?_
  intro w2 h2
  clear hne
  clear f0 e0
  have e0:w2.cell? ⟨b3,0,none⟩=some (.int .i64 6):=by rw[(hC1.below h2).cw.cell 0,←q6];rfl
  go_wp2_with fail
  go_ret
  exact⟨_,rfl,ActP.mk HB.out hC1 HBS.out h2 (by rw[if_pos (by unfold Rn.can;rw[q6,if_neg (by decide)];rfl)];unfold cloV;simp only[q6];rfl)⟩
 go_upto_region 9 with fail
 have f0:∀p:Cls (Below w1.heap.size w1),p.w.cell? ⟨b3,0,none⟩=some (.int .i64 wt.what):=fun p=>hC1.cw.cls 0 p
 have hd2:decide (wt.what=2)=false:=decide_eq_false q2
 refine wp_region_cls (Below w1.heap.size w1) (Below_drewN _ 1) (by kernel_rfl) (by kernel_rfl) ?_
 intro hne
 repeat (go_big_quiet_step ((fail)))
 refine wpQuiet_nil ?_
 intro w2 h2
 clear hne
 clear f0 e0
 have e0:w2.cell? ⟨b3,0,none⟩=some (.int .i64 wt.what):=(hC1.below h2).cw.cell 0
 go_wp2_with fail
 go_ret
 exact⟨_,rfl,ActP.mk HB.out hC1 HBS.out h2 (by
  rw[if_neg (by unfold Rn.can;rw[if_neg (by simp[q1,q2])];simp[q3,q4,q6])]
  rfl)⟩
end
end Go.Proofs.YtmjilfamjlnigaaGreat.RunW
