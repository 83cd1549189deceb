/- WALKS: a load of a run. -/
import Derived.Test.YtmjilfamjlnigaaGreatQ13
namespace Go.Proofs.YtmjilfamjlnigaaGreat.RunW
open Go Go.RowKit Kit SrcP SrcW MchW OwnR
section
variable {M:Type} {X:Mk M} {K:Kd M} {base gr nc:Nat} {w w' w1:World} {who who':Nat→Option Pt} {V V':RV} {r r':Rn M}
theorem feed_eq {t:Nat} {x:Th M} (hx:r.ths[t]?=some x) (v:Nat):r.feed K t v = { r with ths:=r.ths.set t { x with m:=K.feed x.m v } }:=by
 unfold Rn.feed Rn.setM Rn.setT Rn.th
 simp only[List.getD_eq_getElem?_getD,hx,Option.getD_some]
set_option maxRecDepth 100000 in
set_option maxHeartbeats 4000000 in
theorem load_any (hX:MkC X K nc) (h:RunW X K base gr nc w who V r) {t c:Nat} {x:Th M} (hx:r.ths[t]?=some x) (hask:X.asked x.m) (hlo:1≤(K.now x.m).what) (hhi:(K.now x.m).what≤4) (hcvl:r.cells.getD c 0<M64) (hle:r.events.length≤8388608) (hlr:r.rf.length≤8388608) (hln:x.nums.length≤8388608) (hth:r.ths.length≤8388608) (wt:Want) (hloc:wt.loc=(c:Int)) (hc:c<r.cells.length) (hl:c<r.last.length) :
  Calls Tryz.prog 85 #[ptrV gr,.int .i64 (t:Int),.agg #[.int .i64 wt.what,.int .i64 wt.loc,.int .i64 wt.mode,.int .u64 wt.val,.bool wt.ex,.bool wt.one]] w fun e w'=>e=.returned (.int .i64 (r.events.length:Nat))∧Step X K base gr nc w who V w' (r.load K t wt):=by
 have HF0:=Lib.hid (fun w S g (h:X.Rep w S g x.m)=>hX.feed h hask hlo hhi hcvl)
 clear hask hlo hhi hcvl
 have HEV:=fun (w:World) who V (h:RunW X K base gr nc w who V r) (mode:Int) (val:Nat)=>event_any hX.toMkM h hx hle hln hth 0 1 c mode val
 unfold ptrV at HEV ⊢
 rw[hloc]
 have htl:=(List.getElem?_eq_some_iff.1 hx).1
 have hgrs:=(h.lt gr _ h.run.1).2
 obtain⟨gc,capc,hvc,hwc,⟨csc,hbc⟩,_,hcc⟩:=h.slice .cells (by show 0<r.cells.length;omega)
 simp only[RV.val,rowN]at hvc
 have kcv:w.cell? ⟨gc,c,none⟩=some (.int .u64 (r.cells.getD c 0:Nat)):=hcc c _ (by
  show(r.cells.map u64V)[c]?=_
  rw[List.getElem?_map,Kit.eG hc,Kit.gD,Kit.eG hc];rfl)
 have kr3:w.cell? ⟨gr,3,none⟩=some (.slice (some ⟨gc,0,none⟩) r.cells.length capc):=by rw[h.run.2.cell 3,←hvc];rfl
 have hgcs:=hbc.lt
 clear hcc hbc hwc hvc
 generalize hcell:r.cells.getD c 0=cv at HF0 kcv
 go_enter Tryz.func85,Tryz.ntmps85
 go_upto_region 1 with fail
 obtain⟨w0,hw0⟩:∃y,y=w.alloc (.cells #[.int .i64 wt.what,.int .i64 (c:Int),.int .i64 wt.mode,.int .u64 wt.val,.bool wt.ex,.bool wt.one] 100):=⟨_,rfl⟩
 have hb0:Below w.heap.size w w0:=by rw[hw0];exact Kit.bl1
 have hE0:Blk w0 w.heap.size 100 #[.int .i64 wt.what,.int .i64 (c:Int),.int .i64 wt.mode,.int .u64 wt.val,.bool wt.ex,.bool wt.one]:=by rw[hw0];exact Blk.new w _ _
 obtain⟨hR0,hm0⟩:=h.below' hX.toMkM hb0
 have hn0:who w.heap.size=none:=h.noOne (Nat.le_refl _)
 replace kcv:w0.cell? ⟨gc,c,none⟩=_:=(World.cell?_of_block (hb0.block gc hgcs)).trans kcv
 replace kr3:w0.cell? ⟨gr,3,none⟩=_:=(World.cell?_of_block (hb0.block gr hgrs)).trans kr3
 rw[←hw0]
 clear hw0 h hb0
 obtain⟨gE,hgg⟩:∃y,y=w.heap.size:=⟨_,rfl⟩
 rw[←hgg]at hE0 hn0 ⊢
 have hgE:w.heap.size≤gE:=by omega
 clear hgg
 have e1:∀p:Cls (Below w0.heap.size w0),p.w.cell? ⟨gE,1,none⟩=some (.int .i64 (c:Int)):=fun p=>hE0.cls 1 p
 have e2:∀p:Cls (Below w0.heap.size w0),p.w.cell? ⟨gE,2,none⟩=some (.int .i64 wt.mode):=fun p=>hE0.cls 2 p
 have hgcs0:gc<w0.heap.size:=by have:=hm0.keep.size;omega
 have hgrs0:gr<w0.heap.size:=by have:=hm0.keep.size;omega
 have e3:∀p:Cls (Below w0.heap.size w0),p.w.cell? ⟨gr,3,none⟩=some (.slice (some ⟨gc,0,none⟩) r.cells.length capc):=fun p=>(World.cell?_of_block (p.h.block gr hgrs0)).trans kr3
 have e4:∀p:Cls (Below w0.heap.size w0),p.w.cell? ⟨gc,c,none⟩=some (.int .u64 (cv:Int)):=fun p=>(World.cell?_of_block (p.h.block gc hgcs0)).trans kcv
 have b1:(0:Int)≤(c:Int):=by omega
 have b2:(c:Int)<(r.cells.length:Int):=by omega
 clear kcv kr3
 have HC:=Lib.hid hcell
 clear hcell
 refine wp_region_cls_tail (Below w0.heap.size w0) 15 (Below_drewN _ 1) (by kernel_rfl) (by kernel_rfl) ?_
 intro hne
 simp only[List.take_succ_cons,List.take_zero,List.drop_succ_cons,List.drop_zero]
 repeat (go_big_quiet_step ((fail)))
 refine wpQuiet_nil ?_
 intro w2 h2
 clear hne
 clear e1 e2 e3 e4 b1 b2
 obtain⟨hR2,hm2⟩:=hR0.below' hX.toMkM h2
 have hE2:=hE0.below' h2
 have hm2:=hm0.trans hm2
 have HE2:=Lib.hid (HEV w2 who V hR2 wt.mode cv)
 clear HEV h2 hm0 hR0 hE0 hgcs0 hgrs0
 go_wp2_with (go_at_call 90;refine HE2.out.mono ?_;rintro e w3 ⟨rfl,who3,V3,hR3,hm3,hg3,hgm3⟩)
 obtain⟨hE3,hn3⟩:=hm3.blk hE2 hn0
 have hm3:=hm2.trans hm3
 obtain⟨r3,hr3⟩:∃y,y=r.event K t 1 c cv wt.mode:=⟨_,rfl⟩
 rw[←hr3]at hR3
 have hf3:r3.rf=r.rf∧r3.last=r.last∧r3.cells=r.cells:=by rw[hr3];exact⟨rfl,rfl,rfl⟩
 obtain⟨A,cA,hev,hcA⟩:=own_slice (hR3.own .rf)
 simp only[RV.val,rowN,hf3.1]at hev hcA
 obtain⟨gl,capl,hvl,_⟩:=hR3.slice .last (by show 0<r3.last.length;rw[hf3.2.1];omega)
 have hll:rowN V3 r3 .last=r.last.length:=by show r3.last.length=_;rw[hf3.2.1]
 rw[hll]at hvl
 simp only[RV.val]at hvl
 obtain⟨lv,hlv⟩:∃y,y=r.last.getD c 0:=⟨_,rfl⟩
 have hjl:(rowX V3 r3 .last)[c]?=some (.int .i64 (lv:Int)):=by
  show(r3.last.map i64V)[c]?=_
  rw[hf3.2.1,List.getElem?_map,Kit.eG hl,hlv,Kit.gD,Kit.eG hl];rfl
 obtain⟨S,hS⟩:∃S:Nat→Prop,∀k,S k↔(RV.val V3 .rf).ownBlock=some k:=⟨_,fun _=>Iff.rfl⟩
 have nS:∀{k:Nat},who3 k≠some (.row .rf)→¬S k:=fun hk hs=>hk (RunW.ownW hR3 .rf _ ((hS _).1 hs))
 have hgrn:¬S gr:=nS (by rw[(RunW.run hR3).1];exact fun e=>by cases e)
 have hgEn:¬S gE:=nS (by rw[hn3];exact fun e=>by cases e)
 have k7:∀p:Cls (KeptS S w3),p.w.cell? ⟨gr,7,none⟩=some (.slice A r.rf.length cA):=fun p=>by
  rw[hR3.seeRun (hR3.sees hS p) (fun e=>by cases e) 7,←hev];rfl
 have k4:∀p:Cls (KeptS S w3),p.w.cell? ⟨gr,4,none⟩=some (.slice (some ⟨gl,0,none⟩) r.last.length capl):=fun p=>by
  rw[hR3.seeRun (hR3.sees hS p) (fun e=>by cases e) 4,←hvl];rfl
 have kl:∀p:Cls (KeptS S w3),p.w.cell? ⟨gl,c,none⟩=some (.int .i64 (lv:Int)):=fun p=>hR3.seeRow (hR3.sees hS p) (fun e=>by cases e) (q:=.last) hvl c _ hjl
 have e1:∀p:Cls (KeptS S w3),p.w.cell? ⟨gE,1,none⟩=some (.int .i64 (c:Int)):=fun p=>(p.h.blk hE3 hgEn).cell 1
 have b1:(0:Int)≤(c:Int):=by omega
 have b2:(c:Int)<(r.last.length:Int):=by omega
 have HF3:=Lib.hid hf3
 have HR3:=Lib.hid hr3
 have HLV:=Lib.hid hlv
 clear hf3 hr3 hlv hjl hll hvl HE2 hE2 hR2
 obtain⟨i0,hi0,hz0,hz1,hz2⟩:=info_parts info_pair
 have HEV:=Lib.hid hev
 have HS:=Lib.hid hS
 clear hev hS nS
 refine wp_region_float_at (KeptS S w3) 18 2 [0,1,2,3,4,5,6,7,8,9,10,11,12,13,14,15] [] ((KeptS.refl _ w3).dn 1) (by kernel_rfl) (by kernel_rfl) ?_
 intro hne
 simp only[pickL,List.map_cons,List.map_nil,List.getElem?_cons_succ,List.getElem?_cons_zero,Option.getD_some]
 repeat (go_big_quiet_step (fail))
 refine wpQuiet_nil ?_
 refine fG (i:=16) rfl ?_
 go_wp2_with fail
 have hk7:KeptS S w3 ((World.drewN w3 1).alloc (.cells #[.int .i64 (lv:Int),.int .i64 (r.events.length:Nat)] 51)):=((KeptS.refl _ w3).dn 1).al _
 refine Kit.oG hk7 ?_
 obtain⟨w7,hw7⟩:∃y,y=(World.drewN w3 1).alloc (.cells #[.int .i64 (lv:Int),.int .i64 (r.events.length:Nat)] 51):=⟨_,rfl⟩
 have hb7:Below (w3).heap.size w3 w7:=by rw[hw7];exact Kit.Below.al (Kit.Below.dn (Below.refl _ _)) _
 have hN7:Blk w7 (w3).heap.size 51 (List.toArray (pairC (lv,r.events.length))):=by rw[hw7];exact Blk.new (World.drewN w3 1) _ _
 obtain⟨hR7,hm7⟩:=RunW.below' hX.toMkM hR3 hb7
 have hev7:=RunW.own hR7 .rf
 simp only[RV.val,rowN,rowX,rowT,rowS]at hev7
 rw[HEV.out,HF3.out.1]at hev7
 have HEO:=Lib.hid hev7
 rw[←hw7]at hk7 ⊢
 have hbs:=RunW.base_le hR7
 have hml:(16*1048576:Nat)≤maxLen:=by decide
 clear hw7 hev7 k7 k4 kl e1
 refine fG (i:=17) rfl ?_
 refine wpList_append_lies _ (by rfl) _ _ _ (by rfl) base 51 i0 _ 2 16 Tryz.underlying28 hi0 hz0 hz1 hz2 rfl (by omega) _ r.rf.length _ (by rfl) HEO.out ⟨(w3).heap.size,0,none⟩ 1 1 (pairC (lv,r.events.length)) (by rfl) rfl (news_one hN7) (pairC_one _) (by omega) (by omega) (by omega) hbs _ rfl ?_
 intro g8 cap8 w8 hown8 hgrow8 hat8 hlt8
 have hk8:=kept_grown hk7 hgrow8 (fun k hk=>(HS.out k).2 (by rw[show RV.val V3 .rf=_ from HEV.out];exact hk))
 refine Kit.oG hk8 ?_
 refine(show tailG _ _ _ _ _ _ _ from⟨by kernel_rfl,?_⟩)
 simp only[List.drop_succ_cons,List.drop_zero]
 have hB8:=hk8.blk hR3.run.2 hgrn
 have kf:=fun i=>hB8.frozen i
 have k6:w8.cell? ⟨gr,7,none⟩=some (.slice A r.rf.length cA):=by rw[hB8.cell 7,←HEV.out];rfl
 go_upto_region 3 with fail
 have hst:=hR7.rfs hX.toMkM (lv,r.events.length) (by rw[HEV.out];exact hgrow8) (by rw[HEV.out];exact hat8) hlt8 (by rw[HF3.out.1];exact hown8)
 rw[HF3.out.1]at hst
 obtain⟨who9,V9,hR9,hm9,hg9,hgm9⟩:=Step.trans hm7 rfl rfl hst
 obtain⟨hE9,hn9⟩:=hm9.blk hE3 hn3
 replace hm9:=hm3.trans hm9
 generalize w8.setCell ⟨gr,7,none⟩ _=w9 at *
 clear hst hm3 hm7 hR7 hR3 hk8 hk7 hB8 kf k6 hgrow8 hat8 hlt8 hown8 HEO HEV HS hgrn hgEn hN7 hb7 hne hi0 hz0 hz1 hz2 hE3 hn3
 obtain⟨r9,hr9⟩:∃y,y = { r3 with rf:=r.rf++[(lv,r.events.length)] }:=⟨_,rfl⟩
 rw[←hr9]at hR9
 have hr9':r9=(r.event K t 1 c cv wt.mode).read r.events.length wt:=by
  rw[hr9,HR3.out]
  unfold Rn.read Rn.lastW
  rw[hloc,Int.toNat_natCast,HLV.out]
  rfl
 clear hr9 HR3 HF3
 have e4:w9.cell? ⟨gE,4,none⟩=some (.bool wt.ex):=hE9.cell 4
 have hx9:r9.ths[t]?=some { x with nums:=x.nums++[r.events.length] }:=by
  rw[hr9']
  show(r.ths.set t _)[t]?=_
  rw[List.getElem?_set_self htl]
  simp only[Rn.th,List.getD_eq_getElem?_getD,hx,Option.getD_some]
 have hc9:r9.cells=r.cells∧r9.last=r.last∧r9.ths.length=r.ths.length:=by
  rw[hr9']
  exact⟨rfl,rfl,by simp[Rn.read,Rn.event]⟩
 cases hex:wt.ex with
 | false =>
  rw[hex]at e4
  go_upto_region 5 with fail
  obtain⟨gth,capth,gt,gm,hvth,hgt,hgm,hjt⟩:=RunW.thr hR9 hx9
  rw[hc9.2.2]at hvth
  obtain⟨gc,capc,hvc,_⟩:=RunW.slice hR9 .cells (by show 0<(r9).cells.length;rw[hc9.1];omega)
  rw[show rowN V9 r9 .cells=r.cells.length by show(r9).cells.length=_;rw[hc9.1]]at hvc
  have hjc:(rowX V9 r9 .cells)[c]?=some (.int .u64 (cv:Int)):=by
   show((r9).cells.map u64V)[c]?=_
   rw[hc9.1,List.getElem?_map,Kit.eG hc,←HC.out,Kit.gD,Kit.eG hc];rfl
  simp only[RV.val]at hvc
  have k2:∀p:Cls (Below (w9).heap.size w9),p.w.cell? ⟨gr,2,none⟩=some (.slice (some ⟨gth,0,none⟩) r.ths.length capth):=fun p=>by
   rw[RunW.seeRun hR9 (RunW.seesB hR9 p) (fun e=>e) 2,←hvth];rfl
  have k3:∀p:Cls (Below (w9).heap.size w9),p.w.cell? ⟨gr,3,none⟩=some (.slice (some ⟨gc,0,none⟩) r.cells.length capc):=fun p=>by
   rw[RunW.seeRun hR9 (RunW.seesB hR9 p) (fun e=>e) 3,←hvc];rfl
  have kt:∀p:Cls (Below (w9).heap.size w9),p.w.cell? ⟨gth,t,none⟩=some (.pointer (some ⟨gt,0,none⟩)):=fun p=>RunW.seeRow hR9 (RunW.seesB hR9 p) (fun e=>e) (q:=.thr) hvth t _ hjt
  have kc:∀p:Cls (Below (w9).heap.size w9),p.w.cell? ⟨gc,c,none⟩=some (.int .u64 (cv:Int)):=fun p=>RunW.seeRow hR9 (RunW.seesB hR9 p) (fun e=>e) (q:=.cells) hvc c _ hjc
  have km:∀p:Cls (Below (w9).heap.size w9),p.w.cell? ⟨gt,0,none⟩=some (.iface X.T (.pointer (some ⟨gm,0,none⟩))):=fun p=>by
   rw[RunW.seeTh hR9 (RunW.seesB hR9 p) (fun e=>e) hx9 hgt hgm 0];rfl
  have k1:∀p:Cls (Below (w9).heap.size w9),p.w.cell? ⟨gE,1,none⟩=some (.int .i64 (c:Int)):=fun p=>(hE9).cls 1 p
  have b1:(0:Int)≤(c:Int):=by omega
  have b2:(c:Int)<(r.cells.length:Int):=by omega
  have b3:(0:Int)≤(t:Int):=by omega
  have b4:(t:Int)<(r.ths.length:Int):=by omega
  clear hvth hvc hjt hjc
  refine wp_region_cls_tail (Below (w9).heap.size w9) 20 (Below_drewN _ 1) (by kernel_rfl) (by kernel_rfl) ?_
  intro hne
  simp only[List.take_succ_cons,List.take_zero,List.drop_succ_cons,List.drop_zero]
  repeat (go_big_quiet_step ((fail)))
  refine wpQuiet_nil ?_
  intro wa ha
  clear hne
  clear k1 k2 k3 kt kc km b1 b2 b3 b4
  obtain⟨hRa,hma⟩:=RunW.below' hX.toMkM hR9 ha
  have hrp:=hRa.part (.mach t) _ _ hx9 hgm
  have HFD:=Lib.hid (HF0.out _ _ _ hrp)
  clear hrp
  unfold ptrV at HFD
  have hmF:=hX.feedM gm
  have hmE:=hX.feedE
  have hts:=types_size
  go_wp2_with fail
  refine HFD.out.mono ?_
  rintro e wb ⟨rfl,S',hS',hrep,hkb,hsb⟩
  go_wp2_with fail
  obtain⟨whob,hRb,hmb⟩:=hRa.machOp hX.toMkM hx9 hgm hS' hrep hkb hsb
  clear hRa hrep hkb hsb HFD hmF hmE hts
  go_ret
  refine⟨rfl,whob,V9,?_,hm9.trans (hma.trans hmb),hg9.trans hg3,hgm9.trans hgm3⟩
  rw[←feed_eq hx9]at hRb
  (have e:r9.exd K t wt=r9:=by(unfold Rn.exd;rw[if_neg (by rw[hex];exact Bool.false_ne_true)]));unfold Rn.load Rn.cell;rw[hloc,Int.toNat_natCast,HC.out,←hr9',e];exact hRb
 | true =>
  rw[hex]at e4
  go_upto_region 4 with fail
  obtain⟨gth,capth,gt,gm,hvth,hgt,hgm,hjt⟩:=hR9.thr hx9
  rw[hc9.2.2]at hvth
  obtain⟨gl,capl,hvl,_⟩:=hR9.slice .last (by show 0<r9.last.length;rw[hc9.2.1];omega)
  have hll:rowN V9 r9 .last=r.last.length:=by show r9.last.length=_;rw[hc9.2.1]
  rw[hll]at hvl
  simp only[RV.val]at hvl
  have hjl:(rowX V9 r9 .last)[c]?=some (.int .i64 (lv:Int)):=by
   show(r9.last.map i64V)[c]?=_
   rw[hc9.2.1,List.getElem?_map,Kit.eG hl,HLV.out,Kit.gD,Kit.eG hl];rfl
  have k2:∀p:Cls (Below w9.heap.size w9),p.w.cell? ⟨gr,2,none⟩=some (.slice (some ⟨gth,0,none⟩) r.ths.length capth):=fun p=>by
   rw[hR9.seeRun (hR9.seesB p) (fun e=>e) 2,←hvth];rfl
  have k4:∀p:Cls (Below w9.heap.size w9),p.w.cell? ⟨gr,4,none⟩=some (.slice (some ⟨gl,0,none⟩) r.last.length capl):=fun p=>by
   rw[hR9.seeRun (hR9.seesB p) (fun e=>e) 4,←hvl];rfl
  have kt:∀p:Cls (Below w9.heap.size w9),p.w.cell? ⟨gth,t,none⟩=some (.pointer (some ⟨gt,0,none⟩)):=fun p=>hR9.seeRow (hR9.seesB p) (fun e=>e) (q:=.thr) hvth t _ hjt
  have kl:∀p:Cls (Below w9.heap.size w9),p.w.cell? ⟨gl,c,none⟩=some (.int .i64 (lv:Int)):=fun p=>hR9.seeRow (hR9.seesB p) (fun e=>e) (q:=.last) hvl c _ hjl
  have k1:∀p:Cls (Below w9.heap.size w9),p.w.cell? ⟨gE,1,none⟩=some (.int .i64 (c:Int)):=fun p=>hE9.cls 1 p
  have b3:(0:Int)≤(t:Int):=by omega
  have b4:(t:Int)<(r.ths.length:Int):=by omega
  clear hvth hvl hjt hjl hll
  refine wp_region_cls_tail (Below w9.heap.size w9) 17 (Below_drewN _ 1) (by kernel_rfl) (by kernel_rfl) ?_
  intro hne
  simp only[List.take_succ_cons,List.take_zero,List.drop_succ_cons,List.drop_zero]
  repeat (go_big_quiet_step ((fail)))
  refine wpQuiet_nil ?_
  intro wy hy
  clear hne
  clear k1 k2 k4 kt kl b3 b4
  obtain⟨hRy,hmy⟩:=hR9.below' hX.toMkM hy
  have hEy:=hE9.below' hy
  have hby:=(hRy.part (.th t) _ _ _ hx9 hgt hgm).2
  have kf:=fun i=>hby.frozen i
  have kx:wy.cell? ⟨gt,2,none⟩=some (.int .i64 x.ex):=hby.cell 2
  go_upto_region 5 with fail
  have hst:=hRy.exs hX.toMkM hx9 hgt lv
  obtain⟨who10,V10,hR10,hm10,hg10,hgm10⟩:=Step.trans hmy rfl rfl hst
  obtain⟨hE10,hn10⟩:=hm10.blk hE9 hn9
  replace hm10:=hm9.trans hm10
  generalize wy.setCell ⟨gt,2,none⟩ _=w10 at *
  clear hst hmy hRy hEy hby kf kx hE9 hn9 hR9 hm9 e4
  obtain⟨r10,hr10⟩:∃y,y = { r9 with ths:=r9.ths.set t { x with nums:=x.nums++[r.events.length],ex:=(lv:Int) } }:=⟨_,rfl⟩
  have htl9:t<r9.ths.length:=(List.getElem?_eq_some_iff.1 hx9).1
  replace hR10:RunW X K base gr nc w10 who10 V10 r10:=by rw[hr10];exact hR10
  have hx10:r10.ths[t]?=some { x with nums:=x.nums++[r.events.length],ex:=(lv:Int) }:=by
   rw[hr10]
   show(r9.ths.set t _)[t]?=_
   rw[List.getElem?_set_self htl9]
  have hc10:r10.cells=r.cells∧r10.last=r.last∧r10.ths.length=r.ths.length:=by
   rw[hr10]
   exact⟨hc9.1,hc9.2.1,by simpa using hc9.2.2⟩
  have hexd:r10=r9.exd K t wt:=by
   rw[hr10]
   unfold Rn.exd
   rw[if_pos hex]
   unfold Rn.setT Rn.th Rn.lastW
   rw[hc9.2.1,hloc,Int.toNat_natCast,←HLV.out]
   simp only[List.getD_eq_getElem?_getD,hx9,Option.getD_some]
  clear hr10 HLV hgt hgm hc9 hx9
  obtain⟨gth,capth,gt,gm,hvth,hgt,hgm,hjt⟩:=RunW.thr hR10 hx10
  rw[hc10.2.2]at hvth
  obtain⟨gc,capc,hvc,_⟩:=RunW.slice hR10 .cells (by show 0<(r10).cells.length;rw[hc10.1];omega)
  rw[show rowN V10 r10 .cells=r.cells.length by show(r10).cells.length=_;rw[hc10.1]]at hvc
  have hjc:(rowX V10 r10 .cells)[c]?=some (.int .u64 (cv:Int)):=by
   show((r10).cells.map u64V)[c]?=_
   rw[hc10.1,List.getElem?_map,Kit.eG hc,←HC.out,Kit.gD,Kit.eG hc];rfl
  simp only[RV.val]at hvc
  have k2:∀p:Cls (Below (w10).heap.size w10),p.w.cell? ⟨gr,2,none⟩=some (.slice (some ⟨gth,0,none⟩) r.ths.length capth):=fun p=>by
   rw[RunW.seeRun hR10 (RunW.seesB hR10 p) (fun e=>e) 2,←hvth];rfl
  have k3:∀p:Cls (Below (w10).heap.size w10),p.w.cell? ⟨gr,3,none⟩=some (.slice (some ⟨gc,0,none⟩) r.cells.length capc):=fun p=>by
   rw[RunW.seeRun hR10 (RunW.seesB hR10 p) (fun e=>e) 3,←hvc];rfl
  have kt:∀p:Cls (Below (w10).heap.size w10),p.w.cell? ⟨gth,t,none⟩=some (.pointer (some ⟨gt,0,none⟩)):=fun p=>RunW.seeRow hR10 (RunW.seesB hR10 p) (fun e=>e) (q:=.thr) hvth t _ hjt
  have kc:∀p:Cls (Below (w10).heap.size w10),p.w.cell? ⟨gc,c,none⟩=some (.int .u64 (cv:Int)):=fun p=>RunW.seeRow hR10 (RunW.seesB hR10 p) (fun e=>e) (q:=.cells) hvc c _ hjc
  have km:∀p:Cls (Below (w10).heap.size w10),p.w.cell? ⟨gt,0,none⟩=some (.iface X.T (.pointer (some ⟨gm,0,none⟩))):=fun p=>by
   rw[RunW.seeTh hR10 (RunW.seesB hR10 p) (fun e=>e) hx10 hgt hgm 0];rfl
  have k1:∀p:Cls (Below (w10).heap.size w10),p.w.cell? ⟨gE,1,none⟩=some (.int .i64 (c:Int)):=fun p=>(hE10).cls 1 p
  have b1:(0:Int)≤(c:Int):=by omega
  have b2:(c:Int)<(r.cells.length:Int):=by omega
  have b3:(0:Int)≤(t:Int):=by omega
  have b4:(t:Int)<(r.ths.length:Int):=by omega
  clear hvth hvc hjt hjc
  refine wp_region_cls_tail (Below (w10).heap.size w10) 20 (Below_drewN _ 1) (by kernel_rfl) (by kernel_rfl) ?_
  intro hne
  simp only[List.take_succ_cons,List.take_zero,List.drop_succ_cons,List.drop_zero]
  repeat (go_big_quiet_step ((fail)))
  refine wpQuiet_nil ?_
  intro wa ha
  clear hne
  clear k1 k2 k3 kt kc km b1 b2 b3 b4
  obtain⟨hRa,hma⟩:=RunW.below' hX.toMkM hR10 ha
  have hrp:=hRa.part (.mach t) _ _ hx10 hgm
  have HFD:=Lib.hid (HF0.out _ _ _ hrp)
  clear hrp
  unfold ptrV at HFD
  have hmF:=hX.feedM gm
  have hmE:=hX.feedE
  have hts:=types_size
  go_wp2_with fail
  refine HFD.out.mono ?_
  rintro e wb ⟨rfl,S',hS',hrep,hkb,hsb⟩
  go_wp2_with fail
  obtain⟨whob,hRb,hmb⟩:=hRa.machOp hX.toMkM hx10 hgm hS' hrep hkb hsb
  clear hRa hrep hkb hsb HFD hmF hmE hts
  go_ret
  refine⟨rfl,whob,V10,?_,hm10.trans (hma.trans hmb),hg10.trans (hg9.trans hg3),hgm10.trans (hgm9.trans hgm3)⟩
  rw[←feed_eq hx10]at hRb
  unfold Rn.load Rn.cell;rw[hloc,Int.toNat_natCast,HC.out,←hr9',←hexd];exact hRb
end
section
variable {M:Type} {X:Mk M} {K:Kd M} {base gr nc:Nat} {w w' w1:World} {who who':Nat→Option Pt} {V V':RV} {r r':Rn M}
set_option maxRecDepth 100000 in
set_option maxHeartbeats 4000000 in
theorem store_any (hX:MkC X K nc) (h:RunW X K base gr nc w who V r) {t c:Nat} {x:Th M} (hx:r.ths[t]?=some x) (hask:X.asked x.m) (hlo:1≤(K.now x.m).what) (hhi:(K.now x.m).what≤4) (hle:r.events.length≤8388608) (hlr:(r.co.getD c []).length≤8388608) (hln:x.nums.length≤8388608) (hth:r.ths.length≤8388608) (wt:Want) (hloc:wt.loc=(c:Int)) (hc:c<r.cells.length) (hl:c<r.last.length) (hco:c<r.co.length) :
  Calls Tryz.prog 86 #[ptrV gr,.int .i64 (t:Int),.agg #[.int .i64 wt.what,.int .i64 wt.loc,.int .i64 wt.mode,.int .u64 wt.val,.bool wt.ex,.bool wt.one]] w fun e w'=>e=.returned (.int .i64 (r.events.length:Nat))∧Step X K base gr nc w who V w' (r.store K t wt):=by
 have HF0:Hid (∀w S g,X.Rep w S g x.m→Calls Tryz.prog X.feedF #[.pointer (some ⟨g,0,none⟩),.int .u64 1] w fun e w'=>e=.returned (.int .i64 0)∧MOp X w S g (K.feed x.m 1) w'):=Lib.hid (fun w S g (h:X.Rep w S g x.m)=>hX.feed h hask hlo hhi (v:=1) (by decide))
 clear hask hlo hhi
 obtain⟨L,hL⟩:∃y,y=r.co.getD c []:=⟨_,rfl⟩
 rw[←hL]at hlr
 have HL:=Lib.hid hL
 clear hL
 have HEV:=event_any hX.toMkM h hx hle hln hth 0 2 c wt.mode wt.val
 unfold ptrV at HEV ⊢
 rw[hloc]
 have htl:=(List.getElem?_eq_some_iff.1 hx).1
 have hgrs:=(h.lt gr _ h.run.1).2
 clear HEV
 go_enter Tryz.func86,Tryz.ntmps86
 go_upto_region 1 with fail
 obtain⟨w0,hw0⟩:∃y,y=w.alloc (.cells #[.int .i64 wt.what,.int .i64 (c:Int),.int .i64 wt.mode,.int .u64 wt.val,.bool wt.ex,.bool wt.one] 100):=⟨_,rfl⟩
 have hb0:Below w.heap.size w w0:=by rw[hw0];exact Kit.bl1
 have hE0:Blk w0 w.heap.size 100 #[.int .i64 wt.what,.int .i64 (c:Int),.int .i64 wt.mode,.int .u64 wt.val,.bool wt.ex,.bool wt.one]:=by rw[hw0];exact Blk.new w _ _
 obtain⟨hR0,hm0⟩:=h.below' hX.toMkM hb0
 have hn0:who w.heap.size=none:=h.noOne (Nat.le_refl _)
 rw[←hw0]
 clear hw0 h hb0 hgrs
 obtain⟨gE,hgg⟩:∃y,y=w.heap.size:=⟨_,rfl⟩
 rw[←hgg]at hE0 hn0 ⊢
 have hgE:w.heap.size≤gE:=by omega
 clear hgg
 have e1:w0.cell? ⟨gE,1,none⟩=some (.int .i64 (c:Int)):=hE0.cell 1
 have e2:w0.cell? ⟨gE,2,none⟩=some (.int .i64 wt.mode):=hE0.cell 2
 have e3:w0.cell? ⟨gE,3,none⟩=some (.int .u64 wt.val):=hE0.cell 3
 have HE2:=Lib.hid (event_any hX.toMkM hR0 hx hle hln hth 0 2 c wt.mode wt.val)
 unfold ptrV at HE2
 go_wp2_with (go_at_call 90;refine HE2.out.mono ?_;rintro e w3 ⟨rfl,who3,V3,hR3,hm3,hg3,hgm3⟩)
 obtain⟨hE3,hn3⟩:=hm3.blk hE0 hn0
 have hm3:=hm0.trans hm3
 obtain⟨r3,hr3⟩:∃y,y=r.event K t 2 c wt.val wt.mode:=⟨_,rfl⟩
 rw[←hr3]at hR3
 clear HE2 hR0 hE0 hm0 e1 e2 e3 hn0
 have hf3:r3.co=r.co∧r3.last=r.last∧r3.cells=r.cells:=by rw[hr3];exact⟨rfl,rfl,rfl⟩
 obtain⟨A,cA,hev,hcA⟩:=own_slice (hR3.own (.coi c))
 simp only[RV.val,rowN,hf3.1,←HL.out]at hev hcA
 have hcol:c<V3.coi.length:=by rw[hR3.col,hf3.1];exact hco
 obtain⟨gb,capb,hvb,hwb,⟨csb,hbb⟩,_,hcb⟩:=hR3.slice .co (by show 0<V3.coi.length;omega)
 simp only[RV.val,rowN,rowX]at hvb hcb
 have hjb:V3.coi[c]?=some (.slice A L.length cA):=by
  rw[←hev,Kit.gD,Kit.eG hcol];rfl
 have hcb:=hcb c _ hjb
 obtain⟨S,hS⟩:∃S:Nat→Prop,∀k,S k↔(RV.val V3 (.coi c)).ownBlock=some k:=⟨_,fun _=>Iff.rfl⟩
 have nS:∀{k:Nat},who3 k≠some (.row (.coi c))→¬S k:=fun hk hs=>hk (RunW.ownW hR3 (.coi c) _ ((hS _).1 hs))
 have hgrn:¬S gr:=nS (by rw[(RunW.run hR3).1];exact fun e=>by cases e)
 have hgEn:¬S gE:=nS (by rw[hn3];exact fun e=>by cases e)
 have hgbn:¬S gb:=nS (by rw[hwb];exact fun e=>by cases e)
 have k8:∀p:Cls (KeptS S w3),p.w.cell? ⟨gr,8,none⟩=some (.slice (some ⟨gb,0,none⟩) V3.coi.length capb):=fun p=>by
  rw[hR3.seeRun (hR3.sees hS p) (fun e=>by cases e) 8,←hvb];rfl
 have kb:∀p:Cls (KeptS S w3),p.w.cell? ⟨gb,c,none⟩=some (.slice A L.length cA):=fun p=>(World.cell?_of_block (p.h.2.2.2.2 gb hbb.lt hgbn)).trans hcb
 have e1:∀p:Cls (KeptS S w3),p.w.cell? ⟨gE,1,none⟩=some (.int .i64 (c:Int)):=fun p=>(p.h.blk hE3 hgEn).cell 1
 have b1:(0:Int)≤(c:Int):=by omega
 have b2:(c:Int)<(V3.coi.length:Int):=by omega
 have HF3:=Lib.hid hf3
 have HR3:=Lib.hid hr3
 have HVB:=Lib.hid hvb
 have HWB:=Lib.hid hwb
 have hjb:=Lib.hid hjb
 clear hf3 hr3 hvb hwb
 obtain⟨i0,hi0,hz0,hz1,hz2⟩:=info_parts info_int
 have HEV:=Lib.hid hev
 have HS:=Lib.hid hS
 clear hev hS nS
 refine wp_region_float_at (KeptS S w3) 19 2 [0,1,2,3,4,5,6,7,8,9,10,11,12,13,14,15,16] [] ((KeptS.refl _ w3).dn 1) (by kernel_rfl) (by kernel_rfl) ?_
 intro hne
 simp only[pickL,List.map_cons,List.map_nil,List.getElem?_cons_succ,List.getElem?_cons_zero,Option.getD_some]
 repeat (go_big_quiet_step (fail))
 refine wpQuiet_nil ?_
 refine fG (i:=17) rfl ?_
 go_wp2_with fail
 have hk7:KeptS S w3 ((World.drewN w3 1).alloc (.cells #[.int .i64 (r.events.length:Nat)] 3)):=((KeptS.refl _ w3).dn 1).al _
 refine Kit.oG hk7 ?_
 obtain⟨w7,hw7⟩:∃y,y=(World.drewN w3 1).alloc (.cells #[.int .i64 (r.events.length:Nat)] 3):=⟨_,rfl⟩
 have hb7:Below (w3).heap.size w3 w7:=by rw[hw7];exact Kit.Below.al (Kit.Below.dn (Below.refl _ _)) _
 have hN7:Blk w7 (w3).heap.size 3 (List.toArray [i64V r.events.length]):=by rw[hw7];exact Blk.new (World.drewN w3 1) _ _
 obtain⟨hR7,hm7⟩:=RunW.below' hX.toMkM hR3 hb7
 have hev7:=RunW.own hR7 (.coi c)
 simp only[RV.val,rowN,rowX,rowT,rowS]at hev7
 rw[HEV.out,HF3.out.1,←HL.out]at hev7
 have HEO:=Lib.hid hev7
 rw[←hw7]at hk7 ⊢
 have hbs:=RunW.base_le hR7
 have hml:(16*1048576:Nat)≤maxLen:=by decide
 clear hw7 hev7 k8 kb e1
 refine fG (i:=18) rfl ?_
 refine wpList_append_lies _ (by rfl) _ _ _ (by rfl) base 3 i0 _ 1 8 Tryz.underlying25 hi0 hz0 hz1 hz2 rfl (by omega) _ L.length _ (by rfl) HEO.out ⟨(w3).heap.size,0,none⟩ 1 1 [i64V r.events.length] (by rfl) rfl (news_one hN7) (one_one rfl) (by omega) (by omega) (by omega) hbs _ rfl ?_
 intro g8 cap8 w8 hown8 hgrow8 hat8 hlt8
 have hk8:=kept_grown hk7 hgrow8 (fun k hk=>(HS.out k).2 (by rw[show RV.val V3 (.coi c)=_ from HEV.out];exact hk))
 refine Kit.oG hk8 ?_
 refine(show tailG _ _ _ _ _ _ _ from⟨by kernel_rfl,?_⟩)
 simp only[List.drop_succ_cons,List.drop_zero]
 have hB8:=hk8.blk hbb hgbn
 have kf:=fun i=>hB8.frozen i
 have k6:w8.cell? ⟨gb,c,none⟩=some (.slice A L.length cA):=(World.cell?_of_block (hk8.2.2.2.2 gb hbb.lt hgbn)).trans hcb
 go_upto_region 3 with fail
 have hst:=hR7.coiS hX.toMkM HVB.out (by rw[HF3.out.1];exact hco) r.events.length (by rw[HEV.out];exact hgrow8) (by rw[HEV.out];exact hat8) hlt8 (by rw[HF3.out.1,←HL.out];exact hown8)
 rw[HF3.out.1,←HL.out]at hst
 obtain⟨who9,V9,hR9,hm9,hg9,hgm9⟩:=Step.trans hm7 rfl rfl hst
 obtain⟨hE9,hn9⟩:=hm9.blk hE3 hn3
 replace hm9:=hm3.trans hm9
 generalize w8.setCell ⟨gb,c,none⟩ _=w9 at *
 clear hst hm3 hm7 hR7 hR3 hk8 hk7 hB8 kf k6 hgrow8 hat8 hlt8 hown8 HEO HEV HS hgrn hgEn hgbn hN7 hb7 hne hi0 hz0 hz1 hz2 hE3 hn3 HVB HWB hjb hcb hbb hcol b2
 obtain⟨r9,hr9⟩:∃y,y = { r3 with co:=r.co.set c (L++[r.events.length]) }:=⟨_,rfl⟩
 rw[←hr9]at hR9
 have hc9:r9.cells=r.cells∧r9.last=r.last∧r9.ths.length=r.ths.length:=by
  rw[hr9,HR3.out]
  exact⟨rfl,rfl,by simp[Rn.event]⟩
 have hx9:r9.ths[t]?=some { x with nums:=x.nums++[r.events.length] }:=by
  rw[hr9,HR3.out]
  show(r.ths.set t _)[t]?=_
  rw[List.getElem?_set_self htl]
  simp only[Rn.th,List.getD_eq_getElem?_getD,hx,Option.getD_some]
 obtain⟨gc,capc,hvc,hwc,⟨csc,hbc⟩,_,hcc⟩:=hR9.slice .cells (by show 0<r9.cells.length;rw[hc9.1];omega)
 obtain⟨gl,capl,hvl,hwl,⟨csl,hbl⟩,_,hcl⟩:=hR9.slice .last (by show 0<r9.last.length;rw[hc9.2.1];omega)
 simp only[RV.val,rowN,rowX,rowT,hc9.1]at hvc hcc hbc
 simp only[RV.val,rowN,rowX,rowT,hc9.2.1]at hvl hcl hbl
 have hcc:=hcc c _ (by rw[List.getElem?_map,Kit.eG hc];rfl)
 have hcl:=hcl c _ (by rw[List.getElem?_map,Kit.eG hl];rfl)
 have hgrc:gr≠gc:=fun e=>by
  have:=hR9.run.1
  rw[e,hwc]at this
  cases this
 have hgEc:gE≠gc:=fun e=>by
  rw[e,hwc]at hn9
  cases hn9
 have k3:∀p:Cls (KeptS (fun k=>k=gc) w9),p.w.cell? ⟨gr,3,none⟩=some (.slice (some ⟨gc,0,none⟩) r.cells.length capc):=fun p=>by
  rw[(p.h.blk hR9.run.2 hgrc).cell 3,←hvc];rfl
 have k4:∀p:Cls (KeptS (fun k=>k=gc) w9),p.w.cell? ⟨gr,4,none⟩=some (.slice (some ⟨gl,0,none⟩) r.last.length capl):=fun p=>by
  rw[(p.h.blk hR9.run.2 hgrc).cell 4,←hvl];rfl
 have e1:∀p:Cls (KeptS (fun k=>k=gc) w9),p.w.cell? ⟨gE,1,none⟩=some (.int .i64 (c:Int)):=fun p=>(p.h.blk hE9 hgEc).cell 1
 have e3:∀p:Cls (KeptS (fun k=>k=gc) w9),p.w.cell? ⟨gE,3,none⟩=some (.int .u64 wt.val):=fun p=>(p.h.blk hE9 hgEc).cell 3
 have HVC:=Lib.hid hvc
 have HVL:=Lib.hid hvl
 have hmk:KeptS (fun k=>k=gc) w9 (World.drewN w9 1):=(KeptS.refl _ w9).dn 1
 have ha:Below w9.heap.size w9 (World.drewN w9 1):=Kit.Below.dn (Below.refl _ _)
 clear hvc hvl hwc hwl
 refine wp_region_float_at (KeptS (fun k=>k=gc) w9) 17 2 [0,1,2,3,4,5,6,7,8,9,10,11,12,13,14] [] hmk (by kernel_rfl) (by kernel_rfl) ?_
 intro hne
 simp only[pickL,List.map_cons,List.map_nil,List.getElem?_cons_succ,List.getElem?_cons_zero,Option.getD_some]
 repeat (go_big_quiet_step (fail))
 refine wpQuiet_nil ?_
 clear k3 k4 e1 e3
 generalize World.drewN w9 1=wa at *
 obtain⟨hRa,hma⟩:=hR9.below' hX.toMkM ha
 have hEa:=hE9.below' ha
 have hca:Blk wa gc 40 csc:=(ha.block gc hbc.lt).trans hbc
 have hla:Blk wa gl 3 csl:=(ha.block gl hbl.lt).trans hbl
 have hgcl:gc≠gl:=blk_ne hca hla (by decide)
 have hgcl':gl≠gc:=hgcl.symm
 have fc:=fun i=>hca.frozen i
 have fl:=fun i=>hla.frozen i
 have k5:wa.cell? ⟨gc,c,none⟩=_:=(World.cell?_of_block (ha.block gc hbc.lt)).trans hcc
 have k6:wa.cell? ⟨gl,c,none⟩=_:=(World.cell?_of_block (ha.block gl hbl.lt)).trans hcl
 have b3:(c:Int)<(r.cells.length:Int):=by omega
 have b4:(c:Int)<(r.last.length:Int):=by omega
 clear hcc hcl
 refine fG (i:=15) rfl ?_
 go_wp2_with fail
 refine Kit.oG hmk ?_
 refine fG (i:=16) rfl ?_
 go_wp2_with fail
 have hmk2:=hmk.set (g:=gc) rfl c (.int .u64 (wt.val:Int))
 refine Kit.oG hmk2 ?_
 refine(show tailG _ _ _ _ _ _ _ from⟨by kernel_rfl,?_⟩)
 simp only[List.drop_succ_cons,List.drop_zero]
 go_upto_region 4 with fail
 obtain⟨hRb,hmb⟩:=hRa.cellS hX.toMkM (by rw[HVC.out,hc9.1]) (i:=c) (by rw[hc9.1];exact hc) wt.val
 obtain⟨hRd,hmd⟩:=hRb.lastS hX.toMkM (g:=gl) (cap:=capl) (i:=c) (by rw[HVL.out];simp only[hc9.2.1]) (by simp only[hc9.2.1];exact hl) r.events.length
 have hmd:=hma.trans (hmb.trans hmd)
 obtain⟨hEd,hnd⟩:=hmd.blk hE9 hn9
 replace hmd:=hm9.trans hmd
 unfold u64V at hRd hmd hEd
 unfold i64V at hRd hmd hEd
 generalize (wa.setCell ⟨gc,c,none⟩ (.int .u64 (wt.val:Int))).setCell ⟨gl,c,none⟩ (.int .i64 (r.events.length:Nat))=wd at *
 clear hRa hRb hma hmb hEa hca hla hgcl hgcl' fc fl k5 k6 hmk hmk2 ha hR9 hE9 hm9 hbc hbl HVC HVL hn9
 obtain⟨rd,hrd⟩:∃y,y=(r.event K t 2 c wt.val wt.mode).wrote r.events.length wt:=⟨_,rfl⟩
 have hrd':({ r9 with cells:=r9.cells.set c wt.val,last:=r9.last.set c r.events.length }:Rn M)=rd:=by
  rw[hrd,hr9,HR3.out,HL.out]
  unfold Rn.wrote
  rw[hloc,Int.toNat_natCast]
  rfl
 simp only[hc9.1,hc9.2.1]at hrd'
 simp only[hc9.1,hc9.2.1,hrd']at hRd
 have hxd:rd.ths[t]?=some { x with nums:=x.nums++[r.events.length] }:=by rw[←hrd'];exact hx9
 have hthl:rd.ths.length=r.ths.length:=by rw[←hrd'];exact hc9.2.2
 clear hc9 hx9 hr9 hrd' hEd hnd
 have HRD:=Lib.hid hrd
 clear hrd
 have hs0:Sees (fun _=>False) who9 wd wd:=fun _ _ _ _=>rfl
 obtain⟨gth,capth,gt,gm,hvth,hgt,hgm,hjt⟩:=hRd.thr hxd
 rw[hthl]at hvth
 have k2:wd.cell? ⟨gr,2,none⟩=some (.slice (some ⟨gth,0,none⟩) r.ths.length capth):=by rw[hRd.run.2.cell 2,←hvth];rfl
 have kt:wd.cell? ⟨gth,t,none⟩=some (.pointer (some ⟨gt,0,none⟩)):=hRd.seeRow hs0 (fun e=>e) (q:=.thr) hvth t _ hjt
 have km:wd.cell? ⟨gt,0,none⟩=some (.iface X.T (.pointer (some ⟨gm,0,none⟩))):=by rw[hRd.seeTh hs0 (fun e=>e) hxd hgt hgm 0];rfl
 have b5:(0:Int)≤(t:Int):=by omega
 have b6:(t:Int)<(r.ths.length:Int):=by omega
 have hrp:=hRd.part (.mach t) _ _ hxd hgm
 have HFD:=Lib.hid (HF0.out _ _ _ hrp)
 have hmF:=hX.feedM gm
 have hmE:=hX.feedE
 have hts:=types_size
 clear hrp hvth hjt hthl b3 b4
 go_wp2_with fail
 refine HFD.out.mono ?_
 rintro e wb ⟨rfl,S',hS',hrep,hkb,hsb⟩
 obtain⟨whob,hRb,hmb⟩:=hRd.machOp hX.toMkM hxd hgm hS' hrep hkb hsb
 clear hrep hkb hsb HFD hmF hmE hts hS' k2 kt km
 go_wp2_with fail
 go_ret
 refine⟨rfl,whob,V9,?_,hmd.trans hmb,hg9.trans hg3,hgm9.trans hgm3⟩
 have hRb:RunW X K base gr nc wb whob V9 (rd.feed K t 1):=by rw[feed_eq hxd];exact hRb
 unfold Rn.store
 rw[hloc,←HRD.out]
 exact hRb
end
end Go.Proofs.YtmjilfamjlnigaaGreat.RunW
