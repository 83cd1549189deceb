/- WALKS: the other closures. -/
import Derived.Test.YtmjilfamjlnigaaGreatQ28
import Derived.Test.YtmjilfamjlnigaaGreatQ23
namespace Go.Proofs.YtmjilfamjlnigaaGreat.RunW
open Go Go.RowKit Kit SrcP SrcW MchW OwnR
section
variable {M:Type} {X:Mk M} {K:Kd M} {base gr nc:Nat} {w w' w1:World} {who who':Nat→Option Pt} {V V':RV} {r r':Rn M}
set_option maxRecDepth 100000 in
set_option maxHeartbeats 0 in
theorem do2_any
  (hX:MkC X K nc) (h:RunW X K base gr nc w who V r) (_hok:RnOk nc r) {t:Nat} {x:Th M} (hx:r.ths[t]?=some x) (hask:X.asked x.m) {gt:Nat} (hgt:V.gt[t]?=some gt) (_hev:r.events.length≤1000) (_hus:r.used≤4194304) (_hth:r.ths.length≤1048576)
    {wt:Want} (hwt:K.now x.m=wt)
  (hq:wt.what=2) (hz:K.words=true∧wt.ex=true∧(r.lastW wt:Int)≠x.ex) {b1 b2 b3 b4:Nat} (hC:Clo w gr t gt wt b1 b2 b3 b4) :
  Calls Tryz.prog 87 #[ptrV b4] w fun e w'=>e=.returned (.tuple #[])∧Step X K base gr nc w who V w' (r.doo K t wt):=by
 have HF0:Hid (∀w S g,X.Rep w S g x.m→Calls Tryz.prog X.feedF #[.pointer (some ⟨g,0,none⟩),.int .u64 0] w fun e w'=>e=.returned (.int .i64 0)∧MOp X w S g (K.feed x.m 0) w'):=Lib.hid (fun w S g (h:X.Rep w S g x.m)=>hX.feed h hask (by rw[hwt,hq];decide) (by rw[hwt,hq];decide) (v:=0) (by decide))
 have HDO:Hid (r.doo K t wt=r.feed K t 0):=Lib.hid (by
  unfold Rn.doo
  rw[if_neg (by rw[hq];decide),if_pos hq,if_pos ⟨hz.1,hz.2.1,by simp only[Rn.th,List.getD_eq_getElem?_getD,hx,Option.getD_some];exact hz.2.2⟩])
 unfold ptrV
 clear hz hwt hq hask
 go_enter Tryz.func87,Tryz.ntmps87
 obtain⟨gt',gm1,hgt1,hgm1',_,_,hrep1⟩:=RunW.thOf h hx
 have e:=hgt1
 rw[hgt]at e
 obtain rfl:=Option.some.inj e
 have k4:World.cell? w ⟨b4,0,none⟩=some (.pointer (some ⟨gt,0,none⟩)):=(hC).cx.cell 0
 have km:World.cell? w ⟨gt,0,none⟩=some (.iface X.T (.pointer (some ⟨gm1,0,none⟩))):=by
  rw[RunW.seeTh h (w':=w) (P:=fun _=>False) (fun _ _ _ _=>rfl) (fun e=>e) hx hgt1 hgm1' 0];rfl
 have HFD:=Lib.hid (HF0.out _ _ _ hrep1)
 have hmF:=hX.feedM gm1
 have hmE:=hX.feedE
 have hts:=types_size
 clear hrep1
 go_wp2_with fail
 refine HFD.out.mono ?_
 rintro e wb ⟨rfl,S',hS',hrep,hkb,hsb⟩
 obtain⟨whob,hRb,hmb⟩:=RunW.machOp hX.toMkM h hx hgm1' hS' hrep hkb hsb
 clear hS' hrep hkb hsb HFD hmF hmE k4 km
 try go_wp2_with fail
 first | go_end0 | refine bodyPost_ret (v:=.tuple #[]) (by simp[results,Tryz.results87,go_sem]) rfl ?_
 exact⟨rfl,whob,V,by rw[HDO.out,feed_eq hx];exact hRb,hmb,rfl,rfl⟩
set_option maxRecDepth 100000 in
set_option maxHeartbeats 0 in
theorem do3_any
  (hX:MkC X K nc) (h:RunW X K base gr nc w who V r) (hok:RnOk nc r) {t:Nat} {x:Th M} (hx:r.ths[t]?=some x) (hask:X.asked x.m) {gt:Nat} (_hgt:V.gt[t]?=some gt) (hev:r.events.length≤1000) (_hus:r.used≤4194304) (hth:r.ths.length≤1048576)
    {wt:Want} (hwt:K.now x.m=wt)
  (hq:wt.what=2) (hcan:r.can wt=true) (hz:¬(K.words=true∧wt.ex=true∧(r.lastW wt:Int)≠x.ex)) {b1 b2 b3 b4:Nat} (hC:Clo w gr t gt wt b1 b2 b3 b4) :
  Calls Tryz.prog 88 #[ptrV b1,ptrV b2,ptrV b3] w fun e w'=>e=.returned (.tuple #[])∧Step X K base gr nc w who V w' (r.doo K t wt):=by
 rw[can_loc (.inr hq),decide_eq_true_eq]at hcan
 obtain⟨c,hc⟩:=Int.eq_ofNat_of_zero_le hcan.1
 have hcl:c<nc:=by have:=hok.cells;omega
 have HDO:Hid (r.doo K t wt=r.store K t wt):=Lib.hid (by
  unfold Rn.doo
  rw[if_neg (by rw[hq];decide),if_pos hq,if_neg (fun hh=>hz ⟨hh.1,hh.2.1,by have h2:=hh.2.2;simp only[Rn.th,List.getD_eq_getElem?_getD,hx,Option.getD_some]at h2;exact h2⟩)])
 have hxn:=hok.nums x (List.mem_of_getElem? hx)
 have hcon:=mem_getD (P:=fun l=>l.length≤r.events.length) hok.coi [] (Nat.zero_le _) c
 have HST:=Lib.hid (store_any hX h hx hask (by rw[hwt,hq];decide) (by rw[hwt,hq];decide) (by omega) (by omega) (by omega) (by omega) wt hc (by rw[hok.cells];exact hcl) (by rw[hok.last];exact hcl) (by rw[hok.co];exact hcl))
 unfold ptrV at HST ⊢
 have k1:w.cell? ⟨b1,0,none⟩=some (.pointer (some ⟨gr,0,none⟩)):=hC.cr.cell 0
 have k2:w.cell? ⟨b2,0,none⟩=some (.int .i64 (t:Int)):=hC.ct.cell 0
 obtain⟨c0,c1,c2,c3,c4,c5⟩:=Kit.cells6 hC.cw
 clear hz hwt hq hask hcan hc hcl hxn hcon hok hev _hus hth
 go_enter Tryz.func88,Tryz.ntmps88
 go_wp2_with (go_at_call 86;refine HST.out.mono ?_;rintro e w5 ⟨rfl,hst⟩)
 first | go_end0 | refine bodyPost_ret (v:=.tuple #[]) (by simp[results,Tryz.results88,go_sem]) rfl ?_
 exact⟨rfl,by rw[HDO.out];exact hst⟩
set_option maxRecDepth 100000 in
set_option maxHeartbeats 0 in
theorem do4_any
  (hX:MkC X K nc) (h:RunW X K base gr nc w who V r) (hok:RnOk nc r) {t:Nat} {x:Th M} (hx:r.ths[t]?=some x) (hask:X.asked x.m) {gt:Nat} (hgt:V.gt[t]?=some gt) (hev:r.events.length≤1000) (_hus:r.used≤4194304) (hth:r.ths.length≤1048576)
    {wt:Want} (hwt:K.now x.m=wt)
  (hq:wt.what=3) {b1 b2 b3 b4:Nat} (hC:Clo w gr t gt wt b1 b2 b3 b4) (hn:who b1=none∧who b2=none∧who b3=none∧who b4=none) :
  Calls Tryz.prog 89 #[ptrV b1,ptrV b2,ptrV b3,ptrV b4] w fun e w'=>e=.returned (.tuple #[])∧Step X K base gr nc w who V w' (r.doo K t wt):=by
 have HF0:Hid (∀w S g,X.Rep w S g x.m→Calls Tryz.prog X.feedF #[.pointer (some ⟨g,0,none⟩),.int .u64 0] w fun e w'=>e=.returned (.int .i64 0)∧MOp X w S g (K.feed x.m 0) w'):=Lib.hid (fun w S g (h:X.Rep w S g x.m)=>hX.feed h hask (by rw[hwt,hq];decide) (by rw[hwt,hq];decide) (v:=0) (by decide))
 have HDO:Hid (r.doo K t wt=(r.event K t 3 (-1) 0 wt.mode).feed K t 0):=Lib.hid (by
  unfold Rn.doo
  rw[if_neg (by rw[hq];decide),if_neg (by rw[hq];decide),if_pos hq])
 have hxn:=hok.nums x (List.mem_of_getElem? hx)
 have HEV:=Lib.hid (event_any hX.toMkM h hx (by omega) (by omega) (by omega) 0 3 (-1) wt.mode 0)
 unfold ptrV at HEV ⊢
 have k1:w.cell? ⟨b1,0,none⟩=some (.pointer (some ⟨gr,0,none⟩)):=hC.cr.cell 0
 have k2:w.cell? ⟨b2,0,none⟩=some (.int .i64 (t:Int)):=hC.ct.cell 0
 have c2:w.cell? ⟨b3,2,none⟩=some (.int .i64 wt.mode):=hC.cw.cell 2
 clear hwt hq hask hxn hok hev _hus hth
 go_enter Tryz.func89,Tryz.ntmps89
 go_upto_region 1 with (go_at_call 90;refine HEV.out.mono ?_;rintro e w5 ⟨rfl,who5,V5,hR5,hm5,hg5,hgm5⟩)
 clear k1 k2 c2 HEV
 obtain⟨hC5,hn5⟩:=hC.moves hn hm5
 have hx5:(r.event K t 3 (-1) 0 wt.mode).ths[t]?=some { x with nums:=x.nums++[r.events.length] }:=by
  show(r.ths.set t _)[t]?=_
  rw[List.getElem?_set_self (List.getElem?_eq_some_iff.1 hx).1]
  simp only[Rn.th,List.getD_eq_getElem?_getD,hx,Option.getD_some]
 generalize r.event K t 3 (-1) 0 wt.mode=r5 at *
 have hgt5:V5.gt[t]?=some gt:=by rw[hg5];exact hgt
 obtain⟨gt',gm1,hgt1,hgm1',_,_,hrep1⟩:=RunW.thOf hR5 hx5
 have e:=hgt1
 rw[hgt5]at e
 obtain rfl:=Option.some.inj e
 have k4:World.cell? w5 ⟨b4,0,none⟩=some (.pointer (some ⟨gt,0,none⟩)):=(hC5).cx.cell 0
 have km:World.cell? w5 ⟨gt,0,none⟩=some (.iface X.T (.pointer (some ⟨gm1,0,none⟩))):=by
  rw[RunW.seeTh hR5 (w':=w5) (P:=fun _=>False) (fun _ _ _ _=>rfl) (fun e=>e) hx5 hgt1 hgm1' 0];rfl
 have HFD:=Lib.hid (HF0.out _ _ _ hrep1)
 have hmF:=hX.feedM gm1
 have hmE:=hX.feedE
 have hts:=types_size
 clear hrep1
 go_wp2_with fail
 refine HFD.out.mono ?_
 rintro e wb ⟨rfl,S',hS',hrep,hkb,hsb⟩
 obtain⟨whob,hRb,hmb⟩:=RunW.machOp hX.toMkM hR5 hx5 hgm1' hS' hrep hkb hsb
 clear hS' hrep hkb hsb HFD hmF hmE k4 km
 try go_wp2_with fail
 first | go_end0 | refine bodyPost_ret (v:=.tuple #[]) (by simp[results,Tryz.results89,go_sem]) rfl ?_
 exact⟨rfl,whob,V5,by rw[HDO.out,feed_eq hx5];exact hRb,hm5.trans hmb,hg5,hgm5⟩
set_option maxRecDepth 100000 in
set_option maxHeartbeats 0 in
theorem do5_any
  (hX:MkC X K nc) (h:RunW X K base gr nc w who V r) (hok:RnOk nc r) {t:Nat} {x:Th M} (hx:r.ths[t]?=some x) (hask:X.asked x.m) {gt:Nat} (hgt:V.gt[t]?=some gt) (_hev:r.events.length≤1000) (hus:r.used≤4194304) (hth:r.ths.length≤1048576)
    {wt:Want} (hwt:K.now x.m=wt)
  (hq:wt.what=4) {b1 b2 b3 b4:Nat} (hC:Clo w gr t gt wt b1 b2 b3 b4) (hn:who b1=none∧who b2=none∧who b3=none∧who b4=none) :
  Calls Tryz.prog 91 #[ptrV b1,ptrV b2,ptrV b3,ptrV b4] w fun e w'=>e=.returned (.tuple #[])∧Step X K base gr nc w who V w' (r.doo K t wt):=by
 have HF0:Hid (∀w S g,X.Rep w S g x.m→Calls Tryz.prog X.feedF #[.pointer (some ⟨g,0,none⟩),.int .u64 0] w fun e w'=>e=.returned (.int .i64 0)∧MOp X w S g (K.feed x.m 0) w'):=Lib.hid (fun w S g (h:X.Rep w S g x.m)=>hX.feed h hask (by rw[hwt,hq];decide) (by rw[hwt,hq];decide) (v:=0) (by decide))
 have HDO:Hid (r.doo K t wt=(r.out t wt.val).feed K t 0):=Lib.hid (by
  unfold Rn.doo
  rw[if_neg (by rw[hq];decide),if_neg (by rw[hq];decide),if_neg (by rw[hq];decide),if_pos hq])
 have htl:=(List.getElem?_eq_some_iff.1 hx).1
 have hto:t<r.outs.length:=by rw[hok.outs];exact htl
 have hln:=mem_getD (P:=fun l=>l.length≤r.used) hok.outi [] (Nat.zero_le _) t
 obtain⟨L,hL⟩:∃y,y=r.outs.getD t []:=⟨_,rfl⟩
 rw[←hL]at hln
 have HL:=Lib.hid hL
 obtain⟨A,cA,hev',hcA⟩:=own_slice (h.own (.outi t))
 simp only[RV.val,rowN,←hL]at hev' hcA
 have hcol:t<V.outi.length:=by rw[h.outl];exact hto
 obtain⟨gb,capb,hvb,hwb,⟨csb,hbb⟩,_,hcb⟩:=h.slice .outs (by show 0<V.outi.length;omega)
 simp only[RV.val,rowN,rowX]at hvb hcb
 have hjb:V.outi[t]?=some (.slice A L.length cA):=by
  rw[←hev',Kit.gD,Kit.eG hcol];rfl
 have hcb:=hcb t _ hjb
 unfold ptrV
 go_enter Tryz.func91,Tryz.ntmps91
 go_upto_region 0 with fail
 obtain⟨S,hS⟩:∃S:Nat→Prop,∀k,S k↔(RV.val V (.outi t)).ownBlock=some k:=⟨_,fun _=>Iff.rfl⟩
 have nS:∀{k:Nat},who k≠some (.row (.outi t))→¬S k:=fun hk hs=>hk (RunW.ownW h (.outi t) _ ((hS _).1 hs))
 have hgrn:¬S gr:=nS (by rw[(RunW.run h).1];exact fun e=>by cases e)
 have hb1n:¬S b1:=nS (by rw[hn.1];exact fun e=>by cases e)
 have hb2n:¬S b2:=nS (by rw[hn.2.1];exact fun e=>by cases e)
 have hb3n:¬S b3:=nS (by rw[hn.2.2.1];exact fun e=>by cases e)
 have hgbn:¬S gb:=nS (by rw[hwb];exact fun e=>by cases e)
 have k13:∀p:Cls (KeptS S w),p.w.cell? ⟨gr,13,none⟩=some (.slice (some ⟨gb,0,none⟩) V.outi.length capb):=fun p=>by
  rw[h.seeRun (h.sees hS p) (fun e=>by cases e) 13,←hvb];rfl
 have kb:∀p:Cls (KeptS S w),p.w.cell? ⟨gb,t,none⟩=some (.slice A L.length cA):=fun p=>(World.cell?_of_block (p.h.2.2.2.2 gb hbb.lt hgbn)).trans hcb
 have kR:∀p:Cls (KeptS S w),p.w.cell? ⟨b1,0,none⟩=some (.pointer (some ⟨gr,0,none⟩)):=fun p=>(p.h.blk hC.cr hb1n).cell 0
 have kT:∀p:Cls (KeptS S w),p.w.cell? ⟨b2,0,none⟩=some (.int .i64 (t:Int)):=fun p=>(p.h.blk hC.ct hb2n).cell 0
 have k3:∀p:Cls (KeptS S w),p.w.cell? ⟨b3,3,none⟩=some (.int .u64 wt.val):=fun p=>(p.h.blk hC.cw hb3n).cell 3
 have bb1:(0:Int)≤(t:Int):=by omega
 have bb2:(t:Int)<(V.outi.length:Int):=by omega
 have HVB:=Lib.hid hvb
 have hjb:=Lib.hid hjb
 have HTO:=Lib.hid hto
 clear hvb hL hwt hq hask hto
 obtain⟨i0,hi0,hz0,hz1,hz2⟩:=info_parts info_u64
 have HEV:=Lib.hid hev'
 have HS:=Lib.hid hS
 clear hev' hS nS
 refine wp_region_float_at (KeptS S w) 16 2 [0,1,2,3,4,5,6,7,8,9,10,11,12,13] [] ((KeptS.refl _ w).dn 1) (by kernel_rfl) (by kernel_rfl) ?_
 intro hne
 simp only[pickL,List.map_cons,List.map_nil,List.getElem?_cons_succ,List.getElem?_cons_zero,Option.getD_some]
 repeat (go_big_quiet_step (fail))
 refine wpQuiet_nil ?_
 refine fG (i:=14) rfl ?_
 go_wp2_with fail
 have hk7:KeptS S w ((World.drewN w 1).alloc (.cells #[.int .u64 (wt.val:Nat)] 40)):=((KeptS.refl _ w).dn 1).al _
 refine Kit.oG hk7 ?_
 obtain⟨w7,hw7⟩:∃y,y=(World.drewN w 1).alloc (.cells #[.int .u64 (wt.val:Nat)] 40):=⟨_,rfl⟩
 have hb7:Below (w).heap.size w w7:=by rw[hw7];exact Kit.Below.al (Kit.Below.dn (Below.refl _ _)) _
 have hN7:Blk w7 (w).heap.size 40 (List.toArray [u64V wt.val]):=by rw[hw7];exact Blk.new (World.drewN w 1) _ _
 obtain⟨hR7,hm7⟩:=RunW.below' hX.toMkM h hb7
 have hev7:=RunW.own hR7 (.outi t)
 simp only[RV.val,rowN,rowX,rowT,rowS]at hev7
 rw[HEV.out,←HL.out]at hev7
 have HEO:=Lib.hid hev7
 rw[←hw7]at hk7 ⊢
 have hbs:=RunW.base_le hR7
 have hml:(16*1048576:Nat)≤maxLen:=by decide
 clear hw7 hev7 k13 kb kR kT k3
 refine fG (i:=15) rfl ?_
 refine wpList_append_lies _ (by rfl) _ _ _ (by rfl) base 40 i0 _ 1 8 Tryz.underlying32 hi0 hz0 hz1 hz2 rfl (by omega) _ L.length _ (by rfl) HEO.out ⟨(w).heap.size,0,none⟩ 1 1 [u64V wt.val] (by rfl) rfl (news_one hN7) (one_one rfl) (by omega) (by omega) (by omega) hbs _ rfl ?_
 intro g8 cap8 w8 hown8 hgrow8 hat8 hlt8
 have hk8:=kept_grown hk7 hgrow8 (fun k hk=>(HS.out k).2 (by rw[show RV.val V (.outi t)=_ from HEV.out];exact hk))
 refine Kit.oG hk8 ?_
 refine(show tailG _ _ _ _ _ _ _ from⟨by kernel_rfl,?_⟩)
 simp only[List.drop_succ_cons,List.drop_zero]
 have hB8:=hk8.blk hbb hgbn
 have kf:=fun i=>hB8.frozen i
 have k6:w8.cell? ⟨gb,t,none⟩=some (.slice A L.length cA):=(World.cell?_of_block (hk8.2.2.2.2 gb hbb.lt hgbn)).trans hcb
 go_upto_region 1 with fail
 have hst:=hR7.outiS hX.toMkM HVB.out HTO.out wt.val (by rw[HEV.out];exact hgrow8) (by rw[HEV.out];exact hat8) hlt8 (by rw[←HL.out];exact hown8)
 rw[←HL.out]at hst
 obtain⟨who9,V9,hR9,hm9,hg9,hgm9⟩:=Step.trans hm7 rfl rfl hst
 generalize w8.setCell ⟨gb,t,none⟩ _=w9 at *
 obtain⟨hC9,hn9⟩:=hC.moves hn hm9
 clear hst hm7 hR7 hk8 hk7 hB8 kf k6 hgrow8 hat8 hlt8 hown8 HEO HEV HS hgrn hgbn hN7 hb7 hne hi0 hz0 hz1 hz2 HVB hjb hcb hbb hcol bb1 bb2 hb1n hb2n hb3n
 obtain⟨r9,hr9⟩:∃y,y=r.out t wt.val:=⟨_,rfl⟩
 have hR9:RunW X K base gr nc w9 who9 V9 r9:=by rw[hr9];unfold Rn.out;rw[←HL.out];exact hR9
 have hx9:r9.ths[t]?=some x:=by rw[hr9];exact hx
 have HR9:=Lib.hid hr9
 have hgt9:V9.gt[t]?=some gt:=by rw[hg9];exact hgt
 clear hr9
 obtain⟨gt',gm1,hgt1,hgm1',_,_,hrep1⟩:=RunW.thOf hR9 hx9
 have e:=hgt1
 rw[hgt9]at e
 obtain rfl:=Option.some.inj e
 have k4:World.cell? w9 ⟨b4,0,none⟩=some (.pointer (some ⟨gt,0,none⟩)):=(hC9).cx.cell 0
 have km:World.cell? w9 ⟨gt,0,none⟩=some (.iface X.T (.pointer (some ⟨gm1,0,none⟩))):=by
  rw[RunW.seeTh hR9 (w':=w9) (P:=fun _=>False) (fun _ _ _ _=>rfl) (fun e=>e) hx9 hgt1 hgm1' 0];rfl
 have HFD:=Lib.hid (HF0.out _ _ _ hrep1)
 have hmF:=hX.feedM gm1
 have hmE:=hX.feedE
 have hts:=types_size
 clear hrep1
 go_wp2_with fail
 refine HFD.out.mono ?_
 rintro e wb ⟨rfl,S',hS',hrep,hkb,hsb⟩
 obtain⟨whob,hRb,hmb⟩:=RunW.machOp hX.toMkM hR9 hx9 hgm1' hS' hrep hkb hsb
 clear hS' hrep hkb hsb HFD hmF hmE k4 km
 try go_wp2_with fail
 first | go_end0 | refine bodyPost_ret (v:=.tuple #[]) (by simp[results,Tryz.results91,go_sem]) rfl ?_
 exact⟨rfl,whob,V9,by rw[HDO.out,←HR9.out,feed_eq hx9];exact hRb,hm9.trans hmb,hg9,hgm9⟩
theorem do6_any (h:RunW X K base gr nc w who V r):Calls Tryz.prog 92 #[] w fun e w'=>e=.returned (.tuple #[])∧Step X K base gr nc w who V w' r:=by
 go_enter Tryz.func92,Tryz.ntmps92
 try go_wp2_with fail
 first | go_end0 | refine bodyPost_ret (v:=.tuple #[]) (by simp[results,Tryz.results92,go_sem]) rfl ?_
 exact⟨rfl,Step.refl h⟩
end
section
variable {M:Type} {X:Mk M} {K:Kd M} {base gr nc:Nat} {w w' w1:World} {who who':Nat→Option Pt} {V V':RV} {r r':Rn M}
theorem do_any (hX:MkC X K nc) {t gt:Nat} {x:Th M} (hask:X.asked x.m) {wt:Want} (hwt:K.now x.m=wt) (r0:Rn M) (hcan0:r0.can wt=true) (b1 b2 b3 b4:Nat) :
  ∃fid caps,cloV K r0 x wt b1 b2 b3 b4=.func (.func fid) #[] caps∧(∀args w,(callFunc fid args).run Tryz.prog w=.ok (.enter fid args) w) ∧
   ∀{w who V} {r:Rn M},RunW X K base gr nc w who V r→RnOk nc r→r.ths[t]?=some x→V.gt[t]?=some gt→r.events.length≤1000→r.used≤4194304→r.ths.length≤1048576→r.lastW wt=r0.lastW wt→r.cells.length=r0.cells.length →
    Clo w gr t gt wt b1 b2 b3 b4→(who b1=none∧who b2=none∧who b3=none∧who b4=none)→Calls Tryz.prog fid caps w fun e w'=>e=.returned (.tuple #[])∧Step X K base gr nc w who V w' (r.doo K t wt):=by
 have cact1:∀args w,(callFunc 84 args).run Tryz.prog w=.ok (.enter 84 args) w:=fun args w=>callFunc_enter Tryz.func84 (by kernel_rfl) (by kernel_rfl) args w
 have cact2:∀args w,(callFunc 87 args).run Tryz.prog w=.ok (.enter 87 args) w:=fun args w=>callFunc_enter Tryz.func87 (by kernel_rfl) (by kernel_rfl) args w
 have cact3:∀args w,(callFunc 88 args).run Tryz.prog w=.ok (.enter 88 args) w:=fun args w=>callFunc_enter Tryz.func88 (by kernel_rfl) (by kernel_rfl) args w
 have cact4:∀args w,(callFunc 89 args).run Tryz.prog w=.ok (.enter 89 args) w:=fun args w=>callFunc_enter Tryz.func89 (by kernel_rfl) (by kernel_rfl) args w
 have cact5:∀args w,(callFunc 91 args).run Tryz.prog w=.ok (.enter 91 args) w:=fun args w=>callFunc_enter Tryz.func91 (by kernel_rfl) (by kernel_rfl) args w
 have cact6:∀args w,(callFunc 92 args).run Tryz.prog w=.ok (.enter 92 args) w:=fun args w=>callFunc_enter Tryz.func92 (by kernel_rfl) (by kernel_rfl) args w
 have hcan:∀r:Rn M,r.cells.length=r0.cells.length→r.can wt=true:=fun r hr=>by
  unfold Rn.can at hcan0 ⊢
  rw[hr]
  exact hcan0
 unfold cloV
 by_cases q1:wt.what=1
 ·rw[if_pos q1]
  exact⟨_,_,rfl,cact1,fun h hok hx hgt hev hus hth hl hc hC hn=>do1_any hX h hok hx hask hgt hev hus hth hwt q1 (hcan _ hc) hC hn⟩
 rw[if_neg q1]
 by_cases q2:wt.what=2
 ·rw[if_pos q2]
  by_cases hz:K.words=true∧wt.ex=true∧(r0.lastW wt:Int)≠x.ex
  ·rw[if_pos hz]
   exact⟨_,_,rfl,cact2,fun h hok hx hgt hev hus hth hl hc hC hn=>do2_any hX h hok hx hask hgt hev hus hth hwt q2 (by rw[hl];exact hz) hC⟩
  ·rw[if_neg hz]
   exact⟨_,_,rfl,cact3,fun h hok hx hgt hev hus hth hl hc hC hn=>do3_any hX h hok hx hask hgt hev hus hth hwt q2 (hcan _ hc) (by rw[hl];exact hz) hC⟩
 rw[if_neg q2]
 by_cases q3:wt.what=3
 ·rw[if_pos q3]
  exact⟨_,_,rfl,cact4,fun h hok hx hgt hev hus hth hl hc hC hn=>do4_any hX h hok hx hask hgt hev hus hth hwt q3 hC hn⟩
 rw[if_neg q3]
 by_cases q4:wt.what=4
 ·rw[if_pos q4]
  exact⟨_,_,rfl,cact5,fun h hok hx hgt hev hus hth hl hc hC hn=>do5_any hX h hok hx hask hgt hev hus hth hwt q4 hC hn⟩
 rw[if_neg q4]
 exact⟨_,_,rfl,cact6,fun {_ _ _ r} h hok hx hgt hev hus hth hl hc hC hn=>by
  have e:r.doo K t wt=r:=by unfold Rn.doo;rw[if_neg q1,if_neg q2,if_neg q3,if_neg q4]
  rw[e]
  exact do6_any h⟩
def IntsAt (w:World) (A:Option Addr) (l:List Int):Prop:=∀(i:Nat) (p:Int),l[i]?=some p→∃ad:Addr,A=some ad∧w.cell? (ad.add i)=some (.int .i64 p)
theorem IntsAt.moves {A:Option Addr} {l:List Int} (h:IntsAt w A l) (hn:∀ad,A=some ad→who ad.block=none) (hm:Moves who who' w w'):IntsAt w' A l:=fun i p hp=>by
 obtain⟨ad,hA,hc⟩:=h i p hp
 refine⟨ad,hA,?_⟩
 have hb:(ad.add i).block=ad.block:=by unfold Addr.add;split <;> rfl
 have hlt:(ad.add i).block<w.heap.size:=by
  rcases Nat.lt_or_ge (ad.add i).block w.heap.size with h1 | h1
  ·exact h1
  ·rw[World.cell?,Array.getElem?_eq_none h1]at hc
   cases hc
 rw[World.cell?_of_block (w:=w) (hm.keep.2.2.2.2 _ hlt (fun hne=>hne (by rw[hb];exact hn ad hA)))]
 exact hc
def PlRel (X:Mk M) (K:Kd M) (base gr nc:Nat) (w:World) (who:Nat→Option Pt) (V:RV) (r:Rn M) (picks:List Int) (fuel:Int) (mm:Nat) (s12:Value) (wr:World):Prop :=
 ∃(k:Nat) (who':Nat→Option Pt) (V':RV) (r':Rn M),s12=.int .i64 k∧k≤picks.length∧mm=picks.length-k∧RunW X K base gr nc wr who' V' r'∧Moves who who' w wr∧(V'.gt=V.gt∧V'.gm=V.gm)∧RnOk nc r' ∧
  r'.ths.length=r.ths.length∧r'.used≤4194304∧K.play fuel (picks.drop k) r'=K.play fuel picks r
structure PlPost (X:Mk M) (K:Kd M) (base gr nc:Nat) (w:World) (who:Nat→Option Pt) (V:RV) (P:Rn M × Bool) (e:Ending) (w':World):Prop where
 e:e=.returned (.int .i64 (if P.2 then 2 else 0))
 st:Step X K base gr nc w who V w' P.1
 ok:RnOk nc P.1
theorem drop_cons {l:List Int} {k:Nat} {p:Int} (h:l[k]?=some p):l.drop k=p :: l.drop (k+1):=by
 have hk:=(List.getElem?_eq_some_iff.1 h).1
 rw[List.drop_eq_getElem_cons hk]
 congr 1
 exact(List.getElem?_eq_some_iff.1 h).2
theorem nil_func (fid:Nat) (caps:Array Value) (w:World):(binOp .neq 1 (.func (.func fid) #[] caps) .nilFunc).run Tryz.prog w=.ok (.bool true) w:=by kernel_rfl
theorem nil_nil (w:World):(binOp .neq 1 .nilFunc .nilFunc).run Tryz.prog w=.ok (.bool false) w:=by kernel_rfl
theorem pick_eq {t:Nat} (htl:t<r.ths.length):r.pick K (t:Int)=if (r.ask K t).can ((r.ask K t).wants K t)then((r.ask K t).did t).doo K t ((r.ask K t).wants K t)else r.ask K t:=by
 unfold Rn.pick
 rw[if_neg (by omega)]
 simp only[Int.toNat_natCast]
set_option maxRecDepth 100000 in
set_option maxHeartbeats 0 in
theorem play_any (hX:MkC X K nc) (h:RunW X K base gr nc w who V r) (hok:RnOk nc r) (hus:r.used≤4194304) (hth:r.ths.length≤1048576) (picks:List Int) (fuel:Int) (hfu:fuel≤4194304) (hpl:picks.length≤4194304) (A:Option Addr) (cA:Nat) (hI:IntsAt w A picks) (hA:∀ad,A=some ad→who ad.block=none) :
  Calls Tryz.prog 37 #[ptrV gr,.slice A picks.length cA,.int .i64 fuel] w fun e w'=>PlPost X K base gr nc w who V (K.play fuel picks r) e w':=by
 obtain⟨P,hP⟩:∃P,P=K.play fuel picks r:=⟨_,rfl⟩
 unfold ptrV
 have hP0:=Lib.hid hP
 rw[←hP]
 clear hP
 go_enter Tryz.func37,Tryz.ntmps37
 go_wp2_with fail
 go_loopg [12] picks.length (fun mm s12 wr=>PlRel X K base gr nc w who V r picks fuel mm s12 wr)
 case atStart=>exact⟨0,who,V,r,rfl,Nat.zero_le _,rfl,h,Moves.refl who w,⟨rfl,rfl⟩,hok,rfl,hus,rfl⟩
 case round =>
  obtain⟨k,who1,V1,r1,rfl,hk,hmm,hR1,hm1,hVV,hok1,hth1,hus1,hpy⟩:=hrel
  have HM:=Lib.hid hmm
  have HPL:=Lib.hid hpy
  clear hmm hpy
  by_cases hke:k<picks.length
  ·obtain⟨p,hp⟩:∃p,picks[k]?=some p:=⟨_,Kit.eG hke⟩
   obtain⟨ad,rfl,hcp⟩:=hI.moves hA hm1 k p hp
   have HDR:=Lib.hid (drop_cons hp)
   have q1:(k:Int)<(picks.length:Int):=by omega
   have q2:(0:Int)≤(k:Int):=by omega
   clear hp
   obtain⟨B,cB,hevB,_⟩:=own_slice (hR1.own .ev)
   simp only[RV.val,rowN]at hevB
   have k6:wr.cell? ⟨gr,6,none⟩=some (.slice B r1.events.length cB):=by rw[hR1.run.2.cell 6,←hevB];rfl
   clear hevB
   go_upto_region 4 with fail
   clear hcp
   by_cases g1:256<r1.events.length
   ·have q3:(256:Int)<(r1.events.length:Int):=by omega
    have hPe:P=(r1,true):=by rw[hP0.out,←HPL.out,HDR.out,Kd.play,if_pos g1]
    have HPE:=Lib.hid hPe
    clear hPe
    go_wp2_with fail
    go_ret
    exact⟨by rw[HPE.out];rfl,⟨who1,V1,by rw[HPE.out];exact hR1,hm1,hVV.1,hVV.2⟩,by rw[HPE.out];exact hok1⟩
   have q3:¬((256:Int)<(r1.events.length:Int)):=by omega
   have k15:wr.cell? ⟨gr,15,none⟩=some (.int .i64 r1.used):=hR1.run.2.cell 15
   go_upto_region 6 with fail
   by_cases g2:fuel≤r1.used
   ·have hPe:P=(r1,false):=by rw[hP0.out,←HPL.out,HDR.out,Kd.play,if_neg g1,if_pos g2]
    have HPE:=Lib.hid hPe
    clear hPe
    go_wp2_with fail
    go_ret
    exact⟨by rw[HPE.out];rfl,⟨who1,V1,by rw[HPE.out];exact hR1,hm1,hVV.1,hVV.2⟩,by rw[HPE.out];exact hok1⟩
   have hnx:K.play fuel (picks.drop (k+1)) (r1.pick K p)=P:=by rw[hP0.out,←HPL.out,HDR.out,Kd.play,if_neg g1,if_neg g2]
   have HNP:=Lib.hid hnx
   clear hnx
   obtain⟨T,cT,hevT,_⟩:=own_slice (hR1.own .thr)
   simp only[RV.val,rowN,hR1.gtl]at hevT
   have k2:wr.cell? ⟨gr,2,none⟩=some (.slice T r1.ths.length cT):=by rw[hR1.run.2.cell 2,←hevT];rfl
   have HTV:=Lib.hid hevT
   clear hevT
   go_upto_region 7 with fail
   clear k6 k15
   by_cases g3:p<0
   ·skip
    have hpk:r1.pick K p=r1:=by unfold Rn.pick;rw[if_pos (.inl g3)]
    have HPK:=Lib.hid hpk
    clear hpk
    go_wp2_with fail
    go_roundg (picks.length-(k+1))
    case measure=>have:=HM.out;omega
    case rel=>exact⟨k+1,who1,V1,r1,by push_cast;rfl,hke,rfl,hR1,hm1,hVV,hok1,hth1,hus1,by rw[←HPK.out,HNP.out,hP0.out]⟩
   by_cases g4:(r1.ths.length:Int)≤p
   ·skip
    have hpk:r1.pick K p=r1:=by unfold Rn.pick;rw[if_pos (.inr g4)]
    have HPK:=Lib.hid hpk
    clear hpk
    go_wp2_with fail
    go_roundg (picks.length-(k+1))
    case measure=>have:=HM.out;omega
    case rel=>exact⟨k+1,who1,V1,r1,by push_cast;rfl,hke,rfl,hR1,hm1,hVV,hok1,hth1,hus1,by rw[←HPK.out,HNP.out,hP0.out]⟩
   obtain⟨t,rfl⟩:=Int.eq_ofNat_of_zero_le (show(0:Int)≤p by omega)
   have htl:t<r1.ths.length:=by omega
   have q5:¬(r1.ths.length≤t):=by omega
   clear g3 g4
   have HUL:=Lib.hid (show r1.used+1≤4194304 by omega)
   have q4:(r1.used:Int)≤4194304:=by omega
   go_upto_region 8 with fail
   clear q5
   obtain⟨x,hx⟩:∃x,r1.ths[t]?=some x:=⟨_,Kit.eG htl⟩
   obtain⟨gth,capth,gt,gm,hvth,hgt,hgm,hjt⟩:=hR1.thr hx
   have hT:=HTV.out
   rw[hvth]at hT
   injection hT with hT1 hT2 hT3
   subst hT1
   subst hT3
   have hs0:Sees (fun _=>False) who1 wr wr:=fun _ _ _ _=>rfl
   have kt:wr.cell? ⟨gth,t,none⟩=some (.pointer (some ⟨gt,0,none⟩)):=hR1.seeRow hs0 (fun e=>e) (q:=.thr) hvth t _ hjt
   have km:wr.cell? ⟨gt,0,none⟩=some (.iface X.T (.pointer (some ⟨gm,0,none⟩))):=by rw[hR1.seeTh hs0 (fun e=>e) hx hgt hgm 0];rfl
   have hrep:=hR1.part (.mach t) _ _ hx hgm
   obtain⟨s,hs⟩:∃y,y=K.now (K.next x.m):=⟨_,rfl⟩
   have HNX:Hid (Calls Tryz.prog X.nextF #[.pointer (some ⟨gm,0,none⟩)] wr fun e w'=>e=.returned (.agg #[.int .i64 s.what,.int .i64 s.loc,.int .i64 s.mode,.int .u64 s.val,.bool s.ex,.bool s.one])∧MOp X wr (fun k=>who1 k=some (.mach t)) gm (K.next x.m) w'):=by
    rw[hs];exact Lib.hid (hX.next hrep)
   have HS2:=Lib.hid hs
   have hask:=hX.asked_next x.m
   have hmN:=hX.nextM gm
   have hmE:=hX.nextE
   have hts:=types_size
   have b5:(0:Int)≤(t:Int):=by omega
   have b6:(t:Int)<(r1.ths.length:Int):=by omega
   have HX0:=Lib.hid hx
   clear hrep hs hvth hjt hT2 HTV
   go_wp2_with fail
   refine HNX.out.mono ?_
   rintro e w2 ⟨rfl,S',hS',hrep2,hk2,hst2⟩
   obtain⟨who2,hR2,hm2⟩:=hR1.machOp hX.toMkM hx hgm hS' hrep2 hk2 hst2
   rw[←ask_eq hx]at hR2
   have hval:=hX.val hrep2 hask
   have hval2:=fun e v (hv:v<M64)=>hX.val2 hrep2 hask e (v:=v) hv
   have hx2:(r1.ask K t).ths[t]?=some { x with m:=K.next x.m }:=ask_th hx
   have hwn:(r1.ask K t).wants K t=s:=by rw[wants_eq hx2];exact HS2.out.symm
   have HPI:Hid (r1.pick K (t:Int)=if (r1.ask K t).can s then((r1.ask K t).did t).doo K t s else r1.ask K t):=Lib.hid (by rw[pick_eq htl,hwn])
   have hok2:=hok1.ask (K:=K) t
   have hth2:(r1.ask K t).ths.length=r.ths.length:=(Grows.ask K r1 t).ths.trans hth1
   have hev2:(r1.ask K t).events.length≤256:=by show r1.events.length≤256;omega
   have hus2:(r1.ask K t).used=r1.used:=rfl
   clear hS' hrep2 hk2 hst2 HNX hmN hmE k2 kt km hts hR1 hx b5 b6 hok1 hwn hs0
   generalize r1.ask K t=r2 at *
   have hmm2:=hm1.trans hm2
   have HAC:=Lib.hid (act_any hX.toMkM hR2 hx2 hgt s (by rw[hok2.last,hok2.cells]))
   unfold ptrV at HAC
   go_upto_region 9 with (go_at_call 55;refine HAC.out.mono ?_;rintro e w3 ⟨v,rfl,hact⟩)
   obtain⟨hb3,b1,b2,b3,b4,hC3,hbs,hv⟩:=hact
   obtain⟨hR3,hm3⟩:=hR2.below' hX.toMkM hb3
   have hn3:who2 b1=none∧who2 b2=none∧who2 b3=none∧who2 b4=none:=⟨hR2.noOne hbs.1,hR2.noOne hbs.2.1,hR2.noOne hbs.2.2.1,hR2.noOne hbs.2.2.2⟩
   have hmm3:=hmm2.trans hm3
   clear HAC hR2 hm2 hm3 hbs hb3 hm1 hmm2
   by_cases hcan:r2.can s=true
   ·rw[if_pos hcan]at hv
    obtain⟨fid,caps,hcv,hcall,hdo⟩:=do_any (base:=base) (gr:=gr) (t:=t) (gt:=gt) hX (x:={ x with m:=K.next x.m }) hask HS2.out.symm r2 hcan b1 b2 b3 b4
    rw[hcv]at hv
    subst hv
    have HDO0:=Lib.hid (fun (w9:World) (who9:Nat→Option Pt) (V9:RV) (r9:Rn M) h1 h2 h3 h4 h5 h6 h7 h8 h9 h10 h11=>hdo (w:=w9) (who:=who9) (V:=V9) (r:=r9) h1 h2 h3 h4 h5 h6 h7 h8 h9 h10 h11)
    have hnf:=nil_func fid caps
    have HPI2:Hid (r1.pick K (t:Int)=(r2.did t).doo K t s):=Lib.hid (by rw[HPI.out,if_pos hcan])
    clear hcv hdo hcan HPI
    have hB3:=hR3.run.2
    have kf:=fun i=>hB3.frozen i
    have k15:w3.cell? ⟨gr,15,none⟩=some (.int .i64 r1.used):=by rw[hB3.cell 15,←hus2];rfl
    go_upto_region 11 with fail
    have hst:=hR3.useds hX.toMkM (r1.used+1)
    obtain⟨who4,V4,hR4,hm4,hg4,hgm4⟩:=hst
    replace hm4:=Moves.trans (Moves.refl who2 w3) hm4
    have ec:((r1.used:Int)+1)=((r1.used+1:Nat):Int):=by push_cast;rfl
    rw[←ec]at hR4 hm4
    generalize w3.setCell ⟨gr,15,none⟩ (.int .i64 ((r1.used:Int)+1))=w4 at *
    clear ec k15 kf hB3 hR3 q4 hnf
    obtain⟨r4,hr4⟩:∃y,y = { r2 with used:=r1.used+1 }:=⟨_,rfl⟩
    rw[←hr4]at hR4
    have hf4:r4.log=r2.log:=by rw[hr4]
    obtain⟨A',cA',hev,_⟩:=own_slice (hR4.own .log)
    simp only[RV.val,rowN,hf4]at hev
    have hll:=hok2.log
    rw[hus2]at hll
    have hur:=HUL.out
    obtain⟨i0,hi0,hz0,hz1,hz2⟩:=info_parts info_int
    obtain⟨S,hS⟩:∃S:Nat→Prop,∀k,S k↔(RV.val V4 .log).ownBlock=some k:=⟨_,fun _=>Iff.rfl⟩
    have nS:∀{k:Nat},who4 k≠some (.row .log)→¬S k:=fun hk hs=>hk (RunW.ownW hR4 .log _ ((hS _).1 hs))
    have hgrn:¬S gr:=nS (by rw[(RunW.run hR4).1];exact fun e=>by cases e)
    have k14:w4.cell? ⟨gr,14,none⟩=some (.slice A' r2.log.length cA'):=by rw[hR4.run.2.cell 14,←hev];rfl
    have hk7:KeptS S w4 (w4.alloc (.cells #[.int .i64 (t:Int)] 3)):=(KeptS.refl _ w4).al _
    have hb7:Below w4.heap.size w4 (w4.alloc (.cells #[.int .i64 (t:Int)] 3)):=Kit.bl1
    have hN7:Blk (w4.alloc (.cells #[.int .i64 (t:Int)] 3)) w4.heap.size 3 (List.toArray [i64V t]):=Blk.new w4 _ _
    obtain⟨hR7,hm7⟩:=RunW.below' hX.toMkM hR4 hb7
    have hev7:=RunW.own hR7 .log
    simp only[RV.val,rowN,rowX,rowT,rowS]at hev7
    rw[hev,hf4]at hev7
    have HEO:=Lib.hid hev7
    have HEV:=Lib.hid hev
    have HS:=Lib.hid hS
    have HF4:=Lib.hid hf4
    have HR4:=Lib.hid hr4
    have hbs:=RunW.base_le hR7
    have hml:(16*1048576:Nat)≤maxLen:=by decide
    clear hev hev7 hS nS hf4 hr4
    go_upto_region 12 with (at_builtin;refine wpList_append_lies _ (by rfl) _ _ _ (by rfl) base 3 i0 _ 1 8 Tryz.underlying25 hi0 hz0 hz1 hz2 rfl (by omega) _ r2.log.length _ (by rfl) HEO.out ⟨w4.heap.size,0,none⟩ 1 1 [i64V t] (by rfl) rfl (news_one hN7) (one_one rfl) (by omega) (by omega) (by omega) hbs _ rfl ?_;intro g8 cap8 w8 hown8 hgrow8 hat8 hlt8;have hk8:=kept_grown hk7 hgrow8 (fun k hk=>(HS.out k).2 (by rw[show RV.val V4 .log=_ from HEV.out];exact hk));have hB8:=hk8.blk hR4.run.2 hgrn;have kf:=fun i=>hB8.frozen i;have k6:w8.cell? ⟨gr,14,none⟩=some (.slice A' r2.log.length cA'):=by rw[hB8.cell 14,←HEV.out];rfl)
    have hst:=hR7.logs hX.toMkM t (by rw[HEV.out];exact hgrow8) (by rw[HEV.out];exact hat8) hlt8 (by rw[HF4.out];exact hown8)
    rw[HF4.out]at hst
    obtain⟨who9,V9,hR9,hm9,hg9,hgm9⟩:=Step.trans hm7 rfl rfl hst
    replace hm9:=hm4.trans hm9
    generalize w8.setCell ⟨gr,14,none⟩ _=w9 at *
    clear hst hm7 hR7 hR4 hk8 hk7 hB8 kf k6 hgrow8 hat8 hlt8 hown8 HEO HEV HS hgrn hN7 hb7 hi0 hz0 hz1 hz2 k14 hbs hml hm4 hur hll
    obtain⟨hC9,hn9⟩:=hC3.moves hn3 hm9
    have hmm9:=hmm3.trans hm9
    have hR9:RunW X K base gr nc w9 who9 V9 (r2.did t):=by
     unfold Rn.did
     rw[HR4.out]at hR9
     rw[hus2]
     exact hR9
    have hgt9:V9.gt[t]?=some gt:=by rw[hg9,hg4];exact hgt
    have HDO:=Lib.hid (HDO0.out w9 who9 V9 (r2.did t) hR9 (hok2.did t) hx2 hgt9 (by show r2.events.length≤1000;omega) (by show r2.used+1≤4194304;rw[hus2];exact HUL.out) (by show r2.ths.length≤1048576;omega) rfl rfl hC9 hn9)
    go_wp2_with fail
    refine HDO.out.mono ?_
    rintro e w10 ⟨rfl,who10,V10,hR10,hm10,hg10,hgm10⟩
    clear HDO HDO0 hcall hC9 hn9 hR9 hC3 hn3 hm9
    go_wp2_with fail
    go_roundg (picks.length-(k+1))
    case measure=>have:=HM.out;omega
    case rel =>
     exact⟨k+1,who10,V10,(r2.did t).doo K t s,by push_cast;rfl,hke,rfl,hR10,hmm9.trans hm10,⟨hg10.trans (hg9.trans (hg4.trans hVV.1)),hgm10.trans (hgm9.trans (hgm4.trans hVV.2))⟩,
      hok2.didDoo t s (by rw[HS2.out];exact hval) (fun e=>by
       have h1:=load_th (K:=K) (r:=r2.did t) hx2 s
       rw[wants_eq (ask_th h1)]
       exact hval2 (by rw[←HS2.out];exact e) _ (hok2.cellV _)),
      (Grows.doo K (r2.did t) t s).ths.trans hth2,by rw[doo_used];show r2.used+1≤4194304;rw[hus2];exact HUL.out,by rw[←HPI2.out,HNP.out,hP0.out]⟩
   ·rw[if_neg hcan]at hv
    subst hv
    have HPI2:Hid (r1.pick K (t:Int)=r2):=Lib.hid (by rw[HPI.out,if_neg hcan])
    have hnn:=nil_nil
    clear HPI hcan
    go_wp2_with fail
    go_roundg (picks.length-(k+1))
    case measure=>have:=HM.out;omega
    case rel=>exact⟨k+1,who2,V1,r2,by push_cast;rfl,hke,rfl,hR3,hmm3,hVV,hok2,hth2,by rw[hus2];exact hus1,by rw[←HPI2.out,HNP.out,hP0.out]⟩
  ·obtain rfl:k=picks.length:=by omega
   have hPe:P=(r1,decide (256<r1.events.length)):=by
    rw[hP0.out,←HPL.out,List.drop_eq_nil_of_le (Nat.le_refl _)]
    rfl
   have HPE:=Lib.hid hPe
   clear hPe
   obtain⟨B,cB,hevB,_⟩:=own_slice (hR1.own .ev)
   simp only[RV.val,rowN]at hevB
   have k6:wr.cell? ⟨gr,6,none⟩=some (.slice B r1.events.length cB):=by rw[hR1.run.2.cell 6,←hevB];rfl
   clear hevB
   by_cases g1:256<r1.events.length
   ·have q3:(256:Int)<(r1.events.length:Int):=by omega
    go_wp2_with fail
    go_ret
    exact⟨by rw[HPE.out];simp only[decide_eq_true g1];rfl,⟨who1,V1,by rw[HPE.out];exact hR1,hm1,hVV.1,hVV.2⟩,by rw[HPE.out];exact hok1⟩
   ·have q3:¬((256:Int)<(r1.events.length:Int)):=by omega
    go_wp2_with fail
    go_ret
    exact⟨by rw[HPE.out];simp only[decide_eq_false g1];rfl,⟨who1,V1,by rw[HPE.out];exact hR1,hm1,hVV.1,hVV.2⟩,by rw[HPE.out];exact hok1⟩
end
end Go.Proofs.YtmjilfamjlnigaaGreat.RunW
