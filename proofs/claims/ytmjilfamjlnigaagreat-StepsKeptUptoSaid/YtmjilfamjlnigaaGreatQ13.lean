/- WALKS: a run gets an event more. -/
import Derived.Test.YtmjilfamjlnigaaGreatQ12
import Derived.Test.YtmjilfamjlnigaaGreatQ09
import Derived.Deep.AppendLies
import Derived.Test.YtmjilfamjlnigaaGreatQ10
namespace Go.Proofs.YtmjilfamjlnigaaGreat.RunW
open Go Go.RowKit Kit SrcP SrcW MchW OwnR
theorem types_size:Tryz.prog.types.size=332:=by kernel_rfl
theorem info_event:(Tryz.prog.info? 42).map (fun i=>(i.zero,i.size,i.bytes))=some (some (.agg #[.int .i64 0,.int .i64 0,.int .i64 0,.int .u64 0,.int .i64 0]),5,40):=by kernel_rfl
theorem info_int:(Tryz.prog.info? 3).map (fun i=>(i.zero,i.size,i.bytes))=some (some (.int .i64 0),1,8):=by kernel_rfl
theorem info_u64:(Tryz.prog.info? 40).map (fun i=>(i.zero,i.size,i.bytes))=some (some (.int .u64 0),1,8):=by kernel_rfl
theorem info_pair:(Tryz.prog.info? 51).map (fun i=>(i.zero,i.size,i.bytes))=some (some (.agg #[.int .i64 0,.int .i64 0]),2,16):=by kernel_rfl
theorem info_ints:(Tryz.prog.info? 25).map (fun i=>(i.zero,i.size,i.bytes))=some (some (.slice none 0 0),1,24):=by kernel_rfl
theorem info_u64s:(Tryz.prog.info? 32).map (fun i=>(i.zero,i.size,i.bytes))=some (some (.slice none 0 0),1,24):=by kernel_rfl
theorem info_pSthread:(Tryz.prog.info? 122).map (fun i=>(i.zero,i.size,i.bytes))=some (some (.pointer none),1,8):=by kernel_rfl
theorem kept_grown {S:Nat→Prop} {w w0 w1:World} {row:Option Nat} (h:KeptS S w w0) (hg:w0.grownBy w1 row) (hr:∀k,row=some k→S k):KeptS S w w1 :=
 h.trans ⟨hg.os,hg.tape,hg.output,hg.size,fun k hk hn=>hg.block k hk (fun e=>hn (hr k e.symm))⟩
theorem evC_one (e:Ev):∀u∈evC e,u.oneCell'=true:=fun u hu=>by
 simp only[evC,List.mem_cons,List.not_mem_nil,or_false]at hu
 rcases hu with rfl | rfl | rfl | rfl | rfl <;> rfl
theorem pairC_one (p:Nat × Nat):∀u∈pairC p,u.oneCell'=true:=fun u hu=>by
 simp only[pairC,List.mem_cons,List.not_mem_nil,or_false]at hu
 rcases hu with rfl | rfl <;> rfl
theorem one_one {v:Value} (h:v.oneCell'=true):∀u∈[v],u.oneCell'=true:=fun u hu=>by
 simp only[List.mem_cons,List.not_mem_nil,or_false]at hu
 subst hu
 exact h
theorem news_one {w:World} {g:Nat} {t:TypeId} {xs:List Value} (h:Blk w g t xs.toArray):∀(j:Nat) (u:Value),xs[j]?=some u→w.cell? ((⟨g,0,none⟩:Addr).add j)=some u:=fun j u hj=>by
 have e:(⟨g,0,none⟩:Addr).add j=⟨g,j,none⟩:=by unfold Addr.add;split <;> simp_all
 rw[e,h.cell]
 simpa using hj
section
variable {M:Type} {X:Mk M} {K:Kd M} {base gr nc:Nat} {w w' w1:World} {who who':Nat→Option Pt} {V V':RV} {r r':Rn M}
theorem RunW.base_le (h:RunW X K base gr nc w who V r):base≤w.heap.size:=by
 have:=h.lt gr _ h.run.1
 omega
theorem RunW.below' (hX:MkM X) (h:RunW X K base gr nc w who V r) (hb:Below w.heap.size w w'):RunW X K base gr nc w' who V r∧Moves who who w w':=⟨h.below hX hb,Moves.below who hb⟩
theorem RunW.other (hX:MkM X) (h:RunW X K base gr nc w who V r) {g:Nat} {t:TypeId} {cs:Array Value} (hn:who g=none) (hb:Blk w g t cs) (ht:¬X.TM t) (i:Nat) (u:Value):RunW X K base gr nc (w.setCell ⟨g,i,none⟩ u) who V r:=by
 have hsz:(w.setCell ⟨g,i,none⟩ u).heap.size=w.heap.size:=by simp[World.setCell]
 refine h.turn hX (fun _=>False) (fun k p hk _=>?_) (by rw[hsz];exact Nat.le_refl _) (Still.set hb ht u) (fun _ _ _=>Iff.rfl) (fun p _=>agree_refl p) (fun _ h=>h.elim) (fun _ _ h=>h.elim) h.gtl h.gml h.numl h.outl h.col
 exact Below.heap_setCell w ⟨g,i,none⟩ u k (fun e=>by
  simp only at e
  rw[e,hn]at hk
  cases hk)
theorem Moves.setNew (h:Moves who who' w w1) {g:Nat} (hg:w.heap.size≤g) (i:Nat) (u:Value):Moves who who' w (w1.setCell ⟨g,i,none⟩ u):=⟨h.keep.setN hg u,h.own⟩
theorem Step.trans {w0:World} {who0:Nat→Option Pt} {V0:RV} (h:Moves who0 who w0 w) (e1:V.gt=V0.gt) (e2:V.gm=V0.gm) (h':Step X K base gr nc w who V w' r'):Step X K base gr nc w0 who0 V0 w' r':=by
 obtain⟨who',V',h1,h2,h3,h4⟩:=h'
 exact⟨who',V',h1,h.trans h2,h3.trans e1,h4.trans e2⟩
def Sees (P:Pt→Prop) (who:Nat→Option Pt) (w w':World):Prop:=∀k p,who k=some p→¬P p→w'.heap[k]?=w.heap[k]?
theorem RunW.sees (h:RunW X K base gr nc w who V r) {S:Nat→Prop} {q:Rw} (hS:∀k,S k↔(V.val q).ownBlock=some k) (p:Cls (KeptS S w)):Sees (fun p=>p=.row q) who w p.w:=fun k p' hk hp =>
 p.h.2.2.2.2 k (h.lt2 k p' hk) (fun hs=>by
  have:=h.ownW q k ((hS k).1 hs)
  rw[hk]at this
  injection this with this
  exact hp this)
theorem RunW.seesB (h:RunW X K base gr nc w who V r) (p:Cls (Below w.heap.size w)):Sees (fun _=>False) who w p.w:=fun k p' hk _=>p.h.block k (h.lt2 k p' hk)
variable {P:Pt→Prop}
theorem RunW.seeRun (h:RunW X K base gr nc w who V r) (hs:Sees P who w w') (hp:¬P .run) (i:Nat):w'.cell? ⟨gr,i,none⟩=(runC K nc V r)[i]?:=by
 rw[World.cell?_of_block (w:=w) (hs gr _ h.run.1 hp)]
 exact h.run.2.cell i
theorem RunW.seeRow (h:RunW X K base gr nc w who V r) (hs:Sees P who w w') {q:Rw} (hp:¬P (.row q)) {g n cap:Nat} (hv:V.val q=.slice (some ⟨g,0,none⟩) n cap) (j:Nat) (u:Value) (hj:(rowX V r q)[j]?=some u):w'.cell? ⟨g,j,none⟩=some u:=by
 have hk:(V.val q).ownBlock=some g:=by rw[hv];rfl
 rw[World.cell?_of_block (w:=w) (hs g _ (h.ownW q g hk) hp)]
 have:=h.own q
 rw[hv]at this
 have hpos:0<rowN V r q:=by
  have h1:=(List.getElem?_eq_some_iff.1 hj).1
  have h2:=this.1
  rw[h2]at h1
  rcases Nat.eq_zero_or_pos (rowN V r q)with h0 | h0
  ·rw[h0,Nat.zero_mul]at h1;omega
  ·exact h0
 obtain⟨g',cap',hv',_,_,hc⟩:=h.slice q hpos
 rw[hv]at hv'
 injection hv' with hv' _ _
 injection hv' with hv'
 injection hv' with hv'
 subst hv'
 exact hc.2 j u hj
theorem RunW.seeTh (h:RunW X K base gr nc w who V r) (hs:Sees P who w w') {t:Nat} (hp:¬P (.th t)) {x:Th M} (hx:r.ths[t]?=some x) {gt gm:Nat} (hgt:V.gt[t]?=some gt) (hgm:V.gm[t]?=some gm) (i:Nat):w'.cell? ⟨gt,i,none⟩=(thC X V t gm x)[i]?:=by
 obtain⟨h1,h2⟩:=h.part (.th t) x gt gm hx hgt hgm
 rw[World.cell?_of_block (w:=w) (hs gt _ h1 hp)]
 exact h2.cell i
theorem RunW.thr (h:RunW X K base gr nc w who V r) {t:Nat} {x:Th M} (hx:r.ths[t]?=some x):∃gth capth gt gm,V.thr=.slice (some ⟨gth,0,none⟩) r.ths.length capth∧V.gt[t]?=some gt∧V.gm[t]?=some gm∧(rowX V r .thr)[t]?=some (ptrV gt):=by
 have hl:=(List.getElem?_eq_some_iff.1 hx).1
 obtain⟨gt,gm,hgt,hgm,_⟩:=h.thOf hx
 obtain⟨gth,capth,hv,_⟩:=h.slice .thr (by show 0<V.gt.length;rw[h.gtl];omega)
 refine⟨gth,capth,gt,gm,?_,hgt,hgm,?_⟩
 ·have:rowN V r .thr=r.ths.length:=h.gtl
  rw[this]at hv
  exact hv
 ·show(V.gt.map ptrV)[t]?=_
  rw[List.getElem?_map,hgt];rfl
set_option maxRecDepth 100000 in
set_option maxHeartbeats 4000000 in
theorem event_any (hX:MkM X) (h:RunW X K base gr nc w who V r) {t:Nat} {x:Th M} (hx:r.ths[t]?=some x) (hle:r.events.length≤8388608) (hln:x.nums.length≤8388608) (_hth:r.ths.length≤8388608) (t0 kind loc mode:Int) (val:Nat) :
  Calls Tryz.prog 90 #[ptrV gr,.int .i64 (t:Int),.agg #[.int .i64 t0,.int .i64 kind,.int .i64 loc,.int .u64 val,.int .i64 mode]] w fun e w'=>e=.returned (.int .i64 (r.events.length:Nat))∧Step X K base gr nc w who V w' (r.event K t kind loc val mode):=by
 unfold ptrV
 have htl:=(List.getElem?_eq_some_iff.1 hx).1
 have hgrs:=(h.lt gr _ h.run.1).2
 obtain⟨A,cA,hev,hcA⟩:=own_slice (h.own .ev)
 simp only[RV.val,rowN]at hev hcA
 go_enter Tryz.func90,Tryz.ntmps90
 go_upto_region 1 with fail
 obtain⟨w0,hw0⟩:∃y,y=w.alloc (.cells #[.int .i64 t0,.int .i64 kind,.int .i64 loc,.int .u64 val,.int .i64 mode] 42):=⟨_,rfl⟩
 have hb0:Below w.heap.size w w0:=by rw[hw0];exact Kit.bl1
 have hE0:Blk w0 w.heap.size 42 #[.int .i64 t0,.int .i64 kind,.int .i64 loc,.int .u64 val,.int .i64 mode]:=by rw[hw0];exact Blk.new w _ _
 obtain⟨hR0,hm0⟩:=h.below' hX hb0
 have hn0:who w.heap.size=none:=h.noOne (Nat.le_refl _)
 have hgE:w.heap.size≤w.heap.size:=Nat.le_refl _
 rw[←hw0]
 clear hw0 h hb0
 generalize hgg:w.heap.size=gE at hE0 hn0 ⊢
 rw[hgg]at hgE
 have hgE:w.heap.size≤gE:=by omega
 clear hgg
 have k6:w0.cell? ⟨gr,6,none⟩=some (.slice A r.events.length cA):=by rw[hR0.run.2.cell 6,←hev];rfl
 have e0:w0.cell? ⟨gE,0,none⟩=some (.int .i64 t0):=hE0.cell 0
 have ef:=fun i=>hE0.frozen i
 go_upto_region 3 with fail
 obtain⟨w1,hw1⟩:∃y,y=w0.setCell ⟨gE,0,none⟩ (.int .i64 (t:Int)):=⟨_,rfl⟩
 have hE1:Blk w1 gE 42 #[.int .i64 (t:Int),.int .i64 kind,.int .i64 loc,.int .u64 val,.int .i64 mode]:=by rw[hw1];exact hE0.set 0 (.int .i64 (t:Int))
 have hR1:=hR0.other hX hn0 hE0 (hX.rows .ev) 0 (.int .i64 (t:Int))
 have hm1:=hm0.setNew hgE 0 (.int .i64 (t:Int))
 rw[←hw1]at hR1 hm1 ⊢
 clear hw1 k6 e0 ef hE0 hR0 hm0
 obtain⟨S,hS⟩:∃S:Nat→Prop,∀k,S k↔(RV.val V .ev).ownBlock=some k:=⟨_,fun _=>Iff.rfl⟩
 have nS:∀{k:Nat},who k≠some (.row .ev)→¬S k:=fun hk hs=>hk (RunW.ownW hR1 .ev _ ((hS _).1 hs))
 have hgrn:¬S gr:=nS (by rw[(RunW.run hR1).1];exact fun e=>by cases e)
 have hgEn:¬S gE:=nS (by rw[hn0];exact fun e=>by cases e)
 have k6:∀p:Cls (KeptS S w1),p.w.cell? ⟨gr,6,none⟩=some (.slice A r.events.length cA):=fun p=>by
  rw[(p.h.blk hR1.run.2 hgrn).cell 6,←hev];rfl
 obtain⟨e0,e1,e2,e3,e4⟩:=Kit.cellsA5 fun p:Cls (KeptS S w1)=>(p.h.blk hE1 hgEn)
 obtain⟨i0,hi0,hz0,hz1,hz2⟩:=info_parts info_event
 have HEV:=Lib.hid hev
 have HS:=Lib.hid hS
 clear hev hS nS
 refine wp_region_float_at (KeptS S w1) 9 2 [0,1,2,3,4,5,6] [] ((KeptS.refl _ w1).dn 1) (by kernel_rfl) (by kernel_rfl) ?_
 intro hne
 simp only[pickL,List.map_cons,List.map_nil,List.getElem?_cons_succ,List.getElem?_cons_zero,Option.getD_some]
 repeat (go_big_quiet_step (fail))
 refine wpQuiet_nil ?_
 refine fG (i:=7) rfl ?_
 go_wp2_with fail
 have hk7:KeptS S w1 ((World.drewN w1 1).alloc (.cells #[.int .i64 (t:Int),.int .i64 kind,.int .i64 loc,.int .u64 val,.int .i64 mode] 42)):=((KeptS.refl _ w1).dn 1).al _
 refine Kit.oG hk7 ?_
 obtain⟨w7,hw7⟩:∃y,y=(World.drewN w1 1).alloc (.cells #[.int .i64 (t:Int),.int .i64 kind,.int .i64 loc,.int .u64 val,.int .i64 mode] 42):=⟨_,rfl⟩
 have hb7:Below (w1).heap.size w1 w7:=by rw[hw7];exact Kit.Below.al (Kit.Below.dn (Below.refl _ _)) _
 have hN7:Blk w7 (w1).heap.size 42 (List.toArray (evC ⟨t,kind,loc,val,mode⟩)):=by rw[hw7];exact Blk.new (World.drewN w1 1) _ _
 obtain⟨hR7,hm7⟩:=RunW.below' hX hR1 hb7
 have hev7:=RunW.own hR7 .ev
 simp only[RV.val,rowN,rowX,rowT,rowS]at hev7
 rw[HEV.out]at hev7
 have HEO:=Lib.hid hev7
 rw[←hw7]at hk7 ⊢
 have hbs:=RunW.base_le hR7
 have hml:(16*1048576:Nat)≤maxLen:=by decide
 clear hw7 hev7 k6 e0 e1 e2 e3 e4
 refine fG (i:=8) rfl ?_
 refine wpList_append_lies _ (by rfl) _ _ _ (by rfl) base 42 i0 _ 5 40 Tryz.underlying27 hi0 hz0 hz1 hz2 rfl (by omega) _ r.events.length _ (by rfl) HEO.out ⟨(w1).heap.size,0,none⟩ 1 1 (evC ⟨t,kind,loc,val,mode⟩) (by rfl) rfl (news_one hN7) (evC_one _) (by omega) (by omega) (by omega) hbs _ rfl ?_
 intro g8 cap8 w8 hown8 hgrow8 hat8 hlt8
 have hk8:=kept_grown hk7 hgrow8 (fun k hk=>(HS.out k).2 (by rw[show RV.val V .ev=_ from HEV.out];exact hk))
 refine Kit.oG hk8 ?_
 refine(show tailG _ _ _ _ _ _ _ from⟨by kernel_rfl,?_⟩)
 simp only[List.drop_succ_cons,List.drop_zero]
 have hB8:=hk8.blk hR1.run.2 hgrn
 have kf:=fun i=>hB8.frozen i
 have k6:w8.cell? ⟨gr,6,none⟩=some (.slice A r.events.length cA):=by rw[hB8.cell 6,←HEV.out];rfl
 go_wp2_with fail
 obtain⟨who9,V9,hR9,hm9,hg9,hgm9⟩:=hR7.evs hX ⟨t,kind,loc,val,mode⟩ (by rw[HEV.out];exact hgrow8) (by rw[HEV.out];exact hat8) hlt8 hown8
 have hm9:=(hm1.trans hm7).trans hm9
 generalize w8.setCell ⟨gr,6,none⟩ _=w9 at *
 clear hm7 hm1 hR7 hR1 hk8 hk7 hB8 kf k6 hgrow8 hat8 hlt8 hown8 HEO HEV HS hgrn hgEn hN7 hb7 hne hi0 hz0 hz1 hz2 hE1
 obtain⟨r1,hr1⟩:∃y,y = { r with events:=r.events++[(⟨t,kind,loc,val,mode⟩:Ev)] }:=⟨_,rfl⟩
 rw[←hr1]at hR9
 have hx1:r1.ths[t]?=some x:=by rw[hr1];exact hx
 obtain⟨gt,gm,hgt,hgm,hwt,hbt,_⟩:=hR9.thOf hx1
 obtain⟨gth,capth,hvth,hwth,hbth,hfth,hcth⟩:=hR9.slice .thr (by show 0<V9.gt.length;rw[hR9.gtl,hr1];exact Nat.lt_of_le_of_lt (Nat.zero_le _) htl)
 have hthn:rowN V9 r1 .thr=r.ths.length:=by show V9.gt.length=_;rw[hR9.gtl,hr1]
 rw[hthn]at hvth
 simp only[RV.val]at hvth
 obtain⟨B,cB,hnv,hcB⟩:=own_slice (hR9.own (.nums t))
 have hnl:rowN V9 r1 (.nums t)=x.nums.length:=by show(numsOf r1 t).length=_;rw[numsOf_eq hx1]
 rw[hnl]at hnv
 simp only[RV.val]at hnv
 obtain⟨S,hS⟩:∃S:Nat→Prop,∀k,S k↔(RV.val V9 (.nums t)).ownBlock=some k:=⟨_,fun _=>Iff.rfl⟩
 have nS:∀{k:Nat},who9 k≠some (.row (.nums t))→¬S k:=fun hk hs=>hk (RunW.ownW hR9 (.nums t) _ ((hS _).1 hs))
 have hgrn:¬S gr:=nS (by rw[(RunW.run hR9).1];exact fun e=>by cases e)
 have hgthn:¬S gth:=nS (by rw[hwth];exact fun e=>by cases e)
 have hgtn:¬S gt:=nS (by rw[hwt];exact fun e=>by cases e)
 obtain⟨csth,hbth⟩:=hbth
 have k2:∀p:Cls (KeptS S w9),p.w.cell? ⟨gr,2,none⟩=some (.slice (some ⟨gth,0,none⟩) r.ths.length capth):=fun p=>by
  rw[(p.h.blk hR9.run.2 hgrn).cell 2,←hvth];rfl
 have kt:∀p:Cls (KeptS S w9),p.w.cell? ⟨gth,t,none⟩=some (.pointer (some ⟨gt,0,none⟩)):=fun p=>by
  rw[World.cell?_of_block (w:=w9) (p.h.2.2.2.2 gth hbth.lt hgthn)]
  refine hcth t _ ?_
  show(V9.gt.map ptrV)[t]?=_
  rw[List.getElem?_map,hgt];rfl
 have k1:∀p:Cls (KeptS S w9),p.w.cell? ⟨gt,1,none⟩=some (.slice B x.nums.length cB):=fun p=>by
  rw[(p.h.blk hbt hgtn).cell 1,←hnv];rfl
 have b1:(0:Int)≤(t:Int):=by omega
 have b2:(t:Int)<(r.ths.length:Int):=by omega
 have HX1:=Lib.hid hx1
 have HGT:=Lib.hid hgt
 have HR1:=Lib.hid hr1
 have HG9:=Lib.hid hg9
 have HGM9:=Lib.hid hgm9
 clear hx1 hgt hr1 hg9 hgm9 hgm hthn hnl hvth hwth hfth hcth hwt
 obtain⟨i0,hi0,hz0,hz1,hz2⟩:=info_parts info_int
 have HEV:=Lib.hid hnv
 have HS:=Lib.hid hS
 clear hnv hS nS
 refine wp_region_float_at (KeptS S w9) 20 2 [0,1,2,3,4,5,6,7,8,9,10,11,12,13,14,15,16,17] [] ((KeptS.refl _ w9).dn 1) (by kernel_rfl) (by kernel_rfl) ?_
 intro hne
 simp only[pickL,List.map_cons,List.map_nil,List.getElem?_cons_succ,List.getElem?_cons_zero,Option.getD_some]
 repeat (go_big_quiet_step (fail))
 refine wpQuiet_nil ?_
 refine fG (i:=18) rfl ?_
 go_wp2_with fail
 have hk7:KeptS S w9 ((World.drewN w9 1).alloc (.cells #[.int .i64 (r.events.length:Nat)] 3)):=((KeptS.refl _ w9).dn 1).al _
 refine Kit.oG hk7 ?_
 obtain⟨w7,hw7⟩:∃y,y=(World.drewN w9 1).alloc (.cells #[.int .i64 (r.events.length:Nat)] 3):=⟨_,rfl⟩
 have hb7:Below (w9).heap.size w9 w7:=by rw[hw7];exact Kit.Below.al (Kit.Below.dn (Below.refl _ _)) _
 have hN7:Blk w7 (w9).heap.size 3 (List.toArray [i64V r.events.length]):=by rw[hw7];exact Blk.new (World.drewN w9 1) _ _
 obtain⟨hR7,hm7⟩:=RunW.below' hX hR9 hb7
 have hev7:=RunW.own hR7 (.nums t)
 simp only[RV.val,rowN,rowX,rowT,rowS]at hev7
 rw[HEV.out,numsOf_eq HX1.out]at hev7
 have HEO:=Lib.hid hev7
 rw[←hw7]at hk7 ⊢
 have hbs:=RunW.base_le hR7
 have hml:(16*1048576:Nat)≤maxLen:=by decide
 clear hw7 hev7 k1 k2 kt
 refine fG (i:=19) rfl ?_
 refine wpList_append_lies _ (by rfl) _ _ _ (by rfl) base 3 i0 _ 1 8 Tryz.underlying25 hi0 hz0 hz1 hz2 rfl (by omega) _ x.nums.length _ (by rfl) HEO.out ⟨(w9).heap.size,0,none⟩ 1 1 [i64V r.events.length] (by rfl) rfl (news_one hN7) (one_one rfl) (by omega) (by omega) (by omega) hbs _ rfl ?_
 intro g8 cap8 w8 hown8 hgrow8 hat8 hlt8
 have hk8:=kept_grown hk7 hgrow8 (fun k hk=>(HS.out k).2 (by rw[show RV.val V9 (.nums t)=_ from HEV.out];exact hk))
 refine Kit.oG hk8 ?_
 refine(show tailG _ _ _ _ _ _ _ from⟨by kernel_rfl,?_⟩)
 simp only[List.drop_succ_cons,List.drop_zero]
 have hB8:=hk8.blk hbt hgtn
 have kf:=fun i=>hB8.frozen i
 have k6:w8.cell? ⟨gt,1,none⟩=some (.slice B x.nums.length cB):=by rw[hB8.cell 1,←HEV.out];rfl
 go_wp2_with fail
 have hst:=hR7.nums hX HX1.out HGT.out r.events.length (by rw[HEV.out];exact hgrow8) (by rw[HEV.out];exact hat8) hlt8 hown8
 have hst:=Step.trans (hm9.trans hm7) HG9.out HGM9.out hst
 have hr2:({ r1 with ths:=r1.ths.set t { x with nums:=x.nums++[r.events.length] } }:Rn M)=r.event K t kind loc val mode:=by
  rw[HR1.out]
  unfold Rn.event Rn.th
  simp only[List.getD_eq_getElem?_getD,hx,Option.getD_some]
 rw[hr2]at hst
 go_ret
 exact⟨rfl,hst⟩
def MOp (X:Mk M) (w:World) (S:Nat→Prop) (g:Nat) (m':M) (w':World):Prop :=
 ∃S',(∀k,S' k→S k∨(w.heap.size≤k∧k<w'.heap.size))∧X.Rep w' S' g m'∧KeptS S w w'∧Still X.TM w w'
structure MkC (X:Mk M) (K:Kd M) (nc:Nat):Prop extends MkM X where
 nextM:∀g w,(method 432 X.T (.pointer (some ⟨g,0,none⟩)) "Next").run Tryz.prog w=.ok (X.nextF,.pointer (some ⟨g,0,none⟩)) w
 feedM:∀g w,(method 432 X.T (.pointer (some ⟨g,0,none⟩)) "Feed").run Tryz.prog w=.ok (X.feedF,.pointer (some ⟨g,0,none⟩)) w
 nextE:∀args w,(callFunc X.nextF args).run Tryz.prog w=.ok (.enter X.nextF args) w
 feedE:∀args w,(callFunc X.feedF args).run Tryz.prog w=.ok (.enter X.feedF args) w
 want:¬X.TM 100
 next:∀{w S g m},X.Rep w S g m→Calls Tryz.prog X.nextF #[ptrV g] w fun e w'=>e=.returned (.agg (wantC (K.now (K.next m))).toArray)∧MOp X w S g (K.next m) w'
 feed:∀{w S g m},X.Rep w S g m→X.asked m→1≤(K.now m).what→(K.now m).what≤4→∀{v:Nat},v<M64→Calls Tryz.prog X.feedF #[ptrV g,.int .u64 v] w fun e w'=>e=.returned (.int .i64 0)∧MOp X w S g (K.feed m v) w'
 asked_next:∀m,X.asked (K.next m)
 val:∀{w S g m},X.Rep w S g m→X.asked m→(K.now m).val<M64
 val2:∀{w S g m},X.Rep w S g m→X.asked m→(K.now m).what=1→∀{v:Nat},v<M64→(K.now (K.next (K.feed m v))).val<M64
 second:∀{w S g m},X.Rep w S g m→X.asked m→(K.now m).what=1→(if K.words then(K.now m).one else(K.now m).ex)=true→0≤(K.now m).loc→(K.now m).loc<(nc:Int)→∀{v:Nat},v<M64 →
  (K.now (K.next (K.feed m v))).what=2→(K.now (K.next (K.feed m v))).ex≠K.words→(K.now (K.next (K.feed m v))).one=K.words→0≤(K.now (K.next (K.feed m v))).loc∧(K.now (K.next (K.feed m v))).loc<(nc:Int)
end
end Go.Proofs.YtmjilfamjlnigaaGreat.RunW
namespace Go.Proofs.YtmjilfamjlnigaaGreat.LawW
open Go Go.RowKit Kit SrcP SrcW MchW OwnR NewW RunW
def numN (v:Nat):SrcP.Node:=⟨1,v,0,0⟩
def localN (n:Nat):SrcP.Node:=⟨2,n,0,0⟩
theorem num_any (v:Nat) (w:World):Calls Tryz.prog 18 #[.int .u64 v] w fun e w'=>e=.returned (.slice (some ⟨w.heap.size,0,none⟩) 1 1)∧w'=w.alloc (.cells #[.int .i64 1,.int .u64 v,.int .i64 0,.int .i64 0] 112):=by
 go_enter Tryz.func18,Tryz.ntmps18
 go_wp2_with fail
 go_ret
 exact⟨rfl,rfl⟩
theorem local_any (v:Nat) (w:World):Calls Tryz.prog 19 #[.int .u64 v] w fun e w'=>e=.returned (.slice (some ⟨w.heap.size,0,none⟩) 1 1)∧w'=w.alloc (.cells #[.int .i64 2,.int .u64 v,.int .i64 0,.int .i64 0] 112):=by
 go_enter Tryz.func19,Tryz.ntmps19
 go_wp2_with fail
 go_ret
 exact⟨rfl,rfl⟩
def bufActs (t:Nat):List SrcP.Act:=[⟨3,0,t,0,[],[numN 1],[],1,0,0,0⟩,⟨2,0,1-(t:Int),0,[],[],[],1,0,0,0⟩,⟨8,0,0,0,[],[localN 0],[],0,0,0,0⟩]
def bufferP:SrcP.Prog:=⟨2,[⟨1,bufActs 0⟩,⟨1,bufActs 1⟩]⟩
def thrC (va:Value):List Value:=[.int .i64 1,va]
def BufRel (w:World) (g0 gP:Nat) (mm:Nat) (s2:Value) (wr:World):Prop :=
 ∃(t:Nat) (vt:Value) (vas:List Value),s2=.int .i64 t∧t≤2∧mm=2-t∧Blk wr gP 24 #[.int .i64 2,vt]∧wr.ownsRow w.heap.size 60 2 vt t (vas.flatMap thrC)∧vas.length=t∧Below w.heap.size w wr∧Blk wr g0 24 #[.int .i64 0,nilV] ∧
  ∀(i:Nat) (va:Value),vas[i]?=some va→ActsS wr va (bufActs i)∧NilOk va
theorem info_thread:(Tryz.prog.info? 60).map (fun i=>(i.zero,i.size,i.bytes))=some (some (.agg #[.int .i64 0,.slice none 0 0]),2,32):=by kernel_rfl
theorem thrC_one (va:Value) (h:va.oneCell'=true):∀u∈thrC va,u.oneCell'=true:=fun u hu=>by
 simp only[thrC,List.mem_cons,List.not_mem_nil,or_false]at hu
 rcases hu with rfl | rfl
 ·rfl
 ·exact h
theorem nodes_blk {w:World} {g:Nat} {l:List SrcP.Node} (h:Blk w g 112 (l.flatMap nodeC).toArray) (hv:∀n∈l,n.val<M64) (c:Nat):NodesS w (.slice (some ⟨g,0,none⟩) l.length c) l:=fun w' hs=>by
 have hb:=hs g _ 112 (0,0) h rfl
 refine⟨_,c,rfl,fun i n hi=>⟨hv n (List.mem_of_getElem? hi),⟨g,0,none⟩,rfl,fun j u hj=>?_⟩⟩
 have hj4:j<4:=(List.getElem?_eq_some_iff.1 hj).1
 have hget:=flat_get nodeC 4 (fun _=>rfl) l i j n hi hj4
 rw[add_add,show Addr.add ⟨g,0,none⟩ (i*4+j)=⟨g,i*4+j,none⟩ by unfold Addr.add;split <;> simp_all]
 rw[World.cell?,hb]
 simpa [hj]using hget
theorem nodes_nil (w:World):NodesS w nilV []:=fun w' _=>⟨none,0,rfl,fun i n hi=>by simp at hi⟩
theorem own_ty {w:World} {base e size n k:Nat} {v:Value} {xs:List Value} (h:w.ownsRow base e size v n xs) (hk:v.ownBlock=some k):∃cur,Blk w k e cur:=by
 rcases h.2 with⟨h0,_⟩ | ⟨g',cap',cur,h0,_,hh,_⟩
 ·rw[h0]at hk;cases hk
 ·rw[h0]at hk
  obtain rfl:g'=k:=by simpa [Value.ownBlock]using hk
  exact⟨cur,hh⟩
theorem still_own {T:TypeId→Prop} {w w':World} {base e size n:Nat} {v:Value} {xs:List Value} (h:w.ownsRow base e size v n xs) (hT:¬T e) (hg:w.grownBy w' v.ownBlock):Still T w w' :=
 Still.grown hg fun k hk cs t fr hb=>by
  obtain⟨cur,hb'⟩:=own_ty h hk
  unfold Blk at hb'
  rw[hb']at hb
  injection hb with hb
  injection hb with _ hb _
  rw[←hb]
  exact hT
def thrP (p:SrcP.Thread × Value):List Value:=[.int .i64 p.1.locals,p.2]
theorem acts_here {w:World} {v:Value} {l:List SrcP.Act} (h:ActsS w v l):ActsAt w v l:=by
 obtain⟨A,c,rfl,h⟩:=h
 refine⟨A,c,rfl,fun i a hi=>?_⟩
 obtain⟨ad,vi,ve,vf,h1,h2,h3⟩:=h i a hi
 exact⟨ad,vi,ve,vf,h1,h2 w (Still.refl w),h3.here⟩
theorem threads_own {w:World} {base:Nat} {vt:Value} {ths:List SrcP.Thread} {vas:List Value} (hl:vas.length=ths.length) (h:w.ownsRow base 60 2 vt ths.length ((ths.zip vas).flatMap thrP))
  (ha:∀(i:Nat) (th:SrcP.Thread) (va:Value),ths[i]?=some th→vas[i]?=some va→ActsS w va th.acts∧NilOk va∧th.acts.length≤1048576):ThreadsAt w vt ths:=by
 obtain⟨A,c,rfl,_⟩:=own_slice h
 refine⟨A,c,rfl,fun i th hi=>?_⟩
 have hil:=(List.getElem?_eq_some_iff.1 hi).1
 obtain⟨va,hva⟩:∃va,vas[i]?=some va:=⟨_,Kit.eG (by omega)⟩
 obtain⟨h1,h2,h3⟩:=ha i th va hi hva
 obtain⟨g,cap,hv,_,_,_,_,hc⟩:=own_cells h (by omega)
 injection hv with hv _ _
 subst hv
 refine⟨⟨g,0,none⟩,va,rfl,fun j u hj=>?_,acts_here h1,h3,h2⟩
 have hj2:j<2:=(List.getElem?_eq_some_iff.1 hj).1
 have hget:=flat_get thrP 2 (fun _=>rfl) (ths.zip vas) i j (th,va) (by rw[List.getElem?_zip_eq_some];exact⟨hi,hva⟩) hj2
 rw[add_add,show Addr.add ⟨g,0,none⟩ (i*2+j)=⟨g,i*2+j,none⟩ by unfold Addr.add;split <;> simp_all]
 exact hc _ u (by rw[hget];exact hj)
set_option maxRecDepth 100000 in
set_option maxHeartbeats 0 in
theorem Buffer_any (w:World):Calls Tryz.prog 17 #[] w fun e w'=>∃vt,e=.returned (.agg #[.int .i64 2,vt])∧ThreadsAt w' vt bufferP.threads∧Below w.heap.size w w':=by
 obtain⟨i0,hi0,hz0,hz1,hz2⟩:=info_parts info_thread
 go_enter Tryz.func17,Tryz.ntmps17
 go_upto_region 2 with fail
 obtain⟨w1,hw1⟩:∃y,y=(w.alloc (.cells #[.int .i64 0,.slice none 0 0] 24)).alloc (.cells #[.int .i64 2,.slice none 0 0] 24):=⟨_,rfl⟩
 have hb1:Below w.heap.size w w1:=by rw[hw1];exact Kit.bl2
 have h0:Blk w1 w.heap.size 24 #[.int .i64 0,nilV]:=by rw[hw1];exact(Blk.new w _ _).alloc _
 have hP:Blk w1 (w.heap.size+1) 24 #[.int .i64 2,nilV]:=by rw[hw1];exact Blk.newAt (sizeA w _) _ _
 rw[←hw1]
 clear hw1
 obtain⟨g0,hg0⟩:∃y,y=w.heap.size:=⟨_,rfl⟩
 obtain⟨gP,hgP⟩:∃y,y=w.heap.size+1:=⟨_,rfl⟩
 have hgw:w.heap.size≤gP:=by omega
 have hg0w:w.heap.size≤g0:=by omega
 have hg0P:g0≠gP:=by omega
 rw[←hgP]at hP ⊢
 rw[←hg0]at h0 ⊢
 clear hg0 hgP
 go_upto_region 3 with fail
 go_loopg [2] 2 (fun mm s2 wr=>BufRel w g0 gP mm s2 wr)
 case atStart=>exact⟨0,nilV,[],rfl,Nat.zero_le _,rfl,hP,⟨by simp,.inl ⟨rfl,rfl⟩⟩,rfl,hb1,h0,fun i va h=>by simp at h⟩
 case round =>
  obtain⟨t,vt,vas,rfl,ht,hmm,hP2,hown,hlen,hb2,h02,hva⟩:=hrel
  have HM:=Lib.hid hmm
  clear hmm hP h0 hb1
  have hml:(16*1048576:Nat)≤maxLen:=by decide
  by_cases hke:t<2
  ·have hbs2:=hb2.size
   have HN:=fun w=>Lib.hid (num_any 1 w)
   have HL:=fun w=>Lib.hid (local_any 0 w)
   obtain⟨A,cA,rfl,_⟩:=own_slice hown
   have k1:wr.cell? ⟨gP,1,none⟩=some (.slice A t cA):=hP2.cell 1
   have q1:(t:Int)<2:=by omega
   have q0:(0:Int)≤(t:Int):=by omega
   have q2:IntKind.i64.wrap (1-(t:Int))=1-(t:Int):=by rw[IntKind.wrap_i64];omega
   go_upto_region 6 with (first |(go_at_call 18;refine(HN _).out.mono ?_;rintro e w1 ⟨rfl,rfl⟩) |(go_at_call 19;refine(HL _).out.mono ?_;rintro e w2 ⟨rfl,rfl⟩))
   obtain⟨w5,hw5⟩:∃y,y=((wr.alloc (.cells #[.int .i64 1,.int .u64 1,.int .i64 0,.int .i64 0] 112)).alloc (.cells #[.int .i64 2,.int .u64 0,.int .i64 0,.int .i64 0] 112)).alloc (.cells #[.int .i64 3,.int .i64 0,.int .i64 (t:Int),.int .i64 0,.slice none 0 0,.slice (some ⟨wr.heap.size,0,none⟩) 1 1,.slice none 0 0,.int .i64 1,.int .i64 0,.int .i64 0,.int .i64 0,.int .i64 2,.int .i64 0,.int .i64 (1-(t:Int)),.int .i64 0,.slice none 0 0,.slice none 0 0,.slice none 0 0,.int .i64 1,.int .i64 0,.int .i64 0,.int .i64 0,.int .i64 8,.int .i64 0,.int .i64 0,.int .i64 0,.slice none 0 0,.slice (some ⟨wr.heap.size+1,0,none⟩) 1 1,.slice none 0 0,.int .i64 0,.int .i64 0,.int .i64 0,.int .i64 0] 58):=⟨_,rfl⟩
   have hb5:Below wr.heap.size wr w5:=by rw[hw5];exact Kit.Below.al (Kit.bl2) _
   have hn1:Blk w5 wr.heap.size 112 ([numN 1].flatMap nodeC).toArray:=by rw[hw5];exact((Blk.new wr _ _).alloc _).alloc _
   have hn2:Blk w5 (wr.heap.size+1) 112 ([localN 0].flatMap nodeC).toArray:=by rw[hw5];exact(Blk.newAt (sizeA wr _) _ _).alloc _
   have hA5:Blk w5 (wr.heap.size+1+1) 58 (actsC (bufActs t) [(nilV,.slice (some ⟨wr.heap.size,0,none⟩) 1 1,nilV),(nilV,nilV,nilV),(nilV,.slice (some ⟨wr.heap.size+1,0,none⟩) 1 1,nilV)]).toArray:=by
    rw[hw5];exact Blk.newAt (by rw[sizeA,sizeA]) _ _
   rw[←hw5]
   have HW5:=Lib.hid hw5
   clear hw5
   have hac:ActsS w5 (.slice (some ⟨wr.heap.size+1+1,0,none⟩) 3 3) (bufActs t):=by
    refine acts_own (base:=wr.heap.size) (l:=bufActs t) (vs:=[(nilV,.slice (some ⟨wr.heap.size,0,none⟩) 1 1,nilV),(nilV,nilV,nilV),(nilV,.slice (some ⟨wr.heap.size+1,0,none⟩) 1 1,nilV)]) (B:=some ⟨wr.heap.size+1+1,0,none⟩) (d:=3) ⟨rfl,.inr ⟨_,3,_,rfl,by omega,hA5,Nat.le_refl _,by decide,rfl,rfl⟩⟩ rfl (fun i a tv hi htv=>?_) (fun a ha=>?_)
    ·have hnl:NodesS w5 nilV []:=nodes_nil w5
     have hno:NilOk nilV:=fun n c h=>by injection h with _ _ h;exact h.symm
     have h1:=nodes_blk hn1 (by decide) 1
     have h2:=nodes_blk hn2 (by decide) 1
     have hs:∀(g n c:Nat),NilOk (.slice (some ⟨g,0,none⟩) n c):=fun g n c n' c' h=>by injection h with h;cases h
     match i,hi,htv with
     | 0,hi,htv=>cases hi;cases htv;exact⟨⟨hnl,h1,hnl⟩,hno,hs _ _ _,hno⟩
     | 1,hi,htv=>cases hi;cases htv;exact⟨⟨hnl,hnl,hnl⟩,hno,hno,hno⟩
     | 2,hi,htv=>cases hi;cases htv;exact⟨⟨hnl,h2,hnl⟩,hno,hs _ _ _,hno⟩
     | i+3,hi,htv=>simp[bufActs]at hi
    ·simp only[bufActs,List.mem_cons,List.not_mem_nil,or_false]at ha
     rcases ha with rfl | rfl | rfl <;> exact⟨by simp,by simp,by simp⟩
   obtain⟨gA,hvaq⟩:∃y,y=wr.heap.size+1+1:=⟨_,rfl⟩
   rw[←hvaq]at hac ⊢
   have hnil:NilOk (.slice (some ⟨gA,0,none⟩) 3 3):=by intro n' c' h;injection h with h;cases h
   have hsz5:wr.heap.size≤w5.heap.size:=hb5.size
   have hP5:=hP2.below' hb5
   have h05:=h02.below' hb5
   have hown5:=own_stays hown (fun k hk=>hb5.block k (own_lt hown hk))
   have hva5:∀(i:Nat) (va:Value),vas[i]?=some va→ActsS w5 va (bufActs i)∧NilOk va:=fun i va hi=>⟨(hva i va hi).1.still (Still.below hb5),(hva i va hi).2⟩
   have hb25:=Kit.Below.then hb2 hb5
   have k5:w5.cell? ⟨gP,1,none⟩=some (.slice A t cA):=hP5.cell 1
   have kf:=fun i=>hP5.frozen i
   clear hn1 hn2 hA5 HW5 hP2 h02 hown hva k1 hb5 hvaq HN HL
   have hN6:Blk (w5.alloc (.cells #[.int .i64 1,.slice (some ⟨gA,0,none⟩) 3 3] 60)) w5.heap.size 60 (List.toArray (thrC (.slice (some ⟨gA,0,none⟩) 3 3))):=Blk.new w5 _ _
   have hb6:Below w5.heap.size w5 (w5.alloc (.cells #[.int .i64 1,.slice (some ⟨gA,0,none⟩) 3 3] 60)):=Kit.bl1
   have hown6:=own_stays hown5 (fun k hk=>hb6.block k (own_lt hown5 hk))
   have HEO:=Lib.hid hown6
   have hbs6:w.heap.size≤(w5.alloc (.cells #[.int .i64 1,.slice (some ⟨gA,0,none⟩) 3 3] 60)).heap.size:=Nat.le_trans hb25.size hb6.size
   go_wp2_with (at_builtin;refine wpList_append_lies _ (by rfl) _ _ _ (by rfl) w.heap.size 60 i0 _ 2 32 Tryz.underlying22 hi0 hz0 hz1 hz2 rfl (by omega) _ t _ (by rfl) HEO.out ⟨w5.heap.size,0,none⟩ 1 1 (thrC (.slice (some ⟨gA,0,none⟩) 3 3)) (by rfl) rfl (news_one hN6) (thrC_one _ rfl) (by omega) (by omega) (by omega) hbs6 _ rfl ?_;intro g8 cap8 w8 hown8 hgrow8 hat8 hlt8;have hB8:=((hP5.below' hb6).grown hgrow8 (fun h=>OwnR.own_type HEO.out (hP5.below' hb6) (by decide) h));have kf:=fun i=>hB8.frozen i;have k6':w8.cell? ⟨gP,1,none⟩=some (.slice A t cA):=hB8.cell 1)
   have hst:Still TA w5 (w8.setCell ⟨gP,1,none⟩ (.slice (some ⟨g8,0,none⟩) (t+1) cap8)) :=
    ((Still.below hb6).trans (still_own HEO.out (by unfold TA;decide) hgrow8)).trans (Still.set hB8 (by unfold TA;decide) _)
   have hP9:Blk (w8.setCell ⟨gP,1,none⟩ (.slice (some ⟨g8,0,none⟩) (t+1) cap8)) gP 24 #[.int .i64 2,.slice (some ⟨g8,0,none⟩) (t+1) cap8]:=hB8.set 1 _
   have h09:Blk (w8.setCell ⟨gP,1,none⟩ (.slice (some ⟨g8,0,none⟩) (t+1) cap8)) g0 24 #[.int .i64 0,nilV] :=
    ((h05.below' hb6).grown hgrow8 (fun h=>OwnR.own_type HEO.out (h05.below' hb6) (by decide) h)).farN hg0P _
   have hown9:(w8.setCell ⟨gP,1,none⟩ (.slice (some ⟨g8,0,none⟩) (t+1) cap8)).ownsRow w.heap.size 60 2 (.slice (some ⟨g8,0,none⟩) (t+1) cap8) (t+1) ((vas++[Value.slice (some ⟨gA,0,none⟩) 3 3]).flatMap thrC):=by
    rw[List.flatMap_append]
    refine own_stays (xs:=vas.flatMap thrC++thrC (Value.slice (some ⟨gA,0,none⟩) 3 3)) hown8 (fun k hk=>Below.heap_setCell _ _ _ k (fun e=>OwnR.own_type hown8 hB8 (by decide) (by rw[hk,e])))
   have hb9:Below w.heap.size w (w8.setCell ⟨gP,1,none⟩ (.slice (some ⟨g8,0,none⟩) (t+1) cap8)) :=
    ((Kit.Below.then hb25 hb6).grown hgrow8 hbs6 (fun k hk=>OwnR.own_base HEO.out hk)).setCell (p:=⟨gP,1,none⟩) hgw _
   have hva9:∀(i:Nat) (va:Value),(vas++[Value.slice (some ⟨gA,0,none⟩) 3 3])[i]?=some va→ActsS (w8.setCell ⟨gP,1,none⟩ (.slice (some ⟨g8,0,none⟩) (t+1) cap8)) va (bufActs i)∧NilOk va:=fun i va hi=>by
    rcases Nat.lt_trichotomy i t with h | h | h
    ·rw[List.getElem?_append_left (by omega)]at hi
     exact⟨(hva5 i va hi).1.still hst,(hva5 i va hi).2⟩
    ·rw[h,List.getElem?_append_right (by omega),hlen,Nat.sub_self]at hi
     obtain rfl:_=va:=Option.some.inj hi
     rw[h]
     exact⟨hac.still hst,hnil⟩
    ·rw[List.getElem?_eq_none (by simp;omega)]at hi
     cases hi
   generalize w8.setCell ⟨gP,1,none⟩ (.slice (some ⟨g8,0,none⟩) (t+1) cap8)=w9 at *
   clear hst hB8 hgrow8 hat8 hlt8 hown8 HEO hown6 hown5 hP5 h05 hva5 hac kf k6' k5 hN6 hb6 hbs6
   go_roundg (2-(t+1))
   case measure=>have:=HM.out;omega
   case rel=>exact⟨t+1,_,_,by push_cast;rfl,hke,rfl,hP9,hown9,by simp[hlen],hb9,h09,hva9⟩
  ·obtain rfl:t=2:=by omega
   clear hke
   obtain⟨A,cA,rfl,_⟩:=own_slice hown
   have k0:wr.cell? ⟨gP,0,none⟩=some (.int .i64 2):=hP2.cell 0
   have k1:wr.cell? ⟨gP,1,none⟩=some (.slice A 2 cA):=hP2.cell 1
   have c0:wr.cell? ⟨g0,0,none⟩=some (.int .i64 0):=h02.cell 0
   have c1:wr.cell? ⟨g0,1,none⟩=some (.slice none 0 0):=h02.cell 1
   have kf:=fun i=>h02.frozen i
   have hbz:Below w.heap.size w ((wr.setCell ⟨g0,0,none⟩ (.int .i64 2)).setCell ⟨g0,1,none⟩ (.slice A 2 cA)):=(hb2.setCell (p:=⟨g0,0,none⟩) hg0w _).setCell (p:=⟨g0,1,none⟩) hg0w _
   have hown9:((wr.setCell ⟨g0,0,none⟩ (.int .i64 2)).setCell ⟨g0,1,none⟩ (.slice A 2 cA)).ownsRow w.heap.size 60 2 (.slice A 2 cA) 2 (vas.flatMap thrC) :=
    own_stays hown (fun k hk=>by
     have hne:k≠g0:=fun e=>OwnR.own_type hown h02 (by decide) (by rw[hk,e])
     rw[Below.heap_setCell _ _ _ k hne,Below.heap_setCell _ _ _ k hne])
   have hst:Still TA wr ((wr.setCell ⟨g0,0,none⟩ (.int .i64 2)).setCell ⟨g0,1,none⟩ (.slice A 2 cA)):=(Still.set h02 (by unfold TA;decide) _).trans (Still.set (h02.set 0 _) (by unfold TA;decide) _)
   have hth:ThreadsAt ((wr.setCell ⟨g0,0,none⟩ (.int .i64 2)).setCell ⟨g0,1,none⟩ (.slice A 2 cA)) (.slice A 2 cA) bufferP.threads:=by
    match vas,hlen with
    | [a,b],_ =>
     refine threads_own (ths:=bufferP.threads) (vas:=[a,b]) rfl hown9 (fun i th va hi hv=>?_)
     match i,hi,hv with
     | 0,hi,hv=>cases hi;cases hv;exact⟨(hva 0 a rfl).1.still hst,(hva 0 a rfl).2,by simp[bufActs]⟩
     | 1,hi,hv=>cases hi;cases hv;exact⟨(hva 1 b rfl).1.still hst,(hva 1 b rfl).2,by simp[bufActs]⟩
     | i+2,hi,hv=>simp[bufferP]at hi
   clear hst hown9
   have hg9:Blk ((wr.setCell ⟨g0,0,none⟩ (.int .i64 2)).setCell ⟨g0,1,none⟩ (.slice A 2 cA)) g0 24 #[.int .i64 2,.slice A 2 cA]:=(h02.set 0 (.int .i64 2)).set 1 (.slice A 2 cA)
   go_wp2_with fail
   generalize (wr.setCell ⟨g0,0,none⟩ (.int .i64 2)).setCell ⟨g0,1,none⟩ (.slice A 2 cA)=w9 at *
   have e0:w9.cell? ⟨g0,0,none⟩=some (.int .i64 2):=hg9.cell 0
   have e1:w9.cell? ⟨g0,1,none⟩=some (.slice A 2 cA):=hg9.cell 1
   exact bodyPost_ret (v:=.agg #[.int .i64 2,.slice A 2 cA]) (by simp[results,Tryz.results17,go_sem,e0,e1]) rfl ⟨_,rfl,hth,hbz⟩
end Go.Proofs.YtmjilfamjlnigaaGreat.LawW
