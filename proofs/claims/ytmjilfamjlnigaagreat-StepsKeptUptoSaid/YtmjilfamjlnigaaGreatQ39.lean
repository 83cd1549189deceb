/- WALKS: the document's own run gets an event more (chapter 19). -/
import Derived.Test.YtmjilfamjlnigaaGreatQ38
import Derived.Test.YtmjilfamjlnigaaGreatQ36
namespace Go.Proofs.YtmjilfamjlnigaaGreat.RefW
open Go Go.RowKit Kit SrcP SrcW Go.Proofs.YtmjilfamjlnigaaGreat.MchW
theorem RunAt.app_ev {mz:List Value} {w0:World} {nc:Nat} {w w':World} {who:Nat→Option Dq} {V:DV} {r:RR} (h:RunAt mz w0 nc w who V r) (e:Ev) {g8 cap8:Nat}
  (hown:w'.ownsRow w0.heap.size 42 5 (.slice (some ⟨g8,0,none⟩) (r.events.length+1) cap8) (r.events.length+1) (r.events.flatMap RunW.evC++RunW.evC e)) (hg:w.grownBy w' V.ev.ownBlock) (hat:V.ev.ownBlock=some g8∨w.heap.size≤g8) :
  ∃who',RunAt mz w0 nc w' who' { V with ev:=.slice (some ⟨g8,0,none⟩) (r.events.length+1) cap8 } { r with events:=r.events++[e] }∧(∀k,k<w.heap.size→who' k=who k):=by
 refine h.turn (V':={ V with ev:=.slice (some ⟨g8,0,none⟩) (r.events.length+1) cap8 }) (r':={ r with events:=r.events++[e] }) .ev (row:=V.ev.ownBlock) rfl ⟨hg.os,hg.tape,hg.output,hg.size,fun k hk hn=>hg.block k hk (fun e=>hn e.symm)⟩ (fun p hp=>?_) ?_ (fun k hk2=>?_) h.ths (fun y hy=>.inl hy) h.outl (fun t v l h1 h2=>.inl ⟨h1,h2⟩)
 ·cases p with
  | ev=>exact absurd rfl hp
  | _=>exact⟨rfl,rfl,rfl⟩
 ·show World.ownsRow _ _ _ _ (.slice (some ⟨g8,0,none⟩) (r.events.length+1) cap8) (r.events++[e]).length ((r.events++[e]).flatMap RunW.evC)
  rw[List.length_append,List.flatMap_append]
  simpa [dT,dS]using hown
 ·have:g8=k:=by simpa [DV.val,Value.ownBlock]using hk2
  subst this
  exact hat
theorem thC_99 {mz:List Value} (hz:mz.length=95) (x:TC):(thC mz x).toArray[99]?=some x.vn:=by
 simp[thC,stC,hz]
theorem thC_set99 {mz:List Value} (hz:mz.length=95) (x:TC) (v:Value) (l:List Nat):(thC mz x).toArray.setIfInBounds 99 v=(thC mz { x with nums:=l,vn:=v }).toArray:=by
 simp[thC,stC,hz]
theorem make_ints0 (n:Nat) (hn:n≤1048576) (w:World):(Instr.makeSlice 25 (.int .i64 0) (.int .i64 (n:Int))).run Tryz.prog w=.ok (.slice (some ⟨w.heap.size,0,none⟩) 0 n) (w.alloc (.cells (Array.replicate n (.int .i64 0)) 3)):=by
 obtain⟨i0,hi0,hz0,hz1,hz2⟩:=info_parts RunW.info_int
 have hr:=run_make (P:=Tryz.prog) w 25 3 i0 (.int .i64 0) Tryz.underlying25 hi0 hz0 .i64 .i64 0 n (Int.le_refl _) (by omega) (by rw[hz2];omega) (by omega)
 rw[hr,hz1]
 have e:madeCells (Value.int .i64 0).cells ((n:Int).toNat*1)=Array.replicate n (.int .i64 0):=by
  apply Array.ext
  ·simp[madeCells]
  ·intro j h1 h2
   simp only[madeCells,Array.getElem_map,Array.getElem_range,Array.getElem_replicate]
   have:∀x:Nat,x % (Value.int .i64 0).cells.size=0:=fun x=>Nat.mod_one x
   rw[this]
   rfl
 rw[e]
 simp
set_option maxRecDepth 100000 in
set_option maxHeartbeats 8000000 in
theorem event_any {mz:List Value} (hz:mz.length=95) (ho:mz.all (·.oneCell')=true) {w0:World} {nc:Nat} {w:World} {who:Nat→Option Dq} {V:DV} {r:RR} (h:RunAt mz w0 nc w who V r) (t:Nat) (ht:t<r.ths.length) (hev:r.events.length≤1000) (hnm:(r.th t).nums.length≤1000) (kd lo:Int) (vv:Nat) (md:Int) :
  Calls Tryz.prog 76 #[.agg (runD nc V r),.int .i64 (t:Int),.int .i64 kd,.int .i64 lo,.int .u64 (vv:Int),.int .i64 md] w fun e w'=>∃V',e=.returned (.agg (runD nc V' (r.event t kd lo vv md)))∧DRet mz w0 nc w who w' V' (r.event t kd lo vv md):=by
 have hlt:t<V.tcs.length:=by have:=h.ths;rw[this]at ht;simpa using ht
 obtain⟨g,cap,hT⟩:=h.thr hz (by omega)
 have HT:=Lib.hid hT
 obtain⟨hv,hgl,hfr,hat⟩:=hT
 obtain⟨ae,ce,hve,_⟩:=OwnR.own_slice (h.own .ev)
 obtain⟨af,cf,hvf,_⟩:=OwnR.own_slice (h.own .rf)
 obtain⟨am,cm,hvm,_⟩:=OwnR.own_slice (h.own .rmw)
 obtain⟨ao,co,hvo,_⟩:=OwnR.own_slice (h.own .outs)
 obtain⟨al,cl,hvl,_⟩:=OwnR.own_slice (h.own .log)
 obtain⟨ap,cp,hvp,_⟩:=OwnR.own_slice (h.own .pks)
 simp only[DV.val,dN]at hve hvf hvm hvo hvl hvp
 unfold runD
 rw[hv,hve,hvf,hvm,hvo,hvl,hvp]
 have HV:=Lib.hid (And.intro hv (And.intro hve (And.intro hvf (And.intro hvm (And.intro hvo (And.intro hvl hvp))))))
 clear hv hve hvf hvm hvo hvl hvp
 have hx:V.tcs[t]?=some V.tcs[t]:=Kit.eG hlt
 have hrx:=hat t _ hx
 generalize hxx:V.tcs[t]=x at *
 have HXX:=Lib.hid hx
 clear hxx hx hat
 have HRT:Hid (∀w2,Below w.heap.size w w2→w2.rangeAt g (t*101) (thC mz x)):=Lib.hid fun w2 hb j v hj=>(hb.cell (p:=⟨g,t*101+j,none⟩) hgl).trans (hrx j v hj)
 clear hrx
 have a1:(t:Int)<(V.tcs.length:Int):=by omega
 have a2:(0:Int)≤(t:Int):=by omega
 have hth:r.th t=x.rt:=by
  unfold RR.th
  rw[h.ths,Kit.gD,List.getElem?_map,HXX.out]
  rfl
 have HTH:=Lib.hid hth
 rw[hth]at hnm
 have hnm:x.nums.length≤1000:=hnm
 clear hth
 have HR:=Lib.hid h
 go_enter Tryz.func76,Tryz.ntmps76
 go_upto_region 2 with fail
 obtain⟨w1,hw1⟩:∃yy:World,yy=(w.alloc (.cells #[.bool false,.int .i64 nc,.slice (some ⟨g,0,none⟩) V.tcs.length cap,.slice ae r.events.length ce,.slice af r.rf.length cf,.slice am r.rmw.length cm,.slice ao V.vo.length co,.slice al r.log.length cl,.slice ap r.picks.length cp,.int .i64 r.used] 47)).alloc (.cells #[.bool false,.int .i64 0,.slice none 0 0,.slice none 0 0,.slice none 0 0,.slice none 0 0,.slice none 0 0,.slice none 0 0,.slice none 0 0,.int .i64 0] 47):=⟨_,rfl⟩
 have hb1:Below w.heap.size w w1:=by rw[hw1];exact Kit.bl2
 have hD1:Blk w1 w.heap.size 47 #[.bool false,.int .i64 nc,.slice (some ⟨g,0,none⟩) V.tcs.length cap,.slice ae r.events.length ce,.slice af r.rf.length cf,.slice am r.rmw.length cm,.slice ao V.vo.length co,.slice al r.log.length cl,.slice ap r.picks.length cp,.int .i64 r.used]:=by rw[hw1];exact(Blk.new _ _ _).alloc _
 have hE1:Blk w1 (w.heap.size+1) 47 #[.bool false,.int .i64 0,.slice none 0 0,.slice none 0 0,.slice none 0 0,.slice none 0 0,.slice none 0 0,.slice none 0 0,.slice none 0 0,.int .i64 0]:=by rw[hw1];exact Blk.newAt (sizeA _ _) _ _
 rw[←hw1]
 clear hw1
 have k3:w1.cell? ⟨w.heap.size,3,none⟩=some (.slice ae r.events.length ce):=hD1.cell 3
 obtain⟨i0,hi0,hz0,hz1,hz2⟩:=info_parts RunW.info_event
 obtain⟨hv,hve,hvf,hvm,hvo,hvl,hvp⟩:=HV.out
 have hR1:=h.below hb1
 obtain⟨wa,hwa⟩:∃yy:World,yy=w1.alloc (.cells #[.int .i64 t,.int .i64 kd,.int .i64 lo,.int .u64 vv,.int .i64 md] 42):=⟨_,rfl⟩
 have hba:Below w1.heap.size w1 wa:=by rw[hwa];exact Kit.bl1
 have hNa:Blk wa w1.heap.size 42 (List.toArray (RunW.evC ⟨t,kd,lo,vv,md⟩)):=by rw[hwa];exact Blk.new _ _ _
 have hRa:=hR1.below hba
 have hoa:=hRa.own .ev
 simp only[dT,dS,DV.val,dN,dX]at hoa
 rw[hve]at hoa
 have HOA:=Lib.hid hoa
 have hbs:w0.heap.size≤wa.heap.size:=by have:=hRa.start.size;omega
 have hml:(16*1048576:Nat)≤maxLen:=by decide
 have HRa:=Lib.hid hRa
 clear hv hve hvf hvm hvo hvl hvp hoa hRa hR1
 have hDa:=hD1.below' hba
 have hEa:=hE1.below' hba
 have HDN:=Lib.hid (OwnR.own_type HOA.out hDa (by decide))
 have HDa:=Lib.hid hDa
 subst hwa
 go_upto_region 3 with (at_builtin;refine wpList_append_lies _ (by rfl) _ _ _ (by rfl) w0.heap.size 42 i0 _ 5 40 Tryz.underlying27 hi0 hz0 hz1 hz2 rfl (by omega) _ r.events.length _ (by rfl) HOA.out ⟨w1.heap.size,0,none⟩ 1 1 (RunW.evC ⟨t,kd,lo,vv,md⟩) (by rfl) rfl (RunW.news_one hNa) (RunW.evC_one _) (by omega) (by omega) (by omega) hbs _ rfl ?_;intro g8 cap8 w8 hown8 hgrow8 hat8 hlt8;have c3:w8.cell? ⟨w.heap.size,3,none⟩=some (.slice ae r.events.length ce):=(HDa.out.grown hgrow8 HDN.out).cell 3;have cf3:=(HDa.out.grown hgrow8 HDN.out).frozen 3)
 clear c3 cf3 k3
 have hD8:=HDa.out.grown hgrow8 HDN.out
 have hE8:=hEa.grown hgrow8 (OwnR.own_type HOA.out hEa (by decide))
 obtain⟨hv,hve,hvf,hvm,hvo,hvl,hvp⟩:=HV.out
 obtain⟨who1,hR8,hwho1⟩:=HRa.out.app_ev ⟨t,kd,lo,vv,md⟩ hown8 (by rw[hve];exact hgrow8) (by rw[hve];exact hat8.imp id (fun e=>by rw[e];exact Nat.le_refl _))
 have hk8:KeptS (fun k=>who k≠none) w w8:=by
  refine(KeptS.of_below (hb1.trans (hba.mono hb1.size))).trans ⟨hgrow8.os,hgrow8.tape,hgrow8.output,hgrow8.size,fun k hk hn=>hgrow8.block k hk (fun e=>hn ?_)⟩
  show who k≠none
  rw[h.mine .ev k (by simp only[DV.val];rw[hve];exact e.symm)]
  exact fun h=>by cases h
 obtain⟨w9,hw9⟩:∃yy:World,yy=w8.setCell ⟨w.heap.size,3,none⟩ (.slice (some ⟨g8,0,none⟩) (r.events.length+1) cap8):=⟨_,rfl⟩
 rw[←hw9]
 have hk89:KeptS (fun k=>k=w.heap.size) w8 w9:=by rw[hw9];exact(KeptS.refl (fun k=>k=w.heap.size) w8).set rfl _ _
 have hD9:Blk w9 w.heap.size 47 #[.bool false,.int .i64 nc,.slice (some ⟨g,0,none⟩) V.tcs.length cap,.slice (some ⟨g8,0,none⟩) (r.events.length+1) cap8,.slice af r.rf.length cf,.slice am r.rmw.length cm,.slice ao V.vo.length co,.slice al r.log.length cl,.slice ap r.picks.length cp,.int .i64 r.used]:=by rw[hw9];exact hD8.set 3 _
 have hE9:=hk89.blk hE8 (by omega)
 have hR9:=hR8.other hD8 (fun q=>by cases q <;> decide) (by decide) (by have:=h.start.size;omega) hk89
 have hk9:KeptS (fun k=>who k≠none) w w9:=⟨hk89.1.trans hk8.1,hk89.2.1.trans hk8.2.1,hk89.2.2.1.trans hk8.2.2.1,Nat.le_trans hk8.size hk89.size,fun k hk hn=>(hk89.2.2.2.2 k (Nat.lt_of_lt_of_le hk hk8.size) (by omega)).trans (hk8.2.2.2.2 k hk hn)⟩
 have HV9:=Lib.hid (And.intro hv (And.intro hve (And.intro hvf (And.intro hvm (And.intro hvo (And.intro hvl hvp))))))
 have hsz9:w.heap.size+1<w9.heap.size:=hE9.lt
 have HWHO:Hid (∀k,k<w.heap.size→who1 k=who k):=Lib.hid fun k hk=>hwho1 k (Nat.lt_of_lt_of_le hk (Nat.le_trans hb1.size hba.size))
 clear hw9 hk89 hk8 hR8 hD8 hE8 hown8 hgrow8 hat8 hv hve hvf hvm hvo hvl hvp HOA HRa HDa HDN hEa hNa hba hbs hwho1 hD1 hE1 hb1 HRT
 generalize hV1:({ V with ev:=.slice (some ⟨g8,0,none⟩) (r.events.length+1) cap8 }:DV)=V1 at *
 generalize hr1:({ r with events:=r.events++[⟨t,kd,lo,vv,md⟩] }:RR)=r1 at *
 have HV1:=Lib.hid hV1
 have HR1:=Lib.hid hr1
 clear hV1 hr1
 have hx1:V1.tcs[t]?=some x:=by rw[←HV1.out];exact HXX.out
 obtain⟨g',cap',hT9⟩:=hR9.thr hz (by rw[←HV1.out];exact Nat.lt_of_le_of_lt (Nat.zero_le _) hlt)
 obtain⟨rfl,rfl⟩:g=g'∧cap=cap':=by
  have h1:=hT9.val
  rw[←HV1.out]at h1
  have h2:=HV9.out.1
  rw[show({ V with ev:=.slice (some ⟨g8,0,none⟩) (r.events.length+1) cap8 }:DV).thr=V.thr from rfl,h2]at h1
  injection h1 with h1 _ h3
  injection h1 with h1
  injection h1 with h1
  exact⟨h1,h3⟩
 have HT9:=Lib.hid hT9
 have HX1:=Lib.hid hx1
 have hok:=hR9.tc x (List.mem_of_getElem? hx1)
 have HRT:Hid (∀w2,Below w9.heap.size w9 w2→w2.rangeAt g (t*101) (thC mz x)):=Lib.hid fun w2 hb j v hj=>(hb.cell (p:=⟨g,t*101+j,none⟩) HT9.out.lt).trans (HT9.out.at_ t x HX1.out j v hj)
 obtain⟨N,dn,hvn,hdn⟩:=OwnR.own_slice hok.nums
 have HONE:=Lib.hid (thC_one ho hok)
 have HOK:=Lib.hid hok
 clear hT9 hx1 hok
 have k2:w9.cell? ⟨w.heap.size,2,none⟩=some (.slice (some ⟨g,0,none⟩) V.tcs.length cap):=Blk.cell hD9 2
 go_upto_region 4 with (first |(refine wpList_store_row rfl 94 (.tmp 14) (.tmp 34) rfl w9.heap.size (thC mz x).toArray rfl rfl 94 Tryz.zeroCells94 (heap_alloc_new w9 _) (by rw[List.size_toArray,thC_len hz];exact size_th) (zc_size.trans (thC_size hz x).symm) HONE.out ?_) |(refine wpList_load_mid rfl 94 (.tmp 33) rfl g (t*101) rfl (thC mz x) _ (HRT.out _ (Below.refl _ _)) Tryz.underlying94 rfl (by rw[thC_len hz];exact size_th) ?_))
 obtain⟨w10,hw10⟩:∃yy:World,yy=(w9.alloc (.cells Tryz.zeroCells94 94)).setRow w9.heap.size (thC mz x).toArray:=⟨_,rfl⟩
 rw[←hw10]
 rw[World.setRow_alloc_new]at hw10
 have hX10:Blk w10 w9.heap.size 94 (thC mz x).toArray:=by rw[hw10];exact Blk.new _ _ _
 have hb10:Below w9.heap.size w9 w10:=by rw[hw10];exact Kit.bl1
 clear hw10 k2
 have x99:w10.cell? ⟨w9.heap.size,99,none⟩=some (.slice N x.nums.length dn):=by rw[hX10.cell,thC_99 hz,hvn]
 have hmk:=make_ints0 (x.nums.length+1) (by omega) w10
 rw[show((x.nums.length+1:Nat):Int)=(x.nums.length:Int)+1 by omega]at hmk
 simp only[Act.put]
 go_upto_region 5 with fail
 obtain⟨j0,hj0,hjz0,hjz1,hjz2⟩:=info_parts RunW.info_int
 obtain⟨w11,hw11⟩:∃yy:World,yy=w10.alloc (.cells (Array.replicate (x.nums.length+1) (Value.int .i64 0)) 3):=⟨_,rfl⟩
 rw[←hw11]
 have hX11:Blk w11 w9.heap.size 94 (thC mz x).toArray:=by rw[hw11];exact hX10.alloc _
 have hB11:Blk w11 w10.heap.size 3 (Array.replicate (x.nums.length+1) (Value.int .i64 0)):=by rw[hw11];exact Blk.new _ _ _
 have hb11:Below w9.heap.size w9 w11:=by rw[hw11];exact Kit.Below.al hb10 _
 have hml:(16*1048576:Nat)≤maxLen:=by decide
 have hown11:w11.ownsRow 0 3 1 (.slice (some ⟨w10.heap.size,0,none⟩) 0 (x.nums.length+1)) 0 [] :=
  ⟨rfl,.inr ⟨w10.heap.size,x.nums.length+1,Array.replicate (x.nums.length+1) (Value.int .i64 0),rfl,Nat.zero_le _,hB11,Nat.zero_le _,by omega,by simp,rfl⟩⟩
 have HOW:=Lib.hid hown11
 have x99:w11.cell? ⟨w9.heap.size,99,none⟩=some (.slice N x.nums.length dn):=by rw[hX11.cell,thC_99 hz,hvn]
 have hs10:=hX10.lt
 have hs11:=hB11.lt
 clear hown11 hmk hw11 hb10 hX10
 go_cut [15] (fun s15 wz=>∃g15 c15,s15=.slice (some ⟨g15,0,none⟩) x.nums.length c15∧wz.ownsRow 0 3 1 (.slice (some ⟨g15,0,none⟩) x.nums.length c15) x.nums.length (x.nums.map RunW.i64V)∧w10.heap.size≤g15∧Below w10.heap.size w11 wz)
 case first =>
  by_cases hnn:x.nums = []
  ·have hnil:=HOK.out.nilN hnn
   rw[hvn]at hnil
   have hn0:x.nums.length=0:=by rw[hnn];rfl
   have HN0:=Lib.hid hnn
   rw[hn0]at hnil x99 HOW hB11 ⊢
   injection hnil with e1 _ e2
   subst e1 e2
   clear hnn hn0
   go_wp2_with fail
   go_meet
   refine⟨w10.heap.size,1,by rw[HN0.out];rfl,?_,Nat.le_refl _,Below.refl _ _⟩
   rw[HN0.out]
   exact HOW.out
  ·have hpos:0<x.nums.length:=List.length_pos_iff.2 hnn
   obtain⟨gn,dn',hvn',_,hgn,_,_,hcn⟩:=OwnR.own_cells HOK.out.nums hpos
   rw[hvn]at hvn'
   injection hvn' with e1 _ e2
   subst e1 e2
   have hnews:∀(j:Nat) (u:Value),(x.nums.map RunW.i64V)[j]?=some u→w11.cell? ((⟨gn,0,none⟩:Addr).add j)=some u:=fun j u hj=>by
    rw[show(⟨gn,0,none⟩:Addr).add j=⟨gn,j,none⟩ by unfold Addr.add;split <;> simp_all]
    rw[hb11.cell (p:=⟨gn,j,none⟩) hgn]
    exact hcn j u hj
   have hone:∀u∈x.nums.map RunW.i64V,u.oneCell'=true:=fun u hu=>by
    obtain⟨y,_,rfl⟩:=List.mem_map.1 hu
    rfl
   have HNW:=Lib.hid hnews
   have HO1:=Lib.hid hone
   clear hnews hone hcn hnn
   go_wp2_with (at_builtin;refine wpList_append_lies _ (by rfl) _ _ _ (by rfl) 0 3 j0 _ 1 8 Tryz.underlying25 hj0 hjz0 hjz1 hjz2 rfl (by omega) _ 0 _ (by rfl) HOW.out ⟨gn,0,none⟩ x.nums.length dn (x.nums.map RunW.i64V) (by rfl) (by simp) HNW.out HO1.out hpos (by omega) (by omega) (Nat.zero_le _) _ rfl ?_;intro g15 cap15 w15 hown15 hgrow15 hat15 hlt15)
   go_meet
   rw[Nat.zero_add,List.nil_append]at hown15
   refine⟨g15,cap15,rfl,hown15,?_,?_⟩
   ·rcases hat15 with h1 | h1
    ·simp[Value.ownBlock]at h1
     omega
    ·omega
   ·exact(Below.refl w10.heap.size w11).grown hgrow15 (by omega) (fun k hk=>by
     simp[Value.ownBlock]at hk
     omega)
 case rest =>
  obtain⟨g15,c15,rfl,hown15,hg15,hb15⟩:=hcut
  have hXc:=hX11.below hb15 (by omega)
  have hbc:Below w9.heap.size w9 wc:=hb11.trans (hb15.mono (by omega))
  have hsc:=hb15.size
  clear x99 HOW hB11 hX11 hb11 hb15
  have hbd:Below wc.heap.size wc (wc.alloc (.cells #[.int .i64 r.events.length] 3)):=Kit.bl1
  have hNd:Blk (wc.alloc (.cells #[.int .i64 r.events.length] 3)) wc.heap.size 3 (List.toArray [RunW.i64V r.events.length]):=Blk.new _ _ _
  have hXd:=hXc.below' hbd
  have HOW:=Lib.hid (OwnR.own_stays hown15 fun k hk=>hbd.block k (OwnR.own_lt hown15 hk))
  have HXD:=Lib.hid hXd
  have HDN:=Lib.hid (OwnR.own_type HOW.out hXd (by decide))
  have h99:=thC_99 hz x
  go_upto_region 7 with (at_builtin;refine wpList_append_lies _ (by rfl) _ _ _ (by rfl) 0 3 j0 _ 1 8 Tryz.underlying25 hj0 hjz0 hjz1 hjz2 rfl (by omega) _ x.nums.length _ (by rfl) HOW.out ⟨wc.heap.size,0,none⟩ 1 1 [RunW.i64V r.events.length] (by rfl) rfl (RunW.news_one hNd) (RunW.one_one rfl) (by omega) (by omega) (by omega) (Nat.zero_le _) _ rfl ?_;intro g16 cap16 w16 hown16 hgrow16 hat16 hlt16;have c99:w16.cell? ⟨w9.heap.size,99,none⟩=some (.slice N x.nums.length dn):=by { rw[(HXD.out.grown hgrow16 HDN.out).cell,h99,hvn] };have cf99:=(HXD.out.grown hgrow16 HDN.out).frozen 99)
  have hX16:=HXD.out.grown hgrow16 HDN.out
  have hg16:w10.heap.size≤g16:=by
   rcases hat16 with h1 | h1
   ·simp[Value.ownBlock]at h1
    omega
   ·have:=hbd.size
    omega
  have hb16:Below w9.heap.size w9 w16:=(hbc.trans (hbd.mono (by omega))).grown hgrow16 (by have:=hbd.size;omega) (fun k hk=>by
   simp[Value.ownBlock]at hk
   omega)
  obtain⟨w17,hw17⟩:∃yy:World,yy=w16.setCell ⟨w9.heap.size,99,none⟩ (.slice (some ⟨g16,0,none⟩) (x.nums.length+1) cap16):=⟨_,rfl⟩
  rw[←hw17]
  obtain⟨x',hx'⟩:∃y:TC,y = { x with nums:=x.nums++[r.events.length],vn:=.slice (some ⟨g16,0,none⟩) (x.nums.length+1) cap16 }:=⟨_,rfl⟩
  have hX17:Blk w17 w9.heap.size 94 (thC mz x').toArray:=by rw[hw17,hx',←thC_set99 hz];exact hX16.set 99 _
  have hb17:Below w9.heap.size w9 w17:=by rw[hw17];exact hb16.setCell (p:=⟨w9.heap.size,99,none⟩) (Nat.le_refl _) _
  have hN17:I64O w17 x'.vn x'.nums:=by
   have h1:=OwnR.own_stays (w':=w17) hown16 (fun k hk=>by
    rw[hw17,Below.heap_setCell _ _ _ _ (fun e=>OwnR.own_type hown16 hX16 (by decide) (by rw[hk,e]))])
   unfold I64O
   rw[hx']
   simpa using h1
  have XD:=Lib.hid hx'
  have hfree:∀k,x'.vn.ownBlock=some k→who1 k=none:=fun k hk=>by
   rw[XD.out]at hk
   obtain rfl:g16=k:=by simpa [Value.ownBlock]using hk
   cases hwk:who1 g16 with
   | none=>rfl
   | some q=>have:=(hR9.lt _ _ hwk).2;omega
  clear hw17 hx' hown16 hgrow16 hat16 hX16 c99 cf99 hb16 HXD HDN HOW hXd hNd hbd hXc hbc hown15
  have hD17:=hD9.below' hb17
  have hE17:=hE9.below' hb17
  have hR17:=hR9.below hb17
  have k2:w17.cell? ⟨w.heap.size,2,none⟩=some (.slice (some ⟨g,0,none⟩) V.tcs.length cap):=Blk.cell hD17 2
  have HTR:Hid (w17.there g (t*101) (thC mz x').toArray.size):=Lib.hid (by
   rw[thC_size hz]
   intro j hj
   have h2:=HT9.out.there hz (t:=t) (by rw[←HV1.out];exact hlt) j hj
   exact⟨by rw[hb17.cell (p:=⟨g,t*101+j,none⟩) HT9.out.lt];exact h2.1,by rw[hb17.frozen (p:=⟨g,t*101+j,none⟩) HT9.out.lt];exact h2.2⟩)
  have HRX:Hid (w17.rangeAt w9.heap.size 0 (thC mz x')):=Lib.hid (blk_range hX17)
  have HON':Hid ((thC mz x').toArray.all (·.oneCell')=true):=Lib.hid (by
   rw[XD.out]
   refine all_oneCell_toArray fun v hv=>?_
   have h1:=HONE.out
   have h2:=fun v (hv:v∈thC mz x)=>(Array.all_eq_true_iff_forall_mem.1 h1) v (by simpa using hv)
   have h3:v∈thC mz x∨v=.slice (some ⟨g16,0,none⟩) (x.nums.length+1) cap16:=by
    simp only[thC,stC,List.mem_append,List.mem_cons,List.not_mem_nil,or_false]at hv ⊢
    rcases hv with hv | hv | hv | hv
    ·exact .inl (.inl hv)
    ·exact .inl (.inr (.inl hv))
    ·exact .inr hv
    ·exact .inl (.inr (.inr (.inr hv)))
   rcases h3 with h3 | rfl
   ·exact h2 v h3
   ·rfl)
  go_upto_region 8 with (first |(refine wpList_store_mid rfl 94 (.tmp 53) (.tmp 52) rfl g (t*101) (thC mz x').toArray rfl rfl HTR.out (by rw[thC_size hz];exact size_th) HON'.out ?_) |(refine wpList_load_mid rfl 94 (.tmp 14) rfl w9.heap.size 0 rfl (thC mz x') _ HRX.out Tryz.underlying94 rfl (by rw[thC_len hz];exact size_th) ?_))
  clear k2
  simp only[Act.put]
  obtain⟨w19,hw19⟩:∃yy:World,yy=w17.setCells g (t*101) (thC mz x').toArray.toList:=⟨_,rfl⟩
  have hk19:KeptS (fun k=>k=g) w17 w19:=by rw[hw19];exact setCells_kept _ _ _
  have hD19:=hk19.blk hD17 (by omega)
  have hE19:=hk19.blk hE17 (by omega)
  have HW19:=Lib.hid hw19
  rw[←hw19]
  clear hw19 hX17 hD17 hE17 HTR HRX HON'
  obtain⟨kd0,kd1,kd2,kd3,kd4,kd5,kd6,kd7,kd8,kd9⟩:=Kit.cells10 hD19
  obtain⟨z0,z1,z2,z3,z4,z5,z6,z7,z8,z9⟩:=Kit.cells10 hE19
  have zf:=fun i=>hE19.frozen i
  go_wp2_with fail
  clear zf z0 kd0 z1 kd1 z2 kd2 z3 kd3 z4 kd4 z5 kd5 z6 kd6 z7 kd7 z8 kd8 z9 kd9
  refine(show bodyPost _ _ _ _ _ (RunW.putL w19 (w.heap.size+1) 0 [.bool false,.int .i64 nc,.slice (some ⟨g,0,none⟩) V.tcs.length cap,.slice (some ⟨g8,0,none⟩) (r.events.length+1) cap8,.slice af r.rf.length cf,.slice am r.rmw.length cm,.slice ao V.vo.length co,.slice al r.log.length cl,.slice ap r.picks.length cp,.int .i64 r.used])from RunW.putL_go hE19 rfl fun wf hEf hkf=>?_)
  obtain⟨e0,e1,e2,e3,e4,e5,e6,e7,e8,e9⟩:=Kit.cells10 hEf
  refine bodyPost_ret (v:=.agg #[.bool false,.int .i64 nc,.slice (some ⟨g,0,none⟩) V.tcs.length cap,.slice (some ⟨g8,0,none⟩) (r.events.length+1) cap8,.slice af r.rf.length cf,.slice am r.rmw.length cm,.slice ao V.vo.length co,.slice al r.log.length cl,.slice ap r.picks.length cp,.int .i64 r.used]) (by simp[results,Tryz.results76,go_sem,e0,e1,e2,e3,e4,e5,e6,e7,e8,e9]) rfl ?_
  obtain⟨hv,hve,hvf,hvm,hvo,hvl,hvp⟩:=HV9.out
  obtain⟨who',hR19,hw19'⟩:=hR17.setT hz (by rw[←HV1.out];exact hlt) HT9.out.val (x':=x') (by rw[XD.out];exact HOK.out.acts) (by rw[XD.out];exact HOK.out.ok) (by rw[XD.out];exact HOK.out.locs.below hb17) hN17 hfree (fun h0=>by rw[XD.out]at h0;simp at h0)
  have e19:=HW19.out
  rw[←e19]at hR19
  have hlow:w0.heap.size≤w.heap.size:=h.start.size
  have hRf:=hR19.other hE19 (fun q=>by cases q <;> decide) (by decide) (by omega) (w':=wf) hkf
  have hre:r.event t kd lo vv md = { r1 with ths:=r1.ths.set t x'.rt }:=by
   rw[←HR1.out,XD.out]
   unfold RR.event
   rw[HTH.out]
   rfl
  rw[hre]
  refine⟨{ V1 with tcs:=V1.tcs.set t x' },?_,⟨who',hRf,fun k hk=>?_⟩,?_⟩
  ·rw[←HV1.out,←HR1.out]
   show Ending.returned (.agg _)=Ending.returned (.agg #[.bool false,.int .i64 (nc:Int),V.thr,.slice (some ⟨g8,0,none⟩) (r.events.length+1) cap8,V.rf,V.rmw,V.outs,V.log,V.pks,.int .i64 (r.used:Int)])
   rw[hv,hvf,hvm,hvo,hvl,hvp]
  ·rw[hw19' k (by have:=hb17.size;have:=hk9.size;omega)]
   exact HWHO.out k hk
  ·have hk17:KeptS (fun k=>who k≠none) w w17:=hk9.trans (KeptS.of_below hb17)
   have hk19':KeptS (fun k=>who k≠none) w w19:=hk17.trans (hk19.mono fun k hk=>by
    rw[hk,h.mine .thr g (by simp[DV.val,hv,Value.ownBlock])]
    simp)
   exact⟨hkf.1.trans hk19'.1,hkf.2.1.trans hk19'.2.1,hkf.2.2.1.trans hk19'.2.2.1,Nat.le_trans hk19'.size hkf.size,fun k hk hn=>(hkf.2.2.2.2 k (Nat.lt_of_lt_of_le hk hk19'.size) (by omega)).trans (hk19'.2.2.2.2 k hk hn)⟩
def LastRel (l:List Ev) (loc:Int) (w1:World) (m:Nat) (s5 s6:Value) (wr:World):Prop :=
 ∃(k:Nat) (b:Int),s5=.int .i64 b∧s6=.int .i64 k∧k≤l.length∧m=l.length-k∧lastG loc k b (l.drop k)=lastR l loc∧wr=w1
theorem RunAt.evs {mz:List Value} {w0:World} {nc:Nat} {w:World} {who:Nat→Option Dq} {V:DV} {r:RR} (h:RunAt mz w0 nc w who V r) {ae:Option Addr} {ce:Nat} (hve:V.ev=.slice ae r.events.length ce) {k:Nat} {e:Ev} (hk:r.events[k]?=some e) :
  ∃g,ae=some ⟨g,0,none⟩∧g<w.heap.size∧w.rangeAt g (k*5) (RunW.evC e):=by
 have hlt:=(List.getElem?_eq_some_iff.1 hk).1
 obtain⟨g,cap,h1,_,h2,_,_,h4⟩:=OwnR.own_cells (h.own .ev) (by simp only[dN];omega)
 simp only[DV.val,dN]at h1
 rw[hve]at h1
 injection h1 with h1 _ _
 refine⟨g,h1,h2,fun j v hj=>h4 (k*5+j) v ?_⟩
 have hj5:j<5:=(List.getElem?_eq_some_iff.1 hj).1
 show(r.events.flatMap RunW.evC)[k*5+j]?=some v
 rw[NewW.flat_get RunW.evC 5 (fun _=>rfl) r.events k j e hk hj5]
 exact hj
set_option maxRecDepth 100000 in
set_option maxHeartbeats 4000000 in
theorem Last_any {mz:List Value} {w0:World} {nc:Nat} {w:World} {who:Nat→Option Dq} {V:DV} {r:RR} (h:RunAt mz w0 nc w who V r) (hev:r.events.length≤1000) (loc:Int) :
  Calls Tryz.prog 51 #[.agg (runD nc V r),.int .i64 loc] w fun e w'=>e=.returned (.int .i64 (lastR r.events loc))∧Below w.heap.size w w':=by
 obtain⟨aT,cT,hvT,_⟩:=OwnR.own_slice (h.own .thr)
 obtain⟨ae,ce,hve,_⟩:=OwnR.own_slice (h.own .ev)
 obtain⟨af,cf,hvf,_⟩:=OwnR.own_slice (h.own .rf)
 obtain⟨am,cm,hvm,_⟩:=OwnR.own_slice (h.own .rmw)
 obtain⟨ao,co,hvo,_⟩:=OwnR.own_slice (h.own .outs)
 obtain⟨al,cl,hvl,_⟩:=OwnR.own_slice (h.own .log)
 obtain⟨ap,cp,hvp,_⟩:=OwnR.own_slice (h.own .pks)
 simp only[DV.val,dN]at hvT hve hvf hvm hvo hvl hvp
 have HE:=Lib.hid (fun (k:Nat) (e:Ev) (hk:r.events[k]?=some e)=>h.evs hve hk)
 unfold runD
 rw[hvT,hve,hvf,hvm,hvo,hvl,hvp]
 clear hvT hve hvf hvm hvo hvl hvp
 generalize hee:r.events=l at *
 go_enter Tryz.func51,Tryz.ntmps51
 go_upto_region 3 with fail
 obtain⟨w1,hw1⟩:∃yy:World,yy=w.alloc (.cells #[.bool false,.int .i64 nc,.slice aT V.tcs.length cT,.slice ae l.length ce,.slice af r.rf.length cf,.slice am r.rmw.length cm,.slice ao V.vo.length co,.slice al r.log.length cl,.slice ap r.picks.length cp,.int .i64 r.used] 47):=⟨_,rfl⟩
 have hb1:Below w.heap.size w w1:=by rw[hw1];exact Kit.bl1
 have hD1:Blk w1 w.heap.size 47 #[.bool false,.int .i64 nc,.slice aT V.tcs.length cT,.slice ae l.length ce,.slice af r.rf.length cf,.slice am r.rmw.length cm,.slice ao V.vo.length co,.slice al r.log.length cl,.slice ap r.picks.length cp,.int .i64 r.used]:=by rw[hw1];exact Blk.new _ _ _
 rw[←hw1]
 have k3:w1.cell? ⟨w.heap.size,3,none⟩=some (.slice ae l.length ce):=Blk.cell hD1 3
 clear hw1 hD1 hee h
 go_loopg [5,6] l.length (fun m s5 s6 wr=>LastRel l loc w1 m s5 s6 wr)
 case atStart=>exact⟨0,-1,rfl,rfl,Nat.zero_le _,rfl,rfl,rfl⟩
 case round =>
  obtain⟨k,b,rfl,rfl,hk,hm,hg,rfl⟩:=hrel
  have HM:=Lib.hid hm
  clear hm
  by_cases hke:k<l.length
  ·obtain⟨g,rfl,hgl,hr⟩:=HE.out k l[k] (by simp[hke])
   rw[List.drop_eq_getElem_cons hke]at hg
   simp only[lastG]at hg
   have HG:=Lib.hid hg
   clear hg
   generalize l[k]=e at *
   obtain⟨th,ki,lo,va,md⟩:=e
   simp only at HG
   have r1:wr.cell? ⟨g,k*5+1,none⟩=some (.int .i64 ki):=by rw[hb1.cell (p:=⟨g,k*5+1,none⟩) hgl];exact hr 1 _ rfl
   have r2:wr.cell? ⟨g,k*5+2,none⟩=some (.int .i64 lo):=by rw[hb1.cell (p:=⟨g,k*5+2,none⟩) hgl];exact hr 2 _ rfl
   have a1:(k:Int)<(l.length:Int):=by omega
   have a2:(0:Int)≤(k:Int):=by omega
   clear hr
   by_cases hki:ki=2
   ·subst hki
    by_cases hlo:lo=loc
    ·subst hlo
     go_wp2_with fail
     go_roundg (l.length-(k+1))
     case measure=>have:=HM.out;omega
     case rel=>exact⟨k+1,k,rfl,by push_cast;rfl,hke,rfl,by rw[←HG.out,if_pos (by simp)],rfl⟩
    ·have q1:(lo == loc)=false:=by simpa using hlo
     have HLO:=Lib.hid hlo
     clear hlo
     go_wp2_with fail
     go_roundg (l.length-(k+1))
     case measure=>have:=HM.out;omega
     case rel=>exact⟨k+1,b,rfl,by push_cast;rfl,hke,rfl,by rw[←HG.out,if_neg (fun hh=>HLO.out hh.2)],rfl⟩
   ·have q1:(ki == 2)=false:=by simpa using hki
    have HKI:=Lib.hid hki
    clear hki
    go_wp2_with fail
    go_roundg (l.length-(k+1))
    case measure=>have:=HM.out;omega
    case rel=>exact⟨k+1,b,rfl,by push_cast;rfl,hke,rfl,by rw[←HG.out,if_neg (fun hh=>HKI.out hh.1)],rfl⟩
  ·obtain rfl:k=l.length:=by omega
   rw[List.drop_length]at hg
   have HG:=Lib.hid hg
   clear hg
   go_wp2_with fail
   go_ret
   exact⟨by rw[←HG.out];rfl,hb1⟩
end Go.Proofs.YtmjilfamjlnigaaGreat.RefW
