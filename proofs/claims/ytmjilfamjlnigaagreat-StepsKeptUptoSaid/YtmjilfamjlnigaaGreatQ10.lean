/- WALKS: a thread is made. -/
import Derived.Test.YtmjilfamjlnigaaGreatQ09
namespace Go.Proofs.YtmjilfamjlnigaaGreat.NewW
open Go Go.RowKit Kit SrcP SrcW MchW
def NwRel (w:World) (l:List SrcP.Act) (B:Option Addr) (d:Nat) (vs0:List VVV) (gT:Nat) (tl:Int) (mm:Nat) (s35:Value) (wr:World):Prop :=
 ∃(k:Nat) (vs:List VVV),s35=.int .i64 k∧k≤l.length∧mm=l.length-k∧vs.length=l.length∧wr.ownsRow w.heap.size 58 11 (.slice B l.length d) l.length (actsC l vs)∧Below w.heap.size w wr ∧
  Blk wr gT 60 #[.int .i64 tl,.slice B l.length d]∧(∀i,k≤i→vs[i]?=vs0[i]?) ∧
  (∀(i:Nat) (a:SrcP.Act) (t:VVV),i<k→l[i]?=some a→vs[i]?=some t→(NodesS wr t.1 a.index∧NodesS wr t.2.1 a.e∧NodesS wr t.2.2 a.f)∧NilOk t.1∧NilOk t.2.1∧NilOk t.2.2)
theorem own_blk {w:World} {base e size n g cap:Nat} {xs:List Value} (h:w.ownsRow base e size (.slice (some ⟨g,0,none⟩) n cap) n xs):∃cur,Blk w g e cur:=by
 rcases h.2 with⟨h0,_⟩ | ⟨g',cap',cur,h0,_,hh,_⟩
 ·cases h0
 ·injection h0 with h0
  injection h0 with h0
  injection h0 with h0
  subst h0
  exact⟨cur,hh⟩
theorem kept_below {S:Nat→Prop} {w w1 w2:World} (h:Below w.heap.size w w1) (k:KeptS S w1 w2) (hs:∀j,S j→w.heap.size≤j):Below w.heap.size w w2 :=
 ⟨k.1.trans h.os,k.2.1.trans h.tape,k.2.2.1.trans h.output,Nat.le_trans h.size k.size,fun j hj=>(k.2.2.2.2 j (Nat.lt_of_lt_of_le hj h.size) (fun hS=>by have:=hs j hS;omega)).trans (h.block j hj)⟩
theorem nNA:¬TN 58:=by unfold TN;decide
theorem acts_own {w:World} {base d:Nat} {B:Option Addr} {l:List SrcP.Act} {vs:List VVV} (h:w.ownsRow base 58 11 (.slice B l.length d) l.length (actsC l vs)) (hv:vs.length=l.length)
  (hn:∀(i:Nat) (a:SrcP.Act) (t:VVV),l[i]?=some a→vs[i]?=some t→(NodesS w t.1 a.index∧NodesS w t.2.1 a.e∧NodesS w t.2.2 a.f)∧NilOk t.1∧NilOk t.2.1∧NilOk t.2.2)
  (hb:∀a∈l,a.index.length≤1048576∧a.e.length≤1048576∧a.f.length≤1048576):ActsS w (.slice B l.length d) l:=by
 refine⟨B,d,rfl,fun i a hi=>?_⟩
 have hil:=(List.getElem?_eq_some_iff.1 hi).1
 obtain⟨t,ht⟩:∃t,vs[i]?=some t:=⟨_,Kit.eG (by omega)⟩
 obtain⟨⟨q1,q2,q3⟩,q4,q5,q6⟩:=hn i a t hi ht
 obtain⟨s1,s2,s3⟩:=hb a (List.mem_of_getElem? hi)
 have hsub:∀u,TN u→TA u:=fun u hu=>.inr hu
 rcases h.2 with⟨_,h1⟩ | ⟨g,cap,cur,h0,_,hh,_,_,_,htk⟩
 ·omega
 ·injection h0 with h0 _ _
  subst h0
  refine⟨⟨g,0,none⟩,t.1,t.2.1,t.2.2,rfl,fun w' hs j u hj=>?_,fun w' hs=>⟨q1 w' (hs.sub hsub),q2 w' (hs.sub hsub),q3 w' (hs.sub hsub),s1,s2,s3,q4,q5,q6⟩⟩
  have hb':=hs g cur 58 (0,0) hh (.inl rfl)
  have hj11:j<11:=(List.getElem?_eq_some_iff.1 hj).1
  have hget:=actsC_get l vs i a t hi ht j hj11
  rw[←Array.getElem?_toList,hj,←htk,List.getElem?_take]at hget
  split at hget
  ·rw[add_add,show Addr.add ⟨g,0,none⟩ (i*11+j)=⟨g,i*11+j,none⟩ by unfold Addr.add;split <;> simp_all]
   rw[World.cell?,hb']
   simpa using hget
  ·cases hget
set_option maxRecDepth 100000 in
set_option maxHeartbeats 0 in
theorem New_any (p:SrcP.Prog) (vt:Value) (hlen:p.threads.length≤1048576) (t:Nat) (th:SrcP.Thread) (ht:p.threads[t]?=some th) (hwh:wholeP p=true) (w:World) (h:ThreadsAt w vt p.threads) :
  Calls Tryz.prog 41 #[.agg #[.int .i64 p.cells,vt],.int .i64 t] w fun r w'=>∃g gl va,r=.returned (.tuple #[.pointer (some ⟨g,0,none⟩),.int .i64 0])∧MachM w' g gl th.locals va th.locals.toNat (newM th)∧w.heap.size≤g∧w.heap.size≤gl∧Below w.heap.size w w':=by
 have HT:=Lib.hid h
 obtain⟨A,c,rfl,hE⟩:=h
 obtain⟨ad,va,rfl,hC,hAc,hal,hnil⟩:=hE t th ht
 have htl:t<p.threads.length:=(List.getElem?_eq_some_iff.1 ht).1
 have b1:(t:Int)<(p.threads.length:Int):=by omega
 have b2:¬((t:Int)<0):=by omega
 have b3:(0:Int)≤(t:Int):=by omega
 have HW:∀w2,Below w.heap.size w w2→Hid (Calls Tryz.prog 40 #[.agg #[.int .i64 p.cells,.slice (some ad) p.threads.length c]] w2 fun r w'=>r=.returned (.bool true)∧Below w2.heap.size w2 w') :=
  fun w2 hb=>by rw[←hwh];exact Lib.hid (Whole_any p _ hlen w2 (HT.out.below hb))
 go_enter Tryz.func41,Tryz.ntmps41
 go_upto_region 1 with fail
 obtain⟨w0,hw0⟩:∃x,x=w.alloc (.cells #[.int .i64 p.cells,.slice (some ad) p.threads.length c] 24):=⟨_,rfl⟩
 have hb0:Below w.heap.size w w0:=by rw[hw0];exact Kit.bl1
 have hP0:Blk w0 w.heap.size 24 #[.int .i64 p.cells,.slice (some ad) p.threads.length c]:=by rw[hw0];exact Blk.new _ _ _
 rw[←hw0]
 clear hw0
 have k0:w0.cell? ⟨w.heap.size,0,none⟩=some (.int .i64 p.cells):=hP0.cell 0
 have k1:w0.cell? ⟨w.heap.size,1,none⟩=some (.slice (some ad) p.threads.length c):=hP0.cell 1
 have HW0:=HW w0 hb0
 go_upto_region 3 with (go_at_call 40;refine HW0.out.mono ?_;rintro e w1 ⟨rfl,hb1⟩;have k1':w1.cell? ⟨w.heap.size,1,none⟩=some (.slice (some ad) p.threads.length c):=(hP0.below' hb1).cell 1)
 clear k0 k1
 have hbw1:=Kit.Below.then hb0 hb1
 replace hC:=hC.below hbw1
 have hA1:=hAc.below hbw1
 obtain⟨B,d,rfl,hD⟩:=hA1
 have r0:w1.cell? (ad.add (t*2))=some (.int .i64 th.locals):=hC 0 _ rfl
 have r1:w1.cell? ⟨(ad.add (t*2)).block,(ad.add (t*2)).off+1,none⟩=some (.slice B th.acts.length d):=hC 1 _ rfl
 go_upto_region 4 with fail
 obtain⟨w2,hw2⟩:∃x,x=w1.alloc (.cells #[.int .i64 th.locals,.slice B th.acts.length d] 60):=⟨_,rfl⟩
 have hb12:Below w1.heap.size w1 w2:=by rw[hw2];exact Kit.bl1
 have hbw2:=Kit.Below.then hbw1 hb12
 have hT2:Blk w2 w1.heap.size 60 #[.int .i64 th.locals,.slice B th.acts.length d]:=by rw[hw2];exact Blk.new _ _ _
 have hgT:w.heap.size≤w1.heap.size:=hbw1.size
 rw[←hw2]
 have hCL:=cloneAct_any w w2 hbw2 _ th.acts hAc hnil hal
 generalize w1.heap.size=gT at *
 clear hw2 r0 r1 hC hD k1' HW HW0 hE hAc hnil hP0 hb1 hb0 HT hbw1 hb12
 have HCL:=Lib.hid hCL
 clear hCL
 have k1:w2.cell? ⟨gT,1,none⟩=some (.slice B th.acts.length d):=hT2.cell 1
 have hLa:th.acts.length≤65536:=by
  simp only[wholeP,Bool.and_eq_true,List.all_eq_true]at hwh
  have:=hwh.2 th (List.mem_of_getElem? ht)
  simp only[threadOk,Bool.and_eq_true,decide_eq_true_eq]at this
  exact this.1.2.2
 have hLo:0≤th.locals∧th.locals≤24:=by
  simp only[wholeP,Bool.and_eq_true,List.all_eq_true]at hwh
  have:=hwh.2 th (List.mem_of_getElem? ht)
  simp only[threadOk,Bool.and_eq_true,decide_eq_true_eq]at this
  exact⟨this.1.1,this.1.2.1⟩
 clear ht hwh htl b1 b2 b3
 obtain⟨tl,l⟩:=th
 simp only at *
 go_upto_region 5 with (go_at_call 60;refine HCL.out.mono ?_;rintro e w3 ⟨B2,d2,vs0,rfl,hvl,hown,hvs,hnil2,hb3⟩;have k1':w3.cell? ⟨gT,1,none⟩=some (.slice B l.length d):=(hT2.below' hb3).cell 1;have kf:=fun i=>(hT2.below' hb3).frozen i)
 have hT3:=hT2.below' hb3
 have hgT2:=hT2.lt
 have hT4:=hT3.set 1 (.slice B2 l.length d2)
 have hb4:=Kit.Below.setN (Kit.Below.then hbw2 hb3) hgT (o:=1) (.slice B2 l.length d2)
 have hown4:(w3.setCell ⟨gT,1,none⟩ (.slice B2 l.length d2)).ownsRow w2.heap.size 58 11 (.slice B2 l.length d2) l.length (actsC l vs0) :=
  OwnR.own_stays hown fun k hk=>Below.heap_setCell _ ⟨gT,1,none⟩ _ k (by have:=OwnR.own_base hown hk;simp only;omega)
 generalize w3.setCell ⟨gT,1,none⟩ (.slice B2 l.length d2)=w4 at *
 have hown4:=OwnR.own_mono hown4 hbw2.size
 clear hown hT3 hT2 k1 k1' kf HCL
 simp at hT4
 have k1:w4.cell? ⟨gT,1,none⟩=some (.slice B2 l.length d2):=hT4.cell 1
 have HVS:=Lib.hid hvs
 clear hvs
 go_wp2_with fail
 go_loopg [35] l.length (fun mm s35 wr=>NwRel w l B2 d2 vs0 gT tl mm s35 wr)
 case atStart=>exact⟨0,vs0,rfl,Nat.zero_le _,rfl,hvl,hown4,hb4,hT4,fun _ _=>rfl,fun i a t h=>by omega⟩
 case round =>
  obtain⟨k,vs,rfl,hk,hmm,hvl2,hown5,hb5,hT5,hold,hnew⟩:=hrel
  have HM:=Lib.hid hmm
  clear hmm
  by_cases hke:k<l.length
  ·obtain⟨a,ha⟩:∃a,l[k]?=some a:=⟨_,Kit.eG hke⟩
   obtain⟨t0,ht0⟩:∃t0,vs[k]?=some t0:=⟨_,Kit.eG (by omega)⟩
   have hav:=HVS.out k a t0 ha (by rw[←hold k (Nat.le_refl _)];exact ht0)
   obtain⟨gA,cap,hBv,hbase,hgA,hcap,hfrz,hcell⟩:=OwnR.own_cells hown5 (by omega)
   injection hBv with hB hBl hBc
   subst hB hBc
   obtain⟨vi,ve,vf⟩:=t0
   have hget:=fun r hr=>actsC_get l vs k a (vi,ve,vf) ha ht0 r hr
   simp only at hget hav
   obtain⟨I,ci,hI,hIE⟩:=hav.index
   obtain⟨E,ce,hEe,hEE⟩:=hav.e
   obtain⟨F,cf,hF,hFE⟩:=hav.f
   subst hI hEe hF
   have b1:(k:Int)<(l.length:Int):=by omega
   have b2:(0:Int)≤(k:Int):=by omega
   have n0:wr.cell? ⟨gA,k*11+0,none⟩=some (.int .i64 a.op):=hcell _ _ (hget 0 (by decide))
   have n1:wr.cell? ⟨gA,k*11+1,none⟩=some (.int .i64 a.dst):=hcell _ _ (hget 1 (by decide))
   have n2:wr.cell? ⟨gA,k*11+2,none⟩=some (.int .i64 a.base):=hcell _ _ (hget 2 (by decide))
   have n3:wr.cell? ⟨gA,k*11+3,none⟩=some (.int .i64 a.size):=hcell _ _ (hget 3 (by decide))
   have n4:wr.cell? ⟨gA,k*11+4,none⟩=some (.slice I a.index.length ci):=hcell _ _ (hget 4 (by decide))
   have n5:wr.cell? ⟨gA,k*11+5,none⟩=some (.slice E a.e.length ce):=hcell _ _ (hget 5 (by decide))
   have n6:wr.cell? ⟨gA,k*11+6,none⟩=some (.slice F a.f.length cf):=hcell _ _ (hget 6 (by decide))
   have n7:wr.cell? ⟨gA,k*11+7,none⟩=some (.int .i64 a.mode):=hcell _ _ (hget 7 (by decide))
   have n8:wr.cell? ⟨gA,k*11+8,none⟩=some (.int .i64 a.to):=hcell _ _ (hget 8 (by decide))
   have n9:wr.cell? ⟨gA,k*11+9,none⟩=some (.int .i64 a.line):=hcell _ _ (hget 9 (by decide))
   have n10:wr.cell? ⟨gA,k*11+10,none⟩=some (.int .i64 a.col):=hcell _ _ (hget 10 (by decide))
   have n0':wr.cell? ⟨gA,k*11,none⟩=some (.int .i64 a.op):=n0
   have hwb:=hav.ne
   go_upto_region 8 with fail
   obtain⟨w5,hw5⟩:∃x,x=wr.alloc (.cells #[.int .i64 a.op,.int .i64 a.dst,.int .i64 a.base,.int .i64 a.size,.slice I a.index.length ci,.slice E a.e.length ce,.slice F a.f.length cf,.int .i64 a.mode,.int .i64 a.to,.int .i64 a.line,.int .i64 a.col] 58):=⟨_,rfl⟩
   have hbr5:Below wr.heap.size wr w5:=by rw[hw5];exact Kit.bl1
   have hC5:Blk w5 wr.heap.size 58 #[.int .i64 a.op,.int .i64 a.dst,.int .i64 a.base,.int .i64 a.size,.slice I a.index.length ci,.slice E a.e.length ce,.slice F a.f.length cf,.int .i64 a.mode,.int .i64 a.to,.int .i64 a.line,.int .i64 a.col]:=by rw[hw5];exact Blk.new _ _ _
   have hT6:=hT5.below' hbr5
   have hown6:=OwnR.own_stays hown5 fun j hj=>hbr5.block j (OwnR.own_lt hown5 hj)
   have hbw5:=Kit.Below.then hb5 hbr5
   rw[←hw5]
   have hbrS:=hbr5
   obtain⟨gC,hgC⟩:∃g,g=wr.heap.size:=⟨_,rfl⟩
   rw[←hgC]at hC5 ⊢
   have hACl:gA<gC:=by omega
   clear hgC
   clear hw5 n0 n0' n1 n2 n3 n4 n5 n6 n7 n8 n9 n10 hcell hfrz hT5
   have HAV:=Lib.hid hav
   obtain⟨cur0,hcur0⟩:=own_blk hown6
   have hgne:gT≠gA:=fun e=>OwnR.own_type hown6 hT6 (by decide) (by rw[e];rfl)
   have hCA:gC≠gA:=by omega
   have HKB:∀w2,KeptS (fun k=>k=gA) w5 w2→Below w.heap.size w w2:=fun w2 h2=>kept_below hbw5 h2 (fun j hj=>by rw[hj];exact hbase)
   have cT:∀p:Cls (KeptS (fun k=>k=gA) w5),p.w.cell? ⟨gT,1,none⟩=some (.slice (some ⟨gA,0,none⟩) l.length d2):=fun p=>(p.h.blk hT6 hgne).cell 1
   have c4:∀p:Cls (KeptS (fun k=>k=gA) w5),p.w.cell? ⟨gC,4,none⟩=some (.slice I a.index.length ci):=fun p=>(p.h.blk hC5 hCA).cell 4
   have c5:∀p:Cls (KeptS (fun k=>k=gA) w5),p.w.cell? ⟨gC,5,none⟩=some (.slice E a.e.length ce):=fun p=>(p.h.blk hC5 hCA).cell 5
   have c6:∀p:Cls (KeptS (fun k=>k=gA) w5),p.w.cell? ⟨gC,6,none⟩=some (.slice F a.f.length cf):=fun p=>(p.h.blk hC5 hCA).cell 6
   refine wp_region_float_at (KeptS (fun k=>k=gA) w5) 24 9 [0,1,2,3,4,5,6,7,8,9,10,12,13,15,16] [] ((KeptS.refl _ w5).dn 1) (by kernel_rfl) (by kernel_rfl) ?_
   intro hne
   simp only[pickL,List.map_cons,List.map_nil,List.getElem?_cons_succ,List.getElem?_cons_zero,Option.getD_some]
   repeat (go_big_quiet_step (fail))
   refine wpQuiet_nil ?_
   have h6:=(KeptS.refl (fun k=>k=gA) w5).dn 1
   have hown7:(w5.drewN 1).ownsRow w.heap.size 58 11 (.slice (some ⟨gA,0,none⟩) l.length d2) l.length (actsC l vs):=OwnR.own_stays hown6 fun _ _=>rfl
   generalize w5.drewN 1=w6 at *
   clear hne cT c4 c5 c6
   refine fG (i:=11) rfl ?_
   go_wp2_with (go_at_call 61;refine(cloneNode_any _ _ a.e (HAV.out.e.below (HKB _ h6)) HAV.out.ne HAV.out.he).mono ?_;rintro e w7 ⟨E2,e2,rfl,hNe,hOe,hbe⟩)
   have h7:=h6.trans (KeptS.of_below hbe)
   refine Kit.oG h7 ?_
   refine fG (i:=14) rfl ?_
   go_wp2_with (go_at_call 61;refine(cloneNode_any _ _ a.f (HAV.out.f.below (HKB _ h7)) HAV.out.nf HAV.out.hf).mono ?_;rintro e w8 ⟨F2,f2,rfl,hNf,hOf,hbf⟩)
   have h8:=h7.trans (KeptS.of_below hbf)
   refine Kit.oG h8 ?_
   refine fG (i:=17) rfl ?_
   go_wp2_with (go_at_call 61;refine(cloneNode_any _ _ a.index (HAV.out.index.below (HKB _ h8)) HAV.out.ni HAV.out.hi).mono ?_;rintro e w9 ⟨I2,i2,rfl,hNi,hOi,hbi⟩)
   have h9:=h8.trans (KeptS.of_below hbi)
   refine Kit.oG h9 ?_
   have hown9:=OwnR.own_stays (OwnR.own_stays (OwnR.own_stays hown7 fun j hj=>hbe.block j (OwnR.own_lt hown7 hj)) fun j hj=>hbf.block j (OwnR.own_lt (OwnR.own_stays hown7 fun j hj=>hbe.block j (OwnR.own_lt hown7 hj)) hj)) fun j hj=>hbi.block j (OwnR.own_lt (OwnR.own_stays (OwnR.own_stays hown7 fun j hj=>hbe.block j (OwnR.own_lt hown7 hj)) fun j hj=>hbf.block j (OwnR.own_lt (OwnR.own_stays hown7 fun j hj=>hbe.block j (OwnR.own_lt hown7 hj)) hj)) hj)
   obtain⟨gA',cap',hBv',_,hgA9,_,hfrz,hcell⟩:=OwnR.own_cells hown9 (by omega)
   injection hBv' with hB' _ hBc'
   injection hB' with hB'
   injection hB' with hB'
   subst hB' hBc'
   have n4:w9.cell? ⟨gA,k*11+4,none⟩=some (.slice I a.index.length ci):=hcell _ _ (hget 4 (by decide))
   have n5:w9.cell? ⟨gA,k*11+5,none⟩=some (.slice E a.e.length ce):=hcell _ _ (hget 5 (by decide))
   have n6:w9.cell? ⟨gA,k*11+6,none⟩=some (.slice F a.f.length cf):=hcell _ _ (hget 6 (by decide))
   refine fG (i:=18) rfl ?_
   go_wp2_with fail
   refine Kit.oG h9 ?_
   refine fG (i:=19) rfl ?_
   go_wp2_with fail
   refine Kit.oG h9 ?_
   refine fG (i:=20) rfl ?_
   go_wp2_with fail
   have h10:=h9.set (g:=gA) rfl (k*11+5) (.slice E2 a.e.length e2)
   refine Kit.oG h10 ?_
   refine fG (i:=21) rfl ?_
   go_wp2_with fail
   refine Kit.oG h10 ?_
   refine fG (i:=22) rfl ?_
   go_wp2_with fail
   refine Kit.oG h10 ?_
   refine fG (i:=23) rfl ?_
   go_wp2_with fail
   have h11:=h10.set (g:=gA) rfl (k*11+6) (.slice F2 a.f.length f2)
   refine Kit.oG h11 ?_
   refine(show tailG _ _ _ _ _ _ _ from⟨by kernel_rfl,?_⟩)
   simp only[List.drop_succ_cons,List.drop_zero]
   go_wp2_with fail
   obtain⟨cur,hcur⟩:=own_blk hown9
   have hT9:=h9.blk hT6 hgne
   have hlen5:k*11+5<(actsC l vs).length:=by rw[actsC_len l vs hvl2];omega
   have o1:=OwnR.own_set hown9 hlen5 (.slice E2 a.e.length e2)
   have o2:=OwnR.own_set o1 (j:=k*11+6) (by rw[List.length_set,actsC_len l vs hvl2];omega) (.slice F2 a.f.length f2)
   have o3:=OwnR.own_set o2 (j:=k*11+4) (by rw[List.length_set,List.length_set,actsC_len l vs hvl2];omega) (.slice I2 a.index.length i2)
   rw[actsC_set l vs k (.slice I2 a.index.length i2) (.slice E2 a.e.length e2) (.slice F2 a.f.length f2) hvl2 hke]at o3
   have hbf9:=Kit.Below.setN (Kit.Below.setN (Kit.Below.setN (HKB _ h9) hbase (o:=k*11+5) (.slice E2 a.e.length e2)) hbase (o:=k*11+6) (.slice F2 a.f.length f2)) hbase (o:=k*11+4) (.slice I2 a.index.length i2)
   have hTf:=((hT9.farN hgne (o:=k*11+5) (.slice E2 a.e.length e2)).farN hgne (o:=k*11+6) (.slice F2 a.f.length f2)).farN hgne (o:=k*11+4) (.slice I2 a.index.length i2)
   have s9:Still TN w9 (((w9.setCell ⟨gA,k*11+5,none⟩ (.slice E2 a.e.length e2)).setCell ⟨gA,k*11+6,none⟩ (.slice F2 a.f.length f2)).setCell ⟨gA,k*11+4,none⟩ (.slice I2 a.index.length i2)) :=
    ((Still.set hcur nNA _).trans (Still.set (hcur.set _ _) nNA _)).trans (Still.set ((hcur.set _ _).set _ _) nNA _)
   generalize ((w9.setCell ⟨gA,k*11+5,none⟩ (.slice E2 a.e.length e2)).setCell ⟨gA,k*11+6,none⟩ (.slice F2 a.f.length f2)).setCell ⟨gA,k*11+4,none⟩ (.slice I2 a.index.length i2)=wf at *
   go_roundg (l.length-(k+1))
   case measure=>have:=HM.out;omega
   case rel =>
    refine⟨k+1,vs.set k (.slice I2 a.index.length i2,.slice E2 a.e.length e2,.slice F2 a.f.length f2),by push_cast;rfl,hke,rfl,by rw[List.length_set];exact hvl2,o3,hbf9,hTf,fun i hi=>?_,fun i b u hi hb hu=>?_⟩
    ·rw[List.getElem?_set_ne (by omega)]
     exact hold i (by omega)
    ·by_cases hik:i=k
     ·subst hik
      rw[ha]at hb
      rw[List.getElem?_set_self (by omega)]at hu
      cases hb
      cases hu
      exact⟨⟨hNi.still s9,hNe.still (((Still.below hbf).trans (Still.below hbi)).trans s9),hNf.still ((Still.below hbi).trans s9)⟩,hOi,hOe,hOf⟩
     ·rw[List.getElem?_set_ne (by omega)]at hu
      have hs5:Still TN wr wf:=(Still.below hbrS).trans ((h9.still (fun k hk=>⟨_,_,hk ▸ hcur0,nNA⟩)).trans s9)
      obtain⟨⟨q1,q2,q3⟩,q4⟩:=hnew i b u (by omega) hb hu
      exact⟨⟨q1.still hs5,q2.still hs5,q3.still hs5⟩,q4⟩
  ·obtain rfl:k=l.length:=by omega
   obtain⟨nl,rfl⟩:=Int.eq_ofNat_of_zero_le hLo.1
   have hmk:=fun w=>make_u64 nl (by omega) w
   have k0:wr.cell? ⟨gT,0,none⟩=some (.int .i64 nl):=hT5.cell 0
   have k1:wr.cell? ⟨gT,1,none⟩=some (.slice B2 l.length d2):=hT5.cell 1
   have k0a:=cellA1 k0 (.cells (Array.replicate nl (.int .u64 0)) 40)
   have k1a:=cellA1 k1 (.cells (Array.replicate nl (.int .u64 0)) 40)
   go_upto_region 10 with fail
   go_region
   go_wp2_with fail
   have hbl:∀a∈l,a.index.length≤1048576∧a.e.length≤1048576∧a.f.length≤1048576:=fun a ha=>by
    obtain⟨i,hi⟩:=List.getElem?_of_mem ha
    obtain⟨t0,ht0⟩:∃t0,vs0[i]?=some t0:=⟨_,Kit.eG (by have:=(List.getElem?_eq_some_iff.1 hi).1;omega)⟩
    have:=HVS.out i a t0 hi ht0
    exact⟨this.hi,this.he,this.hf⟩
   have hAS:=acts_own hown5 hvl2 (fun i a t hi ht=>hnew i a t (List.getElem?_eq_some_iff.1 hi).1 hi ht) hbl
   have hbF:=Kit.Below.d (Kit.Below.al (Kit.Below.al (Below.refl wr.heap.size wr) (.cells (Array.replicate nl (.int .u64 0)) 40)) (.cells #[.int .i64 nl,.slice B2 l.length d2,.int .i64 0,.slice (some ⟨wr.heap.size,0,none⟩) nl nl,.int .i64 0,.int .i64 0,.int .i64 0,.int .u64 0,.bool false,.bool false,.bool false,.int .u64 0,.bool false] 170))
   have hBL:=((Blk.new wr 40 (Array.replicate nl (.int .u64 0))).alloc (.cells #[.int .i64 nl,.slice B2 l.length d2,.int .i64 0,.slice (some ⟨wr.heap.size,0,none⟩) nl nl,.int .i64 0,.int .i64 0,.int .i64 0,.int .u64 0,.bool false,.bool false,.bool false,.int .u64 0,.bool false] 170)).d
   have hBM:=(Blk.newAt (sizeA wr (.cells (Array.replicate nl (.int .u64 0)) 40)) 170 #[.int .i64 nl,.slice B2 l.length d2,.int .i64 0,.slice (some ⟨wr.heap.size,0,none⟩) nl nl,.int .i64 0,.int .i64 0,.int .i64 0,.int .u64 0,.bool false,.bool false,.bool false,.int .u64 0,.bool false]).d
   have hws:=hb5.size
   refine bodyPost_ret (v:=.tuple #[.pointer (some ⟨wr.heap.size+1,0,none⟩),.int .i64 0]) (by simp[results,Tryz.results41,go_sem]) rfl ?_
   have hMM:MachM _ (wr.heap.size+1) wr.heap.size (nl:Int) (.slice B2 l.length d2) nl (newM ⟨nl,l⟩):=⟨hBM,by simpa [newM,u64V]using hBL,hAS.still (Still.below hbF)⟩
   exact⟨wr.heap.size+1,rfl,wr.heap.size,⟨.slice B2 l.length d2,hMM⟩,by omega,hws,Kit.Below.then hb5 hbF⟩
end Go.Proofs.YtmjilfamjlnigaaGreat.NewW
namespace Go.Proofs.YtmjilfamjlnigaaGreat.SrcP
open Go
section
variable {M:Type} (K:Kd M)
structure Grows (r r':Rn M):Prop where
 events:∃l,r'.events=r.events++l
 used:r.used≤r'.used
 ths:r'.ths.length=r.ths.length
 outs:r'.outs.length=r.outs.length
 out:∀t,∃l,r'.outs.getD t []=r.outs.getD t []++l
 cells:r'.cells.length=r.cells.length
theorem Grows.refl (r:Rn M):Grows r r:=⟨⟨[],by simp⟩,Nat.le_refl _,rfl,rfl,fun _=>⟨[],by simp⟩,rfl⟩
theorem Grows.trans {r r1 r2:Rn M} (h:Grows r r1) (h':Grows r1 r2):Grows r r2:=by
 refine⟨?_,Nat.le_trans h.used h'.used,h'.ths.trans h.ths,h'.outs.trans h.outs,fun t=>?_,h'.cells.trans h.cells⟩
 ·obtain⟨l,hl⟩:=h.events
  obtain⟨l',hl'⟩:=h'.events
  exact⟨l++l',by rw[hl',hl,List.append_assoc]⟩
 ·obtain⟨l,hl⟩:=h.out t
  obtain⟨l',hl'⟩:=h'.out t
  exact⟨l++l',by rw[hl',hl,List.append_assoc]⟩
theorem Grows.setT (r:Rn M) (t:Nat) (x:Th M):Grows r (r.setT t x):=⟨⟨[],by simp[Rn.setT]⟩,Nat.le_refl _,by simp[Rn.setT],rfl,fun _=>⟨[],by simp[Rn.setT]⟩,rfl⟩
theorem Grows.event (r:Rn M) (t:Nat) (k l:Int) (v:Nat) (m:Int):Grows r (r.event K t k l v m):=⟨⟨_,rfl⟩,Nat.le_refl _,by simp[Rn.event],rfl,fun _=>⟨[],by simp[Rn.event]⟩,rfl⟩
theorem Grows.read (r:Rn M) (n:Nat) (w:Want):Grows r (r.read n w):=⟨⟨[],by simp[Rn.read]⟩,Nat.le_refl _,rfl,rfl,fun _=>⟨[],by simp[Rn.read]⟩,rfl⟩
theorem Grows.exd (r:Rn M) (t:Nat) (w:Want):Grows r (r.exd K t w):=by
 unfold Rn.exd
 split
 ·exact Grows.setT _ _ _
 ·exact Grows.refl _
theorem Grows.feed (r:Rn M) (t v:Nat):Grows r (r.feed K t v):=Grows.setT _ _ _
theorem Grows.ask (r:Rn M) (t:Nat):Grows r (r.ask K t):=Grows.setT _ _ _
theorem Grows.load (r:Rn M) (t:Nat) (w:Want):Grows r (r.load K t w) :=
 (((Grows.event K r t 1 w.loc (r.cell w) w.mode).trans (Grows.read _ _ w)).trans (Grows.exd K _ t w)).trans (Grows.feed K _ t _)
theorem Grows.wrote (r:Rn M) (n:Nat) (w:Want):Grows r (r.wrote n w):=⟨⟨[],by simp[Rn.wrote]⟩,Nat.le_refl _,rfl,rfl,fun _=>⟨[],by simp[Rn.wrote]⟩,by simp[Rn.wrote]⟩
theorem Grows.store (r:Rn M) (t:Nat) (w:Want):Grows r (r.store K t w) :=
 ((Grows.event K r t 2 w.loc w.val w.mode).trans (Grows.wrote _ _ w)).trans (Grows.feed K _ t _)
theorem Grows.did (r:Rn M) (t:Nat):Grows r (r.did t):=⟨⟨[],by simp[Rn.did]⟩,Nat.le_succ _,rfl,rfl,fun _=>⟨[],by simp[Rn.did]⟩,rfl⟩
theorem Grows.outR (r:Rn M) (t v:Nat):Grows r (r.out t v):=by
 refine⟨⟨[],by simp[Rn.out]⟩,Nat.le_refl _,rfl,by simp[Rn.out],fun u=>?_,rfl⟩
 simp only[Rn.out,List.getD,List.getElem?_set]
 by_cases hu:t=u
 ·subst hu
  by_cases hl:t<r.outs.length
  ·exact⟨[v],by simp[hl]⟩
  ·exact⟨[],by simp[hl]⟩
 ·exact⟨[],by simp[hu]⟩
theorem Grows.second (r:Rn M) (t n:Nat):Grows r (r.second K t n):=by
 unfold Rn.second
 simp only
 split
 ·exact Grows.refl r
 ·have h3:=Grows.store K r t (r.wants K t)
  split
  ·exact h3
  ·split
   ·exact h3.trans ⟨⟨[],by simp⟩,Nat.le_refl _,rfl,rfl,fun _=>⟨[],by simp⟩,rfl⟩
   ·exact h3.trans ⟨⟨[],by simp⟩,Nat.le_refl _,rfl,rfl,fun _=>⟨[],by simp⟩,rfl⟩
theorem Grows.doo (r:Rn M) (t:Nat) (w:Want):Grows r (r.doo K t w):=by
 unfold Rn.doo
 repeat' split
 ·exact Grows.load K r t w
 ·exact((Grows.load K r t w).trans (Grows.ask K _ t)).trans (Grows.second K _ t _)
 ·exact Grows.load K r t w
 ·exact((Grows.load K r t w).trans (Grows.ask K _ t)).trans (Grows.second K _ t _)
 ·exact Grows.feed K r t 0
 ·exact Grows.store K r t w
 ·exact(Grows.event K r t _ _ _ _).trans (Grows.feed K _ t 0)
 ·exact(Grows.outR r t _).trans (Grows.feed K _ t 0)
 ·exact Grows.refl r
theorem Grows.pick (r:Rn M) (t:Int):Grows r (r.pick K t):=by
 unfold Rn.pick
 simp only
 split
 ·exact Grows.refl r
 ·split
  ·exact((Grows.ask K r _).trans (Grows.did _ _)).trans (Grows.doo K _ _ _)
  ·exact Grows.ask K r _
theorem play_grows (fuel:Int):∀(l:List Int) (r:Rn M),Grows r (K.play fuel l r).1
 | [],r=>Grows.refl r
 | t :: l,r=>by
  unfold Kd.play
  split
  ·exact Grows.refl r
  ·split
   ·exact Grows.refl r
   ·exact(Grows.pick K r t).trans (play_grows fuel l _)
end
end Go.Proofs.YtmjilfamjlnigaaGreat.SrcP
