/- WALKS: the document's own play (chapter 19). -/
import Derived.Test.YtmjilfamjlnigaaGreatQ43
namespace Go.Proofs.YtmjilfamjlnigaaGreat.RefW
open Go Go.RowKit Kit SrcP SrcW Go.Proofs.YtmjilfamjlnigaaGreat.MchW
structure Between (nc:Nat) (x:Rn Mch) (lg pk:List Nat):Prop where
 ri:RI nc x
 rn:RnOk nc x
 lg:lg.length≤x.used+x.events.length
 pk:pk.length≤x.used
 used:x.used≤1000
theorem Between.step {nc:Nat} {x:Rn Mch} {lg pk:List Nat} (h:Between nc x lg pk) (hu:x.used<1000) (t:Int):∃x' lg' pk',(RR.of x lg pk).step nc t=RR.of x' lg' pk'∧Between nc x' lg' pk':=by
 obtain⟨lg',pk',e,a1,a2,a3,a4⟩:=step_of h.ri h.rn t lg pk
 have ho:LawW.OutsLe x:=fun u=>mem_getD (P:=fun l=>l.length≤x.used) h.rn.outi [] (Nat.zero_le _) u
 have:=(LawW.pick_le SK x t ho).2
 exact⟨_,lg',pk',e,a1,a2,a3 h.lg,a4 h.pk,by omega⟩
def errN:Bool→Int
 | true=>2
 | false=>0
theorem kept_new {S T:Nat→Prop} {w w1 w2:World} (h:KeptS S w w1) (h2:KeptS T w1 w2) (hT:∀k,T k→w.heap.size≤k):KeptS S w w2 :=
 ⟨h2.1.trans h.1,h2.2.1.trans h.2.1,h2.2.2.1.trans h.2.2.1,Nat.le_trans h.size h2.size,fun k hk hn=>(h2.2.2.2.2 k (Nat.lt_of_lt_of_le hk h.size) (fun t=>by have:=hT k t;omega)).trans (h.2.2.2.2 k hk hn)⟩
structure PlayI (mz:List Value) (w0:World) (nc:Nat) (w w1:World) (who:Nat→Option Dq) (fuel:Int) (R:RR × Bool) (l:List Int) (wr:World) (r:RR) (x:Rn Mch) (lg pk:List Nat) (V:DV) (who':Nat→Option Dq):Prop where
 eq:r=RR.of x lg pk
 bt:Between nc x lg pk
 pl:r.play nc fuel l=R
 run:RunAt mz w0 nc wr who' V r
 d:Blk wr w.heap.size 47 (runD nc V r)
 e:Blk wr (w.heap.size+1) 47 #[.bool false,.int .i64 0,.slice none 0 0,.slice none 0 0,.slice none 0 0,.slice none 0 0,.slice none 0 0,.slice none 0 0,.slice none 0 0,.int .i64 0]
 wh:∀k,k<w1.heap.size→who' k=who k
 kept:KeptS (fun k=>who k≠none) w wr
 size:w1.heap.size≤wr.heap.size
def PlayRel (mz:List Value) (w0:World) (nc:Nat) (w w1:World) (who:Nat→Option Dq) (fuel:Int) (R:RR × Bool) (picks:List Int) (mm:Nat) (s8:Value) (wr:World):Prop :=
 ∃(i:Nat) (r:RR) (x:Rn Mch) (lg pk:List Nat) (V:DV) (who':Nat→Option Dq),s8=.int .i64 i∧i≤picks.length∧mm=picks.length-i∧PlayI mz w0 nc w w1 who fuel R (picks.drop i) wr r x lg pk V who'
set_option maxRecDepth 100000 in
set_option maxHeartbeats 0 in
theorem Play_any {mz:List Value} (hz:mz.length=95) (ho:mz.all (·.oneCell')=true) {w0:World} {nc:Nat} (hnc:nc≤4096) {w:World} {who:Nat→Option Dq} {V:DV} {x:Rn Mch} {lg pk:List Nat} (hB:Between nc x lg pk) (h:RunAt mz w0 nc w who V (RR.of x lg pk))
  (picks:List Int) (A:Option Addr) (cA:Nat) (hI:RunW.IntsAt w0 A picks) (hA:∀ad,A=some ad→ad.block<w0.heap.size) (hpl:picks.length≤4194304) (fuel:Int) (hfu:fuel≤1000) :
  Calls Tryz.prog 27 #[.agg (runD nc V (RR.of x lg pk)),.slice A picks.length cA,.int .i64 fuel] w fun e w'=>∃V',e=.returned (.tuple #[.agg (runD nc V' ((RR.of x lg pk).play nc fuel picks).1),.int .i64 (errN ((RR.of x lg pk).play nc fuel picks).2)])∧DRet mz w0 nc w who w' V' ((RR.of x lg pk).play nc fuel picks).1:=by
 obtain⟨R,hR⟩:∃R,R=(RR.of x lg pk).play nc fuel picks:=⟨_,rfl⟩
 rw[←hR]
 obtain⟨r,hr⟩:∃r,r=RR.of x lg pk:=⟨_,rfl⟩
 rw[←hr]at h hR ⊢
 have HX:=Lib.hid h
 have HR0:=Lib.hid hR
 have HRR:=Lib.hid hr
 have HB:=Lib.hid hB
 obtain⟨aT,cT,ae,ce,af,cf,am,cm,ao,co,al,cl,ap,cp,hvT,hve,hvf,hvm,hvo,hvl,hvp⟩:=h.slices
 have hrd:runD nc V r=#[.bool false,.int .i64 nc,.slice aT V.tcs.length cT,.slice ae r.events.length ce,.slice af r.rf.length cf,.slice am r.rmw.length cm,.slice ao V.vo.length co,.slice al r.log.length cl,.slice ap r.picks.length cp,.int .i64 r.used]:=by unfold runD;rw[hvT,hve,hvf,hvm,hvo,hvl,hvp]
 have HRD:=Lib.hid hrd
 rw[hrd]
 clear hrd hvT hve hvf hvm hvo hvl hvp hR hr hB h
 go_enter Tryz.func27,Tryz.ntmps27
 go_upto_region 2 with fail
 obtain⟨w1,hw1⟩:∃yy:World,yy=(w.alloc (.cells #[.bool false,.int .i64 nc,.slice aT V.tcs.length cT,.slice ae r.events.length ce,.slice af r.rf.length cf,.slice am r.rmw.length cm,.slice ao V.vo.length co,.slice al r.log.length cl,.slice ap r.picks.length cp,.int .i64 r.used] 47)).alloc (.cells #[.bool false,.int .i64 0,.slice none 0 0,.slice none 0 0,.slice none 0 0,.slice none 0 0,.slice none 0 0,.slice none 0 0,.slice none 0 0,.int .i64 0] 47):=⟨_,rfl⟩
 have hb1:Below w.heap.size w w1:=by rw[hw1];exact Kit.bl2
 have hD1:Blk w1 w.heap.size 47 #[.bool false,.int .i64 nc,.slice aT V.tcs.length cT,.slice ae r.events.length ce,.slice af r.rf.length cf,.slice am r.rmw.length cm,.slice ao V.vo.length co,.slice al r.log.length cl,.slice ap r.picks.length cp,.int .i64 r.used]:=by rw[hw1];exact(Blk.new _ _ _).alloc _
 have hE1:Blk w1 (w.heap.size+1) 47 #[.bool false,.int .i64 0,.slice none 0 0,.slice none 0 0,.slice none 0 0,.slice none 0 0,.slice none 0 0,.slice none 0 0,.slice none 0 0,.int .i64 0]:=by rw[hw1];exact Blk.newAt (sizeA _ _) _ _
 have hs1:w1.heap.size=w.heap.size+1+1:=by rw[hw1,sizeA,sizeA]
 rw[←hw1]
 clear hw1
 have HP0:Hid (PlayI mz w0 nc w w1 who fuel R picks w1 r x lg pk V who):=Lib.hid ⟨HRR.out,HB.out,HR0.out.symm,HX.out.below hb1,by rw[HRD.out];exact hD1,hE1,fun k hk=>rfl,KeptS.of_below hb1,Nat.le_refl _⟩
 have HFW:Hid (∀k,w.heap.size≤k→who k=none):=Lib.hid fun k hk=>by
  cases hwk:who k with
  | none=>rfl
  | some q=>have:=(HX.out.lt _ _ hwk).2;omega
 have HLOW:Hid (w0.heap.size≤w.heap.size):=Lib.hid HX.out.start.size
 have HS1:=Lib.hid hs1
 clear hD1 hE1 hb1 HRD HRR HB HR0 HX hs1
 have HX0:Hid (w0.heap.size≤w.heap.size):=HLOW
 go_loopg [8] picks.length (fun mm s8 wr=>PlayRel mz w0 nc w w1 who fuel R picks mm s8 wr)
 case atStart=>exact⟨0,r,x,lg,pk,V,who,rfl,Nat.zero_le _,rfl,HP0.out⟩
 case round =>
  clear HP0
  obtain⟨i,r,x,lg,pk,V,who1,rfl,hi,hmm,hP⟩:=hrel
  have HM:=Lib.hid hmm
  have HP:=Lib.hid hP
  clear hmm
  obtain⟨hreq,hBt,hplay,hR,hD,hE,hwh,hk,hsz⟩:=hP
  have hus:r.used=x.used:=by rw[hreq];rfl
  have hevs:r.events.length=x.events.length:=by rw[hreq];rfl
  have hu1:=hBt.used
  have HUS:=Lib.hid hus
  have HEV:=Lib.hid hevs
  obtain⟨aT,cT,ae,ce,af,cf,am,cm,ao,co,al,cl,ap,cp,hvT,hve,hvf,hvm,hvo,hvl,hvp⟩:=hR.slices
  have HV:=Lib.hid (And.intro hvT (And.intro hve (And.intro hvf (And.intro hvm (And.intro hvo (And.intro hvl hvp))))))
  unfold runD at hD
  simp only[hvT,hve,hvf,hvm,hvo,hvl,hvp]at hD
  clear hvT hve hvf hvm hvo hvl hvp hus hevs hreq hBt hR hplay
  have k9:wr.cell? ⟨w.heap.size,9,none⟩=some (.int .i64 r.used):=Blk.cell hD 9
  have k3:wr.cell? ⟨w.heap.size,3,none⟩=some (.slice ae r.events.length ce):=Blk.cell hD 3
  by_cases hke:i<picks.length
  ·have q1:(i:Int)<(picks.length:Int):=by omega
   have q2:(0:Int)≤(i:Int):=by omega
   by_cases hfl:(r.used:Int)<fuel
   ·by_cases hev:r.events.length≤256
    ·have q4:((r.events.length:Nat):Int)≤256:=by omega
     obtain⟨t,ht⟩:∃t,picks[i]?=some t:=⟨_,Kit.eG hke⟩
     obtain⟨ad,hA1,hca⟩:=hI i t ht
     obtain⟨x',lg',pk',hst,hBt'⟩:=HP.out.bt.step (by have:=HUS.out;omega) t
     rw[←HP.out.eq]at hst
     obtain⟨r1,hr1⟩:∃y,y=r.step nc t:=⟨_,rfl⟩
     have HR1:=Lib.hid hr1
     have HBT':Hid (r1=RR.of x' lg' pk'∧Between nc x' lg' pk'):=Lib.hid ⟨hr1.trans hst,hBt'⟩
     have HSt:∀w2,Below wr.heap.size wr w2→Hid (Calls Tryz.prog 49 #[.agg #[.bool false,.int .i64 nc,.slice aT V.tcs.length cT,.slice ae r.events.length ce,.slice af r.rf.length cf,.slice am r.rmw.length cm,.slice ao V.vo.length co,.slice al r.log.length cl,.slice ap r.picks.length cp,.int .i64 r.used],.int .i64 t] w2 fun e w'=>∃V' b,e=.returned (.tuple #[.agg (runD nc V' r1),.bool b])∧DRet mz w0 nc w2 who1 w' V' r1):=fun w2 hb=>by
      have h1:=Step_int hz ho hnc (HP.out.run.below hb) t (fun ht=>by
       rw[HP.out.eq]
       exact fits_of HP.out.bt.ri HP.out.bt.rn lg pk (by rw[HP.out.eq]at ht;simpa [RR.of]using ht) HP.out.bt.used (by have:=HEV.out;omega) HP.out.bt.lg HP.out.bt.pk)
      obtain⟨c1,c2,c3,c4,c5,c6,c7⟩:=HV.out
      rw[show runD nc V r=#[.bool false,.int .i64 nc,.slice aT V.tcs.length cT,.slice ae r.events.length ce,.slice af r.rf.length cf,.slice am r.rmw.length cm,.slice ao V.vo.length co,.slice al r.log.length cl,.slice ap r.picks.length cp,.int .i64 r.used] by unfold runD;simp only[c1,c2,c3,c4,c5,c6,c7],←hr1]at h1
      exact Lib.hid h1
     have HPL1:Hid (r1.play nc fuel (picks.drop (i+1))=R):=Lib.hid (by
      have hpl:=HP.out.pl
      rw[List.drop_eq_getElem_cons hke]at hpl
      unfold RR.play at hpl
      rw[if_neg (by omega),if_neg (by omega)]at hpl
      rw[hr1,show t=picks[i] by rw[Kit.eG hke]at ht;exact(Option.some.inj ht).symm]
      exact hpl)
     clear hst hBt' hr1 ht
     subst hA1
     have hfree:∀k,wr.heap.size≤k→who1 k=none:=fun k hk=>by
      cases hwk:who1 k with
      | none=>rfl
      | some q=>have:=(HP.out.run.lt _ _ hwk).2;omega
     have hdn:who1 w.heap.size=none:=(hwh _ (by have:=HS1.out;omega)).trans (HFW.out _ (Nat.le_refl _))
     have hen:who1 (w.heap.size+1)=none:=(hwh _ (by have:=HS1.out;omega)).trans (HFW.out _ (Nat.le_succ _))
     have hpn:∀k,k<w0.heap.size→who1 k=none:=fun k hk=>by
      cases hwk:who1 k with
      | none=>rfl
      | some q=>have:=(HP.out.run.lt _ _ hwk).1;omega
     obtain⟨S,hS⟩:∃S:Nat→Prop,∀k,S k↔who1 k≠none:=⟨_,fun _=>Iff.rfl⟩
     have HSS:=Lib.hid hS
     have HFR:=Lib.hid hfree
     have HDN:=Lib.hid hdn
     have HEN:=Lib.hid hen
     clear hS hfree
     have hnD:¬S w.heap.size:=fun e=>(HSS.out _).1 e hdn
     have hnE:¬S (w.heap.size+1):=fun e=>(HSS.out _).1 e hen
     have c0:wr.cell? (ad.add i)=some (.int .i64 t):=by
      rw[World.cell?_of_block (w:=w0) (HP.out.run.start.block _ (by rw[OwnR.block_add];exact hA ad rfl))]
      exact hca
     have hnA:¬S (ad.add i).block:=fun e=>(HSS.out _).1 e (hpn _ (by rw[OwnR.block_add];exact hA ad rfl))
     have hAlt:(ad.add i).block<wr.heap.size:=by rw[OwnR.block_add];exact Nat.lt_of_lt_of_le (hA ad rfl) HP.out.run.start.size
     have HND:=Lib.hid hnD
     have HNE:=Lib.hid hnE
     clear hdn hen hpn hca
     go_upto_region 4 with fail
     clear k9 k3 q4
     have cA:∀p:Cls (KeptS S wr),p.w.cell? (ad.add i)=some (.int .i64 t):=fun p=>by rw[World.cell?_of_block (w:=wr) (p.h.2.2.2.2 _ hAlt hnA)];exact c0
     have c0':∀p:Cls (KeptS S wr),p.w.cell? ⟨w.heap.size,0,none⟩=some (.bool false):=fun p=>Blk.cell (p.h.blk hD HND.out) 0
     have c1':∀p:Cls (KeptS S wr),p.w.cell? ⟨w.heap.size,1,none⟩=some (.int .i64 nc):=fun p=>Blk.cell (p.h.blk hD HND.out) 1
     have c2':∀p:Cls (KeptS S wr),p.w.cell? ⟨w.heap.size,2,none⟩=some (.slice aT V.tcs.length cT):=fun p=>Blk.cell (p.h.blk hD HND.out) 2
     have c3':∀p:Cls (KeptS S wr),p.w.cell? ⟨w.heap.size,3,none⟩=some (.slice ae r.events.length ce):=fun p=>Blk.cell (p.h.blk hD HND.out) 3
     have c4':∀p:Cls (KeptS S wr),p.w.cell? ⟨w.heap.size,4,none⟩=some (.slice af r.rf.length cf):=fun p=>Blk.cell (p.h.blk hD HND.out) 4
     have c5':∀p:Cls (KeptS S wr),p.w.cell? ⟨w.heap.size,5,none⟩=some (.slice am r.rmw.length cm):=fun p=>Blk.cell (p.h.blk hD HND.out) 5
     have c6':∀p:Cls (KeptS S wr),p.w.cell? ⟨w.heap.size,6,none⟩=some (.slice ao V.vo.length co):=fun p=>Blk.cell (p.h.blk hD HND.out) 6
     have c7':∀p:Cls (KeptS S wr),p.w.cell? ⟨w.heap.size,7,none⟩=some (.slice al r.log.length cl):=fun p=>Blk.cell (p.h.blk hD HND.out) 7
     have c8':∀p:Cls (KeptS S wr),p.w.cell? ⟨w.heap.size,8,none⟩=some (.slice ap r.picks.length cp):=fun p=>Blk.cell (p.h.blk hD HND.out) 8
     have c9':∀p:Cls (KeptS S wr),p.w.cell? ⟨w.heap.size,9,none⟩=some (.int .i64 r.used):=fun p=>Blk.cell (p.h.blk hD HND.out) 9
     have hne:Nonempty (Cls (KeptS S wr)):=⟨⟨wr,KeptS.refl _ _⟩⟩
     have hbd:Below wr.heap.size wr (wr.drewN 1):=Below_drewN _ 1
     clear c0 hnA hAlt hnD hnE
     refine wp_region_float_go (fun w'=>∃p:Cls (KeptS S wr),w'=p.w) 12 (by kernel_rfl) rfl ?_
     refine floatG_reads 7 [0,1,2,3,4] ⟨⟨_,KeptS.of_below hbd⟩,rfl⟩ rfl (by kernel_rfl) ?_
     simp only[pickL,List.map_cons,List.map_nil,List.getElem?_cons_succ,List.getElem?_cons_zero,Option.getD_some]
     repeat (go_big_quiet_step (fail))
     refine wpQuiet_nil ?_
     clear cA c0' c1' c2' c3' c4' c5' c6' c7' c8' c9' hne
     have hDd:=hD.below' hbd
     have hEd:=hE.below' hbd
     have hCd:KeptS S wr (wr.drewN 1):=KeptS.of_below hbd
     have hszd:wr.heap.size≤(wr.drewN 1).heap.size:=hbd.size
     generalize wr.drewN 1=wd at *
     refine floatG_two (i:=5) (i':=9) (by kernel_rfl) (by decide) (by decide) rfl rfl ?_ ?_
     ·have HS0:=HSt wd hbd
      go_wp2_with (go_at_call 49;refine HS0.out.mono ?_;rintro e w2 ⟨V1,b,rfl,hDR⟩;obtain⟨⟨who2,hR2,hwh2⟩,hk2⟩:=hDR;unfold runD;obtain⟨aT1,cT1,ae1,ce1,af1,cf1,am1,cm1,ao1,co1,al1,cl1,ap1,cp1,hvT1,hve1,hvf1,hvm1,hvo1,hvl1,hvp1⟩:=hR2.slices;simp only[hvT1,hve1,hvf1,hvm1,hvo1,hvl1,hvp1];have HV1:=Lib.hid (And.intro hvT1 (And.intro hve1 (And.intro hvf1 (And.intro hvm1 (And.intro hvo1 (And.intro hvl1 hvp1))))));clear hvT1 hve1 hvf1 hvm1 hvo1 hvl1 hvp1)
      have hC2:KeptS S wr w2:=keptAfter hk2 hCd (fun k _ e=>(HSS.out k).2 e)
      refine Kit.oG hC2 ?_
      have hne':Nonempty (Cls (KeptS S wr)):=⟨⟨wr,KeptS.refl _ _⟩⟩
      refine floatG_reads 3 [6,7,8] ⟨⟨_,hC2⟩,rfl⟩ rfl (by kernel_rfl) ?_
      simp only[pickL,List.map_cons,List.map_nil,List.getElem?_cons_succ,List.getElem?_cons_zero,Option.getD_some]
      repeat (go_big_quiet_step (fail))
      refine wpQuiet_nil ?_
      clear hne'
      refine fG (i:=9) rfl ?_
      go_wp2_with fail
      have hD2:=hk2.blk hDd (fun e=>e HDN.out)
      have hE2:=hk2.blk hEd (fun e=>e HEN.out)
      obtain⟨wz,hwz0⟩:∃yy:World,yy=w2.alloc (.cells #[.bool false,.int .i64 0,.slice none 0 0,.slice none 0 0,.slice none 0 0,.slice none 0 0,.slice none 0 0,.slice none 0 0,.slice none 0 0,.int .i64 0] 47):=⟨_,rfl⟩
      have hbz:Below w2.heap.size w2 wz:=by rw[hwz0];exact Kit.bl1
      have hU:Blk wz w2.heap.size 47 #[.bool false,.int .i64 0,.slice none 0 0,.slice none 0 0,.slice none 0 0,.slice none 0 0,.slice none 0 0,.slice none 0 0,.slice none 0 0,.int .i64 0]:=by rw[hwz0];exact Blk.new _ _ _
      rw[←hwz0]
      clear hwz0
      have hDz:=hD2.below' hbz
      have hEz:=hE2.below' hbz
      have hRz:=hR2.below hbz
      have hCz:KeptS S wr wz:=hC2.trans (KeptS.of_below hbz)
      have hgu:wr.heap.size≤w2.heap.size:=hC2.size
      have hkz:KeptS (fun k=>who k≠none) w wz:=keptAfter hCz hk (fun k hk3 e=>by have:=(HSS.out k).1 e;rw[hwh k (by have:=HS1.out;omega)]at this;exact this)
      have hwz:∀k,k<w1.heap.size→who2 k=who k:=fun k hk3=>(hwh2 k (by omega)).trans (hwh k hk3)
      have hDlt:=hD.lt
      have hElt:=hE.lt
      clear hD2 hE2 hR2 hC2 hk2 hDd hEd hCd hbz
      generalize w2.heap.size=gu at *
      refine Kit.oG hCz ?_
      obtain⟨y0,y1,y2,y3,y4,y5,y6,y7,y8,y9⟩:=Kit.cells10 hU
      have zf:=fun i=>Blk.frozen hU i
      refine fG (i:=10) rfl ?_
      go_wp2_with fail
      clear zf y0 y1 y2 y3 y4 y5 y6 y7 y8 y9
      refine(show onG _ _ _ _ _ (RunW.putL wz gu 0 [.bool false,.int .i64 nc,.slice aT1 V1.tcs.length cT1,.slice ae1 r1.events.length ce1,.slice af1 r1.rf.length cf1,.slice am1 r1.rmw.length cm1,.slice ao1 V1.vo.length co1,.slice al1 r1.log.length cl1,.slice ap1 r1.picks.length cp1,.int .i64 r1.used])from RunW.putL_go hU rfl fun wy hUy hky=>?_)
      have hDy:=hky.blk hDz (by omega)
      have hEy:=hky.blk hEz (by omega)
      have hRy:=hRz.other hU (fun q=>by cases q <;> decide) (by decide) (by have:=HX0.out;have:=hk.size;omega) hky
      have hCy:=kept_new hCz hky (fun k e=>by rw[e];exact hgu)
      have hkwy:=kept_new hkz hky (fun k e=>by rw[e];have:=hk.size;omega)
      have hszy:=hky.size
      clear hU hDz hEz hRz hCz hkz hky
      refine Kit.oG hCy ?_
      refine fG (i:=11) rfl ?_
      go_wp2_with fail
      refine Kit.oG hCy ?_
      refine(show tailG _ _ _ _ _ _ _ from⟨by kernel_rfl,?_⟩)
      simp only[List.drop_succ_cons,List.drop_nil]
      obtain⟨u0,u1,u2,u3,u4,u5,u6,u7,u8,u9⟩:=Kit.cells10 hUy
      obtain⟨d0,d1,d2,d3,d4,d5,d6,d7,d8,d9⟩:=Kit.cells10 hDy
      have df:=fun i=>Blk.frozen hDy i
      go_wp2_with fail
      clear df u0 u1 u2 u3 u4 u5 u6 u7 u8 u9 d0 d1 d2 d3 d4 d5 d6 d7 d8 d9
      have hDf:=RunW.putL_all hDy [.bool false,.int .i64 nc,.slice aT1 V1.tcs.length cT1,.slice ae1 r1.events.length ce1,.slice af1 r1.rf.length cf1,.slice am1 r1.rmw.length cm1,.slice ao1 V1.vo.length co1,.slice al1 r1.log.length cl1,.slice ap1 r1.picks.length cp1,.int .i64 r1.used] rfl
      have hkf:=RunW.putL_kept (g:=w.heap.size) [.bool false,.int .i64 nc,.slice aT1 V1.tcs.length cT1,.slice ae1 r1.events.length ce1,.slice af1 r1.rf.length cf1,.slice am1 r1.rmw.length cm1,.slice ao1 V1.vo.length co1,.slice al1 r1.log.length cl1,.slice ap1 r1.picks.length cp1,.int .i64 r1.used] wy 0
      have hEf:=hkf.blk hEy (by omega)
      have hRf:=hRy.other hDy (fun q=>by cases q <;> decide) (by decide) HX0.out hkf
      have hkwf:=kept_new hkwy hkf (fun k e=>by rw[e];exact Nat.le_refl _)
      have hszf:=hkf.size
      go_roundg (picks.length-(i+1))
      case measure=>have:=HM.out;omega
      case rel =>
       obtain⟨b1,b2,b3,b4,b5,b6,b7⟩:=HV1.out
       exact⟨i+1,r1,x',lg',pk',V1,who2,by push_cast;rfl,hke,rfl,⟨HBT'.out.1,HBT'.out.2,HPL1.out,hRf,by unfold runD;simp only[b1,b2,b3,b4,b5,b6,b7];exact hDf,hEf,hwz,hkwf,Nat.le_trans hsz (Nat.le_trans hCy.size hszf)⟩⟩
     ·go_wp2_with fail
      obtain⟨wa,hwa⟩:∃yy:World,yy=wd.alloc (.cells #[.bool false,.int .i64 0,.slice none 0 0,.slice none 0 0,.slice none 0 0,.slice none 0 0,.slice none 0 0,.slice none 0 0,.slice none 0 0,.int .i64 0] 47):=⟨_,rfl⟩
      have hba:Below wd.heap.size wd wa:=by rw[hwa];exact Kit.bl1
      have hUa:Blk wa wd.heap.size 47 #[.bool false,.int .i64 0,.slice none 0 0,.slice none 0 0,.slice none 0 0,.slice none 0 0,.slice none 0 0,.slice none 0 0,.slice none 0 0,.int .i64 0]:=by rw[hwa];exact Blk.new _ _ _
      rw[←hwa]
      clear hwa
      have hDa:=hDd.below' hba
      have hEa:=hEd.below' hba
      have hbra:=hbd.trans (hba.mono hszd)
      have hCa:KeptS S wr wa:=KeptS.of_below hbra
      have hsza:=hba.size
      refine Kit.oG hCa ?_
      refine fG (i:=5) rfl ?_
      have HS0:=HSt wa hbra
      go_wp2_with (go_at_call 49;refine HS0.out.mono ?_;rintro e wz ⟨V1,b,rfl,hDR⟩;obtain⟨⟨who2,hRz,hwh2⟩,hk2⟩:=hDR;unfold runD;obtain⟨aT1,cT1,ae1,ce1,af1,cf1,am1,cm1,ao1,co1,al1,cl1,ap1,cp1,hvT1,hve1,hvf1,hvm1,hvo1,hvl1,hvp1⟩:=hRz.slices;simp only[hvT1,hve1,hvf1,hvm1,hvo1,hvl1,hvp1];have HV1:=Lib.hid (And.intro hvT1 (And.intro hve1 (And.intro hvf1 (And.intro hvm1 (And.intro hvo1 (And.intro hvl1 hvp1))))));clear hvT1 hve1 hvf1 hvm1 hvo1 hvl1 hvp1)
      have hCz:KeptS S wr wz:=keptAfter hk2 hCa (fun k _ e=>(HSS.out k).2 e)
      have hC2:=hCz
      refine Kit.oG hC2 ?_
      have hne':Nonempty (Cls (KeptS S wr)):=⟨⟨wr,KeptS.refl _ _⟩⟩
      refine floatG_reads 2 [6,7,8] ⟨⟨_,hC2⟩,rfl⟩ rfl (by kernel_rfl) ?_
      simp only[pickL,List.map_cons,List.map_nil,List.getElem?_cons_succ,List.getElem?_cons_zero,Option.getD_some]
      repeat (go_big_quiet_step (fail))
      refine wpQuiet_nil ?_
      clear hne'
      have hDz:=hk2.blk hDa (fun e=>e HDN.out)
      have hEz:=hk2.blk hEa (fun e=>e HEN.out)
      have hU:=hk2.blk hUa (fun e=>e (HFR.out _ hszd))
      have hgu:wr.heap.size≤wd.heap.size:=hszd
      have hkz:KeptS (fun k=>who k≠none) w wz:=keptAfter hCz hk (fun k hk3 e=>by have:=(HSS.out k).1 e;rw[hwh k (by have:=HS1.out;omega)]at this;exact this)
      have hwz:∀k,k<w1.heap.size→who2 k=who k:=fun k hk3=>(hwh2 k (by omega)).trans (hwh k hk3)
      have hDlt:=hD.lt
      have hElt:=hE.lt
      have hszz:=hk2.size
      clear hDa hEa hUa hC2 hk2 hDd hEd hCd hCa hba hbra
      generalize wd.heap.size=gu at *
      obtain⟨y0,y1,y2,y3,y4,y5,y6,y7,y8,y9⟩:=Kit.cells10 hU
      have zf:=fun i=>Blk.frozen hU i
      refine fG (i:=10) rfl ?_
      go_wp2_with fail
      clear zf y0 y1 y2 y3 y4 y5 y6 y7 y8 y9
      refine(show onG _ _ _ _ _ (RunW.putL wz gu 0 [.bool false,.int .i64 nc,.slice aT1 V1.tcs.length cT1,.slice ae1 r1.events.length ce1,.slice af1 r1.rf.length cf1,.slice am1 r1.rmw.length cm1,.slice ao1 V1.vo.length co1,.slice al1 r1.log.length cl1,.slice ap1 r1.picks.length cp1,.int .i64 r1.used])from RunW.putL_go hU rfl fun wy hUy hky=>?_)
      have hDy:=hky.blk hDz (by omega)
      have hEy:=hky.blk hEz (by omega)
      have hRy:=hRz.other hU (fun q=>by cases q <;> decide) (by decide) (by have:=HX0.out;have:=hk.size;omega) hky
      have hCy:=kept_new hCz hky (fun k e=>by rw[e];exact hgu)
      have hkwy:=kept_new hkz hky (fun k e=>by rw[e];have:=hk.size;omega)
      have hszy:=hky.size
      clear hU hDz hEz hRz hCz hkz hky
      refine Kit.oG hCy ?_
      refine fG (i:=11) rfl ?_
      go_wp2_with fail
      refine Kit.oG hCy ?_
      refine(show tailG _ _ _ _ _ _ _ from⟨by kernel_rfl,?_⟩)
      simp only[List.drop_succ_cons,List.drop_nil]
      obtain⟨u0,u1,u2,u3,u4,u5,u6,u7,u8,u9⟩:=Kit.cells10 hUy
      obtain⟨d0,d1,d2,d3,d4,d5,d6,d7,d8,d9⟩:=Kit.cells10 hDy
      have df:=fun i=>Blk.frozen hDy i
      go_wp2_with fail
      clear df u0 u1 u2 u3 u4 u5 u6 u7 u8 u9 d0 d1 d2 d3 d4 d5 d6 d7 d8 d9
      have hDf:=RunW.putL_all hDy [.bool false,.int .i64 nc,.slice aT1 V1.tcs.length cT1,.slice ae1 r1.events.length ce1,.slice af1 r1.rf.length cf1,.slice am1 r1.rmw.length cm1,.slice ao1 V1.vo.length co1,.slice al1 r1.log.length cl1,.slice ap1 r1.picks.length cp1,.int .i64 r1.used] rfl
      have hkf:=RunW.putL_kept (g:=w.heap.size) [.bool false,.int .i64 nc,.slice aT1 V1.tcs.length cT1,.slice ae1 r1.events.length ce1,.slice af1 r1.rf.length cf1,.slice am1 r1.rmw.length cm1,.slice ao1 V1.vo.length co1,.slice al1 r1.log.length cl1,.slice ap1 r1.picks.length cp1,.int .i64 r1.used] wy 0
      have hEf:=hkf.blk hEy (by omega)
      have hRf:=hRy.other hDy (fun q=>by cases q <;> decide) (by decide) HX0.out hkf
      have hkwf:=kept_new hkwy hkf (fun k e=>by rw[e];exact Nat.le_refl _)
      have hszf:=hkf.size
      go_roundg (picks.length-(i+1))
      case measure=>have:=HM.out;omega
      case rel =>
       obtain⟨b1,b2,b3,b4,b5,b6,b7⟩:=HV1.out
       exact⟨i+1,r1,x',lg',pk',V1,who2,by push_cast;rfl,hke,rfl,⟨HBT'.out.1,HBT'.out.2,HPL1.out,hRf,by unfold runD;simp only[b1,b2,b3,b4,b5,b6,b7];exact hDf,hEf,hwz,hkwf,Nat.le_trans hsz (Nat.le_trans hCy.size hszf)⟩⟩
    ·have q4:¬(((r.events.length:Nat):Int)≤256):=by omega
     have hRR:R=(r,decide (256<r.events.length)):=by
      have hpl:=HP.out.pl
      rw[List.drop_eq_getElem_cons hke]at hpl
      unfold RR.play at hpl
      rw[if_pos (by omega)]at hpl
      rw[←hpl]
      simp;omega
     have HRR:=Lib.hid hRR
     clear hRR
     have hgD:=hD.lt
     obtain⟨d0,d1,d2,d3,d4,d5,d6,d7,d8,d9⟩:=Kit.cells10 hD
     obtain⟨y0,y1,y2,y3,y4,y5,y6,y7,y8,y9⟩:=Kit.cells10 hE
     have zf:=fun i=>Blk.frozen hE i
     have hlow:w0.heap.size≤w.heap.size+1:=by have:=HP.out.run.start.size;have:=HX0.out;omega
     clear k3 k9
     rcases Classical.em (256<r.events.length)with hb | hb
     ·have b1:(256:Int)<(r.events.length:Int):=by omega
      have HBB:Hid (decide (256<r.events.length)=true):=Lib.hid (by simpa using hb)
      go_wp2_with fail
      clear zf y0 y1 y2 y3 y4 y5 y6 y7 y8 y9 d0 d1 d2 d3 d4 d5 d6 d7 d8 d9
      refine(show bodyPost _ _ _ _ _ (RunW.putL wr (w.heap.size+1) 0 [.bool false,.int .i64 nc,.slice aT V.tcs.length cT,.slice ae r.events.length ce,.slice af r.rf.length cf,.slice am r.rmw.length cm,.slice ao V.vo.length co,.slice al r.log.length cl,.slice ap r.picks.length cp,.int .i64 r.used])from RunW.putL_go hE rfl fun wf hEf hkf=>?_)
      obtain⟨e0,e1,e2,e3,e4,e5,e6,e7,e8,e9⟩:=Kit.cells10 hEf
      refine bodyPost_ret (v:=.tuple #[.agg #[.bool false,.int .i64 nc,.slice aT V.tcs.length cT,.slice ae r.events.length ce,.slice af r.rf.length cf,.slice am r.rmw.length cm,.slice ao V.vo.length co,.slice al r.log.length cl,.slice ap r.picks.length cp,.int .i64 r.used],.int .i64 2]) (by simp[results,Tryz.results27,go_sem,e0,e1,e2,e3,e4,e5,e6,e7,e8,e9]) rfl ?_
      obtain⟨c1,c2,c3,c4,c5,c6,c7⟩:=HV.out
      rw[HRR.out,HBB.out]
      refine⟨V,by unfold runD;rw[c1,c2,c3,c4,c5,c6,c7];rfl,⟨who1,HP.out.run.other hE (fun q=>by cases q <;> decide) (by decide) hlow hkf,fun k hk2=>HP.out.wh k (by have:=HS1.out;omega)⟩,?_⟩
      exact kept_new hk hkf (fun k e=>by rw[e];exact Nat.le_succ _)
     ·omega
   ·have q3:¬((r.used:Int)<fuel):=hfl
    have hRR:R=(r,decide (256<r.events.length)):=by
     have hpl:=HP.out.pl
     rw[List.drop_eq_getElem_cons hke]at hpl
     unfold RR.play at hpl
     rw[←hpl]
     by_cases hb:256<r.events.length
     ·rw[if_pos hb,decide_eq_true hb]
     ·rw[if_neg hb,if_pos (by omega),decide_eq_false hb]
    have HRR:=Lib.hid hRR
    clear hRR
    have hgD:=hD.lt
    obtain⟨d0,d1,d2,d3,d4,d5,d6,d7,d8,d9⟩:=Kit.cells10 hD
    obtain⟨y0,y1,y2,y3,y4,y5,y6,y7,y8,y9⟩:=Kit.cells10 hE
    have zf:=fun i=>Blk.frozen hE i
    have hlow:w0.heap.size≤w.heap.size+1:=by have:=HP.out.run.start.size;have:=HX0.out;omega
    clear k3 k9
    rcases Classical.em (256<r.events.length)with hb | hb
    ·have b1:(256:Int)<(r.events.length:Int):=by omega
     have HBB:Hid (decide (256<r.events.length)=true):=Lib.hid (by simpa using hb)
     go_wp2_with fail
     clear zf y0 y1 y2 y3 y4 y5 y6 y7 y8 y9 d0 d1 d2 d3 d4 d5 d6 d7 d8 d9
     refine(show bodyPost _ _ _ _ _ (RunW.putL wr (w.heap.size+1) 0 [.bool false,.int .i64 nc,.slice aT V.tcs.length cT,.slice ae r.events.length ce,.slice af r.rf.length cf,.slice am r.rmw.length cm,.slice ao V.vo.length co,.slice al r.log.length cl,.slice ap r.picks.length cp,.int .i64 r.used])from RunW.putL_go hE rfl fun wf hEf hkf=>?_)
     obtain⟨e0,e1,e2,e3,e4,e5,e6,e7,e8,e9⟩:=Kit.cells10 hEf
     refine bodyPost_ret (v:=.tuple #[.agg #[.bool false,.int .i64 nc,.slice aT V.tcs.length cT,.slice ae r.events.length ce,.slice af r.rf.length cf,.slice am r.rmw.length cm,.slice ao V.vo.length co,.slice al r.log.length cl,.slice ap r.picks.length cp,.int .i64 r.used],.int .i64 2]) (by simp[results,Tryz.results27,go_sem,e0,e1,e2,e3,e4,e5,e6,e7,e8,e9]) rfl ?_
     obtain⟨c1,c2,c3,c4,c5,c6,c7⟩:=HV.out
     rw[HRR.out,HBB.out]
     refine⟨V,by unfold runD;rw[c1,c2,c3,c4,c5,c6,c7];rfl,⟨who1,HP.out.run.other hE (fun q=>by cases q <;> decide) (by decide) hlow hkf,fun k hk2=>HP.out.wh k (by have:=HS1.out;omega)⟩,?_⟩
     exact kept_new hk hkf (fun k e=>by rw[e];exact Nat.le_succ _)
    ·have b1:¬(256:Int)<(r.events.length:Int):=by omega
     have HBB:Hid (decide (256<r.events.length)=false):=Lib.hid (by simpa using hb)
     go_wp2_with fail
     clear zf y0 y1 y2 y3 y4 y5 y6 y7 y8 y9 d0 d1 d2 d3 d4 d5 d6 d7 d8 d9
     refine(show bodyPost _ _ _ _ _ (RunW.putL wr (w.heap.size+1) 0 [.bool false,.int .i64 nc,.slice aT V.tcs.length cT,.slice ae r.events.length ce,.slice af r.rf.length cf,.slice am r.rmw.length cm,.slice ao V.vo.length co,.slice al r.log.length cl,.slice ap r.picks.length cp,.int .i64 r.used])from RunW.putL_go hE rfl fun wf hEf hkf=>?_)
     obtain⟨e0,e1,e2,e3,e4,e5,e6,e7,e8,e9⟩:=Kit.cells10 hEf
     refine bodyPost_ret (v:=.tuple #[.agg #[.bool false,.int .i64 nc,.slice aT V.tcs.length cT,.slice ae r.events.length ce,.slice af r.rf.length cf,.slice am r.rmw.length cm,.slice ao V.vo.length co,.slice al r.log.length cl,.slice ap r.picks.length cp,.int .i64 r.used],.int .i64 0]) (by simp[results,Tryz.results27,go_sem,e0,e1,e2,e3,e4,e5,e6,e7,e8,e9]) rfl ?_
     obtain⟨c1,c2,c3,c4,c5,c6,c7⟩:=HV.out
     rw[HRR.out,HBB.out]
     refine⟨V,by unfold runD;rw[c1,c2,c3,c4,c5,c6,c7];rfl,⟨who1,HP.out.run.other hE (fun q=>by cases q <;> decide) (by decide) hlow hkf,fun k hk2=>HP.out.wh k (by have:=HS1.out;omega)⟩,?_⟩
     exact kept_new hk hkf (fun k e=>by rw[e];exact Nat.le_succ _)
  ·have q1:¬((i:Int)<(picks.length:Int)):=by omega
   have hRR:R=(r,decide (256<r.events.length)):=by
    have hpl:=HP.out.pl
    rw[List.drop_eq_nil_of_le (by omega)]at hpl
    exact hpl.symm
   have HRR:=Lib.hid hRR
   clear hRR
   have hgD:=hD.lt
   obtain⟨d0,d1,d2,d3,d4,d5,d6,d7,d8,d9⟩:=Kit.cells10 hD
   obtain⟨y0,y1,y2,y3,y4,y5,y6,y7,y8,y9⟩:=Kit.cells10 hE
   have zf:=fun i=>Blk.frozen hE i
   have hlow:w0.heap.size≤w.heap.size+1:=by have:=HP.out.run.start.size;have:=HX0.out;omega
   clear k3 k9
   rcases Classical.em (256<r.events.length)with hb | hb
   ·have b1:(256:Int)<(r.events.length:Int):=by omega
    have HBB:Hid (decide (256<r.events.length)=true):=Lib.hid (by simpa using hb)
    go_wp2_with fail
    clear zf y0 y1 y2 y3 y4 y5 y6 y7 y8 y9 d0 d1 d2 d3 d4 d5 d6 d7 d8 d9
    refine(show bodyPost _ _ _ _ _ (RunW.putL wr (w.heap.size+1) 0 [.bool false,.int .i64 nc,.slice aT V.tcs.length cT,.slice ae r.events.length ce,.slice af r.rf.length cf,.slice am r.rmw.length cm,.slice ao V.vo.length co,.slice al r.log.length cl,.slice ap r.picks.length cp,.int .i64 r.used])from RunW.putL_go hE rfl fun wf hEf hkf=>?_)
    obtain⟨e0,e1,e2,e3,e4,e5,e6,e7,e8,e9⟩:=Kit.cells10 hEf
    refine bodyPost_ret (v:=.tuple #[.agg #[.bool false,.int .i64 nc,.slice aT V.tcs.length cT,.slice ae r.events.length ce,.slice af r.rf.length cf,.slice am r.rmw.length cm,.slice ao V.vo.length co,.slice al r.log.length cl,.slice ap r.picks.length cp,.int .i64 r.used],.int .i64 2]) (by simp[results,Tryz.results27,go_sem,e0,e1,e2,e3,e4,e5,e6,e7,e8,e9]) rfl ?_
    obtain⟨c1,c2,c3,c4,c5,c6,c7⟩:=HV.out
    rw[HRR.out,HBB.out]
    refine⟨V,by unfold runD;rw[c1,c2,c3,c4,c5,c6,c7];rfl,⟨who1,HP.out.run.other hE (fun q=>by cases q <;> decide) (by decide) hlow hkf,fun k hk2=>HP.out.wh k (by have:=HS1.out;omega)⟩,?_⟩
    exact kept_new hk hkf (fun k e=>by rw[e];exact Nat.le_succ _)
   ·have b1:¬(256:Int)<(r.events.length:Int):=by omega
    have HBB:Hid (decide (256<r.events.length)=false):=Lib.hid (by simpa using hb)
    go_wp2_with fail
    clear zf y0 y1 y2 y3 y4 y5 y6 y7 y8 y9 d0 d1 d2 d3 d4 d5 d6 d7 d8 d9
    refine(show bodyPost _ _ _ _ _ (RunW.putL wr (w.heap.size+1) 0 [.bool false,.int .i64 nc,.slice aT V.tcs.length cT,.slice ae r.events.length ce,.slice af r.rf.length cf,.slice am r.rmw.length cm,.slice ao V.vo.length co,.slice al r.log.length cl,.slice ap r.picks.length cp,.int .i64 r.used])from RunW.putL_go hE rfl fun wf hEf hkf=>?_)
    obtain⟨e0,e1,e2,e3,e4,e5,e6,e7,e8,e9⟩:=Kit.cells10 hEf
    refine bodyPost_ret (v:=.tuple #[.agg #[.bool false,.int .i64 nc,.slice aT V.tcs.length cT,.slice ae r.events.length ce,.slice af r.rf.length cf,.slice am r.rmw.length cm,.slice ao V.vo.length co,.slice al r.log.length cl,.slice ap r.picks.length cp,.int .i64 r.used],.int .i64 0]) (by simp[results,Tryz.results27,go_sem,e0,e1,e2,e3,e4,e5,e6,e7,e8,e9]) rfl ?_
    obtain⟨c1,c2,c3,c4,c5,c6,c7⟩:=HV.out
    rw[HRR.out,HBB.out]
    refine⟨V,by unfold runD;rw[c1,c2,c3,c4,c5,c6,c7];rfl,⟨who1,HP.out.run.other hE (fun q=>by cases q <;> decide) (by decide) hlow hkf,fun k hk2=>HP.out.wh k (by have:=HS1.out;omega)⟩,?_⟩
    exact kept_new hk hkf (fun k e=>by rw[e];exact Nat.le_succ _)
end Go.Proofs.YtmjilfamjlnigaaGreat.RefW
