/- WALKS: the document's own run loads (chapter 19). -/
import Derived.Test.YtmjilfamjlnigaaGreatQ40
namespace Go.Proofs.YtmjilfamjlnigaaGreat.RefW
open Go Go.RowKit Kit SrcP SrcW Go.Proofs.YtmjilfamjlnigaaGreat.MchW
theorem RunAt.slices {mz:List Value} {w0:World} {nc:Nat} {w:World} {who:Nat→Option Dq} {V:DV} {r:RR} (h:RunAt mz w0 nc w who V r) :
  ∃aT cT ae ce af cf am cm ao co al cl ap cp,V.thr=.slice aT V.tcs.length cT∧V.ev=.slice ae r.events.length ce∧V.rf=.slice af r.rf.length cf∧V.rmw=.slice am r.rmw.length cm∧V.outs=.slice ao V.vo.length co∧V.log=.slice al r.log.length cl∧V.pks=.slice ap r.picks.length cp:=by
 obtain⟨aT,cT,hvT,_⟩:=OwnR.own_slice (h.own .thr)
 obtain⟨ae,ce,hve,_⟩:=OwnR.own_slice (h.own .ev)
 obtain⟨af,cf,hvf,_⟩:=OwnR.own_slice (h.own .rf)
 obtain⟨am,cm,hvm,_⟩:=OwnR.own_slice (h.own .rmw)
 obtain⟨ao,co,hvo,_⟩:=OwnR.own_slice (h.own .outs)
 obtain⟨al,cl,hvl,_⟩:=OwnR.own_slice (h.own .log)
 obtain⟨ap,cp,hvp,_⟩:=OwnR.own_slice (h.own .pks)
 exact⟨aT,cT,ae,ce,af,cf,am,cm,ao,co,al,cl,ap,cp,hvT,hve,hvf,hvm,hvo,hvl,hvp⟩
structure Fit (nc:Nat) (r:RR) (t:Nat) (q:Want):Prop where
 ev:r.events.length≤300
 rf:r.rf.length≤300
 rmw:r.rmw.length≤300
 log:r.log.length≤8388608
 nums:(r.th t).nums.length≤300
 act:∃a,(r.th t).s.acts[(r.th t).s.at_]?=some a∧ownB a=false∧(q.ex=true→a.op=4∨a.op=5∨a.op=6)
 last:∃f:Nat,lastR r.events q.loc=(f:Int)∧f<r.events.length∧valAt r.events f<M64
set_option maxRecDepth 100000 in
set_option maxHeartbeats 8000000 in
theorem load_any {mz:List Value} (hz:mz.length=95) (ho:mz.all (·.oneCell')=true) {w0:World} {nc:Nat} (hnc:nc≤4096) {w:World} {who:Nat→Option Dq} {V:DV} {r:RR} (h:RunAt mz w0 nc w who V r) (t:Nat) (ht:t<r.ths.length) (q:Want) (hf:Fit nc r t q) :
  Calls Tryz.prog 74 #[.agg (runD nc V r),.int .i64 (t:Int),.agg (wantC q)] w fun e w'=>∃V',e=.returned (.agg (runD nc V' (r.load t q)))∧DRet mz w0 nc w who w' V' (r.load t q):=by
 obtain⟨a,ha,hown,hpair⟩:=hf.act
 obtain⟨f,hlast,hfl,hvv⟩:=hf.last
 have HF:=Lib.hid hf
 have HA:=Lib.hid ha
 have HLS:=Lib.hid hlast
 have HPR:=Lib.hid hpair
 have hev:=hf.ev
 have HLast:Hid (∀w2,Below w.heap.size w w2→Calls Tryz.prog 51 #[.agg (runD nc V r),.int .i64 q.loc] w2 fun e w'=>e=.returned (.int .i64 (f:Int))∧Below w2.heap.size w2 w'):=Lib.hid fun w2 hb=>by
  have:=Last_any (h.below hb) (by have:=HF.out.ev;omega) q.loc
  rwa [HLS.out]at this
 have HEvt:Hid (∀w2,Below w.heap.size w w2→Calls Tryz.prog 76 #[.agg (runD nc V r),.int .i64 (t:Int),.int .i64 1,.int .i64 q.loc,.int .u64 (valAt r.events f:Nat),.int .i64 q.mode] w2 fun e w'=>∃V',e=.returned (.agg (runD nc V' (r.event t 1 q.loc (valAt r.events f) q.mode)))∧DRet mz w0 nc w2 who w' V' (r.event t 1 q.loc (valAt r.events f) q.mode)):=Lib.hid fun w2 hb =>
  event_any hz ho (h.below hb) t ht (by have:=HF.out.ev;omega) (by have:=HF.out.nums;omega) 1 q.loc _ q.mode
 obtain⟨aT,cT,hvT,_⟩:=OwnR.own_slice (h.own .thr)
 obtain⟨ae,ce,hve,_⟩:=OwnR.own_slice (h.own .ev)
 obtain⟨af,cf,hvf,_⟩:=OwnR.own_slice (h.own .rf)
 obtain⟨am,cm,hvm,_⟩:=OwnR.own_slice (h.own .rmw)
 obtain⟨ao,co,hvo,_⟩:=OwnR.own_slice (h.own .outs)
 obtain⟨al,cl,hvl,_⟩:=OwnR.own_slice (h.own .log)
 obtain⟨ap,cp,hvp,_⟩:=OwnR.own_slice (h.own .pks)
 simp only[DV.val,dN]at hvT hve hvf hvm hvo hvl hvp
 have HV:=Lib.hid (And.intro hvT (And.intro hve (And.intro hvf (And.intro hvm (And.intro hvo (And.intro hvl hvp))))))
 obtain⟨ge,hae,hge,hre⟩:=h.evs hve (Kit.eG hfl)
 have hval:RunW.evC r.events[f]=RunW.evC r.events[f]:=rfl
 have hvat:valAt r.events f=r.events[f].val:=by unfold valAt;rw[Kit.eG hfl];rfl
 have HVC:Hid (∀w2,Below w.heap.size w w2→w2.cell? ⟨ge,f*5+3,none⟩=some (.int .u64 (valAt r.events f:Nat))):=Lib.hid fun w2 hb=>by
  rw[hvat,hb.cell (p:=⟨ge,f*5+3,none⟩) hge]
  exact hre 3 _ rfl
 subst hae
 unfold runD at HLast HEvt
 unfold runD wantC
 simp only[hvT,hve,hvf,hvm,hvo,hvl,hvp]at HLast HEvt ⊢
 clear hvT hve hvf hvm hvo hvl hvp hre hval hvat ha hlast hpair hf
 generalize hvv2:valAt r.events f=v at *
 have HVV:=Lib.hid hvv2
 clear hvv2
 go_enter Tryz.func74,Tryz.ntmps74
 go_upto_region 1 with fail
 obtain⟨w1,hw1⟩:∃yy:World,yy=((w.alloc (.cells #[.bool false,.int .i64 nc,.slice aT V.tcs.length cT,.slice (some ⟨ge,0,none⟩) r.events.length ce,.slice af r.rf.length cf,.slice am r.rmw.length cm,.slice ao V.vo.length co,.slice al r.log.length cl,.slice ap r.picks.length cp,.int .i64 r.used] 47)).alloc (.cells #[.int .i64 q.what,.int .i64 q.loc,.int .i64 q.mode,.int .u64 (q.val:Int),.bool q.ex,.bool q.one] 100)).alloc (.cells #[.bool false,.int .i64 0,.slice none 0 0,.slice none 0 0,.slice none 0 0,.slice none 0 0,.slice none 0 0,.slice none 0 0,.slice none 0 0,.int .i64 0] 47):=⟨_,rfl⟩
 have hb1:Below w.heap.size w w1:=by rw[hw1];exact Kit.Below.al (Kit.bl2) _
 have hD1:Blk w1 w.heap.size 47 #[.bool false,.int .i64 nc,.slice aT V.tcs.length cT,.slice (some ⟨ge,0,none⟩) r.events.length ce,.slice af r.rf.length cf,.slice am r.rmw.length cm,.slice ao V.vo.length co,.slice al r.log.length cl,.slice ap r.picks.length cp,.int .i64 r.used]:=by rw[hw1];exact((Blk.new _ _ _).alloc _).alloc _
 have hQ1:Blk w1 (w.heap.size+1) 100 #[.int .i64 q.what,.int .i64 q.loc,.int .i64 q.mode,.int .u64 (q.val:Int),.bool q.ex,.bool q.one]:=by rw[hw1];exact(Blk.newAt (sizeA _ _) _ _).alloc _
 have hE1:Blk w1 (w.heap.size+1+1) 47 #[.bool false,.int .i64 0,.slice none 0 0,.slice none 0 0,.slice none 0 0,.slice none 0 0,.slice none 0 0,.slice none 0 0,.slice none 0 0,.int .i64 0]:=by rw[hw1];exact Blk.newAt (by rw[sizeA,sizeA]) _ _
 rw[←hw1]
 clear hw1
 obtain⟨k0,k1,k2,k3,k4,k5,k6,k7,k8,k9⟩:=Kit.cells10 hD1
 have q1:w1.cell? ⟨w.heap.size+1,1,none⟩=some (.int .i64 q.loc):=hQ1.cell 1
 have HL1:=Lib.hid (HLast.out w1 hb1)
 have hb1s:=hb1.size
 go_upto_region 2 with (go_at_call 51;refine HL1.out.mono ?_;rintro e w2 ⟨rfl,hb2⟩)
 clear k0 k1 k2 k3 k4 k5 k6 k7 k8 k9 q1 HL1 HLast
 have hD2:=hD1.below' hb2
 have hQ2:=hQ1.below' hb2
 have hE2:=hE1.below' hb2
 have hbw2:=hb1.trans (hb2.mono hb1s)
 clear hD1 hQ1 hE1
 have c3:=HVC.out w2 hbw2
 have a1:(f:Int)<(r.events.length:Int):=by omega
 have a2:(0:Int)≤(f:Int):=by omega
 obtain⟨k0,k1,k2,k3,k4,k5,k6,k7,k8,k9⟩:=Kit.cells10 hD2
 have q1:w2.cell? ⟨w.heap.size+1,1,none⟩=some (.int .i64 q.loc):=hQ2.cell 1
 have q2:w2.cell? ⟨w.heap.size+1,2,none⟩=some (.int .i64 q.mode):=hQ2.cell 2
 have HE2:=Lib.hid (HEvt.out w2 hbw2)
 have HB2:Hid (∀w3,KeptS (fun k=>who k≠none) w2 w3→(∀g,who g=none→True)→True):=Lib.hid fun _ _ _=>trivial
 have hfree:∀g,w.heap.size≤g→who g=none:=fun g hg=>by
  cases hwk:who g with
  | none=>rfl
  | some x=>have:=(h.lt _ _ hwk).2;omega
 have HFR:=Lib.hid hfree
 have hs2:=hbw2.size
 have hls:=hE2.lt
 clear hfree
 obtain⟨r1,hr1⟩:∃y:RR,y=r.event t 1 q.loc v q.mode:=⟨_,rfl⟩
 rw[←hr1]at HE2
 have HR1:=Lib.hid hr1
 clear hr1
 go_upto_region 5 with (go_at_call 76;refine HE2.out.mono ?_;rintro e w3 ⟨V1,rfl,hDR⟩;obtain⟨⟨who1,hR3,hwh1⟩,hk23⟩:=hDR;obtain⟨aT1,cT1,ae1,ce1,af1,cf1,am1,cm1,ao1,co1,al1,cl1,ap1,cp1,hvT1,hve1,hvf1,hvm1,hvo1,hvl1,hvp1⟩:=hR3.slices;have hD3:=hk23.blk hD2 (fun hh=>hh (HFR.out _ (Nat.le_refl _)));simp only[hvT1,hve1,hvf1,hvm1,hvo1,hvl1,hvp1];have HV1:=Lib.hid (And.intro hvT1 (And.intro hve1 (And.intro hvf1 (And.intro hvm1 (And.intro hvo1 (And.intro hvl1 hvp1))))));clear hvT1 hve1 hvf1 hvm1 hvo1 hvl1 hvp1;obtain⟨z0,z1,z2,z3,z4,z5,z6,z7,z8,z9⟩:=Kit.cells10 hD3;have zf:=fun i=>Blk.frozen hD3 i)
 clear k0 z0 k1 z1 k2 z2 k3 z3 k4 z4 k5 z5 k6 z6 k7 z7 k8 z8 k9 z9 zf q1 q2 c3 HE2 HEvt HVC HB2
 refine(show Code.wp _ _ _ _ (RunW.putL w3 w.heap.size 0 [.bool false,.int .i64 nc,.slice aT1 V1.tcs.length cT1,.slice ae1 r1.events.length ce1,.slice af1 r1.rf.length cf1,.slice am1 r1.rmw.length cm1,.slice ao1 V1.vo.length co1,.slice al1 r1.log.length cl1,.slice ap1 r1.picks.length cp1,.int .i64 r1.used])from RunW.putL_go hD3 rfl fun w4 hD4 hk34=>?_)
 have hQ4:=hk34.blk (hk23.blk hQ2 (fun hh=>hh (HFR.out _ (by omega)))) (by omega)
 have hE4:=hk34.blk (hk23.blk hE2 (fun hh=>hh (HFR.out _ (by omega)))) (by omega)
 have hlow:w0.heap.size≤w.heap.size:=h.start.size
 have hR4:=hR3.other hD3 (fun q=>by cases q <;> decide) (by decide) hlow hk34
 have hkw2:KeptS (fun k=>who k≠none) w w2:=KeptS.of_below hbw2
 have hk4:KeptS (fun k=>who k≠none) w w4:=by
  have h1:=hkw2.trans hk23
  exact⟨hk34.1.trans h1.1,hk34.2.1.trans h1.2.1,hk34.2.2.1.trans h1.2.2.1,Nat.le_trans h1.size hk34.size,fun k hk hn=>(hk34.2.2.2.2 k (Nat.lt_of_lt_of_le hk h1.size) (by omega)).trans (h1.2.2.2.2 k hk hn)⟩
 have HWH:Hid (∀k,k<w2.heap.size→who1 k=who k):=Lib.hid hwh1
 have hs24:w2.heap.size≤w4.heap.size:=Nat.le_trans hk23.size hk34.size
 clear hD2 hQ2 hE2 hD3 hk34 hk23 hR3 hwh1 hbw2 hb2 hkw2
 have hR1rf:r1.rf.length≤300:=by rw[HR1.out];exact HF.out.rf
 have c4:w4.cell? ⟨w.heap.size,4,none⟩=some (.slice af1 r1.rf.length cf1):=Blk.cell hD4 4
 obtain⟨i0,hi0,hz0,hz1,hz2⟩:=info_parts RunW.info_pair
 have hba:Below w4.heap.size w4 (w4.alloc (.cells #[.int .i64 f,.int .i64 r.events.length] 51)):=Kit.bl1
 have hNa:Blk (w4.alloc (.cells #[.int .i64 f,.int .i64 r.events.length] 51)) w4.heap.size 51 (List.toArray (RunW.pairC (f,r.events.length))):=Blk.new _ _ _
 have hRa:=hR4.below hba
 have hoa:=hRa.own .rf
 simp only[dT,dS,DV.val,dN,dX]at hoa
 rw[HV1.out.2.2.1]at hoa
 have HOA:=Lib.hid hoa
 have hbs:w0.heap.size≤(w4.alloc (.cells #[.int .i64 f,.int .i64 r.events.length] 51)).heap.size:=hRa.start.size
 have hml:(16*1048576:Nat)≤maxLen:=by decide
 have HRa:=Lib.hid hRa
 have HDa:=Lib.hid (hD4.below' hba)
 have HDN:=Lib.hid (OwnR.own_type HOA.out HDa.out (by decide))
 have HEV:Hid (r1.events.length=r.events.length+1):=Lib.hid (by rw[HR1.out];simp[RR.event])
 clear hoa hRa
 go_upto_region 6 with (at_builtin;refine wpList_append_lies _ (by rfl) _ _ _ (by rfl) w0.heap.size 51 i0 _ 2 16 Tryz.underlying28 hi0 hz0 hz1 hz2 rfl (by omega) _ r1.rf.length _ (by rfl) HOA.out ⟨w4.heap.size,0,none⟩ 1 1 (RunW.pairC (f,r.events.length)) (by rfl) rfl (RunW.news_one hNa) (RunW.pairC_one _) (by omega) (by omega) (by omega) hbs _ rfl ?_;intro g8 cap8 w8 hown8 hgrow8 hat8 hlt8;have c4:w8.cell? ⟨w.heap.size,4,none⟩=some (.slice af1 r1.rf.length cf1):=Blk.cell (HDa.out.grown hgrow8 HDN.out) 4;have cf4:=Blk.frozen (HDa.out.grown hgrow8 HDN.out) 4)
 have hD8:=HDa.out.grown hgrow8 HDN.out
 have hQ8:=(hQ4.below' hba).grown hgrow8 (OwnR.own_type HOA.out (hQ4.below' hba) (by decide))
 have hE8:=(hE4.below' hba).grown hgrow8 (OwnR.own_type HOA.out (hE4.below' hba) (by decide))
 obtain⟨who2,hR8,hwho2⟩:=HRa.out.app_rf (f,r.events.length) hown8 (by rw[HV1.out.2.2.1];exact hgrow8) (by rw[HV1.out.2.2.1];exact hat8.imp id (fun e=>by rw[e];exact Nat.le_refl _))
 have hk8:KeptS (fun k=>who k≠none) w w8:=by
  have h1:=hk4.trans (KeptS.of_below (S:=fun k=>who k≠none) hba)
  refine⟨hgrow8.os.trans h1.1,hgrow8.tape.trans h1.2.1,hgrow8.output.trans h1.2.2.1,Nat.le_trans h1.size hgrow8.size,fun k hk hn=>(hgrow8.block k (Nat.lt_of_lt_of_le hk h1.size) (fun e=>hn ?_)).trans (h1.2.2.2.2 k hk hn)⟩
  show who k≠none
  rw[←HWH.out k (by omega),hR4.mine .rf k (by simp only[DV.val];rw[HV1.out.2.2.1];exact e.symm)]
  exact fun h=>by cases h
 obtain⟨w9,hw9⟩:∃yy:World,yy=w8.setCell ⟨w.heap.size,4,none⟩ (.slice (some ⟨g8,0,none⟩) (r1.rf.length+1) cap8):=⟨_,rfl⟩
 rw[←hw9]
 have hk89:KeptS (fun k=>k=w.heap.size) w8 w9:=by rw[hw9];exact(KeptS.refl (fun k=>k=w.heap.size) w8).set rfl _ _
 have hD9:Blk w9 w.heap.size 47 #[.bool false,.int .i64 nc,.slice aT1 V1.tcs.length cT1,.slice ae1 r1.events.length ce1,.slice (some ⟨g8,0,none⟩) (r1.rf.length+1) cap8,.slice am1 r1.rmw.length cm1,.slice ao1 V1.vo.length co1,.slice al1 r1.log.length cl1,.slice ap1 r1.picks.length cp1,.int .i64 r1.used]:=by rw[hw9];exact hD8.set 4 _
 have hQ9:=hk89.blk hQ8 (by omega)
 have hE9:=hk89.blk hE8 (by omega)
 have hR9:=hR8.other hD8 (fun q=>by cases q <;> decide) (by decide) hlow hk89
 have hk9:KeptS (fun k=>who k≠none) w w9:=⟨hk89.1.trans hk8.1,hk89.2.1.trans hk8.2.1,hk89.2.2.1.trans hk8.2.2.1,Nat.le_trans hk8.size hk89.size,fun k hk hn=>(hk89.2.2.2.2 k (Nat.lt_of_lt_of_le hk hk8.size) (by omega)).trans (hk8.2.2.2.2 k hk hn)⟩
 have HWH2:Hid (∀k,k<w2.heap.size→who2 k=who k):=Lib.hid fun k hk=>(hwho2 k (by have:=hba.size;omega)).trans (HWH.out k hk)
 have h29:w2.heap.size≤w9.heap.size:=by have:=hba.size;have:=hgrow8.size;have:=hk89.size;omega
 clear hw9 hk89 hk8 hR8 hD8 hQ8 hE8 hown8 hgrow8 hat8 HOA HRa HDa HDN hNa hba hbs hwho2 hD4 hQ4 hE4 hR4 hk4 c4 cf4
 obtain⟨r2,hr2⟩:∃y:RR,y = { r1 with rf:=r1.rf++[(f,r.events.length)] }:=⟨_,rfl⟩
 obtain⟨V2,hV2⟩:∃y:DV,y = { V1 with rf:=.slice (some ⟨g8,0,none⟩) (r1.rf.length+1) cap8 }:=⟨_,rfl⟩
 rw[←hr2,←hV2]at hR9
 have HR2:=Lib.hid hr2
 have HV2:=Lib.hid hV2
 have HLD:Hid (r.load t q=if q.ex=true then(if ((r2.th t).s.next v).what=0 then((r2.fed t v).ask t).1 else RR.fed { r2.event t 2 ((r2.th t).s.next v).loc ((r2.th t).s.next v).val ((r2.th t).s.next v).mode with rmw:=(r2.event t 2 ((r2.th t).s.next v).loc ((r2.th t).s.next v).val ((r2.th t).s.next v).mode).rmw++[(r.events.length,r.events.length+1)],log:=(r2.event t 2 ((r2.th t).s.next v).loc ((r2.th t).s.next v).val ((r2.th t).s.next v).mode).log++[t] } t v)else r2.fed t v):=Lib.hid (by
  unfold RR.load
  simp only[HLS.out,Int.toNat_natCast,HVV.out]
  rw[←HR1.out,←HR2.out])
 have ht2:t<r2.ths.length:=by rw[HR2.out,HR1.out];simpa [RR.event]using ht
 have hth2:(r2.th t).s=(r.th t).s:=by
  rw[HR2.out,HR1.out]
  show((r.ths.set t ⟨(r.th t).s,_⟩).getD t noT).s=_
  rw[Kit.gD,List.getElem?_set_self ht]
  rfl
 have HTH:=Lib.hid hth2
 have ha2:(r2.th t).s.acts[(r2.th t).s.at_]?=some a:=by rw[HTH.out];exact HA.out
 have hrd:runD nc V2 r2=#[.bool false,.int .i64 nc,.slice aT1 V1.tcs.length cT1,.slice ae1 r1.events.length ce1,.slice (some ⟨g8,0,none⟩) (r1.rf.length+1) cap8,.slice am1 r1.rmw.length cm1,.slice ao1 V1.vo.length co1,.slice al1 r1.log.length cl1,.slice ap1 r1.picks.length cp1,.int .i64 r1.used]:=by
  obtain⟨b1,b2,b3,b4,b5,b6,b7⟩:=HV1.out
  unfold runD
  rw[HV2.out,HR2.out]
  simp only[b1,b2,b4,b5,b6,b7]
 have HFd:Hid (∀w2,Below w9.heap.size w9 w2→Calls Tryz.prog 75 #[.agg #[.bool false,.int .i64 nc,.slice aT1 V1.tcs.length cT1,.slice ae1 r1.events.length ce1,.slice (some ⟨g8,0,none⟩) (r1.rf.length+1) cap8,.slice am1 r1.rmw.length cm1,.slice ao1 V1.vo.length co1,.slice al1 r1.log.length cl1,.slice ap1 r1.picks.length cp1,.int .i64 r1.used],.int .i64 (t:Int),.int .u64 (v:Int)] w2 fun e w'=>∃V',e=.returned (.agg (runD nc V' (r2.fed t v)))∧DRet mz w0 nc w2 who2 w' V' (r2.fed t v)):=Lib.hid fun w2 hb=>by
  have:=fed_any hz ho (hR9.below hb) t ht2 a ha2 hown v hvv
  rwa [hrd]at this
 clear hr2 hV2 hth2
 have k0:w9.cell? ⟨w.heap.size,0,none⟩=some (.bool false):=Blk.cell hD9 0
 go_upto_region 16 with fail
 have q4:w9.cell? ⟨w.heap.size+1,4,none⟩=some (.bool q.ex):=hQ9.cell 4
 cases hex:q.ex with
 | false =>
  rw[hex]at q4
  have HEXF:=Lib.hid hex
  clear hex
  go_upto_region 24 with fail
  have k1:w9.cell? ⟨w.heap.size,1,none⟩=some (.int .i64 nc):=Blk.cell hD9 1
  have k2:w9.cell? ⟨w.heap.size,2,none⟩=some (.slice aT1 V1.tcs.length cT1):=Blk.cell hD9 2
  have k3:w9.cell? ⟨w.heap.size,3,none⟩=some (.slice ae1 r1.events.length ce1):=Blk.cell hD9 3
  have k4:w9.cell? ⟨w.heap.size,4,none⟩=some (.slice (some ⟨g8,0,none⟩) (r1.rf.length+1) cap8):=Blk.cell hD9 4
  have k5:w9.cell? ⟨w.heap.size,5,none⟩=some (.slice am1 r1.rmw.length cm1):=Blk.cell hD9 5
  have k6:w9.cell? ⟨w.heap.size,6,none⟩=some (.slice ao1 V1.vo.length co1):=Blk.cell hD9 6
  have k7:w9.cell? ⟨w.heap.size,7,none⟩=some (.slice al1 r1.log.length cl1):=Blk.cell hD9 7
  have k8:w9.cell? ⟨w.heap.size,8,none⟩=some (.slice ap1 r1.picks.length cp1):=Blk.cell hD9 8
  have k9:w9.cell? ⟨w.heap.size,9,none⟩=some (.int .i64 r1.used):=Blk.cell hD9 9
  obtain⟨r3,hr3⟩:∃y:RR,y=r2.fed t v:=⟨_,rfl⟩
  rw[←hr3]at HFd
  have HR3:=Lib.hid hr3
  clear hr3
  have HF9:=Lib.hid (HFd.out w9 (Below.refl _ _))
  go_wp2_with (go_at_call 75;refine HF9.out.mono ?_;rintro e w10 ⟨V3,rfl,hDR⟩;obtain⟨⟨who3,hR10,hwh3⟩,hk910⟩:=hDR;obtain⟨aT3,cT3,ae3,ce3,af3,cf3,am3,cm3,ao3,co3,al3,cl3,ap3,cp3,hvT3,hve3,hvf3,hvm3,hvo3,hvl3,hvp3⟩:=hR10.slices;have hE10:=hk910.blk hE9 (fun hh=>hh ((HWH2.out _ (by omega)).trans (HFR.out _ (by omega))));unfold runD;simp only[hvT3,hve3,hvf3,hvm3,hvo3,hvl3,hvp3];have HV3:=Lib.hid (And.intro hvT3 (And.intro hve3 (And.intro hvf3 (And.intro hvm3 (And.intro hvo3 (And.intro hvl3 hvp3))))));clear hvT3 hve3 hvf3 hvm3 hvo3 hvl3 hvp3;obtain⟨z0,z1,z2,z3,z4,z5,z6,z7,z8,z9⟩:=Kit.cells10 hE10;have zf:=fun i=>Blk.frozen hE10 i)
  clear zf z0 k0 z1 k1 z2 k2 z3 k3 z4 k4 z5 k5 z6 k6 z7 k7 z8 k8 z9 k9
  refine(show bodyPost _ _ _ _ _ (RunW.putL w10 (w.heap.size+1+1) 0 [.bool false,.int .i64 nc,.slice aT3 V3.tcs.length cT3,.slice ae3 r3.events.length ce3,.slice af3 r3.rf.length cf3,.slice am3 r3.rmw.length cm3,.slice ao3 V3.vo.length co3,.slice al3 r3.log.length cl3,.slice ap3 r3.picks.length cp3,.int .i64 r3.used])from RunW.putL_go hE10 rfl fun wf hEf hkf=>?_)
  obtain⟨e0,e1,e2,e3,e4,e5,e6,e7,e8,e9⟩:=Kit.cells10 hEf
  refine bodyPost_ret (v:=.agg #[.bool false,.int .i64 nc,.slice aT3 V3.tcs.length cT3,.slice ae3 r3.events.length ce3,.slice af3 r3.rf.length cf3,.slice am3 r3.rmw.length cm3,.slice ao3 V3.vo.length co3,.slice al3 r3.log.length cl3,.slice ap3 r3.picks.length cp3,.int .i64 r3.used]) (by simp[results,Tryz.results74,go_sem,e0,e1,e2,e3,e4,e5,e6,e7,e8,e9]) rfl ?_
  have hRf:=hR10.other hE10 (fun q=>by cases q <;> decide) (by decide) (by omega) hkf
  obtain⟨b1,b2,b3,b4,b5,b6,b7⟩:=HV3.out
  have hlo:r.load t q=r3:=by rw[HLD.out,HR3.out];simp[HEXF.out]
  rw[hlo]
  refine⟨V3,by rw[b1,b2,b3,b4,b5,b6,b7],⟨who3,hRf,fun k hk=>?_⟩,?_⟩
  ·rw[hwh3 k (by omega)]
   exact HWH2.out k (by omega)
  ·have h1:KeptS (fun k=>who k≠none) w w10:=⟨hk910.1.trans hk9.1,hk910.2.1.trans hk9.2.1,hk910.2.2.1.trans hk9.2.2.1,Nat.le_trans hk9.size hk910.size,fun k hk hn=>(hk910.2.2.2.2 k (by omega) (by
    show ¬(who2 k≠none)
    rw[HWH2.out k (by omega)]
    exact hn)).trans (hk9.2.2.2.2 k hk hn)⟩
   exact⟨hkf.1.trans h1.1,hkf.2.1.trans h1.2.1,hkf.2.2.1.trans h1.2.2.1,Nat.le_trans h1.size hkf.size,fun k hk hn=>(hkf.2.2.2.2 k (Nat.lt_of_lt_of_le hk h1.size) (by omega)).trans (h1.2.2.2.2 k hk hn)⟩
 | true =>
  have hop:=HPR.out hex
  rw[hex]at q4
  have HEXF:=Lib.hid hex
  clear hex
  have hlt2:t<V2.tcs.length:=by have h1:=hR9.ths;rw[h1]at ht2;simpa using ht2
  obtain⟨g,cap,hT⟩:=hR9.thr hz (by omega)
  have HT:=Lib.hid hT
  obtain⟨rfl,rfl⟩:aT1=some ⟨g,0,none⟩∧cT1=cap:=by
   have h1:=hT.val
   rw[HV2.out]at h1
   have h2:=HV1.out.1
   rw[show({ V1 with rf:=.slice (some ⟨g8,0,none⟩) (r1.rf.length+1) cap8 }:DV).thr=V1.thr from rfl,h2]at h1
   injection h1 with h1 _ h3
   exact⟨h1,h3⟩
  have hx:V2.tcs[t]?=some V2.tcs[t]:=Kit.eG hlt2
  generalize hxx:V2.tcs[t]=x at *
  have hok:=hR9.tc x (List.mem_of_getElem? hx)
  have hrx:=hT.at_ t x hx
  have HXX:=Lib.hid hx
  have hlt1:t<V1.tcs.length:=by have h1:=hlt2;rw[HV2.out]at h1;exact h1
  clear hxx hT hx hlt2
  obtain⟨A,c,hva,_⟩:=hok.acts
  obtain⟨B,d,hvl2,_⟩:=OwnR.own_slice hok.locs
  have x0:w9.cell? ⟨g,t*101,none⟩=some (.int .i64 x.lc):=hrx 0 _ rfl
  have x1:w9.cell? ⟨g,t*101+1,none⟩=some (.slice A x.s.acts.length c):=by rw[←hva];exact hrx 1 _ rfl
  have x2:w9.cell? ⟨g,t*101+2,none⟩=some (.int .i64 x.s.at_):=hrx 2 _ rfl
  have x3:w9.cell? ⟨g,t*101+3,none⟩=some (.slice B x.s.locals.length d):=by rw[←hvl2];exact hrx 3 _ rfl
  have hthx:(r2.th t).s=x.s:=by
   unfold RR.th
   rw[hR9.ths,Kit.gD,List.getElem?_map,HXX.out]
   rfl
  have hax:x.s.acts[x.s.at_]?=some a:=by rw[←hthx];exact ha2
  have hnx:(r2.th t).s.next v=x.s.thenW a v:=by unfold RS.next;rw[hthx,hax]
  have HNX:=Lib.hid hnx
  have HThn:=Lib.hid (Then_any hnc x.lc A c (.slice B x.s.locals.length d) x.s w9 (by
   rw[←hva,←hvl2]
   exact⟨hok.acts.below hR9.start,hok.locs,hok.ok⟩) a hax hop v hvv)
  clear hrx hva hvl2 hthx hnx
  generalize x.s.thenW a v=u at *
  unfold stC wantC at HThn
  have k2:w9.cell? ⟨w.heap.size,2,none⟩=some (.slice (some ⟨g,0,none⟩) V1.tcs.length cT1):=Blk.cell hD9 2
  have b1:(t:Int)<(V1.tcs.length:Int):=by omega
  have b2:(0:Int)≤(t:Int):=by omega
  go_upto_region 18 with (go_at_call 114;refine HThn.out.mono ?_;rintro e w10 ⟨rfl,hb10⟩)
  clear x0 x1 x2 x3 k2 k0 q4 HThn
  obtain⟨w11,hw11⟩:∃yy:World,yy=w10.alloc (.cells #[.int .i64 u.what,.int .i64 u.loc,.int .i64 u.mode,.int .u64 (u.val:Int),.bool u.ex,.bool u.one] 100):=⟨_,rfl⟩
  have hb11:Below w9.heap.size w9 w11:=by rw[hw11];exact Kit.Below.al hb10 _
  have hU11:Blk w11 w10.heap.size 100 #[.int .i64 u.what,.int .i64 u.loc,.int .i64 u.mode,.int .u64 (u.val:Int),.bool u.ex,.bool u.one]:=by rw[hw11];exact Blk.new _ _ _
  rw[←hw11]
  have hs910:=hb10.size
  clear hw11 hb10
  generalize w10.heap.size=gu at *
  have hD11:=hD9.below' hb11
  have hE11:=hE9.below' hb11
  have hR11:=hR9.below hb11
  have hk11:KeptS (fun k=>who k≠none) w w11:=hk9.trans (KeptS.of_below hb11)
  have u0:w11.cell? ⟨gu,0,none⟩=some (.int .i64 u.what):=hU11.cell 0
  obtain⟨k0,k1,k2,k3,k4,k5,k6,k7,k8,k9⟩:=Kit.cells10 hD11
  have hs11:=hb11.size
  by_cases hu0:u.what=0
  ·rw[hu0]at u0
   have HU0:=Lib.hid hu0
   clear hu0
   obtain⟨r3,hr3⟩:∃y:RR,y=r2.fed t v:=⟨_,rfl⟩
   have HR3:=Lib.hid hr3
   have HF11:=HFd.out w11 hb11
   rw[←hr3]at HF11
   have HF11:=Lib.hid HF11
   have ht3:t<r3.ths.length:=by rw[hr3];simpa [RR.fed,RR.setS]using ht2
   clear hr3
   have HAsk:Hid (∀(w12:World) (who3:Nat→Option Dq) (V3:DV),RunAt mz w0 nc w12 who3 V3 r3→Calls Tryz.prog 33 #[.agg (runD nc V3 r3),.int .i64 (t:Int)] w12 fun e w'=>∃V',e=.returned (.tuple #[.agg (runD nc V' (r3.ask t).1),.agg (wantC (r3.ask t).2)])∧DRet mz w0 nc w12 who3 w' V' (r3.ask t).1):=Lib.hid fun w12 who3 V3 h3=>Ask_any hz ho hnc h3 t ht3
   obtain⟨r4,hr4⟩:∃y:RR,y=(r3.ask t).1:=⟨_,rfl⟩
   rw[←hr4]at HAsk
   have HR4:=Lib.hid hr4
   clear hr4
   generalize (r3.ask t).2=qq at *
   unfold wantC at HAsk
   go_upto_region 20 with (first |(go_at_call 75;refine HF11.out.mono ?_;rintro e w12 ⟨V3,rfl,hDR⟩;obtain⟨⟨who3,hR12,hwh3⟩,hk12⟩:=hDR) |(go_at_call 33;refine(HAsk.out _ _ _ hR12).mono ?_;rintro e w13 ⟨V4,rfl,hDR⟩;obtain⟨⟨who4,hR13,hwh4⟩,hk13⟩:=hDR;obtain⟨aT4,cT4,ae4,ce4,af4,cf4,am4,cm4,ao4,co4,al4,cl4,ap4,cp4,hvT4,hve4,hvf4,hvm4,hvo4,hvl4,hvp4⟩:=hR13.slices;unfold runD;simp only[hvT4,hve4,hvf4,hvm4,hvo4,hvl4,hvp4];have HV4:=Lib.hid (And.intro hvT4 (And.intro hve4 (And.intro hvf4 (And.intro hvm4 (And.intro hvo4 (And.intro hvl4 hvp4))))));clear hvT4 hve4 hvf4 hvm4 hvo4 hvl4 hvp4))
   clear k0 k1 k2 k3 k4 k5 k6 k7 k8 k9 u0
   have hE12:=hk12.blk hE11 (fun hh=>hh ((HWH2.out _ (by omega)).trans (HFR.out _ (by omega))))
   have hE13:=hk13.blk hE12 (fun hh=>hh ((hwh3 _ (by omega)).trans ((HWH2.out _ (by omega)).trans (HFR.out _ (by omega)))))
   obtain⟨w14,hw14⟩:∃yy:World,yy=(w13.alloc (.cells #[.bool false,.int .i64 nc,.slice aT4 V4.tcs.length cT4,.slice ae4 r4.events.length ce4,.slice af4 r4.rf.length cf4,.slice am4 r4.rmw.length cm4,.slice ao4 V4.vo.length co4,.slice al4 r4.log.length cl4,.slice ap4 r4.picks.length cp4,.int .i64 r4.used] 47)).alloc (.cells #[.int .i64 qq.what,.int .i64 qq.loc,.int .i64 qq.mode,.int .u64 (qq.val:Int),.bool qq.ex,.bool qq.one] 100):=⟨_,rfl⟩
   have hb14:Below w13.heap.size w13 w14:=by rw[hw14];exact Kit.bl2
   have hP14:Blk w14 w13.heap.size 47 #[.bool false,.int .i64 nc,.slice aT4 V4.tcs.length cT4,.slice ae4 r4.events.length ce4,.slice af4 r4.rf.length cf4,.slice am4 r4.rmw.length cm4,.slice ao4 V4.vo.length co4,.slice al4 r4.log.length cl4,.slice ap4 r4.picks.length cp4,.int .i64 r4.used]:=by rw[hw14];exact(Blk.new _ _ _).alloc _
   rw[←hw14]
   clear hw14
   have hE14:=hE13.below' hb14
   have hR14:=hR13.below hb14
   have hs12:=hk12.size
   have hs13:=hk13.size
   have hs14:=hb14.size
   generalize w13.heap.size=gp at *
   obtain⟨p0,p1,p2,p3,p4,p5,p6,p7,p8,p9⟩:=Kit.cells10 hP14
   obtain⟨z0,z1,z2,z3,z4,z5,z6,z7,z8,z9⟩:=Kit.cells10 hE14
   have zf:=fun i=>Blk.frozen hE14 i
   go_wp2_with fail
   clear zf z0 p0 z1 p1 z2 p2 z3 p3 z4 p4 z5 p5 z6 p6 z7 p7 z8 p8 z9 p9
   refine(show bodyPost _ _ _ _ _ (RunW.putL w14 (w.heap.size+1+1) 0 [.bool false,.int .i64 nc,.slice aT4 V4.tcs.length cT4,.slice ae4 r4.events.length ce4,.slice af4 r4.rf.length cf4,.slice am4 r4.rmw.length cm4,.slice ao4 V4.vo.length co4,.slice al4 r4.log.length cl4,.slice ap4 r4.picks.length cp4,.int .i64 r4.used])from RunW.putL_go hE14 rfl fun wf hEf hkf=>?_)
   obtain⟨e0,e1,e2,e3,e4,e5,e6,e7,e8,e9⟩:=Kit.cells10 hEf
   refine bodyPost_ret (v:=.agg #[.bool false,.int .i64 nc,.slice aT4 V4.tcs.length cT4,.slice ae4 r4.events.length ce4,.slice af4 r4.rf.length cf4,.slice am4 r4.rmw.length cm4,.slice ao4 V4.vo.length co4,.slice al4 r4.log.length cl4,.slice ap4 r4.picks.length cp4,.int .i64 r4.used]) (by simp[results,Tryz.results74,go_sem,e0,e1,e2,e3,e4,e5,e6,e7,e8,e9]) rfl ?_
   have hRf:=hR14.other hE14 (fun q=>by cases q <;> decide) (by decide) (by omega) hkf
   obtain⟨b1,b2,b3,b4,b5,b6,b7⟩:=HV4.out
   have hlo:r.load t q=r4:=by rw[HLD.out,if_pos HEXF.out,HNX.out,if_pos HU0.out,←HR3.out,←HR4.out]
   rw[hlo]
   have hg:∀k,k<w.heap.size→who4 k=who k:=fun k hk=>(hwh4 k (by omega)).trans ((hwh3 k (by omega)).trans (HWH2.out k (by omega)))
   refine⟨V4,by rw[b1,b2,b3,b4,b5,b6,b7],⟨who4,hRf,hg⟩,?_⟩
   have hkk:∀k,k<w.heap.size→¬(who k≠none)→wf.heap[k]?=w.heap[k]?:=fun k hk hn=>by
    rw[hkf.2.2.2.2 k (by omega) (by omega),hb14.block k (by omega)]
    rw[hk13.2.2.2.2 k (by omega) (by show ¬(who3 k≠none);rw[hwh3 k (by omega),HWH2.out k (by omega)];exact hn)]
    rw[hk12.2.2.2.2 k (by omega) (by show ¬(who2 k≠none);rw[HWH2.out k (by omega)];exact hn)]
    exact hk11.2.2.2.2 k hk hn
   exact⟨hkf.1.trans (hb14.os.trans (hk13.1.trans (hk12.1.trans hk11.1))),hkf.2.1.trans (hb14.tape.trans (hk13.2.1.trans (hk12.2.1.trans hk11.2.1))),hkf.2.2.1.trans (hb14.output.trans (hk13.2.2.1.trans (hk12.2.2.1.trans hk11.2.2.1))),by have:=hkf.size;have:=hk11.size;omega,hkk⟩
  ·have qu0:(u.what == 0)=false:=by simpa using hu0
   have HU0:=Lib.hid hu0
   clear hu0
   have u1:w11.cell? ⟨gu,1,none⟩=some (.int .i64 u.loc):=hU11.cell 1
   have u2:w11.cell? ⟨gu,2,none⟩=some (.int .i64 u.mode):=hU11.cell 2
   have u3:w11.cell? ⟨gu,3,none⟩=some (.int .u64 (u.val:Int)):=hU11.cell 3
   obtain⟨r3,hr3⟩:∃y:RR,y=r2.event t 2 u.loc u.val u.mode:=⟨_,rfl⟩
   have hev2:r2.events.length=r.events.length+1:=by rw[HR2.out];exact HEV.out
   have hnm2:(r2.th t).nums.length≤1000:=by
    have h1:=HF.out.nums
    rw[HR2.out,HR1.out]
    show((r.ths.set t ⟨(r.th t).s,(r.th t).nums++[r.events.length]⟩).getD t noT).nums.length≤1000
    rw[Kit.gD,List.getElem?_set_self ht]
    simp
    omega
   have HEv2:=event_any hz ho hR11 t ht2 (by have:=HF.out.ev;omega) hnm2 2 u.loc u.val u.mode
   rw[hrd,←hr3]at HEv2
   have HEv2:=Lib.hid HEv2
   have HR3:=Lib.hid hr3
   clear hr3 hnm2 hev2
   go_upto_region 22 with (go_at_call 76;refine HEv2.out.mono ?_;rintro e w12 ⟨V3,rfl,hDR⟩;obtain⟨⟨who3,hR12,hwh3⟩,hk12⟩:=hDR;obtain⟨aT3,cT3,ae3,ce3,af3,cf3,am3,cm3,ao3,co3,al3,cl3,ap3,cp3,hvT3,hve3,hvf3,hvm3,hvo3,hvl3,hvp3⟩:=hR12.slices;unfold runD;simp only[hvT3,hve3,hvf3,hvm3,hvo3,hvl3,hvp3];have HV3:=Lib.hid (And.intro hvT3 (And.intro hve3 (And.intro hvf3 (And.intro hvm3 (And.intro hvo3 (And.intro hvl3 hvp3))))));clear hvT3 hve3 hvf3 hvm3 hvo3 hvl3 hvp3;have hD12:=hk12.blk hD11 (fun hh=>hh ((HWH2.out _ (by omega)).trans (HFR.out _ (Nat.le_refl _))));obtain⟨z0,z1,z2,z3,z4,z5,z6,z7,z8,z9⟩:=Kit.cells10 hD12;have zf:=fun i=>Blk.frozen hD12 i)
   clear zf u0 u1 u2 u3 z0 k0 z1 k1 z2 k2 z3 k3 z4 k4 z5 k5 z6 k6 z7 k7 z8 k8 z9 k9
   refine(show Code.wp _ _ _ _ (RunW.putL w12 w.heap.size 0 [.bool false,.int .i64 nc,.slice aT3 V3.tcs.length cT3,.slice ae3 r3.events.length ce3,.slice af3 r3.rf.length cf3,.slice am3 r3.rmw.length cm3,.slice ao3 V3.vo.length co3,.slice al3 r3.log.length cl3,.slice ap3 r3.picks.length cp3,.int .i64 r3.used])from RunW.putL_go hD12 rfl fun w13 hD13 hk13=>?_)
   have hE13:=hk13.blk (hk12.blk hE11 (fun hh=>hh ((HWH2.out _ (by omega)).trans (HFR.out _ (by omega))))) (by omega)
   have hR13:=hR12.other hD12 (fun q=>by cases q <;> decide) (by decide) hlow hk13
   have hs12:=hk12.size
   have hs13:=hk13.size
   have HWH3:Hid (∀k,k<w2.heap.size→who3 k=who k):=Lib.hid fun k hk=>(hwh3 k (by omega)).trans (HWH2.out k hk)
   have hK13:KeptS (fun k=>who k≠none) w w13:=⟨hk13.1.trans (hk12.1.trans hk11.1),hk13.2.1.trans (hk12.2.1.trans hk11.2.1),hk13.2.2.1.trans (hk12.2.2.1.trans hk11.2.2.1),by have:=hk11.size;omega,fun k hk hn=>by
    rw[hk13.2.2.2.2 k (by omega) (by omega),hk12.2.2.2.2 k (by omega) (by show ¬(who2 k≠none);rw[HWH2.out k (by omega)];exact hn)]
    exact hk11.2.2.2.2 k hk hn⟩
   have hl13:w2.heap.size≤w13.heap.size:=by omega
   clear hD11 hE11 hR11 hk11 hD12 hR12 hwh3 hk12 hk13 hU11
   have c5:w13.cell? ⟨w.heap.size,5,none⟩=some (.slice am3 r3.rmw.length cm3):=Blk.cell hD13 5
   have hba:Below w13.heap.size w13 (w13.alloc (.cells #[.int .i64 r.events.length,.int .i64 ((r.events.length:Int)+1)] 51)):=Kit.bl1
   have hNa:Blk (w13.alloc (.cells #[.int .i64 r.events.length,.int .i64 ((r.events.length:Int)+1)] 51)) w13.heap.size 51 (List.toArray (RunW.pairC (r.events.length,r.events.length+1))):=Blk.new _ _ _
   have hRa:=hR13.below hba
   have hoa:=hRa.own .rmw
   simp only[dT,dS,DV.val,dN,dX]at hoa
   rw[HV3.out.2.2.2.1]at hoa
   have HOA:=Lib.hid hoa
   have hbs:w0.heap.size≤(w13.alloc (.cells #[.int .i64 r.events.length,.int .i64 ((r.events.length:Int)+1)] 51)).heap.size:=hRa.start.size
   have HRa:=Lib.hid hRa
   have HDa:=Lib.hid (hD13.below' hba)
   have HDN:=Lib.hid (OwnR.own_type HOA.out HDa.out (by decide))
   have hrm3:r3.rmw.length≤300:=by rw[HR3.out,HR2.out,HR1.out];exact HF.out.rmw
   clear hoa hRa
   go_upto_region 23 with (at_builtin;refine wpList_append_lies _ (by rfl) _ _ _ (by rfl) w0.heap.size 51 i0 _ 2 16 Tryz.underlying28 hi0 hz0 hz1 hz2 rfl (by omega) _ r3.rmw.length _ (by rfl) HOA.out ⟨w13.heap.size,0,none⟩ 1 1 (RunW.pairC (r.events.length,r.events.length+1)) (by rfl) rfl (RunW.news_one hNa) (RunW.pairC_one _) (by omega) (by omega) (by omega) hbs _ rfl ?_;intro gm capm w14 hownm hgrowm hatm hltm;have c5:w14.cell? ⟨w.heap.size,5,none⟩=some (.slice am3 r3.rmw.length cm3):=Blk.cell (HDa.out.grown hgrowm HDN.out) 5;have cf5:=Blk.frozen (HDa.out.grown hgrowm HDN.out) 5)
   have hD14:=HDa.out.grown hgrowm HDN.out
   have hE14:=(hE13.below' hba).grown hgrowm (OwnR.own_type HOA.out (hE13.below' hba) (by decide))
   obtain⟨who4,hR14,hwho4⟩:=HRa.out.app_rmw (r.events.length,r.events.length+1) hownm (by rw[HV3.out.2.2.2.1];exact hgrowm) (by rw[HV3.out.2.2.2.1];exact hatm.imp id (fun e=>by rw[e];exact Nat.le_refl _))
   have hk14:KeptS (fun k=>who k≠none) w w14:=by
    have h1:=hK13.trans (KeptS.of_below (S:=fun k=>who k≠none) hba)
    refine⟨hgrowm.os.trans h1.1,hgrowm.tape.trans h1.2.1,hgrowm.output.trans h1.2.2.1,Nat.le_trans h1.size hgrowm.size,fun k hk hn=>(hgrowm.block k (Nat.lt_of_lt_of_le hk h1.size) (fun e=>hn ?_)).trans (h1.2.2.2.2 k hk hn)⟩
    show who k≠none
    rw[←HWH3.out k (by omega),hR13.mine .rmw k (by simp only[DV.val];rw[HV3.out.2.2.2.1];exact e.symm)]
    exact fun h=>by cases h
   obtain⟨w15,hw15⟩:∃yy:World,yy=w14.setCell ⟨w.heap.size,5,none⟩ (.slice (some ⟨gm,0,none⟩) (r3.rmw.length+1) capm):=⟨_,rfl⟩
   rw[←hw15]
   have hk145:KeptS (fun k=>k=w.heap.size) w14 w15:=by rw[hw15];exact(KeptS.refl (fun k=>k=w.heap.size) w14).set rfl _ _
   have hD15:Blk w15 w.heap.size 47 #[.bool false,.int .i64 nc,.slice aT3 V3.tcs.length cT3,.slice ae3 r3.events.length ce3,.slice af3 r3.rf.length cf3,.slice (some ⟨gm,0,none⟩) (r3.rmw.length+1) capm,.slice ao3 V3.vo.length co3,.slice al3 r3.log.length cl3,.slice ap3 r3.picks.length cp3,.int .i64 r3.used]:=by rw[hw15];exact hD14.set 5 _
   have hE15:=hk145.blk hE14 (by omega)
   have hR15:=hR14.other hD14 (fun q=>by cases q <;> decide) (by decide) hlow hk145
   have hk15:KeptS (fun k=>who k≠none) w w15:=⟨hk145.1.trans hk14.1,hk145.2.1.trans hk14.2.1,hk145.2.2.1.trans hk14.2.2.1,Nat.le_trans hk14.size hk145.size,fun k hk hn=>(hk145.2.2.2.2 k (Nat.lt_of_lt_of_le hk hk14.size) (by omega)).trans (hk14.2.2.2.2 k hk hn)⟩
   have HWH4:Hid (∀k,k<w2.heap.size→who4 k=who k):=Lib.hid fun k hk=>(hwho4 k (by have:=hba.size;omega)).trans (HWH3.out k hk)
   have h215:w2.heap.size≤w15.heap.size:=by have:=hba.size;have:=hgrowm.size;have:=hk145.size;omega
   clear hw15 hk145 hk14 hR14 hD14 hE14 hownm hgrowm hatm HOA HRa HDa HDN hNa hba hbs hwho4 hD13 hE13 hR13 hK13 c5 cf5 hltm
   obtain⟨j0,hj0,hjz0,hjz1,hjz2⟩:=info_parts RunW.info_int
   have c7:w15.cell? ⟨w.heap.size,7,none⟩=some (.slice al3 r3.log.length cl3):=Blk.cell hD15 7
   have hba:Below w15.heap.size w15 (w15.alloc (.cells #[.int .i64 (t:Int)] 3)):=Kit.bl1
   have hNa:Blk (w15.alloc (.cells #[.int .i64 (t:Int)] 3)) w15.heap.size 3 (List.toArray [RunW.i64V t]):=Blk.new _ _ _
   have hRa:=hR15.below hba
   have hoa:=hRa.own .log
   simp only[dT,dS,DV.val,dN,dX]at hoa
   rw[HV3.out.2.2.2.2.2.1]at hoa
   have HOA:=Lib.hid hoa
   have hbs:w0.heap.size≤(w15.alloc (.cells #[.int .i64 (t:Int)] 3)).heap.size:=hRa.start.size
   have HRa:=Lib.hid hRa
   have HDa:=Lib.hid (hD15.below' hba)
   have HDN:=Lib.hid (OwnR.own_type HOA.out HDa.out (by decide))
   have hlg3:r3.log.length≤8388608:=by rw[HR3.out,HR2.out,HR1.out];exact HF.out.log
   clear hoa hRa
   go_upto_region 24 with (at_builtin;refine wpList_append_lies _ (by rfl) _ _ _ (by rfl) w0.heap.size 3 j0 _ 1 8 Tryz.underlying25 hj0 hjz0 hjz1 hjz2 rfl (by omega) _ r3.log.length _ (by rfl) HOA.out ⟨w15.heap.size,0,none⟩ 1 1 [RunW.i64V t] (by rfl) rfl (RunW.news_one hNa) (RunW.one_one rfl) (by omega) (by omega) (by omega) hbs _ rfl ?_;intro gl capl w16 hownl hgrowl hatl hltl;have c7:w16.cell? ⟨w.heap.size,7,none⟩=some (.slice al3 r3.log.length cl3):=Blk.cell (HDa.out.grown hgrowl HDN.out) 7;have cf7:=Blk.frozen (HDa.out.grown hgrowl HDN.out) 7)
   have hD16:=HDa.out.grown hgrowl HDN.out
   have hE16:=(hE15.below' hba).grown hgrowl (OwnR.own_type HOA.out (hE15.below' hba) (by decide))
   obtain⟨who5,hR16,hwho5⟩:=HRa.out.app_log t hownl (by rw[show DV.log _=V3.log from rfl,HV3.out.2.2.2.2.2.1];exact hgrowl) (by rw[show DV.log _=V3.log from rfl,HV3.out.2.2.2.2.2.1];exact hatl.imp id (fun e=>by rw[e];exact Nat.le_refl _))
   have hk16:KeptS (fun k=>who k≠none) w w16:=by
    have h1:=hk15.trans (KeptS.of_below (S:=fun k=>who k≠none) hba)
    refine⟨hgrowl.os.trans h1.1,hgrowl.tape.trans h1.2.1,hgrowl.output.trans h1.2.2.1,Nat.le_trans h1.size hgrowl.size,fun k hk hn=>(hgrowl.block k (Nat.lt_of_lt_of_le hk h1.size) (fun e=>hn ?_)).trans (h1.2.2.2.2 k hk hn)⟩
    show who k≠none
    rw[←HWH4.out k (by omega),hR15.mine .log k (by simp only[DV.val];rw[HV3.out.2.2.2.2.2.1];exact e.symm)]
    exact fun h=>by cases h
   obtain⟨w17,hw17⟩:∃yy:World,yy=w16.setCell ⟨w.heap.size,7,none⟩ (.slice (some ⟨gl,0,none⟩) (r3.log.length+1) capl):=⟨_,rfl⟩
   rw[←hw17]
   have hk167:KeptS (fun k=>k=w.heap.size) w16 w17:=by rw[hw17];exact(KeptS.refl (fun k=>k=w.heap.size) w16).set rfl _ _
   have hD17:Blk w17 w.heap.size 47 #[.bool false,.int .i64 nc,.slice aT3 V3.tcs.length cT3,.slice ae3 r3.events.length ce3,.slice af3 r3.rf.length cf3,.slice (some ⟨gm,0,none⟩) (r3.rmw.length+1) capm,.slice ao3 V3.vo.length co3,.slice (some ⟨gl,0,none⟩) (r3.log.length+1) capl,.slice ap3 r3.picks.length cp3,.int .i64 r3.used]:=by rw[hw17];exact hD16.set 7 _
   have hE17:=hk167.blk hE16 (by omega)
   have hR17:=hR16.other hD16 (fun q=>by cases q <;> decide) (by decide) hlow hk167
   have hk17:KeptS (fun k=>who k≠none) w w17:=⟨hk167.1.trans hk16.1,hk167.2.1.trans hk16.2.1,hk167.2.2.1.trans hk16.2.2.1,Nat.le_trans hk16.size hk167.size,fun k hk hn=>(hk167.2.2.2.2 k (Nat.lt_of_lt_of_le hk hk16.size) (by omega)).trans (hk16.2.2.2.2 k hk hn)⟩
   have HWH5:Hid (∀k,k<w2.heap.size→who5 k=who k):=Lib.hid fun k hk=>(hwho5 k (by have:=hba.size;omega)).trans (HWH4.out k hk)
   have h217:w2.heap.size≤w17.heap.size:=by have:=hba.size;have:=hgrowl.size;have:=hk167.size;omega
   clear hw17 hk167 hk16 hR16 hD16 hE16 hownl hgrowl hatl HOA HRa HDa HDN hNa hba hbs hwho5 hD15 hE15 hR15 hk15 c7 cf7 hltl
   obtain⟨r5,hr5⟩:∃y:RR,y = { r3 with rmw:=r3.rmw++[(r.events.length,r.events.length+1)],log:=r3.log++[t] }:=⟨_,rfl⟩
   obtain⟨V5,hV5⟩:∃y:DV,y = { V3 with rmw:=.slice (some ⟨gm,0,none⟩) (r3.rmw.length+1) capm,log:=.slice (some ⟨gl,0,none⟩) (r3.log.length+1) capl }:=⟨_,rfl⟩
   have hR17:RunAt mz w0 nc w17 who5 V5 r5:=by rw[hr5,hV5];exact hR17
   have HR5:=Lib.hid hr5
   have HV5:=Lib.hid hV5
   have ht3:t<r3.ths.length:=by rw[HR3.out];simpa [RR.event]using ht2
   have ht5:t<r5.ths.length:=by rw[HR5.out];exact ht3
   have hth5:(r5.th t).s=(r2.th t).s:=by
    rw[HR5.out,HR3.out]
    show((r2.ths.set t ⟨(r2.th t).s,_⟩).getD t noT).s=_
    rw[Kit.gD,List.getElem?_set_self ht2]
    rfl
   have ha5:(r5.th t).s.acts[(r5.th t).s.at_]?=some a:=by rw[hth5];exact ha2
   have hrd5:runD nc V5 r5=#[.bool false,.int .i64 nc,.slice aT3 V3.tcs.length cT3,.slice ae3 r3.events.length ce3,.slice af3 r3.rf.length cf3,.slice (some ⟨gm,0,none⟩) (r3.rmw.length+1) capm,.slice ao3 V3.vo.length co3,.slice (some ⟨gl,0,none⟩) (r3.log.length+1) capl,.slice ap3 r3.picks.length cp3,.int .i64 r3.used]:=by
    obtain⟨b1,b2,b3,b4,b5,b6,b7⟩:=HV3.out
    unfold runD
    rw[HV5.out,HR5.out]
    simp only[b1,b2,b3,b5,b7]
   obtain⟨r6,hr6⟩:∃y:RR,y=r5.fed t v:=⟨_,rfl⟩
   have HF17:=fed_any hz ho hR17 t ht5 a ha5 hown v hvv
   rw[hrd5,←hr6]at HF17
   have HF17:=Lib.hid HF17
   have HR6:=Lib.hid hr6
   clear hr5 hV5 hr6 hth5
   obtain⟨k0,k1,k2,k3,k4,k5,k6,k7,k8,k9⟩:=Kit.cells10 hD17
   go_wp2_with (go_at_call 75;refine HF17.out.mono ?_;rintro e w18 ⟨V6,rfl,hDR⟩;obtain⟨⟨who6,hR18,hwh6⟩,hk18⟩:=hDR;obtain⟨aT6,cT6,ae6,ce6,af6,cf6,am6,cm6,ao6,co6,al6,cl6,ap6,cp6,hvT6,hve6,hvf6,hvm6,hvo6,hvl6,hvp6⟩:=hR18.slices;have hE18:=hk18.blk hE17 (fun hh=>hh ((HWH5.out _ (by omega)).trans (HFR.out _ (by omega))));unfold runD;simp only[hvT6,hve6,hvf6,hvm6,hvo6,hvl6,hvp6];have HV6:=Lib.hid (And.intro hvT6 (And.intro hve6 (And.intro hvf6 (And.intro hvm6 (And.intro hvo6 (And.intro hvl6 hvp6))))));clear hvT6 hve6 hvf6 hvm6 hvo6 hvl6 hvp6;obtain⟨z0,z1,z2,z3,z4,z5,z6,z7,z8,z9⟩:=Kit.cells10 hE18;have zf:=fun i=>Blk.frozen hE18 i)
   clear zf z0 k0 z1 k1 z2 k2 z3 k3 z4 k4 z5 k5 z6 k6 z7 k7 z8 k8 z9 k9
   refine(show bodyPost _ _ _ _ _ (RunW.putL w18 (w.heap.size+1+1) 0 [.bool false,.int .i64 nc,.slice aT6 V6.tcs.length cT6,.slice ae6 r6.events.length ce6,.slice af6 r6.rf.length cf6,.slice am6 r6.rmw.length cm6,.slice ao6 V6.vo.length co6,.slice al6 r6.log.length cl6,.slice ap6 r6.picks.length cp6,.int .i64 r6.used])from RunW.putL_go hE18 rfl fun wf hEf hkf=>?_)
   obtain⟨e0,e1,e2,e3,e4,e5,e6,e7,e8,e9⟩:=Kit.cells10 hEf
   refine bodyPost_ret (v:=.agg #[.bool false,.int .i64 nc,.slice aT6 V6.tcs.length cT6,.slice ae6 r6.events.length ce6,.slice af6 r6.rf.length cf6,.slice am6 r6.rmw.length cm6,.slice ao6 V6.vo.length co6,.slice al6 r6.log.length cl6,.slice ap6 r6.picks.length cp6,.int .i64 r6.used]) (by simp[results,Tryz.results74,go_sem,e0,e1,e2,e3,e4,e5,e6,e7,e8,e9]) rfl ?_
   have hRf:=hR18.other hE18 (fun q=>by cases q <;> decide) (by decide) (by omega) hkf
   obtain⟨b1,b2,b3,b4,b5,b6,b7⟩:=HV6.out
   have hlo:r.load t q=r6:=by rw[HLD.out,if_pos HEXF.out,HNX.out,if_neg HU0.out,←HR3.out,←HR5.out,HR6.out]
   rw[hlo]
   have hs18:=hk18.size
   refine⟨V6,by rw[b1,b2,b3,b4,b5,b6,b7],⟨who6,hRf,fun k hk=>(hwh6 k (by omega)).trans (HWH5.out k (by omega))⟩,?_⟩
   have h1:KeptS (fun k=>who k≠none) w w18:=⟨hk18.1.trans hk17.1,hk18.2.1.trans hk17.2.1,hk18.2.2.1.trans hk17.2.2.1,Nat.le_trans hk17.size hk18.size,fun k hk hn=>(hk18.2.2.2.2 k (by omega) (by
    show ¬(who5 k≠none)
    rw[HWH5.out k (by omega)]
    exact hn)).trans (hk17.2.2.2.2 k hk hn)⟩
   exact⟨hkf.1.trans h1.1,hkf.2.1.trans h1.2.1,hkf.2.2.1.trans h1.2.2.1,Nat.le_trans h1.size hkf.size,fun k hk hn=>(hkf.2.2.2.2 k (Nat.lt_of_lt_of_le hk h1.size) (by omega)).trans (h1.2.2.2.2 k hk hn)⟩
end Go.Proofs.YtmjilfamjlnigaaGreat.RefW
