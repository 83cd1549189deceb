/- WALKS: the document's own run, one step (chapter 19). -/
import Derived.Test.YtmjilfamjlnigaaGreatQ41
namespace Go.Proofs.YtmjilfamjlnigaaGreat.RefW
open Go Go.RowKit Kit SrcP SrcW Go.Proofs.YtmjilfamjlnigaaGreat.MchW
theorem keptAfter {S T:Nat→Prop} {w w1 w2:World} (h2:KeptS S w1 w2) (h1:KeptS T w w1) (hs:∀k,k<w.heap.size→S k→T k):KeptS T w w2 :=
 ⟨h2.1.trans h1.1,h2.2.1.trans h1.2.1,h2.2.2.1.trans h1.2.2.1,Nat.le_trans h1.size h2.size,fun k hk hn=>(h2.2.2.2.2 k (Nat.lt_of_lt_of_le hk h1.size) (fun e=>hn (hs k hk e))).trans (h1.2.2.2.2 k hk hn)⟩
theorem add0 (g j:Nat):(⟨g,0,none⟩:Addr).add j=⟨g,j,none⟩:=by unfold Addr.add;split <;> simp_all
theorem blk_types {w:World} {g:Nat} {t t':TypeId} {cs cs':Array Value} (h:Blk w g t cs) (h':Blk w g t' cs') (hne:t≠t'):False:=by
 unfold Blk at h h'
 rw[h]at h'
 injection h' with h'
 injection h' with _ h'
 exact hne h'
theorem make_u640 (n:Nat) (hn:n≤1048576) (w:World):(Instr.makeSlice 32 (.int .i64 0) (.int .i64 (n:Int))).run Tryz.prog w=.ok (.slice (some ⟨w.heap.size,0,none⟩) 0 n) (w.alloc (.cells (Array.replicate n (.int .u64 0)) 40)):=by
 obtain⟨i0,hi0,hz0,hz1,hz2⟩:=info_parts info_u64
 have hr:=run_make (P:=Tryz.prog) w 32 40 i0 (.int .u64 0) Tryz.underlying32 hi0 hz0 .i64 .i64 0 n (Int.le_refl _) (by omega) (by rw[hz2];omega) (by omega)
 rw[hr,hz1]
 have e:madeCells (Value.int .u64 0).cells ((n:Int).toNat*1)=Array.replicate n (.int .u64 0):=by
  apply Array.ext
  ·simp[madeCells]
  ·intro j h1 h2
   simp only[madeCells,Array.getElem_map,Array.getElem_range,Array.getElem_replicate]
   have:∀x:Nat,x % (Value.int .u64 0).cells.size=0:=fun x=>Nat.mod_one x
   rw[this]
   rfl
 rw[e]
 simp
structure FitS (nc:Nat) (r:RR) (t:Nat):Prop where
 used:r.used<1073741824
 ev:r.events.length≤300
 log:r.log.length≤8388000
 pks:r.picks.length≤8388000
 nums:(r.th t).nums.length≤300
 outs:(r.outs.getD t []).length≤1000000
 outn:t<r.outs.length
 act:noUse nc (r.ask t).2=false→(r.ask t).2.what≠6→∃a,((r.ask t).1.th t).s.acts[((r.ask t).1.th t).s.at_]?=some a∧ownB a=false
 ld:noUse nc (r.ask t).2=false→(r.ask t).2.what=1→Fit nc ((r.ask t).1.did t) t (r.ask t).2
set_option maxRecDepth 100000 in
set_option maxHeartbeats 0 in
theorem Step_any {mz:List Value} (hz:mz.length=95) (ho:mz.all (·.oneCell')=true) {w0:World} {nc:Nat} (hnc:nc≤4096) {w:World} {who:Nat→Option Dq} {V:DV} {r:RR} (h:RunAt mz w0 nc w who V r) (t:Nat) (ht:t<r.ths.length) (hf:FitS nc r t) :
  Calls Tryz.prog 49 #[.agg (runD nc V r),.int .i64 (t:Int)] w fun e w'=>∃V' b,e=.returned (.tuple #[.agg (runD nc V' (r.step nc t)),.bool b])∧DRet mz w0 nc w who w' V' (r.step nc t):=by
 have HF:=Lib.hid hf
 clear hf
 have hlt:t<V.tcs.length:=by have:=h.ths;rw[this]at ht;simpa using ht
 have HST:Hid (r.step nc t=if noUse nc (r.ask t).2 then(r.ask t).1 else((r.ask t).1.did t).doo t (r.ask t).2):=Lib.hid (by
  unfold RR.step
  rw[if_neg (by omega)]
  rfl)
 have HAsk:Hid (∀w2,Below w.heap.size w w2→Calls Tryz.prog 33 #[.agg (runD nc V r),.int .i64 (t:Int)] w2 fun e w'=>∃V',e=.returned (.tuple #[.agg (runD nc V' (r.ask t).1),.agg (wantC (r.ask t).2)])∧DRet mz w0 nc w2 who w' V' (r.ask t).1):=Lib.hid fun w2 hb=>Ask_any hz ho hnc (h.below hb) t ht
 obtain⟨p,hp⟩:∃y:RR,y=(r.ask t).1:=⟨_,rfl⟩
 obtain⟨q,hq⟩:∃y:Want,y=(r.ask t).2:=⟨_,rfl⟩
 rw[←hp,←hq]at HAsk HST
 have HP:=Lib.hid hp
 have HQ:=Lib.hid hq
 clear hp hq
 obtain⟨aT,cT,hvT,_⟩:=OwnR.own_slice (h.own .thr)
 obtain⟨ae,ce,hve,_⟩:=OwnR.own_slice (h.own .ev)
 obtain⟨af,cf,hvf,_⟩:=OwnR.own_slice (h.own .rf)
 obtain⟨am,cm,hvm,_⟩:=OwnR.own_slice (h.own .rmw)
 obtain⟨ao,co,hvo,_⟩:=OwnR.own_slice (h.own .outs)
 obtain⟨al,cl,hvl,_⟩:=OwnR.own_slice (h.own .log)
 obtain⟨ap,cp,hvp,_⟩:=OwnR.own_slice (h.own .pks)
 simp only[DV.val,dN]at hvT hve hvf hvm hvo hvl hvp
 have HV:=Lib.hid (And.intro hvT (And.intro hve (And.intro hvf (And.intro hvm (And.intro hvo (And.intro hvl hvp))))))
 unfold runD at HAsk
 unfold runD
 simp only[hvT,hve,hvf,hvm,hvo,hvl,hvp]at HAsk ⊢
 clear hvT hve hvf hvm hvo hvl hvp
 have hfree:∀g,w.heap.size≤g→who g=none:=fun g hg=>by
  cases hwk:who g with
  | none=>rfl
  | some x=>have:=(h.lt _ _ hwk).2;omega
 have HFR:=Lib.hid hfree
 clear hfree
 have a1:((t:Int)<0)=False:=eq_false (by omega)
 have a2:((V.tcs.length:Int)≤(t:Int))=False:=eq_false (by omega)
 go_enter Tryz.func49,Tryz.ntmps49
 go_upto_region 1 with fail
 obtain⟨w1,hw1⟩:∃yy:World,yy=(w.alloc (.cells #[.bool false,.int .i64 nc,.slice aT V.tcs.length cT,.slice ae r.events.length ce,.slice af r.rf.length cf,.slice am r.rmw.length cm,.slice ao V.vo.length co,.slice al r.log.length cl,.slice ap r.picks.length cp,.int .i64 r.used] 47)).alloc (.cells #[.bool false,.int .i64 0,.slice none 0 0,.slice none 0 0,.slice none 0 0,.slice none 0 0,.slice none 0 0,.slice none 0 0,.slice none 0 0,.int .i64 0] 47):=⟨_,rfl⟩
 have hb1:Below w.heap.size w w1:=by rw[hw1];exact Kit.bl2
 have hD1:Blk w1 w.heap.size 47 #[.bool false,.int .i64 nc,.slice aT V.tcs.length cT,.slice ae r.events.length ce,.slice af r.rf.length cf,.slice am r.rmw.length cm,.slice ao V.vo.length co,.slice al r.log.length cl,.slice ap r.picks.length cp,.int .i64 r.used]:=by rw[hw1];exact(Blk.new _ _ _).alloc _
 have hE1:Blk w1 (w.heap.size+1) 47 #[.bool false,.int .i64 0,.slice none 0 0,.slice none 0 0,.slice none 0 0,.slice none 0 0,.slice none 0 0,.slice none 0 0,.slice none 0 0,.int .i64 0]:=by rw[hw1];exact Blk.newAt (sizeA _ _) _ _
 rw[←hw1]
 clear hw1
 obtain⟨k0,k1,k2,k3,k4,k5,k6,k7,k8,k9⟩:=Kit.cells10 hD1
 have HA1:=Lib.hid (HAsk.out w1 hb1)
 have hlow:w0.heap.size≤w.heap.size:=h.start.size
 have hls:=hE1.lt
 go_upto_region 3 with fail
 go_upto_region 4 with (go_at_call 33;refine HA1.out.mono ?_;rintro e w2 ⟨V1,rfl,hDR⟩;obtain⟨⟨who1,hR2,hwh1⟩,hk12⟩:=hDR;obtain⟨aT1,cT1,ae1,ce1,af1,cf1,am1,cm1,ao1,co1,al1,cl1,ap1,cp1,hvT1,hve1,hvf1,hvm1,hvo1,hvl1,hvp1⟩:=hR2.slices;have hD2:=hk12.blk hD1 (fun hh=>hh (HFR.out _ (Nat.le_refl _)));unfold wantC;simp only[hvT1,hve1,hvf1,hvm1,hvo1,hvl1,hvp1];have HV1:=Lib.hid (And.intro hvT1 (And.intro hve1 (And.intro hvf1 (And.intro hvm1 (And.intro hvo1 (And.intro hvl1 hvp1))))));clear hvT1 hve1 hvf1 hvm1 hvo1 hvl1 hvp1;clear k0 k1 k2 k3 k4 k5 k6 k7 k8 k9;obtain⟨z0,z1,z2,z3,z4,z5,z6,z7,z8,z9⟩:=Kit.cells10 hD2;have zf:=fun i=>Blk.frozen hD2 i;have hD2':=hD2.alloc (.cells #[.int .i64 0,.int .i64 0,.int .i64 0,.int .u64 0,.bool false,.bool false] 100);have zl:=hD2.lt)
 clear zf z0 z1 z2 z3 z4 z5 z6 z7 z8 z9 zl hD2' HA1 HAsk
 have hsz:(RunW.putL w2 w.heap.size 0 [.bool false,.int .i64 nc,.slice aT1 V1.tcs.length cT1,.slice ae1 p.events.length ce1,.slice af1 p.rf.length cf1,.slice am1 p.rmw.length cm1,.slice ao1 V1.vo.length co1,.slice al1 p.log.length cl1,.slice ap1 p.picks.length cp1,.int .i64 p.used]).heap.size=w2.heap.size:=by simp[RunW.putL,World.setCell]
 refine(show Code.wp _ _ _ _ ((RunW.putL w2 w.heap.size 0 [.bool false,.int .i64 nc,.slice aT1 V1.tcs.length cT1,.slice ae1 p.events.length ce1,.slice af1 p.rf.length cf1,.slice am1 p.rmw.length cm1,.slice ao1 V1.vo.length co1,.slice al1 p.log.length cl1,.slice ap1 p.picks.length cp1,.int .i64 p.used]).alloc (.cells #[.int .i64 q.what,.int .i64 q.loc,.int .i64 q.mode,.int .u64 (q.val:Int),.bool q.ex,.bool q.one] 100))from ?_)
 have hD3:=RunW.putL_all hD2 [.bool false,.int .i64 nc,.slice aT1 V1.tcs.length cT1,.slice ae1 p.events.length ce1,.slice af1 p.rf.length cf1,.slice am1 p.rmw.length cm1,.slice ao1 V1.vo.length co1,.slice al1 p.log.length cl1,.slice ap1 p.picks.length cp1,.int .i64 p.used] rfl
 have hk23:=RunW.putL_kept (g:=w.heap.size) [.bool false,.int .i64 nc,.slice aT1 V1.tcs.length cT1,.slice ae1 p.events.length ce1,.slice af1 p.rf.length cf1,.slice am1 p.rmw.length cm1,.slice ao1 V1.vo.length co1,.slice al1 p.log.length cl1,.slice ap1 p.picks.length cp1,.int .i64 p.used] w2 0
 generalize RunW.putL w2 w.heap.size 0 [.bool false,.int .i64 nc,.slice aT1 V1.tcs.length cT1,.slice ae1 p.events.length ce1,.slice af1 p.rf.length cf1,.slice am1 p.rmw.length cm1,.slice ao1 V1.vo.length co1,.slice al1 p.log.length cl1,.slice ap1 p.picks.length cp1,.int .i64 p.used]=w3 at *
 have hE3:=hk23.blk (hk12.blk hE1 (fun hh=>hh (HFR.out _ (by omega)))) (by omega)
 have hR3:=hR2.other hD2 (fun q=>by cases q <;> decide) (by decide) hlow hk23
 have hs1:=hb1.size
 have hs12:=hk12.size
 have hk3:KeptS (fun k=>who k≠none) w w3:=by
  have h1:=(KeptS.of_below (S:=fun k=>who k≠none) hb1).trans hk12
  exact⟨hk23.1.trans h1.1,hk23.2.1.trans h1.2.1,hk23.2.2.1.trans h1.2.2.1,Nat.le_trans h1.size hk23.size,fun k hk hn=>(hk23.2.2.2.2 k (Nat.lt_of_lt_of_le hk h1.size) (by omega)).trans (h1.2.2.2.2 k hk hn)⟩
 have HWH:Hid (∀k,k<w1.heap.size→who1 k=who k):=Lib.hid hwh1
 obtain⟨w4,hw4⟩:∃yy:World,yy=w3.alloc (.cells #[.int .i64 q.what,.int .i64 q.loc,.int .i64 q.mode,.int .u64 (q.val:Int),.bool q.ex,.bool q.one] 100):=⟨_,rfl⟩
 have hb34:Below w3.heap.size w3 w4:=by rw[hw4];exact Kit.bl1
 have hQ4:Blk w4 w2.heap.size 100 #[.int .i64 q.what,.int .i64 q.loc,.int .i64 q.mode,.int .u64 (q.val:Int),.bool q.ex,.bool q.one]:=by rw[hw4];exact Blk.newAt hsz _ _
 rw[←hw4]
 clear hw4
 generalize w2.heap.size=gq at *
 have hD4:=hD3.below' hb34
 have hE4:=hE3.below' hb34
 have hR4:=hR3.below hb34
 have hk4:KeptS (fun k=>who k≠none) w w4:=hk3.trans (KeptS.of_below hb34)
 have hs4:=hb34.size
 clear hD1 hE1 hD2 hD3 hE3 hR2 hR3 hk12 hk23 hwh1 hk3 hb34
 have q0:w4.cell? ⟨gq,0,none⟩=some (.int .i64 q.what):=hQ4.cell 0
 have q1:w4.cell? ⟨gq,1,none⟩=some (.int .i64 q.loc):=hQ4.cell 1
 obtain⟨k0,k1,k2,k3,k4,k5,k6,k7,k8,k9⟩:=Kit.cells10 hD4
 cases hnu:noUse nc q with
 | true =>
  have hcs:q.what=5∨q.what=7∨((q.what=1∨q.what=2)∧(nc:Int)≤q.loc):=by simpa [noUse]using hnu
  have HNU:=Lib.hid hnu
  clear hnu
  have hne5:q.what=5→True:=fun _=>trivial
  obtain⟨y0,y1,y2,y3,y4,y5,y6,y7,y8,y9⟩:=Kit.cells10 hE4
  have zf:=fun i=>Blk.frozen hE4 i
  rcases hcs with h5 | h5 | ⟨h5 | h5,hl⟩
  all_goals
   rw[h5]at q0
   clear h5 hne5
   try (have hge:((nc:Int)≤q.loc)=True:=eq_true hl;clear hl)
   go_wp2_with fail
   refine(show bodyPost _ _ _ _ _ (RunW.putL w4 (w.heap.size+1) 0 [.bool false,.int .i64 nc,.slice aT1 V1.tcs.length cT1,.slice ae1 p.events.length ce1,.slice af1 p.rf.length cf1,.slice am1 p.rmw.length cm1,.slice ao1 V1.vo.length co1,.slice al1 p.log.length cl1,.slice ap1 p.picks.length cp1,.int .i64 p.used])from ?_)
   clear zf y0 k0 y1 k1 y2 k2 y3 k3 y4 k4 y5 k5 y6 k6 y7 k7 y8 k8 y9 k9 q0 q1
   have hEf:=RunW.putL_all hE4 [.bool false,.int .i64 nc,.slice aT1 V1.tcs.length cT1,.slice ae1 p.events.length ce1,.slice af1 p.rf.length cf1,.slice am1 p.rmw.length cm1,.slice ao1 V1.vo.length co1,.slice al1 p.log.length cl1,.slice ap1 p.picks.length cp1,.int .i64 p.used] rfl
   have hkf:=RunW.putL_kept (g:=w.heap.size+1) [.bool false,.int .i64 nc,.slice aT1 V1.tcs.length cT1,.slice ae1 p.events.length ce1,.slice af1 p.rf.length cf1,.slice am1 p.rmw.length cm1,.slice ao1 V1.vo.length co1,.slice al1 p.log.length cl1,.slice ap1 p.picks.length cp1,.int .i64 p.used] w4 0
   generalize RunW.putL w4 (w.heap.size+1) 0 [.bool false,.int .i64 nc,.slice aT1 V1.tcs.length cT1,.slice ae1 p.events.length ce1,.slice af1 p.rf.length cf1,.slice am1 p.rmw.length cm1,.slice ao1 V1.vo.length co1,.slice al1 p.log.length cl1,.slice ap1 p.picks.length cp1,.int .i64 p.used]=wf at *
   obtain⟨e0,e1,e2,e3,e4,e5,e6,e7,e8,e9⟩:=Kit.cells10 hEf
   refine bodyPost_ret (v:=.tuple #[.agg #[.bool false,.int .i64 nc,.slice aT1 V1.tcs.length cT1,.slice ae1 p.events.length ce1,.slice af1 p.rf.length cf1,.slice am1 p.rmw.length cm1,.slice ao1 V1.vo.length co1,.slice al1 p.log.length cl1,.slice ap1 p.picks.length cp1,.int .i64 p.used],.bool false]) (by simp[results,Tryz.results49,go_sem,e0,e1,e2,e3,e4,e5,e6,e7,e8,e9]) rfl ?_
   have hRf:=hR4.other hE4 (fun q=>by cases q <;> decide) (by decide) (by omega) hkf
   obtain⟨b1,b2,b3,b4,b5,b6,b7⟩:=HV1.out
   have hlo:r.step nc t=p:=by rw[HST.out,HNU.out];rfl
   rw[hlo]
   refine⟨V1,false,by rw[b1,b2,b3,b4,b5,b6,b7],⟨who1,hRf,fun k hk=>HWH.out k (by omega)⟩,?_⟩
   exact⟨hkf.1.trans hk4.1,hkf.2.1.trans hk4.2.1,hkf.2.2.1.trans hk4.2.2.1,Nat.le_trans hk4.size hkf.size,fun k hk hn=>(hkf.2.2.2.2 k (Nat.lt_of_lt_of_le hk hk4.size) (by omega)).trans (hk4.2.2.2.2 k hk hn)⟩
 | false =>
  have hcs:q.what≠5∧q.what≠7∧((q.what=1∨q.what=2)→¬((nc:Int)≤q.loc)):=by
   unfold noUse at hnu
   have h1:=of_decide_eq_false hnu
   exact⟨fun e=>h1 (.inl e),fun e=>h1 (.inr (.inl e)),fun e h2=>h1 (.inr (.inr ⟨e,h2⟩))⟩
  have HNU:=Lib.hid hnu
  clear hnu
  go_cut [48] (fun s48 wz=>s48=.bool false∧Below w4.heap.size w4 wz)
  case first =>
   by_cases h1:q.what=1
   ·have hge:((nc:Int)≤q.loc)=False:=eq_false (hcs.2.2 (.inl h1))
    rw[h1]at q0
    clear hcs h1
    go_wp2_with fail
    go_meet
    exact⟨rfl,Below.refl _ _⟩
   ·by_cases h2:q.what=2
    ·have hge:((nc:Int)≤q.loc)=False:=eq_false (hcs.2.2 (.inr h2))
     rw[h2]at q0
     clear hcs h1 h2
     go_wp2_with fail
     go_meet
     exact⟨rfl,Below.refl _ _⟩
    ·have f5:(q.what == 5)=false:=by simpa using hcs.1
     have f7:(q.what == 7)=false:=by simpa using hcs.2.1
     have f1:(q.what == 1)=false:=by simpa using h1
     have f2:(q.what == 2)=false:=by simpa using h2
     clear hcs h1 h2
     go_wp2_with fail
     go_meet
     exact⟨rfl,Below.refl _ _⟩
  case rest =>
   obtain⟨rfl,hbc⟩:=hcut
   have hD5:=hD4.below' hbc
   have hE5:=hE4.below' hbc
   have hQ5:=hQ4.below' hbc
   have hR5:=hR4.below hbc
   have hk5:KeptS (fun k=>who k≠none) w wc:=hk4.trans (KeptS.of_below hbc)
   have hs5:=hbc.size
   clear hD4 hE4 hQ4 hR4 hk4 q0 q1 hbc k0 k1 k2 k3 k4 k5 k6 k7 k8 k9
   have k9:wc.cell? ⟨w.heap.size,9,none⟩=some (.int .i64 p.used):=Blk.cell hD5 9
   have hpu:p.used<1073741824:=by rw[HP.out];exact HF.out.used
   have kf:=Blk.frozen hD5 9
   go_upto_region 7 with fail
   clear k9 kf
   obtain⟨w6,hw6⟩:∃yy:World,yy=wc.setCell ⟨w.heap.size,9,none⟩ (.int .i64 (p.used+1:Nat)):=⟨_,rfl⟩
   refine(show Code.wp _ _ _ _ (wc.setCell ⟨w.heap.size,9,none⟩ (.int .i64 (p.used+1:Nat)))from ?_)
   rw[←hw6]
   have hkst:KeptS (fun k=>k=w.heap.size) wc w6:=by rw[hw6];exact(KeptS.refl (fun k=>k=w.heap.size) wc).set rfl _ _
   have hD6:Blk w6 w.heap.size 47 #[.bool false,.int .i64 nc,.slice aT1 V1.tcs.length cT1,.slice ae1 p.events.length ce1,.slice af1 p.rf.length cf1,.slice am1 p.rmw.length cm1,.slice ao1 V1.vo.length co1,.slice al1 p.log.length cl1,.slice ap1 p.picks.length cp1,.int .i64 (p.used+1:Nat)]:=by rw[hw6];exact hD5.set 9 _
   have hgq:gq≠w.heap.size:=by omega
   have hE6:=hkst.blk hE5 (by omega)
   have hQ6:=hkst.blk hQ5 hgq
   have hR6:=(hR5.other hD5 (fun q=>by cases q <;> decide) (by decide) hlow hkst).used (p.used+1)
   have hk6:KeptS (fun k=>who k≠none) w w6:=⟨hkst.1.trans hk5.1,hkst.2.1.trans hk5.2.1,hkst.2.2.1.trans hk5.2.2.1,Nat.le_trans hk5.size hkst.size,fun k hk hn=>(hkst.2.2.2.2 k (Nat.lt_of_lt_of_le hk hk5.size) (by omega)).trans (hk5.2.2.2.2 k hk hn)⟩
   have hs6:=hkst.size
   clear hw6 hkst hD5 hE5 hQ5 hR5 hk5
   obtain⟨j0,hj0,hjz0,hjz1,hjz2⟩:=info_parts RunW.info_int
   have hml:(16*1048576:Nat)≤maxLen:=by decide
   have hplog:p.log.length≤8388000:=by rw[HP.out];exact HF.out.log
   have hppk:p.picks.length≤8388000:=by rw[HP.out];exact HF.out.pks
   have c7:w6.cell? ⟨w.heap.size,7,none⟩=some (.slice al1 p.log.length cl1):=Blk.cell hD6 7
   have hba:Below w6.heap.size w6 (w6.alloc (.cells #[.int .i64 (t:Int)] 3)):=Kit.bl1
   have hNa:Blk (w6.alloc (.cells #[.int .i64 (t:Int)] 3)) w6.heap.size 3 (List.toArray [RunW.i64V t]):=Blk.new _ _ _
   have hRa:=hR6.below hba
   have hoa:=hRa.own .log
   simp only[dT,dS,DV.val,dN,dX]at hoa
   rw[HV1.out.2.2.2.2.2.1]at hoa
   have HOA:=Lib.hid hoa
   have hbs:w0.heap.size≤(w6.alloc (.cells #[.int .i64 (t:Int)] 3)).heap.size:=hRa.start.size
   have HRa:=Lib.hid hRa
   have HDa:=Lib.hid (hD6.below' hba)
   have HDN:=Lib.hid (OwnR.own_type HOA.out HDa.out (by decide))
   clear hoa hRa
   go_upto_region 8 with (at_builtin;refine wpList_append_lies _ (by rfl) _ _ _ (by rfl) w0.heap.size 3 j0 _ 1 8 Tryz.underlying25 hj0 hjz0 hjz1 hjz2 rfl (by omega) _ p.log.length _ (by rfl) HOA.out ⟨w6.heap.size,0,none⟩ 1 1 [RunW.i64V t] (by rfl) rfl (RunW.news_one hNa) (RunW.one_one rfl) (by omega) (by omega) (by omega) hbs _ rfl ?_;intro gl capl w7 hownl hgrowl hatl hltl;have c7:w7.cell? ⟨w.heap.size,7,none⟩=some (.slice al1 p.log.length cl1):=Blk.cell (HDa.out.grown hgrowl HDN.out) 7;have cf7:=Blk.frozen (HDa.out.grown hgrowl HDN.out) 7)
   have hDg:=HDa.out.grown hgrowl HDN.out
   have hEg:=(hE6.below' hba).grown hgrowl (OwnR.own_type HOA.out (hE6.below' hba) (by decide))
   have hQg:=(hQ6.below' hba).grown hgrowl (OwnR.own_type HOA.out (hQ6.below' hba) (by decide))
   obtain⟨who2,hRg,hwhog⟩:=HRa.out.app_log t hownl (by rw[show DV.log _=V1.log from rfl,HV1.out.2.2.2.2.2.1];exact hgrowl) (by rw[show DV.log _=V1.log from rfl,HV1.out.2.2.2.2.2.1];exact hatl.imp id (fun e=>by rw[e];exact Nat.le_refl _))
   have hkg:KeptS (fun k=>who k≠none) w w7:=by
    have h1:=hk6.trans (KeptS.of_below (S:=fun k=>who k≠none) hba)
    refine⟨hgrowl.os.trans h1.1,hgrowl.tape.trans h1.2.1,hgrowl.output.trans h1.2.2.1,Nat.le_trans h1.size hgrowl.size,fun k hk hn=>(hgrowl.block k (Nat.lt_of_lt_of_le hk h1.size) (fun e=>hn ?_)).trans (h1.2.2.2.2 k hk hn)⟩
    show who k≠none
    rw[←HWH.out k (by omega),hR6.mine .log k (by simp only[DV.val];rw[HV1.out.2.2.2.2.2.1];exact e.symm)]
    exact fun h=>by cases h
   obtain⟨w8,hwset⟩:∃yy:World,yy=w7.setCell ⟨w.heap.size,7,none⟩ (.slice (some ⟨gl,0,none⟩) (p.log.length+1) capl):=⟨_,rfl⟩
   rw[←hwset]
   have hkst:KeptS (fun k=>k=w.heap.size) w7 w8:=by rw[hwset];exact(KeptS.refl (fun k=>k=w.heap.size) w7).set rfl _ _
   have hD8:Blk w8 w.heap.size 47 #[.bool false,.int .i64 nc,.slice aT1 V1.tcs.length cT1,.slice ae1 p.events.length ce1,.slice af1 p.rf.length cf1,.slice am1 p.rmw.length cm1,.slice ao1 V1.vo.length co1,.slice (some ⟨gl,0,none⟩) (p.log.length+1) capl,.slice ap1 p.picks.length cp1,.int .i64 (p.used+1:Nat)]:=by rw[hwset];exact hDg.set 7 _
   have hE8:=hkst.blk hEg (by omega)
   have hQ8:=hkst.blk hQg (by omega)
   have hR8:=hRg.other hDg (fun q=>by cases q <;> decide) (by decide) hlow hkst
   have hk8:KeptS (fun k=>who k≠none) w w8:=⟨hkst.1.trans hkg.1,hkst.2.1.trans hkg.2.1,hkst.2.2.1.trans hkg.2.2.1,Nat.le_trans hkg.size hkst.size,fun k hk hn=>(hkst.2.2.2.2 k (Nat.lt_of_lt_of_le hk hkg.size) (by omega)).trans (hkg.2.2.2.2 k hk hn)⟩
   have HWH2:Hid (∀k,k<w1.heap.size→who2 k=who k):=Lib.hid fun k hk=>(hwhog k (by have:=hba.size;omega)).trans (HWH.out k hk)
   have hsz7:w6.heap.size≤w8.heap.size:=by have:=hba.size;have:=hgrowl.size;have:=hkst.size;omega
   clear hwset hkst hkg hRg hDg hEg hQg hownl hgrowl hatl HOA HRa HDa HDN hNa hba hbs hwhog hD6 hE6 hQ6 hR6 hk6 c7 cf7 hltl
   have c8:w8.cell? ⟨w.heap.size,8,none⟩=some (.slice ap1 p.picks.length cp1):=Blk.cell hD8 8
   have hba:Below w8.heap.size w8 (w8.alloc (.cells #[.int .i64 (t:Int)] 3)):=Kit.bl1
   have hNa:Blk (w8.alloc (.cells #[.int .i64 (t:Int)] 3)) w8.heap.size 3 (List.toArray [RunW.i64V t]):=Blk.new _ _ _
   have hRa:=hR8.below hba
   have hoa:=hRa.own .pks
   simp only[dT,dS,DV.val,dN,dX]at hoa
   rw[HV1.out.2.2.2.2.2.2]at hoa
   have HOA:=Lib.hid hoa
   have hbs:w0.heap.size≤(w8.alloc (.cells #[.int .i64 (t:Int)] 3)).heap.size:=hRa.start.size
   have HRa:=Lib.hid hRa
   have HDa:=Lib.hid (hD8.below' hba)
   have HDN:=Lib.hid (OwnR.own_type HOA.out HDa.out (by decide))
   clear hoa hRa
   go_upto_region 9 with (at_builtin;refine wpList_append_lies _ (by rfl) _ _ _ (by rfl) w0.heap.size 3 j0 _ 1 8 Tryz.underlying25 hj0 hjz0 hjz1 hjz2 rfl (by omega) _ p.picks.length _ (by rfl) HOA.out ⟨w8.heap.size,0,none⟩ 1 1 [RunW.i64V t] (by rfl) rfl (RunW.news_one hNa) (RunW.one_one rfl) (by omega) (by omega) (by omega) hbs _ rfl ?_;intro gk capk w9 hownl hgrowl hatl hltl;have c8:w9.cell? ⟨w.heap.size,8,none⟩=some (.slice ap1 p.picks.length cp1):=Blk.cell (HDa.out.grown hgrowl HDN.out) 8;have cf8:=Blk.frozen (HDa.out.grown hgrowl HDN.out) 8)
   have hDg:=HDa.out.grown hgrowl HDN.out
   have hEg:=(hE8.below' hba).grown hgrowl (OwnR.own_type HOA.out (hE8.below' hba) (by decide))
   have hQg:=(hQ8.below' hba).grown hgrowl (OwnR.own_type HOA.out (hQ8.below' hba) (by decide))
   obtain⟨who3,hRg,hwhog⟩:=HRa.out.app_pks t hownl (by rw[show DV.pks _=V1.pks from rfl,HV1.out.2.2.2.2.2.2];exact hgrowl) (by rw[show DV.pks _=V1.pks from rfl,HV1.out.2.2.2.2.2.2];exact hatl.imp id (fun e=>by rw[e];exact Nat.le_refl _))
   have hkg:KeptS (fun k=>who k≠none) w w9:=by
    have h1:=hk8.trans (KeptS.of_below (S:=fun k=>who k≠none) hba)
    refine⟨hgrowl.os.trans h1.1,hgrowl.tape.trans h1.2.1,hgrowl.output.trans h1.2.2.1,Nat.le_trans h1.size hgrowl.size,fun k hk hn=>(hgrowl.block k (Nat.lt_of_lt_of_le hk h1.size) (fun e=>hn ?_)).trans (h1.2.2.2.2 k hk hn)⟩
    show who k≠none
    rw[←HWH2.out k (by omega),hR8.mine .pks k (by simp only[DV.val];rw[HV1.out.2.2.2.2.2.2];exact e.symm)]
    exact fun h=>by cases h
   obtain⟨w10,hwset⟩:∃yy:World,yy=w9.setCell ⟨w.heap.size,8,none⟩ (.slice (some ⟨gk,0,none⟩) (p.picks.length+1) capk):=⟨_,rfl⟩
   rw[←hwset]
   have hkst:KeptS (fun k=>k=w.heap.size) w9 w10:=by rw[hwset];exact(KeptS.refl (fun k=>k=w.heap.size) w9).set rfl _ _
   have hD10:Blk w10 w.heap.size 47 #[.bool false,.int .i64 nc,.slice aT1 V1.tcs.length cT1,.slice ae1 p.events.length ce1,.slice af1 p.rf.length cf1,.slice am1 p.rmw.length cm1,.slice ao1 V1.vo.length co1,.slice (some ⟨gl,0,none⟩) (p.log.length+1) capl,.slice (some ⟨gk,0,none⟩) (p.picks.length+1) capk,.int .i64 (p.used+1:Nat)]:=by rw[hwset];exact hDg.set 8 _
   have hE10:=hkst.blk hEg (by omega)
   have hQ10:=hkst.blk hQg (by omega)
   have hR10:=hRg.other hDg (fun q=>by cases q <;> decide) (by decide) hlow hkst
   have hk10:KeptS (fun k=>who k≠none) w w10:=⟨hkst.1.trans hkg.1,hkst.2.1.trans hkg.2.1,hkst.2.2.1.trans hkg.2.2.1,Nat.le_trans hkg.size hkst.size,fun k hk hn=>(hkst.2.2.2.2 k (Nat.lt_of_lt_of_le hk hkg.size) (by omega)).trans (hkg.2.2.2.2 k hk hn)⟩
   have HWH3:Hid (∀k,k<w1.heap.size→who3 k=who k):=Lib.hid fun k hk=>(hwhog k (by have:=hba.size;omega)).trans (HWH2.out k hk)
   have hsz8:w8.heap.size≤w10.heap.size:=by have:=hba.size;have:=hgrowl.size;have:=hkst.size;omega
   clear hwset hkst hkg hRg hDg hEg hQg hownl hgrowl hatl HOA HRa HDa HDN hNa hba hbs hwhog hD8 hE8 hQ8 hR8 hk8 c8 cf8 hltl
   clear hlow
   obtain⟨r1,hr1⟩:∃y:RR,y=p.did t:=⟨_,rfl⟩
   obtain⟨V2,hV2⟩:∃y:DV,y = { V1 with log:=.slice (some ⟨gl,0,none⟩) (p.log.length+1) capl,pks:=.slice (some ⟨gk,0,none⟩) (p.picks.length+1) capk }:=⟨_,rfl⟩
   have hR11:RunAt mz w0 nc w10 who3 V2 r1:=by rw[hr1,hV2];exact hR10
   have HR1:=Lib.hid hr1
   have HV2:=Lib.hid hV2
   clear hR10 hr1 hV2
   have ht1:t<r1.ths.length:=by rw[HR1.out,HP.out];simpa [RR.did,RR.ask,RR.setS]using ht
   have hrd:runD nc V2 r1=#[.bool false,.int .i64 nc,.slice aT1 V1.tcs.length cT1,.slice ae1 p.events.length ce1,.slice af1 p.rf.length cf1,.slice am1 p.rmw.length cm1,.slice ao1 V1.vo.length co1,.slice (some ⟨gl,0,none⟩) (p.log.length+1) capl,.slice (some ⟨gk,0,none⟩) (p.picks.length+1) capk,.int .i64 (p.used+1:Nat)]:=by
    obtain⟨b1,b2,b3,b4,b5,b6,b7⟩:=HV1.out
    unfold runD
    rw[HV2.out,HR1.out]
    simp only[b1,b2,b3,b4,b5,RR.did]
   have HRD:=Lib.hid hrd
   clear hrd
   have hths:(r1.th t).s=(p.th t).s∧(r1.th t).nums=(r.th t).nums:=by
    rw[HR1.out]
    refine⟨rfl,?_⟩
    show(p.th t).nums=_
    rw[HP.out]
    show((r.ths.set t ⟨_,(r.th t).nums⟩).getD t noT).nums=_
    rw[Kit.gD,List.getElem?_set_self ht]
    rfl
   have HTH:=Lib.hid hths
   clear hths
   have HACT:Hid (q.what≠6→∃a,(r1.th t).s.acts[(r1.th t).s.at_]?=some a∧ownB a=false):=Lib.hid (fun h6=>by
    rw[HTH.out.1,HP.out]
    exact HF.out.act (by rw[←HQ.out];exact HNU.out) (by rw[←HQ.out];exact h6))
   have HDO:Hid (r.step nc t=r1.doo t q):=Lib.hid (by rw[HST.out,HNU.out,HR1.out];rfl)
   have hk10:KeptS (fun k=>who k≠none) w w10:=hk10
   have HWH3:Hid (∀k,k<w1.heap.size→who3 k=who k):=HWH3
   obtain⟨k0,k1,k2,k3,k4,k5,k6,k7,k8,k9⟩:=Kit.cells10 hD10
   obtain⟨q0,q1,q2,q3,q4,q5⟩:=Kit.cells6 hQ10
   by_cases h1:q.what=1
   ·have hfit:Fit nc r1 t q:=by rw[HR1.out,HP.out,HQ.out];exact HF.out.ld (by rw[←HQ.out];exact HNU.out) (by rw[←HQ.out];exact h1)
    have HLD:=load_any hz ho hnc hR11 t ht1 q hfit
    rw[HRD.out]at HLD
    unfold wantC at HLD
    obtain⟨r6,hr6⟩:∃y:RR,y=r1.load t q:=⟨_,rfl⟩
    rw[←hr6]at HLD
    unfold runD at HLD
    have HLD:=Lib.hid HLD
    have HR6:=Lib.hid hr6
    have HH1:=Lib.hid h1
    rw[h1]at q0
    clear hr6 hfit h1
    rw[HH1.out]at HLD
    go_wp2_with (go_at_call 74;refine HLD.out.mono ?_;rintro e w18 ⟨V6,rfl,hDR⟩;obtain⟨⟨who6,hR18,hwh6⟩,hk18⟩:=hDR;obtain⟨aT6,cT6,ae6,ce6,af6,cf6,am6,cm6,ao6,co6,al6,cl6,ap6,cp6,hvT6,hve6,hvf6,hvm6,hvo6,hvl6,hvp6⟩:=hR18.slices;have hE18:=hk18.blk hE10 (fun hh=>hh ((HWH3.out _ (by omega)).trans (HFR.out _ (by omega))));simp only[hvT6,hve6,hvf6,hvm6,hvo6,hvl6,hvp6];have HV6:=Lib.hid (And.intro hvT6 (And.intro hve6 (And.intro hvf6 (And.intro hvm6 (And.intro hvo6 (And.intro hvl6 hvp6))))));clear hvT6 hve6 hvf6 hvm6 hvo6 hvl6 hvp6;obtain⟨y0,y1,y2,y3,y4,y5,y6,y7,y8,y9⟩:=Kit.cells10 hE18;have zf:=fun i=>Blk.frozen hE18 i)
    clear zf y0 y1 y2 y3 y4 y5 y6 y7 y8 y9 k0 k1 k2 k3 k4 k5 k6 k7 k8 k9 q0 q1 q2 q3 q4 q5
    refine(show bodyPost _ _ _ _ _ (RunW.putL w18 (w.heap.size+1) 0 [.bool false,.int .i64 nc,.slice aT6 V6.tcs.length cT6,.slice ae6 r6.events.length ce6,.slice af6 r6.rf.length cf6,.slice am6 r6.rmw.length cm6,.slice ao6 V6.vo.length co6,.slice al6 r6.log.length cl6,.slice ap6 r6.picks.length cp6,.int .i64 r6.used])from RunW.putL_go hE18 rfl fun wf hEf hkf=>?_)
    obtain⟨e0,e1,e2,e3,e4,e5,e6,e7,e8,e9⟩:=Kit.cells10 hEf
    refine bodyPost_ret (v:=.tuple #[.agg #[.bool false,.int .i64 nc,.slice aT6 V6.tcs.length cT6,.slice ae6 r6.events.length ce6,.slice af6 r6.rf.length cf6,.slice am6 r6.rmw.length cm6,.slice ao6 V6.vo.length co6,.slice al6 r6.log.length cl6,.slice ap6 r6.picks.length cp6,.int .i64 r6.used],.bool true]) (by simp[results,Tryz.results49,go_sem,e0,e1,e2,e3,e4,e5,e6,e7,e8,e9]) rfl ?_
    have hRf:=hR18.other hE18 (fun q=>by cases q <;> decide) (by decide) (by have:=h.start.size;omega) hkf
    obtain⟨b1,b2,b3,b4,b5,b6,b7⟩:=HV6.out
    have hlo:r.step nc t=r6:=by rw[HDO.out];unfold RR.doo;rw[if_pos HH1.out,HR6.out]
    rw[hlo]
    have hs18:=hk18.size
    refine⟨V6,.inr (by rw[b1,b2,b3,b4,b5,b6,b7]),⟨who6,hRf,fun k hk=>(hwh6 k (by omega)).trans (HWH3.out k (by omega))⟩,?_⟩
    have h1:KeptS (fun k=>who k≠none) w w18:=⟨hk18.1.trans hk10.1,hk18.2.1.trans hk10.2.1,hk18.2.2.1.trans hk10.2.2.1,Nat.le_trans hk10.size hk18.size,fun k hk hn=>(hk18.2.2.2.2 k (by have:=hk10.size;omega) (by
     show ¬(who3 k≠none)
     rw[HWH3.out k (by omega)]
     exact hn)).trans (hk10.2.2.2.2 k hk hn)⟩
    exact⟨hkf.1.trans h1.1,hkf.2.1.trans h1.2.1,hkf.2.2.1.trans h1.2.2.1,Nat.le_trans h1.size hkf.size,fun k hk hn=>(hkf.2.2.2.2 k (Nat.lt_of_lt_of_le hk h1.size) (by omega)).trans (h1.2.2.2.2 k hk hn)⟩
   ·by_cases h2:q.what=2
    ·have HH2:=Lib.hid h2
     have HN1:=Lib.hid h1
     rw[h2]at q0
     clear h1 h2
     have hev1:r1.events.length≤300:=by rw[HR1.out,HP.out];exact HF.out.ev
     have hnm1:(r1.th t).nums.length≤1000:=by rw[HTH.out.2];have:=HF.out.nums;omega
     obtain⟨r2,hr2⟩:∃y:RR,y=r1.event t 2 q.loc q.val q.mode:=⟨_,rfl⟩
     have HEv2:Hid (∀w2,Below w10.heap.size w10 w2→Calls Tryz.prog 76 #[.agg #[.bool false,.int .i64 nc,.slice aT1 V1.tcs.length cT1,.slice ae1 p.events.length ce1,.slice af1 p.rf.length cf1,.slice am1 p.rmw.length cm1,.slice ao1 V1.vo.length co1,.slice (some ⟨gl,0,none⟩) (p.log.length+1) capl,.slice (some ⟨gk,0,none⟩) (p.picks.length+1) capk,.int .i64 (p.used+1:Nat)],.int .i64 (t:Int),.int .i64 2,.int .i64 q.loc,.int .u64 (q.val:Int),.int .i64 q.mode] w2 fun e w'=>∃V',e=.returned (.agg (runD nc V' r2))∧DRet mz w0 nc w2 who3 w' V' r2):=Lib.hid fun w2 hb=>by
      have h1:=event_any hz ho (hR11.below hb) t ht1 (by omega) hnm1 2 q.loc q.val q.mode
      rw[HRD.out,←hr2]at h1
      exact h1
     have ht2:t<r2.ths.length:=by rw[hr2];simpa [RR.event]using ht1
     have hth2:(r2.th t).s=(r1.th t).s:=by
      rw[hr2]
      show((r1.ths.set t ⟨(r1.th t).s,_⟩).getD t noT).s=_
      rw[Kit.gD,List.getElem?_set_self ht1]
      rfl
     obtain⟨a,ha1,hown⟩:=HACT.out (by rw[HH2.out];decide)
     have ha2:(r2.th t).s.acts[(r2.th t).s.at_]?=some a:=by rw[hth2];exact ha1
     obtain⟨r6,hr6⟩:∃y:RR,y=r2.fed t 1:=⟨_,rfl⟩
     have HFd:Hid (∀(w12:World) (who4:Nat→Option Dq) (V3:DV),RunAt mz w0 nc w12 who4 V3 r2→Calls Tryz.prog 75 #[.agg (runD nc V3 r2),.int .i64 (t:Int),.int .u64 1] w12 fun e w'=>∃V',e=.returned (.agg (runD nc V' r6))∧DRet mz w0 nc w12 who4 w' V' r6):=Lib.hid fun w12 who4 V3 h3=>by
      have:=fed_any hz ho h3 t ht2 a ha2 hown 1 (by decide)
      rw[←hr6]at this
      exact this
     have HR2:=Lib.hid hr2
     have HR6:=Lib.hid hr6
     clear hr2 hr6 hth2 ha1 ha2 hev1 hnm1
     go_upto_region 13 with fail
     have g0:∀p':Cls (Below w10.heap.size w10),p'.w.cell? ⟨w.heap.size,0,none⟩=some (.bool false):=fun p'=>Blk.cell (hD10.below' p'.h) 0
     have hne':Nonempty (Cls (Below w10.heap.size w10)):=⟨⟨w10,Below.refl _ _⟩⟩
     have hbd:Below w10.heap.size w10 (w10.drewN 1):=Below_drewN _ 1
     clear k0 k1 k2 k3 k4 k5 k6 k7 k8 k9 q0 q1 q2 q3 q4 q5
     refine wp_region_float_go (fun w'=>∃p':Cls (Below w10.heap.size w10),w'=p'.w) 19 (by kernel_rfl) rfl ?_
     refine floatG_reads 3 [0,1,2,3,4,5,6,7,8,9,11,12,13,14,15,16] ⟨⟨_,hbd⟩,rfl⟩ rfl (by kernel_rfl) ?_
     simp only[pickL,List.map_cons,List.map_nil,List.getElem?_cons_succ,List.getElem?_cons_zero,Option.getD_some]
     repeat (go_big_quiet_step (fail))
     refine wpQuiet_nil ?_
     refine fG (i:=10) rfl ?_
     go_wp2_with fail
     refine Kit.oG hbd ?_
     refine fG (i:=17) rfl ?_
     go_wp2_with fail
     refine Kit.oG hbd ?_
     refine fG (i:=18) rfl ?_
     go_wp2_with fail
     refine Kit.oG hbd ?_
     refine(show tailG _ _ _ _ _ _ _ from⟨by kernel_rfl,?_⟩)
     simp only[List.drop_succ_cons,List.drop_nil]
     clear g0 hne'
     have hD10:=hD10.below' hbd
     have hE10:=hE10.below' hbd
     have hQ10:=hQ10.below' hbd
     have hR11:=hR11.below hbd
     have hk10:KeptS (fun k=>who k≠none) w (w10.drewN 1):=hk10.trans (KeptS.of_below hbd)
     have hszd:=hbd.size
     have HEv:=Lib.hid (HEv2.out _ hbd)
     clear HEv2 hbd
     generalize w10.drewN 1=w10' at *
     obtain⟨k0,k1,k2,k3,k4,k5,k6,k7,k8,k9⟩:=Kit.cells10 hD10
     have q0:w10'.cell? ⟨gq,0,none⟩=some (.int .i64 2):=(hQ10.cell 0).trans (congrArg (fun x=>some (Value.int .i64 x)) HH2.out)
     have q1:w10'.cell? ⟨gq,1,none⟩=some (.int .i64 q.loc):=hQ10.cell 1
     have q2:w10'.cell? ⟨gq,2,none⟩=some (.int .i64 q.mode):=hQ10.cell 2
     have q3:w10'.cell? ⟨gq,3,none⟩=some (.int .u64 (q.val:Int)):=hQ10.cell 3
     have q4:w10'.cell? ⟨gq,4,none⟩=some (.bool q.ex):=hQ10.cell 4
     have q5:w10'.cell? ⟨gq,5,none⟩=some (.bool q.one):=hQ10.cell 5
     go_wp2_with (first |(go_at_call 76;refine HEv.out.mono ?_;rintro e w12 ⟨V3,rfl,hDR⟩;obtain⟨⟨who4,hR12,hwh4⟩,hk12⟩:=hDR;have hE12:=hk12.blk hE10 (fun hh=>hh ((HWH3.out _ (by omega)).trans (HFR.out _ (by omega))));have hkW:=keptAfter hk12 hk10 (fun k hk e=>by rw[←HWH3.out k (by omega)];exact e);have hszW:=hk10.size;have hsz10:=hk12.size;have HWH4:Hid (∀k,k<w1.heap.size→who4 k=who k):=Lib.hid (fun k hk=>(hwh4 k (by omega)).trans (HWH3.out k hk))) |(go_at_call 75;refine(HFd.out _ _ _ hR12).mono ?_;rintro e w18 ⟨V6,rfl,hDR⟩;unfold runD;obtain⟨⟨who6,hR18,hwh6⟩,hk18⟩:=hDR;obtain⟨aT6,cT6,ae6,ce6,af6,cf6,am6,cm6,ao6,co6,al6,cl6,ap6,cp6,hvT6,hve6,hvf6,hvm6,hvo6,hvl6,hvp6⟩:=hR18.slices;have hE18:=hk18.blk hE12 (fun hh=>hh ((HWH4.out _ (by omega)).trans (HFR.out _ (by omega))));simp only[hvT6,hve6,hvf6,hvm6,hvo6,hvl6,hvp6];have HV6:=Lib.hid (And.intro hvT6 (And.intro hve6 (And.intro hvf6 (And.intro hvm6 (And.intro hvo6 (And.intro hvl6 hvp6))))));clear hvT6 hve6 hvf6 hvm6 hvo6 hvl6 hvp6;obtain⟨y0,y1,y2,y3,y4,y5,y6,y7,y8,y9⟩:=Kit.cells10 hE18;have zf:=fun i=>Blk.frozen hE18 i))
     have hszP:=hkW.size
     clear zf y0 y1 y2 y3 y4 y5 y6 y7 y8 y9 k0 k1 k2 k3 k4 k5 k6 k7 k8 k9 q0 q1 q2 q3 q4 q5
     refine(show bodyPost _ _ _ _ _ (RunW.putL w18 (w.heap.size+1) 0 [.bool false,.int .i64 nc,.slice aT6 V6.tcs.length cT6,.slice ae6 r6.events.length ce6,.slice af6 r6.rf.length cf6,.slice am6 r6.rmw.length cm6,.slice ao6 V6.vo.length co6,.slice al6 r6.log.length cl6,.slice ap6 r6.picks.length cp6,.int .i64 r6.used])from RunW.putL_go hE18 rfl fun wf hEf hkf=>?_)
     obtain⟨e0,e1,e2,e3,e4,e5,e6,e7,e8,e9⟩:=Kit.cells10 hEf
     refine bodyPost_ret (v:=.tuple #[.agg #[.bool false,.int .i64 nc,.slice aT6 V6.tcs.length cT6,.slice ae6 r6.events.length ce6,.slice af6 r6.rf.length cf6,.slice am6 r6.rmw.length cm6,.slice ao6 V6.vo.length co6,.slice al6 r6.log.length cl6,.slice ap6 r6.picks.length cp6,.int .i64 r6.used],.bool true]) (by simp[results,Tryz.results49,go_sem,e0,e1,e2,e3,e4,e5,e6,e7,e8,e9]) rfl ?_
     have hRf:=hR18.other hE18 (fun q=>by cases q <;> decide) (by decide) (by have:=h.start.size;omega) hkf
     obtain⟨b1,b2,b3,b4,b5,b6,b7⟩:=HV6.out
     have hlo:r.step nc t=r6:=by rw[HDO.out];unfold RR.doo;rw[if_neg HN1.out,if_pos HH2.out,HR6.out,HR2.out]
     rw[hlo]
     have hs18:=hk18.size
     refine⟨V6,true,by rw[b1,b2,b3,b4,b5,b6,b7],⟨who6,hRf,fun k hk=>(hwh6 k (by omega)).trans (HWH4.out k (by omega))⟩,?_⟩
     have h1:KeptS (fun k=>who k≠none) w w18:=⟨hk18.1.trans hkW.1,hk18.2.1.trans hkW.2.1,hk18.2.2.1.trans hkW.2.2.1,Nat.le_trans hkW.size hk18.size,fun k hk hn=>(hk18.2.2.2.2 k (by have:=hkW.size;omega) (by
      show ¬(who4 k≠none)
      rw[HWH4.out k (by omega)]
      exact hn)).trans (hkW.2.2.2.2 k hk hn)⟩
     exact⟨hkf.1.trans h1.1,hkf.2.1.trans h1.2.1,hkf.2.2.1.trans h1.2.2.1,Nat.le_trans h1.size hkf.size,fun k hk hn=>(hkf.2.2.2.2 k (Nat.lt_of_lt_of_le hk h1.size) (by omega)).trans (h1.2.2.2.2 k hk hn)⟩
    ·by_cases h3:q.what=3
     ·have HH3:=Lib.hid h3
      have HN1:=Lib.hid h1
      have HN2:=Lib.hid h2
      rw[h3]at q0
      clear h1 h2 h3
      have hev1:r1.events.length≤300:=by rw[HR1.out,HP.out];exact HF.out.ev
      have hnm1:(r1.th t).nums.length≤1000:=by rw[HTH.out.2];have:=HF.out.nums;omega
      obtain⟨r2,hr2⟩:∃y:RR,y=r1.event t 3 (-1) 0 q.mode:=⟨_,rfl⟩
      have HEv:=event_any hz ho hR11 t ht1 (by omega) hnm1 3 (-1) 0 q.mode
      rw[HRD.out,←hr2]at HEv
      have ht2:t<r2.ths.length:=by rw[hr2];simpa [RR.event]using ht1
      have hth2:(r2.th t).s=(r1.th t).s:=by
       rw[hr2]
       show((r1.ths.set t ⟨(r1.th t).s,_⟩).getD t noT).s=_
       rw[Kit.gD,List.getElem?_set_self ht1]
       rfl
      obtain⟨a,ha1,hown⟩:=HACT.out (by rw[HH3.out];decide)
      have ha2:(r2.th t).s.acts[(r2.th t).s.at_]?=some a:=by rw[hth2];exact ha1
      obtain⟨r6,hr6⟩:∃y:RR,y=r2.fed t 0:=⟨_,rfl⟩
      have HFd:Hid (∀(w12:World) (who4:Nat→Option Dq) (V3:DV),RunAt mz w0 nc w12 who4 V3 r2→Calls Tryz.prog 75 #[.agg (runD nc V3 r2),.int .i64 (t:Int),.int .u64 0] w12 fun e w'=>∃V',e=.returned (.agg (runD nc V' r6))∧DRet mz w0 nc w12 who4 w' V' r6):=Lib.hid fun w12 who4 V3 h3=>by
       have:=fed_any hz ho h3 t ht2 a ha2 hown 0 (by decide)
       rw[←hr6]at this
       exact this
      have HEv:=Lib.hid HEv
      have HR2:=Lib.hid hr2
      have HR6:=Lib.hid hr6
      clear hr2 hr6 hth2 ha1 ha2 hev1 hnm1
      go_wp2_with (first |(go_at_call 76;refine HEv.out.mono ?_;rintro e w12 ⟨V3,rfl,hDR⟩;obtain⟨⟨who4,hR12,hwh4⟩,hk12⟩:=hDR;have hE12:=hk12.blk hE10 (fun hh=>hh ((HWH3.out _ (by omega)).trans (HFR.out _ (by omega))));have hkW:=keptAfter hk12 hk10 (fun k hk e=>by rw[←HWH3.out k (by omega)];exact e);have hszW:=hk10.size;have hsz10:=hk12.size;have HWH4:Hid (∀k,k<w1.heap.size→who4 k=who k):=Lib.hid (fun k hk=>(hwh4 k (by omega)).trans (HWH3.out k hk))) |(go_at_call 75;refine(HFd.out _ _ _ hR12).mono ?_;rintro e w18 ⟨V6,rfl,hDR⟩;unfold runD;obtain⟨⟨who6,hR18,hwh6⟩,hk18⟩:=hDR;obtain⟨aT6,cT6,ae6,ce6,af6,cf6,am6,cm6,ao6,co6,al6,cl6,ap6,cp6,hvT6,hve6,hvf6,hvm6,hvo6,hvl6,hvp6⟩:=hR18.slices;have hE18:=hk18.blk hE12 (fun hh=>hh ((HWH4.out _ (by omega)).trans (HFR.out _ (by omega))));simp only[hvT6,hve6,hvf6,hvm6,hvo6,hvl6,hvp6];have HV6:=Lib.hid (And.intro hvT6 (And.intro hve6 (And.intro hvf6 (And.intro hvm6 (And.intro hvo6 (And.intro hvl6 hvp6))))));clear hvT6 hve6 hvf6 hvm6 hvo6 hvl6 hvp6;obtain⟨y0,y1,y2,y3,y4,y5,y6,y7,y8,y9⟩:=Kit.cells10 hE18;have zf:=fun i=>Blk.frozen hE18 i))
      have hszP:=hkW.size
      clear zf y0 y1 y2 y3 y4 y5 y6 y7 y8 y9 k0 k1 k2 k3 k4 k5 k6 k7 k8 k9 q0 q1 q2 q3 q4 q5
      refine(show bodyPost _ _ _ _ _ (RunW.putL w18 (w.heap.size+1) 0 [.bool false,.int .i64 nc,.slice aT6 V6.tcs.length cT6,.slice ae6 r6.events.length ce6,.slice af6 r6.rf.length cf6,.slice am6 r6.rmw.length cm6,.slice ao6 V6.vo.length co6,.slice al6 r6.log.length cl6,.slice ap6 r6.picks.length cp6,.int .i64 r6.used])from RunW.putL_go hE18 rfl fun wf hEf hkf=>?_)
      obtain⟨e0,e1,e2,e3,e4,e5,e6,e7,e8,e9⟩:=Kit.cells10 hEf
      refine bodyPost_ret (v:=.tuple #[.agg #[.bool false,.int .i64 nc,.slice aT6 V6.tcs.length cT6,.slice ae6 r6.events.length ce6,.slice af6 r6.rf.length cf6,.slice am6 r6.rmw.length cm6,.slice ao6 V6.vo.length co6,.slice al6 r6.log.length cl6,.slice ap6 r6.picks.length cp6,.int .i64 r6.used],.bool true]) (by simp[results,Tryz.results49,go_sem,e0,e1,e2,e3,e4,e5,e6,e7,e8,e9]) rfl ?_
      have hRf:=hR18.other hE18 (fun q=>by cases q <;> decide) (by decide) (by have:=h.start.size;omega) hkf
      obtain⟨b1,b2,b3,b4,b5,b6,b7⟩:=HV6.out
      have hlo:r.step nc t=r6:=by rw[HDO.out];unfold RR.doo;rw[if_neg HN1.out,if_neg HN2.out,if_pos HH3.out,HR6.out,HR2.out]
      rw[hlo]
      have hs18:=hk18.size
      refine⟨V6,true,by rw[b1,b2,b3,b4,b5,b6,b7],⟨who6,hRf,fun k hk=>(hwh6 k (by omega)).trans (HWH4.out k (by omega))⟩,?_⟩
      have h1:KeptS (fun k=>who k≠none) w w18:=⟨hk18.1.trans hkW.1,hk18.2.1.trans hkW.2.1,hk18.2.2.1.trans hkW.2.2.1,Nat.le_trans hkW.size hk18.size,fun k hk hn=>(hk18.2.2.2.2 k (by have:=hkW.size;omega) (by
       show ¬(who4 k≠none)
       rw[HWH4.out k (by omega)]
       exact hn)).trans (hkW.2.2.2.2 k hk hn)⟩
      exact⟨hkf.1.trans h1.1,hkf.2.1.trans h1.2.1,hkf.2.2.1.trans h1.2.2.1,Nat.le_trans h1.size hkf.size,fun k hk hn=>(hkf.2.2.2.2 k (Nat.lt_of_lt_of_le hk h1.size) (by omega)).trans (h1.2.2.2.2 k hk hn)⟩
     ·by_cases h4:q.what=4
      ·have HH4:=Lib.hid h4
       have HN1:=Lib.hid h1
       have HN2:=Lib.hid h2
       have HN3:=Lib.hid h3
       rw[h4]at q0
       clear h1 h2 h3 h4
       obtain⟨a,ha1,hown⟩:=HACT.out (by rw[HH4.out];decide)
       have hto:t<r1.outs.length:=by rw[HR1.out,HP.out];exact HF.out.outn
       have hvo:t<V2.vo.length:=by rw[hR11.outl];exact hto
       obtain⟨v,hv⟩:∃v,V2.vo[t]?=some v:=⟨_,Kit.eG hvo⟩
       obtain⟨l,hl⟩:∃l,r1.outs[t]?=some l:=⟨_,Kit.eG hto⟩
       have hll:l.length≤1000000:=by
        have h1:=HF.out.outs
        have h2:r1.outs=r.outs:=by rw[HR1.out,HP.out];rfl
        rw[h2]at hl
        rw[Kit.gD,hl]at h1
        exact h1
       have hU:=hR11.outi t v l hv hl
       obtain⟨go,cao,hvo1,_,hgo,_,hfo,hco⟩:=OwnR.own_cells (hR11.own .outs) (show 0<V2.vo.length by omega)
       simp only[DV.val,dN,dX]at hvo1 hco
       obtain⟨rfl,rfl⟩:ao1=some ⟨go,0,none⟩∧co1=cao:=by
        have h1:=HV1.out.2.2.2.2.1
        have h2:V2.outs=V1.outs:=by rw[HV2.out]
        rw[h2,h1]at hvo1
        injection hvo1 with h3 _ h4
        exact⟨h3,h4⟩
       have hvl:V2.vo.length=V1.vo.length:=by rw[HV2.out]
       have HVL:=Lib.hid hvl
       have co0:w10.cell? ⟨go,t,none⟩=some v:=hco t v hv
       have HRO:Hid (∀k,k=go→∃cs,Blk w10 k 32 cs):=Lib.hid fun k e=>by
        rcases (hR11.own .outs).2 with⟨h1,_⟩ | ⟨g',cap',cur,h1,_,h2,_⟩
        ·have h3:V2.outs=.slice none 0 0:=h1
         rw[hvo1]at h3;cases h3
        ·have h3:V2.outs=.slice (some ⟨g',0,none⟩) _ cap':=h1
         rw[hvo1]at h3
         injection h3 with h3
         injection h3 with h3
         injection h3 with h3
         exact⟨cur,by rw[e,h3];exact h2⟩
       obtain⟨B,d,rfl,_⟩:=OwnR.own_slice hU
       have HU:=Lib.hid hU
       have HLL:=Lib.hid hl
       have HVV:=Lib.hid hv
       have a1:(t:Int)<(V1.vo.length:Int):=by omega
       have a2:(0:Int)≤(t:Int):=by omega
       have hmk:=make_u640 (l.length+1) (by omega) w10
       rw[show((l.length+1:Nat):Int)=(l.length:Int)+1 by omega]at hmk
       have HTO:=Lib.hid hto
       have HVO1:=Lib.hid hvo1
       have HFO:=Lib.hid hfo
       have HCO:=Lib.hid co0
       clear hU hl hv hvo hto hvl hvo1 hco hfo
       go_upto_region 20 with fail
       obtain⟨w11,hw11⟩:∃yy:World,yy=w10.alloc (.cells (Array.replicate (l.length+1) (Value.int .u64 0)) 40):=⟨_,rfl⟩
       have hb11:Below w10.heap.size w10 w11:=by rw[hw11];exact Kit.bl1
       have hB11:Blk w11 w10.heap.size 40 (Array.replicate (l.length+1) (Value.int .u64 0)):=by rw[hw11];exact Blk.new _ _ _
       have hown11:w11.ownsRow 0 40 1 (.slice (some ⟨w10.heap.size,0,none⟩) 0 (l.length+1)) 0 [] :=
        ⟨rfl,.inr ⟨w10.heap.size,l.length+1,Array.replicate (l.length+1) (Value.int .u64 0),rfl,Nat.zero_le _,hB11,Nat.zero_le _,by omega,by simp,rfl⟩⟩
       rw[←hw11]
       have HOW:=Lib.hid hown11
       have hb11':=hb11
       clear hw11 hmk k0 k1 k2 k3 k4 k5 k6 k7 k8 k9 q0 q1 q2 q3 q4 q5 hown11
       have k6:w11.cell? ⟨w.heap.size,6,none⟩=some (.slice (some ⟨go,0,none⟩) V1.vo.length co1):=Blk.cell (hD10.below' hb11) 6
       have co0':w11.cell? ⟨go,t,none⟩=some (.slice B l.length d):=(hb11.cell (p:=⟨go,t,none⟩) hgo).trans co0
       have hs11:=hB11.lt
       clear co0
       go_cut [7] (fun s7 wz=>∃g15 c15,s7=.slice (some ⟨g15,0,none⟩) l.length c15∧wz.ownsRow 0 40 1 (.slice (some ⟨g15,0,none⟩) l.length c15) l.length (l.map u64V)∧w10.heap.size≤g15∧Below w10.heap.size w11 wz)
       case first =>
        obtain⟨j0,hj0,hjz0,hjz1,hjz2⟩:=info_parts info_u64
        by_cases hnn:l = []
        ·have HN0:=Lib.hid hnn
         have hn0:l.length=0:=by rw[hnn];rfl
         rw[hn0]at co0' HOW hB11 ⊢
         have hB:B=none∨∃g,B=some ⟨g,0,none⟩:=by
          rcases HU.out.2 with⟨h1,_⟩ | ⟨g',_,_,h1,_⟩
          ·injection h1 with h1;exact .inl h1
          ·injection h1 with h1;exact .inr ⟨g',h1⟩
         clear hnn hn0
         rcases hB with rfl | ⟨gB,rfl⟩
         ·go_wp2_with fail
          go_meet
          refine⟨w10.heap.size,1,by rw[HN0.out];rfl,?_,Nat.le_refl _,Below.refl _ _⟩
          rw[HN0.out]
          exact HOW.out
         ·go_wp2_with fail
          go_meet
          refine⟨w10.heap.size,1,by rw[HN0.out];rfl,?_,Nat.le_refl _,Below.refl _ _⟩
          rw[HN0.out]
          exact HOW.out
        ·have hpos:0<l.length:=List.length_pos_iff.2 hnn
         obtain⟨gn,dn',hvn',_,hgn,_,_,hcn⟩:=OwnR.own_cells HU.out hpos
         injection hvn' with e1 _ e2
         subst e1 e2
         have hnews:∀(j:Nat) (u:Value),(l.map u64V)[j]?=some u→w11.cell? ((⟨gn,0,none⟩:Addr).add j)=some u:=fun j u hj=>by
          rw[add0,hb11.cell (p:=⟨gn,j,none⟩) hgn]
          exact hcn j u hj
         have hone:∀u∈l.map u64V,u.oneCell'=true:=fun u hu=>by
          obtain⟨y,_,rfl⟩:=List.mem_map.1 hu
          rfl
         have HNW:=Lib.hid hnews
         have HO1:=Lib.hid hone
         clear hnews hone hcn hnn
         go_wp2_with (at_builtin;refine wpList_append_lies _ (by rfl) _ _ _ (by rfl) 0 40 j0 _ 1 8 Tryz.underlying32 hj0 hjz0 hjz1 hjz2 rfl (by omega) _ 0 _ (by rfl) HOW.out ⟨gn,0,none⟩ l.length d (l.map u64V) (by rfl) (by first | exact(List.length_map _).trans (Nat.mul_one _).symm | exact List.length_map _) HNW.out HO1.out hpos (by omega) (by omega) (Nat.zero_le _) _ rfl ?_;intro g15 cap15 w15 hown15 hgrow15 hat15 hlt15)
         go_meet
         rw[Nat.zero_add,List.nil_append]at hown15
         refine⟨g15,cap15,rfl,hown15,?_,?_⟩
         ·rcases hat15 with h1 | h1
          ·simp[Value.ownBlock]at h1
           omega
          ·omega
         ·exact(Below.refl w10.heap.size w11).grown hgrow15 (by omega) (fun k hk=>by
           simp[Value.ownBlock]at hk
           omega)
       case rest =>
        obtain⟨g15,c15,rfl,hown15,hg15,hb15⟩:=hcut
        have hbc:Below w10.heap.size w10 wc:=hb11.trans (hb15.mono (by omega))
        clear k6 co0' HOW hB11 hb15
        obtain⟨S,hS⟩:∃S:Nat→Prop,∀k,S k↔k=go:=⟨_,fun _=>Iff.rfl⟩
        have HSS:=Lib.hid hS
        clear hS
        have hnD:¬S w.heap.size:=fun e=>by
         obtain⟨cs,hc⟩:=HRO.out _ ((HSS.out _).1 e)
         exact blk_types hD10 hc (by decide)
        have hnE:¬S (w.heap.size+1):=fun e=>by
         obtain⟨cs,hc⟩:=HRO.out _ ((HSS.out _).1 e)
         exact blk_types hE10 hc (by decide)
        have hnQ:¬S gq:=fun e=>by
         obtain⟨cs,hc⟩:=HRO.out _ ((HSS.out _).1 e)
         exact blk_types hQ10 hc (by decide)
        have HND:=Lib.hid hnD
        have HNE:=Lib.hid hnE
        have HNQ:=Lib.hid hnQ
        clear hnD hnE hnQ
        have g6:∀p':Cls (KeptS S w10),p'.w.cell? ⟨w.heap.size,6,none⟩=some (.slice (some ⟨go,0,none⟩) V1.vo.length co1):=fun p'=>Blk.cell (p'.h.blk hD10 HND.out) 6
        have g3:∀p':Cls (KeptS S w10),p'.w.cell? ⟨gq,3,none⟩=some (.int .u64 (q.val:Int)):=fun p'=>(p'.h.blk hQ10 HNQ.out).cell 3
        have hne':Nonempty (Cls (KeptS S w10)):=⟨⟨w10,KeptS.refl _ _⟩⟩
        have hbd:Below w10.heap.size w10 (wc.drewN 1):=Kit.Below.dn hbc
        have hown16:(wc.drewN 1).ownsRow 0 40 1 (.slice (some ⟨g15,0,none⟩) l.length c15) l.length (l.map u64V):=hown15
        go_upto_region 21 with fail
        refine wp_region_float_go (fun w'=>∃p':Cls (KeptS S w10),w'=p'.w) 10 (by kernel_rfl) rfl ?_
        refine floatG_reads 4 [0,1,2,3,4,5] ⟨⟨_,KeptS.of_below hbd⟩,rfl⟩ rfl (by kernel_rfl) ?_
        simp only[pickL,List.map_cons,List.map_nil,List.getElem?_cons_succ,List.getElem?_cons_zero,Option.getD_some]
        repeat (go_big_quiet_step (fail))
        refine wpQuiet_nil ?_
        clear g6 g3 hne' hown15 hbc
        generalize wc.drewN 1=wd at *
        refine fG (i:=6) rfl ?_
        go_wp2_with fail
        obtain⟨w12,hw12⟩:∃yy:World,yy=wd.alloc (.cells #[.int .u64 (q.val:Int)] 40):=⟨_,rfl⟩
        have hb12:Below wd.heap.size wd w12:=by rw[hw12];exact Kit.bl1
        have hN12:Blk w12 wd.heap.size 40 (List.toArray [u64V q.val]):=by rw[hw12];exact Blk.new _ _ _
        rw[←hw12]
        clear hw12
        have hbw12:=hbd.trans (hb12.mono hbd.size)
        have HOW:=Lib.hid (OwnR.own_stays hown16 fun k hk=>hb12.block k (OwnR.own_lt hown16 hk))
        have hsz12:=hb12.size
        have hszd:=hbd.size
        have hml:(16*1048576:Nat)≤maxLen:=by decide
        obtain⟨j0,hj0,hjz0,hjz1,hjz2⟩:=info_parts info_u64
        refine onG_mk (fun _=>⟨⟨_,KeptS.of_below hbw12⟩,rfl⟩) ?_
        clear hown16 hb12 hbd
        refine fG (i:=7) rfl ?_
        refine wpList_append_lies _ (by rfl) _ _ _ (by rfl) 0 40 j0 _ 1 8 Tryz.underlying32 hj0 hjz0 hjz1 hjz2 rfl (by omega) _ l.length _ (by rfl) HOW.out ⟨wd.heap.size,0,none⟩ 1 1 [u64V q.val] (by rfl) rfl (RunW.news_one hN12) (RunW.one_one rfl) (by omega) (by omega) (by omega) (Nat.zero_le _) _ rfl ?_
        intro g8 cap8 w13 hown13 hgrow13 hat13 hlt13
        have hg8:w10.heap.size≤g8:=by
         rcases hat13 with h1 | h1
         ·simp[Value.ownBlock]at h1
          omega
         ·omega
        have hb13:Below w10.heap.size w10 w13:=hbw12.grown hgrow13 (by omega) (fun k hk=>by
         simp[Value.ownBlock]at hk
         omega)
        clear hgrow13 hat13 hlt13 HOW hN12 hbw12
        refine onG_mk (fun _=>⟨⟨_,KeptS.of_below hb13⟩,rfl⟩) ?_
        refine fG (i:=8) rfl ?_
        go_wp2_with fail
        refine onG_mk (fun _=>⟨⟨_,KeptS.of_below hb13⟩,rfl⟩) ?_
        refine fG (i:=9) rfl ?_
        have co1':w13.cell? ⟨go,t,none⟩=some (.slice B l.length d):=(hb13.cell (p:=⟨go,t,none⟩) hgo).trans HCO.out
        have cof:w13.frozen? ⟨go,t,none⟩=false:=(hb13.frozen (p:=⟨go,t,none⟩) hgo).trans (HFO.out t)
        go_wp2_with fail
        clear co1' cof
        have hR13:=hR11.below hb13
        obtain⟨who4,hR14,hwh4⟩:=hR13.app_out (t:=t) (l:=l++[q.val]) HTO.out (v:=.slice (some ⟨g8,0,none⟩) (l.length+1) cap8) (by rw[HVO1.out]) (by
         show U64O w13 _ _
         unfold U64O
         rw[List.length_append,List.map_append]
         exact hown13)
        have hC14:KeptS S w10 (w13.setCell ⟨go,t,none⟩ (.slice (some ⟨g8,0,none⟩) (l.length+1) cap8)):=(KeptS.of_below hb13:KeptS S w10 w13).set ((HSS.out _).2 rfl) _ _
        generalize w13.setCell ⟨go,t,none⟩ (.slice (some ⟨g8,0,none⟩) (l.length+1) cap8)=w14 at *
        refine Kit.oG hC14 ?_
        refine(show tailG _ _ _ _ _ _ _ from⟨by kernel_rfl,?_⟩)
        simp only[List.drop_succ_cons,List.drop_nil]
        have hD14:=hC14.blk hD10 HND.out
        have hE14:=hC14.blk hE10 HNE.out
        have hs14:=hC14.size
        have hkW:KeptS (fun k=>who k≠none) w w14:=keptAfter hC14 hk10 (fun k hk3 e=>by
         rw[(HSS.out k).1 e]
         have h1:who3 go=some .outs:=hR11.mine .outs go (by simp only[DV.val];rw[HVO1.out];rfl)
         have h2:=(HSS.out k).1 e
         rw[h2]at hk3
         rw[←HWH3.out go (by omega),h1]
         exact fun e=>by cases e)
        have HWH4:Hid (∀k,k<w1.heap.size→who4 k=who k):=Lib.hid (fun k hk=>(hwh4 k (by have:=hb13.size;omega)).trans (HWH3.out k hk))
        obtain⟨r2,hr2⟩:∃y:RR,y=r1.out t q.val:=⟨_,rfl⟩
        obtain⟨V3,hV3⟩:∃y:DV,y = { V2 with vo:=V2.vo.set t (.slice (some ⟨g8,0,none⟩) (l.length+1) cap8) }:=⟨_,rfl⟩
        have hR12:RunAt mz w0 nc w14 who4 V3 r2:=by
         rw[hr2,hV3]
         have e:r1.out t q.val = { r1 with outs:=r1.outs.set t (l++[q.val]) }:=by
          unfold RR.out
          rw[Kit.gD,HLL.out]
          rfl
         rw[e]
         exact hR14
        have ht2:t<r2.ths.length:=by rw[hr2];exact ht1
        have ha2:(r2.th t).s.acts[(r2.th t).s.at_]?=some a:=by rw[hr2];exact ha1
        obtain⟨r6,hr6⟩:∃y:RR,y=r2.fed t 0:=⟨_,rfl⟩
        have hrd3:runD nc V3 r2=#[.bool false,.int .i64 nc,.slice aT1 V1.tcs.length cT1,.slice ae1 p.events.length ce1,.slice af1 p.rf.length cf1,.slice am1 p.rmw.length cm1,.slice (some ⟨go,0,none⟩) V1.vo.length co1,.slice (some ⟨gl,0,none⟩) (p.log.length+1) capl,.slice (some ⟨gk,0,none⟩) (p.picks.length+1) capk,.int .i64 (p.used+1:Nat)]:=by
         have h1:=HRD.out
         rw[←h1,hr2,hV3]
         unfold runD
         rfl
        have HFd:=fed_any hz ho hR12 t ht2 a ha2 hown 0 (by decide)
        rw[←hr6,hrd3]at HFd
        have HFd:=Lib.hid HFd
        have HR2:=Lib.hid hr2
        have HR6:=Lib.hid hr6
        have hszP:=hkW.size
        clear hr2 hr6 hV3 hrd3 ha1 ha2 hR14 hR13 hC14 hb13 hD10 hE10 hQ10 hR11 hk10 hb11'
        obtain⟨k0,k1,k2,k3,k4,k5,k6,k7,k8,k9⟩:=Kit.cells10 hD14
        go_wp2_with (go_at_call 75;refine HFd.out.mono ?_;rintro e w18 ⟨V6,rfl,hDR⟩;unfold runD;obtain⟨⟨who6,hR18,hwh6⟩,hk18⟩:=hDR;obtain⟨aT6,cT6,ae6,ce6,af6,cf6,am6,cm6,ao6,co6,al6,cl6,ap6,cp6,hvT6,hve6,hvf6,hvm6,hvo6,hvl6,hvp6⟩:=hR18.slices;have hE18:=hk18.blk hE14 (fun hh=>hh ((HWH4.out _ (by omega)).trans (HFR.out _ (by omega))));simp only[hvT6,hve6,hvf6,hvm6,hvo6,hvl6,hvp6];have HV6:=Lib.hid (And.intro hvT6 (And.intro hve6 (And.intro hvf6 (And.intro hvm6 (And.intro hvo6 (And.intro hvl6 hvp6))))));clear hvT6 hve6 hvf6 hvm6 hvo6 hvl6 hvp6;obtain⟨y0,y1,y2,y3,y4,y5,y6,y7,y8,y9⟩:=Kit.cells10 hE18;have zf:=fun i=>Blk.frozen hE18 i)
        clear zf y0 y1 y2 y3 y4 y5 y6 y7 y8 y9 k0 k1 k2 k3 k4 k5 k6 k7 k8 k9
        refine(show bodyPost _ _ _ _ _ (RunW.putL w18 (w.heap.size+1) 0 [.bool false,.int .i64 nc,.slice aT6 V6.tcs.length cT6,.slice ae6 r6.events.length ce6,.slice af6 r6.rf.length cf6,.slice am6 r6.rmw.length cm6,.slice ao6 V6.vo.length co6,.slice al6 r6.log.length cl6,.slice ap6 r6.picks.length cp6,.int .i64 r6.used])from RunW.putL_go hE18 rfl fun wf hEf hkf=>?_)
        obtain⟨e0,e1,e2,e3,e4,e5,e6,e7,e8,e9⟩:=Kit.cells10 hEf
        refine bodyPost_ret (v:=.tuple #[.agg #[.bool false,.int .i64 nc,.slice aT6 V6.tcs.length cT6,.slice ae6 r6.events.length ce6,.slice af6 r6.rf.length cf6,.slice am6 r6.rmw.length cm6,.slice ao6 V6.vo.length co6,.slice al6 r6.log.length cl6,.slice ap6 r6.picks.length cp6,.int .i64 r6.used],.bool true]) (by simp[results,Tryz.results49,go_sem,e0,e1,e2,e3,e4,e5,e6,e7,e8,e9]) rfl ?_
        have hRf:=hR18.other hE18 (fun q=>by cases q <;> decide) (by decide) (by have:=h.start.size;omega) hkf
        obtain⟨b1,b2,b3,b4,b5,b6,b7⟩:=HV6.out
        have hlo:r.step nc t=r6:=by rw[HDO.out];unfold RR.doo;rw[if_neg HN1.out,if_neg HN2.out,if_neg HN3.out,if_pos HH4.out,HR6.out,HR2.out]
        rw[hlo]
        have hs18:=hk18.size
        refine⟨V6,true,by rw[b1,b2,b3,b4,b5,b6,b7],⟨who6,hRf,fun k hk=>(hwh6 k (by omega)).trans (HWH4.out k (by omega))⟩,?_⟩
        have h1:KeptS (fun k=>who k≠none) w w18:=⟨hk18.1.trans hkW.1,hk18.2.1.trans hkW.2.1,hk18.2.2.1.trans hkW.2.2.1,Nat.le_trans hkW.size hk18.size,fun k hk hn=>(hk18.2.2.2.2 k (by have:=hkW.size;omega) (by
         show ¬(who4 k≠none)
         rw[HWH4.out k (by omega)]
         exact hn)).trans (hkW.2.2.2.2 k hk hn)⟩
        exact⟨hkf.1.trans h1.1,hkf.2.1.trans h1.2.1,hkf.2.2.1.trans h1.2.2.1,Nat.le_trans h1.size hkf.size,fun k hk hn=>(hkf.2.2.2.2 k (Nat.lt_of_lt_of_le hk h1.size) (by omega)).trans (h1.2.2.2.2 k hk hn)⟩
      ·have f1:(q.what == 1)=false:=by simpa using h1
       have f2:(q.what == 2)=false:=by simpa using h2
       have f3:(q.what == 3)=false:=by simpa using h3
       have f4:(q.what == 4)=false:=by simpa using h4
       have hlo:r.step nc t=r1:=by
        rw[HDO.out]
        unfold RR.doo
        rw[if_neg h1,if_neg h2,if_neg h3,if_neg h4]
       have HLO:=Lib.hid hlo
       clear h1 h2 h3 h4 hlo
       obtain⟨y0,y1,y2,y3,y4,y5,y6,y7,y8,y9⟩:=Kit.cells10 hE10
       have zf:=fun i=>Blk.frozen hE10 i
       go_wp2_with fail
       refine(show bodyPost _ _ _ _ _ (RunW.putL w10 (w.heap.size+1) 0 [.bool false,.int .i64 nc,.slice aT1 V1.tcs.length cT1,.slice ae1 p.events.length ce1,.slice af1 p.rf.length cf1,.slice am1 p.rmw.length cm1,.slice ao1 V1.vo.length co1,.slice (some ⟨gl,0,none⟩) (p.log.length+1) capl,.slice (some ⟨gk,0,none⟩) (p.picks.length+1) capk,.int .i64 (p.used+1:Nat)])from ?_)
       clear zf y0 y1 y2 y3 y4 y5 y6 y7 y8 y9 k0 k1 k2 k3 k4 k5 k6 k7 k8 k9 q0 q1 q2 q3 q4 q5 f1 f2 f3 f4
       have hEf:=RunW.putL_all hE10 [.bool false,.int .i64 nc,.slice aT1 V1.tcs.length cT1,.slice ae1 p.events.length ce1,.slice af1 p.rf.length cf1,.slice am1 p.rmw.length cm1,.slice ao1 V1.vo.length co1,.slice (some ⟨gl,0,none⟩) (p.log.length+1) capl,.slice (some ⟨gk,0,none⟩) (p.picks.length+1) capk,.int .i64 (p.used+1:Nat)] rfl
       have hkf:=RunW.putL_kept (g:=w.heap.size+1) [.bool false,.int .i64 nc,.slice aT1 V1.tcs.length cT1,.slice ae1 p.events.length ce1,.slice af1 p.rf.length cf1,.slice am1 p.rmw.length cm1,.slice ao1 V1.vo.length co1,.slice (some ⟨gl,0,none⟩) (p.log.length+1) capl,.slice (some ⟨gk,0,none⟩) (p.picks.length+1) capk,.int .i64 (p.used+1:Nat)] w10 0
       generalize RunW.putL w10 (w.heap.size+1) 0 [.bool false,.int .i64 nc,.slice aT1 V1.tcs.length cT1,.slice ae1 p.events.length ce1,.slice af1 p.rf.length cf1,.slice am1 p.rmw.length cm1,.slice ao1 V1.vo.length co1,.slice (some ⟨gl,0,none⟩) (p.log.length+1) capl,.slice (some ⟨gk,0,none⟩) (p.picks.length+1) capk,.int .i64 (p.used+1:Nat)]=wf at *
       obtain⟨e0,e1,e2,e3,e4,e5,e6,e7,e8,e9⟩:=Kit.cells10 hEf
       refine bodyPost_ret (v:=.tuple #[.agg #[.bool false,.int .i64 nc,.slice aT1 V1.tcs.length cT1,.slice ae1 p.events.length ce1,.slice af1 p.rf.length cf1,.slice am1 p.rmw.length cm1,.slice ao1 V1.vo.length co1,.slice (some ⟨gl,0,none⟩) (p.log.length+1) capl,.slice (some ⟨gk,0,none⟩) (p.picks.length+1) capk,.int .i64 (p.used+1:Nat)],.bool true]) (by simp[results,Tryz.results49,go_sem,e0,e1,e2,e3,e4,e5,e6,e7,e8,e9]) rfl ?_
       have hRf:=hR11.other hE10 (fun q=>by cases q <;> decide) (by decide) (by have:=h.start.size;omega) hkf
       have hrr:=HRD.out
       unfold runD at hrr
       rw[HLO.out]
       refine⟨V2,.inr (by rw[hrr]),⟨who3,hRf,fun k hk=>HWH3.out k (by omega)⟩,?_⟩
       exact⟨hkf.1.trans hk10.1,hkf.2.1.trans hk10.2.1,hkf.2.2.1.trans hk10.2.2.1,Nat.le_trans hk10.size hkf.size,fun k hk hn=>(hkf.2.2.2.2 k (Nat.lt_of_lt_of_le hk hk10.size) (by omega)).trans (hk10.2.2.2.2 k hk hn)⟩
end Go.Proofs.YtmjilfamjlnigaaGreat.RefW
