/- WALKS: the document's own run is fed (chapter 19). -/
import Derived.Test.YtmjilfamjlnigaaGreatQ37
namespace Go.Proofs.YtmjilfamjlnigaaGreat.RefW
open Go Go.RowKit Kit SrcP SrcW Go.Proofs.YtmjilfamjlnigaaGreat.MchW
theorem done_w {nc nl:Nat} {s:RS} (h:SrcP.MchW nc nl s.m) {a:SrcP.Act} (ha:s.acts[s.at_]?=some a) (_ho:ownB a=false) {v:Nat} (hv:v<M64):SrcP.MchW nc nl (s.done a v).m∧(s.done a v).acts=s.acts:=by
 have hlt:=(List.getElem?_eq_some_iff.1 ha).1
 unfold RS.done
 split
 ·exact⟨⟨h.hnl,h.len,h.lt,hlt,h.alen,h.acts,by show 0<M64;decide,by show 0<M64;decide,fun hh=>by cases hh⟩,rfl⟩
 ·exact⟨⟨h.hnl,by have:=h.len;simpa [RS.m]using this,set_lt h.lt hv,hlt,h.alen,h.acts,by show 0<M64;decide,by show 0<M64;decide,fun hh=>by cases hh⟩,rfl⟩
set_option maxRecDepth 100000 in
set_option maxHeartbeats 8000000 in
theorem fed_any {mz:List Value} (hz:mz.length=95) (ho:mz.all (·.oneCell')=true) {w0:World} {nc:Nat} {w:World} {who:Nat→Option Dq} {V:DV} {r:RR} (h:RunAt mz w0 nc w who V r) (t:Nat) (ht:t<r.ths.length) (a:SrcP.Act) (ha:(r.th t).s.acts[(r.th t).s.at_]?=some a) (hown:ownB a=false) (v:Nat) (hvv:v<M64) :
  Calls Tryz.prog 75 #[.agg (runD nc V r),.int .i64 (t:Int),.int .u64 (v:Int)] w fun e w'=>∃V',e=.returned (.agg (runD nc V' (r.fed t v)))∧DRet mz w0 nc w who w' V' (r.fed t v):=by
 have hlt:t<V.tcs.length:=by have:=h.ths;rw[this]at ht;simpa using ht
 obtain⟨g,cap,hT⟩:=h.thr hz (by omega)
 have HT:=Lib.hid hT
 obtain⟨hv,hgl,hfr,hat⟩:=hT
 obtain⟨ae,ce,hve,_⟩:=OwnR.own_slice (h.own .ev)
 obtain⟨af,cf,hvf,_⟩:=OwnR.own_slice (h.own .rf)
 obtain⟨am,cm,hvm,_⟩:=OwnR.own_slice (h.own .rmw)
 obtain⟨ao,co,hvo,_⟩:=OwnR.own_slice (h.own .outs)
 obtain⟨al,cl,hvl,_⟩:=OwnR.own_slice (h.own .log)
 obtain⟨ap,cp,hvp,_⟩:=OwnR.own_slice (h.own .pks)
 simp only[DV.val,dN]at hve hvf hvm hvo hvl hvp
 unfold runD
 rw[hv,hve,hvf,hvm,hvo,hvl,hvp]
 have HV:=Lib.hid (And.intro hv (And.intro hve (And.intro hvf (And.intro hvm (And.intro hvo (And.intro hvl hvp))))))
 clear hv hve hvf hvm hvo hvl hvp
 have hx:V.tcs[t]?=some V.tcs[t]:=Kit.eG hlt
 have hrx:=hat t _ hx
 generalize hxx:V.tcs[t]=x at *
 have HXX:=Lib.hid hx
 clear hxx hx hat
 have HRT:Hid (∀w2,Below w.heap.size w w2→w2.rangeAt g (t*101) (thC mz x)):=Lib.hid fun w2 hb j v hj=>(hb.cell (p:=⟨g,t*101+j,none⟩) hgl).trans (hrx j v hj)
 clear hrx
 have a1:(t:Int)<(V.tcs.length:Int):=by omega
 have a2:(0:Int)≤(t:Int):=by omega
 have hth:r.th t=x.rt:=by
  unfold RR.th
  rw[h.ths,Kit.gD,List.getElem?_map,HXX.out]
  rfl
 have HTH:=Lib.hid hth
 rw[hth]at ha
 have ha:x.s.acts[x.s.at_]?=some a:=ha
 clear hth
 go_enter Tryz.func75,Tryz.ntmps75
 go_upto_region 1 with fail
 obtain⟨w1,hw1⟩:∃yy:World,yy=(w.alloc (.cells #[.bool false,.int .i64 nc,.slice (some ⟨g,0,none⟩) V.tcs.length cap,.slice ae r.events.length ce,.slice af r.rf.length cf,.slice am r.rmw.length cm,.slice ao V.vo.length co,.slice al r.log.length cl,.slice ap r.picks.length cp,.int .i64 r.used] 47)).alloc (.cells #[.bool false,.int .i64 0,.slice none 0 0,.slice none 0 0,.slice none 0 0,.slice none 0 0,.slice none 0 0,.slice none 0 0,.slice none 0 0,.int .i64 0] 47):=⟨_,rfl⟩
 have hb1:Below w.heap.size w w1:=by rw[hw1];exact Kit.bl2
 have hD1:Blk w1 w.heap.size 47 #[.bool false,.int .i64 nc,.slice (some ⟨g,0,none⟩) V.tcs.length cap,.slice ae r.events.length ce,.slice af r.rf.length cf,.slice am r.rmw.length cm,.slice ao V.vo.length co,.slice al r.log.length cl,.slice ap r.picks.length cp,.int .i64 r.used]:=by rw[hw1];exact(Blk.new _ _ _).alloc _
 have hE1:Blk w1 (w.heap.size+1) 47 #[.bool false,.int .i64 0,.slice none 0 0,.slice none 0 0,.slice none 0 0,.slice none 0 0,.slice none 0 0,.slice none 0 0,.slice none 0 0,.int .i64 0]:=by rw[hw1];exact Blk.newAt (sizeA _ _) _ _
 rw[←hw1]
 clear hw1
 have k2:w1.cell? ⟨w.heap.size,2,none⟩=some (.slice (some ⟨g,0,none⟩) V.tcs.length cap):=hD1.cell 2
 have HONE:=Lib.hid (thC_one ho (h.tc x (List.mem_of_getElem? HXX.out)))
 go_upto_region 2 with (first |(refine wpList_store_row rfl 94 (.tmp 7) (.tmp 14) rfl w1.heap.size (thC mz x).toArray rfl rfl 94 Tryz.zeroCells94 (heap_alloc_new w1 _) (by rw[List.size_toArray,thC_len hz];exact size_th) (zc_size.trans (thC_size hz x).symm) HONE.out ?_) |(refine wpList_load_mid rfl 94 (.tmp 13) rfl g (t*101) rfl (thC mz x) _ (HRT.out _ hb1) Tryz.underlying94 rfl (by rw[thC_len hz];exact size_th) ?_))
 obtain⟨w2,hw2⟩:∃yy:World,yy=(w1.alloc (.cells Tryz.zeroCells94 94)).setRow w1.heap.size (thC mz x).toArray:=⟨_,rfl⟩
 rw[←hw2]
 rw[World.setRow_alloc_new]at hw2
 have hX2:Blk w2 w1.heap.size 94 (thC mz x).toArray:=by rw[hw2];exact Blk.new _ _ _
 have hb12:Below w1.heap.size w1 w2:=by rw[hw2];exact Kit.bl1
 clear hw2 k2
 have hlf:=hE1.lt
 generalize hgx:w1.heap.size=gx at *
 generalize hgl0:w.heap.size=gl at *
 have HGL:=Lib.hid hgl0
 clear hgl0 hgx
 have hD3:=hD1.below hb12 (by omega)
 have hE3:=hE1.below hb12 (by omega)
 have hb3:Below gl w w2:=hb1.trans (hb12.mono (by omega))
 have hlx:=hX2.lt
 clear hD1 hE1 hb1 hb12
 have k0:w2.cell? ⟨gl,0,none⟩=some (.bool false):=hD3.cell 0
 have hok:=h.tc x (List.mem_of_getElem? HXX.out)
 obtain⟨A,c,hva,_⟩:=hok.acts
 obtain⟨B,d,hvl2,_⟩:=OwnR.own_slice hok.locs
 have HOK:=Lib.hid hok
 clear hok
 have x0:w2.cell? ⟨gx,0,none⟩=some (.int .i64 x.lc):=hX2.cell 0
 have x1:w2.cell? ⟨gx,1,none⟩=some (.slice A x.s.acts.length c):=by rw[←hva];exact hX2.cell 1
 have x2:w2.cell? ⟨gx,2,none⟩=some (.int .i64 x.s.at_):=hX2.cell 2
 have x3:w2.cell? ⟨gx,3,none⟩=some (.slice B x.s.locals.length d):=by rw[←hvl2];exact hX2.cell 3
 have HDN:Hid (Calls Tryz.prog 116 #[.agg #[.int .i64 x.lc,.slice A x.s.acts.length c,.int .i64 x.s.at_,.slice B x.s.locals.length d],.int .u64 (v:Int)] w2 fun e w'=>StRet x.lc (.slice A x.s.acts.length c) w2 (x.s.done a v) e w'):=Lib.hid (by
  have hS:StV nc x.nl w2 (.slice A x.s.acts.length c) (.slice B x.s.locals.length d) x.s:=by
   rw[←hva,←hvl2]
   have hb0:Below w0.heap.size w0 w2:=h.start.trans (by rw[←HGL.out]at hb3;exact hb3.mono h.start.size)
   exact⟨HOK.out.acts.below hb0,HOK.out.locs.below (by rw[HGL.out];exact hb3),HOK.out.ok⟩
  exact Done_any x.lc A c _ x.s w2 hS a ha hown v hvv)
 have HVA:=Lib.hid hva
 have hdw:=done_w HOK.out.ok ha hown hvv
 have hfd:(x.s.fed v)=x.s.done a v:=by unfold RS.fed;rw[ha]
 have HFD:=Lib.hid hfd
 clear hva hvl2 ha hfd
 generalize x.s.done a v=s' at *
 obtain⟨hm5,hac5⟩:=hdw
 unfold StRet stC at HDN
 go_upto_region 6 with (go_at_call 116;refine HDN.out.mono ?_;rintro e w5 ⟨vl',rfl,hU5,hb5⟩;obtain⟨B2,d2,rfl,_⟩:=U64O.mk_ hU5;have x0:w5.cell? ⟨gx,0,none⟩=some (.int .i64 x.lc):=(hX2.below' hb5).cell 0;have x1:w5.cell? ⟨gx,1,none⟩=some (.slice A x.s.acts.length c):=by { rw[←HVA.out];exact(hX2.below' hb5).cell 1 };have x2:w5.cell? ⟨gx,2,none⟩=some (.int .i64 x.s.at_):=(hX2.below' hb5).cell 2;obtain⟨v3,x3⟩:∃v,w5.cell? ⟨gx,3,none⟩=some v:=⟨_,(hX2.below' hb5).cell 3⟩;have xf:=fun i=>(hX2.below' hb5).frozen i)
 clear x0 x1 x2 x3 xf k0 HDN
 have hX6:=hX2.below' hb5
 have hD6:=hD3.below' hb5
 have hE6:=hE3.below' hb5
 have hb6:Below gl w w5:=hb3.trans (hb5.mono (by omega))
 obtain⟨w7,hw7⟩:∃yy:World,yy=(((w5.setCell ⟨gx,0,none⟩ (.int .i64 x.lc)).setCell ⟨gx,1,none⟩ (.slice A x.s.acts.length c)).setCell ⟨gx,2,none⟩ (.int .i64 s'.at_)).setCell ⟨gx,3,none⟩ (.slice B2 s'.locals.length d2):=⟨_,rfl⟩
 rw[←hw7]
 obtain⟨x',hx'⟩:∃y:TC,y = { x with s:=s',vl:=.slice B2 s'.locals.length d2 }:=⟨_,rfl⟩
 have hthx:thC mz x' = [.int .i64 x.lc,.slice A x.s.acts.length c,.int .i64 s'.at_,.slice B2 s'.locals.length d2]++(mz++[x.vn,.int .i64 (-1)]):=by rw[hx',←HVA.out];rfl
 have HTHX:=Lib.hid hthx
 have HXD:=Lib.hid hx'
 clear hx'
 have hX8:Blk w7 gx 94 (thC mz x').toArray:=by
  rw[hw7,HTHX.out,←thC_set]
  exact(((hX6.set 0 _).set 1 _).set 2 _).set 3 _
 have hk67:∀k,k≠gx→w7.heap[k]?=w5.heap[k]?:=fun k hk=>by rw[hw7,keep_set4 hk]
 have hb8:Below gl w w7:=by rw[hw7];exact below_set4 hb6 (by omega) _ _ _ _
 have hD8:Blk w7 gl 47 #[.bool false,.int .i64 nc,.slice (some ⟨g,0,none⟩) V.tcs.length cap,.slice ae r.events.length ce,.slice af r.rf.length cf,.slice am r.rmw.length cm,.slice ao V.vo.length co,.slice al r.log.length cl,.slice ap r.picks.length cp,.int .i64 r.used]:=(hk67 gl (by omega)).trans hD6
 have hE8:Blk w7 (gl+1) 47 #[.bool false,.int .i64 0,.slice none 0 0,.slice none 0 0,.slice none 0 0,.slice none 0 0,.slice none 0 0,.slice none 0 0,.slice none 0 0,.int .i64 0]:=(hk67 _ (by omega)).trans hE6
 have hU8:U64O w7 (.slice B2 s'.locals.length d2) s'.locals:=hU5.kept hX6 (by decide) hk67
 clear hw7 hX6 hD6 hE6 hb6 hU5 hk67 hthx hX2 hD3 hE3 hb3 hb5
 have k2:w7.cell? ⟨gl,2,none⟩=some (.slice (some ⟨g,0,none⟩) V.tcs.length cap):=Blk.cell hD8 2
 have HTR:Hid (w7.there g (t*101) (thC mz x').toArray.size):=Lib.hid (by
  rw[thC_size hz]
  intro j hj
  have h2:=HT.out.there hz hlt j hj
  have hgl2:g<gl:=by rw[←HGL.out];exact HT.out.lt
  exact⟨by rw[hb8.cell (p:=⟨g,t*101+j,none⟩) hgl2];exact h2.1,by rw[hb8.frozen (p:=⟨g,t*101+j,none⟩) hgl2];exact h2.2⟩)
 have HRX:Hid (w7.rangeAt gx 0 (thC mz x')):=Lib.hid (blk_range hX8)
 have HON':Hid ((thC mz x').toArray.all (·.oneCell')=true):=Lib.hid (by
  have h1:=thC_one ho HOK.out
  rw[HTHX.out]
  refine all_oneCell_toArray fun v hv=>?_
  have h2:=fun v (hv:v∈thC mz x)=>(Array.all_eq_true_iff_forall_mem.1 h1) v (by simpa using hv)
  simp only[List.mem_append,List.mem_cons,List.not_mem_nil,or_false]at hv
  rcases hv with (rfl | rfl | rfl | rfl) | hv | rfl | rfl
  any_goals rfl
  ·exact List.all_eq_true.1 ho v hv
  ·exact h2 _ (by simp[thC]))
 go_upto_region 7 with (first |(refine wpList_store_mid rfl 94 (.tmp 35) (.tmp 34) rfl g (t*101) (thC mz x').toArray rfl rfl HTR.out (by rw[thC_size hz];exact size_th) HON'.out ?_) |(refine wpList_load_mid rfl 94 (.tmp 7) rfl gx 0 rfl (thC mz x') _ HRX.out Tryz.underlying94 rfl (by rw[thC_len hz];exact size_th) ?_))
 clear k2
 simp only[Act.put]
 obtain⟨w9,hw9⟩:∃yy:World,yy=w7.setCells g (t*101) (thC mz x').toArray.toList:=⟨_,rfl⟩
 have hk89:KeptS (fun k=>k=g) w7 w9:=by rw[hw9];exact setCells_kept _ _ _
 have hgl2:g<gl:=by rw[←HGL.out];exact HT.out.lt
 have hD9:=hk89.blk hD8 (by omega)
 have hE9:=hk89.blk hE8 (by omega)
 have HW9:=Lib.hid hw9
 rw[←hw9]
 clear hw9 hX8 hD8 hE8 HTR HRX HON'
 obtain⟨kd0,kd1,kd2,kd3,kd4,kd5,kd6,kd7,kd8,kd9⟩:=Kit.cells10 hD9
 obtain⟨z0,z1,z2,z3,z4,z5,z6,z7,z8,z9⟩:=Kit.cells10 hE9
 have zf:=fun i=>hE9.frozen i
 go_wp2_with fail
 clear zf z0 kd0 z1 kd1 z2 kd2 z3 kd3 z4 kd4 z5 kd5 z6 kd6 z7 kd7 z8 kd8 z9 kd9
 refine(show bodyPost _ _ _ _ _ (RunW.putL w9 (gl+1) 0 [.bool false,.int .i64 nc,.slice (some ⟨g,0,none⟩) V.tcs.length cap,.slice ae r.events.length ce,.slice af r.rf.length cf,.slice am r.rmw.length cm,.slice ao V.vo.length co,.slice al r.log.length cl,.slice ap r.picks.length cp,.int .i64 r.used])from RunW.putL_go hE9 rfl fun wf hEf hk9f=>?_)
 obtain⟨e0,e1,e2,e3,e4,e5,e6,e7,e8,e9⟩:=Kit.cells10 hEf
 refine bodyPost_ret (v:=.agg #[.bool false,.int .i64 nc,.slice (some ⟨g,0,none⟩) V.tcs.length cap,.slice ae r.events.length ce,.slice af r.rf.length cf,.slice am r.rmw.length cm,.slice ao V.vo.length co,.slice al r.log.length cl,.slice ap r.picks.length cp,.int .i64 r.used]) (by simp[results,Tryz.results75,go_sem,e0,e1,e2,e3,e4,e5,e6,e7,e8,e9]) rfl ?_
 obtain⟨hv,hve,hvf,hvm,hvo,hvl,hvp⟩:=HV.out
 have hrs:r.fed t v = { r with ths:=r.ths.set t x'.rt }:=by
  unfold RR.fed RR.setS
  rw[HTH.out,XD_rt HXD.out]
  show({ r with ths:=r.ths.set t ⟨x.s.fed v,_⟩ }:RR)=_
  rw[HFD.out]
 have hR8:=h.below (w':=w7) (by rw[HGL.out];exact hb8)
 obtain⟨who',hR9,hw9'⟩:=hR8.setT hz hlt hv (x':=x') (by
   rw[HXD.out]
   show ActsAt w0 x.va s'.acts
   rw[hac5]
   exact HOK.out.acts) (by rw[HXD.out];exact hm5) (by rw[HXD.out];exact hU8) (by
   rw[HXD.out]
   exact OwnR.own_stays HOK.out.nums fun k hk=>hb8.block k (by rw[←HGL.out];exact OwnR.own_lt HOK.out.nums hk)) (by rw[HXD.out];exact HOK.out.free) (by rw[HXD.out];exact HOK.out.nilN)
 have e9:=HW9.out
 rw[←e9]at hR9
 have hlow:w0.heap.size≤gl:=by rw[←HGL.out];exact h.start.size
 have hRf:=hR9.other hE9 (fun q=>by cases q <;> decide) (by decide) (by omega) (w':=wf) hk9f
 rw[hrs]
 refine⟨{ V with tcs:=V.tcs.set t x' },?_,⟨who',hRf,fun k hk=>?_⟩,?_⟩
 ·show Ending.returned (.agg _)=Ending.returned (.agg #[.bool false,.int .i64 (nc:Int),V.thr,V.ev,V.rf,V.rmw,V.outs,V.log,V.pks,.int .i64 (r.used:Int)])
  rw[hv,hve,hvf,hvm,hvo,hvl,hvp]
 ·exact hw9' k (Nat.lt_of_lt_of_le hk hb8.size)
 ·have hkk:KeptS (fun k=>who k≠none) w w7:=KeptS.of_below (by rw[HGL.out];exact hb8)
  have hk9:KeptS (fun k=>who k≠none) w w9:=hkk.trans (hk89.mono fun k hk=>by
   rw[hk,h.mine .thr g (by simp[DV.val,hv,Value.ownBlock])]
   simp)
  exact⟨hk9f.1.trans hk9.1,hk9f.2.1.trans hk9.2.1,hk9f.2.2.1.trans hk9.2.2.1,Nat.le_trans hk9.size hk9f.size,fun k hk hn=>(hk9f.2.2.2.2 k (Nat.lt_of_lt_of_le hk hk9.size) (by have:=HGL.out;omega)).trans (hk9.2.2.2.2 k hk hn)⟩
end Go.Proofs.YtmjilfamjlnigaaGreat.RefW
