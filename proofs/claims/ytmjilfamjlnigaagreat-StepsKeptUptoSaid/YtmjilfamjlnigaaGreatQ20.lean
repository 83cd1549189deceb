/- WALKS: a thread's state, the document's own way: what an act wants (chapter 13). -/
import Derived.Test.YtmjilfamjlnigaaGreatQ19
namespace Go.Proofs.YtmjilfamjlnigaaGreat.RefW
open Go Go.RowKit Kit SrcP SrcW
def wantC (x:Want):Array Value:=#[.int .i64 x.what,.int .i64 x.loc,.int .i64 x.mode,.int .u64 (x.val:Int),.bool x.ex,.bool x.one]
theorem placeEv_of {nc nl n:Nat} {a:SrcP.Act} (h:ActWell nc nl n a) (hp:hasPlace a.op=true) (hnc:nc≤4096):PlaceEv nl a:=by
 obtain⟨⟨h1,h2⟩,_,h3,h4,h5⟩:=place_parts (h.place hp)
 exact⟨h1,⟨h3,by omega⟩,fun h0=>⟨h2,h5 h0⟩⟩
theorem mode_range {nc nl n:Nat} {a:SrcP.Act} (h:ActWell nc nl n a) (hop:a.op=4∨a.op=5∨a.op=6):1≤a.mode∧a.mode≤5:=by
 have hm:=h.parts.2.1
 unfold mayB at hm
 rw[if_neg (by omega),if_neg (by omega),if_pos hop]at hm
 exact of_decide_eq_true hm
set_option maxRecDepth 100000 in
set_option maxHeartbeats 4000000 in
theorem Wants_any {nc nl:Nat} (hnc:nc≤4096) (lc:Int) (A:Option Addr) (c:Nat) (vl:Value) (s:RS) (w:World) (h:StV nc nl w (.slice A s.acts.length c) vl s) (a:SrcP.Act) (ha:s.acts[s.at_]?=some a) (ho:ownB a=false) :
  Calls Tryz.prog 80 #[.agg (stC lc (.slice A s.acts.length c) s vl)] w fun r w'=>r=.returned (.agg (wantC (s.wants a)))∧Below w.heap.size w w':=by
 obtain⟨ad,vi,ve,vf,hN⟩:=h.next ha
 have HN:=Lib.hid hN
 obtain⟨rfl,hC,hAV,hlt,hwell⟩:=hN
 obtain⟨B,d,rfl,_⟩:=h.u64
 have HS:=Lib.hid h
 have HW:=Lib.hid hwell
 have HAV:=Lib.hid hAV
 have HLEN:Hid (s.locals.length=nl):=Lib.hid h.ok.len
 have a1:(s.at_:Int)<(s.acts.length:Int):=by omega
 have a2:(0:Int)≤(s.at_:Int):=by omega
 have hatl:s.acts.length≤65536:=h.ok.alen
 obtain⟨E,ce,rfl,_⟩:=HAV.out.e
 obtain⟨F,cf,rfl,_⟩:=HAV.out.f
 obtain⟨I,ci,rfl,_⟩:=HAV.out.index
 clear hwell hAV
 have hop:=want_op HW.out ho
 have HOf:Hid (hasE a.op=true→∀w2,Below w.heap.size w w2→Calls Tryz.prog 127 #[.slice E a.e.length ce,.slice B s.locals.length d] w2 fun r w'=>r=.returned (.int .u64 (value a.e s.locals:Nat))∧Below w2.heap.size w2 w') :=
  Lib.hid fun he w2 hb=>Of_any E B ce d a.e s.locals (by rw[HLEN.out];exact HW.out.e he) w2 (HAV.out.e.below hb) (HS.out.u64.below hb)
 have HLoc:Hid (hasPlace a.op=true→∀w2,Below w.heap.size w w2→Calls Tryz.prog 126 #[.agg (actC a (.slice I a.index.length ci) (.slice E a.e.length ce) (.slice F a.f.length cf)),.slice B s.locals.length d] w2 fun r w'=>r=.returned (.int .i64 (locS a s.locals))∧Below w2.heap.size w2 w') :=
  Lib.hid fun hp w2 hb=>Loc_any a _ _ _ B d s.locals (by rw[HLEN.out];exact placeEv_of HW.out hp hnc) w2 (HAV.out.below hb) (HS.out.u64.below hb)
 have HHV:=fun w=>Lib.hid (Halves_any a.mode w)
 have hwt:s.wants a=if a.op=2 then⟨1,locS a s.locals,a.mode,0,false,false⟩else if a.op=3 then⟨2,locS a s.locals,a.mode,value a.e s.locals,false,false⟩else if a.op=7 then⟨3,0,a.mode,0,false,false⟩else if a.op=8 then⟨4,0,0,value a.e s.locals,false,false⟩else⟨1,locS a s.locals,reading a.mode,0,true,false⟩:=rfl
 have HWT:=Lib.hid hwt
 clear hwt
 unfold stC
 unfold actC at HLoc
 go_enter Tryz.func80,Tryz.ntmps80
 go_upto_region 1 with fail
 obtain⟨w1,hw1⟩:∃yy:World,yy=(w.alloc (.cells #[.int .i64 lc,.slice (some ad) s.acts.length c,.int .i64 s.at_,.slice B s.locals.length d] 82)).alloc (.cells #[.int .i64 0,.int .i64 0,.int .i64 0,.int .u64 0,.bool false,.bool false] 100):=⟨_,rfl⟩
 have hb1:Below w.heap.size w w1:=by rw[hw1];exact Kit.bl2
 have hS1:Blk w1 w.heap.size 82 #[.int .i64 lc,.slice (some ad) s.acts.length c,.int .i64 s.at_,.slice B s.locals.length d]:=by rw[hw1];exact(Blk.new _ _ _).alloc _
 have hR1:Blk w1 (w.heap.size+1) 100 #[.int .i64 0,.int .i64 0,.int .i64 0,.int .u64 0,.bool false,.bool false]:=by rw[hw1];exact Blk.newAt (sizeA _ _) _ _
 have hz1:w1.heap.size=w.heap.size+1+1:=by rw[hw1,sizeA,sizeA]
 rw[←hw1]
 clear hw1
 have hC1:=hC.below hb1
 have k1:w1.cell? ⟨w.heap.size,1,none⟩=some (.slice (some ad) s.acts.length c):=hS1.cell 1
 have k2:w1.cell? ⟨w.heap.size,2,none⟩=some (.int .i64 s.at_):=hS1.cell 2
 have r0:w1.cell? (ad.add (s.at_*11))=some (.int .i64 a.op):=hC1 0 _ rfl
 have r1:w1.cell? ⟨(ad.add (s.at_*11)).block,(ad.add (s.at_*11)).off+1,none⟩=some (.int .i64 a.dst):=hC1 1 _ rfl
 have r2:w1.cell? ⟨(ad.add (s.at_*11)).block,(ad.add (s.at_*11)).off+2,none⟩=some (.int .i64 a.base):=hC1 2 _ rfl
 have r3:w1.cell? ⟨(ad.add (s.at_*11)).block,(ad.add (s.at_*11)).off+3,none⟩=some (.int .i64 a.size):=hC1 3 _ rfl
 have r4:w1.cell? ⟨(ad.add (s.at_*11)).block,(ad.add (s.at_*11)).off+4,none⟩=some (.slice I a.index.length ci):=hC1 4 _ rfl
 have r5:w1.cell? ⟨(ad.add (s.at_*11)).block,(ad.add (s.at_*11)).off+5,none⟩=some (.slice E a.e.length ce):=hC1 5 _ rfl
 have r6:w1.cell? ⟨(ad.add (s.at_*11)).block,(ad.add (s.at_*11)).off+6,none⟩=some (.slice F a.f.length cf):=hC1 6 _ rfl
 have r7:w1.cell? ⟨(ad.add (s.at_*11)).block,(ad.add (s.at_*11)).off+7,none⟩=some (.int .i64 a.mode):=hC1 7 _ rfl
 have r8:w1.cell? ⟨(ad.add (s.at_*11)).block,(ad.add (s.at_*11)).off+8,none⟩=some (.int .i64 a.to):=hC1 8 _ rfl
 have r9:w1.cell? ⟨(ad.add (s.at_*11)).block,(ad.add (s.at_*11)).off+9,none⟩=some (.int .i64 a.line):=hC1 9 _ rfl
 have r10:w1.cell? ⟨(ad.add (s.at_*11)).block,(ad.add (s.at_*11)).off+10,none⟩=some (.int .i64 a.col):=hC1 10 _ rfl
 clear hC hC1
 go_upto_region 2 with fail
 obtain⟨wx,hwx⟩:∃yy:World,yy=w1.alloc (.cells #[.int .i64 a.op,.int .i64 a.dst,.int .i64 a.base,.int .i64 a.size,.slice I a.index.length ci,.slice E a.e.length ce,.slice F a.f.length cf,.int .i64 a.mode,.int .i64 a.to,.int .i64 a.line,.int .i64 a.col] 58):=⟨_,rfl⟩
 have hbx:Below w.heap.size w wx:=by rw[hwx];exact Kit.Below.al hb1 _
 have hSX:Blk wx w.heap.size 82 #[.int .i64 lc,.slice (some ad) s.acts.length c,.int .i64 s.at_,.slice B s.locals.length d]:=by rw[hwx];exact hS1.alloc _
 have hRX:Blk wx (w.heap.size+1) 100 #[.int .i64 0,.int .i64 0,.int .i64 0,.int .u64 0,.bool false,.bool false]:=by rw[hwx];exact hR1.alloc _
 have hAX:Blk wx (w.heap.size+1+1) 58 #[.int .i64 a.op,.int .i64 a.dst,.int .i64 a.base,.int .i64 a.size,.slice I a.index.length ci,.slice E a.e.length ce,.slice F a.f.length cf,.int .i64 a.mode,.int .i64 a.to,.int .i64 a.line,.int .i64 a.col]:=by rw[hwx];exact Blk.newAt hz1 _ _
 rw[hz1]at *
 rw[←hwx]
 clear hwx hS1 hR1 hz1 hb1 k1 k2 r0 r1 r2 r3 r4 r5 r6 r7 r8 r9 r10
 have hlt3:=hAX.lt
 generalize hgl:w.heap.size=gl at *
 have HGL:=Lib.hid hgl
 clear hgl
 generalize hga:gl+1+1=ga at *
 have HGA:=Lib.hid hga
 clear hga
 have n0:wx.cell? ⟨ga,0,none⟩=some (.int .i64 a.op):=hAX.cell 0
 have HZ:Hid (∀w2,Below wx.heap.size wx w2→Below gl w w2):=Lib.hid fun w2 hb=>hbx.trans (hb.mono (Nat.le_of_lt hSX.lt))
 have HR:Hid (∀w2,Below wx.heap.size wx w2→Blk w2 (gl+1) 100 #[.int .i64 0,.int .i64 0,.int .i64 0,.int .u64 0,.bool false,.bool false]):=Lib.hid fun w2 hb=>hRX.below' hb
 have n7:wx.cell? ⟨ga,7,none⟩=some (.int .i64 a.mode):=hAX.cell 7
 go_upto_region 3 with (go_at_call 125;refine(HHV _).out.mono ?_;rintro e w5 ⟨rfl,rfl⟩)
 clear HHV
 have HCL:hasPlace a.op=true→∀p:Cls (Below w5.heap.size w5),Hid (Calls Tryz.prog 126 #[.agg #[.int .i64 a.op,.int .i64 a.dst,.int .i64 a.base,.int .i64 a.size,.slice I a.index.length ci,.slice E a.e.length ce,.slice F a.f.length cf,.int .i64 a.mode,.int .i64 a.to,.int .i64 a.line,.int .i64 a.col],.slice B s.locals.length d] p.w fun r w'=>r=.returned (.int .i64 (locS a s.locals))∧∃q:Cls (Below w5.heap.size w5),w'=q.w):=fun hp p =>
  Lib.hid (Calls.cls ((HLoc.out hp p.w (HZ.out _ p.h)).mono fun e w' h=>⟨h.1,Kit.Below.then p.h h.2⟩))
 have HCO:hasE a.op=true→∀p:Cls (Below w5.heap.size w5),Hid (Calls Tryz.prog 127 #[.slice E a.e.length ce,.slice B s.locals.length d] p.w fun r w'=>r=.returned (.int .u64 (value a.e s.locals:Nat))∧∃q:Cls (Below w5.heap.size w5),w'=q.w):=fun he p =>
  Lib.hid (Calls.cls ((HOf.out he p.w (HZ.out _ p.h)).mono fun e w' h=>⟨h.1,Kit.Below.then p.h h.2⟩))
 have HCL:=Lib.hid HCL
 have HCO:=Lib.hid HCO
 have HW0:Hid (∀k:Int,a.op=k→(if k=2 then(⟨1,locS a s.locals,a.mode,0,false,false⟩:Want)else if k=3 then⟨2,locS a s.locals,a.mode,value a.e s.locals,false,false⟩else if k=7 then⟨3,0,a.mode,0,false,false⟩else if k=8 then⟨4,0,0,value a.e s.locals,false,false⟩else⟨1,locS a s.locals,reading a.mode,0,true,false⟩)=s.wants a):=Lib.hid fun k hk=>by rw[HWT.out,hk]
 by_cases h2:a.op=2
 ·have hx:=HW0.out 2 h2
  have HX:=Lib.hid hx.symm
  have HCC:=HCL.out (by rw[h2];rfl)
  clear hx
  rw[h2]at n0
  clear h2
  obtain⟨ka0,ka1,ka2,ka3,ka4,ka5,ka6,ka7,ka8,ka9,ka10⟩:=Kit.cellsA11 fun p:Cls (Below w5.heap.size w5)=>(hAX.below' p.h)
  have ks3:∀p:Cls (Below w5.heap.size w5),p.w.cell? ⟨gl,3,none⟩=some (.slice B s.locals.length d):=fun p=>(hSX.below' p.h).cell 3
  go_upto_region 5 with fail
  clear n0 n7
  refine wp_region_cls_tail (Below w5.heap.size w5) 7 (Below_drewN _ 1) (by kernel_rfl) (by kernel_rfl) ?_
  intro hne
  simp only[List.take_succ_cons,List.take_zero,List.drop_succ_cons,List.drop_zero]
  repeat (go_big_quiet_step ((go_at_call 126;exact(HCC _).out)))
  refine wpQuiet_nil ?_
  intro w8 h8
  clear hne
  clear ka0 ka1 ka2 ka3 ka4 ka5 ka6 ka7 ka8 ka9 ka10 ks3 HCC
  obtain⟨kz0,kz1,kz2,kz3,kz4,kz5⟩:=Kit.cells6 (HR.out w8 h8)
  have kf:=fun i=>(HR.out w8 h8).frozen i
  go_wp2_with fail
  obtain⟨wf,hwf⟩:∃yy:World,yy=(((((w8.setCell ⟨gl+1,0,none⟩ (.int .i64 1)).setCell ⟨gl+1,1,none⟩ (.int .i64 (locS a s.locals))).setCell ⟨gl+1,2,none⟩ (.int .i64 a.mode)).setCell ⟨gl+1,3,none⟩ (.int .u64 0)).setCell ⟨gl+1,4,none⟩ (.bool false)).setCell ⟨gl+1,5,none⟩ (.bool false):=⟨_,rfl⟩
  have hBf:Blk wf (gl+1) 100 #[(.int .i64 1),(.int .i64 (locS a s.locals)),(.int .i64 a.mode),(.int .u64 0),(.bool false),(.bool false)]:=by rw[hwf];exact((((((HR.out w8 h8).set 0 _).set 1 _).set 2 _).set 3 _).set 4 _).set 5 _
  have hbf:Below gl w wf:=by
   rw[hwf]
   have hq:=HZ.out w8 h8
   exact(((((hq.setCell (p:=⟨gl+1,0,none⟩) (by simp) _).setCell (p:=⟨gl+1,1,none⟩) (by simp) _).setCell (p:=⟨gl+1,2,none⟩) (by simp) _).setCell (p:=⟨gl+1,3,none⟩) (by simp) _).setCell (p:=⟨gl+1,4,none⟩) (by simp) _).setCell (p:=⟨gl+1,5,none⟩) (by simp) _
  rw[←hwf]
  clear hwf
  obtain⟨e0,e1,e2,e3,e4,e5⟩:=Kit.cells6 hBf
  refine bodyPost_ret (v:=.agg #[(.int .i64 1),(.int .i64 (locS a s.locals)),(.int .i64 a.mode),(.int .u64 0),(.bool false),(.bool false)]) (by simp[results,Tryz.results80,go_sem,e0,e1,e2,e3,e4,e5]) rfl ?_
  exact⟨by rw[HX.out];rfl,by rw[HGL.out];exact hbf⟩
 have q2:(a.op == 2)=false:=by simp[h2]
 by_cases h3:a.op=3
 ·have hx:=HW0.out 3 h3
  have HX:=Lib.hid hx.symm
  have HCC:=HCL.out (by rw[h3];rfl)
  have HCE:=HCO.out (by rw[h3];rfl)
  clear hx q2
  rw[h3]at n0
  clear h2 h3
  obtain⟨ka0,ka1,ka2,ka3,ka4,ka5,ka6,ka7,ka8,ka9,ka10⟩:=Kit.cellsA11 fun p:Cls (Below w5.heap.size w5)=>(hAX.below' p.h)
  have ks3:∀p:Cls (Below w5.heap.size w5),p.w.cell? ⟨gl,3,none⟩=some (.slice B s.locals.length d):=fun p=>(hSX.below' p.h).cell 3
  go_upto_region 7 with fail
  clear n0 n7
  refine wp_region_cls_tail (Below w5.heap.size w5) 12 (Below_drewN _ 1) (by kernel_rfl) (by kernel_rfl) ?_
  intro hne
  simp only[List.take_succ_cons,List.take_zero,List.drop_succ_cons,List.drop_zero]
  repeat (go_big_quiet_step ((first |(go_at_call 126;exact(HCC _).out) |(go_at_call 127;exact(HCE _).out))))
  refine wpQuiet_nil ?_
  intro w8 h8
  clear hne
  clear ka0 ka1 ka2 ka3 ka4 ka5 ka6 ka7 ka8 ka9 ka10 ks3 HCC HCE
  obtain⟨kz0,kz1,kz2,kz3,kz4,kz5⟩:=Kit.cells6 (HR.out w8 h8)
  have kf:=fun i=>(HR.out w8 h8).frozen i
  go_wp2_with fail
  obtain⟨wf,hwf⟩:∃yy:World,yy=(((((w8.setCell ⟨gl+1,0,none⟩ (.int .i64 2)).setCell ⟨gl+1,1,none⟩ (.int .i64 (locS a s.locals))).setCell ⟨gl+1,2,none⟩ (.int .i64 a.mode)).setCell ⟨gl+1,3,none⟩ (.int .u64 (value a.e s.locals:Nat))).setCell ⟨gl+1,4,none⟩ (.bool false)).setCell ⟨gl+1,5,none⟩ (.bool false):=⟨_,rfl⟩
  have hBf:Blk wf (gl+1) 100 #[(.int .i64 2),(.int .i64 (locS a s.locals)),(.int .i64 a.mode),(.int .u64 (value a.e s.locals:Nat)),(.bool false),(.bool false)]:=by rw[hwf];exact((((((HR.out w8 h8).set 0 _).set 1 _).set 2 _).set 3 _).set 4 _).set 5 _
  have hbf:Below gl w wf:=by
   rw[hwf]
   have hq:=HZ.out w8 h8
   exact(((((hq.setCell (p:=⟨gl+1,0,none⟩) (by simp) _).setCell (p:=⟨gl+1,1,none⟩) (by simp) _).setCell (p:=⟨gl+1,2,none⟩) (by simp) _).setCell (p:=⟨gl+1,3,none⟩) (by simp) _).setCell (p:=⟨gl+1,4,none⟩) (by simp) _).setCell (p:=⟨gl+1,5,none⟩) (by simp) _
  rw[←hwf]
  clear hwf
  obtain⟨e0,e1,e2,e3,e4,e5⟩:=Kit.cells6 hBf
  refine bodyPost_ret (v:=.agg #[(.int .i64 2),(.int .i64 (locS a s.locals)),(.int .i64 a.mode),(.int .u64 (value a.e s.locals:Nat)),(.bool false),(.bool false)]) (by simp[results,Tryz.results80,go_sem,e0,e1,e2,e3,e4,e5]) rfl ?_
  exact⟨by rw[HX.out];rfl,by rw[HGL.out];exact hbf⟩
 have q3:(a.op == 3)=false:=by simp[h3]
 by_cases h7:a.op=7
 ·have hx:=HW0.out 7 h7
  have HX:=Lib.hid hx.symm
  clear hx q2 q3
  rw[h7]at n0
  clear h2 h3 h7
  obtain⟨kz0,kz1,kz2,kz3,kz4,kz5⟩:=Kit.cells6 (HR.out w5 (Below.refl _ _))
  have kf:=fun i=>(HR.out w5 (Below.refl _ _)).frozen i
  go_wp2_with fail
  obtain⟨wf,hwf⟩:∃yy:World,yy=(((((w5.setCell ⟨gl+1,0,none⟩ (.int .i64 3)).setCell ⟨gl+1,1,none⟩ (.int .i64 0)).setCell ⟨gl+1,2,none⟩ (.int .i64 a.mode)).setCell ⟨gl+1,3,none⟩ (.int .u64 0)).setCell ⟨gl+1,4,none⟩ (.bool false)).setCell ⟨gl+1,5,none⟩ (.bool false):=⟨_,rfl⟩
  have hBf:Blk wf (gl+1) 100 #[(.int .i64 3),(.int .i64 0),(.int .i64 a.mode),(.int .u64 0),(.bool false),(.bool false)]:=by rw[hwf];exact((((((HR.out w5 (Below.refl _ _)).set 0 _).set 1 _).set 2 _).set 3 _).set 4 _).set 5 _
  have hbf:Below gl w wf:=by
   rw[hwf]
   have hq:=HZ.out w5 (Below.refl _ _)
   exact(((((hq.setCell (p:=⟨gl+1,0,none⟩) (by simp) _).setCell (p:=⟨gl+1,1,none⟩) (by simp) _).setCell (p:=⟨gl+1,2,none⟩) (by simp) _).setCell (p:=⟨gl+1,3,none⟩) (by simp) _).setCell (p:=⟨gl+1,4,none⟩) (by simp) _).setCell (p:=⟨gl+1,5,none⟩) (by simp) _
  rw[←hwf]
  clear hwf
  obtain⟨e0,e1,e2,e3,e4,e5⟩:=Kit.cells6 hBf
  refine bodyPost_ret (v:=.agg #[(.int .i64 3),(.int .i64 0),(.int .i64 a.mode),(.int .u64 0),(.bool false),(.bool false)]) (by simp[results,Tryz.results80,go_sem,e0,e1,e2,e3,e4,e5]) rfl ?_
  exact⟨by rw[HX.out];rfl,by rw[HGL.out];exact hbf⟩
 have q7:(a.op == 7)=false:=by simp[h7]
 have ks3:w5.cell? ⟨gl,3,none⟩=some (.slice B s.locals.length d):=hSX.cell 3
 by_cases h8:a.op=8
 ·have hx:=HW0.out 8 h8
  have HX:=Lib.hid hx.symm
  have HO8:=Lib.hid (HOf.out (by rw[h8];rfl) w5 hbx)
  clear hx q2 q3 q7
  rw[h8]at n0
  clear h2 h3 h7 h8
  have n5:w5.cell? ⟨ga,5,none⟩=some (.slice E a.e.length ce):=hAX.cell 5
  go_upto_region 11 with fail
  go_wp2_with (go_at_call 127;refine HO8.out.mono ?_;rintro e w8 ⟨rfl,h8⟩;obtain⟨kz0,kz1,kz2,kz3,kz4,kz5⟩:=Kit.cells6 (HR.out w8 h8);have kf:=fun i=>(HR.out w8 h8).frozen i)
  obtain⟨wf,hwf⟩:∃yy:World,yy=(((((w8.setCell ⟨gl+1,0,none⟩ (.int .i64 4)).setCell ⟨gl+1,1,none⟩ (.int .i64 0)).setCell ⟨gl+1,2,none⟩ (.int .i64 0)).setCell ⟨gl+1,3,none⟩ (.int .u64 (value a.e s.locals:Nat))).setCell ⟨gl+1,4,none⟩ (.bool false)).setCell ⟨gl+1,5,none⟩ (.bool false):=⟨_,rfl⟩
  have hBf:Blk wf (gl+1) 100 #[(.int .i64 4),(.int .i64 0),(.int .i64 0),(.int .u64 (value a.e s.locals:Nat)),(.bool false),(.bool false)]:=by rw[hwf];exact((((((HR.out w8 h8).set 0 _).set 1 _).set 2 _).set 3 _).set 4 _).set 5 _
  have hbf:Below gl w wf:=by
   rw[hwf]
   have hq:=HZ.out w8 h8
   exact(((((hq.setCell (p:=⟨gl+1,0,none⟩) (by simp) _).setCell (p:=⟨gl+1,1,none⟩) (by simp) _).setCell (p:=⟨gl+1,2,none⟩) (by simp) _).setCell (p:=⟨gl+1,3,none⟩) (by simp) _).setCell (p:=⟨gl+1,4,none⟩) (by simp) _).setCell (p:=⟨gl+1,5,none⟩) (by simp) _
  rw[←hwf]
  clear hwf
  obtain⟨e0,e1,e2,e3,e4,e5⟩:=Kit.cells6 hBf
  refine bodyPost_ret (v:=.agg #[(.int .i64 4),(.int .i64 0),(.int .i64 0),(.int .u64 (value a.e s.locals:Nat)),(.bool false),(.bool false)]) (by simp[results,Tryz.results80,go_sem,e0,e1,e2,e3,e4,e5]) rfl ?_
  exact⟨by rw[HX.out];rfl,by rw[HGL.out];exact hbf⟩
 have q8:(a.op == 8)=false:=by simp[h8]
 have hpair:a.op=4∨a.op=5∨a.op=6:=by omega
 have hpl:hasPlace a.op=true:=by unfold hasPlace;rcases hpair with h | h | h <;> rw[h] <;> rfl
 have HX:Hid (s.wants a=⟨1,locS a s.locals,halfR a.mode,0,true,false⟩):=Lib.hid (by rw[HWT.out,if_neg h2,if_neg h3,if_neg h7,if_neg h8,(half_eq _ (mode_range HW.out hpair)).1])
 have HL8:=Lib.hid (HLoc.out hpl w5 hbx)
 have n1:w5.cell? ⟨ga,1,none⟩=some (.int .i64 a.dst):=hAX.cell 1
 have n2:w5.cell? ⟨ga,2,none⟩=some (.int .i64 a.base):=hAX.cell 2
 have n3:w5.cell? ⟨ga,3,none⟩=some (.int .i64 a.size):=hAX.cell 3
 have n4:w5.cell? ⟨ga,4,none⟩=some (.slice I a.index.length ci):=hAX.cell 4
 have n5:w5.cell? ⟨ga,5,none⟩=some (.slice E a.e.length ce):=hAX.cell 5
 have n6:w5.cell? ⟨ga,6,none⟩=some (.slice F a.f.length cf):=hAX.cell 6
 have n8:w5.cell? ⟨ga,8,none⟩=some (.int .i64 a.to):=hAX.cell 8
 have n9:w5.cell? ⟨ga,9,none⟩=some (.int .i64 a.line):=hAX.cell 9
 have n10:w5.cell? ⟨ga,10,none⟩=some (.int .i64 a.col):=hAX.cell 10
 go_upto_region 12 with fail
 go_wp2_with (go_at_call 126;refine HL8.out.mono ?_;rintro e w8 ⟨rfl,h8⟩;obtain⟨kz0,kz1,kz2,kz3,kz4,kz5⟩:=Kit.cells6 (HR.out w8 h8);have kf:=fun i=>(HR.out w8 h8).frozen i)
 obtain⟨wf,hwf⟩:∃yy:World,yy=(((((w8.setCell ⟨gl+1,0,none⟩ (.int .i64 1)).setCell ⟨gl+1,1,none⟩ (.int .i64 (locS a s.locals))).setCell ⟨gl+1,2,none⟩ (.int .i64 (halfR a.mode))).setCell ⟨gl+1,3,none⟩ (.int .u64 0)).setCell ⟨gl+1,4,none⟩ (.bool true)).setCell ⟨gl+1,5,none⟩ (.bool false):=⟨_,rfl⟩
 have hBf:Blk wf (gl+1) 100 #[(.int .i64 1),(.int .i64 (locS a s.locals)),(.int .i64 (halfR a.mode)),(.int .u64 0),(.bool true),(.bool false)]:=by rw[hwf];exact((((((HR.out w8 h8).set 0 _).set 1 _).set 2 _).set 3 _).set 4 _).set 5 _
 have hbf:Below gl w wf:=by
  rw[hwf]
  have hq:=HZ.out w8 h8
  exact(((((hq.setCell (p:=⟨gl+1,0,none⟩) (by simp) _).setCell (p:=⟨gl+1,1,none⟩) (by simp) _).setCell (p:=⟨gl+1,2,none⟩) (by simp) _).setCell (p:=⟨gl+1,3,none⟩) (by simp) _).setCell (p:=⟨gl+1,4,none⟩) (by simp) _).setCell (p:=⟨gl+1,5,none⟩) (by simp) _
 rw[←hwf]
 clear hwf
 obtain⟨e0,e1,e2,e3,e4,e5⟩:=Kit.cells6 hBf
 refine bodyPost_ret (v:=.agg #[(.int .i64 1),(.int .i64 (locS a s.locals)),(.int .i64 (halfR a.mode)),(.int .u64 0),(.bool true),(.bool false)]) (by simp[results,Tryz.results80,go_sem,e0,e1,e2,e3,e4,e5]) rfl ?_
 exact⟨by rw[HX.out];rfl,by rw[HGL.out];exact hbf⟩
end Go.Proofs.YtmjilfamjlnigaaGreat.RefW
