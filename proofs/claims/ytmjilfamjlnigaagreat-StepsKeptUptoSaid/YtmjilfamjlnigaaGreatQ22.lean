/- WALKS: a thread's state, the document's own way: what a pair's act wants behind its load (chapter 13). -/
import Derived.Test.YtmjilfamjlnigaaGreatQ20
import Derived.Test.YtmjilfamjlnigaaGreatQ21
namespace Go.Proofs.YtmjilfamjlnigaaGreat.RefW
open Go Go.RowKit Kit SrcP SrcW MchW
set_option maxRecDepth 100000 in
set_option maxHeartbeats 8000000 in
theorem Then_any {nc nl:Nat} (hnc:nc≤4096) (lc:Int) (A:Option Addr) (c:Nat) (vl:Value) (s:RS) (w:World) (h:StV nc nl w (.slice A s.acts.length c) vl s) (a:SrcP.Act) (ha:s.acts[s.at_]?=some a) (hpair:a.op=4∨a.op=5∨a.op=6) (v:Nat) (hv:v<M64) :
  Calls Tryz.prog 114 #[.agg (stC lc (.slice A s.acts.length c) s vl),.int .u64 (v:Int)] w fun r w'=>r=.returned (.agg (wantC (s.thenW a v)))∧Below w.heap.size w w':=by
 obtain⟨ad,vi,ve,vf,hN⟩:=h.next ha
 have HN:=Lib.hid hN
 obtain⟨rfl,hC,hAV,hlt,hwell⟩:=hN
 obtain⟨B,d,rfl,_⟩:=h.u64
 have HS:=Lib.hid h
 have HW:=Lib.hid hwell
 have HAV:=Lib.hid hAV
 have HLEN:Hid (s.locals.length=nl):=Lib.hid h.ok.len
 have a1:(s.at_:Int)<(s.acts.length:Int):=by omega
 have a2:(0:Int)≤(s.at_:Int):=by omega
 have hatl:s.acts.length≤65536:=h.ok.alen
 obtain⟨E,ce,rfl,_⟩:=HAV.out.e
 obtain⟨F,cf,rfl,_⟩:=HAV.out.f
 obtain⟨I,ci,rfl,_⟩:=HAV.out.index
 clear hwell hAV
 have hxe:value a.e s.locals<M64:=value_lt _ _ HS.out.ok.lt HW.out.le
 have HOf:Hid (∀w2,Below w.heap.size w w2→Calls Tryz.prog 127 #[.slice E a.e.length ce,.slice B s.locals.length d] w2 fun r w'=>r=.returned (.int .u64 (value a.e s.locals:Nat))∧Below w2.heap.size w2 w') :=
  Lib.hid fun w2 hb=>Of_any E B ce d a.e s.locals (by rw[HLEN.out];exact HW.out.e (by unfold hasE;rcases hpair with h | h | h <;> rw[h] <;> rfl)) w2 (HAV.out.e.below hb) (HS.out.u64.below hb)
 have HOfF:Hid (a.op=6→∀w2,Below w.heap.size w w2→Calls Tryz.prog 127 #[.slice F a.f.length cf,.slice B s.locals.length d] w2 fun r w'=>r=.returned (.int .u64 (value a.f s.locals:Nat))∧Below w2.heap.size w2 w') :=
  Lib.hid fun h6 w2 hb=>Of_any F B cf d a.f s.locals (by rw[HLEN.out];exact HW.out.f (by unfold hasF;rw[h6];rfl)) w2 (HAV.out.f.below hb) (HS.out.u64.below hb)
 have HLoc:Hid (∀w2,Below w.heap.size w w2→Calls Tryz.prog 126 #[.agg (actC a (.slice I a.index.length ci) (.slice E a.e.length ce) (.slice F a.f.length cf)),.slice B s.locals.length d] w2 fun r w'=>r=.returned (.int .i64 (locS a s.locals))∧Below w2.heap.size w2 w') :=
  Lib.hid fun w2 hb=>Loc_any a _ _ _ B d s.locals (by rw[HLEN.out];exact placeEv_of HW.out (by unfold hasPlace;rcases hpair with h | h | h <;> rw[h] <;> rfl) hnc) w2 (HAV.out.below hb) (HS.out.u64.below hb)
 have HHV:=fun w=>Lib.hid (Halves_any a.mode w)
 have HWT:Hid (s.thenW a v=if a.op=6∧value a.e s.locals≠v then Want.zero else⟨2,locS a s.locals,halfW a.mode,if a.op=5 then(value a.e s.locals+v) % M64 else if a.op=6 then value a.f s.locals else value a.e s.locals,true,false⟩):=Lib.hid (by rw[(half_eq _ (mode_range HW.out hpair)).2];rfl)
 unfold stC
 unfold actC at HLoc
 go_enter Tryz.func114,Tryz.ntmps114
 go_upto_region 1 with fail
 obtain⟨w1,hw1⟩:∃yy:World,yy=(w.alloc (.cells #[.int .i64 lc,.slice (some ad) s.acts.length c,.int .i64 s.at_,.slice B s.locals.length d] 82)).alloc (.cells #[.int .i64 0,.int .i64 0,.int .i64 0,.int .u64 0,.bool false,.bool false] 100):=⟨_,rfl⟩
 have hb1:Below w.heap.size w w1:=by rw[hw1];exact Kit.bl2
 have hS1:Blk w1 w.heap.size 82 #[.int .i64 lc,.slice (some ad) s.acts.length c,.int .i64 s.at_,.slice B s.locals.length d]:=by rw[hw1];exact(Blk.new _ _ _).alloc _
 have hR1:Blk w1 (w.heap.size+1) 100 #[.int .i64 0,.int .i64 0,.int .i64 0,.int .u64 0,.bool false,.bool false]:=by rw[hw1];exact Blk.newAt (sizeA _ _) _ _
 have hz1:w1.heap.size=w.heap.size+1+1:=by rw[hw1,sizeA,sizeA]
 rw[←hw1]
 clear hw1
 have hC1:=hC.below hb1
 have k1:w1.cell? ⟨w.heap.size,1,none⟩=some (.slice (some ad) s.acts.length c):=hS1.cell 1
 have k2:w1.cell? ⟨w.heap.size,2,none⟩=some (.int .i64 s.at_):=hS1.cell 2
 have r0:w1.cell? (ad.add (s.at_*11))=some (.int .i64 a.op):=hC1 0 _ rfl
 have r1:w1.cell? ⟨(ad.add (s.at_*11)).block,(ad.add (s.at_*11)).off+1,none⟩=some (.int .i64 a.dst):=hC1 1 _ rfl
 have r2:w1.cell? ⟨(ad.add (s.at_*11)).block,(ad.add (s.at_*11)).off+2,none⟩=some (.int .i64 a.base):=hC1 2 _ rfl
 have r3:w1.cell? ⟨(ad.add (s.at_*11)).block,(ad.add (s.at_*11)).off+3,none⟩=some (.int .i64 a.size):=hC1 3 _ rfl
 have r4:w1.cell? ⟨(ad.add (s.at_*11)).block,(ad.add (s.at_*11)).off+4,none⟩=some (.slice I a.index.length ci):=hC1 4 _ rfl
 have r5:w1.cell? ⟨(ad.add (s.at_*11)).block,(ad.add (s.at_*11)).off+5,none⟩=some (.slice E a.e.length ce):=hC1 5 _ rfl
 have r6:w1.cell? ⟨(ad.add (s.at_*11)).block,(ad.add (s.at_*11)).off+6,none⟩=some (.slice F a.f.length cf):=hC1 6 _ rfl
 have r7:w1.cell? ⟨(ad.add (s.at_*11)).block,(ad.add (s.at_*11)).off+7,none⟩=some (.int .i64 a.mode):=hC1 7 _ rfl
 have r8:w1.cell? ⟨(ad.add (s.at_*11)).block,(ad.add (s.at_*11)).off+8,none⟩=some (.int .i64 a.to):=hC1 8 _ rfl
 have r9:w1.cell? ⟨(ad.add (s.at_*11)).block,(ad.add (s.at_*11)).off+9,none⟩=some (.int .i64 a.line):=hC1 9 _ rfl
 have r10:w1.cell? ⟨(ad.add (s.at_*11)).block,(ad.add (s.at_*11)).off+10,none⟩=some (.int .i64 a.col):=hC1 10 _ rfl
 clear hC hC1
 go_upto_region 2 with fail
 obtain⟨wx,hwx⟩:∃yy:World,yy=w1.alloc (.cells #[.int .i64 a.op,.int .i64 a.dst,.int .i64 a.base,.int .i64 a.size,.slice I a.index.length ci,.slice E a.e.length ce,.slice F a.f.length cf,.int .i64 a.mode,.int .i64 a.to,.int .i64 a.line,.int .i64 a.col] 58):=⟨_,rfl⟩
 have hbx:Below w.heap.size w wx:=by rw[hwx];exact Kit.Below.al hb1 _
 have hSX:Blk wx w.heap.size 82 #[.int .i64 lc,.slice (some ad) s.acts.length c,.int .i64 s.at_,.slice B s.locals.length d]:=by rw[hwx];exact hS1.alloc _
 have hRX:Blk wx (w.heap.size+1) 100 #[.int .i64 0,.int .i64 0,.int .i64 0,.int .u64 0,.bool false,.bool false]:=by rw[hwx];exact hR1.alloc _
 have hAX:Blk wx (w.heap.size+1+1) 58 #[.int .i64 a.op,.int .i64 a.dst,.int .i64 a.base,.int .i64 a.size,.slice I a.index.length ci,.slice E a.e.length ce,.slice F a.f.length cf,.int .i64 a.mode,.int .i64 a.to,.int .i64 a.line,.int .i64 a.col]:=by rw[hwx];exact Blk.newAt hz1 _ _
 rw[hz1]at *
 rw[←hwx]
 clear hwx hS1 hR1 hz1 hb1 k1 k2 r0 r1 r2 r3 r4 r5 r6 r7 r8 r9 r10
 have hlt3:=hAX.lt
 generalize hgl:w.heap.size=gl at *
 have HGL:=Lib.hid hgl
 clear hgl
 generalize hga:gl+1+1=ga at *
 have HGA:=Lib.hid hga
 clear hga
 have n0:wx.cell? ⟨ga,0,none⟩=some (.int .i64 a.op):=hAX.cell 0
 have HZ:Hid (∀w2,Below wx.heap.size wx w2→Below gl w w2):=Lib.hid fun w2 hb=>hbx.trans (hb.mono (Nat.le_of_lt hSX.lt))
 have n7:wx.cell? ⟨ga,7,none⟩=some (.int .i64 a.mode):=hAX.cell 7
 go_upto_region 3 with (go_at_call 125;refine(HHV _).out.mono ?_;rintro e w5 ⟨rfl,rfl⟩)
 clear HHV n0 n7
 have HLX:Hid (∀w2,Below w5.heap.size w5 w2→Hid (Calls Tryz.prog 126 #[.agg #[.int .i64 a.op,.int .i64 a.dst,.int .i64 a.base,.int .i64 a.size,.slice I a.index.length ci,.slice E a.e.length ce,.slice F a.f.length cf,.int .i64 a.mode,.int .i64 a.to,.int .i64 a.line,.int .i64 a.col],.slice B s.locals.length d] w2 fun r w'=>r=.returned (.int .i64 (locS a s.locals))∧Below w2.heap.size w2 w')):=Lib.hid fun w2 hb=>Lib.hid (HLoc.out w2 (HZ.out w2 hb))
 have HEX:Hid (∀w2,Below w5.heap.size w5 w2→Hid (Calls Tryz.prog 127 #[.slice E a.e.length ce,.slice B s.locals.length d] w2 fun r w'=>r=.returned (.int .u64 (value a.e s.locals:Nat))∧Below w2.heap.size w2 w')):=Lib.hid fun w2 hb=>Lib.hid (HOf.out w2 (HZ.out w2 hb))
 have HR:Hid (∀w2,Below w5.heap.size w5 w2→Blk w2 (gl+1) 100 #[.int .i64 0,.int .i64 0,.int .i64 0,.int .u64 0,.bool false,.bool false]):=Lib.hid fun w2 hb=>hRX.below' hb
 clear hpair
 generalize locS a s.locals=y at *
 generalize value a.e s.locals=xe at *
 go_cut [8] (fun s8 wz=>∃gx,s8=.pointer (some ⟨gx,0,none⟩)∧Blk wz gx 100 #[.int .i64 2,.int .i64 y,.int .i64 (halfW a.mode),.int .u64 xe,.bool true,.bool false]∧Below w5.heap.size w5 wz∧w5.heap.size≤gx)
 case first =>
  obtain⟨ka0,ka1,ka2,ka3,ka4,ka5,ka6,ka7,ka8,ka9,ka10⟩:=Kit.cellsA11 fun p:Cls (Below w5.heap.size w5)=>(hAX.below' p.h)
  have ks3:∀p:Cls (Below w5.heap.size w5),p.w.cell? ⟨gl,3,none⟩=some (.slice B s.locals.length d):=fun p=>(hSX.below' p.h).cell 3
  refine wp_region_float (Below w5.heap.size w5) 12 4 [0,1,2,4,5,6,7,8] [] (Below_drewN _ 1) (by kernel_rfl) (by kernel_rfl) ?_
  intro hne
  simp only[pickL,List.map_cons,List.map_nil,List.getElem?_cons_succ,List.getElem?_cons_zero,Option.getD_some]
  repeat (go_big_quiet_step (fail))
  refine wpQuiet_nil ?_
  intro w6 h6
  clear hne ka0 ka1 ka2 ka3 ka4 ka5 ka6 ka7 ka8 ka9 ka10 ks3
  refine floatG_two (i:=3) (i':=11) (by kernel_rfl) (by decide) (by decide) rfl rfl ?_ ?_
  ·skip
   go_wp2_with (go_at_call 126;refine(HLX.out _ h6).out.mono ?_;rintro e w7 ⟨rfl,hq⟩)
   have h7:=Kit.Below.then h6 hq
   skip
   refine Kit.oG h7 ?_
   refine floatG_two (i:=9) (i':=11) (by kernel_rfl) (by decide) (by decide) rfl rfl ?_ ?_
   ·skip
    go_wp2_with (go_at_call 127;refine(HEX.out _ h7).out.mono ?_;rintro e w8 ⟨rfl,hq2⟩)
    have h8:=Kit.Below.then h7 hq2
    skip
    refine Kit.oG h8 ?_
    refine floatG_two (i:=10) (i':=11) (by kernel_rfl) (by decide) (by decide) rfl rfl ?_ ?_
    ·skip
     go_wp2_with fail
     refine Kit.oG h8 ?_
     refine fG (i:=11) rfl ?_
     go_wp2_with fail
     have h9:=Kit.Below.al h8 (.cells #[.int .i64 0,.int .i64 0,.int .i64 0,.int .u64 0,.bool false,.bool false] 100)
     have hz:=Blk.new w8 100 #[.int .i64 0,.int .i64 0,.int .i64 0,.int .u64 0,.bool false,.bool false]
     have hgx:w5.heap.size≤w8.heap.size:=h8.size
     generalize w8.heap.size=gx at *
     generalize w8.alloc (.cells #[.int .i64 0,.int .i64 0,.int .i64 0,.int .u64 0,.bool false,.bool false] 100)=w9 at *
     refine Kit.oG h9 ?_
     refine(show tailG _ _ _ _ _ _ _ from⟨by kernel_rfl,?_⟩)
     simp only[List.drop_succ_cons,List.drop_zero]
     obtain⟨d0,d1,d2,d3,d4,d5⟩:=Kit.cells6 hz
     have df:=fun i=>hz.frozen i
     go_wp2_with fail
     go_meet
     exact⟨gx,rfl,blk_set6 hz _ _ _ _ _ _,below_set6 h9 hgx _ _ _ _ _ _,hgx⟩
    ·skip
     go_wp2_with fail
     have h9:=Kit.Below.al h8 (.cells #[.int .i64 0,.int .i64 0,.int .i64 0,.int .u64 0,.bool false,.bool false] 100)
     have hz:=Blk.new w8 100 #[.int .i64 0,.int .i64 0,.int .i64 0,.int .u64 0,.bool false,.bool false]
     have hgx:w5.heap.size≤w8.heap.size:=h8.size
     generalize w8.heap.size=gx at *
     generalize w8.alloc (.cells #[.int .i64 0,.int .i64 0,.int .i64 0,.int .u64 0,.bool false,.bool false] 100)=w9 at *
     refine Kit.oG h9 ?_
     refine fG (i:=10) rfl ?_
     go_wp2_with fail
     refine Kit.oG h9 ?_
     refine(show tailG _ _ _ _ _ _ _ from⟨by kernel_rfl,?_⟩)
     simp only[List.drop_succ_cons,List.drop_zero]
     obtain⟨d0,d1,d2,d3,d4,d5⟩:=Kit.cells6 hz
     have df:=fun i=>hz.frozen i
     go_wp2_with fail
     go_meet
     exact⟨gx,rfl,blk_set6 hz _ _ _ _ _ _,below_set6 h9 hgx _ _ _ _ _ _,hgx⟩
   ·skip
    go_wp2_with fail
    have h8:=Kit.Below.al h7 (.cells #[.int .i64 0,.int .i64 0,.int .i64 0,.int .u64 0,.bool false,.bool false] 100)
    have hz:=Blk.new w7 100 #[.int .i64 0,.int .i64 0,.int .i64 0,.int .u64 0,.bool false,.bool false]
    have hgx:w5.heap.size≤w7.heap.size:=h7.size
    generalize w7.heap.size=gx at *
    generalize w7.alloc (.cells #[.int .i64 0,.int .i64 0,.int .i64 0,.int .u64 0,.bool false,.bool false] 100)=w8 at *
    refine Kit.oG h8 ?_
    refine fG (i:=9) rfl ?_
    go_wp2_with (go_at_call 127;refine(HEX.out _ h8).out.mono ?_;rintro e w9 ⟨rfl,hq2⟩)
    have h9:=Kit.Below.then h8 hq2
    replace hz:=hz.below' hq2
    refine Kit.oG h9 ?_
    refine fG (i:=10) rfl ?_
    go_wp2_with fail
    refine Kit.oG h9 ?_
    refine(show tailG _ _ _ _ _ _ _ from⟨by kernel_rfl,?_⟩)
    simp only[List.drop_succ_cons,List.drop_zero]
    obtain⟨d0,d1,d2,d3,d4,d5⟩:=Kit.cells6 hz
    have df:=fun i=>hz.frozen i
    go_wp2_with fail
    go_meet
    exact⟨gx,rfl,blk_set6 hz _ _ _ _ _ _,below_set6 h9 hgx _ _ _ _ _ _,hgx⟩
  ·skip
   go_wp2_with fail
   have h7:=Kit.Below.al h6 (.cells #[.int .i64 0,.int .i64 0,.int .i64 0,.int .u64 0,.bool false,.bool false] 100)
   have hz:=Blk.new w6 100 #[.int .i64 0,.int .i64 0,.int .i64 0,.int .u64 0,.bool false,.bool false]
   have hgx:w5.heap.size≤w6.heap.size:=h6.size
   generalize w6.heap.size=gx at *
   generalize w6.alloc (.cells #[.int .i64 0,.int .i64 0,.int .i64 0,.int .u64 0,.bool false,.bool false] 100)=w7 at *
   refine Kit.oG h7 ?_
   refine fG (i:=3) rfl ?_
   go_wp2_with (go_at_call 126;refine(HLX.out _ h7).out.mono ?_;rintro e w8 ⟨rfl,hq⟩)
   have h8:=Kit.Below.then h7 hq
   replace hz:=hz.below' hq
   refine Kit.oG h8 ?_
   refine fG (i:=9) rfl ?_
   go_wp2_with (go_at_call 127;refine(HEX.out _ h8).out.mono ?_;rintro e w9 ⟨rfl,hq2⟩)
   have h9:=Kit.Below.then h8 hq2
   replace hz:=hz.below' hq2
   refine Kit.oG h9 ?_
   refine fG (i:=10) rfl ?_
   go_wp2_with fail
   refine Kit.oG h9 ?_
   refine(show tailG _ _ _ _ _ _ _ from⟨by kernel_rfl,?_⟩)
   simp only[List.drop_succ_cons,List.drop_zero]
   obtain⟨d0,d1,d2,d3,d4,d5⟩:=Kit.cells6 hz
   have df:=fun i=>hz.frozen i
   go_wp2_with fail
   go_meet
   exact⟨gx,rfl,blk_set6 hz _ _ _ _ _ _,below_set6 h9 hgx _ _ _ _ _ _,hgx⟩
 case rest =>
  obtain⟨gx,rfl,hX,hbz,hgx⟩:=hcut
  have hAc:=hAX.below' hbz
  have hSc:=hSX.below' hbz
  have hRc:=hRX.below' hbz
  have hgg:=hRX.lt
  have hag:=hAX.lt
  have hsg:=hSX.lt
  have hbc:=HZ.out wc hbz
  have hbb:=hbz.size
  clear HLX HEX HLoc HOf hAX hSX hRX hbx HZ HR
  have n0:wc.cell? ⟨ga,0,none⟩=some (.int .i64 a.op):=hAc.cell 0
  have xf:=fun i=>hX.frozen i
  have x3:wc.cell? ⟨gx,3,none⟩=some (.int .u64 xe):=hX.cell 3
  by_cases h5:a.op=5
  ·obtain⟨z,hz⟩:∃z:Nat,z=(xe+v) % M64:=⟨_,rfl⟩
   have HX:Hid (s.thenW a v=⟨2,y,halfW a.mode,z,true,false⟩):=Lib.hid (by rw[HWT.out,if_neg (by omega),if_pos h5,hz])
   rw[h5]at n0
   have H5:=Lib.hid h5
   clear h5
   have e9:Hid (IntKind.u64.wrap ((xe:Int)+(v:Int))=(z:Int)):=Lib.hid (by rw[hz,IntKind.wrap_u64,Int.natCast_emod,Int.natCast_add];rfl)
   clear hz
   go_upto_region 6 with fail
   obtain⟨w6,hw6⟩:∃q,q=wc.setCell ⟨gx,3,none⟩ (.int .u64 (IntKind.u64.wrap ((xe:Int)+(v:Int)))):=⟨_,rfl⟩
   have hX6:Blk w6 gx 100 #[.int .i64 2,.int .i64 y,.int .i64 (halfW a.mode),.int .u64 (z:Int),.bool true,.bool false]:=by rw[hw6,e9.out];exact hX.set 3 _
   have hA6:=hAc.farN (b:=gx) (o:=3) (by omega) (.int .u64 (IntKind.u64.wrap ((xe:Int)+(v:Int))))
   have hR6:=hRc.farN (b:=gx) (o:=3) (by omega) (.int .u64 (IntKind.u64.wrap ((xe:Int)+(v:Int))))
   have hb6:Below gl w w6:=by rw[hw6];exact hbc.setCell (p:=⟨gx,3,none⟩) (by show gl≤gx;omega) _
   rw[←hw6]at hA6 hR6 ⊢
   clear hw6 n0 x3 xf hX hAc hRc hSc hbc
   have n0:w6.cell? ⟨ga,0,none⟩=some (.int .i64 5):=by rw[←H5.out];exact hA6.cell 0
   go_upto_region 10 with fail
   obtain⟨x0,x1,x2,x3,x4,x5⟩:=Kit.cells6 hX6
   have HR:Hid (∀w2,Below w6.heap.size w6 w2→Blk w2 (gl+1) 100 #[.int .i64 0,.int .i64 0,.int .i64 0,.int .u64 0,.bool false,.bool false]):=Lib.hid fun w2 hb=>hR6.below' hb
   have HZ:Hid (∀w2,Below w6.heap.size w6 w2→Below gl w w2):=Lib.hid fun w2 hb=>hb6.trans (hb.mono (by have:=hR6.lt;omega))
   obtain⟨kz0,kz1,kz2,kz3,kz4,kz5⟩:=Kit.cells6 (HR.out w6 (Below.refl _ _))
   have kf:=fun i=>(HR.out w6 (Below.refl _ _)).frozen i
   go_wp2_with fail
   obtain⟨wf,hwf⟩:∃yy:World,yy=(((((w6.setCell ⟨gl+1,0,none⟩ (.int .i64 2)).setCell ⟨gl+1,1,none⟩ (.int .i64 y)).setCell ⟨gl+1,2,none⟩ (.int .i64 (halfW a.mode))).setCell ⟨gl+1,3,none⟩ (.int .u64 (z:Int))).setCell ⟨gl+1,4,none⟩ (.bool true)).setCell ⟨gl+1,5,none⟩ (.bool false):=⟨_,rfl⟩
   have hBf:Blk wf (gl+1) 100 #[(.int .i64 2),(.int .i64 y),(.int .i64 (halfW a.mode)),(.int .u64 (z:Int)),(.bool true),(.bool false)]:=by rw[hwf];exact((((((HR.out w6 (Below.refl _ _)).set 0 _).set 1 _).set 2 _).set 3 _).set 4 _).set 5 _
   have hbf:Below gl w wf:=by
    rw[hwf]
    have hq:=HZ.out w6 (Below.refl _ _)
    exact(((((hq.setCell (p:=⟨gl+1,0,none⟩) (by simp) _).setCell (p:=⟨gl+1,1,none⟩) (by simp) _).setCell (p:=⟨gl+1,2,none⟩) (by simp) _).setCell (p:=⟨gl+1,3,none⟩) (by simp) _).setCell (p:=⟨gl+1,4,none⟩) (by simp) _).setCell (p:=⟨gl+1,5,none⟩) (by simp) _
   rw[←hwf]
   clear hwf
   obtain⟨e0,e1,e2,e3,e4,e5⟩:=Kit.cells6 hBf
   refine bodyPost_ret (v:=.agg #[(.int .i64 2),(.int .i64 y),(.int .i64 (halfW a.mode)),(.int .u64 (z:Int)),(.bool true),(.bool false)]) (by simp[results,Tryz.results114,go_sem,e0,e1,e2,e3,e4,e5]) rfl ?_
   exact⟨by rw[HX.out];rfl,by rw[HGL.out];exact hbf⟩
  ·have q5:(a.op == 5)=false:=by simp[h5]
   by_cases h6:a.op=6
   ·have HOF:=Lib.hid (HOfF.out h6 wc hbc)
    have n6:wc.cell? ⟨ga,6,none⟩=some (.slice F a.f.length cf):=hAc.cell 6
    have n3:wc.cell? ⟨gl,3,none⟩=some (.slice B s.locals.length d):=hSc.cell 3
    rw[h6]at n0
    have H6:=Lib.hid h6
    clear h6 h5 q5
    by_cases hne:xe=v
    ·have HX:Hid (s.thenW a v=⟨2,y,halfW a.mode,value a.f s.locals,true,false⟩):=Lib.hid (by rw[HWT.out,if_neg (by omega),if_neg (by rw[H6.out];decide),if_pos H6.out])
     subst hne
     generalize value a.f s.locals=z at *
     go_upto_region 10 with (go_at_call 127;refine HOF.out.mono ?_;rintro e w7 ⟨rfl,hb7⟩;have x3:w7.cell? ⟨gx,3,none⟩=some (.int .u64 xe):=(hX.below' hb7).cell 3;have xf:=fun i=>(hX.below' hb7).frozen i)
     have hX7:=hX.below' hb7
     have hR7:=hRc.below' hb7
     obtain⟨w6,hw6⟩:∃q,q=w7.setCell ⟨gx,3,none⟩ (.int .u64 (z:Int)):=⟨_,rfl⟩
     have hX6:Blk w6 gx 100 #[.int .i64 2,.int .i64 y,.int .i64 (halfW a.mode),.int .u64 (z:Int),.bool true,.bool false]:=by rw[hw6];exact hX7.set 3 _
     have hR6:Blk w6 (gl+1) 100 #[.int .i64 0,.int .i64 0,.int .i64 0,.int .u64 0,.bool false,.bool false]:=by rw[hw6];exact hR7.farN (by omega) _
     have hb6:Below gl w w6:=by rw[hw6];exact(hbc.trans (hb7.mono (by omega))).setCell (p:=⟨gx,3,none⟩) (by show gl≤gx;omega) _
     rw[←hw6]
     clear hw6 n0 x3 xf hX hAc hRc hSc hbc hX7 hR7
     obtain⟨x0,x1,x2,x3,x4,x5⟩:=Kit.cells6 hX6
     have HR:Hid (∀w2,Below w6.heap.size w6 w2→Blk w2 (gl+1) 100 #[.int .i64 0,.int .i64 0,.int .i64 0,.int .u64 0,.bool false,.bool false]):=Lib.hid fun w2 hb=>hR6.below' hb
     have HZ:Hid (∀w2,Below w6.heap.size w6 w2→Below gl w w2):=Lib.hid fun w2 hb=>hb6.trans (hb.mono (by have:=hR6.lt;omega))
     obtain⟨kz0,kz1,kz2,kz3,kz4,kz5⟩:=Kit.cells6 (HR.out w6 (Below.refl _ _))
     have kf:=fun i=>(HR.out w6 (Below.refl _ _)).frozen i
     go_wp2_with fail
     obtain⟨wf,hwf⟩:∃yy:World,yy=(((((w6.setCell ⟨gl+1,0,none⟩ (.int .i64 2)).setCell ⟨gl+1,1,none⟩ (.int .i64 y)).setCell ⟨gl+1,2,none⟩ (.int .i64 (halfW a.mode))).setCell ⟨gl+1,3,none⟩ (.int .u64 (z:Int))).setCell ⟨gl+1,4,none⟩ (.bool true)).setCell ⟨gl+1,5,none⟩ (.bool false):=⟨_,rfl⟩
     have hBf:Blk wf (gl+1) 100 #[(.int .i64 2),(.int .i64 y),(.int .i64 (halfW a.mode)),(.int .u64 (z:Int)),(.bool true),(.bool false)]:=by rw[hwf];exact((((((HR.out w6 (Below.refl _ _)).set 0 _).set 1 _).set 2 _).set 3 _).set 4 _).set 5 _
     have hbf:Below gl w wf:=by
      rw[hwf]
      have hq:=HZ.out w6 (Below.refl _ _)
      exact(((((hq.setCell (p:=⟨gl+1,0,none⟩) (by simp) _).setCell (p:=⟨gl+1,1,none⟩) (by simp) _).setCell (p:=⟨gl+1,2,none⟩) (by simp) _).setCell (p:=⟨gl+1,3,none⟩) (by simp) _).setCell (p:=⟨gl+1,4,none⟩) (by simp) _).setCell (p:=⟨gl+1,5,none⟩) (by simp) _
     rw[←hwf]
     clear hwf
     obtain⟨e0,e1,e2,e3,e4,e5⟩:=Kit.cells6 hBf
     refine bodyPost_ret (v:=.agg #[(.int .i64 2),(.int .i64 y),(.int .i64 (halfW a.mode)),(.int .u64 (z:Int)),(.bool true),(.bool false)]) (by simp[results,Tryz.results114,go_sem,e0,e1,e2,e3,e4,e5]) rfl ?_
     exact⟨by rw[HX.out];rfl,by rw[HGL.out];exact hbf⟩
    ·have HX:Hid (s.thenW a v=Want.zero):=Lib.hid (by rw[HWT.out,if_pos ⟨H6.out,hne⟩])
     have hne2:((xe:Int) != (v:Int))=true:=by simp;omega
     clear hne
     go_upto_region 8 with fail
     have HR:Hid (∀w2,Below wc.heap.size wc w2→Blk w2 (gl+1) 100 #[.int .i64 0,.int .i64 0,.int .i64 0,.int .u64 0,.bool false,.bool false]):=Lib.hid fun w2 hb=>hRc.below' hb
     have HZ:Hid (∀w2,Below wc.heap.size wc w2→Below gl w w2):=Lib.hid fun w2 hb=>hbc.trans (hb.mono (by have:=hRc.lt;omega))
     obtain⟨kz0,kz1,kz2,kz3,kz4,kz5⟩:=Kit.cells6 (HR.out wc (Below.refl _ _))
     have kf:=fun i=>(HR.out wc (Below.refl _ _)).frozen i
     go_wp2_with fail
     obtain⟨wf,hwf⟩:∃yy:World,yy=(((((wc.setCell ⟨gl+1,0,none⟩ (.int .i64 0)).setCell ⟨gl+1,1,none⟩ (.int .i64 0)).setCell ⟨gl+1,2,none⟩ (.int .i64 0)).setCell ⟨gl+1,3,none⟩ (.int .u64 0)).setCell ⟨gl+1,4,none⟩ (.bool false)).setCell ⟨gl+1,5,none⟩ (.bool false):=⟨_,rfl⟩
     have hBf:Blk wf (gl+1) 100 #[(.int .i64 0),(.int .i64 0),(.int .i64 0),(.int .u64 0),(.bool false),(.bool false)]:=by rw[hwf];exact((((((HR.out wc (Below.refl _ _)).set 0 _).set 1 _).set 2 _).set 3 _).set 4 _).set 5 _
     have hbf:Below gl w wf:=by
      rw[hwf]
      have hq:=HZ.out wc (Below.refl _ _)
      exact(((((hq.setCell (p:=⟨gl+1,0,none⟩) (by simp) _).setCell (p:=⟨gl+1,1,none⟩) (by simp) _).setCell (p:=⟨gl+1,2,none⟩) (by simp) _).setCell (p:=⟨gl+1,3,none⟩) (by simp) _).setCell (p:=⟨gl+1,4,none⟩) (by simp) _).setCell (p:=⟨gl+1,5,none⟩) (by simp) _
     rw[←hwf]
     clear hwf
     obtain⟨e0,e1,e2,e3,e4,e5⟩:=Kit.cells6 hBf
     refine bodyPost_ret (v:=.agg #[(.int .i64 0),(.int .i64 0),(.int .i64 0),(.int .u64 0),(.bool false),(.bool false)]) (by simp[results,Tryz.results114,go_sem,e0,e1,e2,e3,e4,e5]) rfl ?_
     exact⟨by rw[HX.out];rfl,by rw[HGL.out];exact hbf⟩
   ·have q6:(a.op == 6)=false:=by simp[h6]
    have HX:Hid (s.thenW a v=⟨2,y,halfW a.mode,xe,true,false⟩):=Lib.hid (by rw[HWT.out,if_neg (by omega),if_neg h5,if_neg h6])
    go_upto_region 10 with fail
    clear x3
    obtain⟨x0,x1,x2,x3,x4,x5⟩:=Kit.cells6 hX
    have HR:Hid (∀w2,Below wc.heap.size wc w2→Blk w2 (gl+1) 100 #[.int .i64 0,.int .i64 0,.int .i64 0,.int .u64 0,.bool false,.bool false]):=Lib.hid fun w2 hb=>hRc.below' hb
    have HZ:Hid (∀w2,Below wc.heap.size wc w2→Below gl w w2):=Lib.hid fun w2 hb=>hbc.trans (hb.mono (by have:=hRc.lt;omega))
    obtain⟨kz0,kz1,kz2,kz3,kz4,kz5⟩:=Kit.cells6 (HR.out wc (Below.refl _ _))
    have kf:=fun i=>(HR.out wc (Below.refl _ _)).frozen i
    go_wp2_with fail
    obtain⟨wf,hwf⟩:∃yy:World,yy=(((((wc.setCell ⟨gl+1,0,none⟩ (.int .i64 2)).setCell ⟨gl+1,1,none⟩ (.int .i64 y)).setCell ⟨gl+1,2,none⟩ (.int .i64 (halfW a.mode))).setCell ⟨gl+1,3,none⟩ (.int .u64 (xe:Int))).setCell ⟨gl+1,4,none⟩ (.bool true)).setCell ⟨gl+1,5,none⟩ (.bool false):=⟨_,rfl⟩
    have hBf:Blk wf (gl+1) 100 #[(.int .i64 2),(.int .i64 y),(.int .i64 (halfW a.mode)),(.int .u64 (xe:Int)),(.bool true),(.bool false)]:=by rw[hwf];exact((((((HR.out wc (Below.refl _ _)).set 0 _).set 1 _).set 2 _).set 3 _).set 4 _).set 5 _
    have hbf:Below gl w wf:=by
     rw[hwf]
     have hq:=HZ.out wc (Below.refl _ _)
     exact(((((hq.setCell (p:=⟨gl+1,0,none⟩) (by simp) _).setCell (p:=⟨gl+1,1,none⟩) (by simp) _).setCell (p:=⟨gl+1,2,none⟩) (by simp) _).setCell (p:=⟨gl+1,3,none⟩) (by simp) _).setCell (p:=⟨gl+1,4,none⟩) (by simp) _).setCell (p:=⟨gl+1,5,none⟩) (by simp) _
    rw[←hwf]
    clear hwf
    obtain⟨e0,e1,e2,e3,e4,e5⟩:=Kit.cells6 hBf
    refine bodyPost_ret (v:=.agg #[(.int .i64 2),(.int .i64 y),(.int .i64 (halfW a.mode)),(.int .u64 (xe:Int)),(.bool true),(.bool false)]) (by simp[results,Tryz.results114,go_sem,e0,e1,e2,e3,e4,e5]) rfl ?_
    exact⟨by rw[HX.out];rfl,by rw[HGL.out];exact hbf⟩
end Go.Proofs.YtmjilfamjlnigaaGreat.RefW
