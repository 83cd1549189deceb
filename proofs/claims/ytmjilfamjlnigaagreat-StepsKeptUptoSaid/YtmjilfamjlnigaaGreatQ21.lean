/- WALKS: what an act that reads and writes wants. -/
import Derived.Test.YtmjilfamjlnigaaGreatQ09
namespace Go.Proofs.YtmjilfamjlnigaaGreat.MchW
open Go Go.RowKit Kit SrcP SrcW
theorem pair_mode {op mode:Int} (h:mayB op mode=true) (hop:op=4∨op=5∨op=6):1≤mode∧mode≤5:=by
 unfold mayB at h
 rw[if_neg (by omega),if_neg (by omega),if_pos hop]at h
 simpa using h
def pairV (m:Mch) (a:SrcP.Act):Nat:=if a.op=5 then(value a.e m.locals+m.old) % M64 else if a.op=6 then value a.f m.locals else value a.e m.locals
set_option maxRecDepth 100000 in
set_option maxHeartbeats 8000000 in
theorem pair_any {w:World} {g gl nl cells:Nat} (hcells:cells≤4096) {tl:Int} {va:Value} {m:Mch} (h:MachM w g gl tl va nl m) (hw:MchW cells nl m) {n:Nat} (a:SrcP.Act) (ha:ActWell cells nl n a) (hop:a.op=4∨a.op=5∨a.op=6) {I E F:Option Addr} {li ci le ce lf cf:Nat} (hav:ActV w (.slice I li ci) (.slice E le ce) (.slice F lf cf) a) :
  Calls Tryz.prog 225 #[.pointer (some ⟨g,0,none⟩),.agg (actC a (.slice I li ci) (.slice E le ce) (.slice F lf cf))] w fun r w'=>r=.returned (.agg (wantC (wantS m a)).toArray)∧Below w.heap.size w w':=by
 have hmode:=pair_mode ha.parts.2.1 hop
 have hws:wantS m a=if m.opn=true then⟨2,locS a m.locals,writing a.mode,pairV m a,true,false⟩else⟨1,locS a m.locals,reading a.mode,0,true,false⟩:=by
  unfold wantS pairV
  rw[if_neg (by omega),if_neg (by omega),if_neg (by omega),if_neg (by omega)]
 generalize hwt:wantS m a=wt at *
 have HWT:=Lib.hid hws
 clear hws hwt
 obtain⟨_,_,hle,_⟩:=hav.e
 obtain⟨rfl,rfl,rfl⟩:E=_∧le=a.e.length∧ce=_:=by simpa using hle
 have HVE:∀w2,Below w.heap.size w w2→Calls Tryz.prog 217 #[.slice E a.e.length ce,.slice (some ⟨gl,0,none⟩) nl nl] w2 fun r w'=>r=.returned (.int .u64 (value a.e m.locals:Nat))∧Below w2.heap.size w2 w' :=
  fun w2 hb=>(val_any (h.below hb) hw a.e (hav.e.below hb) (ha.e (by unfold hasE;rcases hop with e | e | e <;> simp[e]))).mono fun _ _ ⟨e1,e2,_⟩=>⟨e1,e2⟩
 have HVE:=Lib.hid HVE
 obtain⟨_,_,hlf,_⟩:=hav.f
 obtain⟨rfl,rfl,rfl⟩:F=_∧lf=a.f.length∧cf=_:=by simpa using hlf
 have HVF:∀w2,Below w.heap.size w w2→a.op=6→Calls Tryz.prog 217 #[.slice F a.f.length cf,.slice (some ⟨gl,0,none⟩) nl nl] w2 fun r w'=>r=.returned (.int .u64 (value a.f m.locals:Nat))∧Below w2.heap.size w2 w' :=
  fun w2 hb h6=>(val_any (h.below hb) hw a.f (hav.f.below hb) (ha.f (by simp[hasF,h6]))).mono fun _ _ ⟨e1,e2,_⟩=>⟨e1,e2⟩
 have HVF:=Lib.hid HVF
 have HL:∀w2,Below w.heap.size w w2→Calls Tryz.prog 231 #[.pointer (some ⟨g,0,none⟩),.agg (actC a (.slice I li ci) (.slice E a.e.length ce) (.slice F a.f.length cf))] w2 fun r w'=>r=.returned (.int .i64 (locS a m.locals))∧Below w2.heap.size w2 w' :=
  fun w2 hb=>loc_any hcells (h.below hb) hw a ha (by unfold hasPlace;rcases hop with e | e | e <;> simp[e]) (hav.below hb)
 have hxe:=value_lt a.e m.locals hw.lt ha.le
 have hold:=hw.old
 unfold pairV at HWT
 unfold wantC
 unfold actC at HL ⊢
 have hRM:=fun w=>Lib.hid (reading_any a.mode hmode.1 hmode.2 w)
 have hWM:=fun w=>Lib.hid (writing_any a.mode hmode.1 hmode.2 w)
 generalize reading a.mode=rm at *
 generalize writing a.mode=wm at *
 generalize locS a m.locals=y at *
 generalize value a.e m.locals=x at *
 generalize value a.f m.locals=xf at *
 generalize a.e.length=le at *
 generalize a.f.length=lf at *
 have hmc:Blk w g 170 (machC tl va gl nl m):=h.blk
 have hMg:=hmc.lt
 clear hw ha hav h hle hlf hmode
 have HL:=Lib.hid HL
 go_enter Tryz.func225,Tryz.ntmps225
 go_upto_region 1 with fail
 obtain⟨w0,hw0⟩:∃y,y=(w.alloc (.cells #[.int .i64 a.op,.int .i64 a.dst,.int .i64 a.base,.int .i64 a.size,.slice I li ci,.slice E le ce,.slice F lf cf,.int .i64 a.mode,.int .i64 a.to,.int .i64 a.line,.int .i64 a.col] 58)).alloc (.cells #[.int .i64 0,.int .i64 0,.int .i64 0,.int .u64 0,.bool false,.bool false] 100):=⟨_,rfl⟩
 have hb0:Below w.heap.size w w0:=by rw[hw0];exact Kit.bl2
 have hA0:Blk w0 w.heap.size 58 #[.int .i64 a.op,.int .i64 a.dst,.int .i64 a.base,.int .i64 a.size,.slice I li ci,.slice E le ce,.slice F lf cf,.int .i64 a.mode,.int .i64 a.to,.int .i64 a.line,.int .i64 a.col]:=by rw[hw0];exact(Blk.new w _ _).alloc _
 have hW0:Blk w0 (w.heap.size+1) 100 #[.int .i64 0,.int .i64 0,.int .i64 0,.int .u64 0,.bool false,.bool false]:=by rw[hw0];exact Blk.newAt (sizeA w _) _ _
 rw[←hw0]
 clear hw0
 have hM0:=hmc.below' hb0
 go_cut [5] (fun s5 wz=>∃gx,s5=.pointer (some ⟨gx,0,none⟩)∧Blk wz gx 100 #[.int .i64 1,.int .i64 y,.int .i64 rm,.int .u64 0,.bool true,.bool false]∧Below w0.heap.size w0 wz∧w0.heap.size≤gx)
 case first =>
  have c0:∀p:Cls (Below w0.heap.size w0),p.w.cell? ⟨w.heap.size,0,none⟩=some (.int .i64 a.op):=fun p=>hA0.cls 0 p
  have c1:∀p:Cls (Below w0.heap.size w0),p.w.cell? ⟨w.heap.size,1,none⟩=some (.int .i64 a.dst):=fun p=>hA0.cls 1 p
  have c2:∀p:Cls (Below w0.heap.size w0),p.w.cell? ⟨w.heap.size,2,none⟩=some (.int .i64 a.base):=fun p=>hA0.cls 2 p
  have c3:∀p:Cls (Below w0.heap.size w0),p.w.cell? ⟨w.heap.size,3,none⟩=some (.int .i64 a.size):=fun p=>hA0.cls 3 p
  have c4:∀p:Cls (Below w0.heap.size w0),p.w.cell? ⟨w.heap.size,4,none⟩=some (.slice I li ci):=fun p=>hA0.cls 4 p
  have c5:∀p:Cls (Below w0.heap.size w0),p.w.cell? ⟨w.heap.size,5,none⟩=some (.slice E le ce):=fun p=>hA0.cls 5 p
  have c6:∀p:Cls (Below w0.heap.size w0),p.w.cell? ⟨w.heap.size,6,none⟩=some (.slice F lf cf):=fun p=>hA0.cls 6 p
  have c7:∀p:Cls (Below w0.heap.size w0),p.w.cell? ⟨w.heap.size,7,none⟩=some (.int .i64 a.mode):=fun p=>hA0.cls 7 p
  have c8:∀p:Cls (Below w0.heap.size w0),p.w.cell? ⟨w.heap.size,8,none⟩=some (.int .i64 a.to):=fun p=>hA0.cls 8 p
  have c9:∀p:Cls (Below w0.heap.size w0),p.w.cell? ⟨w.heap.size,9,none⟩=some (.int .i64 a.line):=fun p=>hA0.cls 9 p
  have c10:∀p:Cls (Below w0.heap.size w0),p.w.cell? ⟨w.heap.size,10,none⟩=some (.int .i64 a.col):=fun p=>hA0.cls 10 p
  refine wp_region_float (Below w0.heap.size w0) 8 4 [0,1,3,4] [] (Below_drewN _ 1) (by kernel_rfl) (by kernel_rfl) ?_
  intro hne
  simp only[pickL,List.map_cons,List.map_nil,List.getElem?_cons_succ,List.getElem?_cons_zero,Option.getD_some]
  repeat (go_big_quiet_step (fail))
  refine wpQuiet_nil ?_
  intro w1 h1
  clear hne c0 c1 c2 c3 c4 c5 c6 c7 c8 c9 c10
  refine floatG_two (i:=2) (i':=7) (by kernel_rfl) (by decide) (by decide) rfl rfl ?_ ?_
  ·skip
   go_wp2_with (go_at_call 231;refine(HL.out _ (Kit.Below.then hb0 h1)).mono ?_;rintro e w2 ⟨rfl,hq⟩)
   have h2:=Kit.Below.then h1 hq
   skip
   refine Kit.oG h2 ?_
   refine floatG_two (i:=5) (i':=7) (by kernel_rfl) (by decide) (by decide) rfl rfl ?_ ?_
   ·skip
    go_wp2_with (go_at_call 232;refine(hRM _).out.mono ?_;rintro e w3 ⟨rfl,rfl⟩)
    refine Kit.oG h2 ?_
    refine floatG_two (i:=6) (i':=7) (by kernel_rfl) (by decide) (by decide) rfl rfl ?_ ?_
    ·skip
     go_wp2_with fail
     refine Kit.oG h2 ?_
     refine fG (i:=7) rfl ?_
     go_wp2_with fail
     have h4:=Kit.Below.al h2 (.cells #[.int .i64 0,.int .i64 0,.int .i64 0,.int .u64 0,.bool false,.bool false] 100)
     have hz:=Blk.new w3 100 #[.int .i64 0,.int .i64 0,.int .i64 0,.int .u64 0,.bool false,.bool false]
     have hgx:w0.heap.size≤w3.heap.size:=h2.size
     generalize w3.heap.size=gx at *
     generalize w3.alloc (.cells #[.int .i64 0,.int .i64 0,.int .i64 0,.int .u64 0,.bool false,.bool false] 100)=w4 at *
     refine Kit.oG h4 ?_
     refine(show tailG _ _ _ _ _ _ _ from⟨by kernel_rfl,?_⟩)
     simp only[List.drop_succ_cons,List.drop_zero]
     obtain⟨d0,d1,d2,d3,d4,d5⟩:=Kit.cells6 hz
     have df:=fun i=>hz.frozen i
     go_wp2_with fail
     go_meet
     exact⟨gx,rfl,blk_set6 hz _ _ _ _ _ _,below_set6 h4 hgx _ _ _ _ _ _,hgx⟩
    ·skip
     go_wp2_with fail
     have h4:=Kit.Below.al h2 (.cells #[.int .i64 0,.int .i64 0,.int .i64 0,.int .u64 0,.bool false,.bool false] 100)
     have hz:=Blk.new w3 100 #[.int .i64 0,.int .i64 0,.int .i64 0,.int .u64 0,.bool false,.bool false]
     have hgx:w0.heap.size≤w3.heap.size:=h2.size
     generalize w3.heap.size=gx at *
     generalize w3.alloc (.cells #[.int .i64 0,.int .i64 0,.int .i64 0,.int .u64 0,.bool false,.bool false] 100)=w4 at *
     refine Kit.oG h4 ?_
     refine fG (i:=6) rfl ?_
     go_wp2_with fail
     refine Kit.oG h4 ?_
     refine(show tailG _ _ _ _ _ _ _ from⟨by kernel_rfl,?_⟩)
     simp only[List.drop_succ_cons,List.drop_zero]
     obtain⟨d0,d1,d2,d3,d4,d5⟩:=Kit.cells6 hz
     have df:=fun i=>hz.frozen i
     go_wp2_with fail
     go_meet
     exact⟨gx,rfl,blk_set6 hz _ _ _ _ _ _,below_set6 h4 hgx _ _ _ _ _ _,hgx⟩
   ·skip
    go_wp2_with fail
    have h4:=Kit.Below.al h2 (.cells #[.int .i64 0,.int .i64 0,.int .i64 0,.int .u64 0,.bool false,.bool false] 100)
    have hz:=Blk.new w2 100 #[.int .i64 0,.int .i64 0,.int .i64 0,.int .u64 0,.bool false,.bool false]
    have hgx:w0.heap.size≤w2.heap.size:=h2.size
    generalize w2.heap.size=gx at *
    generalize w2.alloc (.cells #[.int .i64 0,.int .i64 0,.int .i64 0,.int .u64 0,.bool false,.bool false] 100)=w4 at *
    refine Kit.oG h4 ?_
    refine fG (i:=5) rfl ?_
    go_wp2_with (go_at_call 232;refine(hRM _).out.mono ?_;rintro e w3 ⟨rfl,rfl⟩)
    refine Kit.oG h4 ?_
    refine fG (i:=6) rfl ?_
    go_wp2_with fail
    refine Kit.oG h4 ?_
    refine(show tailG _ _ _ _ _ _ _ from⟨by kernel_rfl,?_⟩)
    simp only[List.drop_succ_cons,List.drop_zero]
    obtain⟨d0,d1,d2,d3,d4,d5⟩:=Kit.cells6 hz
    have df:=fun i=>hz.frozen i
    go_wp2_with fail
    go_meet
    exact⟨gx,rfl,blk_set6 hz _ _ _ _ _ _,below_set6 h4 hgx _ _ _ _ _ _,hgx⟩
  ·skip
   go_wp2_with fail
   have h4:=Kit.Below.al h1 (.cells #[.int .i64 0,.int .i64 0,.int .i64 0,.int .u64 0,.bool false,.bool false] 100)
   have hz:=Blk.new w1 100 #[.int .i64 0,.int .i64 0,.int .i64 0,.int .u64 0,.bool false,.bool false]
   have hgx:w0.heap.size≤w1.heap.size:=h1.size
   generalize w1.heap.size=gx at *
   generalize w1.alloc (.cells #[.int .i64 0,.int .i64 0,.int .i64 0,.int .u64 0,.bool false,.bool false] 100)=w4 at *
   refine Kit.oG h4 ?_
   refine fG (i:=2) rfl ?_
   go_wp2_with (go_at_call 231;refine(HL.out _ (Kit.Below.then hb0 h4)).mono ?_;rintro e w2 ⟨rfl,hq⟩)
   have h2:=Kit.Below.then h4 hq
   replace hz:=hz.below' hq
   refine Kit.oG h2 ?_
   refine fG (i:=5) rfl ?_
   go_wp2_with (go_at_call 232;refine(hRM _).out.mono ?_;rintro e w3 ⟨rfl,rfl⟩)
   refine Kit.oG h2 ?_
   refine fG (i:=6) rfl ?_
   go_wp2_with fail
   refine Kit.oG h2 ?_
   refine(show tailG _ _ _ _ _ _ _ from⟨by kernel_rfl,?_⟩)
   simp only[List.drop_succ_cons,List.drop_zero]
   obtain⟨d0,d1,d2,d3,d4,d5⟩:=Kit.cells6 hz
   have df:=fun i=>hz.frozen i
   go_wp2_with fail
   go_meet
   exact⟨gx,rfl,blk_set6 hz _ _ _ _ _ _,below_set6 h2 hgx _ _ _ _ _ _,hgx⟩
 case rest =>
  obtain⟨gx,rfl,hX,hbx,hgx⟩:=hcut
  have hgx1:w.heap.size+1<gx:=by have:=hW0.lt;omega
  have hbc:=Kit.Below.then hb0 hbx
  have hAc:=hA0.below' hbx
  have hMc:=hM0.below' hbx
  have hWc:=hW0.below' hbx
  clear hA0 hM0 hW0 hmc
  have k12:wc.cell? ⟨g,12,none⟩=some (.bool m.opn):=hMc.cell 12
  cases ho:m.opn with
  | false =>
   rw[ho]at k12
   obtain rfl:wt=⟨1,y,rm,0,true,false⟩:=by rw[HWT.out,ho];rfl
   clear HWT
   obtain⟨x0,x1,x2,x3,x4,x5⟩:=Kit.cells6 hX
   have hW8:=hWc
   have hl8:=hW8.lt
   obtain⟨d0,d1,d2,d3,d4,d5⟩:=Kit.cells6 hW8
   have df:=fun i=>hW8.frozen i
   go_wp2_with fail
   have hB9:=blk_set6 hW8 (.int .i64 1) (.int .i64 y) (.int .i64 rm) (.int .u64 0) (.bool true) (.bool false)
   have hbf:=below_set6 hbc (Nat.le_succ _) (.int .i64 1) (.int .i64 y) (.int .i64 rm) (.int .u64 0) (.bool true) (.bool false)
   generalize ((((((wc.setCell ⟨w.heap.size+1,0,none⟩ _).setCell ⟨w.heap.size+1,1,none⟩ _).setCell ⟨w.heap.size+1,2,none⟩ _).setCell ⟨w.heap.size+1,3,none⟩ _).setCell ⟨w.heap.size+1,4,none⟩ _).setCell ⟨w.heap.size+1,5,none⟩ _)=w9 at *
   have e0:=hB9.cell 0
   have e1:=hB9.cell 1
   have e2:=hB9.cell 2
   have e3:=hB9.cell 3
   have e4:=hB9.cell 4
   have e5:=hB9.cell 5
   simp only[List.getElem?_toArray,List.getElem?_cons_zero,List.getElem?_cons_succ]at e0 e1 e2 e3 e4 e5
   exact bodyPost_ret (v:=.agg #[.int .i64 1,.int .i64 y,.int .i64 rm,.int .u64 0,.bool true,.bool false]) (by simp[results,Tryz.results225,go_sem,e0,e1,e2,e3,e4,e5]) rfl ⟨rfl,hbf⟩
  | true =>
   rw[ho]at k12
   have HWT2:Hid (wt=⟨2,y,wm,if a.op=5 then(x+m.old) % M64 else if a.op=6 then xf else x,true,false⟩):=Lib.hid (by rw[HWT.out,ho];rfl)
   clear HWT
   have hwm:∀p:Cls (Below wc.heap.size wc),Hid (Calls Tryz.prog 233 #[.int .i64 a.mode] p.w fun e w'=>e=.returned (.int .i64 wm)∧∃q:Cls (Below wc.heap.size wc),w'=q.w) :=
    fun p=>Calls.cls ((hWM p.w).out.mono fun e w' ⟨h1,h2⟩=>⟨h1,h2 ▸ p.h⟩)
   have hval:∀p:Cls (Below wc.heap.size wc),Hid (Calls Tryz.prog 217 #[.slice E le ce,.slice (some ⟨gl,0,none⟩) nl nl] p.w fun e w'=>e=.returned (.int .u64 x)∧∃q:Cls (Below wc.heap.size wc),w'=q.w) :=
    fun p=>Calls.cls ((HVE.out p.w (Kit.Below.then hbc p.h)).mono fun e w' ⟨h1,h2⟩=>⟨h1,Kit.Below.then p.h h2⟩)
   have c5:∀p:Cls (Below wc.heap.size wc),p.w.cell? ⟨w.heap.size,5,none⟩=some (.slice E le ce):=fun p=>hAc.cls 5 p
   have c7:∀p:Cls (Below wc.heap.size wc),p.w.cell? ⟨w.heap.size,7,none⟩=some (.int .i64 a.mode):=fun p=>hAc.cls 7 p
   have cl:∀p:Cls (Below wc.heap.size wc),p.w.cell? ⟨g,3,none⟩=some (.slice (some ⟨gl,0,none⟩) nl nl):=fun p=>hMc.cls 3 p
   go_upto_region 3 with fail
   refine wp_region_cls_tail (Below wc.heap.size wc) 11 (Below_drewN _ 1) (by kernel_rfl) (by kernel_rfl) ?_
   intro hne
   simp only[List.take_succ_cons,List.take_zero,List.drop_succ_cons,List.drop_zero]
   repeat (go_big_quiet_step ((first |(go_at_call 233;exact(hwm _).out) |(go_at_call 217;exact(hval _).out))))
   refine wpQuiet_nil ?_
   intro w8 h8
   clear hne
   clear c5 c7 cl hwm hval k12
   have hX8:=hX.below' h8
   obtain⟨x0,x1,x2,x3,x4,x5⟩:=Kit.cells6 hX8
   have xf8:=fun i=>hX8.frozen i
   go_upto_region 4 with fail
   have hX9:Blk (((w8.setCell ⟨gx,0,none⟩ (.int .i64 2)).setCell ⟨gx,2,none⟩ (.int .i64 wm)).setCell ⟨gx,3,none⟩ (.int .u64 x)) gx 100 #[.int .i64 2,.int .i64 y,.int .i64 wm,.int .u64 x,.bool true,.bool false]:=by
    have:=((hX8.set 0 (.int .i64 2)).set 2 (.int .i64 wm)).set 3 (.int .u64 x)
    simpa using this
   have hb9:Below w.heap.size w (((w8.setCell ⟨gx,0,none⟩ (.int .i64 2)).setCell ⟨gx,2,none⟩ (.int .i64 wm)).setCell ⟨gx,3,none⟩ (.int .u64 x)):=Kit.Below.setN (Kit.Below.setN (Kit.Below.setN (Kit.Below.then hbc h8) (by omega) _) (by omega) _) (by omega) _
   have hA9:=(((hAc.below' h8).farN (b:=gx) (o:=0) (by omega) (.int .i64 2)).farN (b:=gx) (o:=2) (by omega) (.int .i64 wm)).farN (b:=gx) (o:=3) (by omega) (.int .u64 x)
   have hW9:=(((hWc.below' h8).farN (b:=gx) (o:=0) (by omega) (.int .i64 2)).farN (b:=gx) (o:=2) (by omega) (.int .i64 wm)).farN (b:=gx) (o:=3) (by omega) (.int .u64 x)
   have hgne:g≠gx:=by have:=hMg;omega
   have hM9:=(((hMc.below' h8).farN (b:=gx) (o:=0) hgne (.int .i64 2)).farN (b:=gx) (o:=2) hgne (.int .i64 wm)).farN (b:=gx) (o:=3) hgne (.int .u64 x)
   generalize (((w8.setCell ⟨gx,0,none⟩ (.int .i64 2)).setCell ⟨gx,2,none⟩ (.int .i64 wm)).setCell ⟨gx,3,none⟩ (.int .u64 x))=w9 at *
   clear x0 x1 x2 x3 x4 x5 xf8 hX8 hX hAc hMc hWc hbx h8
   have k0:w9.cell? ⟨w.heap.size,0,none⟩=some (.int .i64 a.op):=hA9.cell 0
   by_cases h5:a.op=5
   ·obtain⟨sm,hsm⟩:∃z,z=(x+m.old) % M64:=⟨_,rfl⟩
    obtain rfl:wt=⟨2,y,wm,sm,true,false⟩:=by rw[HWT2.out,if_pos h5,hsm]
    clear HWT2
    rw[h5]at k0
    have hwr:IntKind.u64.wrap ((x:Int)+(m.old:Int))=(sm:Int):=by
     rw[IntKind.wrap_u64,hsm]
     unfold M64 at *
     omega
    have c3:∀p:Cls (Below w9.heap.size w9),p.w.cell? ⟨gx,3,none⟩=some (.int .u64 x):=fun p=>hX9.cls 3 p
    have c11:∀p:Cls (Below w9.heap.size w9),p.w.cell? ⟨g,11,none⟩=some (.int .u64 m.old):=fun p=>hM9.cls 11 p
    clear hsm
    go_upto_region 6 with fail
    refine wp_region_cls_tail (Below w9.heap.size w9) 7 (Below_drewN _ 1) (by kernel_rfl) (by kernel_rfl) ?_
    intro hne
    simp only[List.take_succ_cons,List.take_zero,List.drop_succ_cons,List.drop_zero]
    repeat (go_big_quiet_step ((fail)))
    refine wpQuiet_nil ?_
    intro w6 h6
    clear hne
    clear c3 c11 k0
    have hX6:=hX9.below' h6
    have x3:w6.cell? ⟨gx,3,none⟩=some (.int .u64 x):=hX6.cell 3
    have xf6:=fun i=>hX6.frozen i
    go_upto_region 9 with fail
    have hX7:Blk (w6.setCell ⟨gx,3,none⟩ (.int .u64 sm)) gx 100 #[.int .i64 2,.int .i64 y,.int .i64 wm,.int .u64 sm,.bool true,.bool false]:=by
     have:=hX6.set 3 (.int .u64 sm)
     simpa using this
    have hbc:=Kit.Below.setN (Kit.Below.then hb9 h6) (show w.heap.size≤gx by omega) (o:=3) (.int .u64 sm)
    have hW8:=(hW9.below' h6).farN (b:=gx) (o:=3) (by omega) (.int .u64 sm)
    generalize w6.setCell ⟨gx,3,none⟩ (.int .u64 sm)=w7 at *
    clear x3 xf6
    obtain⟨x0,x1,x2,x3,x4,x5⟩:=Kit.cells6 hX7
    have hl8:=hW8.lt
    obtain⟨d0,d1,d2,d3,d4,d5⟩:=Kit.cells6 hW8
    have df:=fun i=>hW8.frozen i
    go_wp2_with fail
    have hB9:=blk_set6 hW8 (.int .i64 2) (.int .i64 y) (.int .i64 wm) (.int .u64 sm) (.bool true) (.bool false)
    have hbf:=below_set6 hbc (Nat.le_succ _) (.int .i64 2) (.int .i64 y) (.int .i64 wm) (.int .u64 sm) (.bool true) (.bool false)
    generalize ((((((w7.setCell ⟨w.heap.size+1,0,none⟩ _).setCell ⟨w.heap.size+1,1,none⟩ _).setCell ⟨w.heap.size+1,2,none⟩ _).setCell ⟨w.heap.size+1,3,none⟩ _).setCell ⟨w.heap.size+1,4,none⟩ _).setCell ⟨w.heap.size+1,5,none⟩ _)=w9 at *
    have e0:=hB9.cell 0
    have e1:=hB9.cell 1
    have e2:=hB9.cell 2
    have e3:=hB9.cell 3
    have e4:=hB9.cell 4
    have e5:=hB9.cell 5
    simp only[List.getElem?_toArray,List.getElem?_cons_zero,List.getElem?_cons_succ]at e0 e1 e2 e3 e4 e5
    exact bodyPost_ret (v:=.agg #[.int .i64 2,.int .i64 y,.int .i64 wm,.int .u64 sm,.bool true,.bool false]) (by simp[results,Tryz.results225,go_sem,e0,e1,e2,e3,e4,e5]) rfl ⟨rfl,hbf⟩
   ·have q5:(a.op == 5)=false:=by simp[h5]
    by_cases h6:a.op=6
    ·obtain rfl:wt=⟨2,y,wm,xf,true,false⟩:=by rw[HWT2.out,if_neg h5,if_pos h6]
     clear HWT2
     rw[h6]at k0
     have hval:∀p:Cls (Below w9.heap.size w9),Hid (Calls Tryz.prog 217 #[.slice F lf cf,.slice (some ⟨gl,0,none⟩) nl nl] p.w fun e w'=>e=.returned (.int .u64 xf)∧∃q:Cls (Below w9.heap.size w9),w'=q.w) :=
      fun p=>Calls.cls ((HVF.out p.w (Kit.Below.then hb9 p.h) h6).mono fun e w' ⟨h1,h2⟩=>⟨h1,Kit.Below.then p.h h2⟩)
     have c6:∀p:Cls (Below w9.heap.size w9),p.w.cell? ⟨w.heap.size,6,none⟩=some (.slice F lf cf):=fun p=>hA9.cls 6 p
     have cl:∀p:Cls (Below w9.heap.size w9),p.w.cell? ⟨g,3,none⟩=some (.slice (some ⟨gl,0,none⟩) nl nl):=fun p=>hM9.cls 3 p
     go_upto_region 8 with fail
     refine wp_region_cls_tail (Below w9.heap.size w9) 7 (Below_drewN _ 1) (by kernel_rfl) (by kernel_rfl) ?_
     intro hne
     simp only[List.take_succ_cons,List.take_zero,List.drop_succ_cons,List.drop_zero]
     repeat (go_big_quiet_step ((go_at_call 217;exact(hval _).out)))
     refine wpQuiet_nil ?_
     intro w6 h6'
     clear hne
     clear c6 cl k0 hval
     have hX6:=hX9.below' h6'
     have x3:w6.cell? ⟨gx,3,none⟩=some (.int .u64 x):=hX6.cell 3
     have xf6:=fun i=>hX6.frozen i
     go_upto_region 9 with fail
     have hX7:Blk (w6.setCell ⟨gx,3,none⟩ (.int .u64 xf)) gx 100 #[.int .i64 2,.int .i64 y,.int .i64 wm,.int .u64 xf,.bool true,.bool false]:=by
      have:=hX6.set 3 (.int .u64 xf)
      simpa using this
     have hbc:=Kit.Below.setN (Kit.Below.then hb9 h6') (show w.heap.size≤gx by omega) (o:=3) (.int .u64 xf)
     have hW8:=(hW9.below' h6').farN (b:=gx) (o:=3) (by omega) (.int .u64 xf)
     generalize w6.setCell ⟨gx,3,none⟩ (.int .u64 xf)=w7 at *
     clear x3 xf6
     obtain⟨x0,x1,x2,x3,x4,x5⟩:=Kit.cells6 hX7
     have hl8:=hW8.lt
     obtain⟨d0,d1,d2,d3,d4,d5⟩:=Kit.cells6 hW8
     have df:=fun i=>hW8.frozen i
     go_wp2_with fail
     have hB9:=blk_set6 hW8 (.int .i64 2) (.int .i64 y) (.int .i64 wm) (.int .u64 xf) (.bool true) (.bool false)
     have hbf:=below_set6 hbc (Nat.le_succ _) (.int .i64 2) (.int .i64 y) (.int .i64 wm) (.int .u64 xf) (.bool true) (.bool false)
     generalize ((((((w7.setCell ⟨w.heap.size+1,0,none⟩ _).setCell ⟨w.heap.size+1,1,none⟩ _).setCell ⟨w.heap.size+1,2,none⟩ _).setCell ⟨w.heap.size+1,3,none⟩ _).setCell ⟨w.heap.size+1,4,none⟩ _).setCell ⟨w.heap.size+1,5,none⟩ _)=w9 at *
     have e0:=hB9.cell 0
     have e1:=hB9.cell 1
     have e2:=hB9.cell 2
     have e3:=hB9.cell 3
     have e4:=hB9.cell 4
     have e5:=hB9.cell 5
     simp only[List.getElem?_toArray,List.getElem?_cons_zero,List.getElem?_cons_succ]at e0 e1 e2 e3 e4 e5
     exact bodyPost_ret (v:=.agg #[.int .i64 2,.int .i64 y,.int .i64 wm,.int .u64 xf,.bool true,.bool false]) (by simp[results,Tryz.results225,go_sem,e0,e1,e2,e3,e4,e5]) rfl ⟨rfl,hbf⟩
    ·obtain rfl:wt=⟨2,y,wm,x,true,false⟩:=by rw[HWT2.out,if_neg h5,if_neg h6]
     clear HWT2
     have q6:(a.op == 6)=false:=by simp[h6]
     have hbc:=hb9
     have hW8:=hW9
     obtain⟨x0,x1,x2,x3,x4,x5⟩:=Kit.cells6 hX9
     have hl8:=hW8.lt
     obtain⟨d0,d1,d2,d3,d4,d5⟩:=Kit.cells6 hW8
     have df:=fun i=>hW8.frozen i
     go_wp2_with fail
     have hB9:=blk_set6 hW8 (.int .i64 2) (.int .i64 y) (.int .i64 wm) (.int .u64 x) (.bool true) (.bool false)
     have hbf:=below_set6 hbc (Nat.le_succ _) (.int .i64 2) (.int .i64 y) (.int .i64 wm) (.int .u64 x) (.bool true) (.bool false)
     generalize ((((((w9.setCell ⟨w.heap.size+1,0,none⟩ _).setCell ⟨w.heap.size+1,1,none⟩ _).setCell ⟨w.heap.size+1,2,none⟩ _).setCell ⟨w.heap.size+1,3,none⟩ _).setCell ⟨w.heap.size+1,4,none⟩ _).setCell ⟨w.heap.size+1,5,none⟩ _)=w9 at *
     have e0:=hB9.cell 0
     have e1:=hB9.cell 1
     have e2:=hB9.cell 2
     have e3:=hB9.cell 3
     have e4:=hB9.cell 4
     have e5:=hB9.cell 5
     simp only[List.getElem?_toArray,List.getElem?_cons_zero,List.getElem?_cons_succ]at e0 e1 e2 e3 e4 e5
     exact bodyPost_ret (v:=.agg #[.int .i64 2,.int .i64 y,.int .i64 wm,.int .u64 x,.bool true,.bool false]) (by simp[results,Tryz.results225,go_sem,e0,e1,e2,e3,e4,e5]) rfl ⟨rfl,hbf⟩
end Go.Proofs.YtmjilfamjlnigaaGreat.MchW
