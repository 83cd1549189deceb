/- WALKS: a thread's machine: its act, its place. -/
import Derived.Test.YtmjilfamjlnigaaGreatQ07
import Derived.StillTailTactics
namespace Go.Proofs.YtmjilfamjlnigaaGreat.MchW
open Go Go.RowKit Kit SrcP SrcW
set_option maxRecDepth 100000 in
set_option maxHeartbeats 4000000 in
theorem act_any {w:World} {g gl nl:Nat} {tl:Int} {va:Value} {m:Mch} (h:MachM w g gl tl va nl m) (_hal:m.acts.length≤65536) (a:SrcP.Act) (ha:m.acts[m.at_]?=some a) :
  Calls Tryz.prog 216 #[.pointer (some ⟨g,0,none⟩)] w fun r w'=>∃I E F li ci le ce lf cf,r=.returned (.agg (actC a (.slice I li ci) (.slice E le ce) (.slice F lf cf)))∧ActVS w' (.slice I li ci) (.slice E le ce) (.slice F lf cf) a∧Below w.heap.size w w':=by
 have hlt:=at_lt ha
 obtain⟨A,c,rfl,hE⟩:=h.acts
 obtain⟨ad,vi,ve,vf,rfl,hC,hVS⟩:=hE _ _ ha
 replace hC:=hC w (Still.refl w)
 have hV:=hVS.here
 have HV:=Lib.hid hV
 have HV0:=Lib.hid hVS
 obtain⟨I,ci,rfl,_⟩:=hV.index
 obtain⟨E,ce,rfl,_⟩:=hV.e
 obtain⟨F,cf,rfl,_⟩:=hV.f
 have m1:w.cell? ⟨g,1,none⟩=some (.slice (some ad) m.acts.length c):=h.blk.cell 1
 have m2:w.cell? ⟨g,2,none⟩=some (.int .i64 m.at_):=h.blk.cell 2
 clear hE hV hVS h
 generalize m.acts.length=L at *
 generalize m.at_=j at *
 clear ha
 have b1:(j:Int)<(L:Int):=by omega
 have b2:(0:Int)≤(j:Int):=by omega
 generalize a.index.length=li at *
 generalize a.e.length=le at *
 generalize a.f.length=lf at *
 go_enter Tryz.func216,Tryz.ntmps216
 go_upto_region 1 with fail
 obtain⟨w0,hw0⟩:∃x,x=w.alloc (.cells #[.int .i64 0,.int .i64 0,.int .i64 0,.int .i64 0,.slice none 0 0,.slice none 0 0,.slice none 0 0,.int .i64 0,.int .i64 0,.int .i64 0,.int .i64 0] 58):=⟨_,rfl⟩
 have hb1:Below w.heap.size w w0:=by rw[hw0];exact Kit.Below.al (Below.refl w.heap.size w) _
 replace hC:=hC.below hb1
 replace m1:=(hb1.cell (World.block_lt_of_cell? w _ m1)).trans m1
 replace m2:=(hb1.cell (World.block_lt_of_cell? w _ m2)).trans m2
 have n2:w0.cell? (ad.add (j*11))=some (.int .i64 a.op):=hC 0 _ rfl
 have r1:w0.cell? ⟨(ad.add (j*11)).block,(ad.add (j*11)).off+1,none⟩=some (.int .i64 a.dst):=hC 1 _ rfl
 have r2:w0.cell? ⟨(ad.add (j*11)).block,(ad.add (j*11)).off+2,none⟩=some (.int .i64 a.base):=hC 2 _ rfl
 have r3:w0.cell? ⟨(ad.add (j*11)).block,(ad.add (j*11)).off+3,none⟩=some (.int .i64 a.size):=hC 3 _ rfl
 have r4:w0.cell? ⟨(ad.add (j*11)).block,(ad.add (j*11)).off+4,none⟩=some (.slice I li ci):=hC 4 _ rfl
 have r5:w0.cell? ⟨(ad.add (j*11)).block,(ad.add (j*11)).off+5,none⟩=some (.slice E le ce):=hC 5 _ rfl
 have r6:w0.cell? ⟨(ad.add (j*11)).block,(ad.add (j*11)).off+6,none⟩=some (.slice F lf cf):=hC 6 _ rfl
 have r7:w0.cell? ⟨(ad.add (j*11)).block,(ad.add (j*11)).off+7,none⟩=some (.int .i64 a.mode):=hC 7 _ rfl
 have r8:w0.cell? ⟨(ad.add (j*11)).block,(ad.add (j*11)).off+8,none⟩=some (.int .i64 a.to):=hC 8 _ rfl
 have r9:w0.cell? ⟨(ad.add (j*11)).block,(ad.add (j*11)).off+9,none⟩=some (.int .i64 a.line):=hC 9 _ rfl
 have r10:w0.cell? ⟨(ad.add (j*11)).block,(ad.add (j*11)).off+10,none⟩=some (.int .i64 a.col):=hC 10 _ rfl
 clear hC HV
 subst hw0
 go_region
 go_wp2_with fail
 have hbe:=Kit.Below.d (Kit.Below.al (Below.refl w.heap.size w) (.cells (actC a (.slice I li ci) (.slice E le ce) (.slice F lf cf)) 58))
 exact bodyPost_ret (v:=.agg (actC a (.slice I li ci) (.slice E le ce) (.slice F lf cf))) (by simp[results,Tryz.results216,go_sem,actC]) rfl ⟨I,E,F,li,ci,le,ce,lf,cf,rfl,HV0.out.still (Still.below hbe),hbe⟩
set_option maxRecDepth 100000 in
set_option maxHeartbeats 4000000 in
theorem val_any {w:World} {g gl nl cells:Nat} {tl:Int} {va:Value} {m:Mch} (h:MachM w g gl tl va nl m) (hw:MchW cells nl m) {A:Option Addr} {c:Nat} (e:List SrcP.Node) (hv:NodesAt w (.slice A e.length c) e) (he:EvalsAll nl e) :
  Calls Tryz.prog 217 #[.slice A e.length c,.slice (some ⟨gl,0,none⟩) nl nl] w fun r w'=>r=.returned (.int .u64 (value e m.locals:Nat))∧Below w.heap.size w w'∧value e m.locals<M64:=by
 have hl:=h.locals hw.lt hw.len
 have hh:=value_any A (some ⟨gl,0,none⟩) c nl e m.locals w hv hl (by rw[hw.len];exact he)
 rw[hw.len]at hh
 exact hh
set_option maxRecDepth 100000 in
set_option maxHeartbeats 4000000 in
theorem loc_any {w:World} {g gl nl cells:Nat} (hcells:cells≤4096) {tl:Int} {va:Value} {m:Mch} (h:MachM w g gl tl va nl m) (hw:MchW cells nl m) {n:Nat} (a:SrcP.Act) (ha:ActWell cells nl n a) (hp:hasPlace a.op=true) {I E F:Option Addr} {li ci le ce lf cf:Nat} (hav:ActV w (.slice I li ci) (.slice E le ce) (.slice F lf cf) a) :
  Calls Tryz.prog 231 #[.pointer (some ⟨g,0,none⟩),.agg (actC a (.slice I li ci) (.slice E le ce) (.slice F lf cf))] w fun r w'=>r=.returned (.int .i64 (locS a m.locals))∧Below w.heap.size w w':=by
 obtain⟨⟨h1,h2⟩,h3,h4,h5,h6⟩:=place_parts (ha.place hp)
 by_cases h0:a.size=0
 ·have hl:locS a m.locals=a.base:=by simp[locS,h0]
  rw[hl]
  clear hl
  generalize hs:a.size=sz at *
  unfold actC
  rw[hs]
  subst h0
  go_enter Tryz.func231,Tryz.ntmps231
  go_wp2_with fail
  go_ret
  exact⟨rfl,Kit.bl1⟩
 ·have hev:=h6 h0
  obtain⟨_,_,hli,_⟩:=hav.index
  obtain⟨rfl,rfl,rfl⟩:I=_∧li=a.index.length∧ci=_:=by simpa using hli
  obtain⟨z,hz⟩:=Int.eq_ofNat_of_zero_le h1
  have hz0:0<z:=by omega
  have hz1:z≤1024:=by omega
  have hzn:z &&& (z-1)=0:=by rw[hz]at h3;simpa using h3
  have hloc:locS a m.locals=a.base+((value a.index m.locals % z:Nat):Int):=by simp[locS,hz];omega
  rw[hloc]
  have hvl:=value_lt a.index m.locals hw.lt ha.li
  have hand:bits .and .u64 ((value a.index m.locals:Nat):Int) ((z:Int)-1)=((value a.index m.locals % z:Nat):Int):=by
   rw[show((z:Int)-1)=((z-1:Nat):Int) by omega,u64_and_nat _ _ hvl (by omega),and_size z _ hz0 hz1 hzn]
  have hmod:value a.index m.locals % z<z:=Nat.mod_lt _ hz0
  have hwr:IntKind.u64.wrap ((z:Int)-1)=(z:Int)-1:=by rw[IntKind.wrap_u64];omega
  have hwr2:IntKind.i64.wrap ((value a.index m.locals % z:Nat):Int)=((value a.index m.locals % z:Nat):Int):=by rw[IntKind.wrap_i64];omega
  have HV:∀w2,Below w.heap.size w w2→Calls Tryz.prog 217 #[.slice I a.index.length ci,.slice (some ⟨gl,0,none⟩) nl nl] w2 fun r w'=>r=.returned (.int .u64 (value a.index m.locals:Nat))∧Below w2.heap.size w2 w' :=
   fun w2 hb=>(val_any (h.below hb) hw a.index (hav.index.below hb) hev).mono fun _ _ ⟨e1,e2,_⟩=>⟨e1,e2⟩
  generalize value a.index m.locals=v at *
  have hB:a.base+z≤4096:=by omega
  clear h6 hev hloc hli h5 h3 h1 h2
  generalize hq:v % z=q at *
  have HV:=Lib.hid HV
  have hmc:Blk w g 170 (machC tl va gl nl m):=h.blk
  generalize hb:a.base=base at *
  unfold actC
  rw[hb,hz]
  clear h hav hw ha hz hb
  go_enter Tryz.func231,Tryz.ntmps231
  go_upto_region 1 with fail
  obtain⟨w0,hw0⟩:∃x,x=w.alloc (.cells #[.int .i64 a.op,.int .i64 a.dst,.int .i64 base,.int .i64 z,.slice I a.index.length ci,.slice E le ce,.slice F lf cf,.int .i64 a.mode,.int .i64 a.to,.int .i64 a.line,.int .i64 a.col] 58):=⟨_,rfl⟩
  have hb0:Below w.heap.size w w0:=by rw[hw0];exact Kit.bl1
  have hA0:Blk w0 w.heap.size 58 #[.int .i64 a.op,.int .i64 a.dst,.int .i64 base,.int .i64 z,.slice I a.index.length ci,.slice E le ce,.slice F lf cf,.int .i64 a.mode,.int .i64 a.to,.int .i64 a.line,.int .i64 a.col]:=by rw[hw0];exact Blk.new _ _ _
  have hM0:=hmc.below' hb0
  rw[←hw0]
  clear hw0 hmc
  have k3:w0.cell? ⟨w.heap.size,3,none⟩=some (.int .i64 z):=hA0.cell 3
  have q0:((z:Int) == 0)=false:=by simp;omega
  go_upto_region 3 with fail
  have hval:∀p:Cls (Below w0.heap.size w0),Hid (Calls Tryz.prog 217 #[.slice I a.index.length ci,.slice (some ⟨gl,0,none⟩) nl nl] p.w fun e w'=>e=.returned (.int .u64 v)∧∃q:Cls (Below w0.heap.size w0),w'=q.w) :=
   fun p=>Calls.cls ((HV.out p.w (Kit.Below.then hb0 p.h)).mono fun e w' ⟨h1,h2⟩=>⟨h1,Kit.Below.then p.h h2⟩)
  have c2:∀p:Cls (Below w0.heap.size w0),p.w.cell? ⟨w.heap.size,2,none⟩=some (.int .i64 base):=fun p=>hA0.cls 2 p
  have c3:∀p:Cls (Below w0.heap.size w0),p.w.cell? ⟨w.heap.size,3,none⟩=some (.int .i64 z):=fun p=>hA0.cls 3 p
  have c4:∀p:Cls (Below w0.heap.size w0),p.w.cell? ⟨w.heap.size,4,none⟩=some (.slice I a.index.length ci):=fun p=>hA0.cls 4 p
  have cl:∀p:Cls (Below w0.heap.size w0),p.w.cell? ⟨g,3,none⟩=some (.slice (some ⟨gl,0,none⟩) nl nl):=fun p=>hM0.cls 3 p
  clear k3 HV
  refine wp_region_cls (Below w0.heap.size w0) (Below_drewN _ 1) (by kernel_rfl) (by kernel_rfl) ?_
  intro hne
  repeat (go_big_quiet_step ((go_at_call 217;exact(hval _).out)))
  refine wpQuiet_nil ?_
  intro w8 h8
  clear hne
  go_wp2_with fail
  go_ret
  exact⟨rfl,Kit.Below.then hb0 h8⟩
theorem blk_set6 {w:World} {g:Nat} {t:TypeId} {c0 c1 c2 c3 c4 c5:Value} (h:Blk w g t #[c0,c1,c2,c3,c4,c5]) (u0 u1 u2 u3 u4 u5:Value) :
  Blk ((((((w.setCell ⟨g,0,none⟩ u0).setCell ⟨g,1,none⟩ u1).setCell ⟨g,2,none⟩ u2).setCell ⟨g,3,none⟩ u3).setCell ⟨g,4,none⟩ u4).setCell ⟨g,5,none⟩ u5) g t #[u0,u1,u2,u3,u4,u5]:=by
 have:=(((((h.set 0 u0).set 1 u1).set 2 u2).set 3 u3).set 4 u4).set 5 u5
 simpa using this
theorem below_set6 {w w1:World} {g:Nat} (h:Below w.heap.size w w1) (hg:w.heap.size≤g) (u0 u1 u2 u3 u4 u5:Value) :
  Below w.heap.size w ((((((w1.setCell ⟨g,0,none⟩ u0).setCell ⟨g,1,none⟩ u1).setCell ⟨g,2,none⟩ u2).setCell ⟨g,3,none⟩ u3).setCell ⟨g,4,none⟩ u4).setCell ⟨g,5,none⟩ u5) :=
 Kit.Below.setN (Kit.Below.setN (Kit.Below.setN (Kit.Below.setN (Kit.Below.setN (Kit.Below.setN h hg u0) hg u1) hg u2) hg u3) hg u4) hg u5
set_option maxRecDepth 100000 in
set_option maxHeartbeats 4000000 in
theorem fence_any (g:Nat) (m:Mch) (w:World) (a:SrcP.Act) (hop:a.op=7) {I E F:Option Addr} {li ci le ce lf cf:Nat} :
  Calls Tryz.prog 226 #[.pointer (some ⟨g,0,none⟩),.agg (actC a (.slice I li ci) (.slice E le ce) (.slice F lf cf))] w fun r w'=>r=.returned (.agg (wantC (wantS m a)).toArray)∧Below w.heap.size w w':=by
 have hw:wantS m a=⟨3,0,a.mode,0,false,false⟩:=by simp[wantS,hop]
 rw[hw]
 unfold wantC actC
 clear hw
 go_enter Tryz.func226,Tryz.ntmps226
 go_wp2_with fail
 exact bodyPost_ret (v:=.agg #[.int .i64 3,.int .i64 0,.int .i64 a.mode,.int .u64 0,.bool false,.bool false]) (by simp[results,Tryz.results226,go_sem]) rfl ⟨rfl,by repeat (first | exact Below.refl _ _ | refine Kit.Below.al ?_ _)⟩
set_option maxRecDepth 100000 in
set_option maxHeartbeats 4000000 in
theorem load_any {w:World} {g gl nl cells:Nat} (hcells:cells≤4096) {tl:Int} {va:Value} {m:Mch} (h:MachM w g gl tl va nl m) (hw:MchW cells nl m) {n:Nat} (a:SrcP.Act) (ha:ActWell cells nl n a) (hop:a.op=2) {I E F:Option Addr} {li ci le ce lf cf:Nat} (hav:ActV w (.slice I li ci) (.slice E le ce) (.slice F lf cf) a) :
  Calls Tryz.prog 223 #[.pointer (some ⟨g,0,none⟩),.agg (actC a (.slice I li ci) (.slice E le ce) (.slice F lf cf))] w fun r w'=>r=.returned (.agg (wantC (wantS m a)).toArray)∧Below w.heap.size w w':=by
 have hws:wantS m a=⟨1,locS a m.locals,a.mode,0,false,false⟩:=by simp[wantS,hop]
 rw[hws]
 have HL:∀w2,Below w.heap.size w w2→Calls Tryz.prog 231 #[.pointer (some ⟨g,0,none⟩),.agg (actC a (.slice I li ci) (.slice E le ce) (.slice F lf cf))] w2 fun r w'=>r=.returned (.int .i64 (locS a m.locals))∧Below w2.heap.size w2 w' :=
  fun w2 hb=>loc_any hcells (h.below hb) hw a ha (by simp[hasPlace,hop]) (hav.below hb)
 unfold wantC
 unfold actC at HL ⊢
 generalize locS a m.locals=x at *
 clear hws hw ha hop hav h
 have HL:=Lib.hid HL
 go_enter Tryz.func223,Tryz.ntmps223
 go_upto_region 1 with fail
 obtain⟨w0,hw0⟩:∃y,y=(w.alloc (.cells #[.int .i64 a.op,.int .i64 a.dst,.int .i64 a.base,.int .i64 a.size,.slice I li ci,.slice E le ce,.slice F lf cf,.int .i64 a.mode,.int .i64 a.to,.int .i64 a.line,.int .i64 a.col] 58)).alloc (.cells #[.int .i64 0,.int .i64 0,.int .i64 0,.int .u64 0,.bool false,.bool false] 100):=⟨_,rfl⟩
 have hb0:Below w.heap.size w w0:=by rw[hw0];exact Kit.bl2
 have hA0:Blk w0 w.heap.size 58 #[.int .i64 a.op,.int .i64 a.dst,.int .i64 a.base,.int .i64 a.size,.slice I li ci,.slice E le ce,.slice F lf cf,.int .i64 a.mode,.int .i64 a.to,.int .i64 a.line,.int .i64 a.col]:=by rw[hw0];exact(Blk.new w _ _).alloc _
 have hW0:Blk w0 (w.heap.size+1) 100 #[.int .i64 0,.int .i64 0,.int .i64 0,.int .u64 0,.bool false,.bool false]:=by rw[hw0];exact Blk.newAt (sizeA w _) _ _
 rw[←hw0]
 clear hw0
 have hloc:∀p:Cls (Below w0.heap.size w0),Hid (Calls Tryz.prog 231 #[.pointer (some ⟨g,0,none⟩),.agg #[.int .i64 a.op,.int .i64 a.dst,.int .i64 a.base,.int .i64 a.size,.slice I li ci,.slice E le ce,.slice F lf cf,.int .i64 a.mode,.int .i64 a.to,.int .i64 a.line,.int .i64 a.col]] p.w fun e w'=>e=.returned (.int .i64 x)∧∃q:Cls (Below w0.heap.size w0),w'=q.w) :=
  fun p=>Calls.cls ((HL.out p.w (Kit.Below.then hb0 p.h)).mono fun e w' ⟨h1,h2⟩=>⟨h1,Kit.Below.then p.h h2⟩)
 have c0:∀p:Cls (Below w0.heap.size w0),p.w.cell? ⟨w.heap.size,0,none⟩=some (.int .i64 a.op):=fun p=>hA0.cls 0 p
 have c1:∀p:Cls (Below w0.heap.size w0),p.w.cell? ⟨w.heap.size,1,none⟩=some (.int .i64 a.dst):=fun p=>hA0.cls 1 p
 have c2:∀p:Cls (Below w0.heap.size w0),p.w.cell? ⟨w.heap.size,2,none⟩=some (.int .i64 a.base):=fun p=>hA0.cls 2 p
 have c3:∀p:Cls (Below w0.heap.size w0),p.w.cell? ⟨w.heap.size,3,none⟩=some (.int .i64 a.size):=fun p=>hA0.cls 3 p
 have c4:∀p:Cls (Below w0.heap.size w0),p.w.cell? ⟨w.heap.size,4,none⟩=some (.slice I li ci):=fun p=>hA0.cls 4 p
 have c5:∀p:Cls (Below w0.heap.size w0),p.w.cell? ⟨w.heap.size,5,none⟩=some (.slice E le ce):=fun p=>hA0.cls 5 p
 have c6:∀p:Cls (Below w0.heap.size w0),p.w.cell? ⟨w.heap.size,6,none⟩=some (.slice F lf cf):=fun p=>hA0.cls 6 p
 have c7:∀p:Cls (Below w0.heap.size w0),p.w.cell? ⟨w.heap.size,7,none⟩=some (.int .i64 a.mode):=fun p=>hA0.cls 7 p
 have c8:∀p:Cls (Below w0.heap.size w0),p.w.cell? ⟨w.heap.size,8,none⟩=some (.int .i64 a.to):=fun p=>hA0.cls 8 p
 have c9:∀p:Cls (Below w0.heap.size w0),p.w.cell? ⟨w.heap.size,9,none⟩=some (.int .i64 a.line):=fun p=>hA0.cls 9 p
 have c10:∀p:Cls (Below w0.heap.size w0),p.w.cell? ⟨w.heap.size,10,none⟩=some (.int .i64 a.col):=fun p=>hA0.cls 10 p
 refine wp_region_cls_tail (Below w0.heap.size w0) 6 (Below_drewN _ 1) (by kernel_rfl) (by kernel_rfl) ?_
 intro hne
 simp only[List.take_succ_cons,List.take_zero,List.drop_succ_cons,List.drop_zero]
 repeat (go_big_quiet_step ((go_at_call 231;exact(hloc _).out)))
 refine wpQuiet_nil ?_
 intro w8 h8
 clear hne
 clear c0 c1 c2 c3 c4 c5 c6 c7 c8 c9 c10 hloc
 have hW8:=hW0.below' h8
 have hl8:=hW8.lt
 obtain⟨d0,d1,d2,d3,d4,d5⟩:=Kit.cells6 hW8
 have df:=fun i=>hW8.frozen i
 go_wp2_with fail
 have hB9:=blk_set6 hW8 (.int .i64 1) (.int .i64 x) (.int .i64 a.mode) (.int .u64 0) (.bool false) (.bool false)
 have hb9:=below_set6 (Kit.Below.then hb0 h8) (Nat.le_succ _) (.int .i64 1) (.int .i64 x) (.int .i64 a.mode) (.int .u64 0) (.bool false) (.bool false)
 generalize ((((((w8.setCell ⟨w.heap.size+1,0,none⟩ _).setCell ⟨w.heap.size+1,1,none⟩ _).setCell ⟨w.heap.size+1,2,none⟩ _).setCell ⟨w.heap.size+1,3,none⟩ _).setCell ⟨w.heap.size+1,4,none⟩ _).setCell ⟨w.heap.size+1,5,none⟩ _)=w9 at *
 have e0:=hB9.cell 0
 have e1:=hB9.cell 1
 have e2:=hB9.cell 2
 have e3:=hB9.cell 3
 have e4:=hB9.cell 4
 have e5:=hB9.cell 5
 simp only[List.getElem?_toArray,List.getElem?_cons_zero,List.getElem?_cons_succ]at e0 e1 e2 e3 e4 e5
 exact bodyPost_ret (v:=.agg #[.int .i64 1,.int .i64 x,.int .i64 a.mode,.int .u64 0,.bool false,.bool false]) (by simp[results,Tryz.results223,go_sem,e0,e1,e2,e3,e4,e5]) rfl ⟨rfl,hb9⟩
set_option maxRecDepth 100000 in
set_option maxHeartbeats 4000000 in
theorem print_any {w:World} {g gl nl cells:Nat} {tl:Int} {va:Value} {m:Mch} (h:MachM w g gl tl va nl m) (hw:MchW cells nl m) {n:Nat} (a:SrcP.Act) (ha:ActWell cells nl n a) (hop:a.op=8) {I E F:Option Addr} {li ci le ce lf cf:Nat} (hav:ActV w (.slice I li ci) (.slice E le ce) (.slice F lf cf) a) :
  Calls Tryz.prog 227 #[.pointer (some ⟨g,0,none⟩),.agg (actC a (.slice I li ci) (.slice E le ce) (.slice F lf cf))] w fun r w'=>r=.returned (.agg (wantC (wantS m a)).toArray)∧Below w.heap.size w w':=by
 have hws:wantS m a=⟨4,0,0,value a.e m.locals,false,false⟩:=by simp[wantS,hop]
 rw[hws]
 obtain⟨_,_,hle,_⟩:=hav.e
 obtain⟨rfl,rfl,rfl⟩:E=_∧le=a.e.length∧ce=_:=by simpa using hle
 have HVE:∀w2,Below w.heap.size w w2→Calls Tryz.prog 217 #[.slice E a.e.length ce,.slice (some ⟨gl,0,none⟩) nl nl] w2 fun r w'=>r=.returned (.int .u64 (value a.e m.locals:Nat))∧Below w2.heap.size w2 w' :=
  fun w2 hb=>(val_any (h.below hb) hw a.e (hav.e.below hb) (ha.e (by simp[hasE,hop]))).mono fun _ _ ⟨e1,e2,_⟩=>⟨e1,e2⟩
 have HVE:=Lib.hid HVE
 clear hle
 unfold wantC actC
 generalize value a.e m.locals=x at *
 have hmc:Blk w g 170 (machC tl va gl nl m):=h.blk
 clear hws hw ha hop hav h
 generalize a.e.length=le at *
 go_enter Tryz.func227,Tryz.ntmps227
 go_upto_region 1 with fail
 obtain⟨w0,hw0⟩:∃y,y=(w.alloc (.cells #[.int .i64 a.op,.int .i64 a.dst,.int .i64 a.base,.int .i64 a.size,.slice I li ci,.slice E le ce,.slice F lf cf,.int .i64 a.mode,.int .i64 a.to,.int .i64 a.line,.int .i64 a.col] 58)).alloc (.cells #[.int .i64 0,.int .i64 0,.int .i64 0,.int .u64 0,.bool false,.bool false] 100):=⟨_,rfl⟩
 have hb0:Below w.heap.size w w0:=by rw[hw0];exact Kit.bl2
 have hA0:Blk w0 w.heap.size 58 #[.int .i64 a.op,.int .i64 a.dst,.int .i64 a.base,.int .i64 a.size,.slice I li ci,.slice E le ce,.slice F lf cf,.int .i64 a.mode,.int .i64 a.to,.int .i64 a.line,.int .i64 a.col]:=by rw[hw0];exact(Blk.new w _ _).alloc _
 have hW0:Blk w0 (w.heap.size+1) 100 #[.int .i64 0,.int .i64 0,.int .i64 0,.int .u64 0,.bool false,.bool false]:=by rw[hw0];exact Blk.newAt (sizeA w _) _ _
 rw[←hw0]
 clear hw0
 have hM0:=hmc.below' hb0
 have hval:∀p:Cls (Below w0.heap.size w0),Hid (Calls Tryz.prog 217 #[.slice E le ce,.slice (some ⟨gl,0,none⟩) nl nl] p.w fun e w'=>e=.returned (.int .u64 x)∧∃q:Cls (Below w0.heap.size w0),w'=q.w) :=
  fun p=>Calls.cls ((HVE.out p.w (Kit.Below.then hb0 p.h)).mono fun e w' ⟨h1,h2⟩=>⟨h1,Kit.Below.then p.h h2⟩)
 have c5:∀p:Cls (Below w0.heap.size w0),p.w.cell? ⟨w.heap.size,5,none⟩=some (.slice E le ce):=fun p=>hA0.cls 5 p
 have cl:∀p:Cls (Below w0.heap.size w0),p.w.cell? ⟨g,3,none⟩=some (.slice (some ⟨gl,0,none⟩) nl nl):=fun p=>hM0.cls 3 p
 refine wp_region_cls_tail (Below w0.heap.size w0) 8 (Below_drewN _ 1) (by kernel_rfl) (by kernel_rfl) ?_
 intro hne
 simp only[List.take_succ_cons,List.take_zero,List.drop_succ_cons,List.drop_zero]
 repeat (go_big_quiet_step ((go_at_call 217;exact(hval _).out)))
 refine wpQuiet_nil ?_
 intro w8 h8
 clear hne
 clear c5 cl hval
 have hW8:=hW0.below' h8
 have hl8:=hW8.lt
 obtain⟨d0,d1,d2,d3,d4,d5⟩:=Kit.cells6 hW8
 have df:=fun i=>hW8.frozen i
 go_wp2_with fail
 have hB9:=blk_set6 hW8 (.int .i64 4) (.int .i64 0) (.int .i64 0) (.int .u64 x) (.bool false) (.bool false)
 have hb9:=below_set6 (Kit.Below.then hb0 h8) (Nat.le_succ _) (.int .i64 4) (.int .i64 0) (.int .i64 0) (.int .u64 x) (.bool false) (.bool false)
 generalize ((((((w8.setCell ⟨w.heap.size+1,0,none⟩ _).setCell ⟨w.heap.size+1,1,none⟩ _).setCell ⟨w.heap.size+1,2,none⟩ _).setCell ⟨w.heap.size+1,3,none⟩ _).setCell ⟨w.heap.size+1,4,none⟩ _).setCell ⟨w.heap.size+1,5,none⟩ _)=w9 at *
 have e0:=hB9.cell 0
 have e1:=hB9.cell 1
 have e2:=hB9.cell 2
 have e3:=hB9.cell 3
 have e4:=hB9.cell 4
 have e5:=hB9.cell 5
 simp only[List.getElem?_toArray,List.getElem?_cons_zero,List.getElem?_cons_succ]at e0 e1 e2 e3 e4 e5
 exact bodyPost_ret (v:=.agg #[.int .i64 4,.int .i64 0,.int .i64 0,.int .u64 x,.bool false,.bool false]) (by simp[results,Tryz.results227,go_sem,e0,e1,e2,e3,e4,e5]) rfl ⟨rfl,hb9⟩
set_option maxRecDepth 100000 in
set_option maxHeartbeats 4000000 in
theorem store_any {w:World} {g gl nl cells:Nat} (hcells:cells≤4096) {tl:Int} {va:Value} {m:Mch} (h:MachM w g gl tl va nl m) (hw:MchW cells nl m) {n:Nat} (a:SrcP.Act) (ha:ActWell cells nl n a) (hop:a.op=3) {I E F:Option Addr} {li ci le ce lf cf:Nat} (hav:ActV w (.slice I li ci) (.slice E le ce) (.slice F lf cf) a) :
  Calls Tryz.prog 224 #[.pointer (some ⟨g,0,none⟩),.agg (actC a (.slice I li ci) (.slice E le ce) (.slice F lf cf))] w fun r w'=>r=.returned (.agg (wantC (wantS m a)).toArray)∧Below w.heap.size w w':=by
 have hws:wantS m a=⟨2,locS a m.locals,a.mode,value a.e m.locals,false,false⟩:=by simp[wantS,hop]
 rw[hws]
 obtain⟨_,_,hle,_⟩:=hav.e
 obtain⟨rfl,rfl,rfl⟩:E=_∧le=a.e.length∧ce=_:=by simpa using hle
 have HVE:∀w2,Below w.heap.size w w2→Calls Tryz.prog 217 #[.slice E a.e.length ce,.slice (some ⟨gl,0,none⟩) nl nl] w2 fun r w'=>r=.returned (.int .u64 (value a.e m.locals:Nat))∧Below w2.heap.size w2 w' :=
  fun w2 hb=>(val_any (h.below hb) hw a.e (hav.e.below hb) (ha.e (by simp[hasE,hop]))).mono fun _ _ ⟨e1,e2,_⟩=>⟨e1,e2⟩
 have HVE:=Lib.hid HVE
 clear hle
 have HL:∀w2,Below w.heap.size w w2→Calls Tryz.prog 231 #[.pointer (some ⟨g,0,none⟩),.agg (actC a (.slice I li ci) (.slice E a.e.length ce) (.slice F lf cf))] w2 fun r w'=>r=.returned (.int .i64 (locS a m.locals))∧Below w2.heap.size w2 w' :=
  fun w2 hb=>loc_any hcells (h.below hb) hw a ha (by simp[hasPlace,hop]) (hav.below hb)
 unfold wantC
 unfold actC at HL ⊢
 generalize locS a m.locals=y at *
 generalize value a.e m.locals=x at *
 have hmc:Blk w g 170 (machC tl va gl nl m):=h.blk
 clear hws hw ha hop hav h
 have HL:=Lib.hid HL
 go_enter Tryz.func224,Tryz.ntmps224
 generalize a.e.length=le at *
 go_upto_region 1 with fail
 obtain⟨w0,hw0⟩:∃y,y=(w.alloc (.cells #[.int .i64 a.op,.int .i64 a.dst,.int .i64 a.base,.int .i64 a.size,.slice I li ci,.slice E le ce,.slice F lf cf,.int .i64 a.mode,.int .i64 a.to,.int .i64 a.line,.int .i64 a.col] 58)).alloc (.cells #[.int .i64 0,.int .i64 0,.int .i64 0,.int .u64 0,.bool false,.bool false] 100):=⟨_,rfl⟩
 have hb0:Below w.heap.size w w0:=by rw[hw0];exact Kit.bl2
 have hA0:Blk w0 w.heap.size 58 #[.int .i64 a.op,.int .i64 a.dst,.int .i64 a.base,.int .i64 a.size,.slice I li ci,.slice E le ce,.slice F lf cf,.int .i64 a.mode,.int .i64 a.to,.int .i64 a.line,.int .i64 a.col]:=by rw[hw0];exact(Blk.new w _ _).alloc _
 have hW0:Blk w0 (w.heap.size+1) 100 #[.int .i64 0,.int .i64 0,.int .i64 0,.int .u64 0,.bool false,.bool false]:=by rw[hw0];exact Blk.newAt (sizeA w _) _ _
 rw[←hw0]
 clear hw0
 have hM0:=hmc.below' hb0
 have hloc:∀p:Cls (Below w0.heap.size w0),Hid (Calls Tryz.prog 231 #[.pointer (some ⟨g,0,none⟩),.agg #[.int .i64 a.op,.int .i64 a.dst,.int .i64 a.base,.int .i64 a.size,.slice I li ci,.slice E le ce,.slice F lf cf,.int .i64 a.mode,.int .i64 a.to,.int .i64 a.line,.int .i64 a.col]] p.w fun e w'=>e=.returned (.int .i64 y)∧∃q:Cls (Below w0.heap.size w0),w'=q.w) :=
  fun p=>Calls.cls ((HL.out p.w (Kit.Below.then hb0 p.h)).mono fun e w' ⟨h1,h2⟩=>⟨h1,Kit.Below.then p.h h2⟩)
 have hval:∀p:Cls (Below w0.heap.size w0),Hid (Calls Tryz.prog 217 #[.slice E le ce,.slice (some ⟨gl,0,none⟩) nl nl] p.w fun e w'=>e=.returned (.int .u64 x)∧∃q:Cls (Below w0.heap.size w0),w'=q.w) :=
  fun p=>Calls.cls ((HVE.out p.w (Kit.Below.then hb0 p.h)).mono fun e w' ⟨h1,h2⟩=>⟨h1,Kit.Below.then p.h h2⟩)
 have cl:∀p:Cls (Below w0.heap.size w0),p.w.cell? ⟨g,3,none⟩=some (.slice (some ⟨gl,0,none⟩) nl nl):=fun p=>hM0.cls 3 p
 have c0:∀p:Cls (Below w0.heap.size w0),p.w.cell? ⟨w.heap.size,0,none⟩=some (.int .i64 a.op):=fun p=>hA0.cls 0 p
 have c1:∀p:Cls (Below w0.heap.size w0),p.w.cell? ⟨w.heap.size,1,none⟩=some (.int .i64 a.dst):=fun p=>hA0.cls 1 p
 have c2:∀p:Cls (Below w0.heap.size w0),p.w.cell? ⟨w.heap.size,2,none⟩=some (.int .i64 a.base):=fun p=>hA0.cls 2 p
 have c3:∀p:Cls (Below w0.heap.size w0),p.w.cell? ⟨w.heap.size,3,none⟩=some (.int .i64 a.size):=fun p=>hA0.cls 3 p
 have c4:∀p:Cls (Below w0.heap.size w0),p.w.cell? ⟨w.heap.size,4,none⟩=some (.slice I li ci):=fun p=>hA0.cls 4 p
 have c5:∀p:Cls (Below w0.heap.size w0),p.w.cell? ⟨w.heap.size,5,none⟩=some (.slice E le ce):=fun p=>hA0.cls 5 p
 have c6:∀p:Cls (Below w0.heap.size w0),p.w.cell? ⟨w.heap.size,6,none⟩=some (.slice F lf cf):=fun p=>hA0.cls 6 p
 have c7:∀p:Cls (Below w0.heap.size w0),p.w.cell? ⟨w.heap.size,7,none⟩=some (.int .i64 a.mode):=fun p=>hA0.cls 7 p
 have c8:∀p:Cls (Below w0.heap.size w0),p.w.cell? ⟨w.heap.size,8,none⟩=some (.int .i64 a.to):=fun p=>hA0.cls 8 p
 have c9:∀p:Cls (Below w0.heap.size w0),p.w.cell? ⟨w.heap.size,9,none⟩=some (.int .i64 a.line):=fun p=>hA0.cls 9 p
 have c10:∀p:Cls (Below w0.heap.size w0),p.w.cell? ⟨w.heap.size,10,none⟩=some (.int .i64 a.col):=fun p=>hA0.cls 10 p
 refine wp_region_cls_tail (Below w0.heap.size w0) 13 (Below_drewN _ 1) (by kernel_rfl) (by kernel_rfl) ?_
 intro hne
 simp only[List.take_succ_cons,List.take_zero,List.drop_succ_cons,List.drop_zero]
 repeat (go_big_quiet_step ((first |(go_at_call 231;exact(hloc _).out) |(go_at_call 217;exact(hval _).out))))
 refine wpQuiet_nil ?_
 intro w8 h8
 clear hne
 clear c0 c1 c2 c3 c4 c5 c6 c7 c8 c9 c10 hloc cl hval
 have hW8:=hW0.below' h8
 have hl8:=hW8.lt
 obtain⟨d0,d1,d2,d3,d4,d5⟩:=Kit.cells6 hW8
 have df:=fun i=>hW8.frozen i
 go_wp2_with fail
 have hB9:=blk_set6 hW8 (.int .i64 2) (.int .i64 y) (.int .i64 a.mode) (.int .u64 x) (.bool false) (.bool false)
 have hb9:=below_set6 (Kit.Below.then hb0 h8) (Nat.le_succ _) (.int .i64 2) (.int .i64 y) (.int .i64 a.mode) (.int .u64 x) (.bool false) (.bool false)
 generalize ((((((w8.setCell ⟨w.heap.size+1,0,none⟩ _).setCell ⟨w.heap.size+1,1,none⟩ _).setCell ⟨w.heap.size+1,2,none⟩ _).setCell ⟨w.heap.size+1,3,none⟩ _).setCell ⟨w.heap.size+1,4,none⟩ _).setCell ⟨w.heap.size+1,5,none⟩ _)=w9 at *
 have e0:=hB9.cell 0
 have e1:=hB9.cell 1
 have e2:=hB9.cell 2
 have e3:=hB9.cell 3
 have e4:=hB9.cell 4
 have e5:=hB9.cell 5
 simp only[List.getElem?_toArray,List.getElem?_cons_zero,List.getElem?_cons_succ]at e0 e1 e2 e3 e4 e5
 exact bodyPost_ret (v:=.agg #[.int .i64 2,.int .i64 y,.int .i64 a.mode,.int .u64 x,.bool false,.bool false]) (by simp[results,Tryz.results224,go_sem,e0,e1,e2,e3,e4,e5]) rfl ⟨rfl,hb9⟩
end Go.Proofs.YtmjilfamjlnigaaGreat.MchW
