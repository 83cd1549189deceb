/- WALKS: a play's graph is held against the document's own run (chapter 19). -/
import Derived.Test.YtmjilfamjlnigaaGreatQ50
import Derived.Test.YtmjilfamjlnigaaGreatQ51
import Derived.Test.YtmjilfamjlnigaaGreatQ43
namespace Go.Proofs.YtmjilfamjlnigaaGreat.RefW
open Go Go.RowKit Kit SrcP SrcW Go.Proofs.YtmjilfamjlnigaaGreat.MchW
theorem rise_of {x:Rn Mch} (h:RunW.RmwOk x):RiseOk x.events.length x.rmw:=⟨h.1,h.2⟩
def GrRelE (n:Nat) (w2:World) (mm:Nat) (s5:Value) (wr:World):Prop:=∃i q:Nat,s5=.int .i64 i∧i≤n∧mm=n-i∧wr=w2.drewN q
def GrRelC (nc:Nat) (w2:World) (mm:Nat) (s6:Value) (wr:World):Prop:=∃c:Nat,s6=.int .i64 c∧c≤nc∧mm=nc-c∧Below w2.heap.size w2 wr
def GrRelI (n:Nat) (w2:World) (mm:Nat) (s8:Value) (wr:World):Prop:=∃i:Nat,s8=.int .i64 i∧i≤n∧mm=n-i∧Below w2.heap.size w2 wr
set_option maxRecDepth 100000 in
set_option maxHeartbeats 0 in
theorem Graph_any {mz:List Value} {w0:World} {nc:Nat} (hnc:nc≤4096) {w:World} {who:Nat→Option Dq} {V:DV} {x:Rn Mch} {r:RR} (h:RunAt mz w0 nc w who V r) (hre:r.events=x.events) (hrf:r.rf=x.rf) (hrm:r.rmw=x.rmw) (hri:RI nc x) (hrn:RnOk nc x) (hev:x.events.length≤256) (hmw:RunW.RmwOk x) {lo:Nat} {Q:LawW.SL} (hQ:LawW.PlayQ lo w Q x) :
  Calls Tryz.prog 12 #[.agg #[.int .i64 nc,.slice Q.ae x.events.length Q.ce,.slice Q.af x.rf.length Q.cf,.slice Q.ao Q.no Q.co,.slice Q.am x.rmw.length Q.cm,.slice none 0 0,.slice none 0 0,.slice none 0 0],.agg (runD nc V r)] w fun e w'=>e=.returned (.bool true)∧Below w.heap.size w w':=by
 obtain⟨aT,cT,ae,ce,af,cf,am,cm,ao,co,al,cl,ap,cp,hvT,hve,hvf,hvm,hvo,hvl,hvp⟩:=h.slices
 rw[hre]at hve
 rw[hrf]at hvf
 rw[hrm]at hvm
 have hno:Q.no=nc:=by
  have h1:=hQ.co
  obtain⟨A,c,hv,_⟩:=OwnR.own_slice h1
  have h2:(Value.slice Q.ao Q.no Q.co)=.slice A Q.coi.length c:=hv
  injection h2 with _ h2 _
  rw[h2]
  exact hQ.col.trans hrn.co
 have hrd:∃cnT cno cnl cnp cnu:Nat,runD nc V r=#[.bool false,.int .i64 nc,.slice aT cnT cT,.slice ae x.events.length ce,.slice af x.rf.length cf,.slice am x.rmw.length cm,.slice ao cno co,.slice al cnl cl,.slice ap cnp cp,.int .i64 cnu]:=⟨V.tcs.length,V.vo.length,r.log.length,r.picks.length,r.used,by unfold runD;rw[hvT,hve,hvf,hvm,hvo,hvl,hvp]⟩
 obtain⟨cnT,cno,cnl,cnp,cnu,hrd⟩:=hrd
 have HRD:=Lib.hid hrd
 have HX:=Lib.hid h
 have HQ:=Lib.hid hQ
 have hoe:=h.own .ev
 simp only[dT,dS,DV.val,dN,dX]at hoe
 rw[hve,hre]at hoe
 have HOE:=Lib.hid hoe
 have hof:=h.own .rf
 simp only[dT,dS,DV.val,dN,dX]at hof
 rw[hvf,hrf]at hof
 have HOF:=Lib.hid hof
 have hrfl:=hrn.rf
 have hrml:=hrn.rmw
 have HCO:Hid (∀c:Nat,c<nc→x.co.getD c []=coG (c:Int) 0 x.events):=Lib.hid fun c hc=>(hri.mem.at_ c hc).2.2
 have HCL:Hid (∀c:Nat,(x.co.getD c []).length≤256):=Lib.hid fun c=>by
  have:=mem_getD (P:=fun l=>l.length≤x.events.length) hrn.coi [] (Nat.zero_le _) c
  omega
 have HXC:Hid (x.co.length=nc):=Lib.hid hrn.co
 rw[hrd,hno]
 clear hrd hno hvT hve hvf hvm hvo hvl hvp h hQ hoe hof
 have HDep:∀which:Int,Hid (∀w2,Below w.heap.size w w2→Calls Tryz.prog 29 #[.agg #[.bool false,.int .i64 nc,.slice aT cnT cT,.slice ae x.events.length ce,.slice af x.rf.length cf,.slice am x.rmw.length cm,.slice ao cno co,.slice al cnl cl,.slice ap cnp cp,.int .i64 cnu],.int .i64 which] w2 fun e w'=>∃A c,e=.returned (.slice A (if which=0 then x.rmw else []).length c)∧w'.ownsRow w2.heap.size 51 2 (.slice A (if which=0 then x.rmw else []).length c) (if which=0 then x.rmw else []).length ((if which=0 then x.rmw else []).flatMap RunW.pairC)∧Below w2.heap.size w2 w'):=fun which=>Lib.hid fun w2 hb=>by
  have h1:=Deps_any (HX.out.below hb) (by rw[hre];omega) (by rw[hrm];omega) (by rw[hre,hrm];exact rise_of hmw) which
  rw[HRD.out,hrm]at h1
  exact h1
 have HDep0:Hid (∀w2,Below w.heap.size w w2→Calls Tryz.prog 29 #[.agg #[.bool false,.int .i64 nc,.slice aT cnT cT,.slice ae x.events.length ce,.slice af x.rf.length cf,.slice am x.rmw.length cm,.slice ao cno co,.slice al cnl cl,.slice ap cnp cp,.int .i64 cnu],.int .i64 0] w2 fun e w'=>∃A c,e=.returned (.slice A x.rmw.length c)∧w'.ownsRow w2.heap.size 51 2 (.slice A x.rmw.length c) x.rmw.length (x.rmw.flatMap RunW.pairC)∧Below w2.heap.size w2 w'):=Lib.hid (HDep 0).out
 have HDepN:∀which:Int,which≠0→Hid (∀w2,Below w.heap.size w w2→Calls Tryz.prog 29 #[.agg #[.bool false,.int .i64 nc,.slice aT cnT cT,.slice ae x.events.length ce,.slice af x.rf.length cf,.slice am x.rmw.length cm,.slice ao cno co,.slice al cnl cl,.slice ap cnp cp,.int .i64 cnu],.int .i64 which] w2 fun e w'=>∃A c,e=.returned (.slice A 0 c)∧Below w2.heap.size w2 w'):=fun which hw=>Lib.hid fun w2 hb=>by
  have h1:=(HDep which).out w2 hb
  simp only[if_neg hw]at h1
  exact h1.mono fun e w' ⟨A,c,h2,_,h3⟩=>⟨A,c,h2,h3⟩
 have HD1:=HDepN 1 (by decide)
 have HD2:=HDepN 2 (by decide)
 have HD3:=HDepN 3 (by decide)
 have HCo:Hid (∀(c:Nat),c<nc→∀w2,Below w.heap.size w w2→Calls Tryz.prog 30 #[.agg #[.bool false,.int .i64 nc,.slice aT cnT cT,.slice ae x.events.length ce,.slice af x.rf.length cf,.slice am x.rmw.length cm,.slice ao cno co,.slice al cnl cl,.slice ap cnp cp,.int .i64 cnu],.int .i64 (c:Int)] w2 fun e w'=>∃A c',e=.returned (.slice A (x.co.getD c []).length c')∧w'.ownsRow w2.heap.size 3 1 (.slice A (x.co.getD c []).length c') (x.co.getD c []).length ((x.co.getD c []).map RunW.i64V)∧Below w2.heap.size w2 w'):=Lib.hid fun c hc w2 hb=>by
  have h1:=Co_any (HX.out.below hb) (by rw[hre];omega) (c:Int)
  rw[HRD.out,hre,←HCO.out c hc]at h1
  exact h1
 have HPrf:Hid (∀w2,Below w.heap.size w w2→Calls Tryz.prog 28 #[.slice Q.af x.rf.length Q.cf,.slice af x.rf.length cf] w2 fun e w'=>e=.returned (.bool true)∧∃n,w'=w2.drewN n):=Lib.hid fun w2 hb=>by
  have h1:=pairs_any w2 Q.af af x.rf x.rf Q.cf cf (own_pairs (RunW.own_below HQ.out.rf hb) rfl) (own_pairs (RunW.own_below HOF.out hb) rfl) (by omega) (by omega)
  rw[show(x.rf == x.rf)=true by simp]at h1
  exact h1
 have HRM:Hid (∀w2,Below w.heap.size w w2→PairsAt w2 Q.am x.rmw):=Lib.hid fun w2 hb=>by
  have h1:=HQ.out.rmw
  have h2:RunW.toldR x = { x with rmw:=RunW.sortP x.rmw }:=rfl
  rw[h2]at h1
  simp only[RunW.rmw_sorted hmw]at h1
  exact own_pairs (RunW.own_below h1 hb) rfl
 have HPnil:Hid (∀(w2:World) (A:Option Addr) (c:Nat),Calls Tryz.prog 28 #[.slice none 0 0,.slice A 0 c] w2 fun e w'=>e=.returned (.bool true)∧∃n,w'=w2.drewN n):=Lib.hid fun w2 A c=>by
  have h1:=pairs_any w2 none A [] [] 0 c PairsAt.nil PairsAt.nil (Nat.zero_le _) (Nat.zero_le _)
  exact h1
 clear HDep HDepN
 go_enter Tryz.func12,Tryz.ntmps12
 go_upto_region 1 with fail
 obtain⟨w1,hw1⟩:∃yy:World,yy=(w.alloc (.cells #[.int .i64 nc,.slice Q.ae x.events.length Q.ce,.slice Q.af x.rf.length Q.cf,.slice Q.ao nc Q.co,.slice Q.am x.rmw.length Q.cm,.slice none 0 0,.slice none 0 0,.slice none 0 0] 31)).alloc (.cells #[.bool false,.int .i64 nc,.slice aT cnT cT,.slice ae x.events.length ce,.slice af x.rf.length cf,.slice am x.rmw.length cm,.slice ao cno co,.slice al cnl cl,.slice ap cnp cp,.int .i64 cnu] 47):=⟨_,rfl⟩
 have hb1:Below w.heap.size w w1:=by rw[hw1];exact Kit.bl2
 have hP1:Blk w1 w.heap.size 31 #[.int .i64 nc,.slice Q.ae x.events.length Q.ce,.slice Q.af x.rf.length Q.cf,.slice Q.ao nc Q.co,.slice Q.am x.rmw.length Q.cm,.slice none 0 0,.slice none 0 0,.slice none 0 0]:=by rw[hw1];exact(Blk.new _ _ _).alloc _
 have hR1:Blk w1 (w.heap.size+1) 47 #[.bool false,.int .i64 nc,.slice aT cnT cT,.slice ae x.events.length ce,.slice af x.rf.length cf,.slice am x.rmw.length cm,.slice ao cno co,.slice al cnl cl,.slice ap cnp cp,.int .i64 cnu]:=by rw[hw1];exact Blk.newAt (sizeA _ _) _ _
 rw[←hw1]
 clear hw1
 obtain⟨p0,p1,p2,p3,p4,p5,p6,p7⟩:=Kit.cellsA8 fun p:Cls (Below w1.heap.size w1)=>(hP1.below' p.h)
 obtain⟨c0,c1,c2,c3,c4,c5,c6,c7,c8,c9⟩:=Kit.cellsA10 fun p:Cls (Below w1.heap.size w1)=>(hR1.below' p.h)
 have hne:Nonempty (Cls (Below w1.heap.size w1)):=⟨⟨w1,Below.refl _ _⟩⟩
 have hbd:Below w1.heap.size w1 (w1.drewN 1):=Below_drewN _ 1
 have hsb:=hb1.size
 try simp only[List.append]
 refine wp_region_float_go (fun w'=>∃p:Cls (Below w1.heap.size w1),w'=p.w) 62 (by kernel_rfl) rfl ?_
 refine floatG_reads3 35 [0,1,2,3,4,5,6,7,8,9,10,11,12,13,14,15,16,17,18,19,20,21,22,23,24,25,26] ⟨⟨_,hbd⟩,rfl⟩ rfl (by kernel_rfl) ?_
 simp only[pickL,List.map_cons,List.map_nil,List.getElem?_cons_succ,List.getElem?_cons_zero,Option.getD_some]
 repeat (go_big_quiet_step (fail))
 refine wpQuiet_nil ?_
 generalize w1.drewN 1=wd at *
 refine fG (i:=27) rfl ?_
 have HH1:=Lib.hid (HPrf.out wd (hb1.trans (hbd.mono hsb)))
 go_wp2_with (go_at_call 28;refine HH1.out.mono ?_;rintro e x1 ⟨rfl,n1,rfl⟩)
 clear HH1
 have hy1:Below w1.heap.size w1 (wd.drewN n1):=Kit.Below.dn hbd
 generalize wd.drewN n1=x1 at *
 refine Kit.oG hy1 ?_
 refine floatG_reads3 28 [28,29,30,31,32,33] ⟨⟨_,hy1⟩,rfl⟩ rfl (by kernel_rfl) ?_
 simp only[pickL,List.map_cons,List.map_nil,List.getElem?_cons_succ,List.getElem?_cons_zero,Option.getD_some]
 repeat (go_big_quiet_step (fail))
 refine wpQuiet_nil ?_
 refine fG (i:=34) rfl ?_
 have HH2:=Lib.hid (HDep0.out x1 (hb1.trans (hy1.mono hsb)))
 go_wp2_with (go_at_call 29;refine HH2.out.mono ?_;rintro e x2 ⟨A2,d2,rfl,ho2,hq2⟩)
 clear HH2
 have hy2:Below w1.heap.size w1 x2:=hy1.trans (hq2.mono hy1.size)
 refine Kit.oG hy2 ?_
 have HPm:Hid (Calls Tryz.prog 28 #[.slice Q.am x.rmw.length Q.cm,.slice A2 x.rmw.length d2] x2 fun e w'=>e=.returned (.bool true)∧∃n,w'=(x2).drewN n):=Lib.hid (by
  have h1:=pairs_any x2 Q.am A2 x.rmw x.rmw Q.cm d2 (HRM.out _ (hb1.trans (hy2.mono hsb))) (own_pairs ho2 rfl) (by omega) (by omega)
  rw[show(x.rmw == x.rmw)=true by simp]at h1
  exact h1)
 refine fG (i:=35) rfl ?_
 have HH3:=Lib.hid (HPm.out)
 go_wp2_with (go_at_call 28;refine HH3.out.mono ?_;rintro e x3 ⟨rfl,n3,rfl⟩)
 clear HH3
 have hy3:Below w1.heap.size w1 (x2.drewN n3):=Kit.Below.dn hy2
 generalize x2.drewN n3=x3 at *
 refine Kit.oG hy3 ?_
 refine floatG_reads3 20 [36,37,38,39,40,41] ⟨⟨_,hy3⟩,rfl⟩ rfl (by kernel_rfl) ?_
 simp only[pickL,List.map_cons,List.map_nil,List.getElem?_cons_succ,List.getElem?_cons_zero,Option.getD_some]
 repeat (go_big_quiet_step (fail))
 refine wpQuiet_nil ?_
 refine fG (i:=42) rfl ?_
 have HH4:=Lib.hid (HD1.out x3 (hb1.trans (hy3.mono hsb)))
 go_wp2_with (go_at_call 29;refine HH4.out.mono ?_;rintro e x4 ⟨A4,d4,rfl,hq4⟩)
 clear HH4
 have hy4:Below w1.heap.size w1 x4:=hy3.trans (hq4.mono hy3.size)
 refine Kit.oG hy4 ?_
 refine fG (i:=43) rfl ?_
 have HH5:=Lib.hid (HPnil.out x4 A4 d4)
 go_wp2_with (go_at_call 28;refine HH5.out.mono ?_;rintro e x5 ⟨rfl,n5,rfl⟩)
 clear HH5
 have hy5:Below w1.heap.size w1 (x4.drewN n5):=Kit.Below.dn hy4
 generalize x4.drewN n5=x5 at *
 refine Kit.oG hy5 ?_
 refine floatG_reads3 12 [44,45,46,47,48,49] ⟨⟨_,hy5⟩,rfl⟩ rfl (by kernel_rfl) ?_
 simp only[pickL,List.map_cons,List.map_nil,List.getElem?_cons_succ,List.getElem?_cons_zero,Option.getD_some]
 repeat (go_big_quiet_step (fail))
 refine wpQuiet_nil ?_
 refine fG (i:=50) rfl ?_
 have HH6:=Lib.hid (HD2.out x5 (hb1.trans (hy5.mono hsb)))
 go_wp2_with (go_at_call 29;refine HH6.out.mono ?_;rintro e x6 ⟨A6,d6,rfl,hq6⟩)
 clear HH6
 have hy6:Below w1.heap.size w1 x6:=hy5.trans (hq6.mono hy5.size)
 refine Kit.oG hy6 ?_
 refine fG (i:=51) rfl ?_
 have HH7:=Lib.hid (HPnil.out x6 A6 d6)
 go_wp2_with (go_at_call 28;refine HH7.out.mono ?_;rintro e x7 ⟨rfl,n7,rfl⟩)
 clear HH7
 have hy7:Below w1.heap.size w1 (x6.drewN n7):=Kit.Below.dn hy6
 generalize x6.drewN n7=x7 at *
 refine Kit.oG hy7 ?_
 refine floatG_reads3 4 [52,53,54,55,56,57] ⟨⟨_,hy7⟩,rfl⟩ rfl (by kernel_rfl) ?_
 simp only[pickL,List.map_cons,List.map_nil,List.getElem?_cons_succ,List.getElem?_cons_zero,Option.getD_some]
 repeat (go_big_quiet_step (fail))
 refine wpQuiet_nil ?_
 refine fG (i:=58) rfl ?_
 have HH8:=Lib.hid (HD3.out x7 (hb1.trans (hy7.mono hsb)))
 go_wp2_with (go_at_call 29;refine HH8.out.mono ?_;rintro e x8 ⟨A8,d8,rfl,hq8⟩)
 clear HH8
 have hy8:Below w1.heap.size w1 x8:=hy7.trans (hq8.mono hy7.size)
 refine Kit.oG hy8 ?_
 refine fG (i:=59) rfl ?_
 have HH9:=Lib.hid (HPnil.out x8 A8 d8)
 go_wp2_with (go_at_call 28;refine HH9.out.mono ?_;rintro e x9 ⟨rfl,n9,rfl⟩)
 clear HH9
 have hy9:Below w1.heap.size w1 (x8.drewN n9):=Kit.Below.dn hy8
 generalize x8.drewN n9=x9 at *
 refine Kit.oG hy9 ?_
 refine floatG_reads3 0 [60,61] ⟨⟨_,hy9⟩,rfl⟩ rfl (by kernel_rfl) ?_
 simp only[pickL,List.map_cons,List.map_nil,List.getElem?_cons_succ,List.getElem?_cons_zero,Option.getD_some]
 repeat (go_big_quiet_step (fail))
 refine wpQuiet_nil ?_
 refine(show tailG _ _ _ _ _ _ _ from⟨by kernel_rfl,?_⟩)
 simp only[List.drop_succ_cons,List.drop_nil]
 clear p0 p1 p2 p3 p4 p5 p6 p7 c0 c1 c2 c3 c4 c5 c6 c7 c8 c9 hne
 have hPx:=hP1.below' hy9
 have hRx:=hR1.below' hy9
 have hbx:=hb1.trans (hy9.mono hsb)
 clear hP1 hR1 hb1 hbd hsb
 go_upto_region 4 with fail
 obtain⟨w2,hw2⟩:∃yy:World,yy=x9:=⟨_,rfl⟩
 rw[←hw2]at hPx hRx hbx ⊢
 clear hw2 hy9
 have hQx:=HQ.out
 have p1:w2.cell? ⟨w.heap.size,1,none⟩=some (.slice Q.ae x.events.length Q.ce):=Blk.cell hPx 1
 have c3:w2.cell? ⟨(w.heap.size+1),3,none⟩=some (.slice ae x.events.length ce):=Blk.cell hRx 3
 have HPE:=Lib.hid (RunW.own_below HQ.out.evR hbx)
 have HRE:=Lib.hid (RunW.own_below HOE.out hbx)
 clear hQx
 go_loopg [5] x.events.length (fun mm s5 wr=>GrRelE x.events.length w2 mm s5 wr)
 case atStart=>exact⟨0,0,rfl,Nat.zero_le _,rfl,(World.drewN_zero _).symm⟩
 case round =>
  obtain⟨i,q,rfl,hi,hmm,rfl⟩:=hrel
  have HM:=Lib.hid hmm
  clear hmm
  by_cases hke:i<x.events.length
  ·have q1:(i:Int)<(x.events.length:Int):=by omega
   have q2:(0:Int)≤(i:Int):=by omega
   obtain⟨e,hee⟩:∃e,x.events[i]?=some e:=⟨_,Kit.eG hke⟩
   obtain⟨gye,hye,_,_,_,_,hyc⟩:=LawW.row_at HPE.out (by omega)
   obtain⟨gxe,hxe,_,_,_,_,hxc⟩:=LawW.row_at HRE.out (by omega)
   obtain⟨f0,f1,f2,f3,f4⟩:=LawW.ev_cells hyc hee
   obtain⟨g0,g1,g2,g3,g4⟩:=LawW.ev_cells hxc hee
   rw[hye]at p1
   rw[hxe]at c3
   clear hyc hxc hee hye hxe
   go_upto_region 6 with fail
   go_quiet (fail)
   go_wp2_with fail
   go_roundg (x.events.length-(i+1))
   case measure=>have:=HM.out;omega
   case rel=>exact⟨i+1,_,by push_cast;rfl,hke,rfl,rfl⟩
  ·obtain rfl:i=x.events.length:=by omega
   have q1:¬((x.events.length:Int)<(x.events.length:Int)):=by omega
   clear hi HM hke HPE HRE
   obtain⟨wd,hwd⟩:∃y,y=w2.drewN q:=⟨_,rfl⟩
   rw[←hwd]
   have hbd:Below w2.heap.size w2 wd:=by rw[hwd];exact Below_drewN _ _
   have hPd:=hPx.below' hbd
   have hRd:=hRx.below' hbd
   have hbwd:=hbx.trans (hbd.mono hbx.size)
   clear hwd hPx hRx hbx hbd p1 c3
   have p1:wd.cell? ⟨w.heap.size,1,none⟩=some (.slice Q.ae x.events.length Q.ce):=Blk.cell hPd 1
   go_upto_region 9 with fail
   clear p1 q1
   go_loopg [6] nc (fun mm s6 wr=>GrRelC nc wd mm s6 wr)
   case atStart=>exact⟨0,rfl,Nat.zero_le _,rfl,Below.refl _ _⟩
   case round =>
    obtain⟨c,rfl,hc,hmm,hb⟩:=hrel
    have HM:=Lib.hid hmm
    clear hmm
    have hPr:=hPd.below' hb
    have hRr:=hRd.below' hb
    have hbr:=hbwd.trans (hb.mono hbwd.size)
    have c1:wr.cell? ⟨(w.heap.size+1),1,none⟩=some (.int .i64 nc):=Blk.cell hRr 1
    by_cases hcn:c<nc
    ·have q1:(c:Int)<(nc:Int):=by omega
     have q2:(0:Int)≤(c:Int):=by omega
     obtain⟨L,hL⟩:∃L,L=x.co.getD c []:=⟨_,rfl⟩
     have hLl:L.length≤256:=by rw[hL];exact HCL.out c
     have HCo1:=Lib.hid (HCo.out c hcn wr hbr)
     rw[←hL]at HCo1
     have hoc:=RunW.own_below (HQ.out.coi c) hbr
     have hcoe:(RunW.toldR x).co.getD c []=L:=hL.symm
     rw[hcoe]at hoc
     obtain⟨Ac,cc,hvc,_⟩:=OwnR.own_slice hoc
     rw[hvc]at hoc
     have hco:=RunW.own_below HQ.out.co hbr
     have hcol:Q.coi.length=nc:=HQ.out.col.trans HXC.out
     obtain⟨gco,hgco,_,_,_,_,hcc⟩:=LawW.row_at (show wr.ownsRow lo 25 1 (.slice Q.ao nc Q.co) nc Q.coi by
      have h1:=hco
      have h2:wr.ownsRow lo 25 1 (.slice Q.ao Q.no Q.co) Q.coi.length Q.coi:=h1
      obtain⟨A',c',hv',_⟩:=OwnR.own_slice h2
      injection hv' with _ hv' _
      rw[hv',hcol]at h2
      exact h2) (by omega)
     have kct:=hcc c (.slice Ac L.length cc) (by
      rw[←hvc]
      show Q.coi[c]?=some (Q.coi.getD c RunW.nilV)
      rw[Kit.gD,Kit.eG (by rw[hcol];exact hcn)]
      rfl)
     have HOC:=Lib.hid hoc
     have HGCO:=Lib.hid hgco
     have hgcl:=World.block_lt_of_cell? _ _ kct
     clear hL hoc hcoe hvc hco hcol hcc hgco
     obtain⟨d0,d1,d2,d3,d4,d5,d6,d7,d8,d9⟩:=Kit.cells10 hRr
     go_upto_region 12 with (go_at_call 30;refine HCo1.out.mono ?_;rintro e w5 ⟨Al,cl',rfl,hol,hb5⟩)
     clear HCo1 d0 d1 d2 d3 d4 d5 d6 d7 d8 d9 c1
     have hP5:=hPr.below' hb5
     have p3:w5.cell? ⟨w.heap.size,3,none⟩=some (.slice (some ⟨gco,0,none⟩) nc Q.co):=by rw[←HGCO.out];exact Blk.cell hP5 3
     have p3t:w5.cell? ⟨gco,c,none⟩=some (.slice Ac L.length cc):=(hb5.cell (p:=⟨gco,c,none⟩) hgcl).trans kct
     have hgc5:gco<w5.heap.size:=Nat.lt_of_lt_of_le hgcl hb5.size
     have hoc5:=RunW.own_below HOC.out hb5
     have hb5d:Below wd.heap.size wd w5:=hb.trans (hb5.mono hb.size)
     have e0:((L.length:Int) != (L.length:Int))=false:=by simp
     go_upto_region 15 with fail
     go_loopg [8] L.length (fun mm s8 w6=>GrRelI L.length w5 mm s8 w6)
     case atStart=>exact⟨0,rfl,Nat.zero_le _,rfl,Below.refl _ _⟩
     case round =>
      obtain⟨i,rfl,hi,hmm,hb6⟩:=hrel
      have HM6:=Lib.hid hmm
      clear hmm
      by_cases hie:i<L.length
      ·have g1:(i:Int)<(L.length:Int):=by omega
       have g2:(0:Int)≤(i:Int):=by omega
       obtain⟨v,hv⟩:∃v,L[i]?=some v:=⟨_,Kit.eG hie⟩
       obtain⟨gl,hgl,_,_,_,_,hlc⟩:=LawW.row_at (RunW.own_below hol hb6) (by omega)
       obtain⟨gc,hgc,_,_,_,_,hcc⟩:=LawW.row_at (RunW.own_below hoc5 hb6) (by omega)
       have kl:=hlc i (.int .i64 v) (by rw[List.getElem?_map,hv];rfl)
       have kc:=hcc i (.int .i64 v) (by rw[List.getElem?_map,hv];rfl)
       have k3:wr.cell? ⟨w.heap.size,3,none⟩=some (.slice (some ⟨gco,0,none⟩) nc Q.co):=by rw[hb6.cell (p:=⟨w.heap.size,3,none⟩) hP5.lt];exact p3
       have k3t:wr.cell? ⟨gco,c,none⟩=some (.slice (some ⟨gc,0,none⟩) L.length cc):=by rw[←hgc];exact(hb6.cell (p:=⟨gco,c,none⟩) hgc5).trans p3t
       have e1:((v:Int) == (v:Int))=true:=by simp
       have HGL:=Lib.hid hgl
       rw[hgl]
       clear hlc hcc hv hgl hgc p3 p3t
       go_upto_region 17 with fail
       go_quiet (fail)
       go_wp2_with fail
       rw[←HGL.out]
       go_roundg (L.length-(i+1))
       case measure=>have:=HM6.out;omega
       case rel=>exact⟨i+1,by push_cast;rfl,hie,rfl,Kit.Below.dn hb6⟩
      ·obtain rfl:i=L.length:=by omega
       have g1:¬((L.length:Int)<(L.length:Int)):=by omega
       clear p3 p3t
       go_wp2_with fail
       go_roundg (nc-(c+1))
       case measure=>have:=HM.out;omega
       case rel=>exact⟨c+1,by push_cast;rfl,hcn,rfl,hb5d.trans (hb6.mono hb5d.size)⟩
    ·obtain rfl:c=nc:=by omega
     have q1:¬((c:Int)<(c:Int)):=by omega
     go_wp2_with fail
     go_ret
     exact⟨rfl,hbr⟩
end Go.Proofs.YtmjilfamjlnigaaGreat.RefW
namespace Go.Proofs.YtmjilfamjlnigaaGreat.LawW
open Go Go.RowKit Kit SrcP SrcW MchW OwnR NewW RunW
def PlayQD (lo:Nat) (w:World) (Q:SL) (r:Rn Mch):Prop:=PlayWD lo w (Q.pv r) (toldR r) (haltL (srcK false) r.ths)
theorem PlayQD.q {lo:Nat} {w:World} {Q:SL} {r:Rn Mch} (h:PlayQD lo w Q r):PlayQ lo w Q r:=h.pw
theorem PlayQD.below {lo:Nat} {w w':World} {Q:SL} {r:Rn Mch} (h:PlayQD lo w Q r) (hb:Below w.heap.size w w'):PlayQD lo w' Q r:=PlayWD.below h hb
theorem PlayQD.else_ {S:Nat→Prop} {lo g:Nat} {w w':World} {Q:SL} {r:Rn Mch} {cs:Array Value} (h:PlayQD lo w Q r) (hb:Blk w g 36 cs) (hk:KeptS S w w') (hS:∀k,S k→k=g):PlayQD lo w' Q r:=PlayWD.else_ h hb hk hS
def SrcOk3 (nc:Nat) (r:Rn Mch) (w:World) (e:Ending) (w':World):Prop :=
 Below w.heap.size w w'∧∃Q:SL,e=.returned (.tuple #[.agg #[.int .i64 (nc:Int),.slice Q.ae r.events.length Q.ce,.slice Q.af r.rf.length Q.cf,.slice Q.ao Q.no Q.co,.slice Q.am r.rmw.length Q.cm,.slice none 0 0,.slice none 0 0,.slice none 0 0,.slice Q.ac r.cells.length Q.cc,.slice Q.au Q.nu Q.cu,.slice Q.ah r.ths.length Q.ch,.int .i64 (r.used:Int)],.int .i64 0])∧PlayQD w.heap.size w' Q r
theorem source_ok3 {p:SrcP.Prog} {picks:List Int} {fuel:Int} {w:World} {e:Ending} {w':World} {r:Rn Mch} (hr:sourceS p picks fuel false=.ok r) (h:SourcePost3 p picks fuel w e w'):SrcOk3 p.cells.toNat r w e w':=by
 unfold SourcePost3 at h
 simp only[hr]at h
 obtain⟨hb,Ae,ce,Af,cf,Ao,no,co,Am,cm,Ac,cc,Au,nu,cu,Ah,ch,coi,outi,he,hP⟩:=h
 exact⟨hb,⟨Ae,ce,Af,cf,Ao,no,co,Am,cm,Ac,cc,Au,nu,cu,Ah,ch,coi,outi⟩,he,hP⟩
end Go.Proofs.YtmjilfamjlnigaaGreat.LawW
