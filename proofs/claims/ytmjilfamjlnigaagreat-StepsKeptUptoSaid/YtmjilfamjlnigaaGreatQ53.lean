/- WALKS: the law StepsKept, where the run comes to no end. -/
import Derived.Test.YtmjilfamjlnigaaGreatQ49
import Derived.Test.YtmjilfamjlnigaaGreatQ52
namespace Go.Proofs.YtmjilfamjlnigaaGreat.RefW
open Go Go.RowKit Kit SrcP SrcW Go.Proofs.YtmjilfamjlnigaaGreat.MchW
set_option maxRecDepth 100000 in
set_option maxHeartbeats 0 in
theorem Kept_err (p:SrcP.Prog) (hv:RunW.ProgV p) (vt:Value) (hlen:p.threads.length≤1048576) (picks:List Int) (hpl:picks.length≤1048576) (w:World) (hth:ThreadsAt w vt p.threads) (A:Option Addr) (cA:Nat) (hI:RunW.IntsAt w A picks) (hA:∀ad,A=some ad→ad.block<w.heap.size) (en:Nat) (hS:sourceS p picks 1000 false=.error en) :
  Calls Tryz.prog 4 #[.agg #[.int .i64 p.cells,vt],.slice A picks.length cA] w fun e w'=>e=.returned (.bool true)∧Below w.heap.size w w':=by
 have hRS:refS p picks 1000=.error en:=by have h1:=RunW.refS_of p hv picks 1000;rw[hS]at h1;exact h1
 have hen:=RunW.source_err hS
 have HAW:=fun w=>Lib.hid (LawW.awake_any w)
 have HT:=Lib.hid hth
 obtain⟨B,cB,rfl,_⟩:=hth
 have hml:(16*1048576:Nat)≤maxLen:=by decide
 obtain⟨j0,hj0,hjz0,hjz1,hjz2⟩:=info_parts RunW.info_int
 go_enter Tryz.func4,Tryz.ntmps4
 go_upto_region 3 with (go_at_call 8;refine(HAW _).out.mono ?_;rintro e w1 ⟨rfl,hb1⟩)
 have hP1:Blk w1 w.heap.size 24 #[.int .i64 p.cells,.slice B p.threads.length cB]:=(Blk.new w _ _).below' hb1
 have hbw1:Below w.heap.size w w1:=Kit.Below.then (Kit.bl1) hb1
 clear hb1 HAW
 have hI1:=LawW.ints_below hI hA hbw1
 have HI:=Lib.hid hI
 have HA:=Lib.hid hA
 go_upto_region 4 with fail
 go_cut [5] (fun s5 wz=>∃Ai ci,s5=.slice Ai picks.length ci∧wz.ownsRow w1.heap.size 3 1 (.slice Ai picks.length ci) picks.length (picks.map (Value.int .i64))∧Below w1.heap.size w1 wz)
 case first =>
  by_cases hnn:picks = []
  ·subst hnn
   cases A with
   | none =>
    go_wp2_with fail
    go_meet
    exact⟨none,0,rfl,⟨rfl,.inl ⟨rfl,rfl⟩⟩,Below.refl _ _⟩
   | some ad =>
    go_wp2_with fail
    go_meet
    exact⟨none,0,rfl,⟨rfl,.inl ⟨rfl,rfl⟩⟩,Below.refl _ _⟩
  ·have hpos:0<picks.length:=List.length_pos_iff.2 hnn
   obtain⟨ad,rfl,_⟩:=hI1 0 picks[0] (Kit.eG hpos)
   have hnews:∀(j:Nat) (u:Value),(picks.map (Value.int .i64))[j]?=some u→w1.cell? (ad.add j)=some u:=fun j u hj=>by
    rw[List.getElem?_map]at hj
    cases hx:picks[j]? with
    | none=>rw[hx]at hj;cases hj
    | some x =>
     rw[hx]at hj
     injection hj with hj
     obtain⟨ad',h1,h2⟩:=hI1 j x hx
     injection h1 with h1
     rw[h1,h2,←hj]
   have hone:∀u∈picks.map (Value.int .i64),u.oneCell'=true:=fun u hu=>by
    obtain⟨y,_,rfl⟩:=List.mem_map.1 hu
    rfl
   have HNW:=Lib.hid hnews
   have HO1:=Lib.hid hone
   have HOW:Hid (w1.ownsRow w1.heap.size 3 1 (.slice none 0 0) 0 []):=Lib.hid ⟨rfl,.inl ⟨rfl,rfl⟩⟩
   clear hnews hone hnn hI1
   go_wp2_with (at_builtin;refine wpList_append_lies _ (by rfl) _ _ _ (by rfl) w1.heap.size 3 j0 _ 1 8 Tryz.underlying25 hj0 hjz0 hjz1 hjz2 rfl (by omega) _ 0 _ (by rfl) HOW.out ad picks.length cA (picks.map (Value.int .i64)) (by rfl) (by first | exact(List.length_map _).trans (Nat.mul_one _).symm | exact List.length_map _) HNW.out HO1.out hpos (by omega) (by omega) (Nat.le_refl _) _ rfl ?_;intro g15 cap15 w15 hown15 hgrow15 hat15 hlt15)
   go_meet
   rw[Nat.zero_add,List.nil_append]at hown15
   exact⟨_,_,rfl,hown15,(Below.refl w1.heap.size w1).grown hgrow15 (Nat.le_refl _) (fun k hk=>by simp[Value.ownBlock]at hk)⟩
 obtain⟨Ai0,ci0,rfl,hown2,hb12⟩:=hcut
 have hba:Below wc.heap.size wc (wc.alloc (.cells #[.int .i64 201] 3)):=Kit.bl1
 have hNa:Blk (wc.alloc (.cells #[.int .i64 201] 3)) wc.heap.size 3 (List.toArray [Value.int .i64 201]):=Blk.new _ _ _
 have HOW:=Lib.hid (RunW.own_below hown2 hba)
 have hb1a:=hb12.trans (hba.mono hb12.size)
 have hbs:=hb1a.size
 clear hown2 hI1
 go_upto_region 6 with (at_builtin;refine wpList_append_lies _ (by rfl) _ _ _ (by rfl) w1.heap.size 3 j0 _ 1 8 Tryz.underlying25 hj0 hjz0 hjz1 hjz2 rfl (by omega) _ picks.length _ (by rfl) HOW.out ⟨wc.heap.size,0,none⟩ 1 1 [Value.int .i64 201] (by rfl) rfl (RunW.news_one hNa) (RunW.one_one rfl) (by omega) (by omega) (by omega) hbs _ rfl ?_;intro gi ci w3 hown3 hgrow3 hat3 hlt3)
 have hb13:=hb1a.grown hgrow3 hbs (fun k hk=>OwnR.own_base HOW.out hk)
 clear hgrow3 hat3 hlt3 HOW hNa hba hb1a hbs hb12
 obtain⟨n,hn⟩:∃n,n=picks.length:=⟨_,rfl⟩
 have HNN:=Lib.hid hn
 have hP3:=hP1.below' hb13
 have hbw3:=hbw1.trans (hb13.mono hbw1.size)
 clear hP1
 have hnc:n+1≤ci:=by
  obtain⟨A',c',h1,h2⟩:=OwnR.own_slice hown3
  injection h1 with _ _ h1
  omega
 clear hn
 have c0:w3.cell? ⟨w.heap.size,0,none⟩=some (.int .i64 p.cells):=hP3.cell 0
 have c1:w3.cell? ⟨w.heap.size,1,none⟩=some (.slice B p.threads.length cB):=hP3.cell 1
 have HR3:=Lib.hid (Source_err p hv _ hlen 1000 (by omega) (by omega) picks A cA (by omega) w3 (HT.out.below hbw3) (LawW.ints_below HI.out HA.out hbw3) (fun ad h=>Nat.lt_of_lt_of_le (HA.out ad h) hbw3.size) hRS)
 have HSS:=Lib.hid hS
 clear hS hRS
 go_upto_region 7 with (go_at_call 11;refine HR3.out.mono ?_;rintro e w4 ⟨c,u,s1,s2,s3,s4,s5,s6,s7,rfl,hb34⟩)
 clear c0 c1 HR3
 obtain⟨w5,hw5⟩:∃yy:World,yy=w4.alloc (.cells #[.bool false,.int .i64 c,.slice s1.1 s1.2.1 s1.2.2,.slice s2.1 s2.2.1 s2.2.2,.slice s3.1 s3.2.1 s3.2.2,.slice s4.1 s4.2.1 s4.2.2,.slice s5.1 s5.2.1 s5.2.2,.slice s6.1 s6.2.1 s6.2.2,.slice s7.1 s7.2.1 s7.2.2,.int .i64 u] 47):=⟨_,rfl⟩
 have hb45:Below w4.heap.size w4 w5:=by rw[hw5];exact Kit.bl1
 have hb35:=hb34.trans (hb45.mono hb34.size)
 rw[←hw5]
 clear hw5
 have hPW:=hP3.below' hb35
 have hbw5:=hbw3.trans (hb35.mono hbw3.size)
 have hownW:=RunW.own_below hown3 hb35
 clear hP3 hown3 hb34 hb45 hb35
 have HSy:∀w2,Below w5.heap.size w5 w2→Hid (Calls Tryz.prog 9 #[.agg #[.int .i64 p.cells,.slice B p.threads.length cB],.slice (some ⟨gi,0,none⟩) picks.length ci,.int .i64 1000] w2 fun e w'=>Below w2.heap.size w2 w'∧e=.returned (.tuple #[.agg #[.int .i64 0,.slice none 0 0,.slice none 0 0,.slice none 0 0,.slice none 0 0,.slice none 0 0,.slice none 0 0,.slice none 0 0,.slice none 0 0,.slice none 0 0,.slice none 0 0,.int .i64 0],.int .i64 (en:Int)])):=fun w2 hb2=>Lib.hid (by
  have hbw2:=hbw5.trans (hb2.mono hbw5.size)
  have hrow:w2.ownsRow w1.heap.size 3 1 (.slice (some ⟨gi,0,none⟩) (picks.length+1) ci) (picks.length+1) (picks.map (Value.int .i64)++[Value.int .i64 201]):=RunW.own_below hownW hb2
  have hII:RunW.IntsAt w2 (some ⟨gi,0,none⟩) picks:=fun i q hq=>by
   obtain⟨g',hg',_,_,_,_,hc⟩:=LawW.row_at hrow (Nat.succ_pos _)
   injection hg' with hg'
   injection hg' with hg'
   refine⟨⟨gi,0,none⟩,rfl,?_⟩
   rw[add0_]
   rw[hg']
   exact hc i _ (by rw[List.getElem?_append_left (by rw[List.length_map];exact(List.getElem?_eq_some_iff.1 hq).1),List.getElem?_map,hq];rfl)
  refine(RunW.Source_any p hv _ hlen picks (by omega) 1000 (by omega) w2 (HT.out.below hbw2) (some ⟨gi,0,none⟩) ci hII (fun ad had=>by injection had with had;subst had;exact OwnR.own_lt hrow rfl)).mono fun e w' h=>?_
  exact LawW.source_no HSS.out h)
 go_cut [8,9] (fun s8 s9 wz=>s9=.int .i64 en∧Below w5.heap.size w5 wz)
 case first =>
  have s0:∀p':Cls (Below w5.heap.size w5),p'.w.cell? ⟨w.heap.size,0,none⟩=some (.int .i64 p.cells):=fun p'=>(hPW.below' p'.h).cell 0
  have s1:∀p':Cls (Below w5.heap.size w5),p'.w.cell? ⟨w.heap.size,1,none⟩=some (.slice B p.threads.length cB):=fun p'=>(hPW.below' p'.h).cell 1
  have q0:(0:Int)≤(picks.length:Int):=by omega
  have q1:(picks.length:Int)≤(ci:Int):=by have:=HNN.out;omega
  have q2:picks.length≤ci:=by have:=HNN.out;omega
  have hne:Nonempty (Cls (Below w5.heap.size w5)):=⟨⟨w5,Below.refl _ _⟩⟩
  have hbd:Below w5.heap.size w5 (w5.drewN 1):=Below_drewN _ 1
  refine wp_region_float_go (fun w'=>∃p':Cls (Below w5.heap.size w5),w'=p'.w) 12 (by kernel_rfl) rfl ?_
  refine floatG_reads3 7 [0,1,2,3,4] ⟨⟨_,hbd⟩,rfl⟩ rfl (by kernel_rfl) ?_
  simp only[pickL,List.map_cons,List.map_nil,List.getElem?_cons_succ,List.getElem?_cons_zero,Option.getD_some]
  repeat (go_big_quiet_step (fail))
  refine wpQuiet_nil ?_
  generalize w5.drewN 1=wd at *
  refine floatG_two (i:=5) (i':=9) (by kernel_rfl) (by decide) (by decide) rfl rfl ?_ ?_
  ·have HS0:=HSy wd hbd
   go_wp2_with (go_at_call 9;refine HS0.out.mono ?_;rintro e wx ⟨hb2,rfl⟩)
   have hbx:Below w5.heap.size w5 wx:=hbd.trans (hb2.mono hbd.size)
   refine Kit.oG hbx ?_
   refine floatG_reads3 3 [6,7,8] ⟨⟨_,hbx⟩,rfl⟩ rfl (by kernel_rfl) ?_
   simp only[pickL,List.map_cons,List.map_nil,List.getElem?_cons_succ,List.getElem?_cons_zero,Option.getD_some]
   repeat (go_big_quiet_step (fail))
   refine wpQuiet_nil ?_
   clear s0 s1 q0 q1 q2 hne HS0
   refine fG (i:=9) rfl ?_
   go_wp2_with fail
   obtain⟨wz,hwz⟩:∃yy:World,yy=wx.alloc (.cells #[.int .i64 0,.slice none 0 0,.slice none 0 0,.slice none 0 0,.slice none 0 0,.slice none 0 0,.slice none 0 0,.slice none 0 0,.slice none 0 0,.slice none 0 0,.slice none 0 0,.int .i64 0] 36):=⟨_,rfl⟩
   have hxz:Below wx.heap.size wx wz:=by rw[hwz];exact Kit.bl1
   have hZ:Blk wz wx.heap.size 36 #[.int .i64 0,.slice none 0 0,.slice none 0 0,.slice none 0 0,.slice none 0 0,.slice none 0 0,.slice none 0 0,.slice none 0 0,.slice none 0 0,.slice none 0 0,.slice none 0 0,.int .i64 0]:=by rw[hwz];exact Blk.new _ _ _
   rw[←hwz]
   clear hwz
   have hbz:=hbx.trans (hxz.mono hbx.size)
   have hgx:w5.heap.size≤wx.heap.size:=hbx.size
   generalize wx.heap.size=gx at *
   refine Kit.oG hbz ?_
   obtain⟨y0,y1,y2,y3,y4,y5,y6,y7,y8,y9,y10,y11⟩:=Kit.cells12 hZ
   have zf:=fun i=>Blk.frozen hZ i
   refine fG (i:=10) rfl ?_
   go_wp2_with fail
   clear zf y0 y1 y2 y3 y4 y5 y6 y7 y8 y9 y10 y11
   refine(show onG _ _ _ _ _ (RunW.putL wz gx 0 [.int .i64 0,.slice none 0 0,.slice none 0 0,.slice none 0 0,.slice none 0 0,.slice none 0 0,.slice none 0 0,.slice none 0 0,.slice none 0 0,.slice none 0 0,.slice none 0 0,.int .i64 0])from RunW.putL_go hZ rfl fun wy hY hky=>?_)
   have hby:Below w5.heap.size w5 wy:=NewW.kept_below hbz hky (fun j hj=>by rw[hj];exact hgx)
   clear hZ hky hbz
   refine Kit.oG hby ?_
   refine fG (i:=11) rfl ?_
   go_wp2_with fail
   refine Kit.oG hby ?_
   refine(show tailG _ _ _ _ _ _ _ from⟨by kernel_rfl,?_⟩)
   simp only[List.drop_succ_cons,List.drop_nil]
   go_wp2_with fail
   go_meet
   exact⟨rfl,hby⟩
  ·go_wp2_with fail
   obtain⟨wa,hwa⟩:∃yy:World,yy=wd.alloc (.cells #[.int .i64 0,.slice none 0 0,.slice none 0 0,.slice none 0 0,.slice none 0 0,.slice none 0 0,.slice none 0 0,.slice none 0 0,.slice none 0 0,.slice none 0 0,.slice none 0 0,.int .i64 0] 36):=⟨_,rfl⟩
   have hda:Below wd.heap.size wd wa:=by rw[hwa];exact Kit.bl1
   have hZa:Blk wa wd.heap.size 36 #[.int .i64 0,.slice none 0 0,.slice none 0 0,.slice none 0 0,.slice none 0 0,.slice none 0 0,.slice none 0 0,.slice none 0 0,.slice none 0 0,.slice none 0 0,.slice none 0 0,.int .i64 0]:=by rw[hwa];exact Blk.new _ _ _
   rw[←hwa]
   clear hwa
   have hbA:=hbd.trans (hda.mono hbd.size)
   have hgx:w5.heap.size≤wd.heap.size:=hbd.size
   refine Kit.oG hbA ?_
   refine fG (i:=5) rfl ?_
   have HS0:=HSy wa hbA
   go_wp2_with (go_at_call 9;refine HS0.out.mono ?_;rintro e wz ⟨hb2,rfl⟩)
   have hbz:Below w5.heap.size w5 wz:=hbA.trans (hb2.mono hbA.size)
   refine Kit.oG hbz ?_
   refine floatG_reads3 2 [6,7,8] ⟨⟨_,hbz⟩,rfl⟩ rfl (by kernel_rfl) ?_
   simp only[pickL,List.map_cons,List.map_nil,List.getElem?_cons_succ,List.getElem?_cons_zero,Option.getD_some]
   repeat (go_big_quiet_step (fail))
   refine wpQuiet_nil ?_
   clear s0 s1 q0 q1 q2 hne HS0
   have hZ:=hZa.below' hb2
   generalize wd.heap.size=gx at *
   obtain⟨y0,y1,y2,y3,y4,y5,y6,y7,y8,y9,y10,y11⟩:=Kit.cells12 hZ
   have zf:=fun i=>Blk.frozen hZ i
   refine fG (i:=10) rfl ?_
   go_wp2_with fail
   clear zf y0 y1 y2 y3 y4 y5 y6 y7 y8 y9 y10 y11
   refine(show onG _ _ _ _ _ (RunW.putL wz gx 0 [.int .i64 0,.slice none 0 0,.slice none 0 0,.slice none 0 0,.slice none 0 0,.slice none 0 0,.slice none 0 0,.slice none 0 0,.slice none 0 0,.slice none 0 0,.slice none 0 0,.int .i64 0])from RunW.putL_go hZ rfl fun wy hY hky=>?_)
   have hby:Below w5.heap.size w5 wy:=NewW.kept_below hbz hky (fun j hj=>by rw[hj];exact hgx)
   clear hZ hky hbz
   refine Kit.oG hby ?_
   refine fG (i:=11) rfl ?_
   go_wp2_with fail
   refine Kit.oG hby ?_
   refine(show tailG _ _ _ _ _ _ _ from⟨by kernel_rfl,?_⟩)
   simp only[List.drop_succ_cons,List.drop_nil]
   go_wp2_with fail
   go_meet
   exact⟨rfl,hby⟩
 obtain⟨rfl,hb5c⟩:=hcut
 obtain⟨w6,hw6⟩:∃yy:World,yy=wc:=⟨_,rfl⟩
 rw[←hw6]at hb5c ⊢
 clear hw6
 have hPW:=hPW.below' hb5c
 have hbw6:=hbw5.trans (hb5c.mono hbw5.size)
 have hownW:=RunW.own_below hownW hb5c
 clear HSy hb5c
 have HSy:∀w2,Below w6.heap.size w6 w2→Hid (Calls Tryz.prog 9 #[.agg #[.int .i64 p.cells,.slice B p.threads.length cB],.slice (some ⟨gi,0,none⟩) picks.length ci,.int .i64 1000] w2 fun e w'=>Below w2.heap.size w2 w'∧e=.returned (.tuple #[.agg #[.int .i64 0,.slice none 0 0,.slice none 0 0,.slice none 0 0,.slice none 0 0,.slice none 0 0,.slice none 0 0,.slice none 0 0,.slice none 0 0,.slice none 0 0,.slice none 0 0,.int .i64 0],.int .i64 (en:Int)])):=fun w2 hb2=>Lib.hid (by
  have hbw2:=hbw6.trans (hb2.mono hbw6.size)
  have hrow:w2.ownsRow w1.heap.size 3 1 (.slice (some ⟨gi,0,none⟩) (picks.length+1) ci) (picks.length+1) (picks.map (Value.int .i64)++[Value.int .i64 201]):=RunW.own_below hownW hb2
  have hII:RunW.IntsAt w2 (some ⟨gi,0,none⟩) picks:=fun i q hq=>by
   obtain⟨g',hg',_,_,_,_,hc⟩:=LawW.row_at hrow (Nat.succ_pos _)
   injection hg' with hg'
   injection hg' with hg'
   refine⟨⟨gi,0,none⟩,rfl,?_⟩
   rw[add0_]
   rw[hg']
   exact hc i _ (by rw[List.getElem?_append_left (by rw[List.length_map];exact(List.getElem?_eq_some_iff.1 hq).1),List.getElem?_map,hq];rfl)
  refine(RunW.Source_any p hv _ hlen picks (by omega) 1000 (by omega) w2 (HT.out.below hbw2) (some ⟨gi,0,none⟩) ci hII (fun ad had=>by injection had with had;subst had;exact OwnR.own_lt hrow rfl)).mono fun e w' h=>?_
  exact LawW.source_no HSS.out h)
 go_upto_region 8 with fail
 go_cut [10,11] (fun s10 s11 wz=>s11=.int .i64 en∧Below w6.heap.size w6 wz)
 case first =>
  have s0:∀p':Cls (Below w6.heap.size w6),p'.w.cell? ⟨w.heap.size,0,none⟩=some (.int .i64 p.cells):=fun p'=>(hPW.below' p'.h).cell 0
  have s1:∀p':Cls (Below w6.heap.size w6),p'.w.cell? ⟨w.heap.size,1,none⟩=some (.slice B p.threads.length cB):=fun p'=>(hPW.below' p'.h).cell 1
  have q0:(0:Int)≤(picks.length:Int):=by omega
  have q1:(picks.length:Int)≤(ci:Int):=by have:=HNN.out;omega
  have q2:picks.length≤ci:=by have:=HNN.out;omega
  have hne:Nonempty (Cls (Below w6.heap.size w6)):=⟨⟨w6,Below.refl _ _⟩⟩
  have hbd:Below w6.heap.size w6 (w6.drewN 1):=Below_drewN _ 1
  refine wp_region_float_go (fun w'=>∃p':Cls (Below w6.heap.size w6),w'=p'.w) 12 (by kernel_rfl) rfl ?_
  refine floatG_reads3 7 [0,1,2,3,4] ⟨⟨_,hbd⟩,rfl⟩ rfl (by kernel_rfl) ?_
  simp only[pickL,List.map_cons,List.map_nil,List.getElem?_cons_succ,List.getElem?_cons_zero,Option.getD_some]
  repeat (go_big_quiet_step (fail))
  refine wpQuiet_nil ?_
  generalize w6.drewN 1=wd at *
  refine floatG_two (i:=5) (i':=9) (by kernel_rfl) (by decide) (by decide) rfl rfl ?_ ?_
  ·have HS0:=HSy wd hbd
   go_wp2_with (go_at_call 9;refine HS0.out.mono ?_;rintro e wx ⟨hb2,rfl⟩)
   have hbx:Below w6.heap.size w6 wx:=hbd.trans (hb2.mono hbd.size)
   refine Kit.oG hbx ?_
   refine floatG_reads3 3 [6,7,8] ⟨⟨_,hbx⟩,rfl⟩ rfl (by kernel_rfl) ?_
   simp only[pickL,List.map_cons,List.map_nil,List.getElem?_cons_succ,List.getElem?_cons_zero,Option.getD_some]
   repeat (go_big_quiet_step (fail))
   refine wpQuiet_nil ?_
   clear s0 s1 q0 q1 q2 hne HS0
   refine fG (i:=9) rfl ?_
   go_wp2_with fail
   obtain⟨wz,hwz⟩:∃yy:World,yy=wx.alloc (.cells #[.int .i64 0,.slice none 0 0,.slice none 0 0,.slice none 0 0,.slice none 0 0,.slice none 0 0,.slice none 0 0,.slice none 0 0,.slice none 0 0,.slice none 0 0,.slice none 0 0,.int .i64 0] 36):=⟨_,rfl⟩
   have hxz:Below wx.heap.size wx wz:=by rw[hwz];exact Kit.bl1
   have hZ:Blk wz wx.heap.size 36 #[.int .i64 0,.slice none 0 0,.slice none 0 0,.slice none 0 0,.slice none 0 0,.slice none 0 0,.slice none 0 0,.slice none 0 0,.slice none 0 0,.slice none 0 0,.slice none 0 0,.int .i64 0]:=by rw[hwz];exact Blk.new _ _ _
   rw[←hwz]
   clear hwz
   have hbz:=hbx.trans (hxz.mono hbx.size)
   have hgx:w6.heap.size≤wx.heap.size:=hbx.size
   generalize wx.heap.size=gx at *
   refine Kit.oG hbz ?_
   obtain⟨y0,y1,y2,y3,y4,y5,y6,y7,y8,y9,y10,y11⟩:=Kit.cells12 hZ
   have zf:=fun i=>Blk.frozen hZ i
   refine fG (i:=10) rfl ?_
   go_wp2_with fail
   clear zf y0 y1 y2 y3 y4 y5 y6 y7 y8 y9 y10 y11
   refine(show onG _ _ _ _ _ (RunW.putL wz gx 0 [.int .i64 0,.slice none 0 0,.slice none 0 0,.slice none 0 0,.slice none 0 0,.slice none 0 0,.slice none 0 0,.slice none 0 0,.slice none 0 0,.slice none 0 0,.slice none 0 0,.int .i64 0])from RunW.putL_go hZ rfl fun wy hY hky=>?_)
   have hby:Below w6.heap.size w6 wy:=NewW.kept_below hbz hky (fun j hj=>by rw[hj];exact hgx)
   clear hZ hky hbz
   refine Kit.oG hby ?_
   refine fG (i:=11) rfl ?_
   go_wp2_with fail
   refine Kit.oG hby ?_
   refine(show tailG _ _ _ _ _ _ _ from⟨by kernel_rfl,?_⟩)
   simp only[List.drop_succ_cons,List.drop_nil]
   go_wp2_with fail
   go_meet
   exact⟨rfl,hby⟩
  ·go_wp2_with fail
   obtain⟨wa,hwa⟩:∃yy:World,yy=wd.alloc (.cells #[.int .i64 0,.slice none 0 0,.slice none 0 0,.slice none 0 0,.slice none 0 0,.slice none 0 0,.slice none 0 0,.slice none 0 0,.slice none 0 0,.slice none 0 0,.slice none 0 0,.int .i64 0] 36):=⟨_,rfl⟩
   have hda:Below wd.heap.size wd wa:=by rw[hwa];exact Kit.bl1
   have hZa:Blk wa wd.heap.size 36 #[.int .i64 0,.slice none 0 0,.slice none 0 0,.slice none 0 0,.slice none 0 0,.slice none 0 0,.slice none 0 0,.slice none 0 0,.slice none 0 0,.slice none 0 0,.slice none 0 0,.int .i64 0]:=by rw[hwa];exact Blk.new _ _ _
   rw[←hwa]
   clear hwa
   have hbA:=hbd.trans (hda.mono hbd.size)
   have hgx:w6.heap.size≤wd.heap.size:=hbd.size
   refine Kit.oG hbA ?_
   refine fG (i:=5) rfl ?_
   have HS0:=HSy wa hbA
   go_wp2_with (go_at_call 9;refine HS0.out.mono ?_;rintro e wz ⟨hb2,rfl⟩)
   have hbz:Below w6.heap.size w6 wz:=hbA.trans (hb2.mono hbA.size)
   refine Kit.oG hbz ?_
   refine floatG_reads3 2 [6,7,8] ⟨⟨_,hbz⟩,rfl⟩ rfl (by kernel_rfl) ?_
   simp only[pickL,List.map_cons,List.map_nil,List.getElem?_cons_succ,List.getElem?_cons_zero,Option.getD_some]
   repeat (go_big_quiet_step (fail))
   refine wpQuiet_nil ?_
   clear s0 s1 q0 q1 q2 hne HS0
   have hZ:=hZa.below' hb2
   generalize wd.heap.size=gx at *
   obtain⟨y0,y1,y2,y3,y4,y5,y6,y7,y8,y9,y10,y11⟩:=Kit.cells12 hZ
   have zf:=fun i=>Blk.frozen hZ i
   refine fG (i:=10) rfl ?_
   go_wp2_with fail
   clear zf y0 y1 y2 y3 y4 y5 y6 y7 y8 y9 y10 y11
   refine(show onG _ _ _ _ _ (RunW.putL wz gx 0 [.int .i64 0,.slice none 0 0,.slice none 0 0,.slice none 0 0,.slice none 0 0,.slice none 0 0,.slice none 0 0,.slice none 0 0,.slice none 0 0,.slice none 0 0,.slice none 0 0,.int .i64 0])from RunW.putL_go hZ rfl fun wy hY hky=>?_)
   have hby:Below w6.heap.size w6 wy:=NewW.kept_below hbz hky (fun j hj=>by rw[hj];exact hgx)
   clear hZ hky hbz
   refine Kit.oG hby ?_
   refine fG (i:=11) rfl ?_
   go_wp2_with fail
   refine Kit.oG hby ?_
   refine(show tailG _ _ _ _ _ _ _ from⟨by kernel_rfl,?_⟩)
   simp only[List.drop_succ_cons,List.drop_nil]
   go_wp2_with fail
   go_meet
   exact⟨rfl,hby⟩
 obtain⟨rfl,hb6c⟩:=hcut
 obtain⟨w7,hw7⟩:∃yy:World,yy=wc:=⟨_,rfl⟩
 rw[←hw7]at hb6c ⊢
 clear hw7
 have hbC:=hbw6.trans (hb6c.mono hbw6.size)
 have hownC:=RunW.own_below hownW hb6c
 clear HSy hb6c hownW hPW
 obtain⟨gi',hgi',_,_,_,_,hci⟩:=LawW.row_at hownC (Nat.succ_pos _)
 injection hgi' with hgi'
 injection hgi' with hgi'
 subst hgi'
 have k201:w7.cell? ⟨gi,picks.length,none⟩=some (.int .i64 201):=hci picks.length _ (by rw[List.getElem?_append_right (by rw[List.length_map];exact Nat.le_refl _),List.length_map,Nat.sub_self];rfl)
 have i1:(picks.length:Int)<(picks.length:Int)+1:=by omega
 have i2:(picks.length:Int)<((picks.length+1:Nat):Int):=by omega
 have i0:(0:Int)≤(picks.length:Int):=by omega
 have HCI:=Lib.hid hci
 clear hci
 go_upto_region 12 with fail
 clear k201 i1 i2 i0
 go_loopg [12] picks.length (fun mm s12 wr=>GrRelE picks.length w7 mm s12 wr)
 case atStart=>exact⟨0,0,rfl,Nat.zero_le _,rfl,(World.drewN_zero _).symm⟩
 case round =>
  obtain⟨i,q,rfl,hi,hmm,rfl⟩:=hrel
  have HM:=Lib.hid hmm
  clear hmm
  by_cases hke:i<picks.length
  ·have q1:(i:Int)<(picks.length:Int):=by omega
   have q2:(0:Int)≤(i:Int):=by omega
   have q3:(i:Int)<(picks.length:Int)+1:=by omega
   have q4:(i:Int)<((picks.length+1:Nat):Int):=by omega
   obtain⟨x0,hx0⟩:∃x,picks[i]?=some x:=⟨_,Kit.eG hke⟩
   obtain⟨ad,hA1,hca⟩:=LawW.ints_below HI.out HA.out hbC i x0 hx0
   have kin:=HCI.out i (.int .i64 x0) (by rw[List.getElem?_append_left (by rw[List.length_map];exact hke),List.getElem?_map,hx0];rfl)
   have HA1:=Lib.hid hA1
   rw[hA1]
   have e1:(x0 == x0)=true:=by simp
   clear hx0 hA1
   go_upto_region 14 with fail
   go_quiet (fail)
   go_wp2_with fail
   rw[←HA1.out]
   go_roundg (picks.length-(i+1))
   case measure=>have:=HM.out;omega
   case rel=>exact⟨i+1,_,by push_cast;rfl,hke,rfl,rfl⟩
  ·obtain rfl:i=picks.length:=by omega
   have q1:¬((picks.length:Int)<(picks.length:Int)):=by omega
   rcases hen with rfl | rfl
   all_goals
    go_wp2_with fail
    go_ret
    exact⟨rfl,Kit.Below.dn hbC⟩
theorem keep_row {w w':World} {b e s n:Nat} {v v0:Value} {xs:List Value} (h:w.ownsRow b e s v n xs) (hk:KeptS (fun k=>v0.ownBlock=some k) w w') (ha:∀k,v0.ownBlock=some k→v.ownBlock≠some k):w'.ownsRow b e s v n xs :=
 OwnR.own_stays h fun k hk2=>hk.2.2.2.2 k (OwnR.own_lt h hk2) (fun e=>ha k e hk2)
theorem own_blk {w:World} {b e s n k:Nat} {v:Value} {xs:List Value} (h:w.ownsRow b e s v n xs) (hk:v.ownBlock=some k):∃cs,Blk w k e cs:=by
 rcases h.2 with⟨h1,_⟩ | ⟨g,cap,cur,h1,_,h2,_⟩
 ·rw[h1]at hk;cases hk
 ·rw[h1]at hk
  obtain rfl:g=k:=by simpa [Value.ownBlock]using hk
  exact⟨cur,h2⟩
theorem apart_type {w:World} {b b0 e e0 s s0 n n0:Nat} {v v0:Value} {xs xs0:List Value} (h0:w.ownsRow b0 e0 s0 v0 n0 xs0) (h:w.ownsRow b e s v n xs) (hne:e≠e0):∀k,v0.ownBlock=some k→v.ownBlock≠some k:=fun k h1=>by
 obtain⟨cs,hc⟩:=own_blk h0 h1
 exact OwnR.own_type h hc hne
theorem blk_apart {w:World} {b0 e0 s0 n0 g:Nat} {v0:Value} {xs0:List Value} {t:TypeId} {cs:Array Value} (h0:w.ownsRow b0 e0 s0 v0 n0 xs0) (hg:Blk w g t cs) (hne:e0≠t):¬v0.ownBlock=some g:=OwnR.own_type h0 hg hne
structure XS (lx:Nat) (w:World) (Q:LawW.SL) (x:Rn Mch) (c0 t0:Nat):Prop where
 ev:∃L:List Ev,L.length=x.events.length∧w.ownsRow lx 42 5 (.slice Q.ae x.events.length Q.ce) x.events.length (L.flatMap RunW.evC)
 rf:∃L:List (Nat × Nat),L.length=x.rf.length∧w.ownsRow lx 51 2 (.slice Q.af x.rf.length Q.cf) x.rf.length (L.flatMap RunW.pairC)
 co:w.ownsRow lx 25 1 (.slice Q.ao Q.no Q.co) Q.coi.length Q.coi
 coi:∀c,c0≤c→w.ownsRow lx 3 1 (Q.coi.getD c RunW.nilV) (x.co.getD c []).length ((x.co.getD c []).map RunW.i64V)
 cells:∃xs:List Value,w.ownsRow lx 40 1 (.slice Q.ac x.cells.length Q.cc) x.cells.length xs
 outs:w.ownsRow lx 32 1 (.slice Q.au Q.nu Q.cu) Q.nu Q.outi
 outi:∀t,t0≤t→w.ownsRow lx 40 1 (Q.outi.getD t RunW.nilV) (x.outs.getD t []).length ((x.outs.getD t []).map u64V)
theorem XS.of {lx:Nat} {w:World} {Q:LawW.SL} {x:Rn Mch} (h:LawW.PlayQ lx w Q x):XS lx w Q x 0 0 :=
 ⟨⟨_,rfl,h.ev⟩,⟨_,rfl,h.rf⟩,h.co,fun c _=>h.coi c,⟨_,h.cells⟩,h.outsR,fun t _=>h.outi t⟩
structure XF (lx g5 g6 gx:Nat) (w8 w:World) (C:Array Value) (Q:LawW.SL) (x:Rn Mch) (c0 t0:Nat):Prop where
 xs:XS lx w Q x c0 t0
 blk:Blk w gx 36 C
 fr:KeptS (fun k=>g5≤k∧k<g6) w8 w
structure KCut (nc:Nat) (W:World) (x:Rn Mch) (s8 s9:Value) (wz:World) (gx:Nat) (Q:LawW.SL) (lx:Nat):Prop where
 p:s8=.pointer (some ⟨gx,0,none⟩)
 e:s9=.int .i64 0
 blk:Blk wz gx 36 #[.int .i64 (nc:Int),.slice Q.ae x.events.length Q.ce,.slice Q.af x.rf.length Q.cf,.slice Q.ao Q.no Q.co,.slice Q.am x.rmw.length Q.cm,.slice none 0 0,.slice none 0 0,.slice none 0 0,.slice Q.ac x.cells.length Q.cc,.slice Q.au Q.nu Q.cu,.slice Q.ah x.ths.length Q.ch,.int .i64 (x.used:Int)]
 q:LawW.PlayQD lx wz Q x
 lo:W.heap.size≤lx
 hi:lx≤wz.heap.size
 gl:W.heap.size≤gx
 b:Below W.heap.size W wz
def EvR (lx g5 g6 gx:Nat) (w8:World) (C:Array Value) (Q:LawW.SL) (x:Rn Mch) (mm:Nat) (s13:Value) (wr:World):Prop:=∃i:Nat,s13=.int .i64 i∧i≤x.events.length∧mm=x.events.length-i∧XF lx g5 g6 gx w8 wr C Q x 0 0
def CoR (lx g5 g6 gx nc:Nat) (w8:World) (C:Array Value) (Q:LawW.SL) (x:Rn Mch) (mm:Nat) (s14:Value) (wr:World):Prop:=∃c:Nat,s14=.int .i64 c∧c≤nc∧mm=nc-c∧XF lx g5 g6 gx w8 wr C Q x c 0
def RfR (lx g5 g6 gx nc:Nat) (w8:World) (C:Array Value) (Q:LawW.SL) (x:Rn Mch) (mm:Nat) (s18:Value) (wr:World):Prop:=∃i:Nat,s18=.int .i64 i∧i≤x.rf.length∧mm=x.rf.length-i∧XF lx g5 g6 gx w8 wr C Q x nc 0
def FiR (lx g5 g6 gx nc:Nat) (w8:World) (C:Array Value) (Q:LawW.SL) (x:Rn Mch) (mm:Nat) (s19:Value) (wr:World):Prop:=∃i:Nat,s19=.int .i64 i∧i≤x.cells.length∧mm=x.cells.length-i∧XF lx g5 g6 gx w8 wr C Q x nc 0
def OuR (lx g5 g6 gx nc:Nat) (w8:World) (C:Array Value) (Q:LawW.SL) (x:Rn Mch) (mm:Nat) (s20:Value) (wr:World):Prop:=∃t:Nat,s20=.int .i64 t∧t≤x.outs.length∧mm=x.outs.length-t∧XF lx g5 g6 gx w8 wr C Q x nc t
def RowI (lx:Nat) (T:TypeId) (v:Value) (n:Nat) (w1:World) (mm:Nat) (s:Value) (wr:World):Prop:=∃(i:Nat) (xs:List Value),s=.int .i64 i∧i≤n∧mm=n-i∧wr.ownsRow lx T 1 v n xs∧KeptS (fun k=>v.ownBlock=some k) w1 wr
def RowK (lx:Nat) (T:TypeId) (v:Value) (n:Nat) (w1:World) (mm:Nat) (sl s:Value) (wr:World):Prop:=∃(i:Nat) (A:Option Addr) (c:Nat) (xs:List Value),sl=.slice A (n+i) c∧s=.int .i64 i∧i≤4∧mm=4-i∧wr.ownsRow lx T 1 (.slice A (n+i) c) (n+i) xs∧(∀k,(Value.slice A (n+i) c).ownBlock=some k→v.ownBlock=some k∨w1.heap.size≤k)∧KeptS (fun k=>v.ownBlock=some k) w1 wr
theorem XF.step {lx g5 gx:Nat} {w6 w8 w w':World} {C:Array Value} {Q:LawW.SL} {x:Rn Mch} {c0 t0 c1 t1:Nat} {e:TypeId} {s n n':Nat} {v:Value} {xs xs':List Value} (hF:XF lx g5 w6.heap.size gx w8 w C Q x c0 t0) (h6:w6.ownsRow lx e s v n xs) (hlx:g5≤lx) (hc:w.ownsRow lx e s v n' xs') (hne:e≠36) (hk:KeptS (fun k=>v.ownBlock=some k) w w') (hx:XS lx w' Q x c1 t1):XF lx g5 w6.heap.size gx w8 w' C Q x c1 t1 :=
 ⟨hx,hk.blk hF.blk (blk_apart hc hF.blk hne),hF.fr.trans (hk.mono fun _ h=>⟨Nat.le_trans hlx (OwnR.own_base h6 h),OwnR.own_lt h6 h⟩)⟩
section
variable {lx:Nat} {w w':World} {Q:LawW.SL} {x:Rn Mch} {c0 t0:Nat}
theorem XS.ev' (h:XS lx w Q x c0 t0) {L:List Ev} (hL:L.length=x.events.length) (ho:w'.ownsRow lx 42 5 (.slice Q.ae x.events.length Q.ce) x.events.length (L.flatMap RunW.evC)) (hk:KeptS (fun k=>(Value.slice Q.ae x.events.length Q.ce).ownBlock=some k) w w'):XS lx w' Q x c0 t0:=by
 obtain⟨L0,_,h0⟩:=h.ev
 obtain⟨L1,hL1,h1⟩:=h.rf
 obtain⟨xs,h2⟩:=h.cells
 exact⟨⟨L,hL,ho⟩,⟨L1,hL1,keep_row h1 hk (apart_type h0 h1 (by decide))⟩,keep_row h.co hk (apart_type h0 h.co (by decide)),fun c hc=>keep_row (h.coi c hc) hk (apart_type h0 (h.coi c hc) (by decide)),⟨xs,keep_row h2 hk (apart_type h0 h2 (by decide))⟩,keep_row h.outs hk (apart_type h0 h.outs (by decide)),fun t ht=>keep_row (h.outi t ht) hk (apart_type h0 (h.outi t ht) (by decide))⟩
theorem XS.rf' (h:XS lx w Q x c0 t0) {L:List (Nat × Nat)} (hL:L.length=x.rf.length) (ho:w'.ownsRow lx 51 2 (.slice Q.af x.rf.length Q.cf) x.rf.length (L.flatMap RunW.pairC)) (hk:KeptS (fun k=>(Value.slice Q.af x.rf.length Q.cf).ownBlock=some k) w w'):XS lx w' Q x c0 t0:=by
 obtain⟨L0,hL0,h1⟩:=h.ev
 obtain⟨L1,_,h0⟩:=h.rf
 obtain⟨xs,h2⟩:=h.cells
 exact⟨⟨L0,hL0,keep_row h1 hk (apart_type h0 h1 (by decide))⟩,⟨L,hL,ho⟩,keep_row h.co hk (apart_type h0 h.co (by decide)),fun c hc=>keep_row (h.coi c hc) hk (apart_type h0 (h.coi c hc) (by decide)),⟨xs,keep_row h2 hk (apart_type h0 h2 (by decide))⟩,keep_row h.outs hk (apart_type h0 h.outs (by decide)),fun t ht=>keep_row (h.outi t ht) hk (apart_type h0 (h.outi t ht) (by decide))⟩
theorem XS.co' (h:XS lx w Q x c0 t0) {w6:World} (hd:LawW.PlayQD lx w6 Q x) (hk:KeptS (fun k=>(Q.coi.getD c0 RunW.nilV).ownBlock=some k) w w'):XS lx w' Q x (c0+1) t0:=by
 obtain⟨L0,hL0,h3⟩:=h.ev
 obtain⟨L1,hL1,h1⟩:=h.rf
 obtain⟨xs,h2⟩:=h.cells
 have h0:=h.coi c0 (Nat.le_refl _)
 exact⟨⟨L0,hL0,keep_row h3 hk (apart_type h0 h3 (by decide))⟩,⟨L1,hL1,keep_row h1 hk (apart_type h0 h1 (by decide))⟩,keep_row h.co hk (apart_type h0 h.co (by decide)),fun c hc=>keep_row (h.coi c (by omega)) hk (fun k h1 h2=>hd.dc c0 c k (by omega) h1 h2),⟨xs,keep_row h2 hk (apart_type h0 h2 (by decide))⟩,keep_row h.outs hk (apart_type h0 h.outs (by decide)),fun t ht=>keep_row (h.outi t ht) hk (apart_type h0 (h.outi t ht) (by decide))⟩
theorem XS.cells' (h:XS lx w Q x c0 t0) {w6:World} (hd:LawW.PlayQD lx w6 Q x) {xs:List Value} (ho:w'.ownsRow lx 40 1 (.slice Q.ac x.cells.length Q.cc) x.cells.length xs) (hk:KeptS (fun k=>(Value.slice Q.ac x.cells.length Q.cc).ownBlock=some k) w w'):XS lx w' Q x c0 t0:=by
 obtain⟨L0,hL0,h3⟩:=h.ev
 obtain⟨L1,hL1,h1⟩:=h.rf
 obtain⟨_,h0⟩:=h.cells
 exact⟨⟨L0,hL0,keep_row h3 hk (apart_type h0 h3 (by decide))⟩,⟨L1,hL1,keep_row h1 hk (apart_type h0 h1 (by decide))⟩,keep_row h.co hk (apart_type h0 h.co (by decide)),fun c hc=>keep_row (h.coi c hc) hk (apart_type h0 (h.coi c hc) (by decide)),⟨xs,ho⟩,keep_row h.outs hk (apart_type h0 h.outs (by decide)),fun t ht=>keep_row (h.outi t ht) hk (fun k h1 h2=>hd.dx t k h1 h2)⟩
theorem XS.outs' (h:XS lx w Q x c0 t0) {w6:World} (hd:LawW.PlayQD lx w6 Q x) (hk:KeptS (fun k=>(Q.outi.getD t0 RunW.nilV).ownBlock=some k) w w'):XS lx w' Q x c0 (t0+1):=by
 obtain⟨L0,hL0,h3⟩:=h.ev
 obtain⟨L1,hL1,h1⟩:=h.rf
 obtain⟨xs,h2⟩:=h.cells
 have h0:=h.outi t0 (Nat.le_refl _)
 exact⟨⟨L0,hL0,keep_row h3 hk (apart_type h0 h3 (by decide))⟩,⟨L1,hL1,keep_row h1 hk (apart_type h0 h1 (by decide))⟩,keep_row h.co hk (apart_type h0 h.co (by decide)),fun c hc=>keep_row (h.coi c hc) hk (apart_type h0 (h.coi c hc) (by decide)),⟨xs,keep_row h2 hk (fun k h1 h2=>hd.dx t0 k h2 h1)⟩,keep_row h.outs hk (apart_type h0 h.outs (by decide)),fun t ht=>keep_row (h.outi t (by omega)) hk (fun k h1 h2=>hd.du t0 t k (by omega) h1 h2)⟩
end
theorem pick_used (K:Kd Mch) (r:Rn Mch) (t:Int):(r.pick K t).used≤r.used+1:=by
 unfold Rn.pick
 by_cases h1:t<0∨(r.ths.length:Int)≤t
 ·rw[if_pos h1];omega
 ·rw[if_neg h1]
  dsimp only
  split
  ·have hu:=doo_used (K:=K) (r:=(r.ask K t.toNat).did t.toNat) t.toNat ((r.ask K t.toNat).wants K t.toNat)
   have h2:((r.ask K t.toNat).did t.toNat).used=r.used+1:=rfl
   omega
  ·exact Nat.le_succ _
theorem play_used (K:Kd Mch) (fuel:Int):∀(l:List Int) (r:Rn Mch),(r.used:Int)≤fuel→((K.play fuel l r).1.used:Int)≤fuel
 | [],_,h=>h
 | t :: l,r,h=>by
  unfold Kd.play
  split
  ·exact h
  ·split
   ·exact h
   ·have:=pick_used K r t
    exact play_used K fuel l _ (by omega)
theorem source_used {p:SrcP.Prog} {picks:List Int} {x:Rn Mch} (h:sourceS p picks 1000 false=.ok x):x.used≤1000:=by
 unfold sourceS at h
 split at h
 ·cases h
 ·unfold Kd.run at h
  have h0:(((srcK false).start p.cells.toNat (p.threads.map newM)).used:Int)≤1000:=by
   rw[Kd.start_eq]
   show((0:Nat):Int)≤1000
   omega
  have h1:=play_used (srcK false) 1000 picks _ h0
  cases hp:(srcK false).play 1000 picks ((srcK false).start p.cells.toNat (p.threads.map newM))with
  | mk y b =>
   rw[hp]at h h1
   cases b with
   | true=>cases h
   | false =>
    obtain rfl:y=x:=by simpa using h
    have h2:(y.used:Int)≤1000:=h1
    omega
end Go.Proofs.YtmjilfamjlnigaaGreat.RefW
