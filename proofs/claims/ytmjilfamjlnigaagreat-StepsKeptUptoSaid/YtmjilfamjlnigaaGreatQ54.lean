/- WALKS: the law StepsKept, where the run comes to its end. -/
import Derived.Test.YtmjilfamjlnigaaGreatQ53
namespace Go.Proofs.YtmjilfamjlnigaaGreat.RefW
open Go Go.RowKit Kit SrcP SrcW Go.Proofs.YtmjilfamjlnigaaGreat.MchW
set_option maxRecDepth 100000 in
set_option maxHeartbeats 0 in
theorem Kept_ok (p:SrcP.Prog) (hv:RunW.ProgV p) (vt:Value) (hlen:p.threads.length≤1048576) (picks:List Int) (hpl:picks.length≤1048576) (w:World) (hth:ThreadsAt w vt p.threads) (A:Option Addr) (cA:Nat) (hI:RunW.IntsAt w A picks) (hA:∀ad,A=some ad→ad.block<w.heap.size) (x:Rn Mch) (hS:sourceS p picks 1000 false=.ok x) :
  Calls Tryz.prog 4 #[.agg #[.int .i64 p.cells,vt],.slice A picks.length cA] w fun e w'=>e=.returned (.bool true)∧Below w.heap.size w w':=by
 have hRO:∃lg pk,RunW.RefOk p picks 1000 x lg pk:=by have h1:=RunW.refS_of p hv picks 1000;rw[hS]at h1;exact h1
 obtain⟨lg,pk,hRO⟩:=hRO
 have hmw:=RunW.source_rmwOk hS
 have hle:=RunW.source_le hS
 have hths:=(RunW.source_ths hS).1
 have hwh:=RunW.source_whole hS
 have hus:=source_used hS
 obtain⟨nc,hnc⟩:∃nc,nc=p.cells.toNat:=⟨_,rfl⟩
 have hncl:nc≤4096:=by
  simp only[wholeP,Bool.and_eq_true,decide_eq_true_eq]at hwh
  omega
 have HNC:=Lib.hid hnc
 have HRI:Hid (RI nc x):=Lib.hid (by rw[hnc];exact hRO.ri)
 have HRN:Hid (RnOk nc x):=Lib.hid (by rw[hnc];exact hRO.rn)
 have HMW:=Lib.hid hmw
 have HRO:=Lib.hid hRO
 have HTHS:=Lib.hid hths
 clear hnc hwh hRO hmw hths
 have HAW:=fun w=>Lib.hid (LawW.awake_any w)
 have HT:=Lib.hid hth
 obtain⟨B,cB,rfl,_⟩:=hth
 have hml:(16*1048576:Nat)≤maxLen:=by decide
 obtain⟨j0,hj0,hjz0,hjz1,hjz2⟩:=info_parts RunW.info_int
 go_enter Tryz.func4,Tryz.ntmps4
 go_upto_region 3 with (go_at_call 8;refine(HAW _).out.mono ?_;rintro e w1 ⟨rfl,hb1⟩)
 have hP1:Blk w1 w.heap.size 24 #[.int .i64 p.cells,.slice B p.threads.length cB]:=(Blk.new w _ _).below' hb1
 have hbw1:Below w.heap.size w w1:=Kit.Below.then (Kit.bl1) hb1
 clear hb1 HAW
 have hI1:=LawW.ints_below hI hA hbw1
 have HI:=Lib.hid hI
 have HA:=Lib.hid hA
 go_upto_region 4 with fail
 go_cut [5] (fun s5 wz=>∃Ai ci,s5=.slice Ai picks.length ci∧wz.ownsRow w1.heap.size 3 1 (.slice Ai picks.length ci) picks.length (picks.map (Value.int .i64))∧Below w1.heap.size w1 wz)
 case first =>
  by_cases hnn:picks = []
  ·subst hnn
   cases A with
   | none =>
    go_wp2_with fail
    go_meet
    exact⟨none,0,rfl,⟨rfl,.inl ⟨rfl,rfl⟩⟩,Below.refl _ _⟩
   | some ad =>
    go_wp2_with fail
    go_meet
    exact⟨none,0,rfl,⟨rfl,.inl ⟨rfl,rfl⟩⟩,Below.refl _ _⟩
  ·have hpos:0<picks.length:=List.length_pos_iff.2 hnn
   obtain⟨ad,rfl,_⟩:=hI1 0 picks[0] (Kit.eG hpos)
   have hnews:∀(j:Nat) (u:Value),(picks.map (Value.int .i64))[j]?=some u→w1.cell? (ad.add j)=some u:=fun j u hj=>by
    rw[List.getElem?_map]at hj
    cases hx:picks[j]? with
    | none=>rw[hx]at hj;cases hj
    | some x =>
     rw[hx]at hj
     injection hj with hj
     obtain⟨ad',h1,h2⟩:=hI1 j x hx
     injection h1 with h1
     rw[h1,h2,←hj]
   have hone:∀u∈picks.map (Value.int .i64),u.oneCell'=true:=fun u hu=>by
    obtain⟨y,_,rfl⟩:=List.mem_map.1 hu
    rfl
   have HNW:=Lib.hid hnews
   have HO1:=Lib.hid hone
   have HOW:Hid (w1.ownsRow w1.heap.size 3 1 (.slice none 0 0) 0 []):=Lib.hid ⟨rfl,.inl ⟨rfl,rfl⟩⟩
   clear hnews hone hnn hI1
   go_wp2_with (at_builtin;refine wpList_append_lies _ (by rfl) _ _ _ (by rfl) w1.heap.size 3 j0 _ 1 8 Tryz.underlying25 hj0 hjz0 hjz1 hjz2 rfl (by omega) _ 0 _ (by rfl) HOW.out ad picks.length cA (picks.map (Value.int .i64)) (by rfl) (by first | exact(List.length_map _).trans (Nat.mul_one _).symm | exact List.length_map _) HNW.out HO1.out hpos (by omega) (by omega) (Nat.le_refl _) _ rfl ?_;intro g15 cap15 w15 hown15 hgrow15 hat15 hlt15)
   go_meet
   rw[Nat.zero_add,List.nil_append]at hown15
   exact⟨_,_,rfl,hown15,(Below.refl w1.heap.size w1).grown hgrow15 (Nat.le_refl _) (fun k hk=>by simp[Value.ownBlock]at hk)⟩
 obtain⟨Ai0,ci0,rfl,hown2,hb12⟩:=hcut
 have hba:Below wc.heap.size wc (wc.alloc (.cells #[.int .i64 201] 3)):=Kit.bl1
 have hNa:Blk (wc.alloc (.cells #[.int .i64 201] 3)) wc.heap.size 3 (List.toArray [Value.int .i64 201]):=Blk.new _ _ _
 have HOW:=Lib.hid (RunW.own_below hown2 hba)
 have hb1a:=hb12.trans (hba.mono hb12.size)
 have hbs:=hb1a.size
 clear hown2 hI1
 go_upto_region 6 with (at_builtin;refine wpList_append_lies _ (by rfl) _ _ _ (by rfl) w1.heap.size 3 j0 _ 1 8 Tryz.underlying25 hj0 hjz0 hjz1 hjz2 rfl (by omega) _ picks.length _ (by rfl) HOW.out ⟨wc.heap.size,0,none⟩ 1 1 [Value.int .i64 201] (by rfl) rfl (RunW.news_one hNa) (RunW.one_one rfl) (by omega) (by omega) (by omega) hbs _ rfl ?_;intro gi ci w3 hown3 hgrow3 hat3 hlt3)
 have hb13:=hb1a.grown hgrow3 hbs (fun k hk=>OwnR.own_base HOW.out hk)
 clear hgrow3 hat3 hlt3 HOW hNa hba hb1a hbs hb12
 obtain⟨n,hn⟩:∃n,n=picks.length:=⟨_,rfl⟩
 have HNN:=Lib.hid hn
 have hP3:=hP1.below' hb13
 have hbw3:=hbw1.trans (hb13.mono hbw1.size)
 clear hP1
 have hnc:n+1≤ci:=by
  obtain⟨A',c',h1,h2⟩:=OwnR.own_slice hown3
  injection h1 with _ _ h1
  omega
 clear hn
 have c0:w3.cell? ⟨w.heap.size,0,none⟩=some (.int .i64 p.cells):=hP3.cell 0
 have c1:w3.cell? ⟨w.heap.size,1,none⟩=some (.slice B p.threads.length cB):=hP3.cell 1
 obtain⟨i0,hi0,hz0,hz1,hz2⟩:=info_parts info_u64
 have HR3:Hid (Calls Tryz.prog 11 #[.agg #[.int .i64 p.cells,.slice B p.threads.length cB],.slice A picks.length cA,.int .i64 1000] w3 fun e w'=>∃V who,e=.returned (.tuple #[.agg (runD nc V (RR.of x lg pk)),.int .i64 0])∧Below w3.heap.size w3 w'∧RunAt mzL w3 nc w' who V (RR.of x lg pk)):=Lib.hid (by
  rw[HNC.out]
  exact Source_ok p hv _ 1000 (by omega) (by omega) picks A cA (by omega) w3 (HT.out.below hbw3) (LawW.ints_below HI.out HA.out hbw3) (fun ad h=>Nat.lt_of_lt_of_le (HA.out ad h) hbw3.size) HRO.out)
 have HSS:=Lib.hid hS
 clear hS
 obtain⟨r,hr⟩:∃r,r=RR.of x lg pk:=⟨_,rfl⟩
 rw[←hr]at HR3
 have HRR:=Lib.hid hr
 clear hr
 go_upto_region 7 with (go_at_call 11;refine HR3.out.mono ?_;rintro e w4 ⟨V,who,rfl,hb34,hR4⟩;obtain⟨aT,cT,ae,ce,af,cf,am,cm,ao,co,al,cl,ap,cp,hvT,hve,hvf,hvm,hvo,hvl,hvp⟩:=hR4.slices;unfold runD;simp only[hvT,hve,hvf,hvm,hvo,hvl,hvp];have hrd:runD nc V r=#[.bool false,.int .i64 nc,.slice aT V.tcs.length cT,.slice ae r.events.length ce,.slice af r.rf.length cf,.slice am r.rmw.length cm,.slice ao V.vo.length co,.slice al r.log.length cl,.slice ap r.picks.length cp,.int .i64 r.used]:=(by unfold runD;rw[hvT,hve,hvf,hvm,hvo,hvl,hvp]))
 have HRD:=Lib.hid hrd
 clear c0 c1 HR3 hvT hve hvf hvm hvo hvl hvp hrd
 obtain⟨w5,hw5⟩:∃yy:World,yy=w4.alloc (.cells #[.bool false,.int .i64 nc,.slice aT V.tcs.length cT,.slice ae r.events.length ce,.slice af r.rf.length cf,.slice am r.rmw.length cm,.slice ao V.vo.length co,.slice al r.log.length cl,.slice ap r.picks.length cp,.int .i64 r.used] 47):=⟨_,rfl⟩
 have hb45:Below w4.heap.size w4 w5:=by rw[hw5];exact Kit.bl1
 have hD5:Blk w5 w4.heap.size 47 #[.bool false,.int .i64 nc,.slice aT V.tcs.length cT,.slice ae r.events.length ce,.slice af r.rf.length cf,.slice am r.rmw.length cm,.slice ao V.vo.length co,.slice al r.log.length cl,.slice ap r.picks.length cp,.int .i64 r.used]:=by rw[hw5];exact Blk.new _ _ _
 have hb35:=hb34.trans (hb45.mono hb34.size)
 rw[←hw5]
 clear hw5
 have hPW:=hP3.below' hb35
 have hbw5:=hbw3.trans (hb35.mono hbw3.size)
 have hownW:=RunW.own_below hown3 hb35
 have hR5:=hR4.below hb45
 have hgD:=hD5.lt
 have hwhoD:∀k q,who k=some q→w3.heap.size≤k∧k<w4.heap.size:=fun k q h=>hR4.lt k q h
 clear hP3 hown3 hb34 hb45 hb35 hR4
 generalize w4.heap.size=gD at *
 have HWD:=Lib.hid hwhoD
 have HP5:=Lib.hid hPW
 have HBW5:=Lib.hid hbw5
 have HR5:=Lib.hid hR5
 have HD5:=Lib.hid hD5
 have HBW3:=Lib.hid hbw3.size
 clear hwhoD hR5 hD5
 have HSy:∀w2,Below w5.heap.size w5 w2→Hid (Calls Tryz.prog 9 #[.agg #[.int .i64 p.cells,.slice B p.threads.length cB],.slice (some ⟨gi,0,none⟩) picks.length ci,.int .i64 1000] w2 fun e w'=>LawW.SrcOk3 nc x w2 e w'):=fun w2 hb2=>Lib.hid (by
  have hbw2:=hbw5.trans (hb2.mono hbw5.size)
  have hrow:w2.ownsRow w1.heap.size 3 1 (.slice (some ⟨gi,0,none⟩) (picks.length+1) ci) (picks.length+1) (picks.map (Value.int .i64)++[Value.int .i64 201]):=RunW.own_below hownW hb2
  have hII:RunW.IntsAt w2 (some ⟨gi,0,none⟩) picks:=fun i q hq=>by
   obtain⟨g',hg',_,_,_,_,hc⟩:=LawW.row_at hrow (Nat.succ_pos _)
   injection hg' with hg'
   injection hg' with hg'
   refine⟨⟨gi,0,none⟩,rfl,?_⟩
   rw[add0_]
   rw[hg']
   exact hc i _ (by rw[List.getElem?_append_left (by rw[List.length_map];exact(List.getElem?_eq_some_iff.1 hq).1),List.getElem?_map,hq];rfl)
  refine(RunW.Source_any3 p hv _ hlen picks (by omega) 1000 (by omega) w2 (HT.out.below hbw2) (some ⟨gi,0,none⟩) ci hII (fun ad had=>by injection had with had;subst had;exact OwnR.own_lt hrow rfl)).mono fun e w' h=>?_
  rw[HNC.out];exact LawW.source_ok3 HSS.out h)
 go_cut [8,9] (fun s8 s9 wz=>∃gx Q lx,KCut nc w5 x s8 s9 wz gx Q lx)
 case first =>
  focus
   have s0:∀p':Cls (Below w5.heap.size w5),p'.w.cell? ⟨w.heap.size,0,none⟩=some (.int .i64 p.cells):=fun p'=>(hPW.below' p'.h).cell 0
   have s1:∀p':Cls (Below w5.heap.size w5),p'.w.cell? ⟨w.heap.size,1,none⟩=some (.slice B p.threads.length cB):=fun p'=>(hPW.below' p'.h).cell 1
   have q0:(0:Int)≤(picks.length:Int):=by omega
   have q1:(picks.length:Int)≤(ci:Int):=by have:=HNN.out;omega
   have q2:picks.length≤ci:=by have:=HNN.out;omega
   have hne:Nonempty (Cls (Below w5.heap.size w5)):=⟨⟨w5,Below.refl _ _⟩⟩
   have hbd:Below w5.heap.size w5 (w5.drewN 1):=Below_drewN _ 1
   refine wp_region_float_go (fun w'=>∃p':Cls (Below w5.heap.size w5),w'=p'.w) 12 (by kernel_rfl) rfl ?_
   refine floatG_reads3 7 [0,1,2,3,4] ⟨⟨_,hbd⟩,rfl⟩ rfl (by kernel_rfl) ?_
   simp only[pickL,List.map_cons,List.map_nil,List.getElem?_cons_succ,List.getElem?_cons_zero,Option.getD_some]
   repeat (go_big_quiet_step (fail))
   refine wpQuiet_nil ?_
   generalize w5.drewN 1=wd at *
   refine floatG_two (i:=5) (i':=9) (by kernel_rfl) (by decide) (by decide) rfl rfl ?_ ?_
   ·have HS0:=HSy wd hbd
    go_wp2_with (go_at_call 9;refine HS0.out.mono ?_;rintro e wx ⟨hb2,Qx,rfl,hP1⟩)
    have hbx:Below w5.heap.size w5 wx:=hbd.trans (hb2.mono hbd.size)
    refine Kit.oG hbx ?_
    refine floatG_reads3 3 [6,7,8] ⟨⟨_,hbx⟩,rfl⟩ rfl (by kernel_rfl) ?_
    simp only[pickL,List.map_cons,List.map_nil,List.getElem?_cons_succ,List.getElem?_cons_zero,Option.getD_some]
    repeat (go_big_quiet_step (fail))
    refine wpQuiet_nil ?_
    clear s0 s1 q0 q1 q2 hne HS0
    refine fG (i:=9) rfl ?_
    go_wp2_with fail
    obtain⟨wz,hwz⟩:∃yy:World,yy=wx.alloc (.cells #[.int .i64 0,.slice none 0 0,.slice none 0 0,.slice none 0 0,.slice none 0 0,.slice none 0 0,.slice none 0 0,.slice none 0 0,.slice none 0 0,.slice none 0 0,.slice none 0 0,.int .i64 0] 36):=⟨_,rfl⟩
    have hxz:Below wx.heap.size wx wz:=by rw[hwz];exact Kit.bl1
    have hZ:Blk wz wx.heap.size 36 #[.int .i64 0,.slice none 0 0,.slice none 0 0,.slice none 0 0,.slice none 0 0,.slice none 0 0,.slice none 0 0,.slice none 0 0,.slice none 0 0,.slice none 0 0,.slice none 0 0,.int .i64 0]:=by rw[hwz];exact Blk.new _ _ _
    rw[←hwz]
    clear hwz
    have hbz:=hbx.trans (hxz.mono hbx.size)
    have hgx:w5.heap.size≤wx.heap.size:=hbx.size
    have hlo:w5.heap.size≤wd.heap.size∧wd.heap.size≤wz.heap.size:=⟨hbd.size,Nat.le_trans hb2.size hxz.size⟩
    have hPz:=hP1.below hxz
    generalize wx.heap.size=gx at *
    refine Kit.oG hbz ?_
    obtain⟨y0,y1,y2,y3,y4,y5,y6,y7,y8,y9,y10,y11⟩:=Kit.cells12 hZ
    have zf:=fun i=>Blk.frozen hZ i
    refine fG (i:=10) rfl ?_
    go_wp2_with fail
    clear zf y0 y1 y2 y3 y4 y5 y6 y7 y8 y9 y10 y11
    refine(show onG _ _ _ _ _ (RunW.putL wz gx 0 [.int .i64 (nc:Int),.slice Qx.ae x.events.length Qx.ce,.slice Qx.af x.rf.length Qx.cf,.slice Qx.ao Qx.no Qx.co,.slice Qx.am x.rmw.length Qx.cm,.slice none 0 0,.slice none 0 0,.slice none 0 0,.slice Qx.ac x.cells.length Qx.cc,.slice Qx.au Qx.nu Qx.cu,.slice Qx.ah x.ths.length Qx.ch,.int .i64 (x.used:Int)])from RunW.putL_go hZ rfl fun wy hY hky=>?_)
    have hky2:=hky.size;have hPy:=hPz.else_ hZ hky (fun k hk=>hk);clear hPz
    have hby:Below w5.heap.size w5 wy:=NewW.kept_below hbz hky (fun j hj=>by rw[hj];exact hgx)
    clear hZ hky hbz
    refine Kit.oG hby ?_
    refine fG (i:=11) rfl ?_
    go_wp2_with fail
    refine Kit.oG hby ?_
    refine(show tailG _ _ _ _ _ _ _ from⟨by kernel_rfl,?_⟩)
    simp only[List.drop_succ_cons,List.drop_nil]
    go_wp2_with fail
    go_meet
    exact⟨gx,Qx,_,rfl,rfl,hY,hPy,hlo.1,Nat.le_trans hlo.2 hky2,hgx,hby⟩
   ·go_wp2_with fail
    obtain⟨wa,hwa⟩:∃yy:World,yy=wd.alloc (.cells #[.int .i64 0,.slice none 0 0,.slice none 0 0,.slice none 0 0,.slice none 0 0,.slice none 0 0,.slice none 0 0,.slice none 0 0,.slice none 0 0,.slice none 0 0,.slice none 0 0,.int .i64 0] 36):=⟨_,rfl⟩
    have hda:Below wd.heap.size wd wa:=by rw[hwa];exact Kit.bl1
    have hZa:Blk wa wd.heap.size 36 #[.int .i64 0,.slice none 0 0,.slice none 0 0,.slice none 0 0,.slice none 0 0,.slice none 0 0,.slice none 0 0,.slice none 0 0,.slice none 0 0,.slice none 0 0,.slice none 0 0,.int .i64 0]:=by rw[hwa];exact Blk.new _ _ _
    rw[←hwa]
    clear hwa
    have hbA:=hbd.trans (hda.mono hbd.size)
    have hgx:w5.heap.size≤wd.heap.size:=hbd.size
    refine Kit.oG hbA ?_
    refine fG (i:=5) rfl ?_
    have HS0:=HSy wa hbA
    go_wp2_with (go_at_call 9;refine HS0.out.mono ?_;rintro e wz ⟨hb2,Qx,rfl,hP1⟩)
    have hbz:Below w5.heap.size w5 wz:=hbA.trans (hb2.mono hbA.size)
    refine Kit.oG hbz ?_
    refine floatG_reads3 2 [6,7,8] ⟨⟨_,hbz⟩,rfl⟩ rfl (by kernel_rfl) ?_
    simp only[pickL,List.map_cons,List.map_nil,List.getElem?_cons_succ,List.getElem?_cons_zero,Option.getD_some]
    repeat (go_big_quiet_step (fail))
    refine wpQuiet_nil ?_
    clear s0 s1 q0 q1 q2 hne HS0
    have hZ:=hZa.below' hb2
    have hlo:w5.heap.size≤wa.heap.size∧wa.heap.size≤wz.heap.size:=⟨hbA.size,hb2.size⟩
    have hPz:=hP1
    generalize wd.heap.size=gx at *
    obtain⟨y0,y1,y2,y3,y4,y5,y6,y7,y8,y9,y10,y11⟩:=Kit.cells12 hZ
    have zf:=fun i=>Blk.frozen hZ i
    refine fG (i:=10) rfl ?_
    go_wp2_with fail
    clear zf y0 y1 y2 y3 y4 y5 y6 y7 y8 y9 y10 y11
    refine(show onG _ _ _ _ _ (RunW.putL wz gx 0 [.int .i64 (nc:Int),.slice Qx.ae x.events.length Qx.ce,.slice Qx.af x.rf.length Qx.cf,.slice Qx.ao Qx.no Qx.co,.slice Qx.am x.rmw.length Qx.cm,.slice none 0 0,.slice none 0 0,.slice none 0 0,.slice Qx.ac x.cells.length Qx.cc,.slice Qx.au Qx.nu Qx.cu,.slice Qx.ah x.ths.length Qx.ch,.int .i64 (x.used:Int)])from RunW.putL_go hZ rfl fun wy hY hky=>?_)
    have hky2:=hky.size;have hPy:=hPz.else_ hZ hky (fun k hk=>hk);clear hPz
    have hby:Below w5.heap.size w5 wy:=NewW.kept_below hbz hky (fun j hj=>by rw[hj];exact hgx)
    clear hZ hky hbz
    refine Kit.oG hby ?_
    refine fG (i:=11) rfl ?_
    go_wp2_with fail
    refine Kit.oG hby ?_
    refine(show tailG _ _ _ _ _ _ _ from⟨by kernel_rfl,?_⟩)
    simp only[List.drop_succ_cons,List.drop_nil]
    go_wp2_with fail
    go_meet
    exact⟨gx,Qx,_,rfl,rfl,hY,hPy,hlo.1,Nat.le_trans hlo.2 hky2,hgx,hby⟩
 obtain⟨gx,Qx,lx,rfl,rfl,hX6,hQ6,hlx,hlxh,hgx5,hb5c⟩:=hcut
 obtain⟨w6,hw6⟩:∃yy:World,yy=wc:=⟨_,rfl⟩
 rw[←hw6]at hb5c hX6 hQ6 hlxh ⊢
 clear hw6
 have hPW:=hPW.below' hb5c
 have hbw6:=hbw5.trans (hb5c.mono hbw5.size)
 have hownW:=RunW.own_below hownW hb5c
 have hsz56:=hb5c.size
 have HB56:=Lib.hid hb5c
 clear HSy hb5c
 have HSy:∀w2,Below w6.heap.size w6 w2→Hid (Calls Tryz.prog 9 #[.agg #[.int .i64 p.cells,.slice B p.threads.length cB],.slice (some ⟨gi,0,none⟩) picks.length ci,.int .i64 1000] w2 fun e w'=>LawW.SrcOk3 nc x w2 e w'):=fun w2 hb2=>Lib.hid (by
  have hbw2:=hbw6.trans (hb2.mono hbw6.size)
  have hrow:w2.ownsRow w1.heap.size 3 1 (.slice (some ⟨gi,0,none⟩) (picks.length+1) ci) (picks.length+1) (picks.map (Value.int .i64)++[Value.int .i64 201]):=RunW.own_below hownW hb2
  have hII:RunW.IntsAt w2 (some ⟨gi,0,none⟩) picks:=fun i q hq=>by
   obtain⟨g',hg',_,_,_,_,hc⟩:=LawW.row_at hrow (Nat.succ_pos _)
   injection hg' with hg'
   injection hg' with hg'
   refine⟨⟨gi,0,none⟩,rfl,?_⟩
   rw[add0_]
   rw[hg']
   exact hc i _ (by rw[List.getElem?_append_left (by rw[List.length_map];exact(List.getElem?_eq_some_iff.1 hq).1),List.getElem?_map,hq];rfl)
  refine(RunW.Source_any3 p hv _ hlen picks (by omega) 1000 (by omega) w2 (HT.out.below hbw2) (some ⟨gi,0,none⟩) ci hII (fun ad had=>by injection had with had;subst had;exact OwnR.own_lt hrow rfl)).mono fun e w' h=>?_
  rw[HNC.out];exact LawW.source_ok3 HSS.out h)
 go_upto_region 8 with fail
 go_cut [10,11] (fun s10 s11 wz=>∃gy Q ly,KCut nc w6 x s10 s11 wz gy Q ly)
 case first =>
  focus
   have s0:∀p':Cls (Below w6.heap.size w6),p'.w.cell? ⟨w.heap.size,0,none⟩=some (.int .i64 p.cells):=fun p'=>(hPW.below' p'.h).cell 0
   have s1:∀p':Cls (Below w6.heap.size w6),p'.w.cell? ⟨w.heap.size,1,none⟩=some (.slice B p.threads.length cB):=fun p'=>(hPW.below' p'.h).cell 1
   have q0:(0:Int)≤(picks.length:Int):=by omega
   have q1:(picks.length:Int)≤(ci:Int):=by have:=HNN.out;omega
   have q2:picks.length≤ci:=by have:=HNN.out;omega
   have hne:Nonempty (Cls (Below w6.heap.size w6)):=⟨⟨w6,Below.refl _ _⟩⟩
   have hbd:Below w6.heap.size w6 (w6.drewN 1):=Below_drewN _ 1
   refine wp_region_float_go (fun w'=>∃p':Cls (Below w6.heap.size w6),w'=p'.w) 12 (by kernel_rfl) rfl ?_
   refine floatG_reads3 7 [0,1,2,3,4] ⟨⟨_,hbd⟩,rfl⟩ rfl (by kernel_rfl) ?_
   simp only[pickL,List.map_cons,List.map_nil,List.getElem?_cons_succ,List.getElem?_cons_zero,Option.getD_some]
   repeat (go_big_quiet_step (fail))
   refine wpQuiet_nil ?_
   generalize w6.drewN 1=wd at *
   refine floatG_two (i:=5) (i':=9) (by kernel_rfl) (by decide) (by decide) rfl rfl ?_ ?_
   ·have HS0:=HSy wd hbd
    go_wp2_with (go_at_call 9;refine HS0.out.mono ?_;rintro e wx ⟨hb2,Qx,rfl,hP1⟩)
    have hbx:Below w6.heap.size w6 wx:=hbd.trans (hb2.mono hbd.size)
    refine Kit.oG hbx ?_
    refine floatG_reads3 3 [6,7,8] ⟨⟨_,hbx⟩,rfl⟩ rfl (by kernel_rfl) ?_
    simp only[pickL,List.map_cons,List.map_nil,List.getElem?_cons_succ,List.getElem?_cons_zero,Option.getD_some]
    repeat (go_big_quiet_step (fail))
    refine wpQuiet_nil ?_
    clear s0 s1 q0 q1 q2 hne HS0
    refine fG (i:=9) rfl ?_
    go_wp2_with fail
    obtain⟨wz,hwz⟩:∃yy:World,yy=wx.alloc (.cells #[.int .i64 0,.slice none 0 0,.slice none 0 0,.slice none 0 0,.slice none 0 0,.slice none 0 0,.slice none 0 0,.slice none 0 0,.slice none 0 0,.slice none 0 0,.slice none 0 0,.int .i64 0] 36):=⟨_,rfl⟩
    have hxz:Below wx.heap.size wx wz:=by rw[hwz];exact Kit.bl1
    have hZ:Blk wz wx.heap.size 36 #[.int .i64 0,.slice none 0 0,.slice none 0 0,.slice none 0 0,.slice none 0 0,.slice none 0 0,.slice none 0 0,.slice none 0 0,.slice none 0 0,.slice none 0 0,.slice none 0 0,.int .i64 0]:=by rw[hwz];exact Blk.new _ _ _
    rw[←hwz]
    clear hwz
    have hbz:=hbx.trans (hxz.mono hbx.size)
    have hgx:w6.heap.size≤wx.heap.size:=hbx.size
    have hlo:w6.heap.size≤wd.heap.size∧wd.heap.size≤wz.heap.size:=⟨hbd.size,Nat.le_trans hb2.size hxz.size⟩
    have hPz:=hP1.below hxz
    generalize wx.heap.size=gx at *
    refine Kit.oG hbz ?_
    obtain⟨y0,y1,y2,y3,y4,y5,y6,y7,y8,y9,y10,y11⟩:=Kit.cells12 hZ
    have zf:=fun i=>Blk.frozen hZ i
    refine fG (i:=10) rfl ?_
    go_wp2_with fail
    clear zf y0 y1 y2 y3 y4 y5 y6 y7 y8 y9 y10 y11
    refine(show onG _ _ _ _ _ (RunW.putL wz gx 0 [.int .i64 (nc:Int),.slice Qx.ae x.events.length Qx.ce,.slice Qx.af x.rf.length Qx.cf,.slice Qx.ao Qx.no Qx.co,.slice Qx.am x.rmw.length Qx.cm,.slice none 0 0,.slice none 0 0,.slice none 0 0,.slice Qx.ac x.cells.length Qx.cc,.slice Qx.au Qx.nu Qx.cu,.slice Qx.ah x.ths.length Qx.ch,.int .i64 (x.used:Int)])from RunW.putL_go hZ rfl fun wy hY hky=>?_)
    have hky2:=hky.size;have hPy:=hPz.else_ hZ hky (fun k hk=>hk);clear hPz
    have hby:Below w6.heap.size w6 wy:=NewW.kept_below hbz hky (fun j hj=>by rw[hj];exact hgx)
    clear hZ hky hbz
    refine Kit.oG hby ?_
    refine fG (i:=11) rfl ?_
    go_wp2_with fail
    refine Kit.oG hby ?_
    refine(show tailG _ _ _ _ _ _ _ from⟨by kernel_rfl,?_⟩)
    simp only[List.drop_succ_cons,List.drop_nil]
    go_wp2_with fail
    go_meet
    exact⟨gx,Qx,_,rfl,rfl,hY,hPy,hlo.1,Nat.le_trans hlo.2 hky2,hgx,hby⟩
   ·go_wp2_with fail
    obtain⟨wa,hwa⟩:∃yy:World,yy=wd.alloc (.cells #[.int .i64 0,.slice none 0 0,.slice none 0 0,.slice none 0 0,.slice none 0 0,.slice none 0 0,.slice none 0 0,.slice none 0 0,.slice none 0 0,.slice none 0 0,.slice none 0 0,.int .i64 0] 36):=⟨_,rfl⟩
    have hda:Below wd.heap.size wd wa:=by rw[hwa];exact Kit.bl1
    have hZa:Blk wa wd.heap.size 36 #[.int .i64 0,.slice none 0 0,.slice none 0 0,.slice none 0 0,.slice none 0 0,.slice none 0 0,.slice none 0 0,.slice none 0 0,.slice none 0 0,.slice none 0 0,.slice none 0 0,.int .i64 0]:=by rw[hwa];exact Blk.new _ _ _
    rw[←hwa]
    clear hwa
    have hbA:=hbd.trans (hda.mono hbd.size)
    have hgx:w6.heap.size≤wd.heap.size:=hbd.size
    refine Kit.oG hbA ?_
    refine fG (i:=5) rfl ?_
    have HS0:=HSy wa hbA
    go_wp2_with (go_at_call 9;refine HS0.out.mono ?_;rintro e wz ⟨hb2,Qx,rfl,hP1⟩)
    have hbz:Below w6.heap.size w6 wz:=hbA.trans (hb2.mono hbA.size)
    refine Kit.oG hbz ?_
    refine floatG_reads3 2 [6,7,8] ⟨⟨_,hbz⟩,rfl⟩ rfl (by kernel_rfl) ?_
    simp only[pickL,List.map_cons,List.map_nil,List.getElem?_cons_succ,List.getElem?_cons_zero,Option.getD_some]
    repeat (go_big_quiet_step (fail))
    refine wpQuiet_nil ?_
    clear s0 s1 q0 q1 q2 hne HS0
    have hZ:=hZa.below' hb2
    have hlo:w6.heap.size≤wa.heap.size∧wa.heap.size≤wz.heap.size:=⟨hbA.size,hb2.size⟩
    have hPz:=hP1
    generalize wd.heap.size=gx at *
    obtain⟨y0,y1,y2,y3,y4,y5,y6,y7,y8,y9,y10,y11⟩:=Kit.cells12 hZ
    have zf:=fun i=>Blk.frozen hZ i
    refine fG (i:=10) rfl ?_
    go_wp2_with fail
    clear zf y0 y1 y2 y3 y4 y5 y6 y7 y8 y9 y10 y11
    refine(show onG _ _ _ _ _ (RunW.putL wz gx 0 [.int .i64 (nc:Int),.slice Qx.ae x.events.length Qx.ce,.slice Qx.af x.rf.length Qx.cf,.slice Qx.ao Qx.no Qx.co,.slice Qx.am x.rmw.length Qx.cm,.slice none 0 0,.slice none 0 0,.slice none 0 0,.slice Qx.ac x.cells.length Qx.cc,.slice Qx.au Qx.nu Qx.cu,.slice Qx.ah x.ths.length Qx.ch,.int .i64 (x.used:Int)])from RunW.putL_go hZ rfl fun wy hY hky=>?_)
    have hky2:=hky.size;have hPy:=hPz.else_ hZ hky (fun k hk=>hk);clear hPz
    have hby:Below w6.heap.size w6 wy:=NewW.kept_below hbz hky (fun j hj=>by rw[hj];exact hgx)
    clear hZ hky hbz
    refine Kit.oG hby ?_
    refine fG (i:=11) rfl ?_
    go_wp2_with fail
    refine Kit.oG hby ?_
    refine(show tailG _ _ _ _ _ _ _ from⟨by kernel_rfl,?_⟩)
    simp only[List.drop_succ_cons,List.drop_nil]
    go_wp2_with fail
    go_meet
    exact⟨gx,Qx,_,rfl,rfl,hY,hPy,hlo.1,Nat.le_trans hlo.2 hky2,hgx,hby⟩
 as_aux_lemma =>
  obtain⟨gy,Qy,ly,rfl,rfl,hY7,hQ7,hly,_,hgy6,hb6c⟩:=hcut
  obtain⟨w7,hw7⟩:∃yy:World,yy=wc:=⟨_,rfl⟩
  rw[←hw7]at hb6c hY7 hQ7 ⊢
  clear hw7
  have hbC:=hbw6.trans (hb6c.mono hbw6.size)
  have hownC:=RunW.own_below hownW hb6c
  have hX7:=hX6.below' hb6c
  have hQX7:=hQ6.below hb6c
  have hb57:=HB56.out.trans (hb6c.mono hsz56)
  have HQ6:=Lib.hid hQ6
  have hsz67:=hb6c.size
  have hgx6:=hX6.lt
  clear HSy hb6c hownW hPW hX6
  obtain⟨gi',hgi',_,_,_,_,hci⟩:=LawW.row_at hownC (Nat.succ_pos _)
  injection hgi' with hgi'
  injection hgi' with hgi'
  subst hgi'
  have k201:w7.cell? ⟨gi,picks.length,none⟩=some (.int .i64 201):=hci picks.length _ (by rw[List.getElem?_append_right (by rw[List.length_map];exact Nat.le_refl _),List.length_map,Nat.sub_self];rfl)
  have i1:(picks.length:Int)<(picks.length:Int)+1:=by omega
  have i2:(picks.length:Int)<((picks.length+1:Nat):Int):=by omega
  have i0:(0:Int)≤(picks.length:Int):=by omega
  have HCI:=Lib.hid hci
  clear hci
  go_upto_region 12 with fail
  clear k201 i1 i2 i0
  go_loopg [12] picks.length (fun mm s12 wr=>GrRelE picks.length w7 mm s12 wr)
  case atStart=>exact⟨0,0,rfl,Nat.zero_le _,rfl,(World.drewN_zero _).symm⟩
  case round =>
   obtain⟨i,q,rfl,hi,hmm,rfl⟩:=hrel
   have HM:=Lib.hid hmm
   clear hmm
   by_cases hke:i<picks.length
   ·have q1:(i:Int)<(picks.length:Int):=by omega
    have q2:(0:Int)≤(i:Int):=by omega
    have q3:(i:Int)<(picks.length:Int)+1:=by omega
    have q4:(i:Int)<((picks.length+1:Nat):Int):=by omega
    obtain⟨x0,hx0⟩:∃x,picks[i]?=some x:=⟨_,Kit.eG hke⟩
    obtain⟨ad,hA1,hca⟩:=LawW.ints_below HI.out HA.out hbC i x0 hx0
    have kin:=HCI.out i (.int .i64 x0) (by rw[List.getElem?_append_left (by rw[List.length_map];exact hke),List.getElem?_map,hx0];rfl)
    have HA1:=Lib.hid hA1
    rw[hA1]
    have e1:(x0 == x0)=true:=by simp
    clear hx0 hA1
    go_upto_region 14 with fail
    go_quiet (fail)
    go_wp2_with fail
    rw[←HA1.out]
    go_roundg (picks.length-(i+1))
    case measure=>have:=HM.out;omega
    case rel=>exact⟨i+1,_,by push_cast;rfl,hke,rfl,rfl⟩
   ·obtain rfl:i=picks.length:=by omega
    have q1:¬((picks.length:Int)<(picks.length:Int)):=by omega
    obtain⟨w8,hw8⟩:∃y,y=w7.drewN q:=⟨_,rfl⟩
    rw[←hw8]
    have hb78:Below w7.heap.size w7 w8:=by rw[hw8];exact Below_drewN _ _
    have hbw8:=hbC.trans (hb78.mono hbC.size)
    have hb58:=hb57.trans (hb78.mono hb57.size)
    have hX8:=hX7.below' hb78
    have hQX8:=hQX7.below hb78
    have hY8:=hY7.below' hb78
    have hQ8:=hQ7.q.below hb78
    have hsz78:=hb78.size
    have hYlt:=hY7.lt
    clear hw8 hX7 hQX7 hY7 hQ7 hb78 hi HM hke hownC HCI q1 hbC hb57
    have HLX:Hid (lx≤w8.heap.size):=Lib.hid (by omega)
    have hxf0:XF lx w5.heap.size w6.heap.size gx w8 w8 #[.int .i64 (nc:Int),.slice Qx.ae x.events.length Qx.ce,.slice Qx.af x.rf.length Qx.cf,.slice Qx.ao Qx.no Qx.co,.slice Qx.am x.rmw.length Qx.cm,.slice none 0 0,.slice none 0 0,.slice none 0 0,.slice Qx.ac x.cells.length Qx.cc,.slice Qx.au Qx.nu Qx.cu,.slice Qx.ah x.ths.length Qx.ch,.int .i64 (x.used:Int)] Qx x 0 0:=⟨XS.of hQX8.q,hX8,KeptS.refl _ _⟩
    have HB58:=Lib.hid hb58
    have HBW8:=Lib.hid hbw8
    have HCL:Hid (∀c:Nat,(x.co.getD c []).length≤256):=Lib.hid fun c=>by
     have:=mem_getD (P:=fun l=>l.length≤x.events.length) HRN.out.coi [] (Nat.zero_le _) c
     omega
    have HOL:Hid (∀c:Nat,(x.outs.getD c []).length≤1000):=Lib.hid fun c=>by
     have:=mem_getD (P:=fun l=>l.length≤x.used) HRN.out.outi [] (Nat.zero_le _) c
     omega
    have hrfl:x.rf.length≤256:=Nat.le_trans HRN.out.rf hle
    have hcel:x.cells.length≤4096:=by rw[HRN.out.cells];exact hncl
    have hotl:x.outs.length≤1048576:=by rw[HRN.out.outs,HTHS.out];exact hlen
    have HXC:Hid (x.co.length=nc):=Lib.hid HRN.out.co
    have HCOL:Hid (Qx.coi.length=nc):=Lib.hid (HQ6.out.q.col.trans HXC.out)
    have HNOE:Hid (Qx.no=nc):=Lib.hid (by
     obtain⟨A',c',hv',_⟩:=OwnR.own_slice HQ6.out.q.co
     have hv2:Value.slice Qx.ao Qx.no Qx.co=Value.slice A' Qx.coi.length c':=hv'
     injection hv2 with _ h2 _
     rw[h2,HCOL.out])
    have HNO:∀w2:World,w2.ownsRow lx 25 1 (.slice Qx.ao Qx.no Qx.co) Qx.coi.length Qx.coi→w2.ownsRow lx 25 1 (.slice Qx.ao nc Qx.co) nc Qx.coi:=fun w2 h=>by
     rw[HNOE.out,HCOL.out]at h
     exact h
    have HUIL:Hid (Qx.outi.length=x.outs.length):=Lib.hid HQ6.out.q.out.2
    have HNUE:Hid (Qx.nu=x.outs.length):=Lib.hid HQ6.out.q.out.1
    have HNUO:∀w2:World,w2.ownsRow lx 32 1 (.slice Qx.au Qx.nu Qx.cu) Qx.nu Qx.outi→w2.ownsRow lx 32 1 (.slice Qx.au x.outs.length Qx.cu) x.outs.length Qx.outi:=fun w2 h=>by
     rw[HNUE.out]at h
     exact h
    clear hb58 hQX8 hbw8
    go_upto_region 19 with fail
    go_loopg [13] x.events.length (fun mm s wr=>EvR lx w5.heap.size w6.heap.size gx w8 #[.int .i64 (nc:Int),.slice Qx.ae x.events.length Qx.ce,.slice Qx.af x.rf.length Qx.cf,.slice Qx.ao Qx.no Qx.co,.slice Qx.am x.rmw.length Qx.cm,.slice none 0 0,.slice none 0 0,.slice none 0 0,.slice Qx.ac x.cells.length Qx.cc,.slice Qx.au Qx.nu Qx.cu,.slice Qx.ah x.ths.length Qx.ch,.int .i64 (x.used:Int)] Qx x mm s wr)
    case atStart=>exact⟨0,rfl,Nat.zero_le _,rfl,hxf0⟩
    case round =>
     obtain⟨i,rfl,hi,hmm,hF⟩:=hrel
     have HM:=Lib.hid hmm
     have HF:=Lib.hid hF
     have k1:wr.cell? ⟨gx,1,none⟩=some (.slice Qx.ae x.events.length Qx.ce):=Blk.cell hF.blk 1
     obtain⟨L,hL,hown⟩:=hF.xs.ev
     have HL:=Lib.hid hL
     clear hmm hF hL hxf0
     by_cases hke:i<x.events.length
     ·have q1:(i:Int)<(x.events.length:Int):=by omega
      have q2:(0:Int)≤(i:Int):=by omega
      obtain⟨ge,hge,_,_,_,hfz,hlc⟩:=LawW.row_at hown (by omega)
      obtain⟨e,hee⟩:∃e,L[i]?=some e:=⟨_,Kit.eG (by have:=HL.out;omega)⟩
      obtain⟨f0,f1,f2,f3,f4⟩:=LawW.ev_cells hlc hee
      have HGE:=Lib.hid hge
      have HOW:=Lib.hid hown
      have z:=fun o=>hfz o
      rw[hge]at k1
      clear hlc hee hge hown hfz
      go_wp2_with fail
      have hev:XF lx w5.heap.size w6.heap.size gx w8 (wr.setCells ge (i*5) (RunW.evC ⟨9,0,0,0,0⟩)) #[.int .i64 (nc:Int),.slice Qx.ae x.events.length Qx.ce,.slice Qx.af x.rf.length Qx.cf,.slice Qx.ao Qx.no Qx.co,.slice Qx.am x.rmw.length Qx.cm,.slice none 0 0,.slice none 0 0,.slice none 0 0,.slice Qx.ac x.cells.length Qx.cc,.slice Qx.au Qx.nu Qx.cu,.slice Qx.ah x.ths.length Qx.ch,.int .i64 (x.used:Int)] Qx x 0 0:=by
       have hown:=HOW.out
       have hge:=HGE.out
       have hk:KeptS (fun k=>(Value.slice Qx.ae x.events.length Qx.ce).ownBlock=some k) wr (wr.setCells ge (i*5) (RunW.evC ⟨9,0,0,0,0⟩)):=by
        rw[hge]
        exact(setCells_kept _ _ _).mono (fun k h=>by rw[h];rfl)
       have hseg:(wr.setCells ge (i*5) (RunW.evC ⟨9,0,0,0,0⟩)).ownsRow lx 42 5 (.slice Qx.ae x.events.length Qx.ce) x.events.length ((L.set i ⟨9,0,0,0,0⟩).flatMap RunW.evC):=by
        rw[hge]at hown ⊢
        exact own_seg RunW.evC (fun _=>rfl) hown (by have:=HL.out;omega) _
       exact HF.out.step HQ6.out.q.evR hlx hown (by decide) hk (HF.out.xs.ev' (by rw[List.length_set];exact HL.out) hseg hk)
      go_roundg (x.events.length-(i+1))
      case measure=>have:=HM.out;omega
      case rel=>exact⟨i+1,by push_cast;rfl,hke,rfl,hev⟩
     ·obtain rfl:i=x.events.length:=by omega
      have q1:¬((x.events.length:Int)<(x.events.length:Int)):=by omega
      have hxf0:=HF.out
      go_upto_region 23 with fail
      clear hown q1 k1 HF HL HM hke hi
      go_loopg [14] nc (fun mm s wr=>CoR lx w5.heap.size w6.heap.size gx nc w8 #[.int .i64 (nc:Int),.slice Qx.ae x.events.length Qx.ce,.slice Qx.af x.rf.length Qx.cf,.slice Qx.ao Qx.no Qx.co,.slice Qx.am x.rmw.length Qx.cm,.slice none 0 0,.slice none 0 0,.slice none 0 0,.slice Qx.ac x.cells.length Qx.cc,.slice Qx.au Qx.nu Qx.cu,.slice Qx.ah x.ths.length Qx.ch,.int .i64 (x.used:Int)] Qx x mm s wr)
      case atStart=>exact⟨0,rfl,Nat.zero_le _,rfl,hxf0⟩
      case round =>
       obtain⟨c,rfl,hc,hmm,hF⟩:=hrel
       have HM:=Lib.hid hmm
       have HFO:=Lib.hid hF
       have k1:wr.cell? ⟨gx,3,none⟩=some (.slice Qx.ao nc Qx.co):=by rw[←HNOE.out];exact Blk.cell hF.blk 3
       clear hmm hxf0
       by_cases hcn:c<nc
       ·have q1:(c:Int)<(nc:Int):=by omega
        have q2:(0:Int)≤(c:Int):=by omega
        obtain⟨L,hL⟩:∃L,L=(x.co.getD c []).length:=⟨_,rfl⟩
        have hLl:L≤1000:=by rw[hL];have:=HCL.out c;omega
        have hrow:=hF.xs.coi c (Nat.le_refl _)
        rw[←hL]at hrow
        obtain⟨Ar,cr,hvr,_⟩:=OwnR.own_slice hrow
        obtain⟨gco,hgco,_,_,_,_,hcc⟩:=LawW.row_at (HNO wr hF.xs.co) (by have:=HCOL.out;omega)
        have kct:=hcc c (.slice Ar L cr) (by
         rw[←hvr]
         show Qx.coi[c]?=some (Qx.coi.getD c RunW.nilV)
         rw[Kit.gD,Kit.eG (by have:=HCOL.out;omega)]
         rfl)
        rw[hvr]at hrow
        have HROW:=Lib.hid hrow
        have HVR:=Lib.hid hvr
        have HGCO:=Lib.hid hgco
        have HLXO:Hid (lx≤wr.heap.size):=Lib.hid (Nat.le_trans HLX.out hF.fr.size)
        rw[hgco]at k1
        clear hL hrow hvr hcc hgco hF
        obtain⟨wo,hwo⟩:∃wo:World,wo=wr:=⟨_,rfl⟩
        rw[←hwo]at HROW HLXO HFO k1 kct ⊢
        clear hwo
        go_upto_region 27 with fail
        clear kct k1 q1 q2
        go_loopg [16] L (fun mm s wr=>RowI lx 3 (.slice Ar L cr) L wo mm s wr)
        case atStart=>exact⟨0,_,rfl,Nat.zero_le _,rfl,HROW.out,KeptS.refl _ _⟩
        case round =>
         obtain⟨j,xs,rfl,hj,hmm,hown,hkj⟩:=hrel
         have HMJ:=Lib.hid hmm
         have HKJ:=Lib.hid hkj
         have HOJ:=Lib.hid hown
         clear hmm hkj
         by_cases hjl:j<L
         ·have j1:(j:Int)<(L:Int):=by omega
          have j2:(0:Int)≤(j:Int):=by omega
          obtain⟨gl,hgl,_,_,_,hfz,hlc⟩:=LawW.row_at hown (by omega)
          obtain⟨u,hu⟩:∃u,xs[j]?=some u:=⟨_,Kit.eG (by have:=hown.1;omega)⟩
          have kj:=hlc j u hu
          have hf:=hfz j
          have HGL:=Lib.hid hgl
          subst hgl
          clear hfz hlc hu hown
          go_wp2_with fail
          have hown':=OwnR.own_set HOJ.out (j:=j) (by have:=HOJ.out.1;omega) (Value.int .i64 99)
          have hkj':KeptS (fun k=>(Value.slice (some ⟨gl,0,none⟩) L cr).ownBlock=some k) wo (wr.setCell ⟨gl,j,none⟩ (Value.int .i64 99)):=HKJ.out.set rfl _ _
          go_roundg (L-(j+1))
          case measure=>have:=HMJ.out;omega
          case rel=>exact⟨j+1,_,by push_cast;rfl,hjl,rfl,hown',hkj'⟩
         ·obtain rfl:j=L:=by omega
          have j1:¬((j:Int)<(j:Int)):=by omega
          obtain⟨wp,hwp⟩:∃wp:World,wp=wr:=⟨_,rfl⟩
          rw[←hwp]at HOJ HKJ
          go_upto_region 31 with fail
          rw[←hwp]
          clear hown j1 hj HMJ hjl hwp
          go_loopg [15,17] 4 (fun mm sl s wr=>RowK lx 3 (.slice Ar j cr) j wp mm sl s wr)
          case atStart=>exact⟨0,Ar,cr,xs,rfl,rfl,by omega,rfl,HOJ.out,fun k hk=>.inl hk,KeptS.refl _ _⟩
          case round =>
           obtain⟨i,A2,c2,ys,rfl,rfl,hi4,hmm,hown,hat0,hkk⟩:=hrel
           have HMI:=Lib.hid hmm
           have HAT0:=Lib.hid hat0
           have HKK:=Lib.hid hkk
           clear hmm hat0 hkk
           by_cases hil:i<4
           ·have j1:(i:Int)<4:=by omega
            have hba:Below wr.heap.size wr (wr.alloc (.cells #[Value.int .i64 98] 3)):=Kit.bl1
            have hNa:Blk (wr.alloc (.cells #[Value.int .i64 98] 3)) wr.heap.size 3 (List.toArray [Value.int .i64 98]):=Blk.new _ _ _
            have HOW:=Lib.hid (RunW.own_below hown hba)
            have hlxr:lx≤(wr.alloc (.cells #[Value.int .i64 98] 3)).heap.size:=by have:=HKK.out.size;have:=HKJ.out.size;have:=hba.size;have:=HLXO.out;omega
            have hsz1:=HKK.out.size
            have hsz2:=hba.size
            clear hown
            go_wp2_with (at_builtin;refine wpList_append_lies _ (by rfl) _ _ _ (by rfl) lx 3 j0 _ 1 8 Tryz.underlying25 hj0 hjz0 hjz1 hjz2 rfl (by omega) _ (j+i) _ (by rfl) HOW.out ⟨wr.heap.size,0,none⟩ 1 1 [Value.int .i64 98] (by rfl) rfl (RunW.news_one hNa) (RunW.one_one rfl) (by omega) (by omega) (by omega) hlxr _ rfl ?_;intro g8 cap8 w9 hown8 hgrow8 hat8 hlt8)
            have hk8:KeptS (fun k=>(Value.slice Ar j cr).ownBlock=some k) wp w9:=by
             have h1:=HKK.out.trans (KeptS.of_below hba)
             refine⟨hgrow8.os.trans h1.1,hgrow8.tape.trans h1.2.1,hgrow8.output.trans h1.2.2.1,Nat.le_trans h1.size hgrow8.size,fun k hk hn=>(hgrow8.block k (Nat.lt_of_lt_of_le hk h1.size) (fun e=>?_)).trans (h1.2.2.2.2 k hk hn)⟩
             rcases HAT0.out k e.symm with h2 | h2
             ·exact hn h2
             ·omega
            go_roundg (4-(i+1))
            case measure=>have:=HMI.out;omega
            case rel =>
             refine⟨i+1,some ⟨g8,0,none⟩,cap8,_,rfl,by push_cast;rfl,hil,rfl,hown8,fun k hk=>?_,hk8⟩
             obtain rfl:g8=k:=by simpa [Value.ownBlock]using hk
             rcases hat8 with h2 | h2
             ·exact HAT0.out g8 h2
             ·right;omega
           ·obtain rfl:i=4:=by omega
            have j1:¬((4:Int)<4):=by omega
            have hkw:KeptS (fun k=>(Value.slice Ar j cr).ownBlock=some k) wo wr:=HKJ.out.trans HKK.out
            clear hown
            go_wp2_with fail
            have hkw2:=hkw
            rw[←HVR.out]at hkw2
            have hst:XF lx w5.heap.size w6.heap.size gx w8 wr #[.int .i64 (nc:Int),.slice Qx.ae x.events.length Qx.ce,.slice Qx.af x.rf.length Qx.cf,.slice Qx.ao Qx.no Qx.co,.slice Qx.am x.rmw.length Qx.cm,.slice none 0 0,.slice none 0 0,.slice none 0 0,.slice Qx.ac x.cells.length Qx.cc,.slice Qx.au Qx.nu Qx.cu,.slice Qx.ah x.ths.length Qx.ch,.int .i64 (x.used:Int)] Qx x (c+1) 0:=HFO.out.step (HQ6.out.q.coi c) hlx (HFO.out.xs.coi c (Nat.le_refl _)) (by decide) hkw2 (HFO.out.xs.co' HQ6.out hkw2)
            go_roundg (nc-(c+1))
            case measure=>have:=HM.out;omega
            case rel=>exact⟨c+1,by push_cast;rfl,hcn,rfl,hst⟩
       ·obtain rfl:nc=c:=by omega
        have q1:¬((nc:Int)<(nc:Int)):=by omega
        have hxf0:=HFO.out
        go_upto_region 35 with fail
        clear q1 k1 HFO HM hcn hc hF
        go_loopg [18] x.rf.length (fun mm s wr=>RfR lx w5.heap.size w6.heap.size gx nc w8 #[.int .i64 (nc:Int),.slice Qx.ae x.events.length Qx.ce,.slice Qx.af x.rf.length Qx.cf,.slice Qx.ao Qx.no Qx.co,.slice Qx.am x.rmw.length Qx.cm,.slice none 0 0,.slice none 0 0,.slice none 0 0,.slice Qx.ac x.cells.length Qx.cc,.slice Qx.au Qx.nu Qx.cu,.slice Qx.ah x.ths.length Qx.ch,.int .i64 (x.used:Int)] Qx x mm s wr)
        case atStart=>exact⟨0,rfl,Nat.zero_le _,rfl,hxf0⟩
        case round =>
         obtain⟨i,rfl,hi,hmm,hF⟩:=hrel
         have HM:=Lib.hid hmm
         have HF:=Lib.hid hF
         have k1:wr.cell? ⟨gx,2,none⟩=some (.slice Qx.af x.rf.length Qx.cf):=Blk.cell hF.blk 2
         obtain⟨L,hL,hown⟩:=hF.xs.rf
         have HL:=Lib.hid hL
         clear hmm hF hL hxf0
         by_cases hke:i<x.rf.length
         ·have q1:(i:Int)<(x.rf.length:Int):=by omega
          have q2:(0:Int)≤(i:Int):=by omega
          obtain⟨ge,hge,_,_,_,hfz,hlc⟩:=LawW.row_at hown (by omega)
          obtain⟨e,hee⟩:∃e,L[i]?=some e:=⟨_,Kit.eG (by have:=HL.out;omega)⟩
          have f0:wr.cell? ⟨ge,i*2,none⟩=some (RunW.i64V e.1):=hlc (i*2) _ (NewW.flat_get RunW.pairC 2 (fun _=>rfl) L i 0 e hee (by omega))
          have f1:wr.cell? ⟨ge,i*2+1,none⟩=some (RunW.i64V e.2):=hlc (i*2+1) _ (NewW.flat_get RunW.pairC 2 (fun _=>rfl) L i 1 e hee (by omega))
          unfold RunW.i64V at f0 f1
          have HGE:=Lib.hid hge
          have HOW:=Lib.hid hown
          have z:=fun o=>hfz o
          rw[hge]at k1
          clear hlc hee hge hown hfz
          go_wp2_with fail
          have hev:XF lx w5.heap.size w6.heap.size gx w8 (wr.setCells ge (i*2) (RunW.pairC (97,97))) #[.int .i64 (nc:Int),.slice Qx.ae x.events.length Qx.ce,.slice Qx.af x.rf.length Qx.cf,.slice Qx.ao Qx.no Qx.co,.slice Qx.am x.rmw.length Qx.cm,.slice none 0 0,.slice none 0 0,.slice none 0 0,.slice Qx.ac x.cells.length Qx.cc,.slice Qx.au Qx.nu Qx.cu,.slice Qx.ah x.ths.length Qx.ch,.int .i64 (x.used:Int)] Qx x nc 0:=by
           have hown:=HOW.out
           have hge:=HGE.out
           have hk:KeptS (fun k=>(Value.slice Qx.af x.rf.length Qx.cf).ownBlock=some k) wr (wr.setCells ge (i*2) (RunW.pairC (97,97))):=by
            rw[hge]
            exact(setCells_kept _ _ _).mono (fun k h=>by rw[h];rfl)
           have hseg:(wr.setCells ge (i*2) (RunW.pairC (97,97))).ownsRow lx 51 2 (.slice Qx.af x.rf.length Qx.cf) x.rf.length ((L.set i (97,97)).flatMap RunW.pairC):=by
            rw[hge]at hown ⊢
            exact own_seg RunW.pairC (fun _=>rfl) hown (by have:=HL.out;omega) _
           exact HF.out.step (show w6.ownsRow lx 51 2 (.slice Qx.af x.rf.length Qx.cf) x.rf.length (x.rf.flatMap RunW.pairC)from HQ6.out.q.rf) hlx hown (by decide) hk (HF.out.xs.rf' (by rw[List.length_set];exact HL.out) hseg hk)
          go_roundg (x.rf.length-(i+1))
          case measure=>have:=HM.out;omega
          case rel=>exact⟨i+1,by push_cast;rfl,hke,rfl,hev⟩
         ·obtain rfl:i=x.rf.length:=by omega
          have q1:¬((x.rf.length:Int)<(x.rf.length:Int)):=by omega
          have hxf0:=HF.out
          go_upto_region 39 with fail
          clear hown q1 k1 HF HL HM hke hi
          go_loopg [19] x.cells.length (fun mm s wr=>FiR lx w5.heap.size w6.heap.size gx nc w8 #[.int .i64 (nc:Int),.slice Qx.ae x.events.length Qx.ce,.slice Qx.af x.rf.length Qx.cf,.slice Qx.ao Qx.no Qx.co,.slice Qx.am x.rmw.length Qx.cm,.slice none 0 0,.slice none 0 0,.slice none 0 0,.slice Qx.ac x.cells.length Qx.cc,.slice Qx.au Qx.nu Qx.cu,.slice Qx.ah x.ths.length Qx.ch,.int .i64 (x.used:Int)] Qx x mm s wr)
          case atStart=>exact⟨0,rfl,Nat.zero_le _,rfl,hxf0⟩
          case round =>
           obtain⟨i,rfl,hi,hmm,hF⟩:=hrel
           have HM:=Lib.hid hmm
           have HF:=Lib.hid hF
           have k1:wr.cell? ⟨gx,8,none⟩=some (.slice Qx.ac x.cells.length Qx.cc):=Blk.cell hF.blk 8
           obtain⟨xs,hown⟩:=hF.xs.cells
           clear hmm hF hxf0
           by_cases hke:i<x.cells.length
           ·have q1:(i:Int)<(x.cells.length:Int):=by omega
            have q2:(0:Int)≤(i:Int):=by omega
            obtain⟨ge,hge,_,_,_,hfz,hlc⟩:=LawW.row_at hown (by omega)
            obtain⟨u,hu⟩:∃u,xs[i]?=some u:=⟨_,Kit.eG (by have:=hown.1;omega)⟩
            have f0:=hlc i u hu
            have HGE:=Lib.hid hge
            have HOW:=Lib.hid hown
            have z:=hfz i
            rw[hge]at k1
            clear hlc hu hge hown hfz
            go_wp2_with fail
            have hev:XF lx w5.heap.size w6.heap.size gx w8 (wr.setCell ⟨ge,i,none⟩ (.int .u64 96)) #[.int .i64 (nc:Int),.slice Qx.ae x.events.length Qx.ce,.slice Qx.af x.rf.length Qx.cf,.slice Qx.ao Qx.no Qx.co,.slice Qx.am x.rmw.length Qx.cm,.slice none 0 0,.slice none 0 0,.slice none 0 0,.slice Qx.ac x.cells.length Qx.cc,.slice Qx.au Qx.nu Qx.cu,.slice Qx.ah x.ths.length Qx.ch,.int .i64 (x.used:Int)] Qx x nc 0:=by
             have hown:=HOW.out
             have hge:=HGE.out
             have hk:KeptS (fun k=>(Value.slice Qx.ac x.cells.length Qx.cc).ownBlock=some k) wr (wr.setCell ⟨ge,i,none⟩ (.int .u64 96)):=by
              rw[hge]
              exact(KeptS.refl (fun k=>(Value.slice (some ⟨ge,0,none⟩) x.cells.length Qx.cc).ownBlock=some k) wr).set rfl _ _
             have hseg:(wr.setCell ⟨ge,i,none⟩ (.int .u64 96)).ownsRow lx 40 1 (.slice Qx.ac x.cells.length Qx.cc) x.cells.length (xs.set i (.int .u64 96)):=by
              rw[hge]at hown ⊢
              exact OwnR.own_set hown (by have:=hown.1;omega) _
             exact HF.out.step (show w6.ownsRow lx 40 1 (.slice Qx.ac x.cells.length Qx.cc) x.cells.length (x.cells.map u64V)from HQ6.out.q.cells) hlx hown (by decide) hk (HF.out.xs.cells' HQ6.out hseg hk)
            go_roundg (x.cells.length-(i+1))
            case measure=>have:=HM.out;omega
            case rel=>exact⟨i+1,by push_cast;rfl,hke,rfl,hev⟩
           ·obtain rfl:i=x.cells.length:=by omega
            have q1:¬((x.cells.length:Int)<(x.cells.length:Int)):=by omega
            have hxf0:=HF.out
            go_upto_region 43 with fail
            clear hown q1 k1 HF HM hke hi
            go_loopg [20] x.outs.length (fun mm s wr=>OuR lx w5.heap.size w6.heap.size gx nc w8 #[.int .i64 (nc:Int),.slice Qx.ae x.events.length Qx.ce,.slice Qx.af x.rf.length Qx.cf,.slice Qx.ao Qx.no Qx.co,.slice Qx.am x.rmw.length Qx.cm,.slice none 0 0,.slice none 0 0,.slice none 0 0,.slice Qx.ac x.cells.length Qx.cc,.slice Qx.au Qx.nu Qx.cu,.slice Qx.ah x.ths.length Qx.ch,.int .i64 (x.used:Int)] Qx x mm s wr)
            case atStart=>exact⟨0,rfl,Nat.zero_le _,rfl,hxf0⟩
            case round =>
             obtain⟨c,rfl,hc,hmm,hF⟩:=hrel
             have HM:=Lib.hid hmm
             have HFO:=Lib.hid hF
             have k1:wr.cell? ⟨gx,9,none⟩=some (.slice Qx.au x.outs.length Qx.cu):=by rw[←HNUE.out];exact Blk.cell hF.blk 9
             clear hmm hxf0
             by_cases hcn:c<x.outs.length
             ·have q1:(c:Int)<(x.outs.length:Int):=by omega
              have q2:(0:Int)≤(c:Int):=by omega
              obtain⟨L,hL⟩:∃L,L=(x.outs.getD c []).length:=⟨_,rfl⟩
              have hLl:L≤1000:=by rw[hL];have:=HOL.out c;omega
              have hrow:=hF.xs.outi c (Nat.le_refl _)
              rw[←hL]at hrow
              obtain⟨Ar,cr,hvr,_⟩:=OwnR.own_slice hrow
              obtain⟨gco,hgco,_,_,_,_,hcc⟩:=LawW.row_at (HNUO wr hF.xs.outs) (by have:=HUIL.out;omega)
              have kct:=hcc c (.slice Ar L cr) (by
               rw[←hvr]
               show Qx.outi[c]?=some (Qx.outi.getD c RunW.nilV)
               rw[Kit.gD,Kit.eG (by have:=HUIL.out;omega)]
               rfl)
              rw[hvr]at hrow
              have HROW:=Lib.hid hrow
              have HVR:=Lib.hid hvr
              have HGCO:=Lib.hid hgco
              have HLXO:Hid (lx≤wr.heap.size):=Lib.hid (Nat.le_trans HLX.out hF.fr.size)
              rw[hgco]at k1
              clear hL hrow hvr hcc hgco hF
              obtain⟨wo,hwo⟩:∃wo:World,wo=wr:=⟨_,rfl⟩
              rw[←hwo]at HROW HLXO HFO k1 kct ⊢
              clear hwo
              go_upto_region 47 with fail
              clear kct k1 q1 q2
              go_loopg [22] L (fun mm s wr=>RowI lx 40 (.slice Ar L cr) L wo mm s wr)
              case atStart=>exact⟨0,_,rfl,Nat.zero_le _,rfl,HROW.out,KeptS.refl _ _⟩
              case round =>
               obtain⟨j,xs,rfl,hj,hmm,hown,hkj⟩:=hrel
               have HMJ:=Lib.hid hmm
               have HKJ:=Lib.hid hkj
               have HOJ:=Lib.hid hown
               clear hmm hkj
               by_cases hjl:j<L
               ·have j1:(j:Int)<(L:Int):=by omega
                have j2:(0:Int)≤(j:Int):=by omega
                obtain⟨gl,hgl,_,_,_,hfz,hlc⟩:=LawW.row_at hown (by omega)
                obtain⟨u,hu⟩:∃u,xs[j]?=some u:=⟨_,Kit.eG (by have:=hown.1;omega)⟩
                have kj:=hlc j u hu
                have hf:=hfz j
                have HGL:=Lib.hid hgl
                subst hgl
                clear hfz hlc hu hown
                go_wp2_with fail
                have hown':=OwnR.own_set HOJ.out (j:=j) (by have:=HOJ.out.1;omega) (Value.int .u64 95)
                have hkj':KeptS (fun k=>(Value.slice (some ⟨gl,0,none⟩) L cr).ownBlock=some k) wo (wr.setCell ⟨gl,j,none⟩ (Value.int .u64 95)):=HKJ.out.set rfl _ _
                go_roundg (L-(j+1))
                case measure=>have:=HMJ.out;omega
                case rel=>exact⟨j+1,_,by push_cast;rfl,hjl,rfl,hown',hkj'⟩
               ·obtain rfl:j=L:=by omega
                have j1:¬((j:Int)<(j:Int)):=by omega
                obtain⟨wp,hwp⟩:∃wp:World,wp=wr:=⟨_,rfl⟩
                rw[←hwp]at HOJ HKJ
                go_upto_region 51 with fail
                rw[←hwp]
                clear hown j1 hj HMJ hjl hwp
                go_loopg [21,23] 4 (fun mm sl s wr=>RowK lx 40 (.slice Ar j cr) j wp mm sl s wr)
                case atStart=>exact⟨0,Ar,cr,xs,rfl,rfl,by omega,rfl,HOJ.out,fun k hk=>.inl hk,KeptS.refl _ _⟩
                case round =>
                 obtain⟨i,A2,c2,ys,rfl,rfl,hi4,hmm,hown,hat0,hkk⟩:=hrel
                 have HMI:=Lib.hid hmm
                 have HAT0:=Lib.hid hat0
                 have HKK:=Lib.hid hkk
                 clear hmm hat0 hkk
                 by_cases hil:i<4
                 ·have j1:(i:Int)<4:=by omega
                  have hba:Below wr.heap.size wr (wr.alloc (.cells #[Value.int .u64 94] 40)):=Kit.bl1
                  have hNa:Blk (wr.alloc (.cells #[Value.int .u64 94] 40)) wr.heap.size 40 (List.toArray [Value.int .u64 94]):=Blk.new _ _ _
                  have HOW:=Lib.hid (RunW.own_below hown hba)
                  have hlxr:lx≤(wr.alloc (.cells #[Value.int .u64 94] 40)).heap.size:=by have:=HKK.out.size;have:=HKJ.out.size;have:=hba.size;have:=HLXO.out;omega
                  have hsz1:=HKK.out.size
                  have hsz2:=hba.size
                  clear hown
                  go_wp2_with (at_builtin;refine wpList_append_lies _ (by rfl) _ _ _ (by rfl) lx 40 i0 _ 1 8 Tryz.underlying32 hi0 hz0 hz1 hz2 rfl (by omega) _ (j+i) _ (by rfl) HOW.out ⟨wr.heap.size,0,none⟩ 1 1 [Value.int .u64 94] (by rfl) rfl (RunW.news_one hNa) (RunW.one_one rfl) (by omega) (by omega) (by omega) hlxr _ rfl ?_;intro g8 cap8 w9 hown8 hgrow8 hat8 hlt8)
                  have hk8:KeptS (fun k=>(Value.slice Ar j cr).ownBlock=some k) wp w9:=by
                   have h1:=HKK.out.trans (KeptS.of_below hba)
                   refine⟨hgrow8.os.trans h1.1,hgrow8.tape.trans h1.2.1,hgrow8.output.trans h1.2.2.1,Nat.le_trans h1.size hgrow8.size,fun k hk hn=>(hgrow8.block k (Nat.lt_of_lt_of_le hk h1.size) (fun e=>?_)).trans (h1.2.2.2.2 k hk hn)⟩
                   rcases HAT0.out k e.symm with h2 | h2
                   ·exact hn h2
                   ·omega
                  go_roundg (4-(i+1))
                  case measure=>have:=HMI.out;omega
                  case rel =>
                   refine⟨i+1,some ⟨g8,0,none⟩,cap8,_,rfl,by push_cast;rfl,hil,rfl,hown8,fun k hk=>?_,hk8⟩
                   obtain rfl:g8=k:=by simpa [Value.ownBlock]using hk
                   rcases hat8 with h2 | h2
                   ·exact HAT0.out g8 h2
                   ·right;omega
                 ·obtain rfl:i=4:=by omega
                  have j1:¬((4:Int)<4):=by omega
                  have hkw:KeptS (fun k=>(Value.slice Ar j cr).ownBlock=some k) wo wr:=HKJ.out.trans HKK.out
                  clear hown
                  go_wp2_with fail
                  have hkw2:=hkw
                  rw[←HVR.out]at hkw2
                  have hst:XF lx w5.heap.size w6.heap.size gx w8 wr #[.int .i64 (nc:Int),.slice Qx.ae x.events.length Qx.ce,.slice Qx.af x.rf.length Qx.cf,.slice Qx.ao Qx.no Qx.co,.slice Qx.am x.rmw.length Qx.cm,.slice none 0 0,.slice none 0 0,.slice none 0 0,.slice Qx.ac x.cells.length Qx.cc,.slice Qx.au Qx.nu Qx.cu,.slice Qx.ah x.ths.length Qx.ch,.int .i64 (x.used:Int)] Qx x nc (c+1):=HFO.out.step (HQ6.out.q.outi c) hlx (HFO.out.xs.outi c (Nat.le_refl _)) (by decide) hkw2 (HFO.out.xs.outs' HQ6.out hkw2)
                  go_roundg (x.outs.length-(c+1))
                  case measure=>have:=HM.out;omega
                  case rel=>exact⟨c+1,by push_cast;rfl,hcn,rfl,hst⟩
             ·obtain rfl:x.outs.length=c:=by omega
              have q1:¬((x.outs.length:Int)<(x.outs.length:Int)):=by omega
              have hxf0:=HFO.out
              go_upto_region 54 with fail
              clear q1 k1 HFO HM hcn hc hF
              have HXF:=Lib.hid hxf0
              have hfr:=hxf0.fr
              have hb5r:Below w5.heap.size w5 wr:=NewW.kept_below HB58.out hfr (fun j hj=>hj.1)
              have hbwr:Below w.heap.size w wr:=HBW5.out.trans (hb5r.mono HBW5.out.size)
              have hYr:=hfr.blk hY8 (fun h=>by omega)
              have hQyr:LawW.PlayQ ly wr Qy x:=playQ_keep hQ8 hfr (fun k hk=>Nat.lt_of_lt_of_le hk.2 hly)
              have HS3:Hid (Calls Tryz.prog 9 #[.agg #[.int .i64 p.cells,.slice B p.threads.length cB],.slice A picks.length cA,.int .i64 1000] wr fun e w'=>LawW.SrcOk3 nc x wr e w'):=Lib.hid (by
               refine(RunW.Source_any3 p hv _ hlen picks (by omega) 1000 (by omega) wr (HT.out.below hbwr) A cA (LawW.ints_below HI.out HA.out hbwr) (fun ad had=>Nat.lt_of_lt_of_le (HA.out ad had) hbwr.size)).mono fun e w' h=>?_
               rw[HNC.out]
               exact LawW.source_ok3 HSS.out h)
              have hsz5r:=hb5r.size
              have hPr:=HP5.out.below' hb5r
              have s0:wr.cell? ⟨w.heap.size,0,none⟩=some (.int .i64 p.cells):=hPr.cell 0
              have s1:wr.cell? ⟨w.heap.size,1,none⟩=some (.slice B p.threads.length cB):=hPr.cell 1
              clear hxf0 hX8 hY8 hQ8 hfr
              go_upto_region 55 with (go_at_call 9;refine HS3.out.mono ?_;rintro e wu ⟨hbru,Qz,rfl,hQz⟩)
              obtain⟨wz,hwz⟩:∃yy:World,yy=wu.alloc (.cells #[.int .i64 (nc:Int),.slice Qz.ae x.events.length Qz.ce,.slice Qz.af x.rf.length Qz.cf,.slice Qz.ao Qz.no Qz.co,.slice Qz.am x.rmw.length Qz.cm,.slice none 0 0,.slice none 0 0,.slice none 0 0,.slice Qz.ac x.cells.length Qz.cc,.slice Qz.au Qz.nu Qz.cu,.slice Qz.ah x.ths.length Qz.ch,.int .i64 (x.used:Int)] 36):=⟨_,rfl⟩
              have hbuz:Below wu.heap.size wu wz:=by rw[hwz];exact Kit.bl1
              have hZz:Blk wz wu.heap.size 36 #[.int .i64 (nc:Int),.slice Qz.ae x.events.length Qz.ce,.slice Qz.af x.rf.length Qz.cf,.slice Qz.ao Qz.no Qz.co,.slice Qz.am x.rmw.length Qz.cm,.slice none 0 0,.slice none 0 0,.slice none 0 0,.slice Qz.ac x.cells.length Qz.cc,.slice Qz.au Qz.nu Qz.cu,.slice Qz.ah x.ths.length Qz.ch,.int .i64 (x.used:Int)]:=by rw[hwz];exact Blk.new _ _ _
              rw[←hwz]
              clear hwz s0 s1 hPr HS3
              have hbrz:Below wr.heap.size wr wz:=hbru.trans (hbuz.mono hbru.size)
              have hb5z:Below w5.heap.size w5 wz:=hb5r.trans (hbrz.mono hb5r.size)
              have hbwz:Below w.heap.size w wz:=hbwr.trans (hbrz.mono hbwr.size)
              have hYz:=hYr.below' hbrz
              have hQyz:=hQyr.below hbrz
              have hQzz:=hQz.q.below hbuz
              have hDz:=HD5.out.below' hb5z
              have hRz:=HR5.out.below hb5z
              have hgz:wr.heap.size≤wu.heap.size:=hbru.size
              generalize wu.heap.size=gz at *
              have HRE1:Hid (r.events=x.events):=Lib.hid (by rw[HRR.out];rfl)
              have HRE2:Hid (r.rf=x.rf):=Lib.hid (by rw[HRR.out];rfl)
              have HRE3:Hid (r.rmw=x.rmw):=Lib.hid (by rw[HRR.out];rfl)
              have HG1:=Lib.hid (Graph_any hncl hRz HRE1.out HRE2.out HRE3.out HRI.out HRN.out hle HMW.out hQyz)
              rw[HRD.out]at HG1
              obtain⟨y0,y1,y2,y3,y4,y5,y6,y7,y8,y9,y10,y11⟩:=Kit.cells12 hYz
              obtain⟨d0,d1,d2,d3,d4,d5,d6,d7,d8,d9⟩:=Kit.cells10 hDz
              have HQY:=Lib.hid hQyz
              have HQZ:=Lib.hid hQzz
              have HRZ:=Lib.hid hRz
              have HYZ:=Lib.hid hYz
              have HDZ:=Lib.hid hDz
              have HZZ:=Lib.hid hZz
              have HBZ:=Lib.hid hbwz
              clear hYz hQyz hQzz hDz hRz hZz hbwz hYr hQyr hQz hb5z hbrz hbuz hbru hb5r hbwr
              have hths2:x.ths.length≤1048576:=by rw[HTHS.out];exact hlen
              go_wp2_with (first
               |(go_at_call 12;refine HG1.out.mono ?_;rintro e wg ⟨rfl,hbg⟩;clear HG1 y0 y1 y2 y3 y4 y5 y6 y7 y8 y9 y10 y11 d0 d1 d2 d3 d4 d5 d6 d7 d8 d9;have hYg:=HYZ.out.below' hbg;have hDg:=HDZ.out.below' hbg;have hZg:=HZZ.out.below' hbg;have hQyg:=HQY.out.below hbg;have hQzg:=HQZ.out.below hbg;have hRg:=HRZ.out.below hbg;have hbwg:=HBZ.out.trans (hbg.mono HBZ.out.size);rw[HRR.out]at hRg;have HG2:=Lib.hid (Seen_any mzL_len mzL_one hncl hRg HRI.out HRN.out hle hus hths2 hQyg (fun k q hk=>by have:=(HWD.out k q hk).2;omega));rw[←HRR.out,HRD.out]at HG2;unfold LawW.playX at HG2;obtain⟨y0,y1,y2,y3,y4,y5,y6,y7,y8,y9,y10,y11⟩:=Kit.cells12 hYg;obtain⟨d0,d1,d2,d3,d4,d5,d6,d7,d8,d9⟩:=Kit.cells10 hDg;have HDG:=Lib.hid hDg;have HZG:=Lib.hid hZg;have HQG:=Lib.hid hQzg;have HBG:=Lib.hid hbwg;have HSG:=Lib.hid hbg.size;clear hYg hDg hZg hQyg hQzg hRg hbwg hbg)
               |(go_at_call 13;refine HG2.out.mono ?_;rintro e ws ⟨rfl,who2,l2,r2,hR2,⟨hq1,hq2,hq3,hq4⟩,_,hks⟩;clear HG2 y0 y1 y2 y3 y4 y5 y6 y7 y8 y9 y10 y11 d0 d1 d2 d3 d4 d5 d6 d7 d8 d9;have hDs:=hks.blk HDG.out (fun h=>h (by cases hw:who gD with | none=>rfl | some q=>exact absurd (HWD.out gD q hw).2 (Nat.lt_irrefl _)));have hZs:=hks.blk HZG.out (fun h=>h (by cases hw:who gz with | none=>rfl | some q=>exact absurd (HWD.out gz q hw).2 (by omega)));have hQs:=playQ_keep HQG.out hks (fun k hk=>by cases hw:who k with | none=>exact absurd hw hk | some q=>(have:=(HWD.out k q hw).2;omega));have hbws:=NewW.kept_below HBG.out hks (fun k hk=>by cases hw:who k with | none=>exact absurd hw hk | some q=>(have h1:=(HWD.out k q hw).1;exact Nat.le_trans HBW3.out h1));have HG3:=Lib.hid (Graph_any hncl hR2 hq1 hq2 hq3 HRI.out HRN.out hle HMW.out hQs);rw[show runD nc (V.wT l2) r2=#[.bool false,.int .i64 nc,.slice aT V.tcs.length cT,.slice ae r.events.length ce,.slice af r.rf.length cf,.slice am r.rmw.length cm,.slice ao V.vo.length co,.slice al r.log.length cl,.slice ap r.picks.length cp,.int .i64 r.used]from(by rw[←HRD.out];unfold runD DV.wT;rw[hq4,HRR.out];rfl)]at HG3;obtain⟨z0,z1,z2,z3,z4,z5,z6,z7,z8,z9,z10,z11⟩:=Kit.cells12 hZs;obtain⟨d0,d1,d2,d3,d4,d5,d6,d7,d8,d9⟩:=Kit.cells10 hDs;have HBS:=Lib.hid hbws;clear hDs hZs hQs hbws hR2 hks hq1 hq2 hq3 hq4)
               |(go_at_call 12;refine HG3.out.mono ?_;rintro e wh ⟨rfl,hbh⟩;have hbwh:=HBS.out.trans (hbh.mono HBS.out.size)))
              go_ret
              exact⟨rfl,hbwh⟩
end Go.Proofs.YtmjilfamjlnigaaGreat.RefW
