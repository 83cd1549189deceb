/- WALKS: a thread is fed. -/
import Derived.Test.YtmjilfamjlnigaaGreatQ24
import Derived.Test.YtmjilfamjlnigaaGreatQ13
import Derived.Test.YtmjilfamjlnigaaGreatQ23
namespace Go.Proofs.YtmjilfamjlnigaaGreat.MchW
open Go Go.RowKit Kit SrcP SrcW
set_option maxRecDepth 100000 in
set_option maxHeartbeats 0 in
theorem Feed_any {w:World} {g gl nl cells:Nat} {tl:Int} {va:Value} {m:Mch} (h:MachM w g gl tl va nl m) (hok:MchOk cells nl m) (hask:m.asked=true) (hw5:m.now.what≠5) (hw6:m.now.what≠6) (v:Nat) (_hv:v<M64) :
  Calls Tryz.prog 214 #[.pointer (some ⟨g,0,none⟩),.int .u64 v] w fun r w'=>r=.returned (.int .i64 0)∧MachM w' g gl tl va nl (feedS m v)∧KeptS (MS g gl) w w':=by
 obtain⟨a,ha,hown,hnow⟩:=hok.now hask hw5 hw6
 have hW:=hok.toMchW
 have haw:=hW.well ha
 have hat:m.at_≤65536:=Nat.le_trans hW.at_ hW.alen
 have hop:=haw.parts.1
 have hno:¬(a.op=1∨a.op=9∨a.op=10):=by
  simp only[ownB,Bool.or_eq_false_iff,beq_eq_false_iff_ne]at hown
  omega
 have hg1:=h.blk.lt
 have hg2:=h.loc.lt
 have hgl:=h.ne
 have HA:=Lib.hid ha
 have HNOW:=Lib.hid hnow
 have HOK:=Lib.hid hok
 generalize hms:feedS m v=ms at *
 have HMS:=Lib.hid hms
 have k10:w.cell? ⟨g,10,none⟩=some (.bool true):=by rw[←hask];exact h.blk.cell 10
 have k4:w.cell? ⟨g,4,none⟩=some (.int .i64 m.now.what):=h.blk.cell 4
 have q5:(m.now.what == 5)=false:=by simp[hw5]
 have q6:(m.now.what == 6)=false:=by simp[hw6]
 have mf:=fun i=>h.blk.frozen i
 obtain⟨A,c,rfl,_⟩:=h.acts
 generalize hL:m.acts.length=L at *
 have HLL:=Lib.hid hL
 clear hms hnow ha hL hok
 go_enter Tryz.func214,Tryz.ntmps214
 go_upto_region 4 with fail
 have hM1:=h.asked false
 have hK1:KeptS (MS g gl) w (w.setCell ⟨g,10,none⟩ (.bool false)):=(KeptS.refl _ w).set (.inl rfl) 10 (.bool false)
 generalize w.setCell ⟨g,10,none⟩ (.bool false)=w1 at *
 clear k10 k4 q5 q6 mf
 have HACT:=Lib.hid (act_any hM1 (by have:=hW.alen;have:=HLL.out;exact hW.alen) a HA.out)
 unfold actC at HACT
 go_upto_region 5 with (go_at_call 216;refine HACT.out.mono ?_;rintro e w3 ⟨I,E,F,li,ci,le,ce,lf,cf,rfl,hav,hb3⟩)
 obtain⟨w4,hw4⟩:∃x,x=w3.alloc (.cells #[.int .i64 a.op,.int .i64 a.dst,.int .i64 a.base,.int .i64 a.size,.slice I li ci,.slice E le ce,.slice F lf cf,.int .i64 a.mode,.int .i64 a.to,.int .i64 a.line,.int .i64 a.col] 58):=⟨_,rfl⟩
 have hb4:Below w1.heap.size w1 w4:=by rw[hw4];exact Kit.Below.al hb3 _
 have hb34:Below w3.heap.size w3 w4:=by rw[hw4];exact Kit.bl1
 have hA4:Blk w4 w3.heap.size 58 #[.int .i64 a.op,.int .i64 a.dst,.int .i64 a.base,.int .i64 a.size,.slice I li ci,.slice E le ce,.slice F lf cf,.int .i64 a.mode,.int .i64 a.to,.int .i64 a.line,.int .i64 a.col]:=by rw[hw4];exact Blk.new _ _ _
 have hM4:=hM1.below hb4
 have hK4:=hK1.trans (KeptS.of_below hb4)
 have hav4:=hav.still (Still.below hb34)
 have hga:w.heap.size≤w3.heap.size:=Nat.le_trans hK1.size hb3.size
 rw[←hw4]
 generalize w3.heap.size=ga at *
 clear hw4 hb3 hav hb34 hM1 hK1 HACT h hb4
 have n4:w4.cell? ⟨g,4,none⟩=some (.int .i64 m.now.what):=hM4.blk.cell 4
 have n8:w4.cell? ⟨g,8,none⟩=some (.bool m.now.ex):=hM4.blk.cell 8
 have n12:w4.cell? ⟨g,12,none⟩=some (.bool m.opn):=hM4.blk.cell 12
 have hc:(a.op=4∨a.op=5∨a.op=6)∨a.op=2∨(a.op=3∨a.op=7∨a.op=8):=by omega
 rcases hc with hp | h2 | h3
 ·have hds:=haw.dst (by unfold hasDst;rcases hp with e | e | e <;> simp[e])
  obtain⟨d,hd⟩:=Int.eq_ofNat_of_zero_le hds.1
  have hdn:d<nl:=by omega
  have hdl:d<m.locals.length:=by have:=hW.len;omega
  have hnl24:=hW.hnl
  have hwp:=wants_pair (m:=m) hp
  rw[←HNOW.out]at hwp
  obtain⟨hex,hwh⟩:=hwp
  rw[hex]at n8
  rw[hd]at hA4
  cases ho:m.opn with
  | true =>
   rw[ho]at n12 hwh
   rw[if_pos rfl]at hwh
   rw[hwh]at n4
   have HMS3:Hid (ms = { m with asked:=false,opn:=false,locals:=m.locals.set d m.old,at_:=m.at_+1 }):=Lib.hid (by
    rw[←HMS.out]
    unfold feedS
    rw[HA.out]
    simp[hwh,hex,ho,hd])
   have n11:w4.cell? ⟨g,11,none⟩=some (.int .u64 m.old):=hM4.blk.cell 11
   have mf:=fun i=>hM4.blk.frozen i
   have b1:(0:Int)≤(d:Int):=by omega
   have b2:(d:Int)<(nl:Int):=by omega
   go_upto_region 12 with fail
   have hMq:=hM4.opn false
   have hKq:=hK4.set (g:=g) (.inl rfl) 12 (.bool false)
   have hAq:=hA4.farN (b:=g) (o:=12) (by omega) (.bool false)
   generalize w4.setCell ⟨g,12,none⟩ (.bool false)=w5 at *
   clear n4 n8 n11 n12 mf hM4 hK4 hA4 hav4
   have cl:∀p:Cls (Below w5.heap.size w5),p.w.cell? ⟨g,3,none⟩=some (.slice (some ⟨gl,0,none⟩) nl nl):=fun p=>hMq.blk.cls 3 p
   have c1:∀p:Cls (Below w5.heap.size w5),p.w.cell? ⟨ga,1,none⟩=some (.int .i64 d):=fun p=>hAq.cls 1 p
   refine wp_region_cls_tail (Below w5.heap.size w5) 7 (Below_drewN _ 1) (by kernel_rfl) (by kernel_rfl) ?_
   intro hne
   simp only[List.take_succ_cons,List.take_zero,List.drop_succ_cons,List.drop_zero]
   repeat (go_big_quiet_step ((fail)))
   refine wpQuiet_nil ?_
   intro w7 h7
   clear hne
   clear cl c1
   have hM7:=hMq.below h7
   have hK7:=hKq.trans (KeptS.of_below h7)
   have l7:w7.cell? ⟨gl,d,none⟩=some (u64V m.locals[d]):=by rw[hM7.loc.cell];simp[hdl]
   have lf7:w7.frozen? ⟨gl,d,none⟩=false:=hM7.loc.frozen d
   unfold u64V at l7
   go_upto_region 15 with fail
   have hM6:=hM7.setL d m.old
   have hK6:=hK7.set (g:=gl) (.inr rfl) d (u64V m.old)
   unfold u64V at hM6 hK6
   generalize w7.setCell ⟨gl,d,none⟩ (.int .u64 m.old)=w6 at *
   clear l7 lf7 hM7 hK7 hMq hKq
   have m2:w6.cell? ⟨g,2,none⟩=some (.int .i64 m.at_):=hM6.blk.cell 2
   have mf:=fun i=>hM6.blk.frozen i
   go_wp2_with fail
   have hM8:=hM6.at_ (m.at_+1)
   have hK8:=hK6.set (g:=g) (.inl rfl) 2 (.int .i64 ((m.at_+1:Nat):Int))
   rw[show((m.at_+1:Nat):Int)=(m.at_:Int)+1 by push_cast;rfl]at hM8 hK8
   go_ret
   refine⟨rfl,?_,hK8⟩
   rw[HMS3.out]
   exact hM8
  | false =>
   rw[ho]at n12 hwh
   rw[if_neg (by simp)]at hwh
   rw[hwh]at n4
   have mf:=fun i=>hM4.blk.frozen i
   have n11:w4.cell? ⟨g,11,none⟩=some (.int .u64 m.old):=hM4.blk.cell 11
   go_upto_region 7 with fail
   have hMq:=hM4.old v
   have hKq:=hK4.set (g:=g) (.inl rfl) 11 (.int .u64 v)
   have hAq:=hA4.farN (b:=g) (o:=11) (by omega) (.int .u64 v)
   have havq:=hav4.still (Still.set hM4.blk nTM (o:=11) (.int .u64 v))
   generalize w4.setCell ⟨g,11,none⟩ (.int .u64 v)=w5 at *
   clear n4 n8 n11 n12 mf hM4 hK4 hA4 hav4
   by_cases h6:a.op=6
   ·obtain⟨_,_,hle,_⟩:=havq.here.e
    obtain⟨rfl,rfl,rfl⟩:E=_∧le=a.e.length∧ce=_:=by simpa using hle
    have hval:∀p:Cls (Below w5.heap.size w5),Hid (Calls Tryz.prog 217 #[.slice E a.e.length ce,.slice (some ⟨gl,0,none⟩) nl nl] p.w fun e w'=>e=.returned (.int .u64 (value a.e m.locals:Nat))∧∃q:Cls (Below w5.heap.size w5),w'=q.w) :=
     fun p=>Calls.cls ((val_anyL (hMq.below p.h) m.locals rfl hW.lt hW.len a.e (havq.still (Still.below p.h)).here.e (haw.e (by simp[hasE,h6]))).mono fun e w' ⟨h1,h2⟩=>⟨h1,Kit.Below.then p.h h2⟩)
    have c0:∀p:Cls (Below w5.heap.size w5),p.w.cell? ⟨ga,0,none⟩=some (.int .i64 6):=fun p=>by rw[←h6];exact hAq.cls 0 p
    have c5:∀p:Cls (Below w5.heap.size w5),p.w.cell? ⟨ga,5,none⟩=some (.slice E a.e.length ce):=fun p=>hAq.cls 5 p
    have cl:∀p:Cls (Below w5.heap.size w5),p.w.cell? ⟨g,3,none⟩=some (.slice (some ⟨gl,0,none⟩) nl nl):=fun p=>hMq.blk.cls 3 p
    have HMS2:=HMS.out
    unfold feedS at HMS2
    rw[HA.out]at HMS2
    simp only[hwh,hex,ho,h6]at HMS2
    have HMS4:=Lib.hid HMS2
    clear HMS2 hle
    have hvb:((value a.e m.locals:Int) == (v:Int))=(value a.e m.locals == v):=beq_cast _ _
    generalize value a.e m.locals=x at *
    by_cases hx:x=v
    ·have hq:((x:Int) == (v:Int))=true:=by rw[hvb];simp[hx]
     have HMS3:Hid (ms = { m with asked:=false,old:=v,opn:=true }):=Lib.hid (by rw[←HMS4.out];simp[hx])
     clear hvb hx
     refine wp_region_cls (Below w5.heap.size w5) (Below_drewN _ 1) (by kernel_rfl) (by kernel_rfl) ?_
     intro hne
     repeat (go_big_quiet_step ((go_at_call 217;exact(hval _).out)))
     refine wpQuiet_nil ?_
     intro w7 h7
     clear hne
     clear c0 c5 cl hval hq
     have hM6:=hMq.below h7
     have hK6:=hKq.trans (KeptS.of_below h7)
     have n12:w7.cell? ⟨g,12,none⟩=some (.bool m.opn):=hM6.blk.cell 12
     have mf:=fun i=>hM6.blk.frozen i
     go_wp2_with fail
     have hM8:=hM6.opn true
     have hK8:=hK6.set (g:=g) (.inl rfl) 12 (.bool true)
     go_ret
     refine⟨rfl,?_,hK8⟩
     rw[HMS3.out]
     exact hM8
    ·have hq:((x:Int) == (v:Int))=false:=by rw[hvb];simp[hx]
     have HMS3:Hid (ms = { m with asked:=false,old:=v,locals:=m.locals.set d v,at_:=m.at_+1 }):=Lib.hid (by rw[←HMS4.out];simp[hx,hd,ho])
     clear hvb hx
     refine wp_region_cls (Below w5.heap.size w5) (Below_drewN _ 1) (by kernel_rfl) (by kernel_rfl) ?_
     intro hne
     repeat (go_big_quiet_step ((go_at_call 217;exact(hval _).out)))
     refine wpQuiet_nil ?_
     intro w8 h8
     clear hne
     clear c0 c5 cl hval hq
     obtain⟨hMq',hKq',hAq'⟩:=And.intro (hMq.below h8) (And.intro (hKq.trans (KeptS.of_below h8)) (hAq.below' h8))
     clear hMq hKq hAq
     obtain⟨hMq,hKq,hAq⟩:=And.intro hMq' (And.intro hKq' hAq')
     have n4:w8.cell? ⟨g,4,none⟩=some (.int .i64 1):=by rw[←hwh];exact hMq.blk.cell 4
     have n8:w8.cell? ⟨g,8,none⟩=some (.bool true):=by rw[←hex];exact hMq.blk.cell 8
     have n12:w8.cell? ⟨g,12,none⟩=some (.bool false):=by rw[←ho];exact hMq.blk.cell 12
     have b1:(0:Int)≤(d:Int):=by omega
     have b2:(d:Int)<(nl:Int):=by omega
     go_upto_region 14 with fail
     clear n4 n8 n12
     have cl:∀p:Cls (Below w8.heap.size w8),p.w.cell? ⟨g,3,none⟩=some (.slice (some ⟨gl,0,none⟩) nl nl):=fun p=>hMq.blk.cls 3 p
     have c1:∀p:Cls (Below w8.heap.size w8),p.w.cell? ⟨ga,1,none⟩=some (.int .i64 d):=fun p=>hAq.cls 1 p
     refine wp_region_cls_tail (Below w8.heap.size w8) 7 (Below_drewN _ 1) (by kernel_rfl) (by kernel_rfl) ?_
     intro hne
     simp only[List.take_succ_cons,List.take_zero,List.drop_succ_cons,List.drop_zero]
     repeat (go_big_quiet_step ((fail)))
     refine wpQuiet_nil ?_
     intro w7 h7
     clear hne
     clear cl c1
     have hM7:=hMq.below h7
     have hK7:=hKq.trans (KeptS.of_below h7)
     have l7:w7.cell? ⟨gl,d,none⟩=some (u64V m.locals[d]):=by rw[hM7.loc.cell];simp[hdl]
     have lf7:w7.frozen? ⟨gl,d,none⟩=false:=hM7.loc.frozen d
     unfold u64V at l7
     go_upto_region 15 with fail
     have hM6:=hM7.setL d v
     have hK6:=hK7.set (g:=gl) (.inr rfl) d (u64V v)
     unfold u64V at hM6 hK6
     generalize w7.setCell ⟨gl,d,none⟩ (.int .u64 v)=w6 at *
     clear l7 lf7 hM7 hK7 hMq hKq
     have m2:w6.cell? ⟨g,2,none⟩=some (.int .i64 m.at_):=hM6.blk.cell 2
     have mf:=fun i=>hM6.blk.frozen i
     go_wp2_with fail
     have hM8:=hM6.at_ (m.at_+1)
     have hK8:=hK6.set (g:=g) (.inl rfl) 2 (.int .i64 ((m.at_+1:Nat):Int))
     rw[show((m.at_+1:Nat):Int)=(m.at_:Int)+1 by push_cast;rfl]at hM8 hK8
     go_ret
     refine⟨rfl,?_,hK8⟩
     rw[HMS3.out]
     exact hM8
   ·have HMS3:Hid (ms = { m with asked:=false,old:=v,opn:=true }):=Lib.hid (by
     rw[←HMS.out]
     unfold feedS
     rw[HA.out]
     simp[hwh,hex,h6])
    have c0:∀p:Cls (Below w5.heap.size w5),p.w.cell? ⟨ga,0,none⟩=some (.int .i64 a.op):=fun p=>hAq.cls 0 p
    have q6:(a.op == 6)=false:=by simp[h6]
    have q6':(a.op != 6)=true:=by simp[h6]
    refine wp_region_cls (Below w5.heap.size w5) (Below_drewN _ 1) (by kernel_rfl) (by kernel_rfl) ?_
    intro hne
    repeat (go_big_quiet_step ((fail)))
    refine wpQuiet_nil ?_
    intro w7 h7
    clear hne
    clear c0 q6 q6'
    have hM6:=hMq.below h7
    have hK6:=hKq.trans (KeptS.of_below h7)
    have n12:w7.cell? ⟨g,12,none⟩=some (.bool m.opn):=hM6.blk.cell 12
    have mf:=fun i=>hM6.blk.frozen i
    go_wp2_with fail
    have hM8:=hM6.opn true
    have hK8:=hK6.set (g:=g) (.inl rfl) 12 (.bool true)
    go_ret
    refine⟨rfl,?_,hK8⟩
    rw[HMS3.out]
    exact hM8
 ·have hds:=haw.dst (by simp[hasDst,h2])
  obtain⟨d,hd⟩:=Int.eq_ofNat_of_zero_le hds.1
  have hdn:d<nl:=by omega
  have hdl:d<m.locals.length:=by have:=hW.len;omega
  have hnl24:=hW.hnl
  have hwh:m.now.what=1:=by rw[HNOW.out];simp[wantS,h2]
  have hex:m.now.ex=false:=by rw[HNOW.out];simp[wantS,h2]
  have ho:m.opn=false:=hW.notOpen HA.out (by omega)
  rw[hex]at n8
  rw[hd]at hA4
  rw[hwh]at n4
  have HMS3:Hid (ms = { m with asked:=false,locals:=m.locals.set d v,at_:=m.at_+1 }):=Lib.hid (by
   rw[←HMS.out]
   unfold feedS
   rw[HA.out]
   simp[hwh,hex,hd])
  have b1:(0:Int)≤(d:Int):=by omega
  have b2:(d:Int)<(nl:Int):=by omega
  go_upto_region 14 with fail
  clear n4 n8 n12 hav4
  have hMq:=hM4
  have hKq:=hK4
  have hAq:=hA4
  clear hM4 hK4 hA4
  have cl:∀p:Cls (Below w4.heap.size w4),p.w.cell? ⟨g,3,none⟩=some (.slice (some ⟨gl,0,none⟩) nl nl):=fun p=>hMq.blk.cls 3 p
  have c1:∀p:Cls (Below w4.heap.size w4),p.w.cell? ⟨ga,1,none⟩=some (.int .i64 d):=fun p=>hAq.cls 1 p
  refine wp_region_cls_tail (Below w4.heap.size w4) 7 (Below_drewN _ 1) (by kernel_rfl) (by kernel_rfl) ?_
  intro hne
  simp only[List.take_succ_cons,List.take_zero,List.drop_succ_cons,List.drop_zero]
  repeat (go_big_quiet_step ((fail)))
  refine wpQuiet_nil ?_
  intro w7 h7
  clear hne
  clear cl c1
  have hM7:=hMq.below h7
  have hK7:=hKq.trans (KeptS.of_below h7)
  have l7:w7.cell? ⟨gl,d,none⟩=some (u64V m.locals[d]):=by rw[hM7.loc.cell];simp[hdl]
  have lf7:w7.frozen? ⟨gl,d,none⟩=false:=hM7.loc.frozen d
  unfold u64V at l7
  go_upto_region 15 with fail
  have hM6:=hM7.setL d v
  have hK6:=hK7.set (g:=gl) (.inr rfl) d (u64V v)
  unfold u64V at hM6 hK6
  generalize w7.setCell ⟨gl,d,none⟩ (.int .u64 v)=w6 at *
  clear l7 lf7 hM7 hK7 hMq hKq
  have m2:w6.cell? ⟨g,2,none⟩=some (.int .i64 m.at_):=hM6.blk.cell 2
  have mf:=fun i=>hM6.blk.frozen i
  go_wp2_with fail
  have hM8:=hM6.at_ (m.at_+1)
  have hK8:=hK6.set (g:=g) (.inl rfl) 2 (.int .i64 ((m.at_+1:Nat):Int))
  rw[show((m.at_+1:Nat):Int)=(m.at_:Int)+1 by push_cast;rfl]at hM8 hK8
  go_ret
  refine⟨rfl,?_,hK8⟩
  rw[HMS3.out]
  exact hM8
 ·have hwh:m.now.what≠1:=by
   rw[HNOW.out]
   rcases h3 with e | e | e <;> simp[wantS,e]
  have hex:m.now.ex=false:=by
   rw[HNOW.out]
   rcases h3 with e | e | e <;> simp[wantS,e]
  rw[hex]at n8
  have q1:(m.now.what == 1)=false:=by simp[hwh]
  have HMS3:Hid (ms = { m with asked:=false,at_:=m.at_+1 }):=Lib.hid (by
   rw[←HMS.out]
   unfold feedS
   rw[HA.out]
   simp[hwh,hex])
  have hM6:=hM4
  have hK6:=hK4
  clear hM4 hK4 hA4 hav4 n12
  have m2:w4.cell? ⟨g,2,none⟩=some (.int .i64 m.at_):=hM6.blk.cell 2
  have mf:=fun i=>hM6.blk.frozen i
  go_wp2_with fail
  have hM8:=hM6.at_ (m.at_+1)
  have hK8:=hK6.set (g:=g) (.inl rfl) 2 (.int .i64 ((m.at_+1:Nat):Int))
  rw[show((m.at_+1:Nat):Int)=(m.at_:Int)+1 by push_cast;rfl]at hM8 hK8
  go_ret
  refine⟨rfl,?_,hK8⟩
  rw[HMS3.out]
  exact hM8
end Go.Proofs.YtmjilfamjlnigaaGreat.MchW
namespace Go.Proofs.YtmjilfamjlnigaaGreat.RunW
open Go Go.RowKit Kit SrcP SrcW MchW OwnR
def srcX (nc:Nat):Mk Mch where
 T:=118
 nextF:=215
 feedF:=214
 Rep:=fun w S g m=>∃gl tl va nl,MachM w g gl tl va nl m∧MchOk nc nl m∧∀k,S k↔(k=g∨k=gl)
 asked:=fun m=>m.asked=true
 TM:=TA
theorem nextL_asked:∀(k:Nat) (m:Mch),m.asked=true→(nextL k m).asked=true
 | 0,m,h=>by
  unfold nextL
  split
  ·exact h
  ·split <;> exact h
 | k+1,m,h=>by
  unfold nextL
  split
  ·exact h
  ·split
   ·refine nextL_asked k _ ?_
    unfold ownS
    split
    ·exact h
    ·split
     ·exact h
     ·split <;> exact h
   ·exact h
theorem nextS_asked (m:Mch):(nextS m).asked=true:=by
 unfold nextS
 split
 ·rename_i h;exact h.1
 ·exact nextL_asked _ _ rfl
theorem srcM (nc:Nat):MkM (srcX nc) where
 frame:=fun {w w' S g m} h hk hs=>by
  obtain⟨gl,tl,va,nl,hM,hok,hS⟩:=h
  exact⟨gl,tl,va,nl,⟨(hk g ((hS g).2 (.inl rfl))).trans hM.blk,(hk gl ((hS gl).2 (.inr rfl))).trans hM.loc,hM.acts.still hs⟩,hok,hS⟩
 rows:=fun q=>by cases q <;> (show ¬TA (rowT _);simp only[rowT];unfold TA;decide)
 run:=by show ¬TA _;unfold TA;decide
 th:=by show ¬TA _;unfold TA;decide
theorem still_kept {S:Nat→Prop} {w w':World} (hk:KeptS S w w') (hs:∀k,S k→∃t cs,Blk w k t cs∧¬TA t):Still TA w w':=fun k cs t fr hb ht=>by
 by_cases hS:S k
 ·obtain⟨t',cs',hb',hn⟩:=hs k hS
  unfold Blk at hb'
  rw[hb']at hb
  injection hb with hb
  injection hb with _ hb _
  rw[hb]at hn
  exact absurd ht hn
 ·rw[←hb]
  exact hk.2.2.2.2 k (by
   rcases Nat.lt_or_ge k w.heap.size with h1 | h1
   ·exact h1
   ·rw[Array.getElem?_eq_none h1]at hb;cases hb) hS
theorem mach_op {nc g gl nl:Nat} {tl:Int} {va:Value} {w w':World} {S:Nat→Prop} {m m':Mch} (h:MachM w g gl tl va nl m) (hS:∀k,S k↔(k=g∨k=gl)) (h':MachM w' g gl tl va nl m') (hok:MchOk nc nl m') (hk:KeptS (MS g gl) w w'):MOp (srcX nc) w S g m' w':=by
 have hkS:KeptS S w w':=hk.mono (fun k hm=>(hS k).2 hm)
 refine⟨S,fun k hk=>.inl hk,⟨gl,tl,va,nl,h',hok,hS⟩,hkS,still_kept hkS fun k hk=>?_⟩
 rcases (hS k).1 hk with rfl | rfl
 ·exact⟨_,_,h.blk,by unfold TA;decide⟩
 ·exact⟨_,_,h.loc,by unfold TA;decide⟩
theorem now_loc {nc nl:Nat} {m:Mch} (hok:MchOk nc nl m) (ha:m.asked=true) (hw:m.now.what=2):0≤m.now.loc∧m.now.loc<(nc:Int):=by
 obtain⟨a,h1,h2,h3⟩:=hok.now ha (by omega) (by omega)
 have hwell:=hok.toMchW.well h1
 have hop:=hwell.parts.1
 rw[h3]at hw ⊢
 have hpl:a.op=3∨a.op=4∨a.op=5∨a.op=6:=by
  simp only[ownB,Bool.or_eq_false_iff,beq_eq_false_iff_ne]at h2
  unfold wantS at hw
  repeat' split at hw
  all_goals first |(simp at hw;done) | omega
 have hp:=hwell.place (by rcases hpl with h | h | h | h <;> simp[hasPlace,h])
 have hr:=locS_range hp m.locals
 have e:(wantS m a).loc=locS a m.locals:=by
  unfold wantS
  rcases hpl with h | h | h | h <;> simp[h] <;> split <;> rfl
 rw[e]
 exact hr
theorem srcC (nc:Nat) (hnc:nc≤4096) (lse:Bool):MkC (srcX nc) (srcK lse) nc where
 toMkM:=srcM nc
 nextM:=fun g w=>by kernel_rfl
 feedM:=fun g w=>by kernel_rfl
 nextE:=fun args w=>callFunc_enter Tryz.func215 (by kernel_rfl) (by kernel_rfl) args w
 feedE:=fun args w=>callFunc_enter Tryz.func214 (by kernel_rfl) (by kernel_rfl) args w
 want:=by show ¬TA _;unfold TA;decide
 next:=fun {w S g m} h=>by
  obtain⟨gl,tl,va,nl,hM,hok,hS⟩:=h
  refine(Next_any hnc hM hok).mono ?_
  rintro e w' ⟨rfl,hM',hk⟩
  exact⟨rfl,mach_op hM hS hM' (nextS_ok hok) hk⟩
 feed:=fun {w S g m} h ha h1 h4 {v} hv=>by
  obtain⟨gl,tl,va,nl,hM,hok,hS⟩:=h
  have h1':1≤m.now.what:=h1
  have h4':m.now.what≤4:=h4
  refine(Feed_any hM hok ha (by omega) (by omega) v hv).mono ?_
  rintro e w' ⟨rfl,hM',hk⟩
  exact⟨rfl,mach_op hM hS hM' (feedS_ok hok ha (by omega) (by omega) v hv) hk⟩
 asked_next:=nextS_asked
 val:=fun {w S g m} h _=>by
  obtain⟨gl,tl,va,nl,hM,hok,hS⟩:=h
  exact hok.nval
 val2:=fun {w S g m} h ha h1 {v} hv=>by
  obtain⟨gl,tl,va,nl,hM,hok,hS⟩:=h
  have h1':m.now.what=1:=h1
  exact(nextS_ok (feedS_ok hok ha (by omega) (by omega) v hv)).nval
 second:=fun {w S g m} h ha h1 _ _ _ {v} hv h2 _ _=>by
  obtain⟨gl,tl,va,nl,hM,hok,hS⟩:=h
  have h1':m.now.what=1:=h1
  exact now_loc (nextS_ok (feedS_ok hok ha (by omega) (by omega) v hv)) (nextS_asked _) h2
end Go.Proofs.YtmjilfamjlnigaaGreat.RunW
