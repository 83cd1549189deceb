/- What TSO keeps in order has no cycle. -/
import Derived.Test.YtkcdehffcddciaaGreatDoorQ34
namespace Go.Proofs.YtkcdehffcddciaaGreatDoor.Vm
open Go Go.RowKit
def s92 : Sc:=(.seq (.region [Y 1 (.bx 172 (.t 0)) [0],Y 2 (.mv (.c .ns)) []]) (.seq (.region [Y 13 (.fa (.t 1) 0) [1],
 Y 14 (.fa (.t 13) 1) [13],Y 15 (.ld (.t 14)) [14],Y 16 (.len (.t 15)) [15],Y 3 (.mv (.t 16)) [16]])
  (.seq (.region [Y 17 (.fa (.t 1) 0) [1],Y 18 (.lds (.t 17) 8) [17],
 Y 19 (.bs 3 2 1 [.i .i64 0] [(0,1,.c (.i .i64 5)),(1,1,.c (.i .i64 15))]) [],
 Y 20 (.call 159 [.t 18,.t 19]) [18,19],Y 4 (.mv (.t 20)) [20]]) (.seq (.region [Y 21 (.mv (.t 3)) [3],
 Y 22 (.ms 4 1 1 [.b false] (.t 21) (.t 21)) [21,21],Y 5 (.mv (.t 22)) [22]])
  (.seq (.seq (.region [Y 23 (.mv (.t 3)) [3],Y 24 (.mv (.c (.i .i64 0))) []])
  (.block 0 (.loop (.seq (.region [Y 25 (.ar .lss (.t 24) (.t 23)) [24,23]])
  (.seq (.cond (.t 25) .skip (.exit 0)) (.seq (.block 1 (.seq (.region [Y 26 (.mv (.t 24)) [24],
 Y 6 (.mv (.t 26)) [26]]) (.seq (.region [Y 27 (.mv (.t 4)) [4],Y 28 (.mv (.t 6)) [6],Y 29 (.mv (.t 4)) [4],
 Y 30 (.mv (.t 6)) [6],Y 31 (.ia (.t 29) (.t 30) 1) [29,30],Y 32 (.ld (.t 31)) [31],Y 33 (.mv (.t 32)) [32],
 Z 33 true 34 (.fa (.t 1) 8) [1,33],Z 33 true 35 (.fa (.t 34) 12) [34,33],Z 33 true 36 (.ld (.t 35)) [35,33],
 Z 33 true 37 (.mv (.t 6)) [6,33],Z 33 true 38 (.ia (.t 36) (.t 37) 1) [36,37,33],
 Z 33 true 39 (.ld (.t 38)) [38,33],Y 40 (.pk (.t 33) (.t 39) (.c (.b false))) [33,39],Y 41 (.ia (.t 27)
  (.t 28) 1) [27,28],⟨none,none,.st (.t 41) (.t 40) 1,[41,40]⟩]) (.region [Y 42 (.mv (.t 5)) [5],
 Y 43 (.mv (.t 6)) [6],Y 44 (.fa (.t 1) 8) [1],Y 45 (.fa (.t 44) 12) [44],Y 46 (.ld (.t 45)) [45],
 Y 47 (.mv (.t 6)) [6],Y 48 (.ia (.t 46) (.t 47) 1) [46,47],Y 49 (.ld (.t 48)) [48],Y 50 (.nt (.t 49)) [49],
 Y 51 (.ia (.t 42) (.t 43) 1) [42,43],⟨none,none,.st (.t 51) (.t 50) 1,[51,50]⟩]))))
  (.region [Y 52 (.ar .add (.t 24) (.c (.i .i64 1))) [24],Y 24 (.mv (.t 52)) [52]])))))))
  (.seq (.region [Y 53 (.mv (.t 3)) [3],Y 54 (.ms 4 1 1 [.b false] (.t 53) (.t 53)) [53,53],
 Y 7 (.mv (.t 54)) [54]]) (.seq (.seq (.region [Y 55 (.fa (.t 1) 0) [1],Y 56 (.fa (.t 55) 4) [55],
 Y 57 (.ld (.t 56)) [56],Y 58 (.len (.t 57)) [57],Y 59 (.mv (.c (.i .i64 0))) []])
  (.block 2 (.loop (.seq (.region [Y 60 (.ar .lss (.t 59) (.t 58)) [59,58]])
  (.seq (.cond (.t 60) .skip (.exit 2)) (.seq (.block 3 (.seq (.region [Y 61 (.ia (.t 57) (.t 59) 2) [57,59],
 Y 62 (.lds (.t 61) 2) [61],Y 9 (.al 39 [.i .i64 0,.i .i64 0]) [],⟨none,none,.st (.t 9) (.t 62) 2,[9,62]⟩])
  (.mix [(Y 63 (.mv (.t 7)) [7],.q [none]),(Y 64 (.fa (.t 9) 0) [9],.q [none]),
 (Y 65 (.ld (.t 64)) [64],.q [none]),(Y 66 (.mv (.t 7)) [7],.q [none,some 7]),
 (Y 67 (.fa (.t 9) 1) [9],.q [none,some 7]),(Y 68 (.ld (.t 67)) [67],.q [none,some 7]),(Y 69 (.ia (.t 63)
  (.t 65) 1) [63,65],.q [none]),(⟨none,none,.st (.t 69) (.c (.b true)) 1,[69]⟩,.e),(Y 70 (.ia (.t 66)
  (.t 68) 1) [66,68],.q [some 7]),(⟨none,none,.st (.t 70) (.c (.b true)) 1,[70]⟩,.e)])))
  (.region [Y 71 (.ar .add (.t 59) (.c (.i .i64 1))) [59],Y 59 (.mv (.t 71)) [71]])))))))
  (.seq (.region [Y 72 (.mv (.t 3)) [3],Y 73 (.mv (.t 4)) [4],Y 74 (.call 115 [.t 72,.t 73]) [72,73],
 Y 75 (.mv (.t 3)) [3],Y 76 (.mv (.t 7)) [7],Y 77 (.call 115 [.t 75,.t 76]) [75,76],Y 10 (.mv (.t 74)) [74],
 Y 11 (.mv (.t 77)) [77]]) (.seq (.mix [(Y 78 (.fa (.t 1) 8) [1],.q [none]),
 (Y 79 (.fa (.t 78) 0) [78],.q [none]),(Y 80 (.ld (.t 79)) [79],.q [none]),
 (Y 81 (.fa (.t 1) 8) [1],.q [none]),(Y 82 (.fa (.t 81) 10) [81],.q [none]),
 (Y 83 (.ld (.t 82)) [82],.q [none]),(Y 84 (.mv (.t 5)) [5],.q [none]),
 (Y 85 (.call 117 [.t 80,.t 83,.t 84]) [80,83,84],.e),(Y 86 (.fa (.t 1) 8) [1],.q [none,some 7]),
 (Y 87 (.fa (.t 86) 0) [86],.q [none,some 7]),(Y 88 (.ld (.t 87)) [87],.q [none,some 7]),
 (Y 89 (.mv (.t 5)) [5],.q [none,some 7]),(Y 90 (.fa (.t 1) 8) [1],.q [none,some 7]),
 (Y 91 (.fa (.t 90) 11) [90],.q [none,some 7]),(Y 92 (.ld (.t 91)) [91],.q [none,some 7]),
 (Y 93 (.call 117 [.t 88,.t 89,.t 92]) [88,89,92],.e),(Y 94 (.fa (.t 1) 8) [1],.q [none,some 7,some 15]),
 (Y 95 (.fa (.t 94) 0) [94],.q [none,some 7,some 15]),(Y 96 (.ld (.t 95)) [95],.q [none,some 7,some 15]),
 (Y 97 (.mv (.t 10)) [10],.q [none,some 7,some 15]),(Y 98 (.call 110 [.t 96,.t 97]) [96,97],.e),
 (Y 99 (.fa (.t 1) 8) [1],.q [none,some 7,some 15,some 20]),
 (Y 100 (.fa (.t 99) 0) [99],.q [none,some 7,some 15,some 20]),
 (Y 101 (.ld (.t 100)) [100],.q [none,some 7,some 15,some 20]),(Y 102 (.call 110 [.t 98,.t 101]) [98,101],.e),
 (Y 103 (.fa (.t 1) 8) [1],.q [none,some 7,some 15,some 20,some 24]),
 (Y 104 (.fa (.t 103) 0) [103],.q [none,some 7,some 15,some 20,some 24]),
 (Y 105 (.ld (.t 104)) [104],.q [none,some 7,some 15,some 20,some 24]),
 (Y 106 (.mv (.t 11)) [11],.q [none,some 7,some 15,some 20,some 24]),
 (Y 107 (.call 110 [.t 105,.t 106]) [105,106],.e),
 (Y 108 (.mv (.t 11)) [11],.q [none,some 7,some 15,some 20,some 24,some 29]),
 (Y 109 (.fa (.t 1) 8) [1],.q [none,some 7,some 15,some 20,some 24,some 29]),
 (Y 110 (.fa (.t 109) 0) [109],.q [none,some 7,some 15,some 20,some 24,some 29]),
 (Y 111 (.ld (.t 110)) [110],.q [none,some 7,some 15,some 20,some 24,some 29]),
 (Y 112 (.call 110 [.t 108,.t 111]) [108,111],.e),(Y 113 (.bs 111 5 1 [.np] [(0,1,.t 85),(1,1,.t 93),
 (2,1,.t 102),(3,1,.t 107),(4,1,.t 112)]) [85,93,102,107,112],.e),(Y 12 (.mv (.t 113)) [113],.q [some 35])])
  (.seq (.mix [(Y 114 (.mv (.t 12)) [12],.q [none,some 7,some 14]),(Y 115 (.fa (.t 1) 8) [1],.q [none]),
 (Y 116 (.fa (.t 115) 1) [115],.q [none]),(Y 117 (.ld (.t 116)) [116],.q [none]),
 (Y 118 (.fa (.t 1) 8) [1],.q [none]),(Y 119 (.fa (.t 118) 6) [118],.q [none]),
 (Y 120 (.ld (.t 119)) [119],.q [none]),(Y 121 (.call 89 [.t 117,.t 120]) [117,120],.e),
 (Y 122 (.fa (.t 1) 8) [1],.q [none,some 7]),(Y 123 (.fa (.t 122) 2) [122],.q [none,some 7]),
 (Y 124 (.ld (.t 123)) [123],.q [none,some 7]),(Y 125 (.fa (.t 1) 8) [1],.q [none,some 7]),
 (Y 126 (.fa (.t 125) 3) [125],.q [none,some 7]),(Y 127 (.ld (.t 126)) [126],.q [none,some 7]),
 (Y 128 (.bs 111 3 1 [.np] [(0,1,.t 121),(1,1,.t 124),(2,1,.t 127)]) [121,124,127],.e),
 (Y 129 (.bs 252 2 1 [.ns] [(0,1,.t 114),(1,1,.t 128)]) [114,128],.e),(Y 130 (.call 160 [.t 129]) [129],.e),
 (Y 131 (.call 116 [.t 130]) [130],.e),(Y 132 (.call 156 [.t 131]) [131],.e),
 (Y 2 (.mv (.t 132)) [132],.q [some 18])]) .ret))))))))))
set_option maxRecDepth 100000 in
theorem c92:fnB Tryz.prog 92=some (133,s92,[.t 2]):=by kernel_rfl
set_option maxRecDepth 10000 in
set_option maxHeartbeats 0 in
theorem global_spec {m:Bool} {h:H} {ml:List V} {g:Gr} {wb:Bool} (hw:Wf h) (hT:TabP h) (hm:MoAt h ml g) (hwf:WF g wb) (hs:Sm g) (hc:TsoR g):FX m Tryz.prog 92 [.agg ml] h fun r h'=>r=.ns∧Kp h h':=by
 have hn:=hwf.size.2.2.2
 have hml:=hm.one
 obtain⟨ve,vrf,vco,vrmw,vad,vda,vct,po,rf,co,fr,rmw,same,ext,addr,data,ctrl,vR,vW,vF,rfl,g1,s1,s2,s3,s4,s5,s6,f1,f2,f3,-⟩:=hm.is
 obtain⟨_,_,_,_,_,_,_,eg,rev,_,_,rrmw,_⟩:=g1.is
 injection eg with _ eg
 injection eg with eg0 eg
 injection eg with _ eg
 injection eg with _ eg
 injection eg with eg1 eg
 subst eg0 eg1
 have hLe:=rev.ln
 have hLm:=rrmw.ln
 have hLF:=f3.ln
 rw[flg_len]at hLF
 have hsr:=hs.rmw
 obtain⟨rk,t1,t2,t3,t4,t5,t6,t7,t8,t9⟩:=hc.glob
 refine Fn.env c92 rfl ?_
 unfold s92
 refine go ?_
 refine ew_bx (hz:=hml) fun b1 h1 ob1 k1=>?_
 have hB1:=ob1.bx
 have hw1:=k1.wf hw
 refine go ?_
 refine ew_s .n (od_bs (l:=[.i .i64 5,.i .i64 15]) (vs:=[(0,1,.i .i64 5),(1,1,.i .i64 15)]) rfl rfl rfl) ?_
 have hM:=row_ar (h:=h1) (ty:=3) (c:=icell) (l:=[5,15]) fun i hi=>by
  match i,hi with
  | 0,_=>rfl
  | 1,_=>rfl
 have k2:Kp h1 (h1.new 3 [.i .i64 5,.i .i64 15] false):=kp_new
 obtain⟨h2,e2⟩:∃h2,h2=h1.new 3 [.i .i64 5,.i .i64 15] false:=⟨_,rfl⟩
 rw[←e2]at k2 ⊢
 have hM:Ar h2 h1.next (.sl h1.next 0 2 2 true 1) 1 3 icell [5,15]:=by rw[e2];exact hM
 clear e2
 have k02:=k1.trans k2
 have hB2:=hB1.kp k2 hw1
 clear hB1
 refine stC (with_spec (k2.wf hw1) (g1.kp k02 hw) hn hM.ro) (fun vf h3 ⟨⟨lf,hfl,hAf,hfm⟩,k3⟩=>?_)
 have k03:=k02.trans k3
 have hB3:=hB2.kp k3 (k2.wf hw1)
 have hfb:=hAf.blk
 have hbf:b1<vf.ba:=by have:=ob1.hi;have:=k2.le;have:=hfb.2.1;omega
 have hAf:=hAf.low (n1:=h.next) k02.le
 clear hB2
 refine go ?_
 refine ew_ms (n:=g.ev.length) (α:=Bool) (c:=bcell) false (fun va h4 hAa k4=>?_) (by omega) (by omega)
 have k04:=k03.trans k4
 have hB4:=hB3.kp k4 (k03.wf hw)
 have hAf:=hAf.mo (Mo.of_kp k4 none) (fun e=>by cases e)
 have hfa:vf.ba≠va.ba:=fun e=>by have:=hfb.2.2;have:=hAa.blk.2.1;omega
 have hba:b1<va.ba:=by have:=hfb.2.2;have:=hAa.blk.2.1;omega
 have hAa:=hAa.low (n1:=h.next) k03.le
 clear hB3
 refine go ?_
 refine Es.loop (X:=Nat × List Bool × List Bool) (fun x=>g.ev.length-x.1) (fun x=>[(1,.p b1 0),(3,.i .i64 (g.ev.length:Int)),(4,vf),(5,va),(23,.i .i64 (g.ev.length:Int)),(24,.i .i64 (x.1:Int))]) (fun x h'=>x.1≤g.ev.length∧Kp h h'∧Bx h' b1 [.i .i64 g.cells,ve,vrf,vco,vrmw,vad,vda,vct,.p po 0,.p rf 0,.p co 0,.p fr 0,rmw,.p same 0,.p ext 0,addr,data,ctrl,vR,vW,vF]∧b1<h'.next∧x.2.1.length=g.ev.length∧x.2.2.length=g.ev.length∧Ar h' h.next vf 1 4 bcell x.2.1∧Ar h' h.next va 1 4 bcell x.2.2∧(∀a,a<g.ev.length→(gt x.2.1 a=true↔((gt g.ev a).mode=5∨(gt g.ev a).mode=15)∧(a<x.1→(gt g.ev a).kind=3)))∧∀a,a<x.1→(gt x.2.2 a=true↔(gt g.ev a).kind≠3)) (0,lf,List.replicate g.ev.length false) ⟨rfl,rfl,rfl,rfl,rfl,rfl,trivial⟩ ⟨Nat.zero_le _,k04,hB4,by have:=ob1.hi;have:=k2.le;have:=k3.le;have:=k4.le;omega,hfl,List.length_replicate,hAf,hAa,fun a ha=>(hfm a ha).trans ⟨fun h=>⟨h,fun h=>absurd h (Nat.not_lt_zero _)⟩,fun h=>h.1⟩,fun a ha=>absurd ha (Nat.not_lt_zero _)⟩ fun x h5 hx=>?_
 clear hB4 hAf hAa hfl hfm hfb
 obtain⟨i,lf,la⟩:=x
 obtain⟨hin,k5,hB5,hb5,hfl,hal,hAf,hAa,hq1,hq2⟩:=hx
 simp only at hin hfl hal hAf hAa hq1 hq2
 have hLf:=hAf.ln
 rw[hfl]at hLf
 have hLa:=hAa.ln
 rw[hal]at hLa
 refine go ?_
 refine cD (fun hlt=>?_) (fun hge=>?_)
 ·have hlt:i<g.ev.length:=by omega
  have hcF:Ce h5 vF.ba (vF.of+i*1) (.b (decide ((gt g.ev i).kind=3))):=by
   have:=(f3.kp k5 hw).cs.eq i 0 (by rw[flg_len];exact hlt) Nat.zero_lt_one
   rw[flg_gt hlt]at this
   exact this
  have hcf:Ce h5 vf.ba (vf.of+i*1) (.b (gt lf i)):=hAf.cs.eq i 0 (by rw[hfl];exact hlt) Nat.zero_lt_one
  cases hx:gt lf i
  all_goals
   rw[hx]at hcf
   refine go ?_
   refine ew_ar (gt lf i&&decide ((gt g.ev i).kind=3)) hAf (i:=i) (by omega) (fun h6 hAf6 m6=>?_) (hu:=by rw[hx];rfl)
   have k6:=m6.kp k5 (fun k e=>by injection e with e;rw[←e];exact hAf.blk.2.1)
   have p6:Pr (fun k=>k=vf.ba) h5 h6:=Pr.of_mo m6 fun k e=>by injection e with e;exact e.symm
   have hB6:=p6.bx hB5 hb5 (by omega)
   have hb6:=Nat.lt_of_lt_of_le hb5 m6.le
   have hAa6:=hAa.mo m6 (fun e=>by injection e with e;exact hfa e)
   have hcF6:Ce h6 vF.ba (vF.of+i*1) (.b (decide ((gt g.ev i).kind=3))):=by
    have:=(f3.kp k6 hw).cs.eq i 0 (by rw[flg_len];exact hlt) Nat.zero_lt_one
    rw[flg_gt hlt]at this
    exact this
   clear hcF hcf hB5
   refine go ?_
   refine ew_ar (!decide ((gt g.ev i).kind=3)) hAa6 (i:=i) (by omega) (fun h7 hAa7 m7=>?_)
   have p7:Pr (fun k=>k=va.ba) h6 h7:=Pr.of_mo m7 fun k e=>by injection e with e;exact e.symm
   have hB7:=p7.bx hB6 hb6 (by omega)
   refine go ?_
   refine Nx.inv (i+1,_,_) (by simp only;omega) ⟨rfl,rfl,rfl,rfl,rfl,rfl,trivial⟩ ⟨by simp only;omega,m7.kp k6 (fun k e=>by injection e with e;rw[←e];exact hAa6.blk.2.1),hB7,Nat.lt_of_lt_of_le hb6 m7.le,by simp only;rw[List.length_set];exact hfl,by simp only;rw[List.length_set];exact hal,hAf6.mo m7 (fun e=>by injection e with e;exact hfa e.symm),hAa7,fun a ha=>?_,fun a ha=>?_⟩
   ·simp only
    rw[gt_set (by omega)]
    by_cases e:a=i
    ·rw[if_pos e,Bool.and_eq_true,decide_eq_true_eq,e,hq1 i hlt]
     exact⟨fun ⟨⟨h1,_⟩,h2⟩=>⟨h1,fun _=>h2⟩,fun ⟨h1,h2⟩=>⟨⟨h1,fun h=>absurd h (Nat.lt_irrefl _)⟩,h2 (Nat.lt_succ_self _)⟩⟩
    ·rw[if_neg e,hq1 a ha]
     exact⟨fun ⟨h1,h2⟩=>⟨h1,fun h=>h2 (by omega)⟩,fun ⟨h1,h2⟩=>⟨h1,fun h=>h2 (by omega)⟩⟩
   ·simp only at ha ⊢
    rw[gt_set (by omega)]
    by_cases e:a=i
    ·rw[if_pos e,e,Bool.not_eq_true',decide_eq_false_iff_not]
    ·rw[if_neg e];exact hq2 a (by omega)
 ·have e:i=g.ev.length:=by omega
  subst e
  have hq1:∀a,a<g.ev.length→(gt lf a=true↔Full g a):=fun a ha=>(hq1 a ha).trans ⟨fun ⟨h1,h2⟩=>⟨h2 ha,h1⟩,fun ⟨h1,h2⟩=>⟨h2,fun _=>h1⟩⟩
  have hw5:=k5.wf hw
  refine go ?_
  refine ew_ms (n:=g.ev.length) (α:=Bool) (c:=bcell) false (fun vp h6 hAp k6=>?_) (by omega) (by omega)
  have hB6:=hB5.kp k6 hw5
  have hb6:=Nat.lt_of_lt_of_le hb5 k6.le
  have hbp:b1<vp.ba:=Nat.lt_of_lt_of_le hb5 hAp.blk.2.1
  refine go ?_
  refine Es.loop (X:=Nat × List Bool) (fun x=>g.rmw.length-x.1) (fun x=>[(1,.p b1 0),(3,.i .i64 (g.ev.length:Int)),(4,vf),(5,va),(7,vp),(57,vrmw),(58,.i .i64 (g.rmw.length:Int)),(59,.i .i64 (x.1:Int))]) (fun x h'=>x.1≤g.rmw.length∧Kp h5 h'∧Ar h' h5.next vp 1 4 bcell x.2∧x.2.length=g.ev.length∧∀a,a<g.ev.length→(gt x.2 a=true↔∃j,j<x.1∧((gt g.rmw j).1=a∨(gt g.rmw j).2=a))) (0,List.replicate g.ev.length false) ⟨rfl,rfl,rfl,rfl,rfl,rfl,rfl,rfl,trivial⟩ ⟨Nat.zero_le _,k6,hAp,List.length_replicate,fun a ha=>by simp only;rw[gt_rep ha];exact⟨(fun h=>by cases h),fun ⟨j,h,_⟩=>absurd h (Nat.not_lt_zero _)⟩⟩ fun x h7 hx=>?_
  clear hAp hB6 k6 hb6
  obtain⟨i,lp⟩:=x
  obtain⟨hi,k7,hAp,hpl,hq3⟩:=hx
  simp only at hi hAp hpl hq3
  have hw7:=k7.wf hw5
  have k07:=k5.trans k7
  have hLp:=hAp.ln
  rw[hpl]at hLp
  refine go ?_
  refine cD (fun hlt=>?_) (fun hge=>?_)
  ·have hlt:i<g.rmw.length:=by omega
   obtain⟨-,r1,r2,-,-⟩:=hwf.rmw i hlt
   obtain⟨a,ha⟩:∃a:Nat,(gt g.rmw i).1=a:=⟨(gt g.rmw i).1.toNat,(Int.toNat_of_nonneg r1.1).symm⟩
   obtain⟨c,hc'⟩:∃c:Nat,(gt g.rmw i).2=c:=⟨(gt g.rmw i).2.toNat,(Int.toNat_of_nonneg r2.1).symm⟩
   have han:a<g.ev.length:=by have:=r1.2.1;omega
   have hcn:c<g.ev.length:=by have:=r2.2.1;omega
   have hrw:Rw h7 vrmw.ba 2 (vrmw.of+i*2) [.i .i64 (a:Int),.i .i64 (c:Int)]:=by
    have:=(rrmw.kp k07 hw).cs.row (i:=i) hlt
    have e:upto (pcell (gt g.rmw i)) 2 0 = [.i .i64 (gt g.rmw i).1,.i .i64 (gt g.rmw i).2]:=rfl
    rw[e,ha,hc']at this
    exact this
   refine go ?_
   refine ew_al fun b9 h8 ob9 k8=>?_
   refine go ?_
   refine ew_st ob9 (vs:=[.i .i64 (a:Int),.i .i64 (c:Int)]) (fun h9 ob9' m9=>?_)
   have k9:Kp h7 h9:=m9.kp k8 (fun k e=>by injection e with e;rw[←e];exact ob9.lo)
   have hB9:=ob9'.bx
   have hb9:b9≠vp.ba:=fun e=>by have:=ob9.lo;have:=hAp.blk.2.2;omega
   have hAp9:=hAp.mo (Mo.of_kp k9 none) (fun e=>by cases e)
   have hw9:=k9.wf hw7
   refine gol ?_
   refine em_arL true hAp9 (i:=a) (by omega) (fun h10 hA10 m10=>?_) (hl:=fun h10 m10=>?_)
   rotate_left
   ·have p10:Pr (fun k=>k=vp.ba) h9 h10:=Pr.of_mo m10 fun k e=>by injection e with e;exact e.symm
    have hBx:=p10.bx hB9 ob9'.hi hb9
    repeat first | exact Lv.nil | refine Lv.cons (fun _=>FCe.of (ce_b hBx rfl)) ?_
   refine gol ?_
   refine em_arL true hA10 (i:=c) (by rw[List.length_set];omega) (fun h11 hA11 m11=>?_) (hl:=fun h11 m11=>?_)
   rotate_left
   ·repeat first | exact Lv.nil | refine Lv.cons (fun hk=>absurd hk (by decide)) ?_
   have k10:=m10.kp (k7.trans k9) (fun k e=>by injection e with e;rw[←e];exact hAp9.blk.2.1)
   have k11:=m11.kp k10 (fun k e=>by injection e with e;rw[←e];exact hA10.blk.2.1)
   refine go ?_
   refine Nx.inv (i+1,_) (by simp only;omega) ⟨rfl,rfl,rfl,rfl,rfl,rfl,rfl,rfl,trivial⟩ ⟨by simp only;omega,k11,hA11,by simp only;rw[List.length_set,List.length_set];exact hpl,fun x hx=>?_⟩
   simp only
   rw[gt_set (by rw[List.length_set];omega),gt_set (by omega)]
   by_cases e1:x=c
   ·rw[if_pos e1]
    exact⟨fun _=>⟨i,Nat.lt_succ_self i,.inr (by rw[hc',e1])⟩,fun _=>rfl⟩
   ·rw[if_neg e1]
    by_cases e2:x=a
    ·rw[if_pos e2]
     exact⟨fun _=>⟨i,Nat.lt_succ_self i,.inl (by rw[ha,e2])⟩,fun _=>rfl⟩
    ·rw[if_neg e2,hq3 x hx]
     constructor
     ·rintro⟨j,h1,h2⟩
      exact⟨j,by omega,h2⟩
     ·rintro⟨j,h1,h2⟩
      refine⟨j,?_,h2⟩
      by_cases e:j=i
      ·subst e
       rw[ha,hc']at h2
       rcases h2 with h2 | h2 <;> omega
      ·omega
  ·have e:i=g.rmw.length:=by omega
   subst e
   have hq3:∀a,a<g.ev.length→(gt lp a=true↔Tied g a):=hq3
   obtain⟨RPo,aPo,bPo⟩:=s1.is
   obtain⟨RRf,aRf,bRf⟩:=s2.is
   obtain⟨RCo,aCo,bCo⟩:=s3.is
   obtain⟨RFr,aFr,bFr⟩:=s4.is
   obtain⟨REx,aEx,bEx⟩:=s6.is
   have hAf7:=hAf.mo (Mo.of_kp k7 none) (fun e=>by cases e)
   have hAa7:=hAa.mo (Mo.of_kp k7 none) (fun e=>by cases e)
   refine go ?_
   refine stC (ident_spec (l:=lf) hw7 hAf7.ro hn (by omega)) (fun v10 h8 ⟨sI,k8⟩=>?_)
   have hw8:=k8.wf hw7
   refine go ?_
   refine stC (ident_spec (l:=lp) hw8 (hAp.mo (Mo.of_kp k8 none) (fun e=>by cases e)).ro hn (by omega)) (fun v11 h9 ⟨sT,k9⟩=>?_)
   have hw9:=k9.wf hw8
   have k79:=k8.trans k9
   have k09:=k07.trans k79
   have hB9:=hB5.kp (k7.trans k79) hw5
   obtain⟨RI,aI,bI⟩:=(sI.kp k9 hw8).is
   obtain⟨RT,aT,bT⟩:=sT.is
   have hAa9:=hAa7.mo (Mo.of_kp k79 none) (fun e=>by cases e)
   have fl1:∀k,(flg g k g.ev.length).length<1000000:=fun k=>by rw[flg_len];omega
   clear hB5 hAf hAa hAf7 hAa7 hAp
   refine go ?_
   refine mC (cut_spec (m:=true) hw9 (hT.kp k09) (aPo.kp k09 hw) (f1.kp k09 hw) hAa9.ro (fl1 1) (by omega)) (fun w1 hA ⟨c1,kA⟩=>⟨Lv.nil,?_⟩)
   obtain⟨q1,rfl⟩:=c1.p
   have wA:=kA.wf hw9
   have k0A:=k09.trans kA
   have hBA:=hB9.kp kA hw9
   refine go ?_
   refine mC (cut_spec (m:=true) wA (hT.kp k0A) (aPo.kp k0A hw) (hAa9.mo (Mo.of_kp kA none) (fun e=>by cases e)).ro (f2.kp k0A hw) (by omega) (fl1 2)) (fun w2 hC ⟨c2,kC⟩=>⟨Lv.nil,?_⟩)
   obtain⟨q2,rfl⟩:=c2.p
   have wC:=kC.wf wA
   have k0C:=k0A.trans kC
   have hBC:=hBA.kp kC wA
   have k9C:=kA.trans kC
   refine go ?_
   refine mC (comp_spec (m:=true) wC (hT.kp k0C) (aPo.kp k0C hw) (aI.kp k9C hw9)) (fun w3 hD ⟨c3,kD⟩=>⟨Lv.nil,?_⟩)
   obtain⟨R3,a3,b3⟩:=c3.is
   have wD:=kD.wf wC
   have k0D:=k0C.trans kD
   have k9D:=k9C.trans kD
   have hBD:=hBC.kp kD wC
   refine go ?_
   refine mC (comp_spec (m:=true) wD (hT.kp k0D) a3 (aPo.kp k0D hw)) (fun w4 hE ⟨c4,kE⟩=>⟨Lv.nil,?_⟩)
   obtain⟨q4,rfl⟩:=c4.p
   have wE:=kE.wf wD
   have k0E:=k0D.trans kE
   have k9E:=k9D.trans kE
   have hBE:=hBD.kp kE wD
   refine go ?_
   refine mC (comp_spec (m:=true) wE (hT.kp k0E) (aPo.kp k0E hw) (aT.kp k9E hw9)) (fun w5 hF ⟨c5,kF⟩=>⟨Lv.nil,?_⟩)
   obtain⟨q5,rfl⟩:=c5.p
   have wF:=kF.wf wE
   have k0F:=k0E.trans kF
   have k9F:=k9E.trans kF
   have hBF:=hBE.kp kF wE
   refine go ?_
   refine mC (comp_spec (m:=true) wF (hT.kp k0F) (aT.kp k9F hw9) (aPo.kp k0F hw)) (fun w6 hG ⟨c6,kG⟩=>⟨Lv.nil,?_⟩)
   obtain⟨q6,rfl⟩:=c6.p
   have wG:=kG.wf wF
   have k0G:=k0F.trans kG
   refine go ?_
   refine em_row [.p q1 0,.p q2 0,.p q4 0,.p q5 0,.p q6 0] (fun v12 hH hRH kH=>?_) (fun _ _=>Lv.nil)
   have wH:=kH.wf wG
   have k0H:=k0G.trans kH
   have hBH:=hB9.kp (k9F.trans (kG.trans kH)) hw9
   have o12:=hRH.ln.one
   clear hB9 hBA hBC hBD hBE hBF
   refine go ?_
   refine mC (inter_spec (m:=true) wH (hT.kp k0H) (aRf.kp k0H hw) (aEx.kp k0H hw)) (fun w7 hJ ⟨c7,kJ⟩=>⟨Lv.nil,?_⟩)
   obtain⟨q7,rfl⟩:=c7.p
   have wJ:=kJ.wf wH
   have k0J:=k0H.trans kJ
   have hBJ:=hBH.kp kJ wH
   refine go ?_
   refine em_row [.p q7 0,.p co 0,.p fr 0] (fun v13 hK hRK kK=>?_) (fun _ _=>Lv.nil)
   have o13:=hRK.ln.one
   have hfl:fillL (rep [.ns] 2) [(0,1,v12),(1,1,v13)]=some [v12,v13]:=by
    simp only[fillL,cells_one5 o12,cells_one5 o13]
    rfl
   refine em_row [v12,v13] (fun v14 hL hRL kL=>?_) (fun _ _=>Lv.nil) (hf:=hfl) (hz:=allOne_cons o12 (allOne_cons o13 rfl))
   have wK:=kK.wf wJ
   have wL:=kL.wf wK
   have kHL:=kJ.trans (kK.trans kL)
   have hR12:=hRH.ro.kp kHL wH
   have hR13:=hRK.ro.kp kL wK
   refine mC (concat_spec (m:=true) (ll:=[[.p q1 0,.p q2 0,.p q4 0,.p q5 0,.p q6 0],[.p q7 0,.p co 0,.p fr 0]]) wL hRL.ro rfl (show(0:Nat)<2 by decide) (show(2:Nat)≤1000 by decide) (fun k hk=>?_) (show(8:Nat)≤10000 by decide)) (fun vC hM' ⟨hC8,kM⟩=>⟨Lv.nil,?_⟩)
   ·match k,hk with
    | 0,_=>exact⟨hR12,show(0:Nat)<5 by decide,rfl⟩
    | 1,_=>exact⟨hR13,show(0:Nat)<3 by decide,rfl⟩
   have hC8:Ro hM' vC 1 vcell [.p q1 0,.p q2 0,.p q4 0,.p q5 0,.p q6 0,.p q7 0,.p co 0,.p fr 0]:=hC8
   have wM:=kM.wf wL
   obtain⟨R1,a1,b1'⟩:=c1.is
   obtain⟨R2,a2,b2'⟩:=c2.is
   obtain⟨R4,a4,b4'⟩:=c4.is
   obtain⟨R5,a5,b5'⟩:=c5.is
   obtain⟨R6,a6,b6'⟩:=c6.is
   obtain⟨R7,a7,b7'⟩:=c7.is
   have kJM:=kK.trans (kL.trans kM)
   have kHM:=kJ.trans kJM
   have kGM:=kH.trans kHM
   have kFM:=kG.trans kGM
   have kEM:=kF.trans kFM
   have kDM:=kE.trans kEM
   have kCM:=kD.trans kDM
   have kAM:=kC.trans kCM
   have k0M:=k0J.trans kJM
   refine mC (union_spec (m:=true) (K:=8) (n:=g.ev.length) (RS:=[R1,R2,R4,R5,R6,R7,RCo,RFr]) wM hC8 rfl (by decide) (by decide) (fun k hk=>?_)) (fun vU hU ⟨hSU,kU⟩=>⟨Lv.nil,?_⟩)
   ·match k,hk with
    | 0,_=>exact a1.kp kAM wA
    | 1,_=>exact a2.kp kCM wC
    | 2,_=>exact a4.kp kEM wE
    | 3,_=>exact a5.kp kFM wF
    | 4,_=>exact a6.kp kGM wG
    | 5,_=>exact a7.kp kJM wJ
    | 6,_=>exact aCo.kp k0M hw
    | 7,_=>exact aFr.kp k0M hw
   obtain⟨RU,aU,bU⟩:=hSU.is
   have rise:Rise g.ev.length RU rk:=fun a c ha hc' hac=>by
    obtain⟨k,hk,h5⟩:=(bU a c ha hc').1 hac
    match k,hk,h5 with
    | 0,_,h5 =>
     obtain⟨h6,_,h7,_⟩:=(b1' a c ha hc').1 h5
     rw[flg_gt ha,decide_eq_true_eq]at h7
     exact t1 a c ((bPo a c ha hc').1 h6) h7
    | 1,_,h5 =>
     obtain⟨h6,_,_,_,h7⟩:=(b2' a c ha hc').1 h5
     rw[flg_gt hc',decide_eq_true_eq]at h7
     exact t2 a c ((bPo a c ha hc').1 h6) h7
    | 2,_,h5 =>
     obtain⟨q,hq,h6,h7⟩:=(b4' a c ha hc').1 h5
     obtain⟨q',hq',h8,h9⟩:=(b3 a q ha hq).1 h6
     obtain⟨rfl,_,h10⟩:=(bI q' q hq' hq).1 h9
     have hF:=(hq1 q' hq).1 h10
     exact Nat.lt_trans (t3 a q' ((bPo a q' ha hq).1 h8) hF) (t4 q' c ((bPo q' c hq hc').1 h7) hF)
    | 3,_,h5 =>
     obtain⟨q,hq,h6,h7⟩:=(b5' a c ha hc').1 h5
     obtain⟨rfl,_,h10⟩:=(bT q c hq hc').1 h7
     exact t5 a q ((bPo a q ha hq).1 h6) ((hq3 q hq).1 h10)
    | 4,_,h5 =>
     obtain⟨q,hq,h6,h7⟩:=(b6' a c ha hc').1 h5
     obtain⟨rfl,_,h10⟩:=(bT a q ha hq).1 h6
     exact t6 a c ((bPo a c hq hc').1 h7) ((hq3 a hq).1 h10)
    | 5,_,h5 =>
     obtain⟨h6,h7⟩:=(b7' a c ha hc').1 h5
     exact t7 a c ((bRf a c ha hc').1 h6) ((bEx a c ha hc').1 h7)
    | 6,_,h5=>exact t8 a c ((bCo a c ha hc').1 h5)
    | 7,_,h5 =>
     obtain⟨q,_,h6,h7⟩:=(bFr a c ha hc').1 h5
     exact t9 a c ⟨q,h6,h7⟩
   refine mC (cycle_rise (m:=true) (kU.wf wM) aU rise) (fun r hV ⟨e,kV⟩=>⟨Lv.nil,?_⟩)
   subst e
   refine go ?_
   exact ret_1 ⟨rfl,k0M.trans (kU.trans kV)⟩
def s90 : Sc:=(.seq (.region [Y 2 (.bx 172 (.t 0)) [0],Y 4 (.mv (.c (.i .i64 0))) [],Y 5 (.mv (.c .ns)) [],
 Y 6 (.mv (.c (.i .i64 0))) []]) (.seq (.seq (.region [Y 10 (.mv (.t 1)) [1],Y 11 (.len (.t 10)) [10],
 Y 12 (.mv (.c (.i .i64 0))) []]) (.block 0 (.loop (.seq (.region [Y 13 (.ar .lss (.t 12) (.t 11)) [12,11]])
  (.seq (.cond (.t 13) .skip (.exit 0)) (.seq (.block 1 (.seq (.region [Y 14 (.ia (.t 10) (.t 12) 2) [10,12],
 Y 15 (.lds (.t 14) 2) [14],Y 8 (.al 178 [.i .i64 0,.nf]) [],⟨none,none,.st (.t 8) (.t 15) 2,[8,15]⟩])
  (.seq (.region [Y 16 (.fa (.t 8) 1) [8],Y 17 (.ld (.t 16)) [16],Y 18 (.lds (.t 2) 21) [2],
 Y 19 (.callv (.t 17) [.t 18]) [17,18],Y 9 (.mv (.t 19)) [19]]) (.seq (.region [Y 20 (.mv (.t 9)) [9],
 Y 21 (.len (.t 20)) [20],Y 22 (.ar .gtr (.t 21) (.c (.i .i64 0))) [21]]) (.cond (.t 22)
  (.seq (.region [Y 23 (.fa (.t 8) 0) [8],Y 24 (.ld (.t 23)) [23],Y 25 (.mv (.t 9)) [9],
 Y 4 (.mv (.t 24)) [24],Y 5 (.mv (.t 25)) [25],Y 6 (.mv (.c (.i .i64 0))) []]) .ret) .skip)))))
  (.region [Y 26 (.ar .add (.t 12) (.c (.i .i64 1))) [12],Y 12 (.mv (.t 26)) [26]])))))))
  (.seq (.region [Y 4 (.mv (.c (.i .i64 0))) [],Y 5 (.mv (.c .ns)) [],Y 6 (.mv (.c (.i .i64 0))) []]) .ret)))
set_option maxRecDepth 100000 in
theorem c90:fnB Tryz.prog 90=some (27,s90,[.t 4,.t 5,.t 6]):=by kernel_rfl
def s26 : Sc:=(.seq (.region [Y 1 (.bx 26 (.t 0)) [0],Y 2 (.mv (.c (.i .i64 0))) [],Y 3 (.mv (.c .ns)) [],
 Y 4 (.mv (.c (.i .i64 0))) []]) (.seq (.region [Y 9 (.lds (.t 1) 8) [1],Y 10 (.call 56 [.t 9]) [9],
 Y 8 (.mv (.t 10)) [10],Y 11 (.ex (.t 8) 0) [8],Y 12 (.ex (.t 8) 1) [8],
 Y 5 (.al 113 [.np,.np,.np,.np,.np,.np,.np,.np,.np,.np,.ns,.ns,.ns]) [],⟨none,none,.st (.t 5)
  (.t 11) 13,[5,11]⟩,Y 6 (.mv (.t 12)) [12]]) (.seq (.seq (.region [Y 13 (.mv (.t 6)) [6],
 Y 14 (.eq .int true (.t 13) (.c (.i .i64 0))) [13]]) (.cond (.t 14) (.seq (.region [Y 15 (.mv (.t 6)) [6],
 Y 2 (.mv (.c (.i .i64 0))) [],Y 3 (.mv (.c .ns)) [],Y 4 (.mv (.t 15)) [15]]) .ret) .skip))
  (.seq (.region [Y 7 (.mv (.c (.fn (.func 87) [] []))) []]) (.seq (.region [Y 16 (.lds (.t 1) 8) [1],
 Y 17 (.lds (.t 5) 13) [5],
 Y 18 (.bd [.i .i64 0,.ns,.ns,.ns,.ns,.ns,.ns,.ns,.np,.np,.np,.np,.np,.np,.np,.np,.np,.np,.ns,.ns,.ns] [(0,8,.t 16),
 (8,13,.t 17)]) [16,17],Y 19 (.mv (.t 7)) [7],Y 20 (.bd [.i .i64 0,.nf] [(0,1,.c (.i .i64 1)),
 (1,1,.t 19)]) [19],Y 21 (.bd [.i .i64 0,.nf] [(0,1,.c (.i .i64 2)),(1,1,(.c (.fn (.func 91) [] [])))]) [],
 Y 22 (.bd [.i .i64 0,.nf] [(0,1,.c (.i .i64 3)),(1,1,(.c (.fn (.func 92) [] [])))]) [],
 Y 23 (.bs 178 3 2 [.i .i64 0,.nf] [(0,2,.t 20),(2,2,.t 21),(4,2,.t 22)]) [20,21,22],
 Y 24 (.call 90 [.t 18,.t 23]) [18,23],Y 25 (.ex (.t 24) 0) [24],Y 26 (.ex (.t 24) 1) [24],
 Y 27 (.ex (.t 24) 2) [24],Y 2 (.mv (.t 25)) [25],Y 3 (.mv (.t 26)) [26],Y 4 (.mv (.t 27)) [27]]) .ret)))))
set_option maxRecDepth 100000 in
theorem c26:fnB Tryz.prog 26=some (28,s26,[.t 2,.t 3,.t 4]):=by kernel_rfl
def axc (p:Int × FuncId):Nat→V
 | 0=>.i .i64 p.1
 | _=>.fn (.func p.2) [] []
set_option maxHeartbeats 0 in
theorem first_spec {m:Bool} {h:H} {ml:List V} {va:V} {l:List (Int × FuncId)} (hw:Wf h) (hml:allOne ml=true) (hlen:∃a1 a2 a3 a4 a5 a6 a7 a8 b1 b2 b3 b4 b5 b6 b7 b8 b9 b10 b11 b12 b13,ml = [a1,a2,a3,a4,a5,a6,a7,a8,b1,b2,b3,b4,b5,b6,b7,b8,b9,b10,b11,b12,b13]) (hv:Ro h va 2 axc l) (hl:l.length≤1000)
  (hf:∀i,i<l.length→∀h',Kp h h'→FX m Tryz.prog (gt l i).2 [.agg ml] h' fun r h2=>r=.ns∧Kp h' h2):FX m Tryz.prog 90 [.agg ml,va] h fun r h'=>r=.tup [.i .i64 0,.ns,.i .i64 0]∧Kp h h':=by
 obtain⟨a1,a2,a3,a4,a5,a6,a7,a8,b1,b2,b3,b4,b5,b6,b7,b8,b9,b10,b11,b12,b13,rfl⟩:=hlen
 have hL:=hv.ln
 refine Fn.env c90 rfl ?_
 unfold s90
 refine go ?_
 refine ew_bx (hz:=hml) fun b2x h1 ob k1=>?_
 have hw1:=k1.wf hw
 refine go ?_
 refine Es.loop (X:=Nat) (fun x=>l.length-x) (fun x=>[(2,.p b2x 0),(10,va),(11,.i .i64 (l.length:Int)),(12,.i .i64 (x:Int))]) (fun x h'=>x≤l.length∧Kp h1 h') 0 ⟨rfl,rfl,rfl,rfl,trivial⟩ ⟨Nat.zero_le _,.refl _⟩ fun i h2 hx=>?_
 obtain⟨hi,k2⟩:=hx
 have k02:=k1.trans k2
 have hw2:=k02.wf hw
 have hC:=(hv.kp k02 hw).cs
 refine go ?_
 refine cD (fun hlt=>?_) (fun hge=>?_)
 ·have hlt:i<l.length:=by omega
  refine go ?_
  refine ew_al fun b8x h3 ob8 k3=>?_
  refine go ?_
  refine ew_st ob8 (vs:=[.i .i64 (gt l i).1,.fn (.func (gt l i).2) [] []]) (fun h4 ob8' m4=>?_)
  have k4:Kp h2 h4:=m4.kp k3 (fun k e=>by injection e with e;rw[←e];exact ob8.lo)
  have hB8:=ob8'.bx
  have hB2:=ob.bx.kp (k2.trans k4) hw1
  refine go ?_
  refine ew_cv .n rfl rfl (hf i hlt h4 (k02.trans k4)) (fun r h5 ⟨e,k5⟩=>?_)
  subst e
  have hL0:Ln .ns 1 0:=.ns
  have hB8':=hB8.kp k5 (k4.wf hw2)
  clear hB8 hB2
  refine go ?_
  exact Nx.inv (i+1) (by omega) ⟨rfl,rfl,rfl,rfl,trivial⟩ ⟨by omega,k2.trans (k4.trans k5)⟩
 ·skip
  refine go ?_
  exact Es.ret ⟨_,rt3 rfl rfl rfl,rfl,k02⟩
set_option maxRecDepth 10000 in
set_option maxHeartbeats 0 in
theorem tso_spec {m:Bool} {h:H} {gl:List V} {g:Gr} {wb:Bool} (hw:Wf h) (hT:TabP h) (hg:GrAt h gl g) (hs:Sm g) (hwf:WF g wb) (hc:TsoR g):FX m Tryz.prog 26 [.agg gl] h fun r h'=>r=.tup [.i .i64 0,.ns,.i .i64 0]∧Kp h h':=by
 have hn:=hwf.size.2.2.2
 have hor:WF g false∨WF g true:=by
  cases wb with
  | false=>exact .inl hwf
  | true=>exact .inr hwf
 have ogl:=hg.one
 obtain⟨ve,vrf,vco,vrmw,vad,vda,vct,rfl,hg'⟩:=hg.is
 refine Fn.env c26 rfl ?_
 unfold s26
 refine go ?_
 refine ew_bx (hz:=ogl) fun b1 h1 ob k1=>?_
 have hB:=ob.bx
 have hw1:=k1.wf hw
 refine go ?_
 refine stC (derive_spec hw1 (hT.kp k1) (hg.kp k1 hw) hs hor) (fun r h2 ⟨fl,e,hF,k2⟩=>?_)
 subst e
 obtain⟨po,rf,co,fr,rmw,same,ext,addr,data,ctrl,vR,vW,vF,rfl,s1,s2,s3,s4,s5,s6,f1,f2,f3,ofl⟩:=hF.is
 have hF':=hF
 obtain⟨q1,rfl⟩:=s1.p
 obtain⟨q2,rfl⟩:=s2.p
 obtain⟨q3,rfl⟩:=s3.p
 obtain⟨q4,rfl⟩:=s4.p
 obtain⟨q5,rfl⟩:=s5.p
 obtain⟨q6,rfl⟩:=s6.p
 have hw2:=k2.wf hw1
 have hB2:=hB.kp k2 hw1
 refine go ?_
 refine ew_al fun b5 h3 ob5 k3=>?_
 refine ew_st ob5 (vs:=[.p q1 0,.p q2 0,.p q3 0,.p q4 0,rmw,.p q5 0,.p q6 0,addr,data,ctrl,vR,vW,vF]) (fun h4 ob5' m4=>?_) (h1:=ofl)
 have k4:Kp h2 h4:=m4.kp k3 (fun k e=>by injection e with e;rw[←e];exact ob5.lo)
 have hB5:=ob5'.bx
 have hB4:=hB2.kp k4 hw2
 have hw4:=k4.wf hw2
 have k04:=k1.trans (k2.trans k4)
 have oml:allOne [.i .i64 g.cells,ve,vrf,vco,vrmw,vad,vda,vct,.p q1 0,.p q2 0,.p q3 0,.p q4 0,rmw,.p q5 0,.p q6 0,addr,data,ctrl,vR,vW,vF]=true:=allOne_append (l:=[.i .i64 g.cells,ve,vrf,vco,vrmw,vad,vda,vct]) ogl ofl
 have hmo:MoAt h4 [.i .i64 g.cells,ve,vrf,vco,vrmw,vad,vda,vct,.p q1 0,.p q2 0,.p q3 0,.p q4 0,rmw,.p q5 0,.p q6 0,addr,data,ctrl,vR,vW,vF] g:=⟨⟨_,_,_,_,_,_,_,_,_,_,_,_,_,_,_,_,_,_,_,_,rfl,hg.kp k04 hw,s1.kp k4 hw2,s2.kp k4 hw2,s3.kp k4 hw2,s4.kp k4 hw2,s5.kp k4 hw2,s6.kp k4 hw2,f1.kp k4 hw2,f2.kp k4 hw2,f3.kp k4 hw2,oml⟩⟩
 refine go ?_
 refine ew_s .n (od_bs (l:=[.i .i64 1,.fn (.func 87) [] [],.i .i64 2,.fn (.func 91) [] [],.i .i64 3,.fn (.func 92) [] []]) rfl rfl rfl) ?_
 obtain⟨h5,e5⟩:∃h5,h5=h4.new 178 [.i .i64 1,.fn (.func 87) [] [],.i .i64 2,.fn (.func 91) [] [],.i .i64 3,.fn (.func 92) [] []] false:=⟨_,rfl⟩
 have k5:Kp h4 h5:=by rw[e5];exact kp_new
 have hax:Ro h5 (.sl h4.next 0 3 3 true 2) 2 axc [(1,87),(2,91),(3,92)]:=by
  refine⟨.sl (Nat.le_refl _),⟨fun i k hi hk=>⟨?_⟩⟩⟩
  rw[e5]
  show(h4.new 178 _ false).cell h4.next (0+i*2+k)=_
  rw[new_cell,if_pos rfl]
  match i,hi,k,hk with
  | 0,_,0,_=>rfl
  | 0,_,1,_=>rfl
  | 1,_,0,_=>rfl
  | 1,_,1,_=>rfl
  | 2,_,0,_=>rfl
  | 2,_,1,_=>rfl
 rw[←e5]
 clear e5
 have hw5:=k5.wf hw4
 refine stC (first_spec hw5 oml ⟨_,_,_,_,_,_,_,_,_,_,_,_,_,_,_,_,_,_,_,_,_,rfl⟩ hax (by decide) (fun i hi h' k=>?_)) (fun r h6 ⟨e,k6⟩=>?_)
 ·have hmo':=(hmo.kp k5 hw4).kp k hw5
  have hw':=k.wf hw5
  have hT':=(hT.kp k04).kp (k5.trans k)
  match i,hi with
  | 0,_=>exact percell_spec hw' hT' hmo' hn hc
  | 1,_=>exact torn_spec hw' hT' hmo' hn hs hc
  | 2,_=>exact global_spec hw' hT' hmo' hwf hs hc
 subst e
 refine go ?_
 exact Es.ret ⟨_,rt3 rfl rfl rfl,rfl,k04.trans (k5.trans k6)⟩
end Go.Proofs.YtkcdehffcddciaaGreatDoor.Vm
