/- The program's Check. -/
import Derived.Test.YtkcdehffcddciaaGreatDoorQ21
import Derived.Test.YtkcdehffcddciaaGreatDoorQ22
namespace Go.Proofs.YtkcdehffcddciaaGreatDoor.Vm
open Go Go.RowKit
def s25 : Sc:=(.seq (.region [Y 2 (.bx 26 (.t 0)) [0],Y 4 (.mv (.c (.i .i64 0))) [],Y 5 (.mv (.c (.i .i64 0))) []])
  (.seq (.seq (.region [Y 21 (.fa (.t 2) 0) [2],Y 22 (.ld (.t 21)) [21],Y 23 (.ar .lss (.t 22)
  (.c (.i .i64 0))) [22],Y 24 (.mv (.t 23)) [23],Z 24 false 25 (.fa (.t 2) 0) [2,24],
 Z 24 false 26 (.ld (.t 25)) [25,24],Z 24 false 27 (.ar .gtr (.t 26) (.c (.i .i64 4096))) [26,24],
 Y 28 (.pk (.t 24) (.c (.b true)) (.t 27)) [24,27],Y 29 (.mv (.t 28)) [28],
 Z 29 false 30 (.fa (.t 2) 1) [2,29],Z 29 false 31 (.ld (.t 30)) [30,29],Z 29 false 32 (.len (.t 31)) [31,29],
 Z 29 false 33 (.fa (.t 2) 0) [2,29],Z 29 false 34 (.ld (.t 33)) [33,29],Z 29 false 35 (.ar .lss (.t 32)
  (.t 34)) [32,34,29],Y 36 (.pk (.t 29) (.c (.b true)) (.t 35)) [29,35],Y 37 (.mv (.t 36)) [36],
 Z 37 false 38 (.fa (.t 2) 1) [2,37],Z 37 false 39 (.ld (.t 38)) [38,37],Z 37 false 40 (.len (.t 39)) [39,37],
 Z 37 false 41 (.ar .gtr (.t 40) (.c (.i .i64 256))) [40,37],Y 42 (.pk (.t 37) (.c (.b true))
  (.t 41)) [37,41]]) (.cond (.t 42) (.seq (.region [Y 4 (.mv (.c (.i .i64 1))) [],
 Y 5 (.mv (.c (.i .i64 0))) []]) .ret) .skip))
  (.seq (.region [Y 43 (.bd [.i .i64 0,.i .i64 0,.i .i64 0,.i .u64 0,.i .i64 0] [(0,1,(.c (.i .i64 (-1)))),
 (1,1,.c (.i .i64 2)),(4,1,.c (.i .i64 1))]) [],
 Y 6 (.al 37 [.i .i64 0,.i .i64 0,.i .i64 0,.i .u64 0,.i .i64 0]) [],⟨none,none,.st (.t 6) (.t 43) 5,[6,43]⟩])
  (.seq (.seq (.region [Y 44 (.mv (.t 1)) [1]]) (.cond (.t 44) (.region [Y 45 (.fa (.t 6) 4) [6],
 ⟨none,none,.st (.t 45) (.c (.i .i64 11)) 1,[45]⟩]) .skip)) (.seq (.seq (.region [Y 46 (.fa (.t 2) 0) [2],
 Y 47 (.ld (.t 46)) [46],Y 48 (.mv (.c (.i .i64 0))) []])
  (.block 0 (.loop (.seq (.region [Y 49 (.ar .lss (.t 48) (.t 47)) [48,47]])
  (.seq (.cond (.t 49) .skip (.exit 0)) (.seq (.block 1 (.seq (.region [Y 50 (.mv (.t 48)) [48],
 Y 7 (.mv (.t 50)) [50]]) (.seq (.region [Y 51 (.mv (.t 7)) [7],Y 52 (.fa (.t 6) 2) [6],⟨none,none,.st (.t 52)
  (.t 51) 1,[52,51]⟩]) (.seq (.mix [(Y 53 (.fa (.t 2) 1) [2],.q [none]),(Y 54 (.ld (.t 53)) [53],.q [none]),
 (Y 55 (.mv (.t 7)) [7],.q [none]),(Y 56 (.ia (.t 54) (.t 55) 5) [54,55],.q [none]),
 (Y 57 (.lds (.t 56) 5) [56],.q [none]),(Y 58 (.lds (.t 6) 5) [6],.q [none]),
 (Y 59 (.eq (.struct [true,true,true,true,true]) true (.t 57) (.t 58)) [57,58],.q [none])]) (.cond (.t 59)
  (.seq (.region [Y 60 (.mv (.t 7)) [7],Y 4 (.mv (.c (.i .i64 2))) [],
 Y 5 (.mv (.t 60)) [60]]) .ret) .skip))))) (.region [Y 61 (.ar .add (.t 48) (.c (.i .i64 1))) [48],
 Y 48 (.mv (.t 61)) [61]]))))))) (.seq (.mix [(Y 62 (.lds (.t 2) 8) [2],.q [none]),
 (Y 63 (.mv (.t 1)) [1],.q [none]),(Y 64 (.fa (.t 2) 1) [2],.q [none]),(Y 65 (.ld (.t 64)) [64],.q [none]),
 (Y 66 (.len (.t 65)) [65],.q [none]),(Y 67 (.ms 3 1 8 [.i .i64 0] (.t 66) (.t 66)) [66,66],.soft),
 (Y 68 (.bd [.i .i64 0,.ns,.ns,.ns,.ns,.ns,.ns,.ns,.b false,.ns] [(0,8,.t 62),(8,1,.t 63),
 (9,1,.t 67)]) [62,63,67],.q [none]),(Y 69 (.bx 165 (.t 68)) [68],.e),(Y 8 (.al 163 [.np]) [],.soft),
 (⟨none,none,.st (.t 8) (.t 69) 1,[8,69]⟩,.e)]) (.seq (.region [Y 70 (.mm) [],Y 9 (.al 75 [.nm]) [],
 ⟨none,none,.st (.t 9) (.t 70) 1,[9,70]⟩]) (.seq (.seq (.region [Y 71 (.fa (.t 2) 1) [2],
 Y 72 (.ld (.t 71)) [71],Y 73 (.call 81 [.t 72]) [72]]) (.block 2 (.range (.t 73) [74,75]
  (.seq (.region [Y 10 (.mv (.t 74)) [74]])
  (.region [Y 11 (.al 37 [.i .i64 0,.i .i64 0,.i .i64 0,.i .u64 0,.i .i64 0]) [],⟨none,none,.st (.t 11)
  (.t 75) 5,[11,75]⟩])) (.block 3 (.seq (.region [Y 76 (.ld (.t 8)) [8],Y 77 (.nc (.t 76)) [76],
 Y 78 (.fa (.t 77) 9) [77],Y 79 (.ld (.t 78)) [78],Y 80 (.mv (.t 10)) [10],Y 81 (.ia (.t 79)
  (.t 80) 1) [79,80],⟨none,none,.st (.t 81) (.c (.i .i64 (-1))) 1,[81]⟩])
  (.seq (.seq (.region [Y 83 (.ld (.t 9)) [9],Y 84 (.fa (.t 11) 0) [11],Y 85 (.ld (.t 84)) [84],
 Y 86 (.lk (.t 83) (.t 85) (.i .i64 0) true) [83,85],Y 82 (.mv (.t 86)) [86],Y 87 (.ex (.t 82) 0) [82],
 Y 88 (.ex (.t 82) 1) [82],Y 12 (.mv (.t 87)) [87],Y 13 (.mv (.t 88)) [88]])
  (.seq (.region [Y 89 (.mv (.t 13)) [13],Y 90 (.mv (.t 89)) [89],Z 90 true 91 (.fa (.t 11) 0) [11,90],
 Z 90 true 92 (.ld (.t 91)) [91,90],Z 90 true 93 (.ar .geq (.t 92) (.c (.i .i64 0))) [92,90],Y 94 (.pk (.t 90)
  (.t 93) (.c (.b false))) [90,93]]) (.cond (.t 94) (.region [Y 95 (.ld (.t 8)) [8],Y 96 (.nc (.t 95)) [95],
 Y 97 (.fa (.t 96) 9) [96],Y 98 (.ld (.t 97)) [97],Y 99 (.mv (.t 10)) [10],Y 100 (.mv (.t 12)) [12],
 Y 101 (.ia (.t 98) (.t 99) 1) [98,99],⟨none,none,.st (.t 101) (.t 100) 1,[101,100]⟩]) .skip)))
  (.region [Y 102 (.ld (.t 9)) [9],Y 103 (.fa (.t 11) 0) [11],Y 104 (.ld (.t 103)) [103],
 Y 105 (.mv (.t 10)) [10],⟨none,none,.mu (.t 102) (.t 104) (.t 105),[102,104,105]⟩])))))))
  (.seq (.seq (.region [Y 106 (.ld (.t 8)) [8],Y 107 (.call 82 [.t 106]) [106],Y 14 (.mv (.t 107)) [107]])
  (.seq (.region [Y 108 (.mv (.t 14)) [14],Y 109 (.ar .geq (.t 108) (.c (.i .i64 0))) [108]]) (.cond (.t 109)
  (.seq (.region [Y 110 (.mv (.t 14)) [14],Y 4 (.mv (.c (.i .i64 3))) [],
 Y 5 (.mv (.t 110)) [110]]) .ret) .skip))) (.seq (.seq (.region [Y 111 (.ld (.t 8)) [8],
 Y 112 (.call 83 [.t 111]) [111],Y 15 (.mv (.t 112)) [112]]) (.seq (.region [Y 113 (.mv (.t 15)) [15],
 Y 114 (.ar .geq (.t 113) (.c (.i .i64 0))) [113]]) (.cond (.t 114) (.seq (.region [Y 115 (.mv (.t 15)) [15],
 Y 4 (.mv (.c (.i .i64 4))) [],Y 5 (.mv (.t 115)) [115]]) .ret) .skip)))
  (.seq (.seq (.region [Y 116 (.ld (.t 8)) [8],Y 117 (.call 84 [.t 116]) [116],Y 16 (.mv (.t 117)) [117]])
  (.seq (.region [Y 118 (.mv (.t 16)) [16],Y 119 (.ar .geq (.t 118) (.c (.i .i64 0))) [118]]) (.cond (.t 119)
  (.seq (.region [Y 120 (.mv (.t 16)) [16],Y 4 (.mv (.c (.i .i64 5))) [],
 Y 5 (.mv (.t 120)) [120]]) .ret) .skip))) (.seq (.seq (.region [Y 121 (.ld (.t 8)) [8],
 Y 122 (.call 85 [.t 121]) [121],Y 17 (.mv (.t 122)) [122]]) (.seq (.region [Y 123 (.mv (.t 17)) [17],
 Y 124 (.ar .geq (.t 123) (.c (.i .i64 0))) [123]]) (.cond (.t 124) (.seq (.region [Y 125 (.mv (.t 17)) [17],
 Y 4 (.mv (.c (.i .i64 6))) [],Y 5 (.mv (.t 125)) [125]]) .ret) .skip)))
  (.seq (.seq (.region [Y 126 (.ld (.t 8)) [8],Y 127 (.fa (.t 2) 5) [2],Y 128 (.ld (.t 127)) [127],
 Y 129 (.bs 3 2 1 [.i .i64 0] [(0,1,.c (.i .i64 1)),(1,1,.c (.i .i64 2))]) [],
 Y 130 (.call 86 [.t 126,.t 128,.t 129]) [126,128,129],Y 18 (.mv (.t 130)) [130]])
  (.seq (.region [Y 131 (.mv (.t 18)) [18],Y 132 (.ar .geq (.t 131) (.c (.i .i64 0))) [131]]) (.cond (.t 132)
  (.seq (.region [Y 133 (.mv (.t 18)) [18],Y 4 (.mv (.c (.i .i64 7))) [],
 Y 5 (.mv (.t 133)) [133]]) .ret) .skip))) (.seq (.seq (.region [Y 134 (.ld (.t 8)) [8],
 Y 135 (.fa (.t 2) 6) [2],Y 136 (.ld (.t 135)) [135],Y 137 (.bs 3 1 1 [.i .i64 0] [(0,1,.c (.i .i64 2))]) [],
 Y 138 (.call 86 [.t 134,.t 136,.t 137]) [134,136,137],Y 19 (.mv (.t 138)) [138]])
  (.seq (.region [Y 139 (.mv (.t 19)) [19],Y 140 (.ar .geq (.t 139) (.c (.i .i64 0))) [139]]) (.cond (.t 140)
  (.seq (.region [Y 141 (.mv (.t 19)) [19],Y 4 (.mv (.c (.i .i64 8))) [],
 Y 5 (.mv (.t 141)) [141]]) .ret) .skip))) (.seq (.seq (.region [Y 142 (.ld (.t 8)) [8],
 Y 143 (.fa (.t 2) 7) [2],Y 144 (.ld (.t 143)) [143],Y 145 (.bs 3 3 1 [.i .i64 0] [(0,1,.c (.i .i64 1)),
 (1,1,.c (.i .i64 2)),(2,1,.c (.i .i64 3))]) [],Y 146 (.call 86 [.t 142,.t 144,.t 145]) [142,144,145],
 Y 20 (.mv (.t 146)) [146]]) (.seq (.region [Y 147 (.mv (.t 20)) [20],Y 148 (.ar .geq (.t 147)
  (.c (.i .i64 0))) [147]]) (.cond (.t 148) (.seq (.region [Y 149 (.mv (.t 20)) [20],
 Y 4 (.mv (.c (.i .i64 9))) [],Y 5 (.mv (.t 149)) [149]]) .ret) .skip)))
  (.seq (.region [Y 4 (.mv (.c (.i .i64 0))) [],Y 5 (.mv (.c (.i .i64 0))) []]) .ret))))))))))))))))
set_option maxRecDepth 100000 in
theorem c25:fnB Tryz.prog 25=some (150,s25,[.t 4,.t 5]):=by kernel_rfl
theorem backfn_spec {m:Bool} {h:H} {v:V} (hz:v.one=true):FX m Tryz.prog 81 [v] h fun r h'=>(∃bx,r=.fn (.func 151) [] [.p bx 0]∧Bx h' bx [v]∧bx<h'.next∧h.next≤bx)∧Kp h h':=by
 refine Fn.env c81 rfl ?_
 unfold s81
 refine Es.seq (Es.region (ew_bx (hv:=cells_one hz) (hz:=by show(v.one&&true)=true;rw[hz];rfl) fun b h1 ob k1=>?_))
 refine go ?_
 exact ret_1 ⟨⟨b,rfl,ob.bx,ob.hi,ob.lo⟩,k1⟩
set_option maxHeartbeats 0 in
theorem lcheck_spec {h:H} {gl:List V} {g:Gr} {w:Bool} (hw:Wf h) (hg:GrAt h gl g) (hs:Sm g):FX false Tryz.prog 25 [.agg gl,.b w] h fun v h'=>(∃r a:Int,v=.tup [.i .i64 r,.i .i64 a]∧(r=0↔WF g w))∧Kp h h':=by
 have hone:=hg.one
 obtain⟨ve,vrf,vco,vrmw,vad,vda,vct,rfl,he,-,-,-,had,hda,hct⟩:=hg.is
 have hsm:=hs
 refine Fn.env c25 rfl ?_
 unfold s25
 refine Es.seq (Es.region (ew_bx (hz:=hone) fun b h1 ob k1=>?_))
 have hw1:=k1.wf hw
 have hB1:=ob.bx
 have hbl:=ob.hi
 have hg1:=hg.kp k1 hw
 obtain⟨hL,hC1⟩:=he.kp k1 hw
 have had:=had.kp k1 hw
 have hda:=hda.kp k1 hw
 have hct:=hct.kp k1 hw
 have hB:=hB1
 clear hg he
 have hse:=hs.ev
 refine go ?_
 repeat' ((first|refine wgd ?_ ?_|refine wgn ?_ ?_|refine wgb ?_ ?_|refine mgd ?_ ?_|refine mgn ?_ ?_|refine mgb ?_ ?_|refine cD ?_ ?_|refine cN ?_ ?_|refine cB ?_ ?_)<;>intro _<;>refine go ?_)
 all_goals try exact ret_2 ⟨⟨1,0,rfl,fun h=>absurd h (by decide),fun hwf=>by have:=hwf.size;omega⟩,by assumption⟩
 obtain⟨c0,hc0⟩:∃c0:Nat,g.cells=c0:=⟨g.cells.toNat,by omega⟩
 refine ew_al fun b5 h3 ob5 k3=>?_
 refine ew_st ob5 fun h4 ob6 m4=>?_
 have k4:Kp h1 h4:=m4.kp k3 fun j hj=>by injection hj with hj;subst hj;exact ob5.lo
 refine go ?_
 refine EsC.to (X:=Unit) (fun _=>[(1,.b w),(2,.p b 0),(6,.p b5 0)]) (fun _ h=>Kp h1 h∧Ob h h1.next b5 37 [.i .i64 (-1),.i .i64 2,.i .i64 0,.i .u64 0,.i .i64 (if w=true then 11 else 1)]) ?_ (fun _ h5 hx=>?_)
 ·refine cB (fun hwt=>?_) (fun hwf=>?_)
  ·skip
   refine go ?_
   refine ew_st ob6 fun h5 ob7 m5=>?_
   subst hwt
   refine go ?_
   exact Nx.to () ⟨rfl,rfl,rfl,trivial⟩ ⟨m5.kp k4 fun j hj=>by injection hj with hj;subst hj;exact ob5.lo,ob7⟩
  ·skip
   refine go ?_
   subst hwf
   exact Nx.to () ⟨rfl,rfl,rfl,trivial⟩ ⟨k4,ob6⟩
 obtain⟨k5,ob8⟩:=hx
 have hw5:=k5.wf hw1
 have hB:=hB1.kp k5 hw1
 clear ob6 ob5 m4 k4 k3 h3 h4
 refine go ?_
 
 refine Es.loop (X:=Nat × Int) (fun x=>c0-x.1) (fun x=>[(1,.b w),(2,.p b 0),(6,.p b5 0),(47,.i .i64 g.cells),(48,.i .i64 (x.1:Int))]) (fun x h=>x.1≤c0∧Kp h1 h∧Ob h h1.next b5 37 [.i .i64 (-1),.i .i64 2,.i .i64 x.2,.i .u64 0,.i .i64 (if w=true then 11 else 1)]∧∀c,c<x.1→gt g.ev c=first_ w c) (0,0) ⟨rfl,rfl,rfl,rfl,rfl,trivial⟩ ⟨Nat.zero_le _,k5,ob8,fun r hr=>absurd hr (Nat.not_lt_zero _)⟩ fun x h2 hx=>?_
 clear hB hw5 ob8 k5 h5
 obtain⟨c,z⟩:=x
 obtain⟨hc,k2,ob2,hI⟩:=hx
 simp only at hc k2 ob2 hI ⊢
 have hw2:=k2.wf hw1
 have hB:=hB1.kp k2 hw1
 have hkp:=k1.trans k2
 refine go ?_
 refine cD (fun hlt=>?_) (fun hge=>?_)
 ·skip
  refine go ?_
  refine ew_st ob2 fun h3 ob3 m3=>?_
  have hlo:=ob2.lo
  have k3:Kp h1 h3:=m3.kp k2 fun j hj=>by injection hj with hj;subst hj;exact hlo
  have hw3:=k3.wf hw1
  have hB:=hB1.kp k3 hw1
  have hC:=hC1.kp k3 hw1
  have hB5:=ob3.bx
  have hkp:=k1.trans k3
  clear m3 ob2 k2
  refine go ?_
  refine emN (mS (hd:=⟨fun _=>od_neS [(.i64,(gt g.ev c).thread,-1),(.i64,(gt g.ev c).kind,2),(.i64,(gt g.ev c).loc,(c:Int)),(.u64,(gt g.ev c).val,0),(.i64,(gt g.ev c).mode,if w=true then 11 else 1)] rfl rfl rfl rfl rfl⟩) ?_)
  refine go ?_
  refine cN (fun hne=>?_) (fun heq=>?_)
  ·skip
   refine go ?_
   refine ret_2 ⟨⟨2,_,rfl,fun h=>absurd h (by decide),fun hwf=>(hne (by
    have h9:=hwf.init c (by omega)
    simp[h9,first_])).elim⟩,hkp⟩
  ·skip
   refine go ?_
   refine Nx.inv (c+1,(c:Int)) (by simp only;omega) ⟨rfl,rfl,rfl,rfl,rfl,trivial⟩ ⟨by simp only;omega,k3,ob3,fun c' h8=>?_⟩
   simp only at h8
   rcases Nat.lt_succ_iff_lt_or_eq.1 h8 with h9 | h9
   ·exact hI c' h9
   ·subst h9
    simp only[List.mem_cons,List.not_mem_nil,or_false,forall_eq_or_imp,forall_eq]at heq
    obtain⟨e1,e2,e3,e4,e5⟩:=heq
    cases hev:gt g.ev c'
    simp only[hev]at e1 e2 e3 e4 e5
    simp only[first_,e1,e2,e3,e4,e5]
 have hce:c=c0:=by omega
 subst hce
 have hinit:∀c':Nat,(c':Int)<g.cells→gt g.ev c'=first_ w c':=fun c' h8=>hI c' (by omega)
 clear ob2 hI hge
 have hC:=hC1.kp k2 hw1
 refine go ?_
 
 have hge:g.ev.length≤256:=by omega
 refine em_ms (α:=Int) (c:=icell) (n:=g.ev.length) 0 (fun vn h3 hA3 k3=>?_) (by omega) (by omega)
 have hB:=hB.kp k3 hw2
 have hw3:=k3.wf hw2
 have hvn:=hA3.ln.one
 refine go ?_
 have hfl:fillL [.i .i64 0,.ns,.ns,.ns,.ns,.ns,.ns,.ns,.b false,.ns] [(0,8,.agg [.i .i64 g.cells,ve,vrf,vco,vrmw,vad,vda,vct]),(8,1,.b w),(9,1,vn)]=some [.i .i64 g.cells,ve,vrf,vco,vrmw,vad,vda,vct,.b w,vn]:=by
  simp only[fillL,cells_one hvn]
  rfl
 refine emN (mS (v:=.agg [.i .i64 g.cells,ve,vrf,vco,vrmw,vad,vda,vct,.b w,vn]) (hd:=⟨fun _=>od_bd rfl hfl⟩) ?_)
 refine go ?_
 have hon2:allOne [.i .i64 g.cells,ve,vrf,vco,vrmw,vad,vda,vct,.b w,vn]=true:=by
  simp only[allOne,Bool.and_true,Bool.and_eq_true]at hone ⊢
  obtain⟨o1,o2,o3,o4,o5,o6,o7,o8⟩:=hone
  exact⟨o1,o2,o3,o4,o5,o6,o7,o8,rfl,hvn⟩
 refine em_bx (hz:=hon2) fun bl h4 obl k4=>?_
 refine go ?_
 refine em_al fun b8 h5 ob8 k5=>?_
 refine go ?_
 refine em_st ob8 fun h6 ob8' m6=>?_
 have k6:Kp h4 h6:=m6.kp k5 fun j hj=>by injection hj with hj;subst hj;exact ob8.lo
 refine go ?_
 refine ew_mm .i64 fun bm h7 hM7 k7=>?_
 refine go ?_
 refine ew_al fun b9 h8 ob9 k8=>?_
 refine go ?_
 refine ew_st ob9 fun h9 ob9' m9=>?_
 have k9:Kp h7 h9:=m9.kp k8 fun j hj=>by injection hj with hj;subst hj;exact ob9.lo
 have hw4:=k4.wf hw3
 have hw6:=k6.wf hw4
 have hw7:=k7.wf hw6
 have hw9:=k9.wf hw7
 have k09:=hkp.trans (k3.trans (k4.trans (k6.trans (k7.trans k9))))
 have hB:=hB.kp (k4.trans (k6.trans (k7.trans k9))) hw3
 refine go ?_
 have hve:ve.one=true:=hL.one
 refine stC (backfn_spec hve) fun v h10 hR=>?_
 obtain⟨⟨bx,rfl,hBX,hbxl,hbx9⟩,k10⟩:=hR
 have hw10:=k10.wf hw9
 have hkp:=k09.trans k10
 have hkp1:Kp h1 h10:=k2.trans (k3.trans (k4.trans (k6.trans (k7.trans (k9.trans k10)))))
 have hA:=((((hA3.mo (Mo.of_kp k4 none) (fun h=>by cases h)).mo (Mo.of_kp k6 none) (fun h=>by cases h)).mo (Mo.of_kp k7 none) (fun h=>by cases h)).mo (Mo.of_kp k9 none) (fun h=>by cases h)).mo (Mo.of_kp k10 none) (fun h=>by cases h)
 have hM:=(hM7.kp k9).kp k10
 have hbl1:=obl.lo
 have hbl2:=obl.hi
 have hb81:=ob8'.lo
 have hb82:=ob8'.hi
 have hbm1:=hM7.lo
 have hbm2:=hM7.hi
 have hb91:=ob9'.lo
 have hb92:=ob9'.hi
 have hvn1:=hA3.blk.2.1
 have hvn2:=hA3.blk.2.2
 have hBl:=obl.bx.kp (k6.trans (k7.trans (k9.trans k10))) hw4
 have hB8:=ob8'.bx.kp (k7.trans (k9.trans k10)) hw6
 have hB9:=ob9'.bx.kp k10 hw9
 have hB:=hB.kp k10 hw9
 have q2:=k1.le
 have q3:=k2.le
 have q4:=k3.le
 have q5:=k4.le
 have q6:=k6.le
 have q7:=k7.le
 have q8:=k9.le
 have q9:=k10.le
 have hA:=hA.low (n1:=h.next) (by omega)
 have hM:Mp h10 h.next bm .i64 []:=⟨by omega,hM.hi,hM.at_⟩
 clear hA3 hM7 obl ob8 ob8' ob9 ob9' m9 k10 k9 k8 k7 k6 k5 k4 k3 k2 m6 hfl k09 hC
 refine go ?_
 have hRo:=Ro.kp hkp1 hw1 (⟨hL,hC1⟩:Ro h1 ve 5 ecell g.ev)
 have hz1:vn.ba<h10.next:=by omega
 have hz2:bm<h10.next:=by omega
 have hz3:bl≠vn.ba∧bl≠bm∧bl<h10.next:=by omega
 have hz4:b8≠vn.ba∧b8≠bm∧b8<h10.next:=by omega
 have hz5:b9≠vn.ba∧b9≠bm∧b9<h10.next:=by omega
 have hz6:bx≠vn.ba∧bx≠bm∧bx<h10.next:=by omega
 have hz7:b≠vn.ba∧b≠bm∧b<h10.next:=by omega
 have hz8:vn.ba≠bm:=by omega
 have hz9:h1.next≤vn.ba∧h1.next≤bm:=by omega
 have hB8z:Bx h10 b8 [.p bl 0]:=hB8
 have hB9z:Bx h10 b9 [.m bm]:=hB9
 have hBlz:=hBl
 clear hvn1 hvn2 hbl1 hbl2 hb81 hb82 hbm1 hbm2 hb91 hb92 hbx9 q3 q4 q5 q6 q7 q8 q9
 refine Es.back (p1:=74) (p2:=75) (bx:=bx) (v:=ve) (evs:=g.ev) (fun i h'=>Sb h10 h' vn.ba bm∧∃nx ml,Ar h' h.next vn 1 3 icell nx∧nx.length=g.ev.length∧Mp h' h.next bm .i64 ml∧LF g i ml∧NxV g nx i) rfl (by omega) ?_ ?_ ?_ ?_ ?_
 ·rintro i h' ⟨hs,-⟩
  exact⟨hs.bx hBX hz6.2.2 hz6.1 hz6.2.1,(⟨hL,hC1⟩:Ro h1 ve 5 ecell g.ev).kp (hs.kp hkp1 hz9.1 hz9.2) hw1⟩
 ·rintro i h' o hlt ⟨hs,nx,ml,hA,hl,hM,hF,hN⟩
  have m:=mo_set (o:=o) hlt
  exact⟨hs.mo m fun k hk=>by injection hk with hk;omega,nx,ml,hA.mo m (fun e=>by injection e with e;omega),hl,hM.mo m (fun e=>by injection e with e;omega),hF,hN⟩
 ·intro o
  have k:=kp_set (h:=h10) (o:=o)
  exact⟨(Sb.refl h10 vn.ba bm).mo (Mo.of_kp k none) (fun k hk=>by cases hk),_,[],hA.mo (Mo.of_kp k none) (fun e=>by cases e),List.length_replicate,hM.kp k,LF.nil g,fun j h1 h2=>by omega⟩
 ·rintro r i h11 hi hlt ⟨hs,nx,ml,hA,hl,hM,hF,hN⟩
  refine go ?_
  refine ew_al fun b11 h12 ob11 k12=>?_
  refine go ?_
  refine ew_st ob11 fun h13 ob12 m13=>?_
  have k13:Kp h11 h13:=m13.kp k12 fun j hj=>by injection hj with hj;subst hj;exact ob11.lo
  have hlo11:=ob11.lo
  have hhi11:=ob12.hi
  refine go ?_
  refine Nx.cut ⟨Nat.lt_of_lt_of_le hlt k13.le,k13.old.get _ hlt,fun o=>?_⟩
  have m14:=mo_set (o:=o) (Nat.lt_of_lt_of_le hlt k13.le)
  have hs:=(hs.mo (Mo.of_kp k13 none) (fun k hk=>by cases hk)).mo m14 fun k hk=>by injection hk with hk;omega
  have hA:=(hA.mo (Mo.of_kp k13 none) (fun h=>by cases h)).mo m14 fun e=>by injection e with e;omega
  have hM:=(hM.kp k13).mo m14 fun e=>by injection e with e;omega
  have hO11:=ob12.mo m14 fun e=>by injection e with e;omega
  have hB11:=hO11.bx
  have hle11:=hs.le
  have hgo:(⟨h13.next,h13.t.set h10.next (some o)⟩:H).t.get h10.next=some o:=by
   show(h13.t.set h10.next (some o)).get h10.next=_
   rw[Tr.get_set,if_pos rfl]
  have hlt14:h10.next<(⟨h13.next,h13.t.set h10.next (some o)⟩:H).next:=Nat.lt_of_lt_of_le hlt k13.le
  generalize (⟨h13.next,h13.t.set h10.next (some o)⟩:H)=h14 at hs hA hM hO11 hB11 hgo hlt14 ⊢
  clear m14 m13 k13 k12 ob11 ob12
  have hB8:=hs.bx hB8z hz4.2.2 hz4.1 hz4.2.1
  have hB9:=hs.bx hB9z hz5.2.2 hz5.1 hz5.2.1
  have hBl:=hs.bx hBlz hz3.2.2 hz3.1 hz3.2.1
  have hLn:=hA.ln
  refine go ?_
  refine ew_ar (-1) hA (i:=i) (by omega) fun h15 hA m=>?_
  have hM:=hM.mo m fun e=>by injection e with e;omega
  have hs:=hs.mo m fun k hk=>by injection hk with hk;omega
  have hO11:=hO11.mo m fun e=>by injection e with e;omega
  have hB8:=hs.bx hB8z hz4.2.2 hz4.1 hz4.2.1
  have hB9:=hs.bx hB9z hz5.2.2 hz5.1 hz5.2.1
  have hBl:=hs.bx hBlz hz3.2.2 hz3.1 hz3.2.1
  have hB11:=hO11.bx
  have hgo:=(m.get _ hlt14 fun e=>by injection e with e;omega).trans hgo
  have hlt14:=Nat.lt_of_lt_of_le hlt14 m.le
  clear m
  have hth:((gt g.ev i).thread:Int)=(gt g.ev i).thread:=rfl
  have hLn:=hA.ln
  rw[List.length_set,hl]at hLn
  refine go ?_
  rcases hF (gt g.ev i).thread with⟨hmg,-⟩ | ⟨k,hmg,hk1,hk2,hk3,hk4⟩
  ·refine ew_s .n (od_lkf hM.at_ rfl rfl hmg) ?_
   refine go ?_
   refine ew_mu hM fun h16 hM m=>?_
   have hA:=hA.mo m fun e=>by injection e with e;omega
   have hs:=hs.mo m fun k hk=>by injection hk with hk;omega
   have hO11:=hO11.mo m fun e=>by injection e with e;omega
   have hB8:=hs.bx hB8z hz4.2.2 hz4.1 hz4.2.1
   have hB9:=hs.bx hB9z hz5.2.2 hz5.1 hz5.2.1
   have hBl:=hs.bx hBlz hz3.2.2 hz3.1 hz3.2.1
   have hB11:=hO11.bx
   have hgo:=(m.get _ hlt14 fun e=>by injection e with e;omega).trans hgo
   have hlt14:=Nat.lt_of_lt_of_le hlt14 m.le
   refine go ?_
   exact Nx.cut ⟨⟨hs,nx.set i (-1),_,hA,by rw[List.length_set];exact hl,hM,hF.step hi,hN.step (by omega) (nxt_no hF (.inl hmg))⟩,hlt14,hgo⟩
  ·refine ew_s .n (od_lkt hM.at_ rfl rfl hmg) ?_
   refine go ?_
   refine cD (fun ht0=>?_) (fun ht0=>?_)
   ·skip
    refine go ?_
    refine ew_ar (k:Int) hA (i:=i) (by rw[List.length_set];omega) fun h16 hA m=>?_
    rw[List.set_set]at hA
    have hM:=hM.mo m fun e=>by injection e with e;omega
    have hs:=hs.mo m fun k hk=>by injection hk with hk;omega
    have hO11:=hO11.mo m fun e=>by injection e with e;omega
    have hB8:=hs.bx hB8z hz4.2.2 hz4.1 hz4.2.1
    have hB9:=hs.bx hB9z hz5.2.2 hz5.1 hz5.2.1
    have hBl:=hs.bx hBlz hz3.2.2 hz3.1 hz3.2.1
    have hB11:=hO11.bx
    have hgo:=(m.get _ hlt14 fun e=>by injection e with e;omega).trans hgo
    have hlt14:=Nat.lt_of_lt_of_le hlt14 m.le
    clear m
    refine go ?_
    refine ew_mu hM fun h17 hM m=>?_
    have hA:=hA.mo m fun e=>by injection e with e;omega
    have hs:=hs.mo m fun k hk=>by injection hk with hk;omega
    have hO11:=hO11.mo m fun e=>by injection e with e;omega
    have hB8:=hs.bx hB8z hz4.2.2 hz4.1 hz4.2.1
    have hB9:=hs.bx hB9z hz5.2.2 hz5.1 hz5.2.1
    have hBl:=hs.bx hBlz hz3.2.2 hz3.1 hz3.2.1
    have hB11:=hO11.bx
    have hgo:=(m.get _ hlt14 fun e=>by injection e with e;omega).trans hgo
    have hlt14:=Nat.lt_of_lt_of_le hlt14 m.le
    refine go ?_
    exact Nx.cut ⟨⟨hs,nx.set i (k:Int),_,hA,by rw[List.length_set];exact hl,hM,hF.step hi,hN.step (by omega) (nxt_yes hF hmg ht0)⟩,hlt14,hgo⟩
   ·skip
    refine go ?_
    refine ew_mu hM fun h17 hM m=>?_
    have hA:=hA.mo m fun e=>by injection e with e;omega
    have hs:=hs.mo m fun k hk=>by injection hk with hk;omega
    have hO11:=hO11.mo m fun e=>by injection e with e;omega
    have hB8:=hs.bx hB8z hz4.2.2 hz4.1 hz4.2.1
    have hB9:=hs.bx hB9z hz5.2.2 hz5.1 hz5.2.1
    have hBl:=hs.bx hBlz hz3.2.2 hz3.1 hz3.2.1
    have hB11:=hO11.bx
    have hgo:=(m.get _ hlt14 fun e=>by injection e with e;omega).trans hgo
    have hlt14:=Nat.lt_of_lt_of_le hlt14 m.le
    refine go ?_
    exact Nx.cut ⟨⟨hs,nx.set i (-1),_,hA,by rw[List.length_set];exact hl,hM,hF.step hi,hN.step (by omega) (nxt_no hF (.inr (by omega)))⟩,hlt14,hgo⟩
 ·rintro h11 hlt ⟨hs,nx,ml,hA,hl,hM,hF,hN⟩
  have m:=mo_put (o:=none) hlt
  have hs:=hs.mo m fun k hk=>by injection hk with hk;omega
  have hA:=hA.mo m fun e=>by injection e with e;omega
  generalize (⟨h11.next,h11.t.set h10.next none⟩:H)=h12 at hs hA ⊢
  clear m
  have kp1:=hs.kp hkp1 hz9.1 hz9.2
  have hkq:=k1.trans kp1
  have hw12:=kp1.wf hw1
  have hB8:=hs.bx hB8z hz4.2.2 hz4.1 hz4.2.1
  have hB:=hs.bx hB hz7.2.2 hz7.1 hz7.2.1
  have hLk:LkAt h12 bl [.i .i64 g.cells,ve,vrf,vco,vrmw,vad,vda,vct] vn g w nx:=⟨hs.bx hBlz hz3.2.2 hz3.1 hz3.2.1,hg1.kp kp1 hw1,⟨hA.ln,hA.cs⟩,hl,fun i hi k hk=>hN i (Nat.zero_le _) hi k hk⟩
  have had:=had.kp kp1 hw1
  have hda:=hda.kp kp1 hw1
  have hct:=hct.kp kp1 hw1
  clear hs hA hM hF hN kp1 hBX hRo hBl hBlz hB8z hB9z hB9 hkp hkp1 hw1 hw2 hw3 hw4 hw6 hw7 hw9 hw10
  refine go ?_
  refine stC (levents_spec hw12 hLk hge (by omega) (by omega)) fun v h13 hR=>?_
  obtain⟨⟨r1,rfl,hr1⟩,k⟩:=hR
  have hw13:=k.wf hw12
  have hB8:=hB8.kp k hw12
  have hB:=hB.kp k hw12
  have hLk:=hLk.kp k hw12
  have had:=had.kp k hw12
  have hda:=hda.kp k hw12
  have hct:=hct.kp k hw12
  have hkq:=hkq.trans k
  clear k
  refine go ?_
  refine cD (fun h0=>?_) (fun h1=>?_)
  ·skip
   refine go ?_
   exact ret_2 ⟨⟨3,_,rfl,fun h=>absurd h (by decide),fun hwf=>by have:=hr1.2 hwf.ev;omega⟩,hkq⟩
  have hev:=hr1.1 (by omega)
  have h3k:=kind3 (by omega) hinit hev
  have hpos:∀i,i<g.ev.length→(gt g.ev i).kind=2→0≤(gt g.ev i).loc:=fun i hi hk=>by
   by_cases h:(i:Int)<g.cells
   ·rw[hinit i h];show(0:Int)≤(i:Int);omega
   ·have h9:=(hev i (by omega) hi).2.2.2
    omega
  refine go ?_
  refine stC (lrf_spec hw13 hLk hge) fun v h14 hR=>?_
  obtain⟨⟨r2,rfl,hr2⟩,k⟩:=hR
  have hw14:=k.wf hw13
  have hB8:=hB8.kp k hw13
  have hB:=hB.kp k hw13
  have hLk:=hLk.kp k hw13
  have had:=had.kp k hw13
  have hda:=hda.kp k hw13
  have hct:=hct.kp k hw13
  have hkq:=hkq.trans k
  clear k
  refine go ?_
  refine cD (fun h0=>?_) (fun h2=>?_)
  ·skip
   refine go ?_
   exact ret_2 ⟨⟨4,_,rfl,fun h=>absurd h (by decide),fun hwf=>by have:=hr2.2 hwf.rf;omega⟩,hkq⟩
  refine go ?_
  refine stC (lco_spec hw14 hLk hge (by omega) (by have:=hsm.co;omega) (fun c hc=>by have:=hsm.row c hc;omega) hpos) fun v h15 hR=>?_
  obtain⟨⟨r3,rfl,hr3⟩,k⟩:=hR
  have hw15:=k.wf hw14
  have hB8:=hB8.kp k hw14
  have hB:=hB.kp k hw14
  have hLk:=hLk.kp k hw14
  have had:=had.kp k hw14
  have hda:=hda.kp k hw14
  have hct:=hct.kp k hw14
  have hkq:=hkq.trans k
  clear k
  refine go ?_
  refine cD (fun h0=>?_) (fun h3=>?_)
  ·skip
   refine go ?_
   exact ret_2 ⟨⟨5,_,rfl,fun h=>absurd h (by decide),fun hwf=>by have:=hr3.2 hwf.co;omega⟩,hkq⟩
  refine go ?_
  refine stC (lrmw_spec hw15 hLk hge (by have:=hsm.rmw;omega)) fun v h16 hR=>?_
  obtain⟨⟨r4,rfl,hr4⟩,k⟩:=hR
  have hw16:=k.wf hw15
  have hB8:=hB8.kp k hw15
  have hB:=hB.kp k hw15
  have hLk:=hLk.kp k hw15
  have had:=had.kp k hw15
  have hda:=hda.kp k hw15
  have hct:=hct.kp k hw15
  have hkq:=hkq.trans k
  clear k
  refine go ?_
  refine cD (fun h0=>?_) (fun h4=>?_)
  ·skip
   refine go ?_
   exact ret_2 ⟨⟨6,_,rfl,fun h=>absurd h (by decide),fun hwf=>by have:=hr4.2 hwf.rmw;omega⟩,hkq⟩
  refine go ?_
  refine ew_s .n (od_bs rfl rfl rfl) ?_
  have hks:=ro_bs (h:=h16) (ty:=3) (l:=[1,2]) (vs:=[V.i .i64 1,V.i .i64 2]) rfl rfl
  have k:=kp_new (h:=h16) (ty:=3) (l:=[V.i .i64 1,V.i .i64 2]) (p:=false)
  have hwn:=k.wf hw16
  have hB8:=hB8.kp k hw16
  have hB:=hB.kp k hw16
  have hLk:=hLk.kp k hw16
  have had:=had.kp k hw16
  have hda:=hda.kp k hw16
  have hct:=hct.kp k hw16
  have hkq:=hkq.trans k
  clear k
  refine go ?_
  refine stC (ldeps_spec hwn hLk had hks (by have:=hsm.addr;omega) (by decide)) fun v h17 hR=>?_
  obtain⟨⟨r5,rfl,hr5⟩,k⟩:=hR
  have hw17:=k.wf hwn
  have hB8:=hB8.kp k hwn
  have hB:=hB.kp k hwn
  have hLk:=hLk.kp k hwn
  have had:=had.kp k hwn
  have hda:=hda.kp k hwn
  have hct:=hct.kp k hwn
  have hkq:=hkq.trans k
  clear k
  clear hwn hks
  rw[dep_7 h3k]at hr5
  refine go ?_
  refine cD (fun h0=>?_) (fun h5=>?_)
  ·skip
   refine go ?_
   exact ret_2 ⟨⟨7,_,rfl,fun h=>absurd h (by decide),fun hwf=>by have:=hr5.2 ⟨hwf.addr,fun h=>(hwf.none h).1⟩;omega⟩,hkq⟩
  refine go ?_
  refine ew_s .n (od_bs rfl rfl rfl) ?_
  have hks:=ro_bs (h:=h17) (ty:=3) (l:=[2]) (vs:=[V.i .i64 2]) rfl rfl
  have k:=kp_new (h:=h17) (ty:=3) (l:=[V.i .i64 2]) (p:=false)
  have hwn:=k.wf hw17
  have hB8:=hB8.kp k hw17
  have hB:=hB.kp k hw17
  have hLk:=hLk.kp k hw17
  have had:=had.kp k hw17
  have hda:=hda.kp k hw17
  have hct:=hct.kp k hw17
  have hkq:=hkq.trans k
  clear k
  refine go ?_
  refine stC (ldeps_spec hwn hLk hda hks (by have:=hsm.data;omega) (by decide)) fun v h18 hR=>?_
  obtain⟨⟨r6,rfl,hr6⟩,k⟩:=hR
  have hw18:=k.wf hwn
  have hB8:=hB8.kp k hwn
  have hB:=hB.kp k hwn
  have hLk:=hLk.kp k hwn
  have had:=had.kp k hwn
  have hda:=hda.kp k hwn
  have hct:=hct.kp k hwn
  have hkq:=hkq.trans k
  clear k
  clear hwn hks
  rw[dep_8 h3k]at hr6
  refine go ?_
  refine cD (fun h0=>?_) (fun h6=>?_)
  ·skip
   refine go ?_
   exact ret_2 ⟨⟨8,_,rfl,fun h=>absurd h (by decide),fun hwf=>by have:=hr6.2 ⟨hwf.data,fun h=>(hwf.none h).2.1⟩;omega⟩,hkq⟩
  refine go ?_
  refine ew_s .n (od_bs rfl rfl rfl) ?_
  have hks:=ro_bs (h:=h18) (ty:=3) (l:=[1,2,3]) (vs:=[V.i .i64 1,V.i .i64 2,V.i .i64 3]) rfl rfl
  have k:=kp_new (h:=h18) (ty:=3) (l:=[V.i .i64 1,V.i .i64 2,V.i .i64 3]) (p:=false)
  have hwn:=k.wf hw18
  have hB8:=hB8.kp k hw18
  have hB:=hB.kp k hw18
  have hLk:=hLk.kp k hw18
  have had:=had.kp k hw18
  have hda:=hda.kp k hw18
  have hct:=hct.kp k hw18
  have hkq:=hkq.trans k
  clear k
  refine go ?_
  refine stC (ldeps_spec hwn hLk hct hks (by have:=hsm.ctrl;omega) (by decide)) fun v h19 hR=>?_
  obtain⟨⟨r7,rfl,hr7⟩,k⟩:=hR
  have hw19:=k.wf hwn
  have hB8:=hB8.kp k hwn
  have hB:=hB.kp k hwn
  have hLk:=hLk.kp k hwn
  have had:=had.kp k hwn
  have hda:=hda.kp k hwn
  have hct:=hct.kp k hwn
  have hkq:=hkq.trans k
  clear k
  clear hwn hks
  rw[dep_9 h3k]at hr7
  refine go ?_
  refine cD (fun h0=>?_) (fun h7=>?_)
  ·skip
   refine go ?_
   exact ret_2 ⟨⟨9,_,rfl,fun h=>absurd h (by decide),fun hwf=>by have:=hr7.2 ⟨hwf.ctrl,fun h=>(hwf.none h).2.2⟩;omega⟩,hkq⟩
  have g5:=hr5.1 (by omega)
  have g6:=hr6.1 (by omega)
  have g7:=hr7.1 (by omega)
  refine go ?_
  exact ret_2 ⟨⟨0,0,rfl,fun _=>⟨by omega,hinit,hev,hr2.1 (by omega),hr3.1 (by omega),hr4.1 (by omega),g5.1,g6.1,g7.1,fun h=>⟨g5.2 h,g6.2 h,g7.2 h⟩⟩,fun _=>rfl⟩,hkq⟩
def s93 : Sc:=(.seq (.region [Y 1 (.bx 26 (.t 0)) [0],Y 2 (.mv (.c (.b false))) []])
  (.seq (.seq (.region [Y 8 (.lds (.t 1) 8) [1],Y 9 (.call 25 [.t 8,.c (.b false)]) [8],Y 7 (.mv (.t 9)) [9],
 Y 10 (.ex (.t 7) 0) [7],Y 11 (.ex (.t 7) 1) [7],Y 3 (.mv (.t 10)) [10],Y 4 (.mv (.t 11)) [11]])
  (.seq (.region [Y 12 (.mv (.t 3)) [3],Y 13 (.eq .int false (.t 12) (.c (.i .i64 0))) [12]]) (.cond (.t 13)
  (.seq (.region [Y 2 (.mv (.c (.b true))) []]) .ret) .skip))) (.seq (.region [Y 15 (.lds (.t 1) 8) [1],
 Y 16 (.call 25 [.t 15,.c (.b true)]) [15],Y 14 (.mv (.t 16)) [16],Y 17 (.ex (.t 14) 0) [14],
 Y 18 (.ex (.t 14) 1) [14],Y 5 (.mv (.t 17)) [17],Y 6 (.mv (.t 18)) [18]])
  (.seq (.region [Y 19 (.mv (.t 5)) [5],Y 20 (.eq .int false (.t 19) (.c (.i .i64 0))) [19],
 Y 2 (.mv (.t 20)) [20]]) .ret))))
set_option maxRecDepth 100000 in
theorem c93:fnB Tryz.prog 93=some (21,s93,[.t 2]):=by kernel_rfl
def s27 : Sc:=(.seq (.region [Y 1 (.bx 26 (.t 0)) [0],Y 2 (.mv (.c .ns)) [],Y 3 (.mv (.c (.i .i64 0))) []])
  (.seq (.seq (.region [Y 7 (.lds (.t 1) 8) [1],Y 8 (.call 93 [.t 7]) [7],Y 9 (.nt (.t 8)) [8]]) (.cond (.t 9)
  (.seq (.region [Y 2 (.mv (.c .ns)) [],Y 3 (.mv (.c (.i .i64 4))) []]) .ret) .skip))
  (.seq (.region [Y 10 (.fa (.t 1) 0) [1],Y 11 (.ld (.t 10)) [10],Y 12 (.ms 35 1 8 [.i .u64 0] (.t 11)
  (.t 11)) [11,11],Y 4 (.mv (.t 12)) [12]]) (.seq (.seq (.region [Y 13 (.fa (.t 1) 3) [1],
 Y 14 (.ld (.t 13)) [13],Y 15 (.len (.t 14)) [14],Y 16 (.mv (.c (.i .i64 0))) []])
  (.block 0 (.loop (.seq (.region [Y 17 (.ar .lss (.t 16) (.t 15)) [16,15]])
  (.seq (.cond (.t 17) .skip (.exit 0)) (.seq (.block 1 (.seq (.region [Y 18 (.mv (.t 16)) [16],
 Y 19 (.ia (.t 14) (.t 16) 1) [14,16],Y 20 (.ld (.t 19)) [19],Y 5 (.mv (.t 18)) [18],Y 6 (.mv (.t 20)) [20]])
  (.mix [(Y 21 (.mv (.t 4)) [4],.q [none]),(Y 22 (.mv (.t 5)) [5],.q [none]),
 (Y 23 (.fa (.t 1) 1) [1],.q [none]),(Y 24 (.ld (.t 23)) [23],.q [none]),(Y 25 (.mv (.t 6)) [6],.q [none]),
 (Y 26 (.mv (.t 6)) [6],.q [none]),(Y 27 (.len (.t 26)) [26],.q [none]),(Y 28 (.ar .sub (.t 27)
  (.c (.i .i64 1))) [27],.q [none]),(Y 29 (.ia (.t 25) (.t 28) 1) [25,28],.q [none]),
 (Y 30 (.ld (.t 29)) [29],.q [none]),(Y 31 (.ia (.t 24) (.t 30) 5) [24,30],.q [none]),
 (Y 32 (.fa (.t 31) 3) [31],.q [none]),(Y 33 (.ld (.t 32)) [32],.q [none]),(Y 34 (.ia (.t 21)
  (.t 22) 1) [21,22],.q [none]),(⟨none,none,.st (.t 34) (.t 33) 1,[34,33]⟩,.e)])))
  (.region [Y 35 (.ar .add (.t 16) (.c (.i .i64 1))) [16],Y 16 (.mv (.t 35)) [35]])))))))
  (.seq (.region [Y 36 (.mv (.t 4)) [4],Y 2 (.mv (.t 36)) [36],Y 3 (.mv (.c (.i .i64 0))) []]) .ret)))))
set_option maxRecDepth 100000 in
theorem c27:fnB Tryz.prog 27=some (37,s27,[.t 2,.t 3]):=by kernel_rfl
def s29 : Sc:=(.seq (.region [Y 1 (.bx 26 (.t 0)) [0],Y 2 (.mv (.c (.b false))) []])
  (.seq (.region [Y 6 (.lds (.t 1) 8) [1],Y 7 (.call 27 [.t 6]) [6],Y 5 (.mv (.t 7)) [7],
 Y 8 (.ex (.t 5) 0) [5],Y 9 (.ex (.t 5) 1) [5],Y 3 (.mv (.t 8)) [8],Y 4 (.mv (.t 9)) [9]])
  (.seq (.region [Y 10 (.mv (.t 4)) [4],Y 11 (.eq .int false (.t 10) (.c (.i .i64 0))) [10],
 Y 2 (.mv (.t 11)) [11]]) .ret)))
set_option maxRecDepth 100000 in
theorem c29:fnB Tryz.prog 29=some (12,s29,[.t 2]):=by kernel_rfl
theorem em_ar {α:Type} [Inhabited α] {C:Cx} {n0 sz i j:Nat} {us:List Nat} {lm:List (So × Kd)} {e:Env} {hs h:H} {st:List (Option Nat × H)} {ps:List Pd} {Q:Env→H→Prop} {v w:V} {ty:TypeId} {c:α→Nat→V} {l:List α} {a xr:Rd} {vs:List V} {g:Option (Nat × Bool)} (x:α) (ho:Ar h n0 v sz ty c l) (hi:i<l.length) (hr:∀h1,Ar h1 n0 v sz ty c (l.set i x)→Mo h h1 (some v.ba)→Em C lm (j+1) e h1 h1 ((some j,h1) :: st) ps Q)
  (hw:Gd e g true:=by first | exact .n | exact .tt rfl | exact .ff rfl) (ha:a.lk e=some (.p v.ba (v.of+i*sz)):=by exact rfl) (hx:xr.lk e=some w:=by exact rfl) (hv:w.cells=vs:=by exact rfl) (hu:vs=upto (c x) sz 0:=by exact rfl) (h1:allOne vs=true:=by exact rfl) (hl:ps = []:=by exact rfl):Em C ((⟨g,none,.st a xr sz,us⟩,.e) :: lm) j e hs h st ps Q:=by
 subst hl
 have h3:=ho.st (x:=x) hi hu
 obtain⟨b,p,hb,h4,h5,h6⟩:=ho.own
 have hle:v.of+i*sz+sz≤l.length*sz:=by
  have:(i+1)*sz≤l.length*sz:=Nat.mul_le_mul_right _ hi
  rw[Nat.add_mul]at this
  rw[hb]
  show 0+i*sz+sz≤_
  omega
 have h7:h.row v.ba=some (ty,l.length*sz,p):=by rw[hb];exact h6
 exact em_eu hw (od_st ha hx hv (by rw[hu,upto_len]) h1 h7 hle) .nil (hr _ h3.1 h3.2)
def ucell (x:Int) (_:Nat):V:=.i .u64 x
set_option maxHeartbeats 0 in
theorem lgood_spec {m:Bool} {h:H} {gl:List V} {g:Gr} (hw:Wf h) (hg:GrAt h gl g) (hs:Sm g):FX m Tryz.prog 93 [.agg gl] h fun v h'=>v=B (WF g false∨WF g true)∧h'=h:=by
 refine Fn.fx (FX.fn (m:=false) ?_) rfl
 have hone:=hg.one
 obtain⟨ve,vrf,vco,vrmw,vad,vda,vct,rfl,he,-⟩:=hg.is
 refine Fn.env c93 rfl ?_
 unfold s93
 refine Es.seq (Es.region (ew_bx (hz:=hone) fun b h1 ob k1=>?_))
 have hw1:=k1.wf hw
 have hB:=ob.bx
 have hg1:=hg.kp k1 hw
 clear hg he hone
 refine go ?_
 refine stC (lcheck_spec hw1 hg1 hs) fun v h2 hR=>?_
 obtain⟨⟨r1,a1,rfl,hr1⟩,k2⟩:=hR
 have hw2:=k2.wf hw1
 have hB:=hB.kp k2 hw1
 have hg2:=hg1.kp k2 hw1
 have hkp:=k1.trans k2
 refine go ?_
 refine cD (fun h0=>?_) (fun h0=>?_)
 ·skip
  refine go ?_
  exact ret_1 ⟨B_t (Or.inl (hr1.1 h0)),hkp.old⟩
 refine go ?_
 refine stC (lcheck_spec hw2 hg2 hs) fun v h3 hR=>?_
 obtain⟨⟨r2,a2,rfl,hr2⟩,k3⟩:=hR
 have hkp:=hkp.trans k3
 refine go ?_
 exact ret_1 ⟨B_d ⟨fun hx=>Or.inr (hr2.1 hx),fun hx=>hx.elim (fun hx=>absurd (hr1.2 hx) h0) hr2.2⟩,hkp.old⟩
set_option maxHeartbeats 0 in
theorem final_spec {m:Bool} {h:H} {gl:List V} {g:Gr} (hw:Wf h) (hg:GrAt h gl g) (hs:Sm g):FX m Tryz.prog 27 [.agg gl] h fun v h'=>(∃v1 e,v=.tup [v1,.i .i64 e]∧(e=0↔WF g false∨WF g true))∧Kp h h':=by
 have hone:=hg.one
 obtain⟨ve,vrf,vco,vrmw,vad,vda,vct,rfl,he,-,hco,-⟩:=hg.is
 obtain⟨vs,hvs,hvl,hrows⟩:=hco.is
 refine Fn.env c27 rfl ?_
 unfold s27
 refine Es.seq (Es.region (ew_bx (hz:=hone) fun b h1 ob k1=>?_))
 have hw1:=k1.wf hw
 have hB:=ob.bx
 have hg1:=hg.kp k1 hw
 obtain⟨hL,hC1⟩:=he.kp k1 hw
 obtain⟨hL2,hV1⟩:=hvs.kp k1 hw
 rw[hvl]at hL2 hV1
 have hR1:∀i,i<g.co.length→Ro h1 (gt vs i) 1 icell (gt g.co i):=fun i hi=>(hrows i hi).kp k1 hw
 clear hg he hone hvs hrows hco
 have hB1:=hB
 have hsc:=hs.co
 refine go ?_
 refine stC (lgood_spec hw1 hg1 hs) fun v h2 hR=>?_
 obtain⟨rfl,e2⟩:=hR
 obtain rfl:=e2.symm
 by_cases hwf:WF g false∨WF g true
 case neg =>
  have hwf':=hwf
  refine go ?_
  repeat' ((first|refine wgd ?_ ?_|refine wgn ?_ ?_|refine wgb ?_ ?_|refine mgd ?_ ?_|refine mgn ?_ ?_|refine mgb ?_ ?_|refine cD ?_ ?_|refine cN ?_ ?_|refine cB ?_ ?_)<;>intro _<;>refine go ?_)
  all_goals first
   | exact ret_2 ⟨⟨_,4,rfl,fun h=>absurd h (by decide),fun h=>absurd h hwf⟩,k1⟩
   | exact absurd (by assumption) hwf'
 obtain⟨w,hWF⟩:∃w,WF g w:=hwf.elim (fun h=>⟨_,h⟩) (fun h=>⟨_,h⟩)
 obtain⟨hz0,hz1,hz2,hz3⟩:=hWF.size
 obtain⟨c0,hc0⟩:∃c0:Nat,g.cells=c0:=⟨g.cells.toNat,by omega⟩
 have hcoN:=hWF.co.2
 have hcoA:=hWF.co.1
 refine go ?_
 repeat' ((first|refine wgd ?_ ?_|refine wgn ?_ ?_|refine wgb ?_ ?_|refine mgd ?_ ?_|refine mgn ?_ ?_|refine mgb ?_ ?_|refine cD ?_ ?_|refine cN ?_ ?_|refine cB ?_ ?_)<;>intro _<;>refine go ?_)
 all_goals try exact absurd hwf (by assumption)
 rw[hc0]
 refine ew_ms (α:=Int) (c:=ucell) (n:=c0) 0 (fun vn h3 hA3 k3=>?_) (by omega) (by omega)
 have hw3:=k3.wf hw1
 have hB:=hB1.kp k3 hw1
 have hkp:=k1.trans k3
 have hlo:=hA3.blk.2.1
 refine go ?_
 refine Es.loop (X:=Nat × List Int) (fun x=>g.co.length-x.1) (fun x=>[(1,.p b 0),(4,vn),(14,vco),(15,.i .i64 (g.co.length:Int)),(16,.i .i64 (x.1:Int))]) (fun x h'=>x.1≤g.co.length∧Kp h1 h'∧Ar h' h1.next vn 1 35 ucell x.2∧x.2.length=c0) (0,List.replicate c0 0) ⟨rfl,rfl,rfl,rfl,rfl,trivial⟩ ⟨Nat.zero_le _,k3,hA3,List.length_replicate⟩ fun x h4 hx=>?_
 obtain⟨c,l⟩:=x
 clear hB hkp hw3 hA3 k3
 obtain⟨hc,k4,hA,hl⟩:=hx
 simp only at hc hA hl ⊢
 have hw4:=k4.wf hw1
 have hB:=hB1.kp k4 hw1
 have hC:=hC1.kp k4 hw1
 have hV:=hV1.kp k4 hw1
 have hkp:=k1.trans k4
 refine go ?_
 refine cD (fun hlt=>?_) (fun hge=>?_)
 ·obtain⟨hLc,hCc⟩:=(hR1 c (by omega)).kp k4 hw1
  have hLc:Ln (vcell (gt vs c) 0) 1 (gt g.co c).length:=hLc
  have hCc:Cs h4 (vcell (gt vs c) 0) 1 (gt g.co c).length fun i k=>icell (gt (gt g.co c) i) k:=hCc
  obtain⟨hp,-,-,hin⟩:=hcoA c (by omega) (by omega)
  obtain⟨⟨he0,he1,-⟩,-⟩:=hin ((gt g.co c).length-1) (by omega)
  have hsr:=hs.row c (by omega)
  have e1:(((gt g.co c).length:Int)-1).toNat=(gt g.co c).length-1:=by omega
  have hLn:Ln vn 1 c0:=by rw[←hl];exact hA.ln
  rw[←e1]at he0 he1
  refine go ?_
  refine em_ar (gt g.ev (gt (gt g.co c) ((gt g.co c).length-1:Int).toNat).toNat).val hA (i:=c) (by omega) fun h5 hA5 m5=>?_
  have k5:Kp h1 h5:=m5.kp k4 fun j hj=>by injection hj with hj;subst hj;exact hA.blk.2.1
  refine go ?_
  exact Nx.inv (c+1,_) (by simp only;omega) ⟨rfl,rfl,rfl,rfl,rfl,trivial⟩ ⟨by simp only;omega,k5,hA5,by rw[List.length_set];exact hl⟩
 ·skip
  refine go ?_
  exact ret_2 ⟨⟨_,0,rfl,fun _=>hwf,fun _=>rfl⟩,hkp⟩
set_option maxHeartbeats 0 in
theorem bgood_spec {m:Bool} {h:H} {gl:List V} {g:Gr} (hw:Wf h) (hg:GrAt h gl g) (hs:Sm g):FX m Tryz.prog 29 [.agg gl] h fun v h'=>v=B (WF g false∨WF g true)∧Kp h h':=by
 have hone:=hg.one
 obtain⟨ve,vrf,vco,vrmw,vad,vda,vct,rfl,he,-⟩:=hg.is
 refine Fn.env c29 rfl ?_
 unfold s29
 refine Es.seq (Es.region (ew_bx (hz:=hone) fun b h1 ob k1=>?_))
 have hw1:=k1.wf hw
 have hB:=ob.bx
 have hg1:=hg.kp k1 hw
 clear hg he hone
 refine go ?_
 refine stC (final_spec hw1 hg1 hs) fun v h2 hR=>?_
 obtain⟨⟨v1,e,rfl,hr⟩,k2⟩:=hR
 have hkp:=k1.trans k2
 refine go ?_
 exact ret_1 ⟨B_d hr,hkp⟩
end Go.Proofs.YtkcdehffcddciaaGreatDoor.Vm
