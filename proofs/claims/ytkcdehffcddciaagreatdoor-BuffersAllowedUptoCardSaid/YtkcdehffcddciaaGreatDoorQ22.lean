/- The program's rule 5. -/
import Derived.Test.YtkcdehffcddciaaGreatDoorQ19
import Derived.Test.YtkcdehffcddciaaGreatDoorQ21
import Derived.Test.YtkcdehffcddciaaGreatDoorQ14
namespace Go.Proofs.YtkcdehffcddciaaGreatDoor.Vm
open Go Go.RowKit
def s84 : Sc:=(.seq (.region [Y 2 (.mv (.c (.i .i64 0))) []]) (.seq (.region [Y 16 (.mm) [],Y 3 (.mv (.t 16)) [16]])
  (.seq (.seq (.region [Y 17 (.mv (.t 0)) [0],Y 18 (.nc (.t 17)) [17],Y 19 (.fa (.t 18) 0) [18],
 Y 20 (.fa (.t 19) 1) [19],Y 21 (.ld (.t 20)) [20],Y 22 (.len (.t 21)) [21],Y 23 (.mv (.c (.i .i64 0))) []])
  (.block 0 (.loop (.seq (.region [Y 24 (.ar .lss (.t 23) (.t 22)) [23,22]])
  (.seq (.cond (.t 24) .skip (.exit 0)) (.seq (.block 1 (.seq (.region [Y 25 (.ia (.t 21) (.t 23) 5) [21,23],
 Y 26 (.lds (.t 25) 5) [25],Y 5 (.al 37 [.i .i64 0,.i .i64 0,.i .i64 0,.i .u64 0,.i .i64 0]) [],
 ⟨none,none,.st (.t 5) (.t 26) 5,[5,26]⟩]) (.seq (.region [Y 27 (.fa (.t 5) 1) [5],Y 28 (.ld (.t 27)) [27],
 Y 29 (.eq .int false (.t 28) (.c (.i .i64 2))) [28]]) (.cond (.t 29) (.region [Y 30 (.mv (.t 3)) [3],
 Y 31 (.fa (.t 5) 2) [5],Y 32 (.ld (.t 31)) [31],Y 33 (.lk (.t 30) (.t 32) (.i .i64 0) false) [30,32],
 Y 34 (.ar .add (.t 33) (.c (.i .i64 1))) [33],⟨none,none,.mu (.t 30) (.t 32) (.t 34),[30,32,34]⟩]) .skip))))
  (.region [Y 35 (.ar .add (.t 23) (.c (.i .i64 1))) [23],Y 23 (.mv (.t 35)) [35]])))))))
  (.seq (.region [Y 36 (.mv (.t 0)) [0],Y 37 (.nc (.t 36)) [36],Y 38 (.fa (.t 37) 0) [37],
 Y 39 (.fa (.t 38) 1) [38],Y 40 (.ld (.t 39)) [39],Y 41 (.len (.t 40)) [40],Y 42 (.ms 4 1 1 [.b false] (.t 41)
  (.t 41)) [41,41],Y 6 (.mv (.t 42)) [42]]) (.seq (.mix [(Y 43 (.mv (.t 0)) [0],.q [none]),
 (Y 44 (.nc (.t 43)) [43],.q [none]),(Y 45 (.fa (.t 44) 0) [44],.q [none]),
 (Y 46 (.fa (.t 45) 3) [45],.q [none]),(Y 47 (.ld (.t 46)) [46],.q [none]),
 (Y 48 (.len (.t 47)) [47],.q [none]),(Y 49 (.mv (.t 0)) [0],.q [none]),(Y 50 (.nc (.t 49)) [49],.q [none]),
 (Y 51 (.fa (.t 50) 0) [50],.q [none]),(Y 52 (.fa (.t 51) 0) [51],.q [none]),
 (Y 53 (.ld (.t 52)) [52],.q [none]),(Y 54 (.mn (.t 48) [.t 53]) [48,53],.q [none]),
 (Y 7 (.mv (.t 54)) [54],.q [none])]) (.seq (.region [Y 55 (.mv (.t 7)) [7],Y 8 (.mv (.t 55)) [55]])
  (.seq (.seq (.region [Y 56 (.mv (.t 0)) [0],Y 57 (.nc (.t 56)) [56],Y 58 (.fa (.t 57) 0) [57],
 Y 59 (.fa (.t 58) 3) [58],Y 60 (.ld (.t 59)) [59],Y 61 (.mv (.t 7)) [7],
 Y 62 (.s2 1 (.t 60) none (some (.t 61))) [60,61],Y 63 (.len (.t 62)) [62],Y 64 (.mv (.c (.i .i64 0))) []])
  (.block 2 (.loop (.seq (.region [Y 65 (.ar .lss (.t 64) (.t 63)) [64,63]])
  (.seq (.cond (.t 65) .skip (.exit 2)) (.seq (.block 3 (.seq (.region [Y 66 (.mv (.t 64)) [64],
 Y 67 (.ia (.t 62) (.t 64) 1) [62,64],Y 68 (.ld (.t 67)) [67],Y 9 (.mv (.t 66)) [66],Y 10 (.mv (.t 68)) [68]])
  (.seq (.region [Y 69 (.mv (.t 10)) [10],Y 70 (.len (.t 69)) [69],Y 71 (.ar .gtr (.t 70)
  (.c (.i .i64 0))) [70],Y 72 (.mv (.t 71)) [71],Z 72 true 73 (.mv (.t 10)) [10,72],Z 72 true 74 (.ia (.t 73)
  (.c (.i .i64 0)) 1) [73,72],Z 72 true 75 (.ld (.t 74)) [74,72],Z 72 true 76 (.mv (.t 9)) [9,72],
 Z 72 true 77 (.eq .int false (.t 75) (.t 76)) [75,76,72],Y 78 (.pk (.t 72) (.t 77) (.c (.b false))) [72,77],
 Y 11 (.mv (.t 78)) [78]]) (.seq (.seq (.region [Y 79 (.mv (.t 10)) [10],Y 80 (.len (.t 79)) [79],
 Y 81 (.mv (.c (.i .i64 0))) []]) (.block 4 (.loop (.seq (.region [Y 82 (.ar .lss (.t 81) (.t 80)) [81,80]])
  (.seq (.cond (.t 82) .skip (.exit 4)) (.seq (.block 5 (.seq (.region [Y 83 (.ia (.t 79) (.t 81) 1) [79,81],
 Y 84 (.ld (.t 83)) [83],Y 13 (.mv (.t 84)) [84]]) (.seq (.region [Y 85 (.mv (.t 11)) [11],
 Y 86 (.mv (.t 85)) [85],Z 86 true 87 (.mv (.t 0)) [0,86],Z 86 true 88 (.mv (.t 13)) [13,86],
 Z 86 true 89 (.call 154 [.t 87,.t 88,.c (.i .i64 2)]) [87,88,86],Y 90 (.pk (.t 86) (.t 89)
  (.c (.b false))) [86,89],Y 91 (.mv (.t 90)) [90],Z 91 true 92 (.mv (.t 0)) [0,91],
 Z 91 true 93 (.nc (.t 92)) [92,91],Z 91 true 94 (.fa (.t 93) 0) [93,91],Z 91 true 95 (.fa (.t 94) 1) [94,91],
 Z 91 true 96 (.ld (.t 95)) [95,91],Z 91 true 97 (.mv (.t 13)) [13,91],Z 91 true 98 (.ia (.t 96)
  (.t 97) 5) [96,97,91],Z 91 true 99 (.fa (.t 98) 2) [98,91],Z 91 true 100 (.ld (.t 99)) [99,91],
 Z 91 true 101 (.mv (.t 9)) [9,91],Z 91 true 102 (.eq .int false (.t 100) (.t 101)) [100,101,91],
 Y 103 (.pk (.t 91) (.t 102) (.c (.b false))) [91,102],Y 104 (.mv (.t 103)) [103],
 Z 104 true 105 (.mv (.t 6)) [6,104],Z 104 true 106 (.mv (.t 13)) [13,104],Z 104 true 107 (.ia (.t 105)
  (.t 106) 1) [105,106,104],Z 104 true 108 (.ld (.t 107)) [107,104],Z 104 true 109 (.nt (.t 108)) [108,104],
 Y 110 (.pk (.t 104) (.t 109) (.c (.b false))) [104,109],Y 11 (.mv (.t 110)) [110]])
  (.seq (.region [Y 111 (.mv (.t 11)) [11]]) (.cond (.t 111) (.seq (.region [Y 112 (.mv (.t 6)) [6],
 Y 113 (.mv (.t 13)) [13],Y 114 (.ia (.t 112) (.t 113) 1) [112,113],⟨none,none,.st (.t 114)
  (.c (.b true)) 1,[114]⟩]) (.region [Y 115 (.mv (.t 3)) [3],Y 116 (.mv (.t 9)) [9],Y 117 (.lk (.t 115)
  (.t 116) (.i .i64 0) false) [115,116],Y 118 (.ar .sub (.t 117) (.c (.i .i64 1))) [117],
 ⟨none,none,.mu (.t 115) (.t 116) (.t 118),[115,116,118]⟩])) .skip))))) (.region [Y 119 (.ar .add (.t 81)
  (.c (.i .i64 1))) [81],Y 81 (.mv (.t 119)) [119]]))))))) (.seq (.region [Y 120 (.mv (.t 11)) [11],
 Y 121 (.nt (.t 120)) [120]]) (.cond (.t 121) (.region [Y 122 (.mv (.t 8)) [8],Y 123 (.mv (.t 9)) [9],
 Y 124 (.mn (.t 122) [.t 123]) [122,123],Y 8 (.mv (.t 124)) [124]]) .skip))))))
  (.region [Y 125 (.ar .add (.t 64) (.c (.i .i64 1))) [64],Y 64 (.mv (.t 125)) [125]])))))))
  (.seq (.seq (.region [Y 126 (.mv (.t 3)) [3],Y 127 (.rg (.t 126)) [126]])
  (.block 6 (.loop (.seq (.region [Y 128 (.nx (.t 127)) [127],Y 129 (.ex (.t 128) 0) [128]])
  (.seq (.cond (.t 129) .skip (.exit 6)) (.block 7 (.seq (.region [Y 130 (.en (.t 127)) [127],
 Y 131 (.ex (.t 130) 0) [130],Y 132 (.ex (.t 130) 1) [130],Y 14 (.mv (.t 131)) [131],
 Y 15 (.mv (.t 132)) [132]]) (.seq (.region [Y 133 (.mv (.t 15)) [15],Y 134 (.ar .gtr (.t 133)
  (.c (.i .i64 0))) [133]]) (.cond (.t 134) (.region [Y 135 (.mv (.t 8)) [8],Y 136 (.mv (.t 14)) [14],
 Y 137 (.mn (.t 135) [.t 136]) [135,136],Y 8 (.mv (.t 137)) [137]]) .skip)))))))))
  (.seq (.seq (.mix [(Y 138 (.mv (.t 8)) [8],.q [none]),(Y 139 (.mv (.t 7)) [7],.q [none]),
 (Y 140 (.ar .lss (.t 138) (.t 139)) [138,139],.q [none]),(Y 141 (.mv (.t 140)) [140],.q [none]),
 (Z 141 false 142 (.mv (.t 0)) [0,141],.q [none]),(Z 141 false 143 (.nc (.t 142)) [142,141],.q [none]),
 (Z 141 false 144 (.fa (.t 143) 0) [143,141],.q [none]),
 (Z 141 false 145 (.fa (.t 144) 3) [144,141],.q [none]),(Z 141 false 146 (.ld (.t 145)) [145,141],.q [none]),
 (Z 141 false 147 (.len (.t 146)) [146,141],.q [none]),(Z 141 false 148 (.mv (.t 0)) [0,141],.q [none]),
 (Z 141 false 149 (.nc (.t 148)) [148,141],.q [none]),(Z 141 false 150 (.fa (.t 149) 0) [149,141],.q [none]),
 (Z 141 false 151 (.fa (.t 150) 0) [150,141],.q [none]),(Z 141 false 152 (.ld (.t 151)) [151,141],.q [none]),
 (Z 141 false 153 (.eq .int true (.t 147) (.t 152)) [147,152,141],.q [none]),(Y 154 (.pk (.t 141)
  (.c (.b true)) (.t 153)) [141,153],.q [none])]) (.cond (.t 154) (.seq (.region [Y 155 (.mv (.t 8)) [8],
 Y 2 (.mv (.t 155)) [155]]) .ret) .skip)) (.seq (.region [Y 2 (.mv (.c (.i .i64 (-1)))) []]) .ret))))))))))
set_option maxRecDepth 100000 in
theorem c84:fnB Tryz.prog 84=some (156,s84,[.t 2]):=by kernel_rfl
def RowOk (g:Gr) (c:Nat):Prop:=0<(gt g.co c).length∧gt (gt g.co c) 0=c∧∀i,i<(gt g.co c).length→IsE g (gt (gt g.co c) i) 2∧(gt g.ev (gt (gt g.co c) i).toNat).loc=c∧∀j,j<i→gt (gt g.co c) j≠gt (gt g.co c) i
structure Co2 where
 c:Nat
 sl:List Bool
 ml:List (Int × V)
 F:Int→Int
 bad:Int
structure P2 (g:Gr) (m0:Nat) (x:Co2):Prop where
 len:x.sl.length=g.ev.length
 le:∀c,x.F c≤WrC g c g.ev.length
 eq:∀c:Int,x.c≤c→x.F c=WrC g c g.ev.length
 b0:0≤x.bad
 b1:x.bad≤m0
 ok:x.bad=m0→∀c:Nat,c<x.c→RowOk g c∧x.F c=WrC g c g.ev.length-(gt g.co c).length
 no:x.bad<m0→∃c:Nat,c<x.c∧¬RowOk g c
 seen:∀i,i<g.ev.length→gt x.sl i=true→(gt g.ev i).loc<x.c
structure Co3 where
 i:Nat
 ok:Bool
 sl:List Bool
 ml:List (Int × V)
 F:Int→Int
structure P3 (g:Gr) (c:Nat) (F0:Int→Int) (x:Co3):Prop where
 len:x.sl.length=g.ev.length
 keep:∀c':Int,c'≠c→x.F c'=F0 c'
 hi:x.F c≤WrC g c g.ev.length
 lo:(WrC g c g.ev.length:Int)-x.i≤x.F c
 ok:x.ok=true→(0<(gt g.co c).length∧gt (gt g.co c) 0=c)∧x.F c=WrC g c g.ev.length-x.i∧(∀i,i<x.i→IsE g (gt (gt g.co c) i) 2∧(gt g.ev (gt (gt g.co c) i).toNat).loc=c∧∀j,j<i→gt (gt g.co c) j≠gt (gt g.co c) i)∧∀j,j<x.i→gt x.sl (gt (gt g.co c) j).toNat=true
 no:x.ok=false→¬RowOk g c
 seen:∀k:Nat,k<g.ev.length→gt x.sl k=true→(gt g.ev k).loc<c∨((gt g.ev k).loc=c∧∃j,j<x.i∧gt (gt g.co c) j=k)
theorem nodup_le:∀(l r:List Nat),l.Nodup→(∀x∈l,x∈r)→l.length≤r.length
 | [],_,_,_=>Nat.zero_le _
 | a :: l,r,hn,hs=>by
  rw[List.nodup_cons]at hn
  have h1:a∈r:=hs a List.mem_cons_self
  have h2:=nodup_le l (r.erase a) hn.2 fun x hx=>(List.mem_erase_of_ne (fun e:x=a=>hn.1 (by rw[←e];exact hx))).2 (hs x (List.mem_cons_of_mem _ hx))
  rw[List.length_erase_of_mem h1]at h2
  have h3:=List.length_pos_of_mem h1
  simp only[List.length_cons]
  omega
theorem RowOk.le {g:Gr} {c:Nat} (h:RowOk g c):(gt g.co c).length≤WrC g c g.ev.length:=by
 have h1:(((List.range (gt g.co c).length).map fun i=>(gt (gt g.co c) i).toNat)).length≤WrC g c g.ev.length:=by
  refine nodup_le _ _ ?_ fun x hx=>?_
  ·rw[List.nodup_iff_pairwise_ne,List.pairwise_map]
   refine List.Pairwise.imp_of_mem (R:=fun a b=>a<b) (fun {a b} ha hb hab e=>?_) List.pairwise_lt_range
   rw[List.mem_range]at ha hb
   obtain⟨⟨h3,-,-⟩,-,h4⟩:=h.2.2 b hb
   obtain⟨⟨h5,-,-⟩,-,-⟩:=h.2.2 a ha
   exact h4 a hab (by omega)
  ·obtain⟨i,hi,rfl⟩:=List.mem_map.1 hx
   rw[List.mem_range]at hi
   obtain⟨⟨h3,h4,h5⟩,h6,-⟩:=h.2.2 i hi
   refine List.mem_filter.2 ⟨List.mem_range.2 (by omega),?_⟩
   simp only[decide_eq_true_eq]
   exact⟨h5,h6⟩
 rw[List.length_map,List.length_range]at h1
 exact h1
set_option maxHeartbeats 0 in
theorem lco_spec {h:H} {b:Nat} {gl:List V} {vn:V} {g:Gr} {w:Bool} {nx:List Int} (hw:Wf h) (hg:LkAt h b gl vn g w nx) (hn:g.ev.length≤256) (hc0:0≤g.cells) (hcl:g.co.length≤100000000) (hcm:∀c,c<g.co.length→(gt g.co c).length≤100000000) (hpos:∀i,i<g.ev.length→(gt g.ev i).kind=2→0≤(gt g.ev i).loc):FX false Tryz.prog 84 [.p b 0] h fun v h'=>Iv v (CoOk g)∧Kp h h':=by
  obtain⟨ve,vrf,vco,vrmw,vad,vda,vct,rfl,he,-,hco,-⟩:=hg.gr.is
  obtain⟨vs,hvs,hvl,hR1⟩:=hco.is
  refine Fn.env c84 rfl ?_
  unfold s84
  have hB1:=hg.bx
  obtain⟨hL,hC1⟩:=he
  obtain⟨hL2,hV1⟩:=hvs
  rw[hvl]at hL2 hV1
  have hg1:=hg
  clear hg hco
  have hB:=hB1
  have k1:=Kp.refl h
  refine go ?_
  refine ew_mm .i64 fun bm h2 hM2 k2=>?_
  have hw2:=k2.wf hw
  have hB:=hB.kp k2 hw
  refine go ?_
  
  refine Es.loop (X:=Nat × List (Int × V)) (fun x=>g.ev.length-x.1) (fun x=>[(0,.p b 0),(3,.m bm),(21,ve),(22,.i .i64 (g.ev.length:Int)),(23,.i .i64 (x.1:Int))]) (fun x h'=>x.1≤g.ev.length∧Kp h h'∧Mp h' h.next bm .i64 x.2∧MF x.2 fun c=>WrC g c x.1) (0,[]) ⟨rfl,rfl,rfl,rfl,rfl,trivial⟩ ⟨Nat.zero_le _,k2,hM2,.nil⟩ fun x h3 hx=>?_
  obtain⟨r,ml⟩:=x
  obtain⟨hr,k3,hM,hF⟩:=hx
  simp only at hr hM hF ⊢
  clear hM2 k1
  have hw3:=k3.wf hw
  have hB:=hB1.kp k3 hw
  have hC:=hC1.kp k3 hw
  refine go ?_
  refine cD (fun hlt=>?_) (fun hge=>?_)
  · skip
    refine go ?_
    refine ew_al fun b5 h4 ob5 k4=>?_
    refine go ?_
    refine ew_st ob5 fun h5 ob6 m5=>?_
    have k5:Kp h3 h5:=m5.kp k4 fun j hj=>by injection hj with hj;subst hj;exact ob5.lo
    have hw5:=k5.wf hw3
    have hB5:=ob6.bx
    have hM:=hM.kp k5
    have hkp:=k3.trans k5
    clear k4 k5 ob5 ob6 m5 k3
    refine go ?_
    refine cD (fun hw2=>?_) (fun hw2=>?_)
    · skip
      refine go ?_
      refine ew_s .n (od_lk hM.at_ rfl rfl) ?_
      rw[hF.get]
      have hwl:=WrC_le g (gt g.ev r).loc r
      refine go ?_
      refine ew_mu hM fun h6 hM6 m6=>?_
      have hlo:=hM.lo
      refine go ?_
      exact Nx.inv (r+1,_) (by simp only;omega) ⟨rfl,rfl,rfl,rfl,rfl,trivial⟩ ⟨by simp only;omega,m6.kp hkp fun j hj=>by injection hj with hj;subst hj;exact hlo,hM6,by
        have h9:=hF.ins (gt g.ev r).loc ((WrC g (gt g.ev r).loc r:Int)+1)
        have e:(fun c=>if c=(gt g.ev r).loc then(WrC g (gt g.ev r).loc r:Int)+1 else(WrC g c r:Int))=fun c=>((WrC g c (r+1):Nat):Int):=funext fun c=>by
          by_cases e:c=(gt g.ev r).loc
          · rw[if_pos e,WrC_y ⟨hw2,e.symm⟩,e]
            rfl
          · rw[if_neg e,WrC_n fun h=>e h.2.symm]
        rw[e]at h9
        exact h9⟩
    · skip
      refine go ?_
      exact Nx.inv (r+1,ml) (by simp only;omega) ⟨rfl,rfl,rfl,rfl,rfl,trivial⟩ ⟨by simp only;omega,hkp,hM,by
        have e:(fun c=>((WrC g c r:Nat):Int))=fun c=>((WrC g c (r+1):Nat):Int):=funext fun c=>by
          rw[WrC_n fun h=>hw2 h.1]
        rw[e]at hF
        exact hF⟩
  have hrn:r=g.ev.length:=by omega
  subst hrn
  clear hge hr
  refine go ?_
  refine ew_ms (α:=Bool) (c:=bcell) (n:=g.ev.length) false (fun vz h4 hA4 k4=>?_) (by omega) (by omega)
  have hw4:=k4.wf hw3
  have hB:=hB.kp k4 hw3
  have hC:=hC.kp k4 hw3
  have hV:=(hV1.kp k3 hw).kp k4 hw3
  have hM4:=hM.kp k4
  have k04:=k3.trans k4
  have hbz:bm≠vz.ba:=by have:=hM.hi;have:=hA4.blk.2.1;omega
  have hA4:=hA4.low k3.le
  clear hM k4 k3
  refine go ?_
  obtain⟨m0,hm0⟩:∃m0:Nat,min (g.co.length:Int) g.cells=m0:=⟨(min (g.co.length:Int) g.cells).toNat,by omega⟩
  rw[hm0]
  refine go ?_
  refine ew_cut hL2 (m:=m0) (by omega) ?_
  obtain⟨hL3,-,-⟩:=cut_ln (m:=m0) hL2 (by omega)
  have hV0:=cut_cs (m:=m0) hL2 (by omega) hV1
  generalize hcv:cutV vco m0=vcc at hL3 hV0
  have hwr:∀c,WrC g c g.ev.length≤256:=fun c=>Nat.le_trans (WrC_le g c _) hn
  clear hV hB hC
  refine go ?_
  refine Es.loop (X:=Co2) (fun x=>m0-x.c) (fun x=>[(0,.p b 0),(3,.m bm),(6,vz),(7,.i .i64 (m0:Int)),(8,.i .i64 x.bad),(62,vcc),(63,.i .i64 (m0:Int)),(64,.i .i64 (x.c:Int))]) (fun x h'=>x.c≤m0∧Kp h h'∧Ar h' h.next vz 1 4 bcell x.sl∧Mp h' h.next bm .i64 x.ml∧MF x.ml x.F∧P2 g m0 x) ⟨0,List.replicate g.ev.length false,ml,fun c=>WrC g c g.ev.length,m0⟩ ⟨rfl,rfl,rfl,rfl,rfl,rfl,rfl,rfl,trivial⟩ ⟨Nat.zero_le _,k04,hA4,hM4,hF,by
    exact⟨List.length_replicate,fun c=>Int.le_refl _,fun c _=>rfl,by simp only;omega,Int.le_refl _,fun _ c hc=>absurd hc (Nat.not_lt_zero _),fun hc=>absurd hc (by simp only;omega),fun i hi hc=>by
      simp only at hc
      rw[gt_lt (by rw[List.length_replicate];exact hi),List.getElem_replicate]at hc
      cases hc⟩⟩ fun x h5 hx=>?_
  obtain⟨c,sl,ml,F,bad⟩:=x
  clear hF hM4 hA4 k04 hw4
  obtain⟨hc,k5,hA5,hM5,hF5,hP⟩:=hx
  simp only at hc hA5 hM5 hF5 ⊢
  have hw5:=k5.wf hw
  have hV:=hV0.kp k5 hw
  refine go ?_
  refine cD (fun hlt=>?_) (fun hge=>?_)
  · have hRc:=hR1 c (by omega)
    have hLc:Ln (vcell (gt vs c) 0) 1 (gt g.co c).length:=hRc.ln
    have hCc1:Cs h (vcell (gt vs c) 0) 1 (gt g.co c).length fun i k=>icell (gt (gt g.co c) i) k:=hRc.cs
    have hlr:=hcm c (by omega)
    have hCc:=hCc1.kp k5 hw
    
    have hrow:∀ok:Bool,(ok=true→0<(gt g.co c).length∧gt (gt g.co c) 0=c)→(ok=false→¬(0<(gt g.co c).length∧gt (gt g.co c) 0=c))→P3 g c F ⟨0,ok,sl,ml,F⟩:=fun ok h1 h2 =>
      ⟨hP.len,fun _ _=>rfl,hP.le c,by have:=hP.eq c (Int.le_refl _);simp only at this ⊢;omega,fun h=>⟨h1 h,by have:=hP.eq c (Int.le_refl _);simp only at this ⊢;omega,fun i hi=>absurd hi (Nat.not_lt_zero _),fun i hi=>absurd hi (Nat.not_lt_zero _)⟩,fun h hok=>h2 h ⟨hok.1,hok.2.1⟩,fun k hk h=>.inl (hP.seen k hk h)⟩
    refine go ?_
    refine EwG.mk fun _=>?_
    refine Ew.to (X:=Bool) (fun ok=>[(0,.p b 0),(3,.m bm),(6,vz),(7,.i .i64 (m0:Int)),(8,.i .i64 bad),(9,.i .i64 (c:Int)),(10,vcell (gt vs c) 0),(11,.b ok),(62,vcc),(63,.i .i64 (m0:Int)),(64,.i .i64 (c:Int))]) (fun ok h'=>h'=h5∧(ok=true↔0<(gt g.co c).length∧gt (gt g.co c) 0=c)) ?_ fun ok h6 hx=>?_
    · skip
      refine go ?_
      repeat' ((first|refine wgd ?_ ?_|refine wgn ?_ ?_|refine wgb ?_ ?_|refine mgd ?_ ?_|refine mgn ?_ ?_|refine mgb ?_ ?_|refine cD ?_ ?_|refine cN ?_ ?_|refine cB ?_ ?_)<;>intro _<;>refine go ?_)
      · exact⟨decide (gt (gt g.co c) 0=(c:Int)),⟨rfl,rfl,rfl,rfl,rfl,rfl,rfl,rfl,rfl,rfl,rfl,trivial⟩,rfl,by simp only[decide_eq_true_eq];exact⟨fun h=>⟨by omega,h⟩,fun h=>h.2⟩⟩
      · exact⟨false,⟨rfl,rfl,rfl,rfl,rfl,rfl,rfl,rfl,rfl,rfl,rfl,trivial⟩,rfl,⟨fun h=>absurd h (by decide),fun h=>by omega⟩⟩
    obtain⟨rfl,hok⟩:=hx
    have hP3:=hrow ok hok.1 fun h h2=>by rw[hok.2 h2]at h;cases h
    clear hrow hok
    refine go ?_
    refine Es.loop (X:=Co3) (fun x=>(gt g.co c).length-x.i) (fun x=>[(0,.p b 0),(3,.m bm),(6,vz),(7,.i .i64 (m0:Int)),(8,.i .i64 bad),(9,.i .i64 (c:Int)),(11,.b x.ok),(62,vcc),(63,.i .i64 (m0:Int)),(64,.i .i64 (c:Int)),(79,vcell (gt vs c) 0),(80,.i .i64 ((gt g.co c).length:Int)),(81,.i .i64 (x.i:Int))]) (fun x h'=>x.i≤(gt g.co c).length∧Kp h h'∧Ar h' h.next vz 1 4 bcell x.sl∧Mp h' h.next bm .i64 x.ml∧MF x.ml x.F∧P3 g c F x) ⟨0,ok,sl,ml,F⟩ ⟨rfl,rfl,rfl,rfl,rfl,rfl,rfl,rfl,rfl,rfl,rfl,rfl,rfl,trivial⟩ ⟨Nat.zero_le _,k5,hA5,hM5,hF5,hP3⟩ fun y h7 hy=>?_
    obtain⟨i,ok,sl,ml,F'⟩:=y
    clear hP3 hV hCc hw5
    obtain⟨hi,k7,hA7,hM7,hF7,hP7⟩:=hy
    simp only at hi hA7 hM7 hF7 ⊢
    have hw7:=k7.wf hw
    have hB:=hB1.kp k7 hw
    have hC:=hC1.kp k7 hw
    have hCc:=hCc1.kp k7 hw
    have hsl:sl.length=g.ev.length:=hP7.len
    have hLz:Ln vz 1 g.ev.length:=by rw[←hsl];exact hA7.ln
    have hCz:Cs h7 vz 1 g.ev.length fun i k=>bcell (gt sl i) k:=by rw[←hsl];exact hA7.cs
    refine go ?_
    refine cD (fun hlt2=>?_) (fun hge2=>?_)
    · have hg7:=hg1.kp k7 hw
      have hfail:∀okv:Bool,okv=false→¬RowOk g c→P3 g c F ⟨i+1,okv,sl,ml,F'⟩:=fun okv h1 h2=>⟨hP7.len,hP7.keep,hP7.hi,by have:=hP7.lo;simp only at this ⊢;omega,fun h=>by simp only[h1]at h;exact absurd h (by decide),fun _=>h2,fun k hk h=>(hP7.seen k hk h).imp id fun ⟨hl,j,h3,h4⟩=>⟨hl,j,Nat.lt_succ_of_lt h3,h4⟩⟩
      cases ok with
      | false =>
        have hno:=hP7.no rfl
        refine go ?_
        repeat' ((first|refine wgd ?_ ?_|refine wgn ?_ ?_|refine wgb ?_ ?_|refine mgd ?_ ?_|refine mgn ?_ ?_|refine mgb ?_ ?_|refine cD ?_ ?_|refine cN ?_ ?_|refine cB ?_ ?_)<;>intro _<;>refine go ?_)
        exact Nx.inv ⟨i+1,false,sl,ml,F'⟩ (by simp only;omega) ⟨rfl,rfl,rfl,rfl,rfl,rfl,rfl,rfl,rfl,rfl,rfl,rfl,rfl,trivial⟩ ⟨by simp only;omega,k7,hA7,hM7,hF7,hfail _ rfl hno⟩
      | true =>
        refine go ?_
        refine stC (lis_spec hg7) fun v h8 hR=>?_
        obtain⟨rfl,k8⟩:=hR
        have hA8:=hA7.mo (Mo.of_kp k8 none) (fun h=>by cases h)
        have hM8:=hM7.kp k8
        have hkp:=k7.trans k8
        have hB:=hB.kp k8 hw7
        have hC:=hC.kp k8 hw7
        have hCc:=hCc.kp k8 hw7
        have hCz:Cs h8 vz 1 g.ev.length fun i k=>bcell (gt sl i) k:=by rw[←hsl];exact hA8.cs
        clear k7 k8 hg7 hA7 hM7
        by_cases hE:IsE g (gt (gt g.co c) i) 2
        case neg =>
          have hE':=hE
          refine go ?_
          repeat' ((first|refine wgd ?_ ?_|refine wgn ?_ ?_|refine wgb ?_ ?_|refine mgd ?_ ?_|refine mgn ?_ ?_|refine mgb ?_ ?_|refine cD ?_ ?_|refine cN ?_ ?_|refine cB ?_ ?_)<;>intro _<;>refine go ?_)
          exact Nx.inv ⟨i+1,_,sl,ml,F'⟩ (by simp only;omega) ⟨rfl,rfl,rfl,rfl,rfl,rfl,rfl,rfl,rfl,rfl,rfl,rfl,rfl,trivial⟩ ⟨by simp only;omega,hkp,hA8,hM8,hF7,hfail _ (by first | rfl | exact decide_eq_false hE) fun h=>hE (h.2.2 i (by omega)).1⟩
        obtain⟨hE0,hE1,hE2⟩:=id hE
        refine go ?_
        repeat' ((first|refine wgd ?_ ?_|refine wgn ?_ ?_|refine wgb ?_ ?_|refine mgd ?_ ?_|refine mgn ?_ ?_|refine mgb ?_ ?_|refine cD ?_ ?_|refine cN ?_ ?_|refine cB ?_ ?_)<;>intro _<;>refine go ?_)
        all_goals try exact Nx.inv ⟨i+1,_,sl,ml,F'⟩ (by simp only;omega) ⟨rfl,rfl,rfl,rfl,rfl,rfl,rfl,rfl,rfl,rfl,rfl,rfl,rfl,trivial⟩ ⟨by simp only;omega,hkp,hA8,hM8,hF7,hfail _ (by first | rfl | exact decide_eq_false (by assumption) | assumption) fun h=>by
          have h1:=h.2.2 i (by omega)
          first
            | exact absurd h1.2.1 (by assumption)
            | (have h2:gt sl (gt (gt g.co c) i).toNat=true:=by
                have h3:(!gt sl (gt (gt g.co c) i).toNat)=false:=by assumption
                revert h3
                cases gt sl (gt (gt g.co c) i).toNat <;> decide
               have h3:=h1.2.1
               rcases hP7.seen _ (by omega) h2 with h4 | ⟨-,j,h4,h5⟩
               · omega
               · exact h1.2.2 j h4 (by rw[h5,Int.toNat_of_nonneg hE0]))⟩
        have hloc:(gt g.ev (gt (gt g.co c) i).toNat).loc=c:=by assumption
        have hns:gt sl (gt (gt g.co c) i).toNat=false:=by
          have h3:(!gt sl (gt (gt g.co c) i).toNat)=true:=by assumption
          revert h3
          cases gt sl (gt (gt g.co c) i).toNat <;> decide
        refine ew_ar true hA8 (i:=(gt (gt g.co c) i).toNat) (by omega) fun h9 hA9 m9=>?_
        have hM9:=hM8.mo m9 fun h=>by injection h with h;exact hbz h.symm
        have hkp9:=m9.kp hkp fun j hj=>by injection hj with hj;subst hj;exact hA8.blk.2.1
        have hFhi:=hP7.hi
        have hFlo:=hP7.lo
        have hwc:=hwr c
        simp only at hFhi hFlo
        refine go ?_
        refine ew_s .n (od_lk hM9.at_ rfl rfl) ?_
        rw[hF7.get]
        refine go ?_
        refine ew_mu hM9 fun h10 hM10 m10=>?_
        have hkp10:=m10.kp hkp9 fun j hj=>by injection hj with hj;subst hj;exact hM9.lo
        have hA10:=hA9.mo m10 fun h=>by injection h with h;exact hbz h
        have hok7:=hP7.ok rfl
        refine go ?_
        refine Nx.inv ⟨i+1,_,sl.set (gt (gt g.co c) i).toNat true,_,fun c'=>if c'=(c:Int)then F' c-1 else F' c'⟩ (by simp only;omega) ⟨rfl,rfl,rfl,rfl,rfl,rfl,rfl,rfl,rfl,rfl,rfl,rfl,rfl,trivial⟩ ⟨by simp only;omega,hkp10,hA10,hM10,hF7.ins (c:Int) (F' c-1),?_⟩
        refine⟨?_,?_,?_,?_,?_,?_,?_⟩
        · simp only[List.length_set];exact hsl
        · intro c' hc'
          simp only[if_neg hc']
          exact hP7.keep c' hc'
        · simp only[if_true];omega
        · simp only[if_true];omega
        · intro _
          obtain⟨h1,h2,h3,h4⟩:=hok7
          simp only at h2 h3 h4
          refine⟨h1,by simp only[if_true];omega,fun i' hi'=>?_,fun j hj=>?_⟩
          · simp only at hi'
            rcases Nat.lt_succ_iff_lt_or_eq.1 hi' with h9 | h9
            · exact h3 i' h9
            · subst h9
              refine⟨hE,hloc,fun j hj e=>?_⟩
              have:=h4 j hj
              rw[e,hns]at this
              cases this
          · simp only at hj ⊢
            rw[gt_set (by omega)]
            split
            · rfl
            · rcases Nat.lt_succ_iff_lt_or_eq.1 hj with h9 | h9
              · exact h4 j h9
              · subst h9;contradiction
        · intro h1
          simp only at h1
          rw[hns]at h1
          cases h1
        · intro k hk h1
          simp only at h1 ⊢
          rw[gt_set (by omega)]at h1
          by_cases e:k=(gt (gt g.co c) i).toNat
          · exact .inr ⟨by rw[e];exact hloc,i,Nat.lt_succ_self _,by omega⟩
          · rw[if_neg e]at h1
            exact(hP7.seen k hk h1).imp id fun ⟨hl,j,h3,h4⟩=>⟨hl,j,Nat.lt_succ_of_lt h3,h4⟩
    have hic:i=(gt g.co c).length:=by omega
    subst hic
    have h2le:=hP.le
    have h2eq:=hP.eq
    have h2b0:=hP.b0
    have h2b1:=hP.b1
    have h2ok:=hP.ok
    have h2no:=hP.no
    simp only at h2le h2eq h2b0 h2b1 h2ok h2no
    have hle':∀c',F' c'≤WrC g c' g.ev.length:=fun c'=>by
      by_cases e:c'=(c:Int)
      · rw[e];exact hP7.hi
      · have:=hP7.keep c' e
        simp only at this
        rw[this];exact h2le c'
    have heq':∀c':Int,(c:Int)+1≤c'→F' c'=WrC g c' g.ev.length:=fun c' hc'=>by
      have:=hP7.keep c' (by omega)
      simp only at this
      rw[this];exact h2eq c' (by omega)
    have hseen':∀k,k<g.ev.length→gt sl k=true→(gt g.ev k).loc<((c+1:Nat):Int):=fun k hk h=>by
      rcases hP7.seen k hk h with h1 | ⟨h1,-⟩ <;> omega
    cases ok with
    | false =>
      have hno:=hP7.no rfl
      refine go ?_
      repeat' ((first|refine wgd ?_ ?_|refine wgn ?_ ?_|refine wgb ?_ ?_|refine mgd ?_ ?_|refine mgn ?_ ?_|refine mgb ?_ ?_|refine cD ?_ ?_|refine cN ?_ ?_|refine cB ?_ ?_)<;>intro _<;>refine go ?_)
      exact Nx.inv ⟨c+1,sl,ml,F',min bad c⟩ (by simp only;omega) ⟨rfl,rfl,rfl,rfl,rfl,rfl,rfl,rfl,trivial⟩ ⟨by simp only;omega,k7,hA7,hM7,hF7,⟨hsl,hle',fun c' hc'=>heq' c' (by simp only at hc';omega),by simp only;omega,by simp only;omega,fun h=>by simp only at h;omega,fun _=>⟨c,Nat.lt_succ_self _,hno⟩,hseen'⟩⟩
    | true =>
      obtain⟨h1,h2,h3,-⟩:=hP7.ok rfl
      simp only at h2 h3
      refine go ?_
      repeat' ((first|refine wgd ?_ ?_|refine wgn ?_ ?_|refine wgb ?_ ?_|refine mgd ?_ ?_|refine mgn ?_ ?_|refine mgb ?_ ?_|refine cD ?_ ?_|refine cN ?_ ?_|refine cB ?_ ?_)<;>intro _<;>refine go ?_)
      exact Nx.inv ⟨c+1,sl,ml,F',bad⟩ (by simp only;omega) ⟨rfl,rfl,rfl,rfl,rfl,rfl,rfl,rfl,trivial⟩ ⟨by simp only;omega,k7,hA7,hM7,hF7,⟨hsl,hle',fun c' hc'=>heq' c' (by simp only at hc';omega),h2b0,h2b1,fun h c' hc'=>by
        simp only at h hc' ⊢
        rcases Nat.lt_succ_iff_lt_or_eq.1 hc' with h9 | h9
        · have h8:=hP7.keep c' (by omega)
          simp only at h8
          rw[h8]
          exact h2ok h c' h9
        · subst h9
          exact⟨⟨h1.1,h1.2,h3⟩,h2⟩,fun h=>by
        obtain⟨c',h4,h5⟩:=h2no h
        exact⟨c',Nat.lt_succ_of_lt h4,h5⟩,hseen'⟩⟩
  obtain rfl:c=m0:=by omega
  have h2le:=hP.le
  have h2b0:=hP.b0
  have h2b1:=hP.b1
  have h2ok:=hP.ok
  have h2no:=hP.no
  simp only at h2le h2b0 h2b1 h2ok h2no
  clear hge hP hV hA5
  refine go ?_
  
  refine ew_rg hM5 fun bi h6 hI6 k6=>?_
  have hI6:It h6 h.next bi bm ml.length []:=⟨Nat.le_trans k5.le hI6.lo,hI6.hi,hI6.at_⟩
  have hM6:=hM5.kp k6
  have k06:=k5.trans k6
  clear k5 k6 hM5 hw5
  refine go ?_
  refine Es.loop (X:=List Nat × Int) (fun x=>toCome ml.length x.1) (fun x=>[(0,.p b 0),(7,.i .i64 (c:Int)),(8,.i .i64 x.2),(127,.p bi 0)]) (fun x h'=>Kp h h'∧Mp h' h.next bm .i64 ml∧It h' h.next bi bm ml.length x.1∧0≤x.2∧x.2≤c∧(x.2<c→bad<c∨∃c':Int,0≤c'∧c'<c∧0<F c')∧x.2≤bad∧∀i (hi:i<ml.length),i∈x.1→0<F (ml[i]).1→x.2≤(ml[i]).1) ([],bad) ⟨rfl,rfl,rfl,rfl,trivial⟩ ⟨k06,hM6,hI6,h2b0,h2b1,fun h=>.inl h,Int.le_refl _,fun i _ hi=>absurd hi List.not_mem_nil⟩ fun x h7 hx=>?_
  obtain⟨seen,bd⟩:=x
  clear hM6 hI6 k06
  obtain⟨k7,hM7,hI7,hb0,hb1,hb2,hb3,hb4⟩:=hx
  simp only at hI7 hb0 hb1 hb2 hb3 hb4 ⊢
  have hw7:=k7.wf hw
  have hB:=hB1.kp k7 hw
  have hpF:∀c':Int,0<F c'→0≤c':=fun c' hc'=>by
    have h1:=h2le c'
    have h2:0<WrC g c' g.ev.length:=by omega
    unfold WrC at h2
    obtain⟨i,hi⟩:=List.exists_mem_of_length_pos h2
    obtain⟨h3,h4⟩:=List.mem_filter.1 hi
    rw[List.mem_range]at h3
    simp only[decide_eq_true_eq]at h4
    rw[←h4.2]
    exact hpos i h3 h4.1
  refine go ?_
  refine ew_next rfl hM7 hI7 (fun hall=>?_) (fun i hl h8 hs hI8 m8=>?_)
  · have hmin:∀c',0<F c'→bd≤c':=fun c' hc'=>by
      obtain⟨q,hq,e⟩:=hF5.has c' (by omega)
      obtain⟨i,hi,e2⟩:=List.mem_iff_getElem.1 hq
      have:=hb4 i hi (hall i hi) (by rw[e2,e];exact hc')
      rw[e2,e]at this
      exact this
    have hA:CoOk g→(c:Int)≤bd∧(g.co.length:Int)=g.cells:=fun hok=>⟨by
      have h1:∀c':Nat,c'<c→CoAt g c':=fun c' hc'=>hok.1 c' (by clear hb2 h2no;omega) (by clear hb2 h2no;omega)
      have h2:∀c':Nat,c'<c→RowOk g c':=fun c' hc'=>⟨(h1 c' hc').1,(h1 c' hc').2.1,(h1 c' hc').2.2.2⟩
      have hbad:bad=c:=by
        rcases Int.lt_or_le bad c with h3 | h3
        · obtain⟨c',h4,h5⟩:=h2no h3
          exact absurd (h2 c' h4) h5
        · clear hb2 h2no;omega
      rcases Int.lt_or_le bd c with h3 | h3
      · rcases hb2 h3 with h4 | ⟨c',h4,h5,h6⟩
        · clear hb2 h2no;omega
        · obtain⟨k,rfl⟩:=Int.eq_ofNat_of_zero_le h4
          have h7:=(h2ok hbad k (by clear hb2 h2no;omega)).2
          have h8:=(h1 k (by clear hb2 h2no;omega)).2.2.1
          clear hb2 h2no;omega
      · exact h3,hok.2⟩
    have hZ:(c:Int)≤bd→(g.co.length:Int)=g.cells→CoOk g:=fun h1 h2=>⟨fun c' h3 h4=>by
      have hbad:bad=c:=by clear hb2 h2no;omega
      obtain⟨h5,h6⟩:=h2ok hbad c' (by clear hb2 h2no;omega)
      have h7:=h5.le
      have h8:¬0<F c':=fun h=>by have:=hmin c' h;clear hb2 h2no;omega
      exact⟨h5.1,h5.2.1,by clear hb2 h2no;omega,h5.2.2⟩,h2⟩
    clear hb4 hb2 h2ok h2no hall
    refine go ?_
    repeat' ((first|refine wgd ?_ ?_|refine wgn ?_ ?_|refine wgb ?_ ?_|refine mgd ?_ ?_|refine mgn ?_ ?_|refine mgb ?_ ?_|refine cD ?_ ?_|refine cN ?_ ?_|refine cB ?_ ?_)<;>intro _<;>refine go ?_)
    all_goals first
      | exact ret_1 ⟨.n (hZ (by omega) (by omega)),k7⟩
      | exact ret_1 ⟨⟨bd,rfl,fun h=>by omega,fun hok=>by have:=hA hok;omega⟩,k7⟩
  · have hv:=hF5.val _ (List.getElem_mem hl)
    have hM8:=hM7.mo m8 fun h=>by injection h with h;subst h;have h1:=hM7.at_;have h2:=hI7.at_;unfold MapAt at h1;unfold IterAt at h2;rw[h1]at h2;cases h2
    have k8:=m8.kp k7 fun j hj=>by injection hj with hj;subst hj;exact hI7.lo
    rw[hv]
    refine go ?_
    refine ew_en hM8 hI8 hl ?_
    rw[hv]
    have hlt:=toCome_lt hl hs
    have hstep:∀bd':Int,bd'≤bd→(0<F (ml[i]).1→bd'≤(ml[i]).1)→∀j (hj:j<ml.length),j∈seen++[i]→0<F (ml[j]).1→bd'≤(ml[j]).1:=fun bd' h1 h2 j hj h3 h4=>by
      rcases List.mem_append.1 h3 with h5 | h5
      · exact Int.le_trans h1 (hb4 j hj h5 h4)
      · obtain rfl:=List.mem_singleton.1 h5
        exact h2 h4
    refine go ?_
    refine cD (fun hp=>?_) (fun hp=>?_)
    · have hk0:=hpF _ hp
      refine go ?_
      exact Nx.inv (seen++[i],min bd (ml[i]).1) hlt ⟨rfl,rfl,rfl,rfl,trivial⟩ ⟨k8,hM8,hI8,by simp only;omega,by simp only;omega,fun h=>by
        simp only at h
        rcases Int.lt_or_le bd c with h3 | h3
        · exact hb2 h3
        · exact .inr ⟨_,hk0,by omega,hp⟩,by simp only;omega,hstep _ (by simp only;omega) fun _=>by simp only;omega⟩
    · skip
      refine go ?_
      exact Nx.inv (seen++[i],bd) hlt ⟨rfl,rfl,rfl,rfl,trivial⟩ ⟨k8,hM8,hI8,hb0,hb1,hb2,hb3,hstep _ (Int.le_refl _) fun h=>absurd h hp⟩
def s81 : Sc:=(.seq (.region [Y 1 (.bx 22 (.t 0)) [0],Y 2 (.mv (.c .nf)) []])
  (.seq (.region [Y 3 (.mf (.func 151) [] [.t 1]) [1],Y 2 (.mv (.t 3)) [3]]) .ret))
set_option maxRecDepth 100000 in
theorem c81:fnB Tryz.prog 81=some (4,s81,[.t 2]):=by kernel_rfl
def s151 : Sc:=(.seq (.region [Y 4 (.ld (.t 1)) [1],Y 5 (.len (.t 4)) [4],Y 6 (.ar .sub (.t 5) (.c (.i .i64 1))) [5],
 Y 3 (.mv (.t 6)) [6]]) (.block 0 (.loop (.seq (.seq (.region [Y 7 (.mv (.t 3)) [3],Y 8 (.ar .geq (.t 7)
  (.c (.i .i64 0))) [7]]) (.cond (.t 8) .skip (.exit 0)))
  (.seq (.block 1 (.seq (.region [Y 11 (.mv (.t 0)) [0],Y 12 (.mv (.t 3)) [3],Y 13 (.ld (.t 1)) [1],
 Y 14 (.mv (.t 3)) [3],Y 15 (.ia (.t 13) (.t 14) 5) [13,14],Y 16 (.lds (.t 15) 5) [15],
 Y 17 (.callv (.t 11) [.t 12,.t 16]) [11,12,16],Y 18 (.nt (.t 17)) [17]]) (.cond (.t 18) .ret .skip)))
  (.region [Y 9 (.mv (.t 3)) [3],Y 10 (.ar .sub (.t 9) (.c (.i .i64 1))) [9],Y 3 (.mv (.t 10)) [10]]))))))
set_option maxRecDepth 100000 in
theorem c151:fnB Tryz.prog 151=some (19,s151,[]):=by kernel_rfl
theorem mo_put {h:H} {b:Nat} {o:Option O} (hb:b<h.next):Mo h ⟨h.next,h.t.set b o⟩ (some b):=⟨Nat.le_refl _,fun k _ hne=>by
 show(h.t.set b o).get k=_
 rw[Tr.get_set,if_neg (fun e=>hne (by rw[e]))],fun hw k O hk=>by
 have hk:(h.t.set b o).get k=some O:=hk
 rw[Tr.get_set]at hk
 show k<h.next
 by_cases e:k=b
 ·omega
 ·rw[if_neg e]at hk
  exact hw k O hk⟩
set_option maxHeartbeats 0 in
theorem back_spec {J:Nat→H→Prop} {h:H} {b bx:Nat} {v:V} {evs:List Ev_} (hn:evs.length<4611686018427387904) (h0:J evs.length h) (hJ:∀i h,J i h→Bx h bx [v]∧Ro h v 5 ecell evs)
  (hy:∀i h,i<evs.length→J (i+1) h→YX false Tryz.prog b [.i .i64 (i:Int),.agg (upto (ecell (gt evs i)) 5 0)] h fun v h'=>v=.b true∧J i h'):FX false Tryz.prog 151 [.y b,.p bx 0] h fun _ h'=>J 0 h':=by
 refine Fn.env c151 rfl ?_
 unfold s151
 obtain⟨hB,hL,hC⟩:=hJ _ _ h0
 refine go ?_
 refine Es.loop (X:=Nat) (fun x=>x) (fun x=>[(0,.y b),(1,.p bx 0),(3,.i .i64 ((x:Int)-1))]) (fun x h'=>x≤evs.length∧J x h') evs.length ⟨rfl,rfl,rfl,trivial⟩ ⟨Nat.le_refl _,h0⟩ fun x h2 hx=>?_
 obtain⟨hx,hJ2⟩:=hx
 obtain⟨hB,hL,hC⟩:=hJ _ _ hJ2
 cases x with
 | zero =>
  refine go ?_
  first | exact ret_0 (R:=fun _ h=>J 0 h) hJ2 | exact end_0 (R:=fun _ h=>J 0 h) hJ2
 | succ i =>
  have e1:(((i+1:Nat):Int)-1)=(i:Int):=by omega
  rw[e1]
  refine go ?_
  refine ew_y .n rfl rfl (hy i h2 (by omega) hJ2) fun v h3 hR=>?_
  obtain⟨rfl,hJ3⟩:=hR
  refine go ?_
  exact Nx.inv i (Nat.lt_succ_self i) ⟨rfl,rfl,rfl,trivial⟩ ⟨by omega,hJ3⟩
theorem Es.back {N:Nat} {R:Env→H→Prop} {K:List Fr} {e:Env} {h:H} {x:Rd} {p1 p2:Nat} {sa sb:Sc} {bx:Nat} {v:V} {evs:List Ev_} (φ:Nat→H→Prop) (hx:x.lk e=some (.fn (.func 151) [] [.p bx 0])) (hn:evs.length<4611686018427387904)
  (hφ:∀i h',φ i h'→Bx h' bx [v]∧Ro h' v 5 ecell evs)
  (hset:∀i h' o,h.next<h'.next→φ i h'→φ i ⟨h'.next,h'.t.set h.next (some o)⟩)
  (h0:∀o,φ evs.length ⟨h.next+1,h.t.set h.next (some o)⟩)
  (hb:∀r i h1,i<evs.length→h.next<h1.next→φ (i+1) h1→Es ⟨false,Tryz.prog,r,N,fun _ _=>False⟩ [.cut fun e2 h2=>h.next<h2.next∧h2.t.get h.next=h1.t.get h.next∧∀o,Es ⟨false,Tryz.prog,r,N,fun _ _=>False⟩ [.cut fun _ h4=>φ i h4∧h.next<h4.next∧h4.t.get h.next=some o] sb e2 ⟨h2.next,h2.t.set h.next (some o)⟩] sa ((p2,.agg (upto (ecell (gt evs i)) 5 0)) :: (p1,.i .i64 (i:Int)) :: e) h1)
  (hend:∀h',h.next<h'.next→φ 0 h'→Nx ⟨false,Tryz.prog,none,N,R⟩ K e ⟨h'.next,h'.t.set h.next none⟩):Es ⟨false,Tryz.prog,none,N,R⟩ K (.range x [p1,p2] sa sb) e h:=⟨fun t ht=>by
 refine SX.range (m:=false) (Rd.lk_val hx ht) fun sc bd has hbd=>?_
 show Fn _ _ _ _ _
 refine Fn.mono (back_spec (J:=fun i h'=>φ i h'∧h.next<h'.next∧h'.t.get h.next=some (.loop .ready t N [p1,p2] sc bd)) hn ⟨h0 _,Nat.lt_succ_self _,by
  show(h.t.set h.next _).get h.next=_
  rw[Tr.get_set,if_pos rfl]⟩ (fun i h' hj=>hφ i h' hj.1) fun i h1 hi hj=>?_) fun _ h2 hj=>?_
 ·obtain⟨h3,h4,h5⟩:=hj
  show Yd _ _ _ _ _
  refine Yd.of h5 rfl has hbd fun r=>?_
  have h6:=((hb r i h1 hi h4 h3).run _ ((ht.set p1 (.i .i64 (i:Int))).set p2 (.agg (upto (ecell (gt evs i)) 5 0)))).sw
  refine SW.mono h6 fun y t2 h2 ⟨e2,ht2,hk⟩=>?_
  cases y with
  | exit j=>exact hk.2.elim
  | ret=>exact hk.2.elim
  | normal =>
   obtain⟨h7,h8,h9⟩:=hk
   refine⟨rfl,t,N,[p1,p2],sc,bd,by rw[h8];exact h5,?_⟩
   refine SW.mono ((h9 _).run _ ht2).sw fun y t4 h4 ⟨e4,ht4,hk4⟩=>?_
   cases y with
   | exit j=>exact hk4.2.elim
   | ret=>exact hk4.2.elim
   | normal =>
    obtain⟨h10,h11,h12⟩:=hk4
    refine⟨t,N,[p1,p2],sc,bd,h12,rfl,hset i h4 _ h11 h10,h11,?_⟩
    show(h4.t.set h.next _).get h.next=_
    rw[Tr.get_set,if_pos rfl]
    rfl
 ·obtain⟨h3,h4,h5⟩:=hj
  exact⟨.ready,t,N,[p1,p2],sc,bd,h5,.inl ⟨rfl,e,ht,(hend h2 h4 h3).run⟩⟩⟩
theorem EsC.to {C:Cx} {K:List Fr} {c:Bool} {a b:Sc} {e:Env} {h:H} {X:Type} (env:X→Env) (φ:X→H→Prop) (hs:EsC C (.cut (fun e h=>∃x,Cov e (env x)∧φ x h) :: K) c a b e h) (hb:∀x h,φ x h→Nx C K (env x) h):EsC C K c a b e h:=⟨fun h=>Es.to env φ (hs.t h) hb,fun h=>Es.to env φ (hs.f h) hb⟩
structure Sm (g:Gr):Prop where
 ev:g.ev.length≤10000000
 rf:g.rf.length≤10000000
 co:g.co.length≤10000000
 row:∀c,c<g.co.length→(gt g.co c).length≤10000000
 rmw:g.rmw.length≤10000000
 addr:g.addr.length≤10000000
 data:g.data.length≤10000000
 ctrl:g.ctrl.length≤10000000
theorem cells_one {v:V} (h:v.one=true):v.cells = [v]:=by
 cases v <;> first | rfl | cases h
end Go.Proofs.YtkcdehffcddciaaGreatDoor.Vm
