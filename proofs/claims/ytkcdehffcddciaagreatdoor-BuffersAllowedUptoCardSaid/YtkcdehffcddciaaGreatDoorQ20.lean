/- The program's rules 6 to 9. -/
import Derived.Test.YtkcdehffcddciaaGreatDoorQ19
namespace Go.Proofs.YtkcdehffcddciaaGreatDoor.Vm
open Go Go.RowKit
def s85 : Sc:=(.seq (.region [Y 2 (.mv (.c (.i .i64 0))) []]) (.seq (.seq (.region [Y 5 (.mv (.t 0)) [0],
 Y 6 (.nc (.t 5)) [5],Y 7 (.fa (.t 6) 0) [6],Y 8 (.fa (.t 7) 4) [7],Y 9 (.ld (.t 8)) [8],
 Y 10 (.len (.t 9)) [9],Y 11 (.mv (.c (.i .i64 0))) []])
  (.block 0 (.loop (.seq (.region [Y 12 (.ar .lss (.t 11) (.t 10)) [11,10]])
  (.seq (.cond (.t 12) .skip (.exit 0)) (.seq (.block 1 (.seq (.region [Y 13 (.mv (.t 11)) [11],
 Y 14 (.ia (.t 9) (.t 11) 2) [9,11],Y 15 (.lds (.t 14) 2) [14],Y 4 (.al 39 [.i .i64 0,.i .i64 0]) [],
 Y 3 (.mv (.t 13)) [13],⟨none,none,.st (.t 4) (.t 15) 2,[4,15]⟩])
  (.seq (.mix [(Y 16 (.mv (.t 3)) [3],.q [none]),(Y 17 (.ar .gtr (.t 16) (.c (.i .i64 0))) [16],.q [none]),
 (Y 18 (.mv (.t 17)) [17],.q [none]),(Z 18 true 19 (.fa (.t 4) 0) [4,18],.q [none]),
 (Z 18 true 20 (.ld (.t 19)) [19,18],.q [none]),(Z 18 true 21 (.mv (.t 0)) [0,18],.q [none]),
 (Z 18 true 22 (.nc (.t 21)) [21,18],.q [none]),(Z 18 true 23 (.fa (.t 22) 0) [22,18],.q [none]),
 (Z 18 true 24 (.fa (.t 23) 4) [23,18],.q [none]),(Z 18 true 25 (.ld (.t 24)) [24,18],.q [none]),
 (Z 18 true 26 (.mv (.t 3)) [3,18],.q [none]),(Z 18 true 27 (.ar .sub (.t 26)
  (.c (.i .i64 1))) [26,18],.q [none]),(Z 18 true 28 (.ia (.t 25) (.t 27) 2) [25,27,18],.q [none]),
 (Z 18 true 29 (.fa (.t 28) 0) [28,18],.q [none]),(Z 18 true 30 (.ld (.t 29)) [29,18],.q [none]),
 (Z 18 true 31 (.ar .leq (.t 20) (.t 30)) [20,30,18],.q [none]),(Y 32 (.pk (.t 18) (.t 31)
  (.c (.b false))) [18,31],.q [none]),(Y 33 (.mv (.t 32)) [32],.q [none]),
 (Z 33 false 34 (.mv (.t 0)) [0,33],.q [none]),(Z 33 false 35 (.fa (.t 4) 0) [4,33],.q [none]),
 (Z 33 false 36 (.ld (.t 35)) [35,33],.q [none]),
 (Z 33 false 37 (.call 154 [.t 34,.t 36,.c (.i .i64 1)]) [34,36,33],.e),
 (Z 33 false 38 (.nt (.t 37)) [37,33],.q [some 21]),(Y 39 (.pk (.t 33) (.c (.b true))
  (.t 38)) [33,38],.q [some 21]),(Y 40 (.mv (.t 39)) [39],.q [some 21]),
 (Z 40 false 41 (.mv (.t 0)) [0,40],.q [some 21]),(Z 40 false 42 (.fa (.t 4) 1) [4,40],.q [some 21]),
 (Z 40 false 43 (.ld (.t 42)) [42,40],.q [some 21]),
 (Z 40 false 44 (.call 154 [.t 41,.t 43,.c (.i .i64 2)]) [41,43,40],.e),
 (Z 40 false 45 (.nt (.t 44)) [44,40],.q [some 28]),(Y 46 (.pk (.t 40) (.c (.b true))
  (.t 45)) [40,45],.q [some 28]),(Y 47 (.mv (.t 46)) [46],.q [some 28]),
 (Z 47 false 48 (.mv (.t 0)) [0,47],.q [some 28]),(Z 47 false 49 (.nc (.t 48)) [48,47],.q [some 28]),
 (Z 47 false 50 (.fa (.t 49) 9) [49,47],.q [some 28]),(Z 47 false 51 (.ld (.t 50)) [50,47],.q [some 28]),
 (Z 47 false 52 (.fa (.t 4) 0) [4,47],.q [some 28]),(Z 47 false 53 (.ld (.t 52)) [52,47],.q [some 28]),
 (Z 47 false 54 (.ia (.t 51) (.t 53) 1) [51,53,47],.q [some 28]),
 (Z 47 false 55 (.ld (.t 54)) [54,47],.q [some 28]),(Z 47 false 56 (.fa (.t 4) 1) [4,47],.q [some 28]),
 (Z 47 false 57 (.ld (.t 56)) [56,47],.q [some 28]),(Z 47 false 58 (.eq .int true (.t 55)
  (.t 57)) [55,57,47],.q [some 28]),(Y 59 (.pk (.t 47) (.c (.b true)) (.t 58)) [47,58],.q [some 28]),
 (Y 60 (.mv (.t 59)) [59],.q [some 28]),(Z 60 false 61 (.mv (.t 0)) [0,60],.q [some 28]),
 (Z 60 false 62 (.nc (.t 61)) [61,60],.q [some 28]),(Z 60 false 63 (.fa (.t 62) 0) [62,60],.q [some 28]),
 (Z 60 false 64 (.fa (.t 63) 1) [63,60],.q [some 28]),(Z 60 false 65 (.ld (.t 64)) [64,60],.q [some 28]),
 (Z 60 false 66 (.fa (.t 4) 0) [4,60],.q [some 28]),(Z 60 false 67 (.ld (.t 66)) [66,60],.q [some 28]),
 (Z 60 false 68 (.ia (.t 65) (.t 67) 5) [65,67,60],.q [some 28]),
 (Z 60 false 69 (.fa (.t 68) 2) [68,60],.q [some 28]),(Z 60 false 70 (.ld (.t 69)) [69,60],.q [some 28]),
 (Z 60 false 71 (.mv (.t 0)) [0,60],.q [some 28]),(Z 60 false 72 (.nc (.t 71)) [71,60],.q [some 28]),
 (Z 60 false 73 (.fa (.t 72) 0) [72,60],.q [some 28]),(Z 60 false 74 (.fa (.t 73) 1) [73,60],.q [some 28]),
 (Z 60 false 75 (.ld (.t 74)) [74,60],.q [some 28]),(Z 60 false 76 (.fa (.t 4) 1) [4,60],.q [some 28]),
 (Z 60 false 77 (.ld (.t 76)) [76,60],.q [some 28]),(Z 60 false 78 (.ia (.t 75)
  (.t 77) 5) [75,77,60],.q [some 28]),(Z 60 false 79 (.fa (.t 78) 2) [78,60],.q [some 28]),
 (Z 60 false 80 (.ld (.t 79)) [79,60],.q [some 28]),(Z 60 false 81 (.eq .int true (.t 70)
  (.t 80)) [70,80,60],.q [some 28]),(Y 82 (.pk (.t 60) (.c (.b true)) (.t 81)) [60,81],.q [some 28])])
  (.cond (.t 82) (.seq (.region [Y 83 (.mv (.t 3)) [3],Y 2 (.mv (.t 83)) [83]]) .ret) .skip))))
  (.region [Y 84 (.ar .add (.t 11) (.c (.i .i64 1))) [11],Y 11 (.mv (.t 84)) [84]])))))))
  (.seq (.region [Y 2 (.mv (.c (.i .i64 (-1)))) []]) .ret)))
set_option maxRecDepth 100000 in
theorem c85:fnB Tryz.prog 85=some (85,s85,[.t 2]):=by kernel_rfl
def s86 : Sc:=(.seq (.region [Y 6 (.mv (.c (.i .i64 0))) []]) (.seq (.seq (.region [Y 9 (.mv (.t 1)) [1],
 Y 10 (.len (.t 9)) [9],Y 11 (.mv (.c (.i .i64 0))) []])
  (.block 0 (.loop (.seq (.region [Y 12 (.ar .lss (.t 11) (.t 10)) [11,10]])
  (.seq (.cond (.t 12) .skip (.exit 0)) (.seq (.block 1 (.seq (.region [Y 13 (.mv (.t 11)) [11],
 Y 14 (.ia (.t 9) (.t 11) 2) [9,11],Y 15 (.lds (.t 14) 2) [14],Y 8 (.al 39 [.i .i64 0,.i .i64 0]) [],
 Y 7 (.mv (.t 13)) [13],⟨none,none,.st (.t 8) (.t 15) 2,[8,15]⟩])
  (.seq (.mix [(Y 16 (.mv (.t 7)) [7],.q [none]),(Y 17 (.ar .gtr (.t 16) (.c (.i .i64 0))) [16],.q [none]),
 (Y 18 (.mv (.t 17)) [17],.q [none]),(Z 18 true 19 (.fa (.t 8) 0) [8,18],.q [none]),
 (Z 18 true 20 (.ld (.t 19)) [19,18],.q [none]),(Z 18 true 21 (.mv (.t 1)) [1,18],.q [none]),
 (Z 18 true 22 (.mv (.t 7)) [7,18],.q [none]),(Z 18 true 23 (.ar .sub (.t 22)
  (.c (.i .i64 1))) [22,18],.q [none]),(Z 18 true 24 (.ia (.t 21) (.t 23) 2) [21,23,18],.q [none]),
 (Z 18 true 25 (.fa (.t 24) 0) [24,18],.q [none]),(Z 18 true 26 (.ld (.t 25)) [25,18],.q [none]),
 (Z 18 true 27 (.ar .lss (.t 20) (.t 26)) [20,26,18],.q [none]),
 (Z 18 true 28 (.mv (.t 27)) [27,18],.q [none]),(Z 28 false 29 (.fa (.t 8) 0) [8,28],.q [none]),
 (Z 28 false 30 (.ld (.t 29)) [29,28],.q [none]),(Z 28 false 31 (.mv (.t 1)) [1,28],.q [none]),
 (Z 28 false 32 (.mv (.t 7)) [7,28],.q [none]),(Z 28 false 33 (.ar .sub (.t 32)
  (.c (.i .i64 1))) [32,28],.q [none]),(Z 28 false 34 (.ia (.t 31) (.t 33) 2) [31,33,28],.q [none]),
 (Z 28 false 35 (.fa (.t 34) 0) [34,28],.q [none]),(Z 28 false 36 (.ld (.t 35)) [35,28],.q [none]),
 (Z 28 false 37 (.eq .int false (.t 30) (.t 36)) [30,36,28],.q [none]),
 (Z 28 false 38 (.mv (.t 37)) [37,28],.q [none]),(Z 38 true 39 (.fa (.t 8) 1) [8,38],.q [none]),
 (Z 38 true 40 (.ld (.t 39)) [39,38],.q [none]),(Z 38 true 41 (.mv (.t 1)) [1,38],.q [none]),
 (Z 38 true 42 (.mv (.t 7)) [7,38],.q [none]),(Z 38 true 43 (.ar .sub (.t 42)
  (.c (.i .i64 1))) [42,38],.q [none]),(Z 38 true 44 (.ia (.t 41) (.t 43) 2) [41,43,38],.q [none]),
 (Z 38 true 45 (.fa (.t 44) 1) [44,38],.q [none]),(Z 38 true 46 (.ld (.t 45)) [45,38],.q [none]),
 (Z 38 true 47 (.ar .leq (.t 40) (.t 46)) [40,46,38],.q [none]),(Z 28 false 48 (.pk (.t 38) (.t 47)
  (.c (.b false))) [38,47,28],.q [none]),(Z 18 true 49 (.pk (.t 28) (.c (.b true))
  (.t 48)) [28,48,18],.q [none]),(Y 50 (.pk (.t 18) (.t 49) (.c (.b false))) [18,49],.q [none]),
 (Y 51 (.mv (.t 50)) [50],.q [none]),(Z 51 false 52 (.mv (.t 0)) [0,51],.q [none]),
 (Z 51 false 53 (.nc (.t 52)) [52,51],.q [none]),(Z 51 false 54 (.fa (.t 53) 8) [53,51],.q [none]),
 (Z 51 false 55 (.ld (.t 54)) [54,51],.q [none]),(Z 51 false 56 (.nt (.t 55)) [55,51],.q [none]),
 (Y 57 (.pk (.t 51) (.c (.b true)) (.t 56)) [51,56],.q [none]),(Y 58 (.mv (.t 57)) [57],.q [none]),
 (Z 58 false 59 (.mv (.t 0)) [0,58],.q [none]),(Z 58 false 60 (.fa (.t 8) 0) [8,58],.q [none]),
 (Z 58 false 61 (.ld (.t 60)) [60,58],.q [none]),
 (Z 58 false 62 (.call 154 [.t 59,.t 61,.c (.i .i64 1)]) [59,61,58],.e),
 (Z 58 false 63 (.nt (.t 62)) [62,58],.q [some 46]),(Y 64 (.pk (.t 58) (.c (.b true))
  (.t 63)) [58,63],.q [some 46]),(Y 65 (.mv (.t 64)) [64],.q [some 46]),
 (Z 65 false 66 (.mv (.t 0)) [0,65],.q [some 46]),(Z 65 false 67 (.fa (.t 8) 0) [8,65],.q [some 46]),
 (Z 65 false 68 (.ld (.t 67)) [67,65],.q [some 46]),(Z 65 false 69 (.fa (.t 8) 1) [8,65],.q [some 46]),
 (Z 65 false 70 (.ld (.t 69)) [69,65],.q [some 46]),
 (Z 65 false 71 (.call 155 [.t 66,.t 68,.t 70]) [66,68,70,65],.e),
 (Z 65 false 72 (.nt (.t 71)) [71,65],.q [some 55]),(Y 73 (.pk (.t 65) (.c (.b true))
  (.t 72)) [65,72],.q [some 55]),(Y 74 (.mv (.t 73)) [73],.q [some 55]),
 (Z 74 false 75 (.mv (.t 2)) [2,74],.q [some 55]),(Z 74 false 76 (.mv (.t 0)) [0,74],.q [some 55]),
 (Z 74 false 77 (.nc (.t 76)) [76,74],.q [some 55]),(Z 74 false 78 (.fa (.t 77) 0) [77,74],.q [some 55]),
 (Z 74 false 79 (.fa (.t 78) 1) [78,74],.q [some 55]),(Z 74 false 80 (.ld (.t 79)) [79,74],.q [some 55]),
 (Z 74 false 81 (.fa (.t 8) 1) [8,74],.q [some 55]),(Z 74 false 82 (.ld (.t 81)) [81,74],.q [some 55]),
 (Z 74 false 83 (.ia (.t 80) (.t 82) 5) [80,82,74],.q [some 55]),
 (Z 74 false 84 (.fa (.t 83) 1) [83,74],.q [some 55]),(Z 74 false 85 (.ld (.t 84)) [84,74],.q [some 55]),
 (Z 74 false 86 (.call 152 [.t 75,.t 85]) [75,85,74],.e),(Z 74 false 87 (.nt (.t 86)) [86,74],.q [some 70]),
 (Y 88 (.pk (.t 74) (.c (.b true)) (.t 87)) [74,87],.q [some 70])]) (.cond (.t 88)
  (.seq (.region [Y 89 (.mv (.t 7)) [7],Y 6 (.mv (.t 89)) [89]]) .ret) .skip))))
  (.region [Y 90 (.ar .add (.t 11) (.c (.i .i64 1))) [11],Y 11 (.mv (.t 90)) [90]])))))))
  (.seq (.region [Y 6 (.mv (.c (.i .i64 (-1)))) []]) .ret)))
set_option maxRecDepth 100000 in
theorem c86:fnB Tryz.prog 86=some (91,s86,[.t 6]):=by kernel_rfl
set_option maxHeartbeats 0 in
theorem lrmw_spec {m:Bool} {h:H} {b:Nat} {gl:List V} {vn:V} {g:Gr} {w:Bool} {nx:List Int} (hw:Wf h) (hg:LkAt h b gl vn g w nx) (_hn:g.ev.length≤256) (hnr:g.rmw.length≤100000000):FX m Tryz.prog 85 [.p b 0] h fun v h'=>Iv v (RmwOk g)∧Kp h h':=by
 obtain⟨ve,vrf,vco,vrmw,vad,vda,vct,rfl,he,-,-,hl,-⟩:=hg.gr.is
 refine Fn.env c85 rfl ?_
 unfold s85
 have hB1:=hg.bx
 obtain⟨hL,hC1⟩:=he
 obtain⟨hL2,hD1⟩:=hl
 obtain⟨hL3,hN1⟩:=hg.ro
 have hlen:=hg.len
 have hnxt:=hg.next
 have hB:=hB1
 have hg1:=hg
 clear hg
 refine go ?_
 refine Es.loop (X:=Nat) (fun x=>g.rmw.length-x) (fun x=>[(0,.p b 0),(9,vrmw),(10,.i .i64 (g.rmw.length:Int)),(11,.i .i64 (x:Int))]) (fun x h'=>x≤g.rmw.length∧Kp h h'∧∀i,i<x→RmwAt g i) 0 ⟨rfl,rfl,rfl,rfl,trivial⟩ ⟨Nat.zero_le _,.refl _,fun r hr=>absurd hr (Nat.not_lt_zero _)⟩ fun i h2 hx=>?_
 obtain⟨hi,k2,hI⟩:=hx
 have hw2:=k2.wf hw
 have hB:=hB1.kp k2 hw
 have hC:=hC1.kp k2 hw
 have hD:=hD1.kp k2 hw
 have hN:=hN1.kp k2 hw
 have hkp:=k2
 refine go ?_
 refine cD (fun hlt=>?_) (fun hge=>?_)
 ·skip
  refine go ?_
  refine ew_al fun b5 h3 ob5 k3=>?_
  refine go ?_
  refine ew_st ob5 fun h4 ob6 m4=>?_
  have k4:Kp h2 h4:=m4.kp k3 fun j hj=>by injection hj with hj;subst hj;exact ob5.lo
  have hw4:=k4.wf hw2
  have hB5:=ob6.bx
  have hB:=hB.kp k4 hw2
  have hC:=hC.kp k4 hw2
  have hD:=hD.kp k4 hw2
  have hN:=hN.kp k4 hw2
  have hg4:=hg1.kp (k2.trans k4) hw
  have hkp:=hkp.trans k4
  clear k4 k2 m4 k3 ob6 ob5
  have e1:((i:Int)-1).toNat=i-1:=by omega
  refine go ?_
  repeat' ((first|refine wgd ?_ ?_|refine wgn ?_ ?_|refine wgb ?_ ?_|refine mgd ?_ ?_|refine mgn ?_ ?_|refine mgb ?_ ?_|refine cD ?_ ?_|refine cN ?_ ?_|refine cB ?_ ?_)<;>intro _<;>refine go ?_)
  all_goals try exact ret_1 ⟨.y fun hok=>by have h9:=(hok i (by omega)).1;simp only[e1]at *;omega,hkp⟩
  all_goals
   refine mC (lis_spec hg4) fun v h5 hR=>⟨.nil,?_⟩
   obtain⟨rfl,k5⟩:=hR
   have hw5:=k5.wf hw4
   have hB5:=hB5.kp k5 hw4
   have hB:=hB.kp k5 hw4
   have hC:=hC.kp k5 hw4
   have hN:=hN.kp k5 hw4
   have hg5:=hg4.kp k5 hw4
   have hkp:=hkp.trans k5
   clear k5 hg4
   by_cases hE1:IsE g (gt g.rmw i).1 1
   case neg =>
    have hE':=hE1
    refine go ?_
    repeat' ((first|refine wgd ?_ ?_|refine wgn ?_ ?_|refine wgb ?_ ?_|refine mgd ?_ ?_|refine mgn ?_ ?_|refine mgb ?_ ?_|refine cD ?_ ?_|refine cN ?_ ?_|refine cB ?_ ?_)<;>intro _<;>refine go ?_)
    all_goals first
     | exact ret_1 ⟨.y fun hok=>absurd (hok i (by omega)).2.1 hE1,hkp⟩
     | exact absurd (by assumption) hE'
   obtain⟨hF1,hF2,hF3⟩:=id hE1
   refine go ?_
   repeat' ((first|refine wgd ?_ ?_|refine wgn ?_ ?_|refine wgb ?_ ?_|refine mgd ?_ ?_|refine mgn ?_ ?_|refine mgb ?_ ?_|refine cD ?_ ?_|refine cN ?_ ?_|refine cB ?_ ?_)<;>intro _<;>refine go ?_)
   all_goals try exact absurd hE1 (by assumption)
   refine mC (lis_spec hg5) fun v h6 hR=>⟨.nil,?_⟩
   obtain⟨rfl,k5⟩:=hR
   have hw6:=k5.wf hw5
   have hB5:=hB5.kp k5 hw5
   have hB:=hB.kp k5 hw5
   have hC:=hC.kp k5 hw5
   have hN:=hN.kp k5 hw5
   have hg6:=hg5.kp k5 hw5
   have hkp:=hkp.trans k5
   clear k5 hg5
   by_cases hE2:IsE g (gt g.rmw i).2 2
   case neg =>
    have hE':=hE2
    refine go ?_
    repeat' ((first|refine wgd ?_ ?_|refine wgn ?_ ?_|refine wgb ?_ ?_|refine mgd ?_ ?_|refine mgn ?_ ?_|refine mgb ?_ ?_|refine cD ?_ ?_|refine cN ?_ ?_|refine cB ?_ ?_)<;>intro _<;>refine go ?_)
    all_goals first
     | exact ret_1 ⟨.y fun hok=>absurd (hok i (by omega)).2.2.1 hE2,hkp⟩
     | exact absurd (by assumption) hE'
   obtain⟨hF4,hF5,hF6⟩:=id hE2
   have hnx:=hnxt (gt g.rmw i).1.toNat (by omega) (gt g.rmw i).2 hF4
   rw[Int.toNat_of_nonneg hF1]at hnx
   refine go ?_
   repeat' ((first|refine wgd ?_ ?_|refine wgn ?_ ?_|refine wgb ?_ ?_|refine mgd ?_ ?_|refine mgn ?_ ?_|refine mgb ?_ ?_|refine cD ?_ ?_|refine cN ?_ ?_|refine cB ?_ ?_)<;>intro _<;>refine go ?_)
   all_goals first
    | exact absurd hE2 (by assumption)
    | exact ret_1 ⟨.y fun hok=>by have h9:=hok i (by omega);first | exact absurd (hnx.2 h9.2.2.2.1) (by assumption) | exact absurd h9.2.2.2.2 (by assumption),hkp⟩
    | exact Nx.inv (i+1) (by omega) ⟨rfl,rfl,rfl,rfl,trivial⟩ ⟨by omega,hkp,fun i' h3=>by
      rcases Nat.lt_succ_iff_lt_or_eq.1 h3 with h4 | h4
      ·exact hI i' h4
      ·subst h4;exact⟨fun _=>by simp only[e1]at *;omega,hE1,hE2,hnx.1 (by assumption),by assumption⟩⟩
 ·have hin:i=g.rmw.length:=by omega
  subst hin
  refine go ?_
  exact ret_1 ⟨.n hI,hkp⟩
def DepAtK (g:Gr) (l:List (Int × Int)) (w:Bool) (ks:List Int) (i:Nat):Prop:=(0<i→(gt l (i-1)).1<(gt l i).1∨((gt l (i-1)).1=(gt l i).1∧(gt l (i-1)).2<(gt l i).2))∧w=true∧IsE g (gt l i).1 1∧Bef g (gt l i).1 (gt l i).2∧(gt g.ev (gt l i).2.toNat).kind∈ks
def DepOkK (g:Gr) (l:List (Int × Int)) (w:Bool) (ks:List Int):Prop:=∀i,i<l.length→DepAtK g l w ks i
set_option maxHeartbeats 0 in
theorem ldeps_spec {m:Bool} {h:H} {b:Nat} {gl:List V} {vn vl vk:V} {g:Gr} {w:Bool} {nx:List Int} {l:List (Int × Int)} {ks:List Int} (hw:Wf h) (hg:LkAt h b gl vn g w nx) (hl:Ro h vl 2 pcell l) (hk:Ro h vk 1 icell ks) (hnl:l.length≤100000000) (hnk:ks.length≤10):FX m Tryz.prog 86 [.p b 0,vl,vk] h fun v h'=>Iv v (DepOkK g l w ks)∧Kp h h':=by
 obtain⟨ve,vrf,vco,vrmw,vad,vda,vct,rfl,he,-⟩:=hg.gr.is
 refine Fn.env c86 rfl ?_
 unfold s86
 have hB1:=hg.bx
 obtain⟨hL,hC1⟩:=he
 obtain⟨hL2,hD1⟩:=hl
 have hN1:=hk
 have hB:=hB1
 have hg1:=hg
 clear hg
 refine go ?_
 refine Es.loop (X:=Nat) (fun x=>l.length-x) (fun x=>[(0,.p b 0),(1,vl),(2,vk),(9,vl),(10,.i .i64 (l.length:Int)),(11,.i .i64 (x:Int))]) (fun x h'=>x≤l.length∧Kp h h'∧∀i,i<x→DepAtK g l w ks i) 0 ⟨rfl,rfl,rfl,rfl,rfl,rfl,trivial⟩ ⟨Nat.zero_le _,.refl _,fun r hr=>absurd hr (Nat.not_lt_zero _)⟩ fun i h2 hx=>?_
 obtain⟨hi,k2,hI⟩:=hx
 have hw2:=k2.wf hw
 have hB:=hB1.kp k2 hw
 have hC:=hC1.kp k2 hw
 have hD:=hD1.kp k2 hw
 have hN:=hN1.kp k2 hw
 have hkp:=k2
 refine go ?_
 refine cD (fun hlt=>?_) (fun hge=>?_)
 ·skip
  refine go ?_
  refine ew_al fun b5 h3 ob5 k3=>?_
  refine go ?_
  refine ew_st ob5 fun h4 ob6 m4=>?_
  have k4:Kp h2 h4:=m4.kp k3 fun j hj=>by injection hj with hj;subst hj;exact ob5.lo
  have hw4:=k4.wf hw2
  have hB5:=ob6.bx
  have hB:=hB.kp k4 hw2
  have hC:=hC.kp k4 hw2
  have hD:=hD.kp k4 hw2
  have hN:=hN.kp k4 hw2
  have hg4:=hg1.kp (k2.trans k4) hw
  have hkp:=hkp.trans k4
  clear k4 k2 m4 k3 ob6 ob5
  have e1:((i:Int)-1).toNat=i-1:=by omega
  cases w
  ·skip
   refine go ?_
   repeat' ((first|refine wgd ?_ ?_|refine wgn ?_ ?_|refine wgb ?_ ?_|refine mgd ?_ ?_|refine mgn ?_ ?_|refine mgb ?_ ?_|refine cD ?_ ?_|refine cN ?_ ?_|refine cB ?_ ?_)<;>intro _<;>refine go ?_)
   all_goals exact ret_1 ⟨.y fun hok=>absurd (hok i (by omega)).2.1 (by decide),hkp⟩
  refine go ?_
  repeat' ((first|refine wgd ?_ ?_|refine wgn ?_ ?_|refine wgb ?_ ?_|refine mgd ?_ ?_|refine mgn ?_ ?_|refine mgb ?_ ?_|refine cD ?_ ?_|refine cN ?_ ?_|refine cB ?_ ?_)<;>intro _<;>refine go ?_)
  all_goals try exact ret_1 ⟨.y fun hok=>by have h9:=(hok i (by omega)).1;simp only[e1]at *;omega,hkp⟩
  all_goals
   refine mC (lis_spec hg4) fun v h5 hR=>⟨.nil,?_⟩
   obtain⟨rfl,k5⟩:=hR
   have hw5:=k5.wf hw4
   have hB5:=hB5.kp k5 hw4
   have hB:=hB.kp k5 hw4
   have hC:=hC.kp k5 hw4
   have hN:=hN.kp k5 hw4
   have hg5:=hg4.kp k5 hw4
   have hkp:=hkp.trans k5
   clear k5 hg4
   by_cases hE1:IsE g (gt l i).1 1
   case neg =>
    have hE':=hE1
    refine go ?_
    repeat' ((first|refine wgd ?_ ?_|refine wgn ?_ ?_|refine wgb ?_ ?_|refine mgd ?_ ?_|refine mgn ?_ ?_|refine mgb ?_ ?_|refine cD ?_ ?_|refine cN ?_ ?_|refine cB ?_ ?_)<;>intro _<;>refine go ?_)
    all_goals first
     | exact ret_1 ⟨.y fun hok=>absurd (hok i (by omega)).2.2.1 hE1,hkp⟩
     | exact absurd (by assumption) hE'
   refine go ?_
   repeat' ((first|refine wgd ?_ ?_|refine wgn ?_ ?_|refine wgb ?_ ?_|refine mgd ?_ ?_|refine mgn ?_ ?_|refine mgb ?_ ?_|refine cD ?_ ?_|refine cN ?_ ?_|refine cB ?_ ?_)<;>intro _<;>refine go ?_)
   all_goals try exact absurd hE1 (by assumption)
   refine mC (lpo_spec hg5) fun v h6 hR=>⟨.nil,?_⟩
   obtain⟨rfl,k5⟩:=hR
   have hw6:=k5.wf hw5
   have hB5:=hB5.kp k5 hw5
   have hB:=hB.kp k5 hw5
   have hC:=hC.kp k5 hw5
   have hN:=hN.kp k5 hw5
   have hg6:=hg5.kp k5 hw5
   have hkp:=hkp.trans k5
   clear k5 hg5
   by_cases hBf:Bef g (gt l i).1 (gt l i).2
   case neg =>
    have hE':=hBf
    refine go ?_
    repeat' ((first|refine wgd ?_ ?_|refine wgn ?_ ?_|refine wgb ?_ ?_|refine mgd ?_ ?_|refine mgn ?_ ?_|refine mgb ?_ ?_|refine cD ?_ ?_|refine cN ?_ ?_|refine cB ?_ ?_)<;>intro _<;>refine go ?_)
    all_goals first
     | exact ret_1 ⟨.y fun hok=>absurd (hok i (by omega)).2.2.2.1 hBf,hkp⟩
     | exact absurd (by assumption) hE'
   obtain⟨hF1,hF2,hF3,-,-⟩:=id hBf
   refine go ?_
   repeat' ((first|refine wgd ?_ ?_|refine wgn ?_ ?_|refine wgb ?_ ?_|refine mgd ?_ ?_|refine mgn ?_ ?_|refine mgb ?_ ?_|refine cD ?_ ?_|refine cN ?_ ?_|refine cB ?_ ?_)<;>intro _<;>refine go ?_)
   all_goals try exact absurd hBf (by assumption)
   refine mC (contains_spec hN (by omega)) fun v h7 hR=>⟨.nil,?_⟩
   obtain⟨rfl,rfl⟩:=hR
   refine go ?_
   repeat' ((first|refine wgd ?_ ?_|refine wgn ?_ ?_|refine wgb ?_ ?_|refine mgd ?_ ?_|refine mgn ?_ ?_|refine mgb ?_ ?_|refine cD ?_ ?_|refine cN ?_ ?_|refine cB ?_ ?_)<;>intro _<;>refine go ?_)
   all_goals first
    | exact ret_1 ⟨.y fun hok=>absurd (hok i (by omega)).2.2.2.2 (by assumption),hkp⟩
    | exact Nx.inv (i+1) (by omega) ⟨rfl,rfl,rfl,rfl,rfl,rfl,trivial⟩ ⟨by omega,hkp,fun i' h3=>by
      rcases Nat.lt_succ_iff_lt_or_eq.1 h3 with h4 | h4
      ·exact hI i' h4
      ·subst h4;exact⟨fun _=>by simp only[e1]at *;omega,rfl,hE1,hBf,by assumption⟩⟩
 ·have hin:i=l.length:=by omega
  subst hin
  refine go ?_
  exact ret_1 ⟨.n hI,hkp⟩
def s82 : Sc:=(.seq (.region [Y 2 (.mv (.c (.i .i64 0))) []]) (.seq (.seq (.region [Y 6 (.mv (.t 0)) [0],
 Y 7 (.nc (.t 6)) [6],Y 8 (.fa (.t 7) 0) [7],Y 9 (.fa (.t 8) 0) [8],Y 10 (.ld (.t 9)) [9],
 Y 3 (.mv (.t 10)) [10]]) (.block 0 (.loop (.seq (.seq (.region [Y 11 (.mv (.t 3)) [3],Y 12 (.mv (.t 0)) [0],
 Y 13 (.nc (.t 12)) [12],Y 14 (.fa (.t 13) 0) [13],Y 15 (.fa (.t 14) 1) [14],Y 16 (.ld (.t 15)) [15],
 Y 17 (.len (.t 16)) [16],Y 18 (.ar .lss (.t 11) (.t 17)) [11,17]]) (.cond (.t 18) .skip (.exit 0)))
  (.seq (.block 1 (.seq (.region [Y 21 (.mv (.t 0)) [0],Y 22 (.nc (.t 21)) [21],Y 23 (.fa (.t 22) 0) [22],
 Y 24 (.fa (.t 23) 1) [23],Y 25 (.ld (.t 24)) [24],Y 26 (.mv (.t 3)) [3],Y 27 (.ia (.t 25) (.t 26) 5) [25,26],
 Y 28 (.lds (.t 27) 5) [27],Y 4 (.al 37 [.i .i64 0,.i .i64 0,.i .i64 0,.i .u64 0,.i .i64 0]) [],
 ⟨none,none,.st (.t 4) (.t 28) 5,[4,28]⟩]) (.seq (.mix [(Y 29 (.fa (.t 4) 0) [4],.q [none]),
 (Y 30 (.ld (.t 29)) [29],.q [none]),(Y 31 (.ar .geq (.t 30) (.c (.i .i64 0))) [30],.q [none]),
 (Y 32 (.mv (.t 31)) [31],.q [none]),(Z 32 true 33 (.fa (.t 4) 0) [4,32],.q [none]),
 (Z 32 true 34 (.ld (.t 33)) [33,32],.q [none]),(Z 32 true 35 (.ar .lss (.t 34)
  (.c (.i .i64 64))) [34,32],.q [none]),(Y 36 (.pk (.t 32) (.t 35) (.c (.b false))) [32,35],.q [none]),
 (Y 37 (.mv (.t 36)) [36],.q [none]),(Z 37 true 38 (.fa (.t 4) 1) [4,37],.q [none]),
 (Z 37 true 39 (.ld (.t 38)) [38,37],.q [none]),(Z 37 true 40 (.mv (.t 0)) [0,37],.q [none]),
 (Z 37 true 41 (.nc (.t 40)) [40,37],.q [none]),(Z 37 true 42 (.fa (.t 41) 8) [41,37],.q [none]),
 (Z 37 true 43 (.ld (.t 42)) [42,37],.q [none]),(Z 37 true 44 (.call 153 [.t 39,.t 43]) [39,43,37],.e),
 (Z 37 true 45 (.fa (.t 4) 4) [4,37],.q [none,some 15]),
 (Z 37 true 46 (.ld (.t 45)) [45,37],.q [none,some 15]),
 (Z 37 true 47 (.call 152 [.t 44,.t 46]) [44,46,37],.e),(Y 48 (.pk (.t 37) (.t 47)
  (.c (.b false))) [37,47],.q [some 18]),(Y 5 (.mv (.t 48)) [48],.q [some 18])])
  (.seq (.seq (.region [Y 49 (.fa (.t 4) 1) [4],Y 50 (.ld (.t 49)) [49],Y 51 (.eq .int false (.t 50)
  (.c (.i .i64 3))) [50]]) (.cond (.t 51) (.region [Y 52 (.mv (.t 5)) [5],Y 53 (.mv (.t 52)) [52],
 Z 53 true 54 (.fa (.t 4) 2) [4,53],Z 53 true 55 (.ld (.t 54)) [54,53],Z 53 true 56 (.eq .int false (.t 55)
  (.c (.i .i64 (-1)))) [55,53],Y 57 (.pk (.t 53) (.t 56) (.c (.b false))) [53,56],Y 58 (.mv (.t 57)) [57],
 Z 58 true 59 (.fa (.t 4) 3) [4,58],Z 58 true 60 (.ld (.t 59)) [59,58],Z 58 true 61 (.eq .int false (.t 60)
  (.c (.i .u64 0))) [60,58],Y 62 (.pk (.t 58) (.t 61) (.c (.b false))) [58,61],Y 5 (.mv (.t 62)) [62]])
  (.mix [(Y 63 (.mv (.t 5)) [5],.q [none]),(Y 64 (.mv (.t 63)) [63],.q [none]),
 (Z 64 true 65 (.fa (.t 4) 2) [4,64],.q [none]),(Z 64 true 66 (.ld (.t 65)) [65,64],.q [none]),
 (Z 64 true 67 (.ar .geq (.t 66) (.c (.i .i64 0))) [66,64],.q [none]),(Y 68 (.pk (.t 64) (.t 67)
  (.c (.b false))) [64,67],.q [none]),(Y 69 (.mv (.t 68)) [68],.q [none]),
 (Z 69 true 70 (.fa (.t 4) 2) [4,69],.q [none]),(Z 69 true 71 (.ld (.t 70)) [70,69],.q [none]),
 (Z 69 true 72 (.mv (.t 0)) [0,69],.q [none]),(Z 69 true 73 (.nc (.t 72)) [72,69],.q [none]),
 (Z 69 true 74 (.fa (.t 73) 0) [73,69],.q [none]),(Z 69 true 75 (.fa (.t 74) 0) [74,69],.q [none]),
 (Z 69 true 76 (.ld (.t 75)) [75,69],.q [none]),(Z 69 true 77 (.ar .lss (.t 71)
  (.t 76)) [71,76,69],.q [none]),(Y 78 (.pk (.t 69) (.t 77) (.c (.b false))) [69,77],.q [none]),
 (Y 5 (.mv (.t 78)) [78],.q [none])]))) (.seq (.region [Y 79 (.mv (.t 5)) [5],Y 80 (.nt (.t 79)) [79]])
  (.cond (.t 80) (.seq (.region [Y 81 (.mv (.t 3)) [3],Y 2 (.mv (.t 81)) [81]]) .ret) .skip))))))
  (.region [Y 19 (.mv (.t 3)) [3],Y 20 (.ar .add (.t 19) (.c (.i .i64 1))) [19],Y 3 (.mv (.t 20)) [20]]))))))
  (.seq (.region [Y 2 (.mv (.c (.i .i64 (-1)))) []]) .ret)))
set_option maxRecDepth 100000 in
theorem c82:fnB Tryz.prog 82=some (82,s82,[.t 2]):=by kernel_rfl
def s83 : Sc:=(.seq (.region [Y 2 (.mv (.c (.i .i64 0))) []]) (.seq (.region [Y 3 (.mv (.c (.i .i64 0))) []])
  (.seq (.seq (.region [Y 7 (.mv (.t 0)) [0],Y 8 (.nc (.t 7)) [7],Y 9 (.fa (.t 8) 0) [8],
 Y 10 (.fa (.t 9) 1) [9],Y 11 (.ld (.t 10)) [10],Y 12 (.len (.t 11)) [11],Y 13 (.mv (.c (.i .i64 0))) []])
  (.block 0 (.loop (.seq (.region [Y 14 (.ar .lss (.t 13) (.t 12)) [13,12]])
  (.seq (.cond (.t 14) .skip (.exit 0)) (.seq (.block 1 (.seq (.region [Y 15 (.mv (.t 13)) [13],
 Y 16 (.ia (.t 11) (.t 13) 5) [11,13],Y 17 (.lds (.t 16) 5) [16],
 Y 5 (.al 37 [.i .i64 0,.i .i64 0,.i .i64 0,.i .u64 0,.i .i64 0]) [],Y 4 (.mv (.t 15)) [15],
 ⟨none,none,.st (.t 5) (.t 17) 5,[5,17]⟩]) (.seq (.seq (.region [Y 18 (.fa (.t 5) 1) [5],
 Y 19 (.ld (.t 18)) [18],Y 20 (.eq .int true (.t 19) (.c (.i .i64 1))) [19]]) (.cond (.t 20) (.exit 1) .skip))
  (.seq (.seq (.region [Y 21 (.mv (.t 3)) [3],Y 22 (.mv (.t 0)) [0],Y 23 (.nc (.t 22)) [22],
 Y 24 (.fa (.t 23) 0) [23],Y 25 (.fa (.t 24) 2) [24],Y 26 (.ld (.t 25)) [25],Y 27 (.len (.t 26)) [26],
 Y 28 (.eq .int false (.t 21) (.t 27)) [21,27],Y 29 (.mv (.t 28)) [28],Z 29 false 30 (.mv (.t 0)) [0,29],
 Z 29 false 31 (.nc (.t 30)) [30,29],Z 29 false 32 (.fa (.t 31) 0) [31,29],
 Z 29 false 33 (.fa (.t 32) 2) [32,29],Z 29 false 34 (.ld (.t 33)) [33,29],Z 29 false 35 (.mv (.t 3)) [3,29],
 Z 29 false 36 (.ia (.t 34) (.t 35) 2) [34,35,29],Z 29 false 37 (.fa (.t 36) 1) [36,29],
 Z 29 false 38 (.ld (.t 37)) [37,29],Z 29 false 39 (.mv (.t 4)) [4,29],Z 29 false 40 (.eq .int true (.t 38)
  (.t 39)) [38,39,29],Y 41 (.pk (.t 29) (.c (.b true)) (.t 40)) [29,40],Y 42 (.mv (.t 41)) [41],
 Z 42 false 43 (.mv (.t 0)) [0,42],Z 42 false 44 (.mv (.t 0)) [0,42],Z 42 false 45 (.nc (.t 44)) [44,42],
 Z 42 false 46 (.fa (.t 45) 0) [45,42],Z 42 false 47 (.fa (.t 46) 2) [46,42],
 Z 42 false 48 (.ld (.t 47)) [47,42],Z 42 false 49 (.mv (.t 3)) [3,42],Z 42 false 50 (.ia (.t 48)
  (.t 49) 2) [48,49,42],Z 42 false 51 (.fa (.t 50) 0) [50,42],Z 42 false 52 (.ld (.t 51)) [51,42],
 Z 42 false 53 (.call 154 [.t 43,.t 52,.c (.i .i64 2)]) [43,52,42],Z 42 false 54 (.nt (.t 53)) [53,42],
 Y 55 (.pk (.t 42) (.c (.b true)) (.t 54)) [42,54]]) (.cond (.t 55) (.seq (.region [Y 56 (.mv (.t 3)) [3],
 Y 2 (.mv (.t 56)) [56]]) .ret) .skip)) (.seq (.seq (.mix [(Y 57 (.mv (.t 0)) [0],.q [none]),
 (Y 58 (.nc (.t 57)) [57],.q [none]),(Y 59 (.fa (.t 58) 0) [58],.q [none]),
 (Y 60 (.fa (.t 59) 1) [59],.q [none]),(Y 61 (.ld (.t 60)) [60],.q [none]),(Y 62 (.mv (.t 0)) [0],.q [none]),
 (Y 63 (.nc (.t 62)) [62],.q [none]),(Y 64 (.fa (.t 63) 0) [63],.q [none]),
 (Y 65 (.fa (.t 64) 2) [64],.q [none]),(Y 66 (.ld (.t 65)) [65],.q [none]),(Y 67 (.mv (.t 3)) [3],.q [none]),
 (Y 68 (.ia (.t 66) (.t 67) 2) [66,67],.q [none]),(Y 69 (.fa (.t 68) 0) [68],.q [none]),
 (Y 70 (.ld (.t 69)) [69],.q [none]),(Y 71 (.ia (.t 61) (.t 70) 5) [61,70],.q [none]),
 (Y 72 (.lds (.t 71) 5) [71],.q [none]),
 (Y 6 (.al 37 [.i .i64 0,.i .i64 0,.i .i64 0,.i .u64 0,.i .i64 0]) [],.soft),(⟨none,none,.st (.t 6)
  (.t 72) 5,[6,72]⟩,.e)]) (.seq (.region [Y 73 (.fa (.t 6) 2) [6],Y 74 (.ld (.t 73)) [73],
 Y 75 (.fa (.t 5) 2) [5],Y 76 (.ld (.t 75)) [75],Y 77 (.eq .int true (.t 74) (.t 76)) [74,76],
 Y 78 (.mv (.t 77)) [77],Z 78 false 79 (.fa (.t 6) 3) [6,78],Z 78 false 80 (.ld (.t 79)) [79,78],
 Z 78 false 81 (.fa (.t 5) 3) [5,78],Z 78 false 82 (.ld (.t 81)) [81,78],Z 78 false 83 (.eq .int true (.t 80)
  (.t 82)) [80,82,78],Y 84 (.pk (.t 78) (.c (.b true)) (.t 83)) [78,83]]) (.cond (.t 84)
  (.seq (.region [Y 85 (.mv (.t 3)) [3],Y 2 (.mv (.t 85)) [85]]) .ret) .skip)))
  (.region [Y 86 (.mv (.t 3)) [3],Y 87 (.ar .add (.t 86) (.c (.i .i64 1))) [86],Y 3 (.mv (.t 87)) [87]]))))))
  (.region [Y 88 (.ar .add (.t 13) (.c (.i .i64 1))) [13],Y 13 (.mv (.t 88)) [88]])))))))
  (.seq (.seq (.region [Y 89 (.mv (.t 3)) [3],Y 90 (.mv (.t 0)) [0],Y 91 (.nc (.t 90)) [90],
 Y 92 (.fa (.t 91) 0) [91],Y 93 (.fa (.t 92) 2) [92],Y 94 (.ld (.t 93)) [93],Y 95 (.len (.t 94)) [94],
 Y 96 (.ar .lss (.t 89) (.t 95)) [89,95]]) (.cond (.t 96) (.seq (.region [Y 97 (.mv (.t 3)) [3],
 Y 2 (.mv (.t 97)) [97]]) .ret) .skip)) (.seq (.region [Y 2 (.mv (.c (.i .i64 (-1)))) []]) .ret)))))
set_option maxRecDepth 100000 in
theorem c83:fnB Tryz.prog 83=some (98,s83,[.t 2]):=by kernel_rfl
def EvsOk (g:Gr) (w:Bool):Prop:=∀i:Nat,g.cells≤i→i<g.ev.length→EvOk g.cells (gt g.ev i) w
set_option maxHeartbeats 0 in
theorem levents_spec {m:Bool} {h:H} {b:Nat} {gl:List V} {vn:V} {g:Gr} {w:Bool} {nx:List Int} (hw:Wf h) (hg:LkAt h b gl vn g w nx) (hn:g.ev.length≤256) (hc0:0≤g.cells) (hcl:g.cells≤g.ev.length):FX m Tryz.prog 82 [.p b 0] h fun v h'=>Iv v (EvsOk g w)∧Kp h h':=by
 obtain⟨ve,vrf,vco,vrmw,vad,vda,vct,rfl,he,-⟩:=hg.gr.is
 obtain⟨c0,hc⟩:∃c0:Nat,g.cells=c0:=⟨g.cells.toNat,by omega⟩
 refine Fn.env c82 rfl ?_
 unfold s82
 have hB1:=hg.bx
 obtain⟨hL,hC1⟩:=he
 have hB:=hB1
 clear hg
 refine go ?_
 refine Es.loop (X:=Nat) (fun x=>g.ev.length-x) (fun x=>[(0,.p b 0),(3,.i .i64 (x:Int))]) (fun x h'=>c0≤x∧x≤g.ev.length∧Kp h h'∧∀i:Nat,g.cells≤i→i<x→EvOk g.cells (gt g.ev i) w) c0 ⟨rfl,by rw[←hc];rfl,trivial⟩ ⟨Nat.le_refl _,by omega,.refl _,fun i h8 h9=>by omega⟩ fun i h3 hx=>?_
 obtain⟨hi0,hi,k3,hI⟩:=hx
 have hw3:=k3.wf hw
 have hB:=hB1.kp k3 hw
 have hC:=hC1.kp k3 hw
 have hkp:=k3
 refine go ?_
 refine cD (fun hlt=>?_) (fun hge=>?_)
 ·skip
  refine go ?_
  refine ew_al fun b5 h4 ob5 k4=>?_
  refine ew_st ob5 fun h5 ob6 m5=>?_
  have k5:Kp h3 h5:=m5.kp k4 fun j hj=>by injection hj with hj;subst hj;exact ob5.lo
  have hw5:=k5.wf hw3
  have hB5:=ob6.bx
  have hB:=hB.kp k5 hw3
  have hC:=hC.kp k5 hw3
  have hkp:=hkp.trans k5
  clear k4 k5 k3 ob5 ob6 m5
  have hbad:¬EvOk g.cells (gt g.ev i) w→∀{p:Prop},EvsOk g w→p:=fun h1 p h2=>absurd (h2 i (by omega) (by omega)) h1
  have hnx:EvOk g.cells (gt g.ev i) w→∀i':Nat,g.cells≤i'→i'<i+1→EvOk g.cells (gt g.ev i') w:=fun h1 i' h7 h8=>by
   rcases Nat.lt_succ_iff_lt_or_eq.1 h8 with h9 | h9
   ·exact hI i' h7 h9
   ·subst h9;exact h1
  refine go ?_
  repeat' ((first|refine wgd ?_ ?_|refine wgn ?_ ?_|refine wgb ?_ ?_|refine mgd ?_ ?_|refine mgn ?_ ?_|refine mgb ?_ ?_|refine cD ?_ ?_|refine cN ?_ ?_|refine cB ?_ ?_)<;>intro _<;>refine go ?_)
  all_goals try exact ret_1 ⟨.y fun h1=>hbad (by unfold EvOk;omega) h1,hkp⟩
  refine mC modes_spec fun v h6 hR=>⟨.nil,?_⟩
  obtain⟨hro,k6⟩:=hR
  have hw6:=k6.wf hw5
  have hB5:=hB5.kp k6 hw5
  have hB:=hB.kp k6 hw5
  have hC:=hC.kp k6 hw5
  have hkp:=hkp.trans k6
  clear k6
  refine go ?_
  refine mC (contains_spec hro (by have:=modesL_len (gt g.ev i).kind w;omega)) fun v h7 hR=>⟨.nil,?_⟩
  obtain⟨rfl,rfl⟩:=hR
  have hmo:((gt g.ev i).mode∈modesL (gt g.ev i).kind w)↔ModeOk (gt g.ev i).kind (gt g.ev i).mode w:=modesL_ok
  by_cases hM:(gt g.ev i).mode∈modesL (gt g.ev i).kind w
  case neg =>
   have hM':=hM
   have hev:¬EvOk g.cells (gt g.ev i) w:=fun h1=>hM (hmo.2 h1.2.2.1)
   refine go ?_
   repeat' ((first|refine wgd ?_ ?_|refine wgn ?_ ?_|refine wgb ?_ ?_|refine mgd ?_ ?_|refine mgn ?_ ?_|refine mgb ?_ ?_|refine cD ?_ ?_|refine cN ?_ ?_|refine cB ?_ ?_)<;>intro _<;>refine go ?_)
   all_goals first
    | exact ret_1 ⟨.y fun h1=>hbad hev h1,hkp⟩
    | exact absurd (by assumption) hM'
  have hM':=hM
  have hmm:=hmo.1 hM
  refine go ?_
  repeat' ((first|refine wgd ?_ ?_|refine wgn ?_ ?_|refine wgb ?_ ?_|refine mgd ?_ ?_|refine mgn ?_ ?_|refine mgb ?_ ?_|refine cD ?_ ?_|refine cN ?_ ?_|refine cB ?_ ?_)<;>intro _<;>refine go ?_)
  all_goals first
   | exact absurd hM (by assumption)
   | exact ret_1 ⟨.y fun h1=>hbad (by unfold EvOk;omega) h1,hkp⟩
   | exact Nx.inv (i+1) (by omega) ⟨rfl,rfl,trivial⟩ ⟨by omega,by omega,hkp,hnx ⟨by omega,by omega,hmm,by omega⟩⟩
 ·skip
  refine go ?_
  exact ret_1 ⟨.n fun i' h7 h8=>hI i' h7 (by omega),hkp⟩
set_option maxHeartbeats 0 in
theorem lrf_spec {m:Bool} {h:H} {b:Nat} {gl:List V} {vn:V} {g:Gr} {w:Bool} {nx:List Int} (hw:Wf h) (hg:LkAt h b gl vn g w nx) (hn:g.ev.length≤256):FX m Tryz.prog 83 [.p b 0] h fun v h'=>Iv v (RfOk g)∧Kp h h':=by
 obtain⟨ve,vrf,vco,vrmw,vad,vda,vct,rfl,he,hrf,-⟩:=hg.gr.is
 refine Fn.env c83 rfl ?_
 unfold s83
 have hB1:=hg.bx
 obtain⟨hL,hC1⟩:=he
 obtain⟨hL2,hD1⟩:=hrf
 have hB:=hB1
 have hg1:=hg
 clear hg
 refine go ?_
 refine Es.loop (X:=Nat × Nat) (fun x=>g.ev.length-x.1) (fun x=>[(0,.p b 0),(3,.i .i64 (x.2:Int)),(11,ve),(12,.i .i64 (g.ev.length:Int)),(13,.i .i64 (x.1:Int))]) (fun x h'=>x.1≤g.ev.length∧x.2≤g.rf.length∧x.2=RdC g x.1∧Kp h h'∧∀r,r<x.1→(gt g.ev r).kind=1→RfAt g r) (0,0) ⟨rfl,rfl,rfl,rfl,rfl,trivial⟩ ⟨Nat.zero_le _,Nat.zero_le _,rfl,.refl _,fun r hr=>absurd hr (Nat.not_lt_zero _)⟩ fun x h2 hx=>?_
 obtain⟨r,k⟩:=x
 obtain⟨hr,hkl,hk,k2,hI⟩:=hx
 simp only at hr hkl hk hI ⊢
 have hw2:=k2.wf hw
 have hB:=hB1.kp k2 hw
 have hC:=hC1.kp k2 hw
 have hD:=hD1.kp k2 hw
 have hkp:=k2
 have hkr:=RdC_le g r
 refine go ?_
 refine cD (fun hlt=>?_) (fun hge=>?_)
 ·skip
  refine go ?_
  refine ew_al fun b5 h3 ob5 k3=>?_
  refine go ?_
  refine ew_st ob5 fun h4 ob6 m4=>?_
  have k4:Kp h2 h4:=m4.kp k3 fun j hj=>by injection hj with hj;subst hj;exact ob5.lo
  have hw4:=k4.wf hw2
  have hB5:=ob6.bx
  have hB:=hB.kp k4 hw2
  have hC:=hC.kp k4 hw2
  have hD:=hD.kp k4 hw2
  have hkp:=hkp.trans k4
  clear k3 k4 ob5 ob6 m4 k2
  refine go ?_
  refine cN (fun hne=>?_) (fun heq=>?_)
  ·skip
   refine go ?_
   exact Nx.inv (r+1,k) (by simp only;omega) ⟨rfl,rfl,rfl,rfl,rfl,trivial⟩ ⟨by simp only;omega,by simp only;omega,by simp only;rw[RdC_n hne];exact hk,hkp,fun r' h3 h4=>by
    simp only at h3
    by_cases e:r'=r
    ·subst e;exact absurd h4 hne
    ·exact hI r' (by omega) h4⟩
  have hbad:¬RfAt g r→∀{p:Prop},RfOk g→p:=fun h1 p h2=>absurd (h2.1 r (by omega) heq) h1
  have hg4:=hg1.kp hkp hw
  refine go ?_
  repeat' ((first|refine wgd ?_ ?_|refine wgn ?_ ?_|refine wgb ?_ ?_|refine mgd ?_ ?_|refine mgn ?_ ?_|refine mgb ?_ ?_|refine cD ?_ ?_|refine cN ?_ ?_|refine cB ?_ ?_)<;>intro _<;>refine go ?_)
  all_goals try exact ret_1 ⟨.y fun h1=>hbad (fun h2=>by obtain⟨h3,h4,-⟩:=h2;subst hk;first | omega | contradiction) h1,hkp⟩
  refine stC (lis_spec hg4) fun v h5 hR=>?_
  obtain⟨rfl,k5⟩:=hR
  have hw5:=k5.wf hw4
  have hB5:=hB5.kp k5 hw4
  have hB:=hB.kp k5 hw4
  have hC:=hC.kp k5 hw4
  have hD:=hD.kp k5 hw4
  have hkp:=hkp.trans k5
  clear k5 hg4
  by_cases hE:IsE g (gt g.rf k).1 2
  case neg =>
   have hE':=hE
   refine go ?_
   repeat' ((first|refine wgd ?_ ?_|refine wgn ?_ ?_|refine wgb ?_ ?_|refine mgd ?_ ?_|refine mgn ?_ ?_|refine mgb ?_ ?_|refine cD ?_ ?_|refine cN ?_ ?_|refine cB ?_ ?_)<;>intro _<;>refine go ?_)
   all_goals first
    | exact ret_1 ⟨.y fun h1=>hbad (fun h2=>by obtain⟨-,-,h3,-⟩:=h2;subst hk;contradiction) h1,hkp⟩
    | exact absurd (by assumption) hE'
  obtain⟨hE0,hE1,hE2⟩:=id hE
  refine go ?_
  repeat' ((first|refine wgd ?_ ?_|refine wgn ?_ ?_|refine wgb ?_ ?_|refine mgd ?_ ?_|refine mgn ?_ ?_|refine mgb ?_ ?_|refine cD ?_ ?_|refine cN ?_ ?_|refine cB ?_ ?_)<;>intro _<;>refine go ?_)
  refine em_al fun b6 h6 ob7 k6=>?_
  refine em_st ob7 fun h7 ob8 m7=>?_
  have k7:Kp h5 h7:=m7.kp k6 fun j hj=>by injection hj with hj;subst hj;exact ob7.lo
  have hw7:=k7.wf hw5
  have hB6:=ob8.bx
  have hB5:=hB5.kp k7 hw5
  have hkp:=hkp.trans k7
  clear k6 k7 ob7 ob8 m7
  refine go ?_
  repeat' ((first|refine wgd ?_ ?_|refine wgn ?_ ?_|refine wgb ?_ ?_|refine mgd ?_ ?_|refine mgn ?_ ?_|refine mgb ?_ ?_|refine cD ?_ ?_|refine cN ?_ ?_|refine cB ?_ ?_)<;>intro _<;>refine go ?_)
  all_goals first
   | exact ret_1 ⟨.y fun h1=>hbad (fun h2=>by obtain⟨-,-,-,h3,h4⟩:=h2;subst hk;contradiction) h1,hkp⟩
   | exact Nx.inv (r+1,k+1) (by simp only;omega) ⟨rfl,rfl,rfl,rfl,rfl,trivial⟩ ⟨by simp only;omega,by simp only;omega,by simp only;rw[RdC_y heq,hk],hkp,fun r' h3 h4=>by
     simp only at h3
     by_cases e:r'=r
     ·subst e;subst hk;exact⟨by omega,by assumption,hE,by assumption,by assumption⟩
     ·exact hI r' (by omega) h4⟩
 ·have hrn:r=g.ev.length:=by omega
  subst hrn
  refine go ?_
  refine cD (fun hlt=>?_) (fun hge=>?_)
  ·skip
   refine go ?_
   exact ret_1 ⟨.y fun hok=>by have:=hok.2;omega,hkp⟩
  ·skip
   refine go ?_
   exact ret_1 ⟨.n ⟨hI,by omega⟩,hkp⟩
end Go.Proofs.YtkcdehffcddciaaGreatDoor.Vm
