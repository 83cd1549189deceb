/- The program's rules 6 to 9. -/
import Derived.Test.YtkcdehffcddciaaGreatDoorQ22
import Derived.Test.YtkcdehffcddciaaGreatDoorQ18
namespace Go.Proofs.YtkcdehffcddciaaGreatDoor.Vm
open Go Go.RowKit
def s85:Sc:=(.seq (.region (
 ⟨none,some 2,.mv (.c (.i .i64 0)),[]⟩ :: []))
(.seq (.seq (.region (
 ⟨none,some 5,.mv (.t 0),[0]⟩ ::
 ⟨none,some 6,.nc (.t 5),[5]⟩ ::
 ⟨none,some 7,.fa (.t 6) 0,[6]⟩ ::
 ⟨none,some 8,.fa (.t 7) 4,[7]⟩ ::
 ⟨none,some 9,.ld (.t 8),[8]⟩ ::
 ⟨none,some 10,.len (.t 9),[9]⟩ ::
 ⟨none,some 11,.mv (.c (.i .i64 0)),[]⟩ :: []))
(.block 0 (.loop (.seq (.region (
 ⟨none,some 12,.ar .lss (.t 11) (.t 10),[11,10]⟩ :: []))
(.seq (.cond (.t 12) .skip
 (.exit 0))
(.seq (.block 1 (.seq (.region (
 ⟨none,some 13,.mv (.t 11),[11]⟩ ::
 ⟨none,some 14,.ia (.t 9) (.t 11) 2,[9,11]⟩ ::
 ⟨none,some 15,.lds (.t 14) 2,[14]⟩ ::
 ⟨none,some 4,.al 39 [(.i .i64 0),(.i .i64 0)],[]⟩ ::
 ⟨none,some 3,.mv (.t 13),[13]⟩ ::
 ⟨none,none,.st (.t 4) (.t 15) 2,[4,15]⟩ :: []))
(.seq (.mix (
 (⟨none,some 16,.mv (.t 3),[3]⟩,.q [none]) ::
 (⟨none,some 17,.ar .gtr (.t 16) (.c (.i .i64 0)),[16]⟩,.q [none]) ::
 (⟨none,some 18,.mv (.t 17),[17]⟩,.q [none]) ::
 (⟨some (18,true),some 19,.fa (.t 4) 0,[4,18]⟩,.q [none]) ::
 (⟨some (18,true),some 20,.ld (.t 19),[19,18]⟩,.q [none]) ::
 (⟨some (18,true),some 21,.mv (.t 0),[0,18]⟩,.q [none]) ::
 (⟨some (18,true),some 22,.nc (.t 21),[21,18]⟩,.q [none]) ::
 (⟨some (18,true),some 23,.fa (.t 22) 0,[22,18]⟩,.q [none]) ::
 (⟨some (18,true),some 24,.fa (.t 23) 4,[23,18]⟩,.q [none]) ::
 (⟨some (18,true),some 25,.ld (.t 24),[24,18]⟩,.q [none]) ::
 (⟨some (18,true),some 26,.mv (.t 3),[3,18]⟩,.q [none]) ::
 (⟨some (18,true),some 27,.ar .sub (.t 26) (.c (.i .i64 1)),[26,18]⟩,.q [none]) ::
 (⟨some (18,true),some 28,.ia (.t 25) (.t 27) 2,[25,27,18]⟩,.q [none]) ::
 (⟨some (18,true),some 29,.fa (.t 28) 0,[28,18]⟩,.q [none]) ::
 (⟨some (18,true),some 30,.ld (.t 29),[29,18]⟩,.q [none]) ::
 (⟨some (18,true),some 31,.ar .leq (.t 20) (.t 30),[20,30,18]⟩,.q [none]) ::
 (⟨none,some 32,.pk (.t 18) (.t 31) (.c (.b false)),[18,31]⟩,.q [none]) ::
 (⟨none,some 33,.mv (.t 32),[32]⟩,.q [none]) ::
 (⟨some (33,false),some 34,.mv (.t 0),[0,33]⟩,.q [none]) ::
 (⟨some (33,false),some 35,.fa (.t 4) 0,[4,33]⟩,.q [none]) ::
 (⟨some (33,false),some 36,.ld (.t 35),[35,33]⟩,.q [none]) ::
 (⟨some (33,false),some 37,.call 154 [(.t 34),(.t 36),(.c (.i .i64 1))],[34,36,33]⟩,.e) ::
 (⟨some (33,false),some 38,.nt (.t 37),[37,33]⟩,.q [(some 21)]) ::
 (⟨none,some 39,.pk (.t 33) (.c (.b true)) (.t 38),[33,38]⟩,.q [(some 21)]) ::
 (⟨none,some 40,.mv (.t 39),[39]⟩,.q [(some 21)]) ::
 (⟨some (40,false),some 41,.mv (.t 0),[0,40]⟩,.q [(some 21)]) ::
 (⟨some (40,false),some 42,.fa (.t 4) 1,[4,40]⟩,.q [(some 21)]) ::
 (⟨some (40,false),some 43,.ld (.t 42),[42,40]⟩,.q [(some 21)]) ::
 (⟨some (40,false),some 44,.call 154 [(.t 41),(.t 43),(.c (.i .i64 2))],[41,43,40]⟩,.e) ::
 (⟨some (40,false),some 45,.nt (.t 44),[44,40]⟩,.q [(some 28)]) ::
 (⟨none,some 46,.pk (.t 40) (.c (.b true)) (.t 45),[40,45]⟩,.q [(some 28)]) ::
 (⟨none,some 47,.mv (.t 46),[46]⟩,.q [(some 28)]) ::
 (⟨some (47,false),some 48,.mv (.t 0),[0,47]⟩,.q [(some 28)]) ::
 (⟨some (47,false),some 49,.nc (.t 48),[48,47]⟩,.q [(some 28)]) ::
 (⟨some (47,false),some 50,.fa (.t 49) 9,[49,47]⟩,.q [(some 28)]) ::
 (⟨some (47,false),some 51,.ld (.t 50),[50,47]⟩,.q [(some 28)]) ::
 (⟨some (47,false),some 52,.fa (.t 4) 0,[4,47]⟩,.q [(some 28)]) ::
 (⟨some (47,false),some 53,.ld (.t 52),[52,47]⟩,.q [(some 28)]) ::
 (⟨some (47,false),some 54,.ia (.t 51) (.t 53) 1,[51,53,47]⟩,.q [(some 28)]) ::
 (⟨some (47,false),some 55,.ld (.t 54),[54,47]⟩,.q [(some 28)]) ::
 (⟨some (47,false),some 56,.fa (.t 4) 1,[4,47]⟩,.q [(some 28)]) ::
 (⟨some (47,false),some 57,.ld (.t 56),[56,47]⟩,.q [(some 28)]) ::
 (⟨some (47,false),some 58,.eq .int true (.t 55) (.t 57),[55,57,47]⟩,.q [(some 28)]) ::
 (⟨none,some 59,.pk (.t 47) (.c (.b true)) (.t 58),[47,58]⟩,.q [(some 28)]) ::
 (⟨none,some 60,.mv (.t 59),[59]⟩,.q [(some 28)]) ::
 (⟨some (60,false),some 61,.mv (.t 0),[0,60]⟩,.q [(some 28)]) ::
 (⟨some (60,false),some 62,.nc (.t 61),[61,60]⟩,.q [(some 28)]) ::
 (⟨some (60,false),some 63,.fa (.t 62) 0,[62,60]⟩,.q [(some 28)]) ::
 (⟨some (60,false),some 64,.fa (.t 63) 1,[63,60]⟩,.q [(some 28)]) ::
 (⟨some (60,false),some 65,.ld (.t 64),[64,60]⟩,.q [(some 28)]) ::
 (⟨some (60,false),some 66,.fa (.t 4) 0,[4,60]⟩,.q [(some 28)]) ::
 (⟨some (60,false),some 67,.ld (.t 66),[66,60]⟩,.q [(some 28)]) ::
 (⟨some (60,false),some 68,.ia (.t 65) (.t 67) 5,[65,67,60]⟩,.q [(some 28)]) ::
 (⟨some (60,false),some 69,.fa (.t 68) 2,[68,60]⟩,.q [(some 28)]) ::
 (⟨some (60,false),some 70,.ld (.t 69),[69,60]⟩,.q [(some 28)]) ::
 (⟨some (60,false),some 71,.mv (.t 0),[0,60]⟩,.q [(some 28)]) ::
 (⟨some (60,false),some 72,.nc (.t 71),[71,60]⟩,.q [(some 28)]) ::
 (⟨some (60,false),some 73,.fa (.t 72) 0,[72,60]⟩,.q [(some 28)]) ::
 (⟨some (60,false),some 74,.fa (.t 73) 1,[73,60]⟩,.q [(some 28)]) ::
 (⟨some (60,false),some 75,.ld (.t 74),[74,60]⟩,.q [(some 28)]) ::
 (⟨some (60,false),some 76,.fa (.t 4) 1,[4,60]⟩,.q [(some 28)]) ::
 (⟨some (60,false),some 77,.ld (.t 76),[76,60]⟩,.q [(some 28)]) ::
 (⟨some (60,false),some 78,.ia (.t 75) (.t 77) 5,[75,77,60]⟩,.q [(some 28)]) ::
 (⟨some (60,false),some 79,.fa (.t 78) 2,[78,60]⟩,.q [(some 28)]) ::
 (⟨some (60,false),some 80,.ld (.t 79),[79,60]⟩,.q [(some 28)]) ::
 (⟨some (60,false),some 81,.eq .int true (.t 70) (.t 80),[70,80,60]⟩,.q [(some 28)]) ::
 (⟨none,some 82,.pk (.t 60) (.c (.b true)) (.t 81),[60,81]⟩,.q [(some 28)]) :: []))
(.cond (.t 82) (.seq (.region (
 ⟨none,some 83,.mv (.t 3),[3]⟩ ::
 ⟨none,some 2,.mv (.t 83),[83]⟩ :: []))
.ret)
 .skip))))
(.region (
 ⟨none,some 84,.ar .add (.t 11) (.c (.i .i64 1)),[11]⟩ ::
 ⟨none,some 11,.mv (.t 84),[84]⟩ :: []))))))))
(.seq (.region (
 ⟨none,some 2,.mv (.c (.i .i64 (-1))),[]⟩ :: []))
.ret)))
set_option maxRecDepth 100000 in
theorem c85:fnB Tryz.prog 85=some (85,s85,[.t 2]):=by kernel_rfl
def s86:Sc:=(.seq (.region (
 ⟨none,some 6,.mv (.c (.i .i64 0)),[]⟩ :: []))
(.seq (.seq (.region (
 ⟨none,some 9,.mv (.t 1),[1]⟩ ::
 ⟨none,some 10,.len (.t 9),[9]⟩ ::
 ⟨none,some 11,.mv (.c (.i .i64 0)),[]⟩ :: []))
(.block 0 (.loop (.seq (.region (
 ⟨none,some 12,.ar .lss (.t 11) (.t 10),[11,10]⟩ :: []))
(.seq (.cond (.t 12) .skip
 (.exit 0))
(.seq (.block 1 (.seq (.region (
 ⟨none,some 13,.mv (.t 11),[11]⟩ ::
 ⟨none,some 14,.ia (.t 9) (.t 11) 2,[9,11]⟩ ::
 ⟨none,some 15,.lds (.t 14) 2,[14]⟩ ::
 ⟨none,some 8,.al 39 [(.i .i64 0),(.i .i64 0)],[]⟩ ::
 ⟨none,some 7,.mv (.t 13),[13]⟩ ::
 ⟨none,none,.st (.t 8) (.t 15) 2,[8,15]⟩ :: []))
(.seq (.mix (
 (⟨none,some 16,.mv (.t 7),[7]⟩,.q [none]) ::
 (⟨none,some 17,.ar .gtr (.t 16) (.c (.i .i64 0)),[16]⟩,.q [none]) ::
 (⟨none,some 18,.mv (.t 17),[17]⟩,.q [none]) ::
 (⟨some (18,true),some 19,.fa (.t 8) 0,[8,18]⟩,.q [none]) ::
 (⟨some (18,true),some 20,.ld (.t 19),[19,18]⟩,.q [none]) ::
 (⟨some (18,true),some 21,.mv (.t 1),[1,18]⟩,.q [none]) ::
 (⟨some (18,true),some 22,.mv (.t 7),[7,18]⟩,.q [none]) ::
 (⟨some (18,true),some 23,.ar .sub (.t 22) (.c (.i .i64 1)),[22,18]⟩,.q [none]) ::
 (⟨some (18,true),some 24,.ia (.t 21) (.t 23) 2,[21,23,18]⟩,.q [none]) ::
 (⟨some (18,true),some 25,.fa (.t 24) 0,[24,18]⟩,.q [none]) ::
 (⟨some (18,true),some 26,.ld (.t 25),[25,18]⟩,.q [none]) ::
 (⟨some (18,true),some 27,.ar .lss (.t 20) (.t 26),[20,26,18]⟩,.q [none]) ::
 (⟨some (18,true),some 28,.mv (.t 27),[27,18]⟩,.q [none]) ::
 (⟨some (28,false),some 29,.fa (.t 8) 0,[8,28]⟩,.q [none]) ::
 (⟨some (28,false),some 30,.ld (.t 29),[29,28]⟩,.q [none]) ::
 (⟨some (28,false),some 31,.mv (.t 1),[1,28]⟩,.q [none]) ::
 (⟨some (28,false),some 32,.mv (.t 7),[7,28]⟩,.q [none]) ::
 (⟨some (28,false),some 33,.ar .sub (.t 32) (.c (.i .i64 1)),[32,28]⟩,.q [none]) ::
 (⟨some (28,false),some 34,.ia (.t 31) (.t 33) 2,[31,33,28]⟩,.q [none]) ::
 (⟨some (28,false),some 35,.fa (.t 34) 0,[34,28]⟩,.q [none]) ::
 (⟨some (28,false),some 36,.ld (.t 35),[35,28]⟩,.q [none]) ::
 (⟨some (28,false),some 37,.eq .int false (.t 30) (.t 36),[30,36,28]⟩,.q [none]) ::
 (⟨some (28,false),some 38,.mv (.t 37),[37,28]⟩,.q [none]) ::
 (⟨some (38,true),some 39,.fa (.t 8) 1,[8,38]⟩,.q [none]) ::
 (⟨some (38,true),some 40,.ld (.t 39),[39,38]⟩,.q [none]) ::
 (⟨some (38,true),some 41,.mv (.t 1),[1,38]⟩,.q [none]) ::
 (⟨some (38,true),some 42,.mv (.t 7),[7,38]⟩,.q [none]) ::
 (⟨some (38,true),some 43,.ar .sub (.t 42) (.c (.i .i64 1)),[42,38]⟩,.q [none]) ::
 (⟨some (38,true),some 44,.ia (.t 41) (.t 43) 2,[41,43,38]⟩,.q [none]) ::
 (⟨some (38,true),some 45,.fa (.t 44) 1,[44,38]⟩,.q [none]) ::
 (⟨some (38,true),some 46,.ld (.t 45),[45,38]⟩,.q [none]) ::
 (⟨some (38,true),some 47,.ar .leq (.t 40) (.t 46),[40,46,38]⟩,.q [none]) ::
 (⟨some (28,false),some 48,.pk (.t 38) (.t 47) (.c (.b false)),[38,47,28]⟩,.q [none]) ::
 (⟨some (18,true),some 49,.pk (.t 28) (.c (.b true)) (.t 48),[28,48,18]⟩,.q [none]) ::
 (⟨none,some 50,.pk (.t 18) (.t 49) (.c (.b false)),[18,49]⟩,.q [none]) ::
 (⟨none,some 51,.mv (.t 50),[50]⟩,.q [none]) ::
 (⟨some (51,false),some 52,.mv (.t 0),[0,51]⟩,.q [none]) ::
 (⟨some (51,false),some 53,.nc (.t 52),[52,51]⟩,.q [none]) ::
 (⟨some (51,false),some 54,.fa (.t 53) 8,[53,51]⟩,.q [none]) ::
 (⟨some (51,false),some 55,.ld (.t 54),[54,51]⟩,.q [none]) ::
 (⟨some (51,false),some 56,.nt (.t 55),[55,51]⟩,.q [none]) ::
 (⟨none,some 57,.pk (.t 51) (.c (.b true)) (.t 56),[51,56]⟩,.q [none]) ::
 (⟨none,some 58,.mv (.t 57),[57]⟩,.q [none]) ::
 (⟨some (58,false),some 59,.mv (.t 0),[0,58]⟩,.q [none]) ::
 (⟨some (58,false),some 60,.fa (.t 8) 0,[8,58]⟩,.q [none]) ::
 (⟨some (58,false),some 61,.ld (.t 60),[60,58]⟩,.q [none]) ::
 (⟨some (58,false),some 62,.call 154 [(.t 59),(.t 61),(.c (.i .i64 1))],[59,61,58]⟩,.e) ::
 (⟨some (58,false),some 63,.nt (.t 62),[62,58]⟩,.q [(some 46)]) ::
 (⟨none,some 64,.pk (.t 58) (.c (.b true)) (.t 63),[58,63]⟩,.q [(some 46)]) ::
 (⟨none,some 65,.mv (.t 64),[64]⟩,.q [(some 46)]) ::
 (⟨some (65,false),some 66,.mv (.t 0),[0,65]⟩,.q [(some 46)]) ::
 (⟨some (65,false),some 67,.fa (.t 8) 0,[8,65]⟩,.q [(some 46)]) ::
 (⟨some (65,false),some 68,.ld (.t 67),[67,65]⟩,.q [(some 46)]) ::
 (⟨some (65,false),some 69,.fa (.t 8) 1,[8,65]⟩,.q [(some 46)]) ::
 (⟨some (65,false),some 70,.ld (.t 69),[69,65]⟩,.q [(some 46)]) ::
 (⟨some (65,false),some 71,.call 155 [(.t 66),(.t 68),(.t 70)],[66,68,70,65]⟩,.e) ::
 (⟨some (65,false),some 72,.nt (.t 71),[71,65]⟩,.q [(some 55)]) ::
 (⟨none,some 73,.pk (.t 65) (.c (.b true)) (.t 72),[65,72]⟩,.q [(some 55)]) ::
 (⟨none,some 74,.mv (.t 73),[73]⟩,.q [(some 55)]) ::
 (⟨some (74,false),some 75,.mv (.t 2),[2,74]⟩,.q [(some 55)]) ::
 (⟨some (74,false),some 76,.mv (.t 0),[0,74]⟩,.q [(some 55)]) ::
 (⟨some (74,false),some 77,.nc (.t 76),[76,74]⟩,.q [(some 55)]) ::
 (⟨some (74,false),some 78,.fa (.t 77) 0,[77,74]⟩,.q [(some 55)]) ::
 (⟨some (74,false),some 79,.fa (.t 78) 1,[78,74]⟩,.q [(some 55)]) ::
 (⟨some (74,false),some 80,.ld (.t 79),[79,74]⟩,.q [(some 55)]) ::
 (⟨some (74,false),some 81,.fa (.t 8) 1,[8,74]⟩,.q [(some 55)]) ::
 (⟨some (74,false),some 82,.ld (.t 81),[81,74]⟩,.q [(some 55)]) ::
 (⟨some (74,false),some 83,.ia (.t 80) (.t 82) 5,[80,82,74]⟩,.q [(some 55)]) ::
 (⟨some (74,false),some 84,.fa (.t 83) 1,[83,74]⟩,.q [(some 55)]) ::
 (⟨some (74,false),some 85,.ld (.t 84),[84,74]⟩,.q [(some 55)]) ::
 (⟨some (74,false),some 86,.call 152 [(.t 75),(.t 85)],[75,85,74]⟩,.e) ::
 (⟨some (74,false),some 87,.nt (.t 86),[86,74]⟩,.q [(some 70)]) ::
 (⟨none,some 88,.pk (.t 74) (.c (.b true)) (.t 87),[74,87]⟩,.q [(some 70)]) :: []))
(.cond (.t 88) (.seq (.region (
 ⟨none,some 89,.mv (.t 7),[7]⟩ ::
 ⟨none,some 6,.mv (.t 89),[89]⟩ :: []))
.ret)
 .skip))))
(.region (
 ⟨none,some 90,.ar .add (.t 11) (.c (.i .i64 1)),[11]⟩ ::
 ⟨none,some 11,.mv (.t 90),[90]⟩ :: []))))))))
(.seq (.region (
 ⟨none,some 6,.mv (.c (.i .i64 (-1))),[]⟩ :: []))
.ret)))
set_option maxRecDepth 100000 in
theorem c86:fnB Tryz.prog 86=some (91,s86,[.t 6]):=by kernel_rfl
set_option maxHeartbeats 0 in
theorem lrmw_spec {m:Bool} {h:H} {b:Nat} {gl:List V} {vn:V} {g:Gr} {w:Bool} {nx:List Int} (hw:Wf h) (hg:LkAt h b gl vn g w nx) (_hn:g.ev.length≤256) (hnr:g.rmw.length≤100000000):FX m Tryz.prog 85 [.p b 0] h fun v h'=>Iv v (RmwOk g)∧Kp h h':=by
 obtain⟨ve,vrf,vco,vrmw,vad,vda,vct,rfl,he,-,-,hl,-⟩:=hg.gr.is
 refine Fn.env c85 rfl ?_
 unfold s85
 have hB1:=hg.bx
 obtain⟨hL,hC1⟩:=he
 obtain⟨hL2,hD1⟩:=hl
 obtain⟨hL3,hN1⟩:=hg.ro
 have hlen:=hg.len
 have hnxt:=hg.next
 have hB:=hB1
 have hg1:=hg
 clear hg
 refine go ?_
 refine Es.loop (X:=Nat) (fun x=>g.rmw.length-x) (fun x=>[(0,.p b 0),(9,vrmw),(10,.i .i64 (g.rmw.length:Int)),(11,.i .i64 (x:Int))]) (fun x h'=>x≤g.rmw.length∧Kp h h'∧∀i,i<x→RmwAt g i) 0 ⟨rfl,rfl,rfl,rfl,trivial⟩ ⟨Nat.zero_le _,.refl _,fun r hr=>absurd hr (Nat.not_lt_zero _)⟩ fun i h2 hx=>?_
 obtain⟨hi,k2,hI⟩:=hx
 have hw2:=k2.wf hw
 have hB:=hB1.kp k2 hw
 have hC:=hC1.kp k2 hw
 have hD:=hD1.kp k2 hw
 have hN:=hN1.kp k2 hw
 have hkp:=k2
 refine go ?_
 refine cD (fun hlt=>?_) (fun hge=>?_)
 ·skip
  refine go ?_
  refine ew_al fun b5 h3 ob5 k3=>?_
  refine go ?_
  refine ew_st ob5 fun h4 ob6 m4=>?_
  have k4:Kp h2 h4:=m4.kp k3 fun j hj=>by injection hj with hj;subst hj;exact ob5.lo
  have hw4:=k4.wf hw2
  have hB5:=ob6.bx
  have hB:=hB.kp k4 hw2
  have hC:=hC.kp k4 hw2
  have hD:=hD.kp k4 hw2
  have hN:=hN.kp k4 hw2
  have hg4:=hg1.kp (k2.trans k4) hw
  have hkp:=hkp.trans k4
  clear k4 k2 m4 k3 ob6 ob5
  have e1:((i:Int)-1).toNat=i-1:=by omega
  refine go ?_
  repeat' ((first | refine wgd (fun _=>?_) fun _=>?_ | refine wgn (fun _=>?_) fun _=>?_ | refine wgb (fun _=>?_) fun _=>?_ | refine mgd (fun _=>?_) fun _=>?_ | refine mgn (fun _=>?_) fun _=>?_ | refine mgb (fun _=>?_) fun _=>?_ | refine cD (fun _=>?_) fun _=>?_ | refine cN (fun _=>?_) fun _=>?_ | refine cB (fun _=>?_) fun _=>?_) <;> refine go ?_)
  all_goals try exact ret_1 ⟨.y fun hok=>by have h9:=(hok i (by omega)).1;simp only[e1]at *;omega,hkp⟩
  all_goals
   refine mC (lis_spec hg4) fun v h5 hR=>⟨.nil,?_⟩
   obtain⟨rfl,k5⟩:=hR
   have hw5:=k5.wf hw4
   have hB5:=hB5.kp k5 hw4
   have hB:=hB.kp k5 hw4
   have hC:=hC.kp k5 hw4
   have hN:=hN.kp k5 hw4
   have hg5:=hg4.kp k5 hw4
   have hkp:=hkp.trans k5
   clear k5 hg4
   by_cases hE1:IsE g (gt g.rmw i).1 1
   case neg =>
    have hE':=hE1
    refine go ?_
    repeat' ((first | refine wgd (fun _=>?_) fun _=>?_ | refine wgn (fun _=>?_) fun _=>?_ | refine wgb (fun _=>?_) fun _=>?_ | refine mgd (fun _=>?_) fun _=>?_ | refine mgn (fun _=>?_) fun _=>?_ | refine mgb (fun _=>?_) fun _=>?_ | refine cD (fun _=>?_) fun _=>?_ | refine cN (fun _=>?_) fun _=>?_ | refine cB (fun _=>?_) fun _=>?_) <;> refine go ?_)
    all_goals first
     | exact ret_1 ⟨.y fun hok=>absurd (hok i (by omega)).2.1 hE1,hkp⟩
     | exact absurd (by assumption) hE'
   obtain⟨hF1,hF2,hF3⟩:=id hE1
   refine go ?_
   repeat' ((first | refine wgd (fun _=>?_) fun _=>?_ | refine wgn (fun _=>?_) fun _=>?_ | refine wgb (fun _=>?_) fun _=>?_ | refine mgd (fun _=>?_) fun _=>?_ | refine mgn (fun _=>?_) fun _=>?_ | refine mgb (fun _=>?_) fun _=>?_ | refine cD (fun _=>?_) fun _=>?_ | refine cN (fun _=>?_) fun _=>?_ | refine cB (fun _=>?_) fun _=>?_) <;> refine go ?_)
   all_goals try exact absurd hE1 (by assumption)
   refine mC (lis_spec hg5) fun v h6 hR=>⟨.nil,?_⟩
   obtain⟨rfl,k5⟩:=hR
   have hw6:=k5.wf hw5
   have hB5:=hB5.kp k5 hw5
   have hB:=hB.kp k5 hw5
   have hC:=hC.kp k5 hw5
   have hN:=hN.kp k5 hw5
   have hg6:=hg5.kp k5 hw5
   have hkp:=hkp.trans k5
   clear k5 hg5
   by_cases hE2:IsE g (gt g.rmw i).2 2
   case neg =>
    have hE':=hE2
    refine go ?_
    repeat' ((first | refine wgd (fun _=>?_) fun _=>?_ | refine wgn (fun _=>?_) fun _=>?_ | refine wgb (fun _=>?_) fun _=>?_ | refine mgd (fun _=>?_) fun _=>?_ | refine mgn (fun _=>?_) fun _=>?_ | refine mgb (fun _=>?_) fun _=>?_ | refine cD (fun _=>?_) fun _=>?_ | refine cN (fun _=>?_) fun _=>?_ | refine cB (fun _=>?_) fun _=>?_) <;> refine go ?_)
    all_goals first
     | exact ret_1 ⟨.y fun hok=>absurd (hok i (by omega)).2.2.1 hE2,hkp⟩
     | exact absurd (by assumption) hE'
   obtain⟨hF4,hF5,hF6⟩:=id hE2
   have hnx:=hnxt (gt g.rmw i).1.toNat (by omega) (gt g.rmw i).2 hF4
   rw[Int.toNat_of_nonneg hF1]at hnx
   refine go ?_
   repeat' ((first | refine wgd (fun _=>?_) fun _=>?_ | refine wgn (fun _=>?_) fun _=>?_ | refine wgb (fun _=>?_) fun _=>?_ | refine mgd (fun _=>?_) fun _=>?_ | refine mgn (fun _=>?_) fun _=>?_ | refine mgb (fun _=>?_) fun _=>?_ | refine cD (fun _=>?_) fun _=>?_ | refine cN (fun _=>?_) fun _=>?_ | refine cB (fun _=>?_) fun _=>?_) <;> refine go ?_)
   all_goals first
    | exact absurd hE2 (by assumption)
    | exact ret_1 ⟨.y fun hok=>by have h9:=hok i (by omega);first | exact absurd (hnx.2 h9.2.2.2.1) (by assumption) | exact absurd h9.2.2.2.2 (by assumption),hkp⟩
    | exact Nx.inv (i+1) (by omega) ⟨rfl,rfl,rfl,rfl,trivial⟩ ⟨by omega,hkp,fun i' h3=>by
      rcases Nat.lt_succ_iff_lt_or_eq.1 h3 with h4 | h4
      ·exact hI i' h4
      ·subst h4;exact⟨fun _=>by simp only[e1]at *;omega,hE1,hE2,hnx.1 (by assumption),by assumption⟩⟩
 ·have hin:i=g.rmw.length:=by omega
  subst hin
  refine go ?_
  exact ret_1 ⟨.n hI,hkp⟩
def DepAtK (g:Gr) (l:List (Int × Int)) (w:Bool) (ks:List Int) (i:Nat):Prop:=(0<i→(gt l (i-1)).1<(gt l i).1∨((gt l (i-1)).1=(gt l i).1∧(gt l (i-1)).2<(gt l i).2))∧w=true∧IsE g (gt l i).1 1∧Bef g (gt l i).1 (gt l i).2∧(gt g.ev (gt l i).2.toNat).kind∈ks
def DepOkK (g:Gr) (l:List (Int × Int)) (w:Bool) (ks:List Int):Prop:=∀i,i<l.length→DepAtK g l w ks i
set_option maxHeartbeats 0 in
theorem ldeps_spec {m:Bool} {h:H} {b:Nat} {gl:List V} {vn vl vk:V} {g:Gr} {w:Bool} {nx:List Int} {l:List (Int × Int)} {ks:List Int} (hw:Wf h) (hg:LkAt h b gl vn g w nx) (hl:Ro h vl 2 pcell l) (hk:Ro h vk 1 icell ks) (hnl:l.length≤100000000) (hnk:ks.length≤10):FX m Tryz.prog 86 [.p b 0,vl,vk] h fun v h'=>Iv v (DepOkK g l w ks)∧Kp h h':=by
 obtain⟨ve,vrf,vco,vrmw,vad,vda,vct,rfl,he,-⟩:=hg.gr.is
 refine Fn.env c86 rfl ?_
 unfold s86
 have hB1:=hg.bx
 obtain⟨hL,hC1⟩:=he
 obtain⟨hL2,hD1⟩:=hl
 have hN1:=hk
 have hB:=hB1
 have hg1:=hg
 clear hg
 refine go ?_
 refine Es.loop (X:=Nat) (fun x=>l.length-x) (fun x=>[(0,.p b 0),(1,vl),(2,vk),(9,vl),(10,.i .i64 (l.length:Int)),(11,.i .i64 (x:Int))]) (fun x h'=>x≤l.length∧Kp h h'∧∀i,i<x→DepAtK g l w ks i) 0 ⟨rfl,rfl,rfl,rfl,rfl,rfl,trivial⟩ ⟨Nat.zero_le _,.refl _,fun r hr=>absurd hr (Nat.not_lt_zero _)⟩ fun i h2 hx=>?_
 obtain⟨hi,k2,hI⟩:=hx
 have hw2:=k2.wf hw
 have hB:=hB1.kp k2 hw
 have hC:=hC1.kp k2 hw
 have hD:=hD1.kp k2 hw
 have hN:=hN1.kp k2 hw
 have hkp:=k2
 refine go ?_
 refine cD (fun hlt=>?_) (fun hge=>?_)
 ·skip
  refine go ?_
  refine ew_al fun b5 h3 ob5 k3=>?_
  refine go ?_
  refine ew_st ob5 fun h4 ob6 m4=>?_
  have k4:Kp h2 h4:=m4.kp k3 fun j hj=>by injection hj with hj;subst hj;exact ob5.lo
  have hw4:=k4.wf hw2
  have hB5:=ob6.bx
  have hB:=hB.kp k4 hw2
  have hC:=hC.kp k4 hw2
  have hD:=hD.kp k4 hw2
  have hN:=hN.kp k4 hw2
  have hg4:=hg1.kp (k2.trans k4) hw
  have hkp:=hkp.trans k4
  clear k4 k2 m4 k3 ob6 ob5
  have e1:((i:Int)-1).toNat=i-1:=by omega
  cases w
  ·skip
   refine go ?_
   repeat' ((first | refine wgd (fun _=>?_) fun _=>?_ | refine wgn (fun _=>?_) fun _=>?_ | refine wgb (fun _=>?_) fun _=>?_ | refine mgd (fun _=>?_) fun _=>?_ | refine mgn (fun _=>?_) fun _=>?_ | refine mgb (fun _=>?_) fun _=>?_ | refine cD (fun _=>?_) fun _=>?_ | refine cN (fun _=>?_) fun _=>?_ | refine cB (fun _=>?_) fun _=>?_) <;> refine go ?_)
   all_goals exact ret_1 ⟨.y fun hok=>absurd (hok i (by omega)).2.1 (by decide),hkp⟩
  refine go ?_
  repeat' ((first | refine wgd (fun _=>?_) fun _=>?_ | refine wgn (fun _=>?_) fun _=>?_ | refine wgb (fun _=>?_) fun _=>?_ | refine mgd (fun _=>?_) fun _=>?_ | refine mgn (fun _=>?_) fun _=>?_ | refine mgb (fun _=>?_) fun _=>?_ | refine cD (fun _=>?_) fun _=>?_ | refine cN (fun _=>?_) fun _=>?_ | refine cB (fun _=>?_) fun _=>?_) <;> refine go ?_)
  all_goals try exact ret_1 ⟨.y fun hok=>by have h9:=(hok i (by omega)).1;simp only[e1]at *;omega,hkp⟩
  all_goals
   refine mC (lis_spec hg4) fun v h5 hR=>⟨.nil,?_⟩
   obtain⟨rfl,k5⟩:=hR
   have hw5:=k5.wf hw4
   have hB5:=hB5.kp k5 hw4
   have hB:=hB.kp k5 hw4
   have hC:=hC.kp k5 hw4
   have hN:=hN.kp k5 hw4
   have hg5:=hg4.kp k5 hw4
   have hkp:=hkp.trans k5
   clear k5 hg4
   by_cases hE1:IsE g (gt l i).1 1
   case neg =>
    have hE':=hE1
    refine go ?_
    repeat' ((first | refine wgd (fun _=>?_) fun _=>?_ | refine wgn (fun _=>?_) fun _=>?_ | refine wgb (fun _=>?_) fun _=>?_ | refine mgd (fun _=>?_) fun _=>?_ | refine mgn (fun _=>?_) fun _=>?_ | refine mgb (fun _=>?_) fun _=>?_ | refine cD (fun _=>?_) fun _=>?_ | refine cN (fun _=>?_) fun _=>?_ | refine cB (fun _=>?_) fun _=>?_) <;> refine go ?_)
    all_goals first
     | exact ret_1 ⟨.y fun hok=>absurd (hok i (by omega)).2.2.1 hE1,hkp⟩
     | exact absurd (by assumption) hE'
   refine go ?_
   repeat' ((first | refine wgd (fun _=>?_) fun _=>?_ | refine wgn (fun _=>?_) fun _=>?_ | refine wgb (fun _=>?_) fun _=>?_ | refine mgd (fun _=>?_) fun _=>?_ | refine mgn (fun _=>?_) fun _=>?_ | refine mgb (fun _=>?_) fun _=>?_ | refine cD (fun _=>?_) fun _=>?_ | refine cN (fun _=>?_) fun _=>?_ | refine cB (fun _=>?_) fun _=>?_) <;> refine go ?_)
   all_goals try exact absurd hE1 (by assumption)
   refine mC (lpo_spec hg5) fun v h6 hR=>⟨.nil,?_⟩
   obtain⟨rfl,k5⟩:=hR
   have hw6:=k5.wf hw5
   have hB5:=hB5.kp k5 hw5
   have hB:=hB.kp k5 hw5
   have hC:=hC.kp k5 hw5
   have hN:=hN.kp k5 hw5
   have hg6:=hg5.kp k5 hw5
   have hkp:=hkp.trans k5
   clear k5 hg5
   by_cases hBf:Bef g (gt l i).1 (gt l i).2
   case neg =>
    have hE':=hBf
    refine go ?_
    repeat' ((first | refine wgd (fun _=>?_) fun _=>?_ | refine wgn (fun _=>?_) fun _=>?_ | refine wgb (fun _=>?_) fun _=>?_ | refine mgd (fun _=>?_) fun _=>?_ | refine mgn (fun _=>?_) fun _=>?_ | refine mgb (fun _=>?_) fun _=>?_ | refine cD (fun _=>?_) fun _=>?_ | refine cN (fun _=>?_) fun _=>?_ | refine cB (fun _=>?_) fun _=>?_) <;> refine go ?_)
    all_goals first
     | exact ret_1 ⟨.y fun hok=>absurd (hok i (by omega)).2.2.2.1 hBf,hkp⟩
     | exact absurd (by assumption) hE'
   obtain⟨hF1,hF2,hF3,-,-⟩:=id hBf
   refine go ?_
   repeat' ((first | refine wgd (fun _=>?_) fun _=>?_ | refine wgn (fun _=>?_) fun _=>?_ | refine wgb (fun _=>?_) fun _=>?_ | refine mgd (fun _=>?_) fun _=>?_ | refine mgn (fun _=>?_) fun _=>?_ | refine mgb (fun _=>?_) fun _=>?_ | refine cD (fun _=>?_) fun _=>?_ | refine cN (fun _=>?_) fun _=>?_ | refine cB (fun _=>?_) fun _=>?_) <;> refine go ?_)
   all_goals try exact absurd hBf (by assumption)
   refine mC (contains_spec hN (by omega)) fun v h7 hR=>⟨.nil,?_⟩
   obtain⟨rfl,rfl⟩:=hR
   refine go ?_
   repeat' ((first | refine wgd (fun _=>?_) fun _=>?_ | refine wgn (fun _=>?_) fun _=>?_ | refine wgb (fun _=>?_) fun _=>?_ | refine mgd (fun _=>?_) fun _=>?_ | refine mgn (fun _=>?_) fun _=>?_ | refine mgb (fun _=>?_) fun _=>?_ | refine cD (fun _=>?_) fun _=>?_ | refine cN (fun _=>?_) fun _=>?_ | refine cB (fun _=>?_) fun _=>?_) <;> refine go ?_)
   all_goals first
    | exact ret_1 ⟨.y fun hok=>absurd (hok i (by omega)).2.2.2.2 (by assumption),hkp⟩
    | exact Nx.inv (i+1) (by omega) ⟨rfl,rfl,rfl,rfl,rfl,rfl,trivial⟩ ⟨by omega,hkp,fun i' h3=>by
      rcases Nat.lt_succ_iff_lt_or_eq.1 h3 with h4 | h4
      ·exact hI i' h4
      ·subst h4;exact⟨fun _=>by simp only[e1]at *;omega,rfl,hE1,hBf,by assumption⟩⟩
 ·have hin:i=l.length:=by omega
  subst hin
  refine go ?_
  exact ret_1 ⟨.n hI,hkp⟩
end Go.Proofs.YtkcdehffcddciaaGreatDoor.Vm
