/- The program's rules 3 and 4. -/
import Derived.Test.YtkcdehffcddciaaGreatDoorQ22
import Derived.Test.YtkcdehffcddciaaGreatDoorQ18
import Derived.Test.YtkcdehffcddciaaGreatDoorQ25
import Derived.Test.YtkcdehffcddciaaGreatDoorQ19
import Derived.Test.YtkcdehffcddciaaGreatDoorQ23
import Derived.Test.YtkcdehffcddciaaGreatDoorQ24
import Derived.Test.YtkcdehffcddciaaGreatDoorQ20
namespace Go.Proofs.YtkcdehffcddciaaGreatDoor.Vm
open Go Go.RowKit
def s82:Sc:=(.seq (.region (
 ⟨none,some 2,.mv (.c (.i .i64 0)),[]⟩ :: []))
(.seq (.seq (.region (
 ⟨none,some 6,.mv (.t 0),[0]⟩ ::
 ⟨none,some 7,.nc (.t 6),[6]⟩ ::
 ⟨none,some 8,.fa (.t 7) 0,[7]⟩ ::
 ⟨none,some 9,.fa (.t 8) 0,[8]⟩ ::
 ⟨none,some 10,.ld (.t 9),[9]⟩ ::
 ⟨none,some 3,.mv (.t 10),[10]⟩ :: []))
(.block 0 (.loop (.seq (.seq (.region (
 ⟨none,some 11,.mv (.t 3),[3]⟩ ::
 ⟨none,some 12,.mv (.t 0),[0]⟩ ::
 ⟨none,some 13,.nc (.t 12),[12]⟩ ::
 ⟨none,some 14,.fa (.t 13) 0,[13]⟩ ::
 ⟨none,some 15,.fa (.t 14) 1,[14]⟩ ::
 ⟨none,some 16,.ld (.t 15),[15]⟩ ::
 ⟨none,some 17,.len (.t 16),[16]⟩ ::
 ⟨none,some 18,.ar .lss (.t 11) (.t 17),[11,17]⟩ :: []))
(.cond (.t 18) .skip
 (.exit 0)))
(.seq (.block 1 (.seq (.region (
 ⟨none,some 21,.mv (.t 0),[0]⟩ ::
 ⟨none,some 22,.nc (.t 21),[21]⟩ ::
 ⟨none,some 23,.fa (.t 22) 0,[22]⟩ ::
 ⟨none,some 24,.fa (.t 23) 1,[23]⟩ ::
 ⟨none,some 25,.ld (.t 24),[24]⟩ ::
 ⟨none,some 26,.mv (.t 3),[3]⟩ ::
 ⟨none,some 27,.ia (.t 25) (.t 26) 5,[25,26]⟩ ::
 ⟨none,some 28,.lds (.t 27) 5,[27]⟩ ::
 ⟨none,some 4,.al 37 [(.i .i64 0),(.i .i64 0),(.i .i64 0),(.i .u64 0),(.i .i64 0)],[]⟩ ::
 ⟨none,none,.st (.t 4) (.t 28) 5,[4,28]⟩ :: []))
(.seq (.mix (
 (⟨none,some 29,.fa (.t 4) 0,[4]⟩,.q [none]) ::
 (⟨none,some 30,.ld (.t 29),[29]⟩,.q [none]) ::
 (⟨none,some 31,.ar .geq (.t 30) (.c (.i .i64 0)),[30]⟩,.q [none]) ::
 (⟨none,some 32,.mv (.t 31),[31]⟩,.q [none]) ::
 (⟨some (32,true),some 33,.fa (.t 4) 0,[4,32]⟩,.q [none]) ::
 (⟨some (32,true),some 34,.ld (.t 33),[33,32]⟩,.q [none]) ::
 (⟨some (32,true),some 35,.ar .lss (.t 34) (.c (.i .i64 64)),[34,32]⟩,.q [none]) ::
 (⟨none,some 36,.pk (.t 32) (.t 35) (.c (.b false)),[32,35]⟩,.q [none]) ::
 (⟨none,some 37,.mv (.t 36),[36]⟩,.q [none]) ::
 (⟨some (37,true),some 38,.fa (.t 4) 1,[4,37]⟩,.q [none]) ::
 (⟨some (37,true),some 39,.ld (.t 38),[38,37]⟩,.q [none]) ::
 (⟨some (37,true),some 40,.mv (.t 0),[0,37]⟩,.q [none]) ::
 (⟨some (37,true),some 41,.nc (.t 40),[40,37]⟩,.q [none]) ::
 (⟨some (37,true),some 42,.fa (.t 41) 8,[41,37]⟩,.q [none]) ::
 (⟨some (37,true),some 43,.ld (.t 42),[42,37]⟩,.q [none]) ::
 (⟨some (37,true),some 44,.call 153 [(.t 39),(.t 43)],[39,43,37]⟩,.e) ::
 (⟨some (37,true),some 45,.fa (.t 4) 4,[4,37]⟩,.q [none,(some 15)]) ::
 (⟨some (37,true),some 46,.ld (.t 45),[45,37]⟩,.q [none,(some 15)]) ::
 (⟨some (37,true),some 47,.call 152 [(.t 44),(.t 46)],[44,46,37]⟩,.e) ::
 (⟨none,some 48,.pk (.t 37) (.t 47) (.c (.b false)),[37,47]⟩,.q [(some 18)]) ::
 (⟨none,some 5,.mv (.t 48),[48]⟩,.q [(some 18)]) :: []))
(.seq (.seq (.region (
 ⟨none,some 49,.fa (.t 4) 1,[4]⟩ ::
 ⟨none,some 50,.ld (.t 49),[49]⟩ ::
 ⟨none,some 51,.eq .int false (.t 50) (.c (.i .i64 3)),[50]⟩ :: []))
(.cond (.t 51) (.region (
  ⟨none, some 52, .mv (.t 5), [5]⟩ ::
  ⟨none, some 53, .mv (.t 52), [52]⟩ ::
  ⟨some (53, true), some 54, .fa (.t 4) 2, [4, 53]⟩ ::
  ⟨some (53, true), some 55, .ld (.t 54), [54, 53]⟩ ::
  ⟨some (53, true), some 56, .eq .int false (.t 55) (.c (.i .i64 (-1))), [55, 53]⟩ ::
  ⟨none, some 57, .pk (.t 53) (.t 56) (.c (.b false)), [53, 56]⟩ ::
  ⟨none, some 58, .mv (.t 57), [57]⟩ ::
  ⟨some (58, true), some 59, .fa (.t 4) 3, [4, 58]⟩ ::
  ⟨some (58, true), some 60, .ld (.t 59), [59, 58]⟩ ::
  ⟨some (58, true), some 61, .eq .int false (.t 60) (.c (.i .u64 0)), [60, 58]⟩ ::
  ⟨none, some 62, .pk (.t 58) (.t 61) (.c (.b false)), [58, 61]⟩ ::
  ⟨none, some 5, .mv (.t 62), [62]⟩ :: []))
 (.mix (
  (⟨none, some 63, .mv (.t 5), [5]⟩, .q [none]) ::
  (⟨none, some 64, .mv (.t 63), [63]⟩, .q [none]) ::
  (⟨some (64, true), some 65, .fa (.t 4) 2, [4, 64]⟩, .q [none]) ::
  (⟨some (64, true), some 66, .ld (.t 65), [65, 64]⟩, .q [none]) ::
  (⟨some (64, true), some 67, .ar .geq (.t 66) (.c (.i .i64 0)), [66, 64]⟩, .q [none]) ::
  (⟨none, some 68, .pk (.t 64) (.t 67) (.c (.b false)), [64, 67]⟩, .q [none]) ::
  (⟨none, some 69, .mv (.t 68), [68]⟩, .q [none]) ::
  (⟨some (69, true), some 70, .fa (.t 4) 2, [4, 69]⟩, .q [none]) ::
  (⟨some (69, true), some 71, .ld (.t 70), [70, 69]⟩, .q [none]) ::
  (⟨some (69, true), some 72, .mv (.t 0), [0, 69]⟩, .q [none]) ::
  (⟨some (69, true), some 73, .nc (.t 72), [72, 69]⟩, .q [none]) ::
  (⟨some (69, true), some 74, .fa (.t 73) 0, [73, 69]⟩, .q [none]) ::
  (⟨some (69, true), some 75, .fa (.t 74) 0, [74, 69]⟩, .q [none]) ::
  (⟨some (69, true), some 76, .ld (.t 75), [75, 69]⟩, .q [none]) ::
  (⟨some (69, true), some 77, .ar .lss (.t 71) (.t 76), [71, 76, 69]⟩, .q [none]) ::
  (⟨none, some 78, .pk (.t 69) (.t 77) (.c (.b false)), [69, 77]⟩, .q [none]) ::
  (⟨none, some 5, .mv (.t 78), [78]⟩, .q [none]) :: []))))
(.seq (.region (
 ⟨none,some 79,.mv (.t 5),[5]⟩ ::
 ⟨none,some 80,.nt (.t 79),[79]⟩ :: []))
(.cond (.t 80) (.seq (.region (
 ⟨none,some 81,.mv (.t 3),[3]⟩ ::
 ⟨none,some 2,.mv (.t 81),[81]⟩ :: []))
.ret)
 .skip))))))
(.region (
 ⟨none,some 19,.mv (.t 3),[3]⟩ ::
 ⟨none,some 20,.ar .add (.t 19) (.c (.i .i64 1)),[19]⟩ ::
 ⟨none,some 3,.mv (.t 20),[20]⟩ :: [])))))))
(.seq (.region (
 ⟨none,some 2,.mv (.c (.i .i64 (-1))),[]⟩ :: []))
.ret)))
set_option maxRecDepth 100000 in
theorem c82:fnB Tryz.prog 82=some (82,s82,[.t 2]):=by kernel_rfl
def s83:Sc:=(.seq (.region (
 ⟨none,some 2,.mv (.c (.i .i64 0)),[]⟩ :: []))
(.seq (.region (
 ⟨none,some 3,.mv (.c (.i .i64 0)),[]⟩ :: []))
(.seq (.seq (.region (
 ⟨none,some 7,.mv (.t 0),[0]⟩ ::
 ⟨none,some 8,.nc (.t 7),[7]⟩ ::
 ⟨none,some 9,.fa (.t 8) 0,[8]⟩ ::
 ⟨none,some 10,.fa (.t 9) 1,[9]⟩ ::
 ⟨none,some 11,.ld (.t 10),[10]⟩ ::
 ⟨none,some 12,.len (.t 11),[11]⟩ ::
 ⟨none,some 13,.mv (.c (.i .i64 0)),[]⟩ :: []))
(.block 0 (.loop (.seq (.region (
 ⟨none,some 14,.ar .lss (.t 13) (.t 12),[13,12]⟩ :: []))
(.seq (.cond (.t 14) .skip
 (.exit 0))
(.seq (.block 1 (.seq (.region (
 ⟨none,some 15,.mv (.t 13),[13]⟩ ::
 ⟨none,some 16,.ia (.t 11) (.t 13) 5,[11,13]⟩ ::
 ⟨none,some 17,.lds (.t 16) 5,[16]⟩ ::
 ⟨none,some 5,.al 37 [(.i .i64 0),(.i .i64 0),(.i .i64 0),(.i .u64 0),(.i .i64 0)],[]⟩ ::
 ⟨none,some 4,.mv (.t 15),[15]⟩ ::
 ⟨none,none,.st (.t 5) (.t 17) 5,[5,17]⟩ :: []))
(.seq (.seq (.region (
 ⟨none,some 18,.fa (.t 5) 1,[5]⟩ ::
 ⟨none,some 19,.ld (.t 18),[18]⟩ ::
 ⟨none,some 20,.eq .int true (.t 19) (.c (.i .i64 1)),[19]⟩ :: []))
(.cond (.t 20) (.exit 1)
 .skip))
(.seq (.seq (.region (
 ⟨none,some 21,.mv (.t 3),[3]⟩ ::
 ⟨none,some 22,.mv (.t 0),[0]⟩ ::
 ⟨none,some 23,.nc (.t 22),[22]⟩ ::
 ⟨none,some 24,.fa (.t 23) 0,[23]⟩ ::
 ⟨none,some 25,.fa (.t 24) 2,[24]⟩ ::
 ⟨none,some 26,.ld (.t 25),[25]⟩ ::
 ⟨none,some 27,.len (.t 26),[26]⟩ ::
 ⟨none,some 28,.eq .int false (.t 21) (.t 27),[21,27]⟩ ::
 ⟨none,some 29,.mv (.t 28),[28]⟩ ::
 ⟨some (29,false),some 30,.mv (.t 0),[0,29]⟩ ::
 ⟨some (29,false),some 31,.nc (.t 30),[30,29]⟩ ::
 ⟨some (29,false),some 32,.fa (.t 31) 0,[31,29]⟩ ::
 ⟨some (29,false),some 33,.fa (.t 32) 2,[32,29]⟩ ::
 ⟨some (29,false),some 34,.ld (.t 33),[33,29]⟩ ::
 ⟨some (29,false),some 35,.mv (.t 3),[3,29]⟩ ::
 ⟨some (29,false),some 36,.ia (.t 34) (.t 35) 2,[34,35,29]⟩ ::
 ⟨some (29,false),some 37,.fa (.t 36) 1,[36,29]⟩ ::
 ⟨some (29,false),some 38,.ld (.t 37),[37,29]⟩ ::
 ⟨some (29,false),some 39,.mv (.t 4),[4,29]⟩ ::
 ⟨some (29,false),some 40,.eq .int true (.t 38) (.t 39),[38,39,29]⟩ ::
 ⟨none,some 41,.pk (.t 29) (.c (.b true)) (.t 40),[29,40]⟩ ::
 ⟨none,some 42,.mv (.t 41),[41]⟩ ::
 ⟨some (42,false),some 43,.mv (.t 0),[0,42]⟩ ::
 ⟨some (42,false),some 44,.mv (.t 0),[0,42]⟩ ::
 ⟨some (42,false),some 45,.nc (.t 44),[44,42]⟩ ::
 ⟨some (42,false),some 46,.fa (.t 45) 0,[45,42]⟩ ::
 ⟨some (42,false),some 47,.fa (.t 46) 2,[46,42]⟩ ::
 ⟨some (42,false),some 48,.ld (.t 47),[47,42]⟩ ::
 ⟨some (42,false),some 49,.mv (.t 3),[3,42]⟩ ::
 ⟨some (42,false),some 50,.ia (.t 48) (.t 49) 2,[48,49,42]⟩ ::
 ⟨some (42,false),some 51,.fa (.t 50) 0,[50,42]⟩ ::
 ⟨some (42,false),some 52,.ld (.t 51),[51,42]⟩ ::
 ⟨some (42,false),some 53,.call 154 [(.t 43),(.t 52),(.c (.i .i64 2))],[43,52,42]⟩ ::
 ⟨some (42,false),some 54,.nt (.t 53),[53,42]⟩ ::
 ⟨none,some 55,.pk (.t 42) (.c (.b true)) (.t 54),[42,54]⟩ :: []))
(.cond (.t 55) (.seq (.region (
 ⟨none,some 56,.mv (.t 3),[3]⟩ ::
 ⟨none,some 2,.mv (.t 56),[56]⟩ :: []))
.ret)
 .skip))
(.seq (.seq (.mix (
 (⟨none,some 57,.mv (.t 0),[0]⟩,.q [none]) ::
 (⟨none,some 58,.nc (.t 57),[57]⟩,.q [none]) ::
 (⟨none,some 59,.fa (.t 58) 0,[58]⟩,.q [none]) ::
 (⟨none,some 60,.fa (.t 59) 1,[59]⟩,.q [none]) ::
 (⟨none,some 61,.ld (.t 60),[60]⟩,.q [none]) ::
 (⟨none,some 62,.mv (.t 0),[0]⟩,.q [none]) ::
 (⟨none,some 63,.nc (.t 62),[62]⟩,.q [none]) ::
 (⟨none,some 64,.fa (.t 63) 0,[63]⟩,.q [none]) ::
 (⟨none,some 65,.fa (.t 64) 2,[64]⟩,.q [none]) ::
 (⟨none,some 66,.ld (.t 65),[65]⟩,.q [none]) ::
 (⟨none,some 67,.mv (.t 3),[3]⟩,.q [none]) ::
 (⟨none,some 68,.ia (.t 66) (.t 67) 2,[66,67]⟩,.q [none]) ::
 (⟨none,some 69,.fa (.t 68) 0,[68]⟩,.q [none]) ::
 (⟨none,some 70,.ld (.t 69),[69]⟩,.q [none]) ::
 (⟨none,some 71,.ia (.t 61) (.t 70) 5,[61,70]⟩,.q [none]) ::
 (⟨none,some 72,.lds (.t 71) 5,[71]⟩,.q [none]) ::
 (⟨none,some 6,.al 37 [(.i .i64 0),(.i .i64 0),(.i .i64 0),(.i .u64 0),(.i .i64 0)],[]⟩,.soft) ::
 (⟨none,none,.st (.t 6) (.t 72) 5,[6,72]⟩,.e) :: []))
(.seq (.region (
 ⟨none,some 73,.fa (.t 6) 2,[6]⟩ ::
 ⟨none,some 74,.ld (.t 73),[73]⟩ ::
 ⟨none,some 75,.fa (.t 5) 2,[5]⟩ ::
 ⟨none,some 76,.ld (.t 75),[75]⟩ ::
 ⟨none,some 77,.eq .int true (.t 74) (.t 76),[74,76]⟩ ::
 ⟨none,some 78,.mv (.t 77),[77]⟩ ::
 ⟨some (78,false),some 79,.fa (.t 6) 3,[6,78]⟩ ::
 ⟨some (78,false),some 80,.ld (.t 79),[79,78]⟩ ::
 ⟨some (78,false),some 81,.fa (.t 5) 3,[5,78]⟩ ::
 ⟨some (78,false),some 82,.ld (.t 81),[81,78]⟩ ::
 ⟨some (78,false),some 83,.eq .int true (.t 80) (.t 82),[80,82,78]⟩ ::
 ⟨none,some 84,.pk (.t 78) (.c (.b true)) (.t 83),[78,83]⟩ :: []))
(.cond (.t 84) (.seq (.region (
 ⟨none,some 85,.mv (.t 3),[3]⟩ ::
 ⟨none,some 2,.mv (.t 85),[85]⟩ :: []))
.ret)
 .skip)))
(.region (
 ⟨none,some 86,.mv (.t 3),[3]⟩ ::
 ⟨none,some 87,.ar .add (.t 86) (.c (.i .i64 1)),[86]⟩ ::
 ⟨none,some 3,.mv (.t 87),[87]⟩ :: [])))))))
(.region (
 ⟨none,some 88,.ar .add (.t 13) (.c (.i .i64 1)),[13]⟩ ::
 ⟨none,some 13,.mv (.t 88),[88]⟩ :: []))))))))
(.seq (.seq (.region (
 ⟨none,some 89,.mv (.t 3),[3]⟩ ::
 ⟨none,some 90,.mv (.t 0),[0]⟩ ::
 ⟨none,some 91,.nc (.t 90),[90]⟩ ::
 ⟨none,some 92,.fa (.t 91) 0,[91]⟩ ::
 ⟨none,some 93,.fa (.t 92) 2,[92]⟩ ::
 ⟨none,some 94,.ld (.t 93),[93]⟩ ::
 ⟨none,some 95,.len (.t 94),[94]⟩ ::
 ⟨none,some 96,.ar .lss (.t 89) (.t 95),[89,95]⟩ :: []))
(.cond (.t 96) (.seq (.region (
 ⟨none,some 97,.mv (.t 3),[3]⟩ ::
 ⟨none,some 2,.mv (.t 97),[97]⟩ :: []))
.ret)
 .skip))
(.seq (.region (
 ⟨none,some 2,.mv (.c (.i .i64 (-1))),[]⟩ :: []))
.ret)))))
set_option maxRecDepth 100000 in
theorem c83:fnB Tryz.prog 83=some (98,s83,[.t 2]):=by kernel_rfl
def EvsOk (g:Gr) (w:Bool):Prop:=∀i:Nat,g.cells≤i→i<g.ev.length→EvOk g.cells (gt g.ev i) w
set_option maxHeartbeats 0 in
theorem levents_spec {m:Bool} {h:H} {b:Nat} {gl:List V} {vn:V} {g:Gr} {w:Bool} {nx:List Int} (hw:Wf h) (hg:LkAt h b gl vn g w nx) (hn:g.ev.length≤256) (hc0:0≤g.cells) (hcl:g.cells≤g.ev.length):FX m Tryz.prog 82 [.p b 0] h fun v h'=>Iv v (EvsOk g w)∧Kp h h':=by
 obtain⟨ve,vrf,vco,vrmw,vad,vda,vct,rfl,he,-⟩:=hg.gr.is
 obtain⟨c0,hc⟩:∃c0:Nat,g.cells=c0:=⟨g.cells.toNat,by omega⟩
 refine Fn.env c82 rfl ?_
 unfold s82
 have hB1:=hg.bx
 obtain⟨hL,hC1⟩:=he
 have hB:=hB1
 clear hg
 refine go ?_
 refine Es.loop (X:=Nat) (fun x=>g.ev.length-x) (fun x=>[(0,.p b 0),(3,.i .i64 (x:Int))]) (fun x h'=>c0≤x∧x≤g.ev.length∧Kp h h'∧∀i:Nat,g.cells≤i→i<x→EvOk g.cells (gt g.ev i) w) c0 ⟨rfl,by rw[←hc];rfl,trivial⟩ ⟨Nat.le_refl _,by omega,.refl _,fun i h8 h9=>by omega⟩ fun i h3 hx=>?_
 obtain⟨hi0,hi,k3,hI⟩:=hx
 have hw3:=k3.wf hw
 have hB:=hB1.kp k3 hw
 have hC:=hC1.kp k3 hw
 have hkp:=k3
 refine go ?_
 refine cD (fun hlt=>?_) (fun hge=>?_)
 ·skip
  refine go ?_
  refine ew_al fun b5 h4 ob5 k4=>?_
  refine ew_st ob5 fun h5 ob6 m5=>?_
  have k5:Kp h3 h5:=m5.kp k4 fun j hj=>by injection hj with hj;subst hj;exact ob5.lo
  have hw5:=k5.wf hw3
  have hB5:=ob6.bx
  have hB:=hB.kp k5 hw3
  have hC:=hC.kp k5 hw3
  have hkp:=hkp.trans k5
  clear k4 k5 k3 ob5 ob6 m5
  have hbad:¬EvOk g.cells (gt g.ev i) w→∀{p:Prop},EvsOk g w→p:=fun h1 p h2=>absurd (h2 i (by omega) (by omega)) h1
  have hnx:EvOk g.cells (gt g.ev i) w→∀i':Nat,g.cells≤i'→i'<i+1→EvOk g.cells (gt g.ev i') w:=fun h1 i' h7 h8=>by
   rcases Nat.lt_succ_iff_lt_or_eq.1 h8 with h9 | h9
   ·exact hI i' h7 h9
   ·subst h9;exact h1
  refine go ?_
  repeat' ((first | refine wgd (fun _=>?_) fun _=>?_ | refine wgn (fun _=>?_) fun _=>?_ | refine wgb (fun _=>?_) fun _=>?_ | refine mgd (fun _=>?_) fun _=>?_ | refine mgn (fun _=>?_) fun _=>?_ | refine mgb (fun _=>?_) fun _=>?_ | refine cD (fun _=>?_) fun _=>?_ | refine cN (fun _=>?_) fun _=>?_ | refine cB (fun _=>?_) fun _=>?_) <;> refine go ?_)
  all_goals try exact ret_1 ⟨.y fun h1=>hbad (by unfold EvOk;omega) h1,hkp⟩
  refine mC modes_spec fun v h6 hR=>⟨.nil,?_⟩
  obtain⟨hro,k6⟩:=hR
  have hw6:=k6.wf hw5
  have hB5:=hB5.kp k6 hw5
  have hB:=hB.kp k6 hw5
  have hC:=hC.kp k6 hw5
  have hkp:=hkp.trans k6
  clear k6
  refine go ?_
  refine mC (contains_spec hro (by have:=modesL_len (gt g.ev i).kind w;omega)) fun v h7 hR=>⟨.nil,?_⟩
  obtain⟨rfl,rfl⟩:=hR
  have hmo:((gt g.ev i).mode∈modesL (gt g.ev i).kind w)↔ModeOk (gt g.ev i).kind (gt g.ev i).mode w:=modesL_ok
  by_cases hM:(gt g.ev i).mode∈modesL (gt g.ev i).kind w
  case neg =>
   have hM':=hM
   have hev:¬EvOk g.cells (gt g.ev i) w:=fun h1=>hM (hmo.2 h1.2.2.1)
   refine go ?_
   repeat' ((first | refine wgd (fun _=>?_) fun _=>?_ | refine wgn (fun _=>?_) fun _=>?_ | refine wgb (fun _=>?_) fun _=>?_ | refine mgd (fun _=>?_) fun _=>?_ | refine mgn (fun _=>?_) fun _=>?_ | refine mgb (fun _=>?_) fun _=>?_ | refine cD (fun _=>?_) fun _=>?_ | refine cN (fun _=>?_) fun _=>?_ | refine cB (fun _=>?_) fun _=>?_) <;> refine go ?_)
   all_goals first
    | exact ret_1 ⟨.y fun h1=>hbad hev h1,hkp⟩
    | exact absurd (by assumption) hM'
  have hM':=hM
  have hmm:=hmo.1 hM
  refine go ?_
  repeat' ((first | refine wgd (fun _=>?_) fun _=>?_ | refine wgn (fun _=>?_) fun _=>?_ | refine wgb (fun _=>?_) fun _=>?_ | refine mgd (fun _=>?_) fun _=>?_ | refine mgn (fun _=>?_) fun _=>?_ | refine mgb (fun _=>?_) fun _=>?_ | refine cD (fun _=>?_) fun _=>?_ | refine cN (fun _=>?_) fun _=>?_ | refine cB (fun _=>?_) fun _=>?_) <;> refine go ?_)
  all_goals first
   | exact absurd hM (by assumption)
   | exact ret_1 ⟨.y fun h1=>hbad (by unfold EvOk;omega) h1,hkp⟩
   | exact Nx.inv (i+1) (by omega) ⟨rfl,rfl,trivial⟩ ⟨by omega,by omega,hkp,hnx ⟨by omega,by omega,hmm,by omega⟩⟩
 ·skip
  refine go ?_
  exact ret_1 ⟨.n fun i' h7 h8=>hI i' h7 (by omega),hkp⟩
set_option maxHeartbeats 0 in
theorem lrf_spec {m:Bool} {h:H} {b:Nat} {gl:List V} {vn:V} {g:Gr} {w:Bool} {nx:List Int} (hw:Wf h) (hg:LkAt h b gl vn g w nx) (hn:g.ev.length≤256):FX m Tryz.prog 83 [.p b 0] h fun v h'=>Iv v (RfOk g)∧Kp h h':=by
 obtain⟨ve,vrf,vco,vrmw,vad,vda,vct,rfl,he,hrf,-⟩:=hg.gr.is
 refine Fn.env c83 rfl ?_
 unfold s83
 have hB1:=hg.bx
 obtain⟨hL,hC1⟩:=he
 obtain⟨hL2,hD1⟩:=hrf
 have hB:=hB1
 have hg1:=hg
 clear hg
 refine go ?_
 refine Es.loop (X:=Nat × Nat) (fun x=>g.ev.length-x.1) (fun x=>[(0,.p b 0),(3,.i .i64 (x.2:Int)),(11,ve),(12,.i .i64 (g.ev.length:Int)),(13,.i .i64 (x.1:Int))]) (fun x h'=>x.1≤g.ev.length∧x.2≤g.rf.length∧x.2=RdC g x.1∧Kp h h'∧∀r,r<x.1→(gt g.ev r).kind=1→RfAt g r) (0,0) ⟨rfl,rfl,rfl,rfl,rfl,trivial⟩ ⟨Nat.zero_le _,Nat.zero_le _,rfl,.refl _,fun r hr=>absurd hr (Nat.not_lt_zero _)⟩ fun x h2 hx=>?_
 obtain⟨r,k⟩:=x
 obtain⟨hr,hkl,hk,k2,hI⟩:=hx
 simp only at hr hkl hk hI ⊢
 have hw2:=k2.wf hw
 have hB:=hB1.kp k2 hw
 have hC:=hC1.kp k2 hw
 have hD:=hD1.kp k2 hw
 have hkp:=k2
 have hkr:=RdC_le g r
 refine go ?_
 refine cD (fun hlt=>?_) (fun hge=>?_)
 ·skip
  refine go ?_
  refine ew_al fun b5 h3 ob5 k3=>?_
  refine go ?_
  refine ew_st ob5 fun h4 ob6 m4=>?_
  have k4:Kp h2 h4:=m4.kp k3 fun j hj=>by injection hj with hj;subst hj;exact ob5.lo
  have hw4:=k4.wf hw2
  have hB5:=ob6.bx
  have hB:=hB.kp k4 hw2
  have hC:=hC.kp k4 hw2
  have hD:=hD.kp k4 hw2
  have hkp:=hkp.trans k4
  clear k3 k4 ob5 ob6 m4 k2
  refine go ?_
  refine cN (fun hne=>?_) (fun heq=>?_)
  ·skip
   refine go ?_
   exact Nx.inv (r+1,k) (by simp only;omega) ⟨rfl,rfl,rfl,rfl,rfl,trivial⟩ ⟨by simp only;omega,by simp only;omega,by simp only;rw[RdC_n hne];exact hk,hkp,fun r' h3 h4=>by
    simp only at h3
    by_cases e:r'=r
    ·subst e;exact absurd h4 hne
    ·exact hI r' (by omega) h4⟩
  have hbad:¬RfAt g r→∀{p:Prop},RfOk g→p:=fun h1 p h2=>absurd (h2.1 r (by omega) heq) h1
  have hg4:=hg1.kp hkp hw
  refine go ?_
  repeat' ((first | refine wgd (fun _=>?_) fun _=>?_ | refine wgn (fun _=>?_) fun _=>?_ | refine wgb (fun _=>?_) fun _=>?_ | refine mgd (fun _=>?_) fun _=>?_ | refine mgn (fun _=>?_) fun _=>?_ | refine mgb (fun _=>?_) fun _=>?_ | refine cD (fun _=>?_) fun _=>?_ | refine cN (fun _=>?_) fun _=>?_ | refine cB (fun _=>?_) fun _=>?_) <;> refine go ?_)
  all_goals try exact ret_1 ⟨.y fun h1=>hbad (fun h2=>by obtain⟨h3,h4,-⟩:=h2;subst hk;first | omega | contradiction) h1,hkp⟩
  refine stC (lis_spec hg4) fun v h5 hR=>?_
  obtain⟨rfl,k5⟩:=hR
  have hw5:=k5.wf hw4
  have hB5:=hB5.kp k5 hw4
  have hB:=hB.kp k5 hw4
  have hC:=hC.kp k5 hw4
  have hD:=hD.kp k5 hw4
  have hkp:=hkp.trans k5
  clear k5 hg4
  by_cases hE:IsE g (gt g.rf k).1 2
  case neg =>
   have hE':=hE
   refine go ?_
   repeat' ((first | refine wgd (fun _=>?_) fun _=>?_ | refine wgn (fun _=>?_) fun _=>?_ | refine wgb (fun _=>?_) fun _=>?_ | refine mgd (fun _=>?_) fun _=>?_ | refine mgn (fun _=>?_) fun _=>?_ | refine mgb (fun _=>?_) fun _=>?_ | refine cD (fun _=>?_) fun _=>?_ | refine cN (fun _=>?_) fun _=>?_ | refine cB (fun _=>?_) fun _=>?_) <;> refine go ?_)
   all_goals first
    | exact ret_1 ⟨.y fun h1=>hbad (fun h2=>by obtain⟨-,-,h3,-⟩:=h2;subst hk;contradiction) h1,hkp⟩
    | exact absurd (by assumption) hE'
  obtain⟨hE0,hE1,hE2⟩:=id hE
  refine go ?_
  repeat' ((first | refine wgd (fun _=>?_) fun _=>?_ | refine wgn (fun _=>?_) fun _=>?_ | refine wgb (fun _=>?_) fun _=>?_ | refine mgd (fun _=>?_) fun _=>?_ | refine mgn (fun _=>?_) fun _=>?_ | refine mgb (fun _=>?_) fun _=>?_ | refine cD (fun _=>?_) fun _=>?_ | refine cN (fun _=>?_) fun _=>?_ | refine cB (fun _=>?_) fun _=>?_) <;> refine go ?_)
  refine em_al fun b6 h6 ob7 k6=>?_
  refine em_st ob7 fun h7 ob8 m7=>?_
  have k7:Kp h5 h7:=m7.kp k6 fun j hj=>by injection hj with hj;subst hj;exact ob7.lo
  have hw7:=k7.wf hw5
  have hB6:=ob8.bx
  have hB5:=hB5.kp k7 hw5
  have hkp:=hkp.trans k7
  clear k6 k7 ob7 ob8 m7
  refine go ?_
  repeat' ((first | refine wgd (fun _=>?_) fun _=>?_ | refine wgn (fun _=>?_) fun _=>?_ | refine wgb (fun _=>?_) fun _=>?_ | refine mgd (fun _=>?_) fun _=>?_ | refine mgn (fun _=>?_) fun _=>?_ | refine mgb (fun _=>?_) fun _=>?_ | refine cD (fun _=>?_) fun _=>?_ | refine cN (fun _=>?_) fun _=>?_ | refine cB (fun _=>?_) fun _=>?_) <;> refine go ?_)
  all_goals first
   | exact ret_1 ⟨.y fun h1=>hbad (fun h2=>by obtain⟨-,-,-,h3,h4⟩:=h2;subst hk;contradiction) h1,hkp⟩
   | exact Nx.inv (r+1,k+1) (by simp only;omega) ⟨rfl,rfl,rfl,rfl,rfl,trivial⟩ ⟨by simp only;omega,by simp only;omega,by simp only;rw[RdC_y heq,hk],hkp,fun r' h3 h4=>by
     simp only at h3
     by_cases e:r'=r
     ·subst e;subst hk;exact⟨by omega,by assumption,hE,by assumption,by assumption⟩
     ·exact hI r' (by omega) h4⟩
 ·have hrn:r=g.ev.length:=by omega
  subst hrn
  refine go ?_
  refine cD (fun hlt=>?_) (fun hge=>?_)
  ·skip
   refine go ?_
   exact ret_1 ⟨.y fun hok=>by have:=hok.2;omega,hkp⟩
  ·skip
   refine go ?_
   exact ret_1 ⟨.n ⟨hI,by omega⟩,hkp⟩
def LF (g:Gr) (i:Nat) (ml:List (Int × V)):Prop:=∀t:Int,(mGet t ml=none∧∀j,i≤j→j<g.ev.length→(gt g.ev j).thread≠t)∨∃k:Nat,mGet t ml=some (.i .i64 (k:Int))∧i≤k∧k<g.ev.length∧(gt g.ev k).thread=t∧∀j,i≤j→j<k→(gt g.ev j).thread≠t
theorem LF.nil (g:Gr):LF g g.ev.length []:=fun t=>.inl ⟨rfl,fun j h1 h2=>by omega⟩
theorem LF.step {g:Gr} {i:Nat} {ml:List (Int × V)} (hl:LF g (i+1) ml) (hi:i<g.ev.length):LF g i (mIns (gt g.ev i).thread (.i .i64 (i:Int)) ml):=fun t=>by
 rw[mGet_ins]
 by_cases e:t=(gt g.ev i).thread
 ·rw[if_pos e]
  exact .inr ⟨i,rfl,Nat.le_refl _,hi,e.symm,fun j h1 h2=>by omega⟩
 ·rw[if_neg e]
  rcases hl t with⟨h1,h2⟩ | ⟨k,h1,h2,h3,h4,h5⟩
  ·exact .inl ⟨h1,fun j h3 h4 h5=>by
    by_cases e2:j=i
    ·subst e2;exact e h5.symm
    ·exact h2 j (by omega) h4 h5⟩
  ·exact .inr ⟨k,h1,by omega,h3,h4,fun j h6 h7 h8=>by
    by_cases e2:j=i
    ·subst e2;exact e h8.symm
    ·exact h5 j (by omega) h7 h8⟩
def NxV (g:Gr) (nx:List Int) (i:Nat):Prop:=∀j:Nat,i≤j→j<g.ev.length→∀k:Int,0≤k→(gt nx j=k↔Nxt g j k)
theorem NxV.step {g:Gr} {nx:List Int} {i:Nat} {x:Int} (hn:NxV g nx (i+1)) (hl:i<nx.length) (hx:∀k:Int,0≤k→(x=k↔Nxt g i k)):NxV g (nx.set i x) i:=fun j h1 h2 k hk=>by
 rw[gt_set hl]
 by_cases e:j=i
 ·rw[if_pos e,e];exact hx k hk
 ·rw[if_neg e];exact hn j (by omega) h2 k hk
theorem nxt_no {g:Gr} {i:Nat} {ml:List (Int × V)} (hl:LF g (i+1) ml) (h:mGet (gt g.ev i).thread ml=none∨(gt g.ev i).thread<0) (k:Int) (hk:0≤k):(-1=k↔Nxt g i k):=⟨fun h=>by omega,fun hx=>by
 obtain⟨⟨h1,h2,h3,h4,h5⟩,-⟩:=hx
 rw[Int.toNat_natCast]at h4 h5
 rcases h with h | h
 ·rcases hl (gt g.ev i).thread with⟨-,h6⟩ | ⟨k',h6,-⟩
  ·exact absurd h5.symm (h6 k.toNat (by omega) (by omega))
  ·rw[h]at h6;cases h6
 ·omega⟩
theorem nxt_yes {g:Gr} {i k':Nat} {ml:List (Int × V)} (hl:LF g (i+1) ml) (h:mGet (gt g.ev i).thread ml=some (.i .i64 (k':Int))) (h0:0≤(gt g.ev i).thread) (k:Int) (hk:0≤k):((k':Int)=k↔Nxt g i k):=by
 rcases hl (gt g.ev i).thread with⟨h6,-⟩ | ⟨k2,h6,h7,h8,h9,h10⟩
 ·rw[h]at h6;cases h6
 rw[h]at h6
 injection h6 with h6
 injection h6 with _ h6
 obtain rfl:k'=k2:=by omega
 constructor
 ·rintro rfl
  refine⟨⟨by omega,by omega,by omega,by rw[Int.toNat_natCast];exact h0,by rw[Int.toNat_natCast,Int.toNat_natCast];exact h9.symm⟩,fun j h1 h2=>?_⟩
  rw[Int.toNat_natCast]
  exact h10 j (by omega) (by omega)
 ·intro hx
  obtain⟨⟨h1,h2,h3,h4,h5⟩,h11⟩:=hx
  rw[Int.toNat_natCast]at h4 h5
  have h12:¬(k':Int)<k:=fun h=>by
   have:=h11 k' (by omega) h
   rw[Int.toNat_natCast]at this
   exact this h9
  have h13:¬k<(k':Int):=fun h=>h10 k.toNat (by omega) (by omega) h5.symm
  omega
theorem kind3 {g:Gr} {w:Bool} (_h0:0≤g.cells) (hi:∀c:Nat,(c:Int)<g.cells→gt g.ev c=first_ w c) (he:EvsOk g w) (i:Nat) (hl:i<g.ev.length):(gt g.ev i).kind=1∨(gt g.ev i).kind=2∨(gt g.ev i).kind=3:=by
 by_cases h:(i:Int)<g.cells
 ·rw[hi i h];exact .inr (.inl rfl)
 ·have h1:=(he i (by omega) hl).2.2.1
  unfold ModeOk at h1
  omega
theorem dep_k {g:Gr} {w:Bool} {l:List (Int × Int)} {ks:List Int} {n:Int} (h3:∀i,i<g.ev.length→(gt g.ev i).kind=1∨(gt g.ev i).kind=2∨(gt g.ev i).kind=3)
  (hk:∀k:Int,k=1∨k=2∨k=3→(k∈ks↔(n=7→k≠3)∧(n=8→k=2))):DepOkK g l w ks↔DepOk g l n∧(w=false→l = []):=by
 constructor
 ·intro h
  refine⟨fun i hi=>?_,fun hw=>?_⟩
  ·obtain⟨h1,-,h2,h4,h5⟩:=h i hi
   have h6:=(hk _ (h3 _ (by unfold Bef at h4;omega))).1 h5
   exact⟨h1,h2,h4,h6.1,h6.2⟩
  ·cases l with
   | nil=>rfl
   | cons a l=>exact absurd (h 0 (Nat.zero_lt_succ _)).2.1 (by rw[hw];decide)
 ·rintro⟨h,hw⟩ i hi
  obtain⟨h1,h2,h4,h5,h6⟩:=h i hi
  refine⟨h1,?_,h2,h4,(hk _ (h3 _ (by unfold Bef at h4;omega))).2 ⟨h5,h6⟩⟩
  cases w with
  | true=>rfl
  | false=>rw[hw rfl]at hi;exact absurd hi (Nat.not_lt_zero _)
theorem dep_7 {g:Gr} {w:Bool} {l:List (Int × Int)} (h3:∀i,i<g.ev.length→(gt g.ev i).kind=1∨(gt g.ev i).kind=2∨(gt g.ev i).kind=3):DepOkK g l w [1,2]↔DepOk g l 7∧(w=false→l = []):=dep_k h3 fun k hk=>by simp;omega
theorem dep_8 {g:Gr} {w:Bool} {l:List (Int × Int)} (h3:∀i,i<g.ev.length→(gt g.ev i).kind=1∨(gt g.ev i).kind=2∨(gt g.ev i).kind=3):DepOkK g l w [2]↔DepOk g l 8∧(w=false→l = []):=dep_k h3 fun k hk=>by simp
theorem dep_9 {g:Gr} {w:Bool} {l:List (Int × Int)} (h3:∀i,i<g.ev.length→(gt g.ev i).kind=1∨(gt g.ev i).kind=2∨(gt g.ev i).kind=3):DepOkK g l w [1,2,3]↔DepOk g l 9∧(w=false→l = []):=dep_k h3 fun k hk=>by simp;omega
structure Sb (h h':H) (b1 b2:Nat):Prop where
 le:h.next≤h'.next
 get:∀k,k<h.next→k≠b1→k≠b2→h'.t.get k=h.t.get k
 wf:Wf h→Wf h'
theorem Sb.refl (h:H) (b1 b2:Nat):Sb h h b1 b2:=⟨Nat.le_refl _,fun _ _ _ _=>rfl,id⟩
theorem Sb.mo {h h' h2:H} {b1 b2:Nat} {b:Option Nat} (s:Sb h h' b1 b2) (m:Mo h' h2 b) (hb:∀k,b=some k→k=b1∨k=b2∨h.next≤k):Sb h h2 b1 b2:=⟨Nat.le_trans s.le m.le,fun k hk h1 h2=>(m.get k (Nat.lt_of_lt_of_le hk s.le) fun e=>by
 rcases hb k e with h | h | h <;> omega).trans (s.get k hk h1 h2),fun hw=>m.wf (s.wf hw)⟩
theorem Sb.bx {h h':H} {b1 b2 b:Nat} {l:List V} (s:Sb h h' b1 b2) (hb:Bx h b l) (hl:b<h.next) (h1:b≠b1) (h2:b≠b2):Bx h' b l:=⟨fun k v hk=>⟨by
 have:=(hb.eq k v hk).eq
 unfold H.cell at this ⊢
 rw[s.get b hl h1 h2]
 exact this⟩⟩
theorem Sb.kp {h0 h h':H} {b1 b2:Nat} (s:Sb h h' b1 b2) (k:Kp h0 h) (h1:h0.next≤b1) (h2:h0.next≤b2):Kp h0 h':=⟨⟨Nat.le_trans k.le s.le,fun j hj=>(s.get j (Nat.lt_of_lt_of_le hj k.le) (by omega) (by omega)).trans (k.old.get j hj)⟩,fun hw=>s.wf (k.wf hw)⟩
def s31:Sc:=(.seq (.region (
 ⟨none,some 1,.bx 26 (.t 0),[0]⟩ ::
 ⟨none,some 2,.mv (.c .nm),[]⟩ :: []))
(.seq (.region (
 ⟨none,some 6,.mm,[]⟩ ::
 ⟨none,some 3,.mv (.t 6),[6]⟩ :: []))
(.seq (.seq (.region (
 ⟨none,some 7,.fa (.t 1) 4,[1]⟩ ::
 ⟨none,some 8,.ld (.t 7),[7]⟩ ::
 ⟨none,some 9,.len (.t 8),[8]⟩ ::
 ⟨none,some 10,.mv (.c (.i .i64 0)),[]⟩ :: []))
(.block 0 (.loop (.seq (.region (
 ⟨none,some 11,.ar .lss (.t 10) (.t 9),[10,9]⟩ :: []))
(.seq (.cond (.t 11) .skip
 (.exit 0))
(.seq (.block 1 (.seq (.region (
 ⟨none,some 12,.ia (.t 8) (.t 10) 2,[8,10]⟩ ::
 ⟨none,some 13,.lds (.t 12) 2,[12]⟩ ::
 ⟨none,some 5,.al 39 [(.i .i64 0),(.i .i64 0)],[]⟩ ::
 ⟨none,none,.st (.t 5) (.t 13) 2,[5,13]⟩ :: []))
(.region (
 ⟨none,some 14,.mv (.t 3),[3]⟩ ::
 ⟨none,some 15,.fa (.t 5) 0,[5]⟩ ::
 ⟨none,some 16,.ld (.t 15),[15]⟩ ::
 ⟨none,some 17,.fa (.t 5) 1,[5]⟩ ::
 ⟨none,some 18,.ld (.t 17),[17]⟩ ::
 ⟨none,none,.mu (.t 14) (.t 16) (.t 18),[14,16,18]⟩ :: []))))
(.region (
 ⟨none,some 19,.ar .add (.t 10) (.c (.i .i64 1)),[10]⟩ ::
 ⟨none,some 10,.mv (.t 19),[19]⟩ :: []))))))))
(.seq (.region (
 ⟨none,some 20,.mv (.t 3),[3]⟩ ::
 ⟨none,some 2,.mv (.t 20),[20]⟩ :: []))
.ret))))
set_option maxRecDepth 100000 in
theorem c31:fnB Tryz.prog 31=some (21,s31,[.t 2]):=by kernel_rfl
def SecM (l:List (Int × Int)) (n:Nat) (ml:List (Int × V)):Prop:=∀i:Int,(mGet i ml=none∧∀j,j<n→(gt l j).1≠i)∨∃k,k<n∧(gt l k).1=i∧mGet i ml=some (.i .i64 (gt l k).2)∧∀j,k<j→j<n→(gt l j).1≠i
theorem SecM.step {l:List (Int × Int)} {n:Nat} {ml:List (Int × V)} (hm:SecM l n ml):SecM l (n+1) (mIns (gt l n).1 (.i .i64 (gt l n).2) ml):=fun i=>by
 rw[mGet_ins]
 by_cases e:i=(gt l n).1
 ·rw[if_pos e]
  exact .inr ⟨n,Nat.lt_succ_self _,e.symm,rfl,fun j h1 h2=>by omega⟩
 ·rw[if_neg e]
  rcases hm i with⟨h1,h2⟩ | ⟨k,h1,h2,h3,h4⟩
  ·exact .inl ⟨h1,fun j hj h=>by
    rcases Nat.lt_succ_iff_lt_or_eq.1 hj with h5 | h5
    ·exact h2 j h5 h
    ·subst h5;exact e h.symm⟩
  ·exact .inr ⟨k,by omega,h2,h3,fun j h5 h6 h=>by
    rcases Nat.lt_succ_iff_lt_or_eq.1 h6 with h7 | h7
    ·exact h4 j h5 h7 h
    ·subst h7;exact e h.symm⟩
theorem SecM.secV {l:List (Int × Int)} {ml:List (Int × V)} (hm:SecM l l.length ml) (hd:∀j k,j<k→k<l.length→(gt l j).1≠(gt l k).1) (i:Int):(mGet i ml=none∧secV i l = -1)∨mGet i ml=some (.i .i64 (secV i l)):=by
 rcases hm i with⟨h1,h2⟩ | ⟨k,h1,h2,h3,-⟩
 ·exact .inl ⟨h1,secV_no h2⟩
 ·exact .inr (by rw[h3,secV_at h1 (fun j hj=>by rw[←h2];exact hd j k hj h1) h2])
set_option maxHeartbeats 0 in
theorem seconds_spec {m:Bool} {h:H} {gl:List V} {g:Gr} (hw:Wf h) (hg:GrAt h gl g) (hn:g.rmw.length≤100000000):FX m Tryz.prog 31 [.agg gl] h fun v h'=>(∃bm ml,v=.m bm∧Mp h' h.next bm .i64 ml∧SecM g.rmw g.rmw.length ml)∧Kp h h':=by
 have hone:=hg.one
 obtain⟨ve,vrf,vco,vrmw,vad,vda,vct,rfl,-,-,-,hrm,-⟩:=hg.is
 refine Fn.env c31 rfl ?_
 unfold s31
 refine Es.seq (Es.region (ew_bx (hz:=hone) fun b h1 ob k1=>?_))
 have hw1:=k1.wf hw
 have hB:=ob.bx
 obtain⟨hL,hC1⟩:=hrm.kp k1 hw
 refine go ?_
 refine ew_mm .i64 fun bm h2 hM2 k2=>?_
 have hB:=hB.kp k2 hw1
 have q1:=k1.le
 refine go ?_
 refine Es.loop (X:=Nat × List (Int × V)) (fun x=>g.rmw.length-x.1) (fun x=>[(3,.m bm),(8,vrmw),(9,.i .i64 (g.rmw.length:Int)),(10,.i .i64 (x.1:Int))]) (fun x h'=>x.1≤g.rmw.length∧Kp h1 h'∧Mp h' h1.next bm .i64 x.2∧SecM g.rmw x.1 x.2) (0,[]) ⟨rfl,rfl,rfl,rfl,trivial⟩ ⟨Nat.zero_le _,k2,hM2,fun i=>.inl ⟨rfl,fun j hj=>absurd hj (Nat.not_lt_zero _)⟩⟩ fun x h3 hx=>?_
 obtain⟨r,ml⟩:=x
 clear hM2 hB k2
 obtain⟨hr,k3,hM,hS⟩:=hx
 simp only at hr hM hS ⊢
 have hw3:=k3.wf hw1
 have hC:=hC1.kp k3 hw1
 refine go ?_
 refine cD (fun hlt=>?_) (fun hge=>?_)
 ·skip
  refine go ?_
  refine ew_al fun b5 h4 ob5 k4=>?_
  refine go ?_
  refine ew_st ob5 fun h5 ob6 m5=>?_
  have k5:Kp h3 h5:=m5.kp k4 fun j hj=>by injection hj with hj;subst hj;exact ob5.lo
  have hB5:=ob6.bx
  have hM:=hM.kp k5
  have hkp:=k3.trans k5
  have hlo:=hM.lo
  clear k4 k5 ob5 ob6 m5
  refine go ?_
  refine ew_mu hM fun h6 hM6 m6=>?_
  refine go ?_
  exact Nx.inv (r+1,_) (by simp only;omega) ⟨rfl,rfl,rfl,rfl,trivial⟩ ⟨by simp only;omega,m6.kp hkp fun j hj=>by injection hj with hj;subst hj;exact hlo,hM6,hS.step⟩
 ·obtain rfl:r=g.rmw.length:=by omega
  refine go ?_
  exact ret_1 ⟨⟨bm,ml,rfl,⟨Nat.le_trans q1 hM.lo,hM.hi,hM.at_⟩,hS⟩,k1.trans k3⟩
structure PC where
 hS:H
 nT:Nat
 nR:Nat
 P:Nat→Prop
 vq:V
 vo:V
 v6:V
 bm:Nat
 mF:Nat
 c1:∀k,P k→nT≤k
 c2:¬P mF
 c3:nT≤mF
 c4:v6.ba<nT
 c5:¬P bm
 c6:nT≤bm
 c7:bm≠mF
structure PS where
 i:Nat
 T:List (List Int)
 Q:List (List Int)
 O:List (List Int)
 F:List Int
 tv:List V
 qs:List V
 os:List V
 ml:List (Int × V)
def FromM (ev:List Ev_) (F:List Int) (ml:List (Int × V)):Prop:=∀r:Nat,r<F.length→(mGet (r:Int) ml=none∧gt F r=0)∨mGet (r:Int) ml=some (.agg (upto (wc ev (gt F r)) 3 0))
theorem FromM.ins {ev:List Ev_} {F:List Int} {ml:List (Int × V)} (hm:FromM ev F ml) {x:Int} (h0:0≤x) (hx:x.toNat<F.length) (w:Int):FromM ev (F.set x.toNat w) (mIns x (.agg (upto (wc ev w) 3 0)) ml):=fun r hr=>by
 rw[List.length_set]at hr
 rw[gt_set hx,mGet_ins]
 by_cases e:r=x.toNat
 ·rw[if_pos e,if_pos (by omega)]
  exact .inr rfl
 ·rw[if_neg e,if_neg (by omega)]
  exact hm r hr
structure PI (c:PC) (g:Gr) (n:Nat) (h:H) (x:PS):Prop where
 mac:Mac h c.nT c.P c.vq c.vo 94 92 3 83 (wc g.ev) x.Q x.O x.qs x.os
 gp:Gp g n x.T x.Q x.O x.F
 mp:Mp h c.nT c.mF .i64 x.ml
 fr:FromM g.ev x.F x.ml
 td:Ar h c.nR c.v6 1 27 vcell x.tv
 tl:x.tv.length=n
 rows:∀t,t<n→Ro h (gt x.tv t) 1 icell (gt x.T t)∧(0<(gt x.T t).length→(gt x.tv t).ba<c.nT∧(gt x.tv t).ba≠c.v6.ba)
 pr:Pr (fun k=>c.P k∨k=c.mF∨k=c.v6.ba) c.hS h
 wf:Wf h
section
variable {c:PC} {g:Gr} {n:Nat} {h h1 h2:H} {t:Nat}
theorem PI.at_ {i j:Nat} {T Q O:List (List Int)} {F:List Int} {tv qs os:List V} {ml:List (Int × V)} (hI:PI c g n h ⟨i,T,Q,O,F,tv,qs,os,ml⟩):PI c g n h ⟨j,T,Q,O,F,tv,qs,os,ml⟩ :=
 { mac:=hI.mac,gp:=hI.gp,mp:=hI.mp,fr:=hI.fr,td:=hI.td,tl:=hI.tl,rows:=hI.rows,pr:=hI.pr,wf:=hI.wf }
theorem PI.flush {x : PS} (hI : PI c g n h x) (ht : t < n) {qs' os' : List V} (hm : Mac h1 c.nT c.P c.vq c.vo 94 92 3 83 (wc g.ev) (flushP g.ev x.Q x.O t).1 (flushP g.ev x.Q x.O t).2 qs' os') (p : Pr c.P h h1) (i : Nat) : PI c g n h1 ⟨i, x.T, (flushP g.ev x.Q x.O t).1, (flushP g.ev x.Q x.O t).2, x.F, x.tv, qs', os', x.ml⟩ :=
  { mac := hm
    gp := hI.gp.flush ht
    mp := p.mp hI.mp c.c2
    fr := hI.fr
    td := p.ar hI.td fun hp => by have := c.c1 _ hp; have := c.c4; omega
    tl := hI.tl
    rows := fun s hs => ⟨p.ro hI.wf Nat.zero_lt_one (hI.rows s hs).1 fun h0 hp => by have h5 : c.nT ≤ (gt x.tv s).ba := c.c1 _ hp; have h6 : (gt x.tv s).ba < c.nT := ((hI.rows s hs).2 h0).1; omega, (hI.rows s hs).2⟩
    pr := hI.pr.trans (p.sub fun k _ hp => .inl hp)
    wf := p.wf hI.wf }
theorem PI.kp {x : PS} (k : Kp h h1) (hI : PI c g n h x) : PI c g n h1 x :=
  { mac := hI.mac.kp k
    gp := hI.gp
    mp := hI.mp.kp k
    fr := hI.fr
    td := hI.td.mo (Mo.of_kp k none) (fun e => by cases e)
    tl := hI.tl
    rows := fun s hs => ⟨(hI.rows s hs).1.kp k hI.wf, (hI.rows s hs).2⟩
    pr := hI.pr.trans (Pr.of_kp k)
    wf := k.wf hI.wf }
theorem PI.step {b : Bool} {i : Nat} {T Q O : List (List Int)} {F : List Int} {tv qs os : List V} {ml ml' : List (Int × V)} (hI : PI c g n h ⟨i, T, Q, O, F, tv, qs, os, ml⟩) (hw : WF g b) (ht : t < n) {k : Nat} (hl : (stepP g.ev g.rmw Q O F t (gt T t)).l = (gt T t).drop k) (hk : k ≤ (gt T t).length) {qs' os' : List V}
    (hm : Mac h1 c.nT c.P c.vq c.vo 94 92 3 83 (wc g.ev) (stepP g.ev g.rmw Q O F t (gt T t)).Q (stepP g.ev g.rmw Q O F t (gt T t)).O qs' os') (hf : Mp h1 c.nT c.mF .i64 ml') (hfr : FromM g.ev (stepP g.ev g.rmw Q O F t (gt T t)).F ml') (p : Pr (fun k => c.P k ∨ k = c.mF) h h1)
    (hA : Ar h2 c.nR c.v6 1 27 vcell (tv.set t (tlV (gt tv t) k))) (m : Mo h1 h2 (some c.v6.ba)) (j : Nat) :
    PI c g n h2 ⟨j, T.set t (stepP g.ev g.rmw Q O F t (gt T t)).l, (stepP g.ev g.rmw Q O F t (gt T t)).Q, (stepP g.ev g.rmw Q O F t (gt T t)).O, (stepP g.ev g.rmw Q O F t (gt T t)).F, tv.set t (tlV (gt tv t) k), qs', os', ml'⟩ := by
  have c1 := c.c1
  have c3 := c.c3
  have c4 := c.c4
  have p2 : Pr (fun k => c.P k ∨ k = c.mF ∨ k = c.v6.ba) h h2 := (p.sub fun k _ hp => by rcases hp with h | h; exact .inl h; exact .inr (.inl h)).trans (Pr.of_mo m fun k hk => by injection hk with hk; exact .inr (.inr hk.symm))
  have hgp : Gp g n T Q O F := hI.gp
  have htl : t < T.length := by rw [hgp.tl]; exact ht
  have htv : tv.length = n := hI.tl
  have hnp : ∀ k, k < c.nT → k ≠ c.v6.ba → ¬ (c.P k ∨ k = c.mF ∨ k = c.v6.ba) := fun k h1 h2 h3 => by
    rcases h3 with h3 | h3 | h3
    · have := c1 k h3; omega
    · omega
    · exact h2 h3
  exact
  { mac := hm.mo m fun k hk hp => by injection hk with hk; subst hk; have := c1 _ hp; omega
    gp := hgp.step hw ht
    mp := hf.mo m fun e => by injection e with e; omega
    fr := hfr
    td := hA
    tl := by
      show (tv.set t _).length = n
      rw [List.length_set]; exact htv
    rows := fun s hs => by
      show Ro h2 (gt (tv.set t _) s) 1 icell (gt (T.set t _) s) ∧ (0 < (gt (T.set t _) s).length → (gt (tv.set t _) s).ba < c.nT ∧ (gt (tv.set t _) s).ba ≠ c.v6.ba)
      rw [gt_set (by omega), gt_set htl]
      obtain ⟨hr1, hr2⟩ := hI.rows s hs
      by_cases e : s = t
      · subst e
        rw [if_pos rfl, if_pos rfl, hl, tlV_ba hr1.ln]
        have h3 := p2.ro hI.wf Nat.zero_lt_one hr1 fun h0 => hnp _ (hr2 h0).1 (hr2 h0).2
        exact ⟨h3.tl hk, fun h0 => hr2 (by rw [List.length_drop] at h0; show 0 < (gt T s).length; omega)⟩
      · rw [if_neg e, if_neg e]
        exact ⟨p2.ro hI.wf Nat.zero_lt_one hr1 fun h0 => hnp _ (hr2 h0).1 (hr2 h0).2, hr2⟩
    pr := hI.pr.trans p2
    wf := p2.wf hI.wf }
end
theorem rmw_lt {g:Gr} {b:Bool} (hw:WF g b) {j:Nat}:∀{k:Nat},j<k→k<g.rmw.length→(gt g.rmw j).1<(gt g.rmw k).1
 | 0,h,_=>absurd h (Nat.not_lt_zero _)
 | k+1,h,hk=>by
  have h1:=(hw.rmw (k+1) hk).1 (Nat.zero_lt_succ _)
  rw[Nat.add_sub_cancel]at h1
  by_cases e:j=k
  ·rw[e];exact h1
  ·have:=rmw_lt hw (j:=j) (k:=k) (by omega) (by omega)
   omega
theorem sec_cases {g:Gr} {b:Bool} (hw:WF g b) {ml:List (Int × V)} (hm:SecM g.rmw g.rmw.length ml) (x:Int):(mGet x ml=none∧¬0≤secV x g.rmw)∨(mGet x ml=some (.i .i64 (secV x g.rmw))∧0≤secV x g.rmw):=by
 rcases hm x with⟨h1,h2⟩ | ⟨k,h1,h2,h3,h4⟩
 ·exact .inl ⟨h1,by rw[secV_no h2];decide⟩
 ·have h5:secV x g.rmw=(gt g.rmw k).2:=secV_at h1 (fun j hj=>by have:=rmw_lt hw hj h1;omega) h2
  rw[h5]
  exact .inr ⟨h3,(hw.rmw k h1).2.2.1.1⟩
section
variable {C:Cx} {b n0 j:Nat} {us:List Nat} {lm:List (So × Kd)} {e:Env} {hs h:H} {x y z:Rd} {st:List (Option Nat × H)} {ps:List Pd} {Q:Env→H→Prop} {k:IntKind} {ml:List (Int × V)} {p:Int} {vz:V}
theorem em_mu (hm:Mp h n0 b k ml) (hl:∀h1,Mo h h1 (some b)→Lv j h1.t ps) (hr:∀h1,Mp h1 n0 b k (mIns p vz ml)→Mo h h1 (some b)→Em C lm (j+1) e h1 h1 ((some j,h1) :: st) ps Q) (hx:x.lk e=some (.m b):=by exact rfl) (hy:y.lk e=some (.i k p):=by exact rfl) (hz:z.lk e=some vz:=by exact rfl):Em C ((⟨none,none,.mu x y z,us⟩,.e) :: lm) j e hs h st ps Q :=
 em_eu .n (od_mu hm.at_ hx hy hz) (hl _ (mo_set hm.hi)) (hr _ ⟨hm.lo,hm.hi,setM_at⟩ (mo_set hm.hi))
end
def s39:Sc:=(.seq (.region (
 ⟨none,some 3,.bx 83 (.t 1),[1]⟩ :: []))
(.mix (
 (⟨none,some 4,.mv (.t 0),[0]⟩,.q [none,(some 6),(some 7)]) ::
 (⟨none,some 5,.mv (.t 0),[0]⟩,.q [none,(some 6)]) ::
 (⟨none,some 6,.nc (.t 5),[5]⟩,.q [none,(some 6)]) ::
 (⟨none,some 7,.fa (.t 6) 0,[6]⟩,.q [none,(some 6)]) ::
 (⟨none,some 8,.ld (.t 7),[7]⟩,.q [none,(some 6)]) ::
 (⟨none,some 9,.lds (.t 3) 3,[3]⟩,.q [none]) ::
 (⟨none,some 10,.bs 83 1 3 [(.i .i64 0),(.i .i64 0),(.i .u64 0)] [(0,3,(.t 9))],[9]⟩,.e) ::
 (⟨none,some 11,.ap 83 3 24 (.t 8) (.t 10),[8,10]⟩,.e) ::
 (⟨none,some 12,.nc (.t 4),[4]⟩,.q [(some 7)]) ::
 (⟨none,some 13,.fa (.t 12) 0,[12]⟩,.q [(some 7)]) ::
 (⟨none,none,.st (.t 13) (.t 11) 1,[13,11]⟩,.e) :: [])))
set_option maxRecDepth 100000 in
theorem c39:fnB Tryz.prog 39=some (14,s39,[]):=by kernel_rfl
structure Wr where
 loc:Int
 ev:Int
 val:Int
instance:Inhabited Wr:=⟨⟨0,0,0⟩⟩
theorem cells_one3 {v:V} (h:v.one=true):v.cells = [v]:=by
 cases v <;> first | rfl | cases h
def s35:Sc:=(.seq (.region (
 ⟨none,some 4,.mv (.c (.b false)),[]⟩ :: []))
(.seq (.region (
 ⟨none,some 5,.mv (.t 0),[0]⟩ ::
 ⟨none,some 6,.nc (.t 5),[5]⟩ ::
 ⟨none,some 7,.fa (.t 6) 1,[6]⟩ ::
 ⟨none,some 8,.ld (.t 7),[7]⟩ ::
 ⟨none,some 9,.mv (.t 1),[1]⟩ ::
 ⟨none,some 10,.ia (.t 8) (.t 9) 1,[8,9]⟩ ::
 ⟨none,some 11,.fa (.t 10) 0,[10]⟩ ::
 ⟨none,some 12,.ld (.t 11),[11]⟩ ::
 ⟨none,some 13,.len (.t 12),[12]⟩ ::
 ⟨none,some 14,.eq .int false (.t 13) (.c (.i .i64 0)),[13]⟩ ::
 ⟨none,some 4,.mv (.t 14),[14]⟩ :: []))
.ret))
set_option maxRecDepth 100000 in
theorem c35:fnB Tryz.prog 35=some (15,s35,[.t 4]):=by kernel_rfl
set_option maxHeartbeats 0 in
theorem empty_spec {m:Bool} {h:H} {bm t n:Nat} {vo vq:V} {qs:List V} (hB:Bx h bm [vo,vq]) (hq:Ro h vq 1 vcell qs) (ht:t<qs.length) (hl:Ln (gt qs t) 3 n):FX m Tryz.prog 35 [.p bm 0,.i .i64 (t:Int)] h fun v h'=>v=.b (decide ((n:Int)=0))∧h'=h:=by
 refine Fn.env c35 rfl ?_
 unfold s35
 obtain⟨hL,hC⟩:=hq
 have hl:Ln (vcell (gt qs t) 0) 3 n:=hl
 refine go ?_
 exact ret_1 ⟨rfl,rfl⟩
end Go.Proofs.YtkcdehffcddciaaGreatDoor.Vm
