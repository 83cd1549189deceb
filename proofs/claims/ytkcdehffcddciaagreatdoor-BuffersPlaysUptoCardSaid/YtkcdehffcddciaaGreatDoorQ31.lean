/- The reference's rule 5. -/
import Derived.Test.YtkcdehffcddciaaGreatDoorQ21
import Derived.Test.YtkcdehffcddciaaGreatDoorQ19
import Derived.Test.YtkcdehffcddciaaGreatDoorQ30
namespace Go.Proofs.YtkcdehffcddciaaGreatDoor.Vm
open Go Go.RowKit
def s168:Sc:=(.seq (.region (
 ⟨none,some 1,.bx 26 (.t 0),[0]⟩ ::
 ⟨none,some 2,.mv (.c (.i .i64 0)),[]⟩ :: []))
(.seq (.seq (.region (
 ⟨none,some 3,.mv (.c (.i .i64 0)),[]⟩ :: []))
(.block 0 (.loop (.seq (.seq (.region (
 ⟨none,some 9,.mv (.t 3),[3]⟩ ::
 ⟨none,some 10,.fa (.t 1) 0,[1]⟩ ::
 ⟨none,some 11,.ld (.t 10),[10]⟩ ::
 ⟨none,some 12,.ar .lss (.t 9) (.t 11),[9,11]⟩ ::
 ⟨none,some 13,.mv (.t 12),[12]⟩ ::
 ⟨some (13,true),some 14,.mv (.t 3),[3,13]⟩ ::
 ⟨some (13,true),some 15,.fa (.t 1) 3,[1,13]⟩ ::
 ⟨some (13,true),some 16,.ld (.t 15),[15,13]⟩ ::
 ⟨some (13,true),some 17,.len (.t 16),[16,13]⟩ ::
 ⟨some (13,true),some 18,.ar .lss (.t 14) (.t 17),[14,17,13]⟩ ::
 ⟨none,some 19,.pk (.t 13) (.t 18) (.c (.b false)),[13,18]⟩ :: []))
(.cond (.t 19) .skip
 (.exit 0)))
(.seq (.block 1 (.seq (.region (
 ⟨none,some 22,.fa (.t 1) 3,[1]⟩ ::
 ⟨none,some 23,.ld (.t 22),[22]⟩ ::
 ⟨none,some 24,.mv (.t 3),[3]⟩ ::
 ⟨none,some 25,.ia (.t 23) (.t 24) 1,[23,24]⟩ ::
 ⟨none,some 26,.ld (.t 25),[25]⟩ ::
 ⟨none,some 4,.mv (.t 26),[26]⟩ :: []))
(.seq (.seq (.region (
 ⟨none,some 27,.mv (.t 4),[4]⟩ ::
 ⟨none,some 28,.len (.t 27),[27]⟩ ::
 ⟨none,some 29,.eq .int false (.t 28) (.c (.i .i64 0)),[28]⟩ ::
 ⟨none,some 30,.mv (.t 29),[29]⟩ ::
 ⟨some (30,false),some 31,.mv (.t 4),[4,30]⟩ ::
 ⟨some (30,false),some 32,.ia (.t 31) (.c (.i .i64 0)) 1,[31,30]⟩ ::
 ⟨some (30,false),some 33,.ld (.t 32),[32,30]⟩ ::
 ⟨some (30,false),some 34,.mv (.t 3),[3,30]⟩ ::
 ⟨some (30,false),some 35,.eq .int true (.t 33) (.t 34),[33,34,30]⟩ ::
 ⟨none,some 36,.pk (.t 30) (.c (.b true)) (.t 35),[30,35]⟩ :: []))
(.cond (.t 36) (.seq (.region (
 ⟨none,some 37,.mv (.t 3),[3]⟩ ::
 ⟨none,some 2,.mv (.t 37),[37]⟩ :: []))
.ret)
 .skip))
(.seq (.region (
 ⟨none,some 5,.mv (.c (.i .i64 0)),[]⟩ :: []))
(.seq (.seq (.region (
 ⟨none,some 6,.mv (.c (.i .i64 0)),[]⟩ :: []))
(.block 2 (.loop (.seq (.seq (.region (
 ⟨none,some 38,.mv (.t 6),[6]⟩ ::
 ⟨none,some 39,.fa (.t 1) 1,[1]⟩ ::
 ⟨none,some 40,.ld (.t 39),[39]⟩ ::
 ⟨none,some 41,.len (.t 40),[40]⟩ ::
 ⟨none,some 42,.ar .lss (.t 38) (.t 41),[38,41]⟩ :: []))
(.cond (.t 42) .skip
 (.exit 2)))
(.seq (.block 3 (.seq (.region (
 ⟨none,some 45,.fa (.t 1) 1,[1]⟩ ::
 ⟨none,some 46,.ld (.t 45),[45]⟩ ::
 ⟨none,some 47,.mv (.t 6),[6]⟩ ::
 ⟨none,some 48,.ia (.t 46) (.t 47) 5,[46,47]⟩ ::
 ⟨none,some 49,.fa (.t 48) 1,[48]⟩ ::
 ⟨none,some 50,.ld (.t 49),[49]⟩ ::
 ⟨none,some 51,.eq .int false (.t 50) (.c (.i .i64 2)),[50]⟩ ::
 ⟨none,some 52,.mv (.t 51),[51]⟩ ::
 ⟨some (52,true),some 53,.fa (.t 1) 1,[1,52]⟩ ::
 ⟨some (52,true),some 54,.ld (.t 53),[53,52]⟩ ::
 ⟨some (52,true),some 55,.mv (.t 6),[6,52]⟩ ::
 ⟨some (52,true),some 56,.ia (.t 54) (.t 55) 5,[54,55,52]⟩ ::
 ⟨some (52,true),some 57,.fa (.t 56) 2,[56,52]⟩ ::
 ⟨some (52,true),some 58,.ld (.t 57),[57,52]⟩ ::
 ⟨some (52,true),some 59,.mv (.t 3),[3,52]⟩ ::
 ⟨some (52,true),some 60,.eq .int false (.t 58) (.t 59),[58,59,52]⟩ ::
 ⟨none,some 61,.pk (.t 52) (.t 60) (.c (.b false)),[52,60]⟩ :: []))
(.cond (.t 61) (.region (
  ⟨none,some 62,.mv (.t 5),[5]⟩ ::
  ⟨none,some 63,.ar .add (.t 62) (.c (.i .i64 1)),[62]⟩ ::
  ⟨none,some 5,.mv (.t 63),[63]⟩ :: []))
 .skip)))
(.region (
 ⟨none,some 43,.mv (.t 6),[6]⟩ ::
 ⟨none,some 44,.ar .add (.t 43) (.c (.i .i64 1)),[43]⟩ ::
 ⟨none,some 6,.mv (.t 44),[44]⟩ :: [])))))))
(.seq (.seq (.region (
 ⟨none,some 64,.mv (.t 4),[4]⟩ ::
 ⟨none,some 65,.len (.t 64),[64]⟩ ::
 ⟨none,some 66,.mv (.t 5),[5]⟩ ::
 ⟨none,some 67,.eq .int true (.t 65) (.t 66),[65,66]⟩ :: []))
(.cond (.t 67) (.seq (.region (
 ⟨none,some 68,.mv (.t 3),[3]⟩ ::
 ⟨none,some 2,.mv (.t 68),[68]⟩ :: []))
.ret)
 .skip))
(.seq (.region (
 ⟨none,some 7,.mv (.c (.i .i64 0)),[]⟩ :: []))
(.block 4 (.loop (.seq (.seq (.region (
 ⟨none,some 69,.mv (.t 7),[7]⟩ ::
 ⟨none,some 70,.mv (.t 4),[4]⟩ ::
 ⟨none,some 71,.len (.t 70),[70]⟩ ::
 ⟨none,some 72,.ar .lss (.t 69) (.t 71),[69,71]⟩ :: []))
(.cond (.t 72) .skip
 (.exit 4)))
(.seq (.block 5 (.seq (.seq (.mix (
 (⟨none,some 75,.lds (.t 1) 8,[1]⟩,.q [none]) ::
 (⟨none,some 76,.mv (.t 4),[4]⟩,.q [none]) ::
 (⟨none,some 77,.mv (.t 7),[7]⟩,.q [none]) ::
 (⟨none,some 78,.ia (.t 76) (.t 77) 1,[76,77]⟩,.q [none]) ::
 (⟨none,some 79,.ld (.t 78),[78]⟩,.q [none]) ::
 (⟨none,some 80,.call 239 [(.t 75),(.t 79),(.c (.i .i64 2))],[75,79]⟩,.e) ::
 (⟨none,some 81,.nt (.t 80),[80]⟩,.q [(some 5)]) ::
 (⟨none,some 82,.mv (.t 81),[81]⟩,.q [(some 5)]) ::
 (⟨some (82,false),some 83,.fa (.t 1) 1,[1,82]⟩,.q [(some 5)]) ::
 (⟨some (82,false),some 84,.ld (.t 83),[83,82]⟩,.q [(some 5)]) ::
 (⟨some (82,false),some 85,.mv (.t 4),[4,82]⟩,.q [(some 5)]) ::
 (⟨some (82,false),some 86,.mv (.t 7),[7,82]⟩,.q [(some 5)]) ::
 (⟨some (82,false),some 87,.ia (.t 85) (.t 86) 1,[85,86,82]⟩,.q [(some 5)]) ::
 (⟨some (82,false),some 88,.ld (.t 87),[87,82]⟩,.q [(some 5)]) ::
 (⟨some (82,false),some 89,.ia (.t 84) (.t 88) 5,[84,88,82]⟩,.q [(some 5)]) ::
 (⟨some (82,false),some 90,.fa (.t 89) 2,[89,82]⟩,.q [(some 5)]) ::
 (⟨some (82,false),some 91,.ld (.t 90),[90,82]⟩,.q [(some 5)]) ::
 (⟨some (82,false),some 92,.mv (.t 3),[3,82]⟩,.q [(some 5)]) ::
 (⟨some (82,false),some 93,.eq .int true (.t 91) (.t 92),[91,92,82]⟩,.q [(some 5)]) ::
 (⟨none,some 94,.pk (.t 82) (.c (.b true)) (.t 93),[82,93]⟩,.q [(some 5)]) :: []))
(.cond (.t 94) (.seq (.region (
 ⟨none,some 95,.mv (.t 3),[3]⟩ ::
 ⟨none,some 2,.mv (.t 95),[95]⟩ :: []))
.ret)
 .skip))
(.seq (.region (
 ⟨none,some 8,.mv (.c (.i .i64 0)),[]⟩ :: []))
(.block 6 (.loop (.seq (.seq (.region (
 ⟨none,some 96,.mv (.t 8),[8]⟩ ::
 ⟨none,some 97,.mv (.t 7),[7]⟩ ::
 ⟨none,some 98,.ar .lss (.t 96) (.t 97),[96,97]⟩ :: []))
(.cond (.t 98) .skip
 (.exit 6)))
(.seq (.block 7 (.seq (.mix (
 (⟨none,some 101,.mv (.t 4),[4]⟩,.q [none]) ::
 (⟨none,some 102,.mv (.t 8),[8]⟩,.q [none]) ::
 (⟨none,some 103,.ia (.t 101) (.t 102) 1,[101,102]⟩,.q [none]) ::
 (⟨none,some 104,.ld (.t 103),[103]⟩,.q [none]) ::
 (⟨none,some 105,.mv (.t 4),[4]⟩,.q [none]) ::
 (⟨none,some 106,.mv (.t 7),[7]⟩,.q [none]) ::
 (⟨none,some 107,.ia (.t 105) (.t 106) 1,[105,106]⟩,.q [none]) ::
 (⟨none,some 108,.ld (.t 107),[107]⟩,.q [none]) ::
 (⟨none,some 109,.eq .int false (.t 104) (.t 108),[104,108]⟩,.q [none]) :: []))
(.cond (.t 109) (.seq (.region (
 ⟨none,some 110,.mv (.t 3),[3]⟩ ::
 ⟨none,some 2,.mv (.t 110),[110]⟩ :: []))
.ret)
 .skip)))
(.region (
 ⟨none,some 99,.mv (.t 8),[8]⟩ ::
 ⟨none,some 100,.ar .add (.t 99) (.c (.i .i64 1)),[99]⟩ ::
 ⟨none,some 8,.mv (.t 100),[100]⟩ :: [])))))))))
(.region (
 ⟨none,some 73,.mv (.t 7),[7]⟩ ::
 ⟨none,some 74,.ar .add (.t 73) (.c (.i .i64 1)),[73]⟩ ::
 ⟨none,some 7,.mv (.t 74),[74]⟩ :: [])))))))))))))
(.region (
 ⟨none,some 20,.mv (.t 3),[3]⟩ ::
 ⟨none,some 21,.ar .add (.t 20) (.c (.i .i64 1)),[20]⟩ ::
 ⟨none,some 3,.mv (.t 21),[21]⟩ :: [])))))))
(.seq (.seq (.region (
 ⟨none,some 111,.fa (.t 1) 3,[1]⟩ ::
 ⟨none,some 112,.ld (.t 111),[111]⟩ ::
 ⟨none,some 113,.len (.t 112),[112]⟩ ::
 ⟨none,some 114,.fa (.t 1) 0,[1]⟩ ::
 ⟨none,some 115,.ld (.t 114),[114]⟩ ::
 ⟨none,some 116,.ar .lss (.t 113) (.t 115),[113,115]⟩ :: []))
(.cond (.t 116) (.seq (.region (
 ⟨none,some 117,.fa (.t 1) 3,[1]⟩ ::
 ⟨none,some 118,.ld (.t 117),[117]⟩ ::
 ⟨none,some 119,.len (.t 118),[118]⟩ ::
 ⟨none,some 2,.mv (.t 119),[119]⟩ :: []))
.ret)
 .skip))
(.seq (.seq (.region (
 ⟨none,some 120,.fa (.t 1) 3,[1]⟩ ::
 ⟨none,some 121,.ld (.t 120),[120]⟩ ::
 ⟨none,some 122,.len (.t 121),[121]⟩ ::
 ⟨none,some 123,.fa (.t 1) 0,[1]⟩ ::
 ⟨none,some 124,.ld (.t 123),[123]⟩ ::
 ⟨none,some 125,.ar .gtr (.t 122) (.t 124),[122,124]⟩ :: []))
(.cond (.t 125) (.seq (.region (
 ⟨none,some 126,.fa (.t 1) 0,[1]⟩ ::
 ⟨none,some 127,.ld (.t 126),[126]⟩ ::
 ⟨none,some 2,.mv (.t 127),[127]⟩ :: []))
.ret)
 .skip))
(.seq (.region (
 ⟨none,some 2,.mv (.c (.i .i64 (-1))),[]⟩ :: []))
.ret)))))
set_option maxRecDepth 100000 in
theorem c168:fnB Tryz.prog 168=some (128,s168,[.t 2]):=by kernel_rfl
set_option maxHeartbeats 0 in
theorem co_spec {m:Bool} {h:H} {gl:List V} {g:Gr} (hw:Wf h) (hg:GrAt h gl g) (hn:g.ev.length≤256) (hc0:0≤g.cells) (hcl:g.co.length≤100000000) (hcm:∀c,c<g.co.length→(gt g.co c).length≤100000000):FX m Tryz.prog 168 [.agg gl] h fun v h'=>Iv v (CoOk g)∧Kp h h':=by
 have hone:=hg.one
 obtain⟨ve,vrf,vco,vrmw,vad,vda,vct,rfl,he,-,hco,-⟩:=hg.is
 obtain⟨vs,hvs,hvl,hrows⟩:=hco.is
 refine Fn.env c168 rfl ?_
 unfold s168
 refine Es.seq (Es.region (ew_bx (hz:=hone) fun b h1 ob k1=>?_))
 have hw1:=k1.wf hw
 have hB1:=ob.bx
 have hg1:=hg.kp k1 hw
 obtain⟨hL,hC1⟩:=he.kp k1 hw
 obtain⟨hL2,hV1⟩:=hvs.kp k1 hw
 rw[hvl]at hL2 hV1
 have hR1:∀i,i<g.co.length→Ro h1 (gt vs i) 1 icell (gt g.co i):=fun i hi=>(hrows i hi).kp k1 hw
 clear hg he hco hvs hrows hone
 refine go ?_
 refine Es.loop (X:=Nat) (fun x=>g.co.length-x) (fun x=>[(1,.p b 0),(3,.i .i64 (x:Int))]) (fun x h=>x≤g.co.length∧Kp h1 h∧∀c,c<x→CoAt g c) 0 ⟨rfl,rfl,trivial⟩ ⟨Nat.zero_le _,.refl _,fun r hr=>absurd hr (Nat.not_lt_zero _)⟩ fun c h2 hx=>?_
 obtain⟨hc,k2,hI⟩:=hx
 have hw2:=k2.wf hw1
 have hB:=hB1.kp k2 hw1
 have hC:=hC1.kp k2 hw1
 have hV:=hV1.kp k2 hw1
 have hkp:=k1.trans k2
 by_cases hin:(c:Int)<g.cells∧c<g.co.length
 case neg =>
  have fin:(∀c:Nat,(c:Int)<g.cells→c<g.co.length→CoAt g c):=fun c' h1 h2=>hI c' (by omega)
  refine go ?_
  repeat' ((first | refine wgd (fun _=>?_) fun _=>?_ | refine wgn (fun _=>?_) fun _=>?_ | refine wgb (fun _=>?_) fun _=>?_ | refine mgd (fun _=>?_) fun _=>?_ | refine mgn (fun _=>?_) fun _=>?_ | refine mgb (fun _=>?_) fun _=>?_ | refine cD (fun _=>?_) fun _=>?_ | refine cN (fun _=>?_) fun _=>?_ | refine cB (fun _=>?_) fun _=>?_) <;> refine go ?_)
  all_goals first
   |(exfalso;omega)
   | exact ret_1 ⟨.n ⟨fin,by omega⟩,hkp⟩
   | exact ret_1 ⟨.y fun hok=>by have:=hok.2;omega,hkp⟩
   | exact ret_1 ⟨⟨g.cells,rfl,fun h=>by omega,fun hok=>by have:=hok.2;omega⟩,hkp⟩
 obtain⟨hin1,hin2⟩:=hin
 obtain⟨hLc,hCc⟩:=(hR1 c hin2).kp k2 hw1
 have hLc:Ln (vcell (gt vs c) 0) 1 (gt g.co c).length:=hLc
 have hCc:Cs h2 (vcell (gt vs c) 0) 1 (gt g.co c).length fun i k=>icell (gt (gt g.co c) i) k:=hCc
 have hcm:=hcm c hin2
 refine go ?_
 refine wgd (fun h0=>?_) (fun h0=>?_)
 ·skip
  refine go ?_
  exact ret_1 ⟨.y fun hok=>by have:=(hok.1 c hin1 hin2).1;omega,hkp⟩
 refine go ?_
 refine cN (fun h1=>?_) (fun h1=>?_)
 ·skip
  refine go ?_
  exact ret_1 ⟨.y fun hok=>h1 (hok.1 c hin1 hin2).2.1,hkp⟩
 refine go ?_
 refine Es.loop (X:=Nat × Nat) (fun x=>g.ev.length-x.1) (fun x=>[(1,.p b 0),(3,.i .i64 (c:Int)),(4,vcell (gt vs c) 0),(5,.i .i64 (x.2:Int)),(6,.i .i64 (x.1:Int))]) (fun x h=>x.1≤g.ev.length∧x.2=WrC g c x.1∧h=h2) (0,0) ⟨rfl,rfl,rfl,rfl,rfl,trivial⟩ ⟨Nat.zero_le _,rfl,rfl⟩ fun x h3 hx=>?_
 obtain⟨i,n⟩:=x
 obtain⟨hi,hnn,rfl⟩:=hx
 simp only at hi hnn ⊢
 have hwl:=WrC_le g c i
 refine go ?_
 refine cD (fun hlt=>?_) (fun hge=>?_)
 ·skip
  refine go ?_
  repeat' ((first | refine wgd (fun _=>?_) fun _=>?_ | refine wgn (fun _=>?_) fun _=>?_ | refine wgb (fun _=>?_) fun _=>?_ | refine mgd (fun _=>?_) fun _=>?_ | refine mgn (fun _=>?_) fun _=>?_ | refine mgb (fun _=>?_) fun _=>?_ | refine cD (fun _=>?_) fun _=>?_ | refine cN (fun _=>?_) fun _=>?_ | refine cB (fun _=>?_) fun _=>?_) <;> refine go ?_)
  all_goals first
   | exact Nx.inv (i+1,n+1) (by simp only;omega) ⟨rfl,rfl,rfl,rfl,rfl,trivial⟩ ⟨by simp only;omega,by simp only;rw[WrC_y ⟨by assumption,by assumption⟩,hnn],rfl⟩
   | exact Nx.inv (i+1,n) (by simp only;omega) ⟨rfl,rfl,rfl,rfl,rfl,trivial⟩ ⟨by simp only;omega,by simp only;rw[WrC_n fun hh=>by first | exact absurd hh.1 (by assumption) | exact absurd hh.2 (by assumption),hnn],rfl⟩
 have hie:i=g.ev.length:=by omega
 subst hie
 refine go ?_
 refine cN (fun h4=>?_) (fun h4=>?_)
 ·skip
  refine go ?_
  exact ret_1 ⟨.y fun hok=>by have:=(hok.1 c hin1 hin2).2.2.1;omega,hkp⟩
 refine go ?_
 refine Es.loop (X:=Nat) (fun x=>(gt g.co c).length-x) (fun x=>[(1,.p b 0),(3,.i .i64 (c:Int)),(4,vcell (gt vs c) 0),(7,.i .i64 (x:Int))]) (fun x h=>x≤(gt g.co c).length∧Kp h3 h∧∀i,i<x→IsE g (gt (gt g.co c) i) 2∧(gt g.ev (gt (gt g.co c) i).toNat).loc=c∧∀j,j<i→gt (gt g.co c) j≠gt (gt g.co c) i) 0 ⟨rfl,rfl,rfl,rfl,trivial⟩ ⟨Nat.zero_le _,.refl _,fun r hr=>absurd hr (Nat.not_lt_zero _)⟩ fun i h4' hx=>?_
 obtain⟨hi2,k4,hI2⟩:=hx
 have hw4:=k4.wf hw2
 have hB:=hB.kp k4 hw2
 have hC:=hC.kp k4 hw2
 have hCc:=hCc.kp k4 hw2
 have hg4:=hg1.kp (k2.trans k4) hw1
 have hkp:=hkp.trans k4
 refine go ?_
 refine cD (fun hlt=>?_) (fun hge=>?_)
 ·skip
  refine go ?_
  refine mC (is_spec hw4 hg4) fun v h5 hR=>⟨.nil,?_⟩
  obtain⟨rfl,k5⟩:=hR
  have hw5:=k5.wf hw4
  have hB:=hB.kp k5 hw4
  have hC:=hC.kp k5 hw4
  have hCc:=hCc.kp k5 hw4
  have hkp:=hkp.trans k5
  have k45:=k4.trans k5
  clear k5
  by_cases hE:IsE g (gt (gt g.co c) i) 2
  case neg =>
   have hE':=hE
   refine go ?_
   repeat' ((first | refine wgd (fun _=>?_) fun _=>?_ | refine wgn (fun _=>?_) fun _=>?_ | refine wgb (fun _=>?_) fun _=>?_ | refine mgd (fun _=>?_) fun _=>?_ | refine mgn (fun _=>?_) fun _=>?_ | refine mgb (fun _=>?_) fun _=>?_ | refine cD (fun _=>?_) fun _=>?_ | refine cN (fun _=>?_) fun _=>?_ | refine cB (fun _=>?_) fun _=>?_) <;> refine go ?_)
   all_goals first
    | exact absurd (by assumption) hE'
    | exact ret_1 ⟨.y fun hok=>absurd ((hok.1 c hin1 hin2).2.2.2 i (by omega)).1 hE,hkp⟩
  obtain⟨hE0,hE1,hE2⟩:=id hE
  have hE3:¬¬IsE g (gt (gt g.co c) i) 2:=fun h=>h hE
  refine go ?_
  refine cN (fun h6=>?_) (fun h6=>?_)
  ·skip
   refine go ?_
   exact ret_1 ⟨.y fun hok=>absurd ((hok.1 c hin1 hin2).2.2.2 i (by omega)).2.1 h6,hkp⟩
  refine go ?_
  refine Es.loop (X:=Nat) (fun x=>i-x) (fun x=>[(1,.p b 0),(3,.i .i64 (c:Int)),(4,vcell (gt vs c) 0),(7,.i .i64 (i:Int)),(8,.i .i64 (x:Int))]) (fun x h=>x≤i∧h=h5∧∀j,j<x→gt (gt g.co c) j≠gt (gt g.co c) i) 0 ⟨rfl,rfl,rfl,rfl,rfl,trivial⟩ ⟨Nat.zero_le _,rfl,fun r hr=>absurd hr (Nat.not_lt_zero _)⟩ fun j h6' hx=>?_
  obtain⟨hj,rfl,hI3⟩:=hx
  refine go ?_
  refine cD (fun hlt2=>?_) (fun hge2=>?_)
  ·skip
   refine go ?_
   refine cD (fun h7=>?_) (fun h7=>?_)
   ·skip
    refine go ?_
    exact ret_1 ⟨.y fun hok=>absurd h7 (((hok.1 c hin1 hin2).2.2.2 i (by omega)).2.2 j (by omega)),hkp⟩
   ·skip
    refine go ?_
    exact Nx.inv (j+1) (by omega) ⟨rfl,rfl,rfl,rfl,rfl,trivial⟩ ⟨by omega,rfl,fun j' h8=>by
     rcases Nat.lt_succ_iff_lt_or_eq.1 h8 with h9 | h9
     ·exact hI3 j' h9
     ·subst h9;exact h7⟩
  ·have hji:j=i:=by omega
   subst hji
   refine go ?_
   exact Nx.inv (j+1) (by omega) ⟨rfl,rfl,rfl,rfl,trivial⟩ ⟨by omega,k45,fun i' h8=>by
    rcases Nat.lt_succ_iff_lt_or_eq.1 h8 with h9 | h9
    ·exact hI2 i' h9
    ·subst h9;exact⟨hE,h6,hI3⟩⟩
 ·have hie:i=(gt g.co c).length:=by omega
  subst hie
  refine go ?_
  exact Nx.inv (c+1) (by omega) ⟨rfl,rfl,trivial⟩ ⟨by omega,k2.trans k4,fun c' h8=>by
   rcases Nat.lt_succ_iff_lt_or_eq.1 h8 with h9 | h9
   ·exact hI c' h9
   ·subst h9;exact⟨by omega,h1,by omega,hI2⟩⟩
def s101:Sc:=(.seq (.region (
 ⟨none,some 2,.bx 26 (.t 0),[0]⟩ ::
 ⟨none,some 4,.mv (.c (.i .i64 0)),[]⟩ ::
 ⟨none,some 5,.mv (.c (.i .i64 0)),[]⟩ :: []))
(.seq (.seq (.region (
 ⟨none,some 12,.fa (.t 2) 0,[2]⟩ ::
 ⟨none,some 13,.ld (.t 12),[12]⟩ ::
 ⟨none,some 14,.ar .lss (.t 13) (.c (.i .i64 0)),[13]⟩ ::
 ⟨none,some 15,.mv (.t 14),[14]⟩ ::
 ⟨some (15,false),some 16,.fa (.t 2) 0,[2,15]⟩ ::
 ⟨some (15,false),some 17,.ld (.t 16),[16,15]⟩ ::
 ⟨some (15,false),some 18,.ar .gtr (.t 17) (.c (.i .i64 4096)),[17,15]⟩ ::
 ⟨none,some 19,.pk (.t 15) (.c (.b true)) (.t 18),[15,18]⟩ ::
 ⟨none,some 20,.mv (.t 19),[19]⟩ ::
 ⟨some (20,false),some 21,.fa (.t 2) 1,[2,20]⟩ ::
 ⟨some (20,false),some 22,.ld (.t 21),[21,20]⟩ ::
 ⟨some (20,false),some 23,.len (.t 22),[22,20]⟩ ::
 ⟨some (20,false),some 24,.fa (.t 2) 0,[2,20]⟩ ::
 ⟨some (20,false),some 25,.ld (.t 24),[24,20]⟩ ::
 ⟨some (20,false),some 26,.ar .lss (.t 23) (.t 25),[23,25,20]⟩ ::
 ⟨none,some 27,.pk (.t 20) (.c (.b true)) (.t 26),[20,26]⟩ ::
 ⟨none,some 28,.mv (.t 27),[27]⟩ ::
 ⟨some (28,false),some 29,.fa (.t 2) 1,[2,28]⟩ ::
 ⟨some (28,false),some 30,.ld (.t 29),[29,28]⟩ ::
 ⟨some (28,false),some 31,.len (.t 30),[30,28]⟩ ::
 ⟨some (28,false),some 32,.ar .gtr (.t 31) (.c (.i .i64 256)),[31,28]⟩ ::
 ⟨none,some 33,.pk (.t 28) (.c (.b true)) (.t 32),[28,32]⟩ :: []))
(.cond (.t 33) (.seq (.region (
 ⟨none,some 4,.mv (.c (.i .i64 1)),[]⟩ ::
 ⟨none,some 5,.mv (.c (.i .i64 0)),[]⟩ :: []))
.ret)
 .skip))
(.seq (.region (
 ⟨none,some 34,.bd [(.i .i64 0),(.i .i64 0),(.i .i64 0),(.i .u64 0),(.i .i64 0)] [(0,1,(.c (.i .i64 (-1)))),(1,1,(.c (.i .i64 2))),(2,1,(.c (.i .i64 0))),(3,1,(.c (.i .u64 0))),(4,1,(.c (.i .i64 1)))],[]⟩ ::
 ⟨none,some 6,.al 37 [(.i .i64 0),(.i .i64 0),(.i .i64 0),(.i .u64 0),(.i .i64 0)],[]⟩ ::
 ⟨none,none,.st (.t 6) (.t 34) 5,[6,34]⟩ :: []))
(.seq (.seq (.region (
 ⟨none,some 35,.mv (.t 1),[1]⟩ :: []))
(.cond (.t 35) (.region (
  ⟨none,some 36,.fa (.t 6) 4,[6]⟩ ::
  ⟨none,none,.st (.t 36) (.c (.i .i64 11)) 1,[36]⟩ :: []))
 .skip))
(.seq (.seq (.region (
 ⟨none,some 7,.mv (.c (.i .i64 0)),[]⟩ :: []))
(.block 0 (.loop (.seq (.seq (.region (
 ⟨none,some 37,.mv (.t 7),[7]⟩ ::
 ⟨none,some 38,.fa (.t 2) 0,[2]⟩ ::
 ⟨none,some 39,.ld (.t 38),[38]⟩ ::
 ⟨none,some 40,.ar .lss (.t 37) (.t 39),[37,39]⟩ :: []))
(.cond (.t 40) .skip
 (.exit 0)))
(.seq (.block 1 (.seq (.region (
 ⟨none,some 43,.mv (.t 7),[7]⟩ ::
 ⟨none,some 44,.fa (.t 6) 2,[6]⟩ ::
 ⟨none,none,.st (.t 44) (.t 43) 1,[44,43]⟩ :: []))
(.seq (.mix (
 (⟨none,some 45,.fa (.t 2) 1,[2]⟩,.q [none]) ::
 (⟨none,some 46,.ld (.t 45),[45]⟩,.q [none]) ::
 (⟨none,some 47,.mv (.t 7),[7]⟩,.q [none]) ::
 (⟨none,some 48,.ia (.t 46) (.t 47) 5,[46,47]⟩,.q [none]) ::
 (⟨none,some 49,.lds (.t 48) 5,[48]⟩,.q [none]) ::
 (⟨none,some 50,.lds (.t 6) 5,[6]⟩,.q [none]) ::
 (⟨none,some 51,.eq (.struct [true,true,true,true,true]) true (.t 49) (.t 50),[49,50]⟩,.q [none]) :: []))
(.cond (.t 51) (.seq (.region (
 ⟨none,some 52,.mv (.t 7),[7]⟩ ::
 ⟨none,some 4,.mv (.c (.i .i64 2)),[]⟩ ::
 ⟨none,some 5,.mv (.t 52),[52]⟩ :: []))
.ret)
 .skip))))
(.region (
 ⟨none,some 41,.mv (.t 7),[7]⟩ ::
 ⟨none,some 42,.ar .add (.t 41) (.c (.i .i64 1)),[41]⟩ ::
 ⟨none,some 7,.mv (.t 42),[42]⟩ :: [])))))))
(.seq (.seq (.region (
 ⟨none,some 53,.fa (.t 2) 0,[2]⟩ ::
 ⟨none,some 54,.ld (.t 53),[53]⟩ ::
 ⟨none,some 8,.mv (.t 54),[54]⟩ :: []))
(.block 2 (.loop (.seq (.seq (.region (
 ⟨none,some 55,.mv (.t 8),[8]⟩ ::
 ⟨none,some 56,.fa (.t 2) 1,[2]⟩ ::
 ⟨none,some 57,.ld (.t 56),[56]⟩ ::
 ⟨none,some 58,.len (.t 57),[57]⟩ ::
 ⟨none,some 59,.ar .lss (.t 55) (.t 58),[55,58]⟩ :: []))
(.cond (.t 59) .skip
 (.exit 2)))
(.seq (.block 3 (.seq (.mix (
 (⟨none,some 62,.lds (.t 2) 8,[2]⟩,.q [none]) ::
 (⟨none,some 63,.fa (.t 2) 1,[2]⟩,.q [none]) ::
 (⟨none,some 64,.ld (.t 63),[63]⟩,.q [none]) ::
 (⟨none,some 65,.mv (.t 8),[8]⟩,.q [none]) ::
 (⟨none,some 66,.ia (.t 64) (.t 65) 5,[64,65]⟩,.q [none]) ::
 (⟨none,some 67,.lds (.t 66) 5,[66]⟩,.q [none]) ::
 (⟨none,some 68,.mv (.t 1),[1]⟩,.q [none]) ::
 (⟨none,some 69,.call 166 [(.t 62),(.t 67),(.t 68)],[62,67,68]⟩,.e) ::
 (⟨none,some 70,.nt (.t 69),[69]⟩,.q [(some 7)]) :: []))
(.cond (.t 70) (.seq (.region (
 ⟨none,some 71,.mv (.t 8),[8]⟩ ::
 ⟨none,some 4,.mv (.c (.i .i64 3)),[]⟩ ::
 ⟨none,some 5,.mv (.t 71),[71]⟩ :: []))
.ret)
 .skip)))
(.region (
 ⟨none,some 60,.mv (.t 8),[8]⟩ ::
 ⟨none,some 61,.ar .add (.t 60) (.c (.i .i64 1)),[60]⟩ ::
 ⟨none,some 8,.mv (.t 61),[61]⟩ :: [])))))))
(.seq (.region (
 ⟨none,some 72,.lds (.t 2) 8,[2]⟩ ::
 ⟨none,some 73,.call 167 [(.t 72)],[72]⟩ ::
 ⟨none,some 9,.mv (.t 73),[73]⟩ :: []))
(.seq (.seq (.region (
 ⟨none,some 74,.mv (.t 9),[9]⟩ ::
 ⟨none,some 75,.ar .geq (.t 74) (.c (.i .i64 0)),[74]⟩ :: []))
(.cond (.t 75) (.seq (.region (
 ⟨none,some 76,.mv (.t 9),[9]⟩ ::
 ⟨none,some 4,.mv (.c (.i .i64 4)),[]⟩ ::
 ⟨none,some 5,.mv (.t 76),[76]⟩ :: []))
.ret)
 .skip))
(.seq (.region (
 ⟨none,some 77,.lds (.t 2) 8,[2]⟩ ::
 ⟨none,some 78,.call 168 [(.t 77)],[77]⟩ ::
 ⟨none,some 9,.mv (.t 78),[78]⟩ :: []))
(.seq (.seq (.region (
 ⟨none,some 79,.mv (.t 9),[9]⟩ ::
 ⟨none,some 80,.ar .geq (.t 79) (.c (.i .i64 0)),[79]⟩ :: []))
(.cond (.t 80) (.seq (.region (
 ⟨none,some 81,.mv (.t 9),[9]⟩ ::
 ⟨none,some 4,.mv (.c (.i .i64 5)),[]⟩ ::
 ⟨none,some 5,.mv (.t 81),[81]⟩ :: []))
.ret)
 .skip))
(.seq (.region (
 ⟨none,some 82,.lds (.t 2) 8,[2]⟩ ::
 ⟨none,some 83,.call 169 [(.t 82)],[82]⟩ ::
 ⟨none,some 9,.mv (.t 83),[83]⟩ :: []))
(.seq (.seq (.region (
 ⟨none,some 84,.mv (.t 9),[9]⟩ ::
 ⟨none,some 85,.ar .geq (.t 84) (.c (.i .i64 0)),[84]⟩ :: []))
(.cond (.t 85) (.seq (.region (
 ⟨none,some 86,.mv (.t 9),[9]⟩ ::
 ⟨none,some 4,.mv (.c (.i .i64 6)),[]⟩ ::
 ⟨none,some 5,.mv (.t 86),[86]⟩ :: []))
.ret)
 .skip))
(.seq (.region (
 ⟨none,some 87,.fa (.t 2) 5,[2]⟩ ::
 ⟨none,some 88,.ld (.t 87),[87]⟩ ::
 ⟨none,some 89,.fa (.t 2) 6,[2]⟩ ::
 ⟨none,some 90,.ld (.t 89),[89]⟩ ::
 ⟨none,some 91,.fa (.t 2) 7,[2]⟩ ::
 ⟨none,some 92,.ld (.t 91),[91]⟩ ::
 ⟨none,some 93,.bs 23 3 1 [.ns] [(0,1,(.t 88)),(1,1,(.t 90)),(2,1,(.t 92))],[88,90,92]⟩ ::
 ⟨none,some 10,.mv (.t 93),[93]⟩ :: []))
(.seq (.seq (.region (
 ⟨none,some 11,.mv (.c (.i .i64 0)),[]⟩ :: []))
(.block 4 (.loop (.seq (.seq (.region (
 ⟨none,some 94,.mv (.t 11),[11]⟩ ::
 ⟨none,some 95,.ar .lss (.t 94) (.c (.i .i64 3)),[94]⟩ :: []))
(.cond (.t 95) .skip
 (.exit 4)))
(.seq (.block 5 (.seq (.mix (
 (⟨none,some 98,.lds (.t 2) 8,[2]⟩,.q [none]) ::
 (⟨none,some 99,.mv (.t 10),[10]⟩,.q [none]) ::
 (⟨none,some 100,.mv (.t 11),[11]⟩,.q [none]) ::
 (⟨none,some 101,.ia (.t 99) (.t 100) 1,[99,100]⟩,.q [none]) ::
 (⟨none,some 102,.ld (.t 101),[101]⟩,.q [none]) ::
 (⟨none,some 103,.mv (.t 11),[11]⟩,.q [none]) ::
 (⟨none,some 104,.ar .add (.c (.i .i64 7)) (.t 103),[103]⟩,.q [none]) ::
 (⟨none,some 105,.call 170 [(.t 98),(.t 102),(.t 104)],[98,102,104]⟩,.e) ::
 (⟨none,some 9,.mv (.t 105),[105]⟩,.q [(some 7)]) :: []))
(.seq (.seq (.region (
 ⟨none,some 106,.mv (.t 1),[1]⟩ ::
 ⟨none,some 107,.nt (.t 106),[106]⟩ ::
 ⟨none,some 108,.mv (.t 107),[107]⟩ ::
 ⟨some (108,true),some 109,.mv (.t 10),[10,108]⟩ ::
 ⟨some (108,true),some 110,.mv (.t 11),[11,108]⟩ ::
 ⟨some (108,true),some 111,.ia (.t 109) (.t 110) 1,[109,110,108]⟩ ::
 ⟨some (108,true),some 112,.ld (.t 111),[111,108]⟩ ::
 ⟨some (108,true),some 113,.len (.t 112),[112,108]⟩ ::
 ⟨some (108,true),some 114,.ar .gtr (.t 113) (.c (.i .i64 0)),[113,108]⟩ ::
 ⟨none,some 115,.pk (.t 108) (.t 114) (.c (.b false)),[108,114]⟩ :: []))
(.cond (.t 115) (.region (
  ⟨none,some 9,.mv (.c (.i .i64 0)),[]⟩ :: []))
 .skip))
(.seq (.region (
 ⟨none,some 116,.mv (.t 9),[9]⟩ ::
 ⟨none,some 117,.ar .geq (.t 116) (.c (.i .i64 0)),[116]⟩ :: []))
(.cond (.t 117) (.seq (.region (
 ⟨none,some 118,.mv (.t 11),[11]⟩ ::
 ⟨none,some 119,.ar .add (.c (.i .i64 7)) (.t 118),[118]⟩ ::
 ⟨none,some 120,.mv (.t 9),[9]⟩ ::
 ⟨none,some 4,.mv (.t 119),[119]⟩ ::
 ⟨none,some 5,.mv (.t 120),[120]⟩ :: []))
.ret)
 .skip)))))
(.region (
 ⟨none,some 96,.mv (.t 11),[11]⟩ ::
 ⟨none,some 97,.ar .add (.t 96) (.c (.i .i64 1)),[96]⟩ ::
 ⟨none,some 11,.mv (.t 97),[97]⟩ :: [])))))))
(.seq (.region (
 ⟨none,some 4,.mv (.c (.i .i64 0)),[]⟩ ::
 ⟨none,some 5,.mv (.c (.i .i64 0)),[]⟩ :: []))
.ret)))))))))))))))
set_option maxRecDepth 100000 in
theorem c101:fnB Tryz.prog 101=some (121,s101,[.t 4,.t 5]):=by kernel_rfl
theorem EsC.to {C:Cx} {K:List Fr} {c:Bool} {a b:Sc} {e:Env} {h:H} {X:Type} (env:X→Env) (φ:X→H→Prop) (hs:EsC C (.cut (fun e h=>∃x,Cov e (env x)∧φ x h) :: K) c a b e h) (hb:∀x h,φ x h→Nx C K (env x) h):EsC C K c a b e h:=⟨fun h=>Es.to env φ (hs.t h) hb,fun h=>Es.to env φ (hs.f h) hb⟩
structure Sm (g:Gr):Prop where
 ev:g.ev.length≤10000000
 rf:g.rf.length≤10000000
 co:g.co.length≤10000000
 row:∀c,c<g.co.length→(gt g.co c).length≤10000000
 rmw:g.rmw.length≤10000000
 addr:g.addr.length≤10000000
 data:g.data.length≤10000000
 ctrl:g.ctrl.length≤10000000
theorem nb_t {w:Bool} (h:(!w)=true):w=false:=by cases w <;> first | rfl | cases h
theorem nb_f {w:Bool} (h:(!w)=false) (h2:w=false):False:=by subst h2;cases h
theorem cells_one {v:V} (h:v.one=true):v.cells = [v]:=by
 cases v <;> first | rfl | cases h
theorem fill3 {v1 v2 v3:V} (h1:v1.one=true) (h2:v2.one=true) (h3:v3.one=true):fillL (rep [.ns] 3) [(0,1,v1),(1,1,v2),(2,1,v3)]=some [v1,v2,v3]:=by
 simp only[fillL,cells_one h1,cells_one h2,cells_one h3]
 rfl
set_option maxHeartbeats 0 in
theorem check_spec {m:Bool} {h:H} {gl:List V} {g:Gr} {w:Bool} (hw:Wf h) (hg:GrAt h gl g) (hs:Sm g):FX m Tryz.prog 101 [.agg gl,.b w] h fun v h'=>(∃r a:Int,v=.tup [.i .i64 r,.i .i64 a]∧(r=0↔WF g w))∧Kp h h':=by
 have hone:=hg.one
 obtain⟨ve,vrf,vco,vrmw,vad,vda,vct,rfl,he,-,-,-,had,hda,hct⟩:=hg.is
 refine Fn.env c101 rfl ?_
 unfold s101
 refine Es.seq (Es.region (ew_bx (hz:=hone) fun b h1 ob k1=>?_))
 have hw1:=k1.wf hw
 have hB1:=ob.bx
 have hg1:=hg.kp k1 hw
 obtain⟨hL,hC1⟩:=he.kp k1 hw
 have had:=had.kp k1 hw
 have hda:=hda.kp k1 hw
 have hct:=hct.kp k1 hw
 have hB:=hB1
 clear hg he hone
 have hse:=hs.ev
 refine go ?_
 repeat' ((first | refine wgd (fun _=>?_) fun _=>?_ | refine wgn (fun _=>?_) fun _=>?_ | refine wgb (fun _=>?_) fun _=>?_ | refine mgd (fun _=>?_) fun _=>?_ | refine mgn (fun _=>?_) fun _=>?_ | refine mgb (fun _=>?_) fun _=>?_ | refine cD (fun _=>?_) fun _=>?_ | refine cN (fun _=>?_) fun _=>?_ | refine cB (fun _=>?_) fun _=>?_) <;> refine go ?_)
 all_goals try exact ret_2 ⟨⟨1,0,rfl,fun h=>absurd h (by decide),fun hwf=>by have:=hwf.size;omega⟩,by assumption⟩
 obtain⟨c0,hc0⟩:∃c0:Nat,g.cells=c0:=⟨g.cells.toNat,by omega⟩
 refine ew_al fun b5 h3 ob5 k3=>?_
 refine ew_st ob5 fun h4 ob6 m4=>?_
 have k4:Kp h1 h4:=m4.kp k3 fun j hj=>by injection hj with hj;subst hj;exact ob5.lo
 refine go ?_
 refine EsC.to (X:=Unit) (fun _=>[(1,.b w),(2,.p b 0),(6,.p b5 0)]) (fun _ h=>Kp h1 h∧Ob h h1.next b5 37 [.i .i64 (-1),.i .i64 2,.i .i64 0,.i .u64 0,.i .i64 (if w=true then 11 else 1)]) ?_ (fun _ h5 hx=>?_)
 ·refine cB (fun hwt=>?_) (fun hwf=>?_)
  ·skip
   refine go ?_
   refine ew_st ob6 fun h5 ob7 m5=>?_
   subst hwt
   refine go ?_
   exact Nx.to () ⟨rfl,rfl,rfl,trivial⟩ ⟨m5.kp k4 fun j hj=>by injection hj with hj;subst hj;exact ob5.lo,ob7⟩
  ·skip
   refine go ?_
   subst hwf
   exact Nx.to () ⟨rfl,rfl,rfl,trivial⟩ ⟨k4,ob6⟩
 obtain⟨k5,ob8⟩:=hx
 clear ob6 ob5 m4 k4 k3 h3 h4
 refine go ?_
 
 refine Es.loop (X:=Nat × Int) (fun x=>c0-x.1) (fun x=>[(1,.b w),(2,.p b 0),(6,.p b5 0),(7,.i .i64 (x.1:Int))]) (fun x h=>x.1≤c0∧Kp h1 h∧Ob h h1.next b5 37 [.i .i64 (-1),.i .i64 2,.i .i64 x.2,.i .u64 0,.i .i64 (if w=true then 11 else 1)]∧∀c,c<x.1→gt g.ev c=first_ w c) (0,0) ⟨rfl,rfl,rfl,rfl,trivial⟩ ⟨Nat.zero_le _,k5,ob8,fun r hr=>absurd hr (Nat.not_lt_zero _)⟩ fun x h2 hx=>?_
 clear ob8 k5 h5
 obtain⟨c,z⟩:=x
 obtain⟨hc,k2,ob2,hI⟩:=hx
 simp only at hc k2 ob2 hI ⊢
 have hw2:=k2.wf hw1
 have hB:=hB1.kp k2 hw1
 have hkp:=k1.trans k2
 refine go ?_
 refine cD (fun hlt=>?_) (fun hge=>?_)
 ·skip
  refine go ?_
  refine ew_st ob2 fun h3 ob3 m3=>?_
  have hlo:=ob2.lo
  have k3:Kp h1 h3:=m3.kp k2 fun j hj=>by injection hj with hj;subst hj;exact hlo
  have hw3:=k3.wf hw1
  have hB:=hB1.kp k3 hw1
  have hC:=hC1.kp k3 hw1
  have hB5:=ob3.bx
  have hkp:=k1.trans k3
  clear m3 ob2 k2
  refine go ?_
  refine emN (mS (hd:=⟨fun _=>od_neS [(.i64,(gt g.ev c).thread,-1),(.i64,(gt g.ev c).kind,2),(.i64,(gt g.ev c).loc,(c:Int)),(.u64,(gt g.ev c).val,0),(.i64,(gt g.ev c).mode,if w=true then 11 else 1)] rfl rfl rfl rfl rfl⟩) ?_)
  refine go ?_
  refine cN (fun hne=>?_) (fun heq=>?_)
  ·skip
   refine go ?_
   refine ret_2 ⟨⟨2,_,rfl,fun h=>absurd h (by decide),fun hwf=>(hne (by
    have h9:=hwf.init c (by omega)
    simp[h9,first_])).elim⟩,hkp⟩
  ·skip
   refine go ?_
   refine Nx.inv (c+1,(c:Int)) (by simp only;omega) ⟨rfl,rfl,rfl,rfl,trivial⟩ ⟨by simp only;omega,k3,ob3,fun c' h8=>?_⟩
   simp only at h8
   rcases Nat.lt_succ_iff_lt_or_eq.1 h8 with h9 | h9
   ·exact hI c' h9
   ·subst h9
    simp only[List.mem_cons,List.not_mem_nil,or_false,forall_eq_or_imp,forall_eq]at heq
    obtain⟨e1,e2,e3,e4,e5⟩:=heq
    cases hev:gt g.ev c'
    simp only[hev]at e1 e2 e3 e4 e5
    simp only[first_,e1,e2,e3,e4,e5]
 have hce:c=c0:=by omega
 subst hce
 have hinit:∀c':Nat,(c':Int)<g.cells→gt g.ev c'=first_ w c':=fun c' h8=>hI c' (by omega)
 clear ob2 hI hge
 refine go ?_
 
 refine Es.loop (X:=Nat) (fun x=>g.ev.length-x) (fun x=>[(1,.b w),(2,.p b 0),(8,.i .i64 (x:Int))]) (fun x h=>c≤x∧x≤g.ev.length∧Kp h1 h∧∀i:Nat,g.cells≤i→i<x→EvOk g.cells (gt g.ev i) w) c ⟨rfl,rfl,by rw[←hc0];rfl,trivial⟩ ⟨Nat.le_refl _,by omega,k2,fun i h8 h9=>by omega⟩ fun i h3 hx=>?_
 clear hB hkp hw2 k2 h2
 obtain⟨hi0,hi,k3,hI⟩:=hx
 have hw3:=k3.wf hw1
 have hB:=hB1.kp k3 hw1
 have hC:=hC1.kp k3 hw1
 have hg3:=hg1.kp k3 hw1
 have hkp:=k1.trans k3
 refine go ?_
 refine cD (fun hlt=>?_) (fun hge=>?_)
 ·skip
  refine go ?_
  refine mC (event_spec hw3 hg3) fun v h4 hR=>⟨.nil,?_⟩
  obtain⟨rfl,k4⟩:=hR
  have hkp:=hkp.trans k4
  refine go ?_
  refine cN (fun hne=>?_) (fun heq=>?_)
  ·skip
   refine go ?_
   exact ret_2 ⟨⟨3,_,rfl,fun h=>absurd h (by decide),fun hwf=>(hne (hwf.ev i (by omega) (by omega))).elim⟩,hkp⟩
  ·skip
   refine go ?_
   exact Nx.inv (i+1) (by omega) ⟨rfl,rfl,rfl,trivial⟩ ⟨by omega,by omega,k3.trans k4,fun i' h7 h8=>by
    rcases Nat.lt_succ_iff_lt_or_eq.1 h8 with h9 | h9
    ·exact hI i' h7 h9
    ·subst h9;exact heq⟩
 have hie:i=g.ev.length:=by omega
 subst hie
 clear hge
 refine go ?_
 refine stC (rf_spec hw3 hg3 (by omega)) fun v h4 hR=>?_
 obtain⟨⟨r1,rfl,hr1⟩,k4⟩:=hR
 have hw4:=k4.wf hw3
 have hB:=hB.kp k4 hw3
 have hg4:=hg3.kp k4 hw3
 have hkp:=hkp.trans k4
 refine go ?_
 refine cD (fun hge=>?_) (fun hlt1=>?_)
 ·skip
  refine go ?_
  exact ret_2 ⟨⟨4,_,rfl,fun h=>absurd h (by decide),fun hwf=>by have:=hr1.2 hwf.rf;omega⟩,hkp⟩
 refine go ?_
 refine stC (co_spec hw4 hg4 (by omega) (by omega) (by have:=hs.co;omega) fun c hc=>by have:=hs.row c hc;omega) fun v h5 hR=>?_
 obtain⟨⟨r2,rfl,hr2⟩,k5⟩:=hR
 have hw5:=k5.wf hw4
 have hB:=hB.kp k5 hw4
 have hg5:=hg4.kp k5 hw4
 have hkp:=hkp.trans k5
 refine go ?_
 refine cD (fun hge=>?_) (fun hlt2=>?_)
 ·skip
  refine go ?_
  exact ret_2 ⟨⟨5,_,rfl,fun h=>absurd h (by decide),fun hwf=>by have:=hr2.2 hwf.co;omega⟩,hkp⟩
 refine go ?_
 refine stC (rmw_spec hw5 hg5 (by omega) (by have:=hs.rmw;omega)) fun v h6 hR=>?_
 obtain⟨⟨r3,rfl,hr3⟩,k6⟩:=hR
 have hw6:=k6.wf hw5
 have hB:=hB.kp k6 hw5
 have k36:=k3.trans (k4.trans (k5.trans k6))
 have hkp:=hkp.trans k6
 refine go ?_
 refine cD (fun hge=>?_) (fun hlt3=>?_)
 ·skip
  refine go ?_
  exact ret_2 ⟨⟨6,_,rfl,fun h=>absurd h (by decide),fun hwf=>by have:=hr3.2 hwf.rmw;omega⟩,hkp⟩
 refine go ?_
 
 have hz3:allOne [vad,vda,vct]=true:=allOne_cons had.ln.one (allOne_cons hda.ln.one (allOne_cons hct.ln.one rfl))
 refine ew_s .n (od_bs (l:=[vad,vda,vct]) rfl (fill3 had.ln.one hda.ln.one hct.ln.one) hz3) ?_
 have k7:Kp h6 (h6.new 23 [vad,vda,vct] false):=kp_new
 have hbn:Bx (h6.new 23 [vad,vda,vct] false) h6.next [vad,vda,vct]:=ob_new.bx
 have hD1:Ro (h6.new 23 [vad,vda,vct] false) (.sl h6.next 0 3 3 true 1) 1 vcell [vad,vda,vct]:=⟨.sl (Nat.le_refl _),⟨fun i k hi hk=>by
  obtain rfl:k=0:=by omega
  refine hbn.eq (0+i*1+0) _ ?_
  have hi:i<3:=hi
  match i,hi with
  | 0,_=>rfl
  | 1,_=>rfl
  | 2,_=>rfl⟩⟩
 generalize hb7:h6.next=b7 at hD1 ⊢
 generalize hh7:h6.new 23 [vad,vda,vct] false=h7 at hD1 k7 ⊢
 clear hbn hb7 hh7
 have hw7:=k7.wf hw6
 have k17:=k36.trans k7
 have hdl:∀k,k<3→Ro h1 (gt [vad,vda,vct] k) 2 pcell (gt [g.addr,g.data,g.ctrl] k)∧(gt [g.addr,g.data,g.ctrl] k).length≤10000000:=fun k hk =>
  match k,hk with
  | 0,_=>⟨had,hs.addr⟩
  | 1,_=>⟨hda,hs.data⟩
  | 2,_=>⟨hct,hs.ctrl⟩
 clear hB hkp k36 k7 hg5 hg4 hg3 hC k3
 refine go ?_
 refine Es.loop (X:=Nat) (fun x=>3-x) (fun x=>[(1,.b w),(2,.p b 0),(10,.sl b7 0 3 3 true 1),(11,.i .i64 (x:Int))]) (fun x h=>x≤3∧Kp h7 h∧∀j:Nat,j<x→DepOk g (gt [g.addr,g.data,g.ctrl] j) (7+j)∧(w=false→gt [g.addr,g.data,g.ctrl] j = [])) 0 ⟨rfl,rfl,rfl,rfl,trivial⟩ ⟨Nat.zero_le _,.refl _,fun r hr=>absurd hr (Nat.not_lt_zero _)⟩ fun k h8 hx=>?_
 obtain⟨hk,k8,hJ⟩:=hx
 have k18:=k17.trans k8
 have hw8:=k8.wf hw7
 have hB:=hB1.kp k18 hw1
 have hD:=hD1.kp k8 hw7
 have hg8:=hg1.kp k18 hw1
 have hkp:=k1.trans k18
 refine go ?_
 refine cD (fun hlt=>?_) (fun hge=>?_)
 ·obtain⟨hRk,hRl⟩:=hdl k (by omega)
  have hLD:Ln (.sl b7 0 3 3 true 1) 1 3:=hD.ln
  have hCD:Cs h8 (.sl b7 0 3 3 true 1) 1 3 fun i k=>vcell (gt [vad,vda,vct] i) k:=hD.cs
  refine go ?_
  refine mC (deps_spec (w:=7+(k:Int)) hw8 hg8 (hRk.kp k18 hw1) (by omega)) fun v h9 hR=>⟨.nil,?_⟩
  obtain⟨⟨r,rfl,hr⟩,k9⟩:=hR
  have hw9:=k9.wf hw8
  have hB:=hB.kp k9 hw8
  have hD:=hD.kp k9 hw8
  have hkp:=hkp.trans k9
  have k79:=k8.trans k9
  have hLk:Ln (vcell (gt [vad,vda,vct] k) 0) 2 (gt [g.addr,g.data,g.ctrl] k).length:=hRk.ln
  have hCD:Cs h9 (.sl b7 0 3 3 true 1) 1 3 fun i k=>vcell (gt [vad,vda,vct] i) k:=hD.cs
  clear k8 k9 hg8 k18
  have hJ':r<0→(w=false→gt [g.addr,g.data,g.ctrl] k = [])→∀j:Nat,j<k+1→DepOk g (gt [g.addr,g.data,g.ctrl] j) (7+j)∧(w=false→gt [g.addr,g.data,g.ctrl] j = []):=fun h2 h3 j hj=>by
   rcases Nat.lt_succ_iff_lt_or_eq.1 hj with h4 | h4
   ·exact hJ j h4
   ·subst h4;exact⟨hr.1 h2,h3⟩
  have hN:WF g w→DepOk g (gt [g.addr,g.data,g.ctrl] k) (7+(k:Int))∧(w=false→(gt [g.addr,g.data,g.ctrl] k).length=0):=fun hwf=>by
   have hk3:k<3:=by omega
   match k,hk3 with
   | 0,_=>exact⟨hwf.addr,fun h=>by rw[show gt [g.addr,g.data,g.ctrl] 0=g.addr from rfl,(hwf.none h).1];rfl⟩
   | 1,_=>exact⟨hwf.data,fun h=>by rw[show gt [g.addr,g.data,g.ctrl] 1=g.data from rfl,(hwf.none h).2.1];rfl⟩
   | 2,_=>exact⟨hwf.ctrl,fun h=>by rw[show gt [g.addr,g.data,g.ctrl] 2=g.ctrl from rfl,(hwf.none h).2.2];rfl⟩
  refine go ?_
  repeat' ((first | refine wgd (fun _=>?_) fun _=>?_ | refine wgn (fun _=>?_) fun _=>?_ | refine wgb (fun _=>?_) fun _=>?_ | refine mgd (fun _=>?_) fun _=>?_ | refine mgn (fun _=>?_) fun _=>?_ | refine mgb (fun _=>?_) fun _=>?_ | refine cD (fun _=>?_) fun _=>?_ | refine cN (fun _=>?_) fun _=>?_ | refine cB (fun _=>?_) fun _=>?_) <;> refine go ?_)
  all_goals first
   | exact ret_2 ⟨⟨7+(k:Int),_,rfl,⟨fun h=>by omega,fun hwf=>by
     obtain⟨n1,n2⟩:=hN hwf
     have n3:=hr.2 n1
     first
      | omega
      |(have n4:=n2 (nb_t (by assumption));omega)⟩⟩,hkp⟩
   | exact Nx.inv (k+1) (by omega) ⟨rfl,rfl,rfl,rfl,trivial⟩ ⟨by omega,k79,hJ' (by omega) fun h=>by
     first
      | exact(nb_f (by assumption) h).elim
      | exact List.length_eq_zero_iff.1 (by omega)⟩
 obtain rfl:k=3:=by omega
 have hJ0:=hJ 0 (by omega)
 have hJ1:=hJ 1 (by omega)
 have hJ2:=hJ 2 (by omega)
 refine go ?_
 exact ret_2 ⟨⟨0,0,rfl,fun _=>⟨by omega,hinit,hI,hr1.1 (by omega),hr2.1 (by omega),hr3.1 (by omega),hJ0.1,hJ1.1,hJ2.1,fun h=>⟨hJ0.2 h,hJ1.2 h,hJ2.2 h⟩⟩,fun _=>rfl⟩,hkp⟩
end Go.Proofs.YtkcdehffcddciaaGreatDoor.Vm
