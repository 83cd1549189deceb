/- The reference's rule 4. -/
import Derived.Test.YtkcdehffcddciaaGreatDoorQ21
import Derived.Test.YtkcdehffcddciaaGreatDoorQ19
namespace Go.Proofs.YtkcdehffcddciaaGreatDoor.Vm
open Go Go.RowKit
def s167:Sc:=(.seq (.region (
 ⟨none,some 1,.bx 26 (.t 0),[0]⟩ ::
 ⟨none,some 2,.mv (.c (.i .i64 0)),[]⟩ :: []))
(.seq (.region (
 ⟨none,some 3,.mv (.c (.i .i64 0)),[]⟩ :: []))
(.seq (.seq (.region (
 ⟨none,some 4,.mv (.c (.i .i64 0)),[]⟩ :: []))
(.block 0 (.loop (.seq (.seq (.region (
 ⟨none,some 6,.mv (.t 4),[4]⟩ ::
 ⟨none,some 7,.fa (.t 1) 1,[1]⟩ ::
 ⟨none,some 8,.ld (.t 7),[7]⟩ ::
 ⟨none,some 9,.len (.t 8),[8]⟩ ::
 ⟨none,some 10,.ar .lss (.t 6) (.t 9),[6,9]⟩ :: []))
(.cond (.t 10) .skip
 (.exit 0)))
(.seq (.block 1 (.seq (.seq (.region (
 ⟨none,some 13,.fa (.t 1) 1,[1]⟩ ::
 ⟨none,some 14,.ld (.t 13),[13]⟩ ::
 ⟨none,some 15,.mv (.t 4),[4]⟩ ::
 ⟨none,some 16,.ia (.t 14) (.t 15) 5,[14,15]⟩ ::
 ⟨none,some 17,.fa (.t 16) 1,[16]⟩ ::
 ⟨none,some 18,.ld (.t 17),[17]⟩ ::
 ⟨none,some 19,.eq .int true (.t 18) (.c (.i .i64 1)),[18]⟩ :: []))
(.cond (.t 19) (.exit 1)
 .skip))
(.seq (.seq (.region (
 ⟨none,some 20,.mv (.t 3),[3]⟩ ::
 ⟨none,some 21,.fa (.t 1) 2,[1]⟩ ::
 ⟨none,some 22,.ld (.t 21),[21]⟩ ::
 ⟨none,some 23,.len (.t 22),[22]⟩ ::
 ⟨none,some 24,.ar .geq (.t 20) (.t 23),[20,23]⟩ :: []))
(.cond (.t 24) (.seq (.region (
 ⟨none,some 25,.mv (.t 3),[3]⟩ ::
 ⟨none,some 2,.mv (.t 25),[25]⟩ :: []))
.ret)
 .skip))
(.seq (.region (
 ⟨none,some 26,.fa (.t 1) 2,[1]⟩ ::
 ⟨none,some 27,.ld (.t 26),[26]⟩ ::
 ⟨none,some 28,.mv (.t 3),[3]⟩ ::
 ⟨none,some 29,.ia (.t 27) (.t 28) 2,[27,28]⟩ ::
 ⟨none,some 30,.lds (.t 29) 2,[29]⟩ ::
 ⟨none,some 5,.al 39 [(.i .i64 0),(.i .i64 0)],[]⟩ ::
 ⟨none,none,.st (.t 5) (.t 30) 2,[5,30]⟩ :: []))
(.seq (.seq (.mix (
 (⟨none,some 31,.fa (.t 5) 1,[5]⟩,.q [none]) ::
 (⟨none,some 32,.ld (.t 31),[31]⟩,.q [none]) ::
 (⟨none,some 33,.mv (.t 4),[4]⟩,.q [none]) ::
 (⟨none,some 34,.eq .int true (.t 32) (.t 33),[32,33]⟩,.q [none]) ::
 (⟨none,some 35,.mv (.t 34),[34]⟩,.q [none]) ::
 (⟨some (35,false),some 36,.lds (.t 1) 8,[1,35]⟩,.q [none]) ::
 (⟨some (35,false),some 37,.fa (.t 5) 0,[5,35]⟩,.q [none]) ::
 (⟨some (35,false),some 38,.ld (.t 37),[37,35]⟩,.q [none]) ::
 (⟨some (35,false),some 39,.call 239 [(.t 36),(.t 38),(.c (.i .i64 2))],[36,38,35]⟩,.e) ::
 (⟨some (35,false),some 40,.nt (.t 39),[39,35]⟩,.q [(some 8)]) ::
 (⟨none,some 41,.pk (.t 35) (.c (.b true)) (.t 40),[35,40]⟩,.q [(some 8)]) ::
 (⟨none,some 42,.mv (.t 41),[41]⟩,.q [(some 8)]) ::
 (⟨some (42,false),some 43,.fa (.t 1) 1,[1,42]⟩,.q [(some 8)]) ::
 (⟨some (42,false),some 44,.ld (.t 43),[43,42]⟩,.q [(some 8)]) ::
 (⟨some (42,false),some 45,.fa (.t 5) 0,[5,42]⟩,.q [(some 8)]) ::
 (⟨some (42,false),some 46,.ld (.t 45),[45,42]⟩,.q [(some 8)]) ::
 (⟨some (42,false),some 47,.ia (.t 44) (.t 46) 5,[44,46,42]⟩,.q [(some 8)]) ::
 (⟨some (42,false),some 48,.fa (.t 47) 2,[47,42]⟩,.q [(some 8)]) ::
 (⟨some (42,false),some 49,.ld (.t 48),[48,42]⟩,.q [(some 8)]) ::
 (⟨some (42,false),some 50,.fa (.t 1) 1,[1,42]⟩,.q [(some 8)]) ::
 (⟨some (42,false),some 51,.ld (.t 50),[50,42]⟩,.q [(some 8)]) ::
 (⟨some (42,false),some 52,.mv (.t 4),[4,42]⟩,.q [(some 8)]) ::
 (⟨some (42,false),some 53,.ia (.t 51) (.t 52) 5,[51,52,42]⟩,.q [(some 8)]) ::
 (⟨some (42,false),some 54,.fa (.t 53) 2,[53,42]⟩,.q [(some 8)]) ::
 (⟨some (42,false),some 55,.ld (.t 54),[54,42]⟩,.q [(some 8)]) ::
 (⟨some (42,false),some 56,.eq .int true (.t 49) (.t 55),[49,55,42]⟩,.q [(some 8)]) ::
 (⟨none,some 57,.pk (.t 42) (.c (.b true)) (.t 56),[42,56]⟩,.q [(some 8)]) ::
 (⟨none,some 58,.mv (.t 57),[57]⟩,.q [(some 8)]) ::
 (⟨some (58,false),some 59,.fa (.t 1) 1,[1,58]⟩,.q [(some 8)]) ::
 (⟨some (58,false),some 60,.ld (.t 59),[59,58]⟩,.q [(some 8)]) ::
 (⟨some (58,false),some 61,.fa (.t 5) 0,[5,58]⟩,.q [(some 8)]) ::
 (⟨some (58,false),some 62,.ld (.t 61),[61,58]⟩,.q [(some 8)]) ::
 (⟨some (58,false),some 63,.ia (.t 60) (.t 62) 5,[60,62,58]⟩,.q [(some 8)]) ::
 (⟨some (58,false),some 64,.fa (.t 63) 3,[63,58]⟩,.q [(some 8)]) ::
 (⟨some (58,false),some 65,.ld (.t 64),[64,58]⟩,.q [(some 8)]) ::
 (⟨some (58,false),some 66,.fa (.t 1) 1,[1,58]⟩,.q [(some 8)]) ::
 (⟨some (58,false),some 67,.ld (.t 66),[66,58]⟩,.q [(some 8)]) ::
 (⟨some (58,false),some 68,.mv (.t 4),[4,58]⟩,.q [(some 8)]) ::
 (⟨some (58,false),some 69,.ia (.t 67) (.t 68) 5,[67,68,58]⟩,.q [(some 8)]) ::
 (⟨some (58,false),some 70,.fa (.t 69) 3,[69,58]⟩,.q [(some 8)]) ::
 (⟨some (58,false),some 71,.ld (.t 70),[70,58]⟩,.q [(some 8)]) ::
 (⟨some (58,false),some 72,.eq .int true (.t 65) (.t 71),[65,71,58]⟩,.q [(some 8)]) ::
 (⟨none,some 73,.pk (.t 58) (.c (.b true)) (.t 72),[58,72]⟩,.q [(some 8)]) :: []))
(.cond (.t 73) (.seq (.region (
 ⟨none,some 74,.mv (.t 3),[3]⟩ ::
 ⟨none,some 2,.mv (.t 74),[74]⟩ :: []))
.ret)
 .skip))
(.region (
 ⟨none,some 75,.mv (.t 3),[3]⟩ ::
 ⟨none,some 76,.ar .add (.t 75) (.c (.i .i64 1)),[75]⟩ ::
 ⟨none,some 3,.mv (.t 76),[76]⟩ :: [])))))))
(.region (
 ⟨none,some 11,.mv (.t 4),[4]⟩ ::
 ⟨none,some 12,.ar .add (.t 11) (.c (.i .i64 1)),[11]⟩ ::
 ⟨none,some 4,.mv (.t 12),[12]⟩ :: [])))))))
(.seq (.seq (.region (
 ⟨none,some 77,.mv (.t 3),[3]⟩ ::
 ⟨none,some 78,.fa (.t 1) 2,[1]⟩ ::
 ⟨none,some 79,.ld (.t 78),[78]⟩ ::
 ⟨none,some 80,.len (.t 79),[79]⟩ ::
 ⟨none,some 81,.ar .lss (.t 77) (.t 80),[77,80]⟩ :: []))
(.cond (.t 81) (.seq (.region (
 ⟨none,some 82,.mv (.t 3),[3]⟩ ::
 ⟨none,some 2,.mv (.t 82),[82]⟩ :: []))
.ret)
 .skip))
(.seq (.region (
 ⟨none,some 2,.mv (.c (.i .i64 (-1))),[]⟩ :: []))
.ret)))))
set_option maxRecDepth 100000 in
theorem c167:fnB Tryz.prog 167=some (83,s167,[.t 2]):=by kernel_rfl
set_option maxHeartbeats 0 in
theorem rf_spec {m:Bool} {h:H} {gl:List V} {g:Gr} (hw:Wf h) (hg:GrAt h gl g) (hn:g.ev.length≤256):FX m Tryz.prog 167 [.agg gl] h fun v h'=>Iv v (RfOk g)∧Kp h h':=by
 have hone:=hg.one
 obtain⟨ve,vrf,vco,vrmw,vad,vda,vct,rfl,he,hrf,-⟩:=hg.is
 refine Fn.env c167 rfl ?_
 unfold s167
 refine Es.seq (Es.region (ew_bx (hz:=hone) fun b h1 ob k1=>?_))
 have hw1:=k1.wf hw
 have hB1:=ob.bx
 have hg1:=hg.kp k1 hw
 obtain⟨hL,hC1⟩:=he.kp k1 hw
 obtain⟨hL2,hD1⟩:=hrf.kp k1 hw
 clear hg he hrf hone
 refine go ?_
 refine Es.loop (X:=Nat × Nat) (fun x=>g.ev.length-x.1) (fun x=>[(1,.p b 0),(3,.i .i64 (x.2:Int)),(4,.i .i64 (x.1:Int))]) (fun x h=>x.1≤g.ev.length∧x.2=RdC g x.1∧Kp h1 h∧∀r,r<x.1→(gt g.ev r).kind=1→RfAt g r) (0,0) ⟨rfl,rfl,rfl,trivial⟩ ⟨Nat.zero_le _,rfl,.refl _,fun r hr=>absurd hr (Nat.not_lt_zero _)⟩ fun x h2 hx=>?_
 obtain⟨r,k⟩:=x
 obtain⟨hr,hk,k2,hI⟩:=hx
 simp only at hr hk hI ⊢
 have hw2:=k2.wf hw1
 have hB:=hB1.kp k2 hw1
 have hC:=hC1.kp k2 hw1
 have hD:=hD1.kp k2 hw1
 have hkp:=k1.trans k2
 have hkr:=RdC_le g r
 refine go ?_
 refine cD (fun hlt=>?_) (fun hge=>?_)
 ·skip
  refine go ?_
  refine cN (fun hne=>?_) (fun heq=>?_)
  ·skip
   refine go ?_
   exact Nx.inv (r+1,k) (by simp only;omega) ⟨rfl,rfl,rfl,trivial⟩ ⟨by simp only;omega,by simp only;rw[RdC_n hne];exact hk,k2,fun r' h3 h4=>by
    simp only at h3
    by_cases e:r'=r
    ·subst e;exact absurd h4 hne
    ·exact hI r' (by omega) h4⟩
  ·skip
   refine go ?_
   refine cD (fun hge=>?_) (fun hlt2=>?_)
   ·skip
    refine go ?_
    exact ret_1 ⟨.y fun hok=>by have:=(hok.1 r (by omega) heq).1;omega,hkp⟩
   ·skip
    refine go ?_
    refine ewN ⟨?_⟩
    refine ew_al fun b5 h3 ob5 k3=>?_
    refine ew_st ob5 fun h4 ob6 m4=>?_
    have k4:Kp h2 h4:=m4.kp k3 fun j hj=>by injection hj with hj;subst hj;exact ob5.lo
    have hw4:=k4.wf hw2
    have hB5:=ob6.bx
    have hB:=hB.kp k4 hw2
    have hC:=hC.kp k4 hw2
    have hg4:=hg1.kp (k2.trans k4) hw1
    have k24:=k2.trans k4
    have hkp:=hkp.trans k4
    clear k4 hD
    refine go ?_
    repeat' ((first | refine wgd (fun _=>?_) fun _=>?_ | refine wgn (fun _=>?_) fun _=>?_ | refine wgb (fun _=>?_) fun _=>?_ | refine mgd (fun _=>?_) fun _=>?_ | refine mgn (fun _=>?_) fun _=>?_ | refine mgb (fun _=>?_) fun _=>?_ | refine cD (fun _=>?_) fun _=>?_ | refine cN (fun _=>?_) fun _=>?_ | refine cB (fun _=>?_) fun _=>?_) <;> refine go ?_)
    ·exact ret_1 ⟨.y fun hok=>by have:=(hok.1 r (by omega) heq).2.1;subst hk;contradiction,hkp⟩
    refine mC (is_spec hw4 hg4) fun v h5 hR=>⟨.nil,?_⟩
    obtain⟨rfl,k5⟩:=hR
    have hw5:=k5.wf hw4
    have hB5:=hB5.kp k5 hw4
    have hB:=hB.kp k5 hw4
    have hC:=hC.kp k5 hw4
    have k25:=k24.trans k5
    have hkp:=hkp.trans k5
    clear k5 k24 hg4
    by_cases hE:IsE g (gt g.rf k).1 2
    case neg =>
     have hE':=hE
     refine go ?_
     repeat' ((first | refine wgd (fun _=>?_) fun _=>?_ | refine wgn (fun _=>?_) fun _=>?_ | refine wgb (fun _=>?_) fun _=>?_ | refine mgd (fun _=>?_) fun _=>?_ | refine mgn (fun _=>?_) fun _=>?_ | refine mgb (fun _=>?_) fun _=>?_ | refine cD (fun _=>?_) fun _=>?_ | refine cN (fun _=>?_) fun _=>?_ | refine cB (fun _=>?_) fun _=>?_) <;> refine go ?_)
     all_goals first
      | exact ret_1 ⟨.y fun hok=>by have:=(hok.1 r (by omega) heq).2.2.1;subst hk;contradiction,hkp⟩
      | exact absurd (by assumption) hE'
    obtain⟨hE0,hE1,hE2⟩:=id hE
    refine go ?_
    repeat' ((first | refine wgd (fun _=>?_) fun _=>?_ | refine wgn (fun _=>?_) fun _=>?_ | refine wgb (fun _=>?_) fun _=>?_ | refine mgd (fun _=>?_) fun _=>?_ | refine mgn (fun _=>?_) fun _=>?_ | refine mgb (fun _=>?_) fun _=>?_ | refine cD (fun _=>?_) fun _=>?_ | refine cN (fun _=>?_) fun _=>?_ | refine cB (fun _=>?_) fun _=>?_) <;> refine go ?_)
    all_goals first
     | exact absurd hE (by assumption)
     | exact ret_1 ⟨.y fun hok=>by have h9:=hok.1 r (by omega) heq;subst hk;obtain⟨-,-,-,h7,h8⟩:=h9;first | exact absurd h7 (by assumption) | exact absurd h8 (by assumption),hkp⟩
     | exact Nx.inv (r+1,k+1) (by simp only;omega) ⟨rfl,rfl,rfl,trivial⟩ ⟨by simp only;omega,by simp only;rw[RdC_y heq,hk],k25,fun r' h3 h4=>by
       simp only at h3
       by_cases e:r'=r
       ·subst e;subst hk;exact⟨by omega,by assumption,hE,by assumption,by assumption⟩
       ·exact hI r' (by omega) h4⟩
 ·have hrn:r=g.ev.length:=by omega
  subst hrn
  refine go ?_
  refine cD (fun hlt=>?_) (fun hge=>?_)
  ·skip
   refine go ?_
   exact ret_1 ⟨.y fun hok=>by have:=hok.2;omega,hkp⟩
  ·skip
   refine go ?_
   exact ret_1 ⟨.n ⟨hI,by omega⟩,hkp⟩
def s240:Sc:=(.seq (.region (
 ⟨none,some 3,.bx 26 (.t 0),[0]⟩ ::
 ⟨none,some 6,.mv (.c (.b false)),[]⟩ :: []))
(.seq (.seq (.region (
 ⟨none,some 8,.lds (.t 3) 8,[3]⟩ ::
 ⟨none,some 9,.mv (.t 1),[1]⟩ ::
 ⟨none,some 10,.mv (.t 2),[2]⟩ ::
 ⟨none,some 11,.call 193 [(.t 8),(.t 9),(.t 10)],[8,9,10]⟩ ::
 ⟨none,some 12,.nt (.t 11),[11]⟩ :: []))
(.cond (.t 12) (.seq (.region (
 ⟨none,some 6,.mv (.c (.b false)),[]⟩ :: []))
.ret)
 .skip))
(.seq (.seq (.region (
 ⟨none,some 13,.mv (.t 1),[1]⟩ ::
 ⟨none,some 14,.ar .add (.t 13) (.c (.i .i64 1)),[13]⟩ ::
 ⟨none,some 7,.mv (.t 14),[14]⟩ :: []))
(.block 0 (.loop (.seq (.seq (.region (
 ⟨none,some 15,.mv (.t 7),[7]⟩ ::
 ⟨none,some 16,.mv (.t 2),[2]⟩ ::
 ⟨none,some 17,.ar .lss (.t 15) (.t 16),[15,16]⟩ :: []))
(.cond (.t 17) .skip
 (.exit 0)))
(.seq (.block 1 (.seq (.mix (
 (⟨none,some 20,.fa (.t 3) 1,[3]⟩,.q [none]) ::
 (⟨none,some 21,.ld (.t 20),[20]⟩,.q [none]) ::
 (⟨none,some 22,.mv (.t 7),[7]⟩,.q [none]) ::
 (⟨none,some 23,.ia (.t 21) (.t 22) 5,[21,22]⟩,.q [none]) ::
 (⟨none,some 24,.fa (.t 23) 0,[23]⟩,.q [none]) ::
 (⟨none,some 25,.ld (.t 24),[24]⟩,.q [none]) ::
 (⟨none,some 26,.fa (.t 3) 1,[3]⟩,.q [none]) ::
 (⟨none,some 27,.ld (.t 26),[26]⟩,.q [none]) ::
 (⟨none,some 28,.mv (.t 1),[1]⟩,.q [none]) ::
 (⟨none,some 29,.ia (.t 27) (.t 28) 5,[27,28]⟩,.q [none]) ::
 (⟨none,some 30,.fa (.t 29) 0,[29]⟩,.q [none]) ::
 (⟨none,some 31,.ld (.t 30),[30]⟩,.q [none]) ::
 (⟨none,some 32,.eq .int false (.t 25) (.t 31),[25,31]⟩,.q [none]) :: []))
(.cond (.t 32) (.seq (.region (
 ⟨none,some 6,.mv (.c (.b false)),[]⟩ :: []))
.ret)
 .skip)))
(.region (
 ⟨none,some 18,.mv (.t 7),[7]⟩ ::
 ⟨none,some 19,.ar .add (.t 18) (.c (.i .i64 1)),[18]⟩ ::
 ⟨none,some 7,.mv (.t 19),[19]⟩ :: [])))))))
(.seq (.region (
 ⟨none,some 6,.mv (.c (.b true)),[]⟩ :: []))
.ret))))
set_option maxRecDepth 100000 in
theorem c240:fnB Tryz.prog 240=some (33,s240,[.t 6]):=by kernel_rfl
def s166:Sc:=(.seq (.region (
 ⟨none,some 3,.bx 26 (.t 0),[0]⟩ ::
 ⟨none,some 4,.bx 37 (.t 1),[1]⟩ ::
 ⟨none,some 6,.mv (.c (.b false)),[]⟩ :: []))
(.seq (.seq (.region (
 ⟨none,some 7,.fa (.t 4) 0,[4]⟩ ::
 ⟨none,some 8,.ld (.t 7),[7]⟩ ::
 ⟨none,some 9,.ar .lss (.t 8) (.c (.i .i64 0)),[8]⟩ ::
 ⟨none,some 10,.mv (.t 9),[9]⟩ ::
 ⟨some (10,false),some 11,.fa (.t 4) 0,[4,10]⟩ ::
 ⟨some (10,false),some 12,.ld (.t 11),[11,10]⟩ ::
 ⟨some (10,false),some 13,.ar .gtr (.t 12) (.c (.i .i64 63)),[12,10]⟩ ::
 ⟨none,some 14,.pk (.t 10) (.c (.b true)) (.t 13),[10,13]⟩ ::
 ⟨none,some 15,.mv (.t 14),[14]⟩ ::
 ⟨some (15,false),some 16,.fa (.t 4) 1,[4,15]⟩ ::
 ⟨some (15,false),some 17,.ld (.t 16),[16,15]⟩ ::
 ⟨some (15,false),some 18,.fa (.t 4) 4,[4,15]⟩ ::
 ⟨some (15,false),some 19,.ld (.t 18),[18,15]⟩ ::
 ⟨some (15,false),some 20,.mv (.t 2),[2,15]⟩ ::
 ⟨some (15,false),some 21,.call 238 [(.t 17),(.t 19),(.t 20)],[17,19,20,15]⟩ ::
 ⟨some (15,false),some 22,.nt (.t 21),[21,15]⟩ ::
 ⟨none,some 23,.pk (.t 15) (.c (.b true)) (.t 22),[15,22]⟩ :: []))
(.cond (.t 23) (.seq (.region (
 ⟨none,some 6,.mv (.c (.b false)),[]⟩ :: []))
.ret)
 .skip))
(.seq (.seq (.region (
 ⟨none,some 24,.fa (.t 4) 1,[4]⟩ ::
 ⟨none,some 25,.ld (.t 24),[24]⟩ ::
 ⟨none,some 26,.eq .int false (.t 25) (.c (.i .i64 3)),[25]⟩ :: []))
(.cond (.t 26) (.seq (.region (
 ⟨none,some 27,.fa (.t 4) 2,[4]⟩ ::
 ⟨none,some 28,.ld (.t 27),[27]⟩ ::
 ⟨none,some 29,.eq .int false (.t 28) (.c (.i .i64 (-1))),[28]⟩ ::
 ⟨none,some 30,.mv (.t 29),[29]⟩ ::
 ⟨some (30,true),some 31,.fa (.t 4) 3,[4,30]⟩ ::
 ⟨some (30,true),some 32,.ld (.t 31),[31,30]⟩ ::
 ⟨some (30,true),some 33,.eq .int false (.t 32) (.c (.i .u64 0)),[32,30]⟩ ::
 ⟨none,some 34,.pk (.t 30) (.t 33) (.c (.b false)),[30,33]⟩ ::
 ⟨none,some 6,.mv (.t 34),[34]⟩ :: []))
.ret)
 .skip))
(.seq (.region (
 ⟨none,some 35,.fa (.t 4) 2,[4]⟩ ::
 ⟨none,some 36,.ld (.t 35),[35]⟩ ::
 ⟨none,some 37,.ar .geq (.t 36) (.c (.i .i64 0)),[36]⟩ ::
 ⟨none,some 38,.mv (.t 37),[37]⟩ ::
 ⟨some (38,true),some 39,.fa (.t 4) 2,[4,38]⟩ ::
 ⟨some (38,true),some 40,.ld (.t 39),[39,38]⟩ ::
 ⟨some (38,true),some 41,.fa (.t 3) 0,[3,38]⟩ ::
 ⟨some (38,true),some 42,.ld (.t 41),[41,38]⟩ ::
 ⟨some (38,true),some 43,.ar .lss (.t 40) (.t 42),[40,42,38]⟩ ::
 ⟨none,some 44,.pk (.t 38) (.t 43) (.c (.b false)),[38,43]⟩ ::
 ⟨none,some 6,.mv (.t 44),[44]⟩ :: []))
.ret))))
set_option maxRecDepth 100000 in
theorem c166:fnB Tryz.prog 166=some (45,s166,[.t 6]):=by kernel_rfl
theorem next_spec {m:Bool} {h:H} {gl:List V} {g:Gr} {i k:Int} (hw:Wf h) (hg:GrAt h gl g) (hn:g.ev.length≤256):FX m Tryz.prog 240 [.agg gl,.i .i64 i,.i .i64 k] h fun v h'=>v=B (Nxt g i k)∧Kp h h':=by
 have hone:=hg.one
 obtain⟨ve,vrf,vco,vrmw,vad,vda,vct,rfl,he,-⟩:=hg.is
 refine Fn.env c240 rfl ?_
 unfold s240
 refine Es.seq (Es.region (ew_bx (hz:=hone) fun b h1 ob k1=>?_))
 have hw1:=k1.wf hw
 have hB:=ob.bx
 have hg1:=hg.kp k1 hw
 obtain⟨hL,hC⟩:=he.kp k1 hw
 refine go ?_
 refine stC (before_spec (i:=i) (k:=k) hw1 hg1) fun v h2 hR=>?_
 obtain⟨rfl,k2⟩:=hR
 have hk:=k1.trans k2
 have hB:=hB.kp k2 hw1
 have hC:=hC.kp k2 hw1
 refine go ?_
 refine cN (fun hb=>?_) (fun hb=>?_)
 ·skip
  refine go ?_
  exact ret_1 ⟨B_f fun hh=>hb hh.1,hk⟩
 have hb2:=hb
 obtain⟨h0,hlt,hlen,-,-⟩:=hb2
 obtain⟨a,rfl⟩:=Int.eq_ofNat_of_zero_le h0
 refine go ?_
 refine Es.loop (X:=Nat) (fun x=>k.toNat-x) (fun x=>[(1,.i .i64 (a:Int)),(2,.i .i64 k),(3,.p b 0),(7,.i .i64 (x:Int))]) (fun x h=>(x:Int)≤k∧a<x∧h=h2∧∀j:Nat,a<j→j<x→(gt g.ev j).thread≠(gt g.ev a).thread) (a+1) ⟨rfl,rfl,rfl,rfl,trivial⟩ ⟨by omega,by omega,rfl,fun j h1 h2=>by omega⟩ fun x h3 hx=>?_
 obtain⟨hx1,hx2,rfl,hx3⟩:=hx
 refine go ?_
 refine cD (fun hlt2=>?_) (fun hge=>?_)
 ·skip
  refine go ?_
  refine cD (fun heq=>?_) (fun hne=>?_)
  ·skip
   refine go ?_
   exact ret_1 ⟨B_f fun hh=>hh.2 x (by omega) hlt2 (by simpa using heq),hk⟩
  ·skip
   refine go ?_
   exact Nx.inv (x+1) (by omega) ⟨rfl,rfl,rfl,rfl,trivial⟩ ⟨by omega,by omega,rfl,fun j h1 h2=>by
    by_cases e:j=x
    ·subst e;simpa using hne
    ·exact hx3 j h1 (by omega)⟩
 ·skip
  refine go ?_
  exact ret_1 ⟨B_t ⟨hb,fun j h1 h2=>by simpa using hx3 j (by omega) (by omega)⟩,hk⟩
set_option maxHeartbeats 0 in
theorem event_spec {m:Bool} {h:H} {gl:List V} {g:Gr} {x:Ev_} {w:Bool} (hw:Wf h) (hg:GrAt h gl g):FX m Tryz.prog 166 [.agg gl,.agg (upto (ecell x) 5 0),.b w] h fun v h'=>v=B (EvOk g.cells x w)∧Kp h h':=by
 have hone:=hg.one
 obtain⟨ve,vrf,vco,vrmw,vad,vda,vct,rfl,he,-⟩:=hg.is
 refine Fn.env c166 rfl ?_
 unfold s166
 refine Es.seq (Es.region (ew_bx (hz:=hone) fun b h1 ob k1=>?_))
 refine ew_bx fun b2 h2 ob2 k2=>?_
 have hB:=ob.bx.kp k2 (k1.wf hw)
 have hB2:=ob2.bx
 have k3:=k1.trans k2
 have hw3:=k3.wf hw
 clear hg he hone k1 k2
 refine go ?_
 repeat' ((first | refine wgd (fun _=>?_) fun _=>?_ | refine wgn (fun _=>?_) fun _=>?_ | refine wgb (fun _=>?_) fun _=>?_ | refine mgd (fun _=>?_) fun _=>?_ | refine mgn (fun _=>?_) fun _=>?_ | refine mgb (fun _=>?_) fun _=>?_ | refine cD (fun _=>?_) fun _=>?_ | refine cN (fun _=>?_) fun _=>?_ | refine cB (fun _=>?_) fun _=>?_) <;> refine go ?_)
 all_goals try (refine ret_1 ⟨B_f (by unfold EvOk;omega),by assumption⟩)
 refine stC mode_spec fun v h3 hR=>?_
 obtain⟨rfl,k4⟩:=hR
 have hk:=k3.trans k4
 have hB:=hB.kp k4 hw3
 have hB2:=hB2.kp k4 hw3
 refine go ?_
 repeat' ((first | refine wgd (fun _=>?_) fun _=>?_ | refine wgn (fun _=>?_) fun _=>?_ | refine wgb (fun _=>?_) fun _=>?_ | refine mgd (fun _=>?_) fun _=>?_ | refine mgn (fun _=>?_) fun _=>?_ | refine mgb (fun _=>?_) fun _=>?_ | refine cD (fun _=>?_) fun _=>?_ | refine cN (fun _=>?_) fun _=>?_ | refine cB (fun _=>?_) fun _=>?_) <;> refine go ?_)
 all_goals refine ret_1 ⟨?_,by assumption⟩
 all_goals first
  | exact B_t ⟨by omega,by omega,by assumption,by omega⟩
  | exact B_f (fun hh=>by obtain⟨-,-,c,d⟩:=hh;first | exact absurd c (by assumption) | omega)
  | exact B_d ⟨fun _=>⟨by omega,by omega,by assumption,by omega⟩,fun hh=>by obtain⟨-,-,-,d⟩:=hh;omega⟩
def s170:Sc:=(.seq (.region (
 ⟨none,some 3,.bx 26 (.t 0),[0]⟩ ::
 ⟨none,some 6,.mv (.c (.i .i64 0)),[]⟩ :: []))
(.seq (.seq (.region (
 ⟨none,some 7,.mv (.c (.i .i64 0)),[]⟩ :: []))
(.block 0 (.loop (.seq (.seq (.region (
 ⟨none,some 10,.mv (.t 7),[7]⟩ ::
 ⟨none,some 11,.mv (.t 1),[1]⟩ ::
 ⟨none,some 12,.len (.t 11),[11]⟩ ::
 ⟨none,some 13,.ar .lss (.t 10) (.t 12),[10,12]⟩ :: []))
(.cond (.t 13) .skip
 (.exit 0)))
(.seq (.block 1 (.seq (.region (
 ⟨none,some 16,.mv (.t 1),[1]⟩ ::
 ⟨none,some 17,.mv (.t 7),[7]⟩ ::
 ⟨none,some 18,.ia (.t 16) (.t 17) 2,[16,17]⟩ ::
 ⟨none,some 19,.lds (.t 18) 2,[18]⟩ ::
 ⟨none,some 8,.al 39 [(.i .i64 0),(.i .i64 0)],[]⟩ ::
 ⟨none,none,.st (.t 8) (.t 19) 2,[8,19]⟩ :: []))
(.seq (.seq (.mix (
 (⟨none,some 20,.mv (.t 7),[7]⟩,.q [none]) ::
 (⟨none,some 21,.ar .gtr (.t 20) (.c (.i .i64 0)),[20]⟩,.q [none]) ::
 (⟨none,some 22,.mv (.t 21),[21]⟩,.q [none]) ::
 (⟨some (22,true),some 23,.fa (.t 8) 0,[8,22]⟩,.q [none]) ::
 (⟨some (22,true),some 24,.ld (.t 23),[23,22]⟩,.q [none]) ::
 (⟨some (22,true),some 25,.mv (.t 1),[1,22]⟩,.q [none]) ::
 (⟨some (22,true),some 26,.mv (.t 7),[7,22]⟩,.q [none]) ::
 (⟨some (22,true),some 27,.ar .sub (.t 26) (.c (.i .i64 1)),[26,22]⟩,.q [none]) ::
 (⟨some (22,true),some 28,.ia (.t 25) (.t 27) 2,[25,27,22]⟩,.q [none]) ::
 (⟨some (22,true),some 29,.fa (.t 28) 0,[28,22]⟩,.q [none]) ::
 (⟨some (22,true),some 30,.ld (.t 29),[29,22]⟩,.q [none]) ::
 (⟨some (22,true),some 31,.ar .lss (.t 24) (.t 30),[24,30,22]⟩,.q [none]) ::
 (⟨some (22,true),some 32,.mv (.t 31),[31,22]⟩,.q [none]) ::
 (⟨some (32,false),some 33,.fa (.t 8) 0,[8,32]⟩,.q [none]) ::
 (⟨some (32,false),some 34,.ld (.t 33),[33,32]⟩,.q [none]) ::
 (⟨some (32,false),some 35,.mv (.t 1),[1,32]⟩,.q [none]) ::
 (⟨some (32,false),some 36,.mv (.t 7),[7,32]⟩,.q [none]) ::
 (⟨some (32,false),some 37,.ar .sub (.t 36) (.c (.i .i64 1)),[36,32]⟩,.q [none]) ::
 (⟨some (32,false),some 38,.ia (.t 35) (.t 37) 2,[35,37,32]⟩,.q [none]) ::
 (⟨some (32,false),some 39,.fa (.t 38) 0,[38,32]⟩,.q [none]) ::
 (⟨some (32,false),some 40,.ld (.t 39),[39,32]⟩,.q [none]) ::
 (⟨some (32,false),some 41,.eq .int false (.t 34) (.t 40),[34,40,32]⟩,.q [none]) ::
 (⟨some (32,false),some 42,.mv (.t 41),[41,32]⟩,.q [none]) ::
 (⟨some (42,true),some 43,.fa (.t 8) 1,[8,42]⟩,.q [none]) ::
 (⟨some (42,true),some 44,.ld (.t 43),[43,42]⟩,.q [none]) ::
 (⟨some (42,true),some 45,.mv (.t 1),[1,42]⟩,.q [none]) ::
 (⟨some (42,true),some 46,.mv (.t 7),[7,42]⟩,.q [none]) ::
 (⟨some (42,true),some 47,.ar .sub (.t 46) (.c (.i .i64 1)),[46,42]⟩,.q [none]) ::
 (⟨some (42,true),some 48,.ia (.t 45) (.t 47) 2,[45,47,42]⟩,.q [none]) ::
 (⟨some (42,true),some 49,.fa (.t 48) 1,[48,42]⟩,.q [none]) ::
 (⟨some (42,true),some 50,.ld (.t 49),[49,42]⟩,.q [none]) ::
 (⟨some (42,true),some 51,.ar .leq (.t 44) (.t 50),[44,50,42]⟩,.q [none]) ::
 (⟨some (32,false),some 52,.pk (.t 42) (.t 51) (.c (.b false)),[42,51,32]⟩,.q [none]) ::
 (⟨some (22,true),some 53,.pk (.t 32) (.c (.b true)) (.t 52),[32,52,22]⟩,.q [none]) ::
 (⟨none,some 54,.pk (.t 22) (.t 53) (.c (.b false)),[22,53]⟩,.q [none]) ::
 (⟨none,some 55,.mv (.t 54),[54]⟩,.q [none]) ::
 (⟨some (55,false),some 56,.lds (.t 3) 8,[3,55]⟩,.q [none]) ::
 (⟨some (55,false),some 57,.fa (.t 8) 0,[8,55]⟩,.q [none]) ::
 (⟨some (55,false),some 58,.ld (.t 57),[57,55]⟩,.q [none]) ::
 (⟨some (55,false),some 59,.call 239 [(.t 56),(.t 58),(.c (.i .i64 1))],[56,58,55]⟩,.e) ::
 (⟨some (55,false),some 60,.nt (.t 59),[59,55]⟩,.q [(some 39)]) ::
 (⟨none,some 61,.pk (.t 55) (.c (.b true)) (.t 60),[55,60]⟩,.q [(some 39)]) ::
 (⟨none,some 62,.mv (.t 61),[61]⟩,.q [(some 39)]) ::
 (⟨some (62,false),some 63,.lds (.t 3) 8,[3,62]⟩,.q [(some 39)]) ::
 (⟨some (62,false),some 64,.fa (.t 8) 0,[8,62]⟩,.q [(some 39)]) ::
 (⟨some (62,false),some 65,.ld (.t 64),[64,62]⟩,.q [(some 39)]) ::
 (⟨some (62,false),some 66,.fa (.t 8) 1,[8,62]⟩,.q [(some 39)]) ::
 (⟨some (62,false),some 67,.ld (.t 66),[66,62]⟩,.q [(some 39)]) ::
 (⟨some (62,false),some 68,.call 193 [(.t 63),(.t 65),(.t 67)],[63,65,67,62]⟩,.e) ::
 (⟨some (62,false),some 69,.nt (.t 68),[68,62]⟩,.q [(some 48)]) ::
 (⟨none,some 70,.pk (.t 62) (.c (.b true)) (.t 69),[62,69]⟩,.q [(some 48)]) :: []))
(.cond (.t 70) (.seq (.region (
 ⟨none,some 71,.mv (.t 7),[7]⟩ ::
 ⟨none,some 6,.mv (.t 71),[71]⟩ :: []))
.ret)
 .skip))
(.seq (.region (
 ⟨none,some 72,.fa (.t 3) 1,[3]⟩ ::
 ⟨none,some 73,.ld (.t 72),[72]⟩ ::
 ⟨none,some 74,.fa (.t 8) 1,[8]⟩ ::
 ⟨none,some 75,.ld (.t 74),[74]⟩ ::
 ⟨none,some 76,.ia (.t 73) (.t 75) 5,[73,75]⟩ ::
 ⟨none,some 77,.fa (.t 76) 1,[76]⟩ ::
 ⟨none,some 78,.ld (.t 77),[77]⟩ ::
 ⟨none,some 9,.mv (.t 78),[78]⟩ :: []))
(.seq (.region (
 ⟨none,some 79,.mv (.t 2),[2]⟩ ::
 ⟨none,some 80,.eq .int false (.t 79) (.c (.i .i64 7)),[79]⟩ ::
 ⟨none,some 81,.mv (.t 80),[80]⟩ ::
 ⟨some (81,true),some 82,.mv (.t 9),[9,81]⟩ ::
 ⟨some (81,true),some 83,.eq .int false (.t 82) (.c (.i .i64 3)),[82,81]⟩ ::
 ⟨none,some 84,.pk (.t 81) (.t 83) (.c (.b false)),[81,83]⟩ ::
 ⟨none,some 85,.mv (.t 84),[84]⟩ ::
 ⟨some (85,false),some 86,.mv (.t 2),[2,85]⟩ ::
 ⟨some (85,false),some 87,.eq .int false (.t 86) (.c (.i .i64 8)),[86,85]⟩ ::
 ⟨some (85,false),some 88,.mv (.t 87),[87,85]⟩ ::
 ⟨some (88,true),some 89,.mv (.t 9),[9,88]⟩ ::
 ⟨some (88,true),some 90,.eq .int true (.t 89) (.c (.i .i64 2)),[89,88]⟩ ::
 ⟨some (85,false),some 91,.pk (.t 88) (.t 90) (.c (.b false)),[88,90,85]⟩ ::
 ⟨none,some 92,.pk (.t 85) (.c (.b true)) (.t 91),[85,91]⟩ :: []))
(.cond (.t 92) (.seq (.region (
 ⟨none,some 93,.mv (.t 7),[7]⟩ ::
 ⟨none,some 6,.mv (.t 93),[93]⟩ :: []))
.ret)
 .skip))))))
(.region (
 ⟨none,some 14,.mv (.t 7),[7]⟩ ::
 ⟨none,some 15,.ar .add (.t 14) (.c (.i .i64 1)),[14]⟩ ::
 ⟨none,some 7,.mv (.t 15),[15]⟩ :: [])))))))
(.seq (.region (
 ⟨none,some 6,.mv (.c (.i .i64 (-1))),[]⟩ :: []))
.ret)))
set_option maxRecDepth 100000 in
theorem c170:fnB Tryz.prog 170=some (94,s170,[.t 6]):=by kernel_rfl
set_option maxHeartbeats 0 in
theorem deps_spec {m:Bool} {h:H} {gl:List V} {g:Gr} {v:V} {l:List (Int × Int)} {w:Int} (hw:Wf h) (hg:GrAt h gl g) (hl:Ro h v 2 pcell l) (hn:l.length≤100000000):FX m Tryz.prog 170 [.agg gl,v,.i .i64 w] h fun v h'=>Iv v (DepOk g l w)∧Kp h h':=by
 have hone:=hg.one
 obtain⟨ve,vrf,vco,vrmw,vad,vda,vct,rfl,he,-⟩:=hg.is
 refine Fn.env c170 rfl ?_
 unfold s170
 refine Es.seq (Es.region (ew_bx (hz:=hone) fun b h1 ob k1=>?_))
 have hw1:=k1.wf hw
 have hB1:=ob.bx
 have hg1:=hg.kp k1 hw
 obtain⟨hL,hC1⟩:=he.kp k1 hw
 obtain⟨hL2,hD1⟩:=hl.kp k1 hw
 clear hg he hl hone
 refine go ?_
 refine Es.loop (X:=Nat) (fun x=>l.length-x) (fun x=>[(1,v),(2,.i .i64 w),(3,.p b 0),(7,.i .i64 (x:Int))]) (fun x h=>x≤l.length∧Kp h1 h∧∀i,i<x→DepAt g l w i) 0 ⟨rfl,rfl,rfl,rfl,trivial⟩ ⟨Nat.zero_le _,.refl _,fun r hr=>absurd hr (Nat.not_lt_zero _)⟩ fun i h2 hx=>?_
 obtain⟨hi,k2,hI⟩:=hx
 have hw2:=k2.wf hw1
 have hB:=hB1.kp k2 hw1
 have hD:=hD1.kp k2 hw1
 have hkp:=k1.trans k2
 refine go ?_
 refine cD (fun hlt=>?_) (fun hge=>?_)
 ·skip
  refine go ?_
  refine ewN ⟨?_⟩
  refine ew_al fun b5 h3 ob5 k3=>?_
  refine ew_st ob5 fun h4 ob6 m4=>?_
  have k4:Kp h2 h4:=m4.kp k3 fun j hj=>by injection hj with hj;subst hj;exact ob5.lo
  have hw4:=k4.wf hw2
  have hB5:=ob6.bx
  have hB:=hB.kp k4 hw2
  have hC:=(hC1.kp k2 hw1).kp k4 hw2
  have hD:=hD.kp k4 hw2
  have hg4:=hg1.kp (k2.trans k4) hw1
  have k24:=k2.trans k4
  have hkp:=hkp.trans k4
  clear k4 m4 k3 ob6 ob5
  have e1:((i:Int)-1).toNat=i-1:=by omega
  refine go ?_
  repeat' ((first | refine wgd (fun _=>?_) fun _=>?_ | refine wgn (fun _=>?_) fun _=>?_ | refine wgb (fun _=>?_) fun _=>?_ | refine mgd (fun _=>?_) fun _=>?_ | refine mgn (fun _=>?_) fun _=>?_ | refine mgb (fun _=>?_) fun _=>?_ | refine cD (fun _=>?_) fun _=>?_ | refine cN (fun _=>?_) fun _=>?_ | refine cB (fun _=>?_) fun _=>?_) <;> refine go ?_)
  all_goals try exact ret_1 ⟨.y fun hok=>by have h9:=(hok i (by omega)).1;simp only[e1]at *;omega,hkp⟩
  all_goals
   refine mC (is_spec hw4 hg4) fun v h5 hR=>⟨.nil,?_⟩
   obtain⟨rfl,k5⟩:=hR
   have hw5:=k5.wf hw4
   have hB5:=hB5.kp k5 hw4
   have hB:=hB.kp k5 hw4
   have hC:=hC.kp k5 hw4
   have hg5:=hg4.kp k5 hw4
   have k25:=k24.trans k5
   have hkp:=hkp.trans k5
   clear k5 k24 hg4
   refine go ?_
   repeat' ((first | refine wgd (fun _=>?_) fun _=>?_ | refine wgn (fun _=>?_) fun _=>?_ | refine wgb (fun _=>?_) fun _=>?_ | refine mgd (fun _=>?_) fun _=>?_ | refine mgn (fun _=>?_) fun _=>?_ | refine mgb (fun _=>?_) fun _=>?_ | refine cD (fun _=>?_) fun _=>?_ | refine cN (fun _=>?_) fun _=>?_ | refine cB (fun _=>?_) fun _=>?_) <;> refine go ?_)
   ·exact ret_1 ⟨.y fun hok=>absurd (hok i (by omega)).2.1 (by assumption),hkp⟩
   refine mC (before_spec hw5 hg5) fun v h6 hR=>⟨.nil,?_⟩
   obtain⟨rfl,k6⟩:=hR
   have hw6:=k6.wf hw5
   have hB5:=hB5.kp k6 hw5
   have hB:=hB.kp k6 hw5
   have hC:=hC.kp k6 hw5
   have k26:=k25.trans k6
   have hkp:=hkp.trans k6
   clear k6 k25 hg5
   by_cases hBf:Bef g (gt l i).1 (gt l i).2
   case neg =>
    have hBf':=hBf
    refine go ?_
    repeat' ((first | refine wgd (fun _=>?_) fun _=>?_ | refine wgn (fun _=>?_) fun _=>?_ | refine wgb (fun _=>?_) fun _=>?_ | refine mgd (fun _=>?_) fun _=>?_ | refine mgn (fun _=>?_) fun _=>?_ | refine mgb (fun _=>?_) fun _=>?_ | refine cD (fun _=>?_) fun _=>?_ | refine cN (fun _=>?_) fun _=>?_ | refine cB (fun _=>?_) fun _=>?_) <;> refine go ?_)
    all_goals first
     | exact ret_1 ⟨.y fun hok=>absurd (hok i (by omega)).2.2.1 hBf,hkp⟩
     | exact absurd (by assumption) hBf'
   have hBf2:=hBf
   unfold Bef at hBf2
   refine go ?_
   repeat' ((first | refine wgd (fun _=>?_) fun _=>?_ | refine wgn (fun _=>?_) fun _=>?_ | refine wgb (fun _=>?_) fun _=>?_ | refine mgd (fun _=>?_) fun _=>?_ | refine mgn (fun _=>?_) fun _=>?_ | refine mgb (fun _=>?_) fun _=>?_ | refine cD (fun _=>?_) fun _=>?_ | refine cN (fun _=>?_) fun _=>?_ | refine cB (fun _=>?_) fun _=>?_) <;> refine go ?_)
   all_goals first
    | exact absurd hBf (by assumption)
    | exact ret_1 ⟨.y fun hok=>by obtain⟨-,-,-,h7,h8⟩:=hok i (by omega);omega,hkp⟩
    | exact Nx.inv (i+1) (by omega) ⟨rfl,rfl,rfl,rfl,trivial⟩ ⟨by omega,k26,fun i' h3=>by
      rcases Nat.lt_succ_iff_lt_or_eq.1 h3 with h4 | h4
      ·exact hI i' h4
      ·subst h4;exact⟨fun _=>by simp only[e1]at *;omega,by assumption,hBf,fun _=>by omega,fun _=>by omega⟩⟩
 ·have hin:i=l.length:=by omega
  subst hin
  refine go ?_
  exact ret_1 ⟨.n hI,hkp⟩
def s169:Sc:=(.seq (.region (
 ⟨none,some 1,.bx 26 (.t 0),[0]⟩ ::
 ⟨none,some 2,.mv (.c (.i .i64 0)),[]⟩ :: []))
(.seq (.seq (.region (
 ⟨none,some 3,.mv (.c (.i .i64 0)),[]⟩ :: []))
(.block 0 (.loop (.seq (.seq (.region (
 ⟨none,some 5,.mv (.t 3),[3]⟩ ::
 ⟨none,some 6,.fa (.t 1) 4,[1]⟩ ::
 ⟨none,some 7,.ld (.t 6),[6]⟩ ::
 ⟨none,some 8,.len (.t 7),[7]⟩ ::
 ⟨none,some 9,.ar .lss (.t 5) (.t 8),[5,8]⟩ :: []))
(.cond (.t 9) .skip
 (.exit 0)))
(.seq (.block 1 (.seq (.region (
 ⟨none,some 12,.fa (.t 1) 4,[1]⟩ ::
 ⟨none,some 13,.ld (.t 12),[12]⟩ ::
 ⟨none,some 14,.mv (.t 3),[3]⟩ ::
 ⟨none,some 15,.ia (.t 13) (.t 14) 2,[13,14]⟩ ::
 ⟨none,some 16,.lds (.t 15) 2,[15]⟩ ::
 ⟨none,some 4,.al 39 [(.i .i64 0),(.i .i64 0)],[]⟩ ::
 ⟨none,none,.st (.t 4) (.t 16) 2,[4,16]⟩ :: []))
(.seq (.mix (
 (⟨none,some 17,.mv (.t 3),[3]⟩,.q [none]) ::
 (⟨none,some 18,.ar .gtr (.t 17) (.c (.i .i64 0)),[17]⟩,.q [none]) ::
 (⟨none,some 19,.mv (.t 18),[18]⟩,.q [none]) ::
 (⟨some (19,true),some 20,.fa (.t 4) 0,[4,19]⟩,.q [none]) ::
 (⟨some (19,true),some 21,.ld (.t 20),[20,19]⟩,.q [none]) ::
 (⟨some (19,true),some 22,.fa (.t 1) 4,[1,19]⟩,.q [none]) ::
 (⟨some (19,true),some 23,.ld (.t 22),[22,19]⟩,.q [none]) ::
 (⟨some (19,true),some 24,.mv (.t 3),[3,19]⟩,.q [none]) ::
 (⟨some (19,true),some 25,.ar .sub (.t 24) (.c (.i .i64 1)),[24,19]⟩,.q [none]) ::
 (⟨some (19,true),some 26,.ia (.t 23) (.t 25) 2,[23,25,19]⟩,.q [none]) ::
 (⟨some (19,true),some 27,.fa (.t 26) 0,[26,19]⟩,.q [none]) ::
 (⟨some (19,true),some 28,.ld (.t 27),[27,19]⟩,.q [none]) ::
 (⟨some (19,true),some 29,.ar .leq (.t 21) (.t 28),[21,28,19]⟩,.q [none]) ::
 (⟨none,some 30,.pk (.t 19) (.t 29) (.c (.b false)),[19,29]⟩,.q [none]) ::
 (⟨none,some 31,.mv (.t 30),[30]⟩,.q [none]) ::
 (⟨some (31,false),some 32,.lds (.t 1) 8,[1,31]⟩,.q [none]) ::
 (⟨some (31,false),some 33,.fa (.t 4) 0,[4,31]⟩,.q [none]) ::
 (⟨some (31,false),some 34,.ld (.t 33),[33,31]⟩,.q [none]) ::
 (⟨some (31,false),some 35,.call 239 [(.t 32),(.t 34),(.c (.i .i64 1))],[32,34,31]⟩,.e) ::
 (⟨some (31,false),some 36,.nt (.t 35),[35,31]⟩,.q [(some 18)]) ::
 (⟨none,some 37,.pk (.t 31) (.c (.b true)) (.t 36),[31,36]⟩,.q [(some 18)]) ::
 (⟨none,some 38,.mv (.t 37),[37]⟩,.q [(some 18)]) ::
 (⟨some (38,false),some 39,.lds (.t 1) 8,[1,38]⟩,.q [(some 18)]) ::
 (⟨some (38,false),some 40,.fa (.t 4) 1,[4,38]⟩,.q [(some 18)]) ::
 (⟨some (38,false),some 41,.ld (.t 40),[40,38]⟩,.q [(some 18)]) ::
 (⟨some (38,false),some 42,.call 239 [(.t 39),(.t 41),(.c (.i .i64 2))],[39,41,38]⟩,.e) ::
 (⟨some (38,false),some 43,.nt (.t 42),[42,38]⟩,.q [(some 25)]) ::
 (⟨none,some 44,.pk (.t 38) (.c (.b true)) (.t 43),[38,43]⟩,.q [(some 25)]) ::
 (⟨none,some 45,.mv (.t 44),[44]⟩,.q [(some 25)]) ::
 (⟨some (45,false),some 46,.lds (.t 1) 8,[1,45]⟩,.q [(some 25)]) ::
 (⟨some (45,false),some 47,.fa (.t 4) 0,[4,45]⟩,.q [(some 25)]) ::
 (⟨some (45,false),some 48,.ld (.t 47),[47,45]⟩,.q [(some 25)]) ::
 (⟨some (45,false),some 49,.fa (.t 4) 1,[4,45]⟩,.q [(some 25)]) ::
 (⟨some (45,false),some 50,.ld (.t 49),[49,45]⟩,.q [(some 25)]) ::
 (⟨some (45,false),some 51,.call 240 [(.t 46),(.t 48),(.t 50)],[46,48,50,45]⟩,.e) ::
 (⟨some (45,false),some 52,.nt (.t 51),[51,45]⟩,.q [(some 34)]) ::
 (⟨none,some 53,.pk (.t 45) (.c (.b true)) (.t 52),[45,52]⟩,.q [(some 34)]) ::
 (⟨none,some 54,.mv (.t 53),[53]⟩,.q [(some 34)]) ::
 (⟨some (54,false),some 55,.fa (.t 1) 1,[1,54]⟩,.q [(some 34)]) ::
 (⟨some (54,false),some 56,.ld (.t 55),[55,54]⟩,.q [(some 34)]) ::
 (⟨some (54,false),some 57,.fa (.t 4) 0,[4,54]⟩,.q [(some 34)]) ::
 (⟨some (54,false),some 58,.ld (.t 57),[57,54]⟩,.q [(some 34)]) ::
 (⟨some (54,false),some 59,.ia (.t 56) (.t 58) 5,[56,58,54]⟩,.q [(some 34)]) ::
 (⟨some (54,false),some 60,.fa (.t 59) 2,[59,54]⟩,.q [(some 34)]) ::
 (⟨some (54,false),some 61,.ld (.t 60),[60,54]⟩,.q [(some 34)]) ::
 (⟨some (54,false),some 62,.fa (.t 1) 1,[1,54]⟩,.q [(some 34)]) ::
 (⟨some (54,false),some 63,.ld (.t 62),[62,54]⟩,.q [(some 34)]) ::
 (⟨some (54,false),some 64,.fa (.t 4) 1,[4,54]⟩,.q [(some 34)]) ::
 (⟨some (54,false),some 65,.ld (.t 64),[64,54]⟩,.q [(some 34)]) ::
 (⟨some (54,false),some 66,.ia (.t 63) (.t 65) 5,[63,65,54]⟩,.q [(some 34)]) ::
 (⟨some (54,false),some 67,.fa (.t 66) 2,[66,54]⟩,.q [(some 34)]) ::
 (⟨some (54,false),some 68,.ld (.t 67),[67,54]⟩,.q [(some 34)]) ::
 (⟨some (54,false),some 69,.eq .int true (.t 61) (.t 68),[61,68,54]⟩,.q [(some 34)]) ::
 (⟨none,some 70,.pk (.t 54) (.c (.b true)) (.t 69),[54,69]⟩,.q [(some 34)]) :: []))
(.cond (.t 70) (.seq (.region (
 ⟨none,some 71,.mv (.t 3),[3]⟩ ::
 ⟨none,some 2,.mv (.t 71),[71]⟩ :: []))
.ret)
 .skip))))
(.region (
 ⟨none,some 10,.mv (.t 3),[3]⟩ ::
 ⟨none,some 11,.ar .add (.t 10) (.c (.i .i64 1)),[10]⟩ ::
 ⟨none,some 3,.mv (.t 11),[11]⟩ :: [])))))))
(.seq (.region (
 ⟨none,some 2,.mv (.c (.i .i64 (-1))),[]⟩ :: []))
.ret)))
set_option maxRecDepth 100000 in
theorem c169:fnB Tryz.prog 169=some (72,s169,[.t 2]):=by kernel_rfl
set_option maxHeartbeats 0 in
theorem rmw_spec {m:Bool} {h:H} {gl:List V} {g:Gr} (hw:Wf h) (hg:GrAt h gl g) (hn:g.ev.length≤256) (hnr:g.rmw.length≤100000000):FX m Tryz.prog 169 [.agg gl] h fun v h'=>Iv v (RmwOk g)∧Kp h h':=by
 have hone:=hg.one
 obtain⟨ve,vrf,vco,vrmw,vad,vda,vct,rfl,he,-,-,hl,-⟩:=hg.is
 refine Fn.env c169 rfl ?_
 unfold s169
 refine Es.seq (Es.region (ew_bx (hz:=hone) fun b h1 ob k1=>?_))
 have hw1:=k1.wf hw
 have hB1:=ob.bx
 have hg1:=hg.kp k1 hw
 obtain⟨hL,hC1⟩:=he.kp k1 hw
 obtain⟨hL2,hD1⟩:=hl.kp k1 hw
 clear hg he hl hone
 refine go ?_
 refine Es.loop (X:=Nat) (fun x=>g.rmw.length-x) (fun x=>[(1,.p b 0),(3,.i .i64 (x:Int))]) (fun x h=>x≤g.rmw.length∧Kp h1 h∧∀i,i<x→RmwAt g i) 0 ⟨rfl,rfl,trivial⟩ ⟨Nat.zero_le _,.refl _,fun r hr=>absurd hr (Nat.not_lt_zero _)⟩ fun i h2 hx=>?_
 obtain⟨hi,k2,hI⟩:=hx
 have hw2:=k2.wf hw1
 have hB:=hB1.kp k2 hw1
 have hD:=hD1.kp k2 hw1
 have hkp:=k1.trans k2
 refine go ?_
 refine cD (fun hlt=>?_) (fun hge=>?_)
 ·skip
  refine go ?_
  refine ewN ⟨?_⟩
  refine ew_al fun b5 h3 ob5 k3=>?_
  refine ew_st ob5 fun h4 ob6 m4=>?_
  have k4:Kp h2 h4:=m4.kp k3 fun j hj=>by injection hj with hj;subst hj;exact ob5.lo
  have hw4:=k4.wf hw2
  have hB5:=ob6.bx
  have hB:=hB.kp k4 hw2
  have hC:=(hC1.kp k2 hw1).kp k4 hw2
  have hD:=hD.kp k4 hw2
  have hg4:=hg1.kp (k2.trans k4) hw1
  have k24:=k2.trans k4
  have hkp:=hkp.trans k4
  clear k4 m4 k3 ob6 ob5
  have e1:((i:Int)-1).toNat=i-1:=by omega
  refine go ?_
  repeat' ((first | refine wgd (fun _=>?_) fun _=>?_ | refine wgn (fun _=>?_) fun _=>?_ | refine wgb (fun _=>?_) fun _=>?_ | refine mgd (fun _=>?_) fun _=>?_ | refine mgn (fun _=>?_) fun _=>?_ | refine mgb (fun _=>?_) fun _=>?_ | refine cD (fun _=>?_) fun _=>?_ | refine cN (fun _=>?_) fun _=>?_ | refine cB (fun _=>?_) fun _=>?_) <;> refine go ?_)
  all_goals try exact ret_1 ⟨.y fun hok=>by have h9:=(hok i (by omega)).1;simp only[e1]at *;omega,hkp⟩
  all_goals
   refine mC (is_spec hw4 hg4) fun v h5 hR=>⟨.nil,?_⟩
   obtain⟨rfl,k5⟩:=hR
   have hw5:=k5.wf hw4
   have hB5:=hB5.kp k5 hw4
   have hB:=hB.kp k5 hw4
   have hC:=hC.kp k5 hw4
   have hg5:=hg4.kp k5 hw4
   have k25:=k24.trans k5
   have hkp:=hkp.trans k5
   clear k5 k24 hg4
   refine go ?_
   repeat' ((first | refine wgd (fun _=>?_) fun _=>?_ | refine wgn (fun _=>?_) fun _=>?_ | refine wgb (fun _=>?_) fun _=>?_ | refine mgd (fun _=>?_) fun _=>?_ | refine mgn (fun _=>?_) fun _=>?_ | refine mgb (fun _=>?_) fun _=>?_ | refine cD (fun _=>?_) fun _=>?_ | refine cN (fun _=>?_) fun _=>?_ | refine cB (fun _=>?_) fun _=>?_) <;> refine go ?_)
   ·exact ret_1 ⟨.y fun hok=>absurd (hok i (by omega)).2.1 (by assumption),hkp⟩
   refine mC (is_spec hw5 hg5) fun v h6 hR=>⟨.nil,?_⟩
   obtain⟨rfl,k6⟩:=hR
   have hw6:=k6.wf hw5
   have hB5:=hB5.kp k6 hw5
   have hB:=hB.kp k6 hw5
   have hC:=hC.kp k6 hw5
   have hg6:=hg5.kp k6 hw5
   have k26:=k25.trans k6
   have hkp:=hkp.trans k6
   clear k6 k25 hg5
   refine go ?_
   repeat' ((first | refine wgd (fun _=>?_) fun _=>?_ | refine wgn (fun _=>?_) fun _=>?_ | refine wgb (fun _=>?_) fun _=>?_ | refine mgd (fun _=>?_) fun _=>?_ | refine mgn (fun _=>?_) fun _=>?_ | refine mgb (fun _=>?_) fun _=>?_ | refine cD (fun _=>?_) fun _=>?_ | refine cN (fun _=>?_) fun _=>?_ | refine cB (fun _=>?_) fun _=>?_) <;> refine go ?_)
   ·exact ret_1 ⟨.y fun hok=>absurd (hok i (by omega)).2.2.1 (by assumption),hkp⟩
   refine mC (next_spec hw6 hg6 hn) fun v h7 hR=>⟨.nil,?_⟩
   obtain⟨rfl,k7⟩:=hR
   have hw7:=k7.wf hw6
   have hB5:=hB5.kp k7 hw6
   have hB:=hB.kp k7 hw6
   have hC:=hC.kp k7 hw6
   have k27:=k26.trans k7
   have hkp:=hkp.trans k7
   clear k7 k26 hg6
   by_cases hBf:Nxt g (gt g.rmw i).1 (gt g.rmw i).2
   case neg =>
    have hBf':=hBf
    refine go ?_
    repeat' ((first | refine wgd (fun _=>?_) fun _=>?_ | refine wgn (fun _=>?_) fun _=>?_ | refine wgb (fun _=>?_) fun _=>?_ | refine mgd (fun _=>?_) fun _=>?_ | refine mgn (fun _=>?_) fun _=>?_ | refine mgb (fun _=>?_) fun _=>?_ | refine cD (fun _=>?_) fun _=>?_ | refine cN (fun _=>?_) fun _=>?_ | refine cB (fun _=>?_) fun _=>?_) <;> refine go ?_)
    all_goals first
     | exact ret_1 ⟨.y fun hok=>absurd (hok i (by omega)).2.2.2.1 hBf,hkp⟩
     | exact absurd (by assumption) hBf'
   have hBf2:=hBf.1
   unfold Bef at hBf2
   refine go ?_
   repeat' ((first | refine wgd (fun _=>?_) fun _=>?_ | refine wgn (fun _=>?_) fun _=>?_ | refine wgb (fun _=>?_) fun _=>?_ | refine mgd (fun _=>?_) fun _=>?_ | refine mgn (fun _=>?_) fun _=>?_ | refine mgb (fun _=>?_) fun _=>?_ | refine cD (fun _=>?_) fun _=>?_ | refine cN (fun _=>?_) fun _=>?_ | refine cB (fun _=>?_) fun _=>?_) <;> refine go ?_)
   all_goals first
    | exact absurd hBf (by assumption)
    | exact ret_1 ⟨.y fun hok=>absurd (hok i (by omega)).2.2.2.2 (by assumption),hkp⟩
    | exact Nx.inv (i+1) (by omega) ⟨rfl,rfl,trivial⟩ ⟨by omega,k27,fun i' h3=>by
      rcases Nat.lt_succ_iff_lt_or_eq.1 h3 with h4 | h4
      ·exact hI i' h4
      ·subst h4;exact⟨fun _=>by simp only[e1]at *;omega,by assumption,by assumption,hBf,by assumption⟩⟩
 ·have hin:i=g.rmw.length:=by omega
  subst hin
  refine go ?_
  exact ret_1 ⟨.n hI,hkp⟩
end Go.Proofs.YtkcdehffcddciaaGreatDoor.Vm
