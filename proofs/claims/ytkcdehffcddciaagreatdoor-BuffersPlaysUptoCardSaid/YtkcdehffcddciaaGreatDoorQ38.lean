/- THE LAW of plays, walked: it answers true. -/
import Derived.Test.YtkcdehffcddciaaGreatDoorQ35
import Derived.Test.YtkcdehffcddciaaGreatDoorQ37
namespace Go.Proofs.YtkcdehffcddciaaGreatDoor.Vm
open Go Go.RowKit
def s3:Sc:=(.seq (.region (
 ⟨none,some 2,.bx 26 (.t 0),[0]⟩ ::
 ⟨none,some 4,.mv (.c (.b false)),[]⟩ :: []))
(.seq (.region (
 ⟨none,some 18,.lds (.t 2) 8,[2]⟩ ::
 ⟨none,some 19,.call 9 [(.t 18)],[18]⟩ ::
 ⟨none,some 5,.al 26 [(.i .i64 0),.ns,.ns,.ns,.ns,.ns,.ns,.ns],[]⟩ ::
 ⟨none,none,.st (.t 5) (.t 19) 8,[5,19]⟩ :: []))
(.seq (.region (
 ⟨none,some 6,.mv (.c .ns),[]⟩ :: []))
(.seq (.region (
 ⟨none,some 20,.mv (.t 6),[6]⟩ ::
 ⟨none,some 21,.mv (.t 1),[1]⟩ ::
 ⟨none,some 22,.ap 3 1 8 (.t 20) (.t 21),[20,21]⟩ ::
 ⟨none,some 6,.mv (.t 22),[22]⟩ :: []))
(.seq (.region (
 ⟨none,some 24,.lds (.t 5) 8,[5]⟩ ::
 ⟨none,some 25,.mv (.t 6),[6]⟩ ::
 ⟨none,some 26,.call 10 [(.t 24),(.t 25)],[24,25]⟩ ::
 ⟨none,some 23,.mv (.t 26),[26]⟩ ::
 ⟨none,some 27,.ex (.t 23) 0,[23]⟩ ::
 ⟨none,some 28,.ex (.t 23) 1,[23]⟩ ::
 ⟨none,some 7,.al 26 [(.i .i64 0),.ns,.ns,.ns,.ns,.ns,.ns,.ns],[]⟩ ::
 ⟨none,none,.st (.t 7) (.t 27) 8,[7,27]⟩ ::
 ⟨none,some 8,.mv (.t 28),[28]⟩ :: []))
(.seq (.region (
 ⟨none,some 30,.lds (.t 5) 8,[5]⟩ ::
 ⟨none,some 31,.mv (.t 6),[6]⟩ ::
 ⟨none,some 32,.call 10 [(.t 30),(.t 31)],[30,31]⟩ ::
 ⟨none,some 29,.mv (.t 32),[32]⟩ ::
 ⟨none,some 33,.ex (.t 29) 0,[29]⟩ ::
 ⟨none,some 34,.ex (.t 29) 1,[29]⟩ ::
 ⟨none,some 9,.al 26 [(.i .i64 0),.ns,.ns,.ns,.ns,.ns,.ns,.ns],[]⟩ ::
 ⟨none,none,.st (.t 9) (.t 33) 8,[9,33]⟩ ::
 ⟨none,some 10,.mv (.t 34),[34]⟩ :: []))
(.seq (.region (
 ⟨none,some 36,.lds (.t 2) 8,[2]⟩ ::
 ⟨none,some 37,.mv (.t 1),[1]⟩ ::
 ⟨none,some 38,.call 11 [(.t 36),(.t 37)],[36,37]⟩ ::
 ⟨none,some 35,.mv (.t 38),[38]⟩ ::
 ⟨none,some 39,.ex (.t 35) 0,[35]⟩ ::
 ⟨none,some 40,.ex (.t 35) 1,[35]⟩ ::
 ⟨none,some 11,.al 26 [(.i .i64 0),.ns,.ns,.ns,.ns,.ns,.ns,.ns],[]⟩ ::
 ⟨none,none,.st (.t 11) (.t 39) 8,[11,39]⟩ ::
 ⟨none,some 12,.mv (.t 40),[40]⟩ :: []))
(.seq (.seq (.region (
 ⟨none,some 41,.mv (.t 8),[8]⟩ ::
 ⟨none,some 42,.mv (.t 12),[12]⟩ ::
 ⟨none,some 43,.eq .int true (.t 41) (.t 42),[41,42]⟩ ::
 ⟨none,some 44,.mv (.t 43),[43]⟩ ::
 ⟨some (44,false),some 45,.mv (.t 10),[10,44]⟩ ::
 ⟨some (44,false),some 46,.mv (.t 12),[12,44]⟩ ::
 ⟨some (44,false),some 47,.eq .int true (.t 45) (.t 46),[45,46,44]⟩ ::
 ⟨none,some 48,.pk (.t 44) (.c (.b true)) (.t 47),[44,47]⟩ ::
 ⟨none,some 49,.mv (.t 48),[48]⟩ ::
 ⟨some (49,false),some 50,.lds (.t 7) 8,[7,49]⟩ ::
 ⟨some (49,false),some 51,.lds (.t 11) 8,[11,49]⟩ ::
 ⟨some (49,false),some 52,.call 12 [(.t 50),(.t 51)],[50,51,49]⟩ ::
 ⟨some (49,false),some 53,.nt (.t 52),[52,49]⟩ ::
 ⟨none,some 54,.pk (.t 49) (.c (.b true)) (.t 53),[49,53]⟩ :: []))
(.cond (.t 54) (.seq (.region (
 ⟨none,some 4,.mv (.c (.b false)),[]⟩ :: []))
.ret)
 .skip))
(.seq (.seq (.region (
 ⟨none,some 13,.mv (.c (.i .i64 0)),[]⟩ :: []))
(.block 0 (.loop (.seq (.seq (.region (
 ⟨none,some 55,.mv (.t 13),[13]⟩ ::
 ⟨none,some 56,.fa (.t 7) 1,[7]⟩ ::
 ⟨none,some 57,.ld (.t 56),[56]⟩ ::
 ⟨none,some 58,.len (.t 57),[57]⟩ ::
 ⟨none,some 59,.ar .lss (.t 55) (.t 58),[55,58]⟩ :: []))
(.cond (.t 59) .skip
 (.exit 0)))
(.seq (.block 1 (.region (
 ⟨none,some 62,.fa (.t 7) 1,[7]⟩ ::
 ⟨none,some 63,.ld (.t 62),[62]⟩ ::
 ⟨none,some 64,.mv (.t 13),[13]⟩ ::
 ⟨none,some 65,.ia (.t 63) (.t 64) 5,[63,64]⟩ ::
 ⟨none,some 66,.fa (.t 65) 3,[65]⟩ ::
 ⟨none,none,.st (.t 66) (.c (.i .u64 99)) 1,[66]⟩ :: [])))
(.region (
 ⟨none,some 60,.mv (.t 13),[13]⟩ ::
 ⟨none,some 61,.ar .add (.t 60) (.c (.i .i64 1)),[60]⟩ ::
 ⟨none,some 13,.mv (.t 61),[61]⟩ :: [])))))))
(.seq (.seq (.region (
 ⟨none,some 14,.mv (.c (.i .i64 0)),[]⟩ :: []))
(.block 2 (.loop (.seq (.seq (.region (
 ⟨none,some 67,.mv (.t 14),[14]⟩ ::
 ⟨none,some 68,.fa (.t 7) 2,[7]⟩ ::
 ⟨none,some 69,.ld (.t 68),[68]⟩ ::
 ⟨none,some 70,.len (.t 69),[69]⟩ ::
 ⟨none,some 71,.ar .lss (.t 67) (.t 70),[67,70]⟩ :: []))
(.cond (.t 71) .skip
 (.exit 2)))
(.seq (.block 3 (.region (
 ⟨none,some 74,.fa (.t 7) 2,[7]⟩ ::
 ⟨none,some 75,.ld (.t 74),[74]⟩ ::
 ⟨none,some 76,.mv (.t 14),[14]⟩ ::
 ⟨none,some 77,.ia (.t 75) (.t 76) 2,[75,76]⟩ ::
 ⟨none,some 78,.fa (.t 77) 0,[77]⟩ ::
 ⟨none,none,.st (.t 78) (.c (.i .i64 99)) 1,[78]⟩ :: [])))
(.region (
 ⟨none,some 72,.mv (.t 14),[14]⟩ ::
 ⟨none,some 73,.ar .add (.t 72) (.c (.i .i64 1)),[72]⟩ ::
 ⟨none,some 14,.mv (.t 73),[73]⟩ :: [])))))))
(.seq (.seq (.region (
 ⟨none,some 15,.mv (.c (.i .i64 0)),[]⟩ :: []))
(.block 4 (.loop (.seq (.seq (.region (
 ⟨none,some 79,.mv (.t 15),[15]⟩ ::
 ⟨none,some 80,.fa (.t 7) 4,[7]⟩ ::
 ⟨none,some 81,.ld (.t 80),[80]⟩ ::
 ⟨none,some 82,.len (.t 81),[81]⟩ ::
 ⟨none,some 83,.ar .lss (.t 79) (.t 82),[79,82]⟩ :: []))
(.cond (.t 83) .skip
 (.exit 4)))
(.seq (.block 5 (.region (
 ⟨none,some 86,.fa (.t 7) 4,[7]⟩ ::
 ⟨none,some 87,.ld (.t 86),[86]⟩ ::
 ⟨none,some 88,.mv (.t 15),[15]⟩ ::
 ⟨none,some 89,.ia (.t 87) (.t 88) 2,[87,88]⟩ ::
 ⟨none,some 90,.fa (.t 89) 0,[89]⟩ ::
 ⟨none,none,.st (.t 90) (.c (.i .i64 99)) 1,[90]⟩ :: [])))
(.region (
 ⟨none,some 84,.mv (.t 15),[15]⟩ ::
 ⟨none,some 85,.ar .add (.t 84) (.c (.i .i64 1)),[84]⟩ ::
 ⟨none,some 15,.mv (.t 85),[85]⟩ :: [])))))))
(.seq (.seq (.region (
 ⟨none,some 16,.mv (.c (.i .i64 0)),[]⟩ :: []))
(.block 6 (.loop (.seq (.seq (.region (
 ⟨none,some 91,.mv (.t 16),[16]⟩ ::
 ⟨none,some 92,.fa (.t 7) 3,[7]⟩ ::
 ⟨none,some 93,.ld (.t 92),[92]⟩ ::
 ⟨none,some 94,.len (.t 93),[93]⟩ ::
 ⟨none,some 95,.ar .lss (.t 91) (.t 94),[91,94]⟩ :: []))
(.cond (.t 95) .skip
 (.exit 6)))
(.seq (.block 7 (.seq (.region (
 ⟨none,some 17,.mv (.c (.i .i64 0)),[]⟩ :: []))
(.block 8 (.loop (.seq (.seq (.region (
 ⟨none,some 98,.mv (.t 17),[17]⟩ ::
 ⟨none,some 99,.fa (.t 7) 3,[7]⟩ ::
 ⟨none,some 100,.ld (.t 99),[99]⟩ ::
 ⟨none,some 101,.mv (.t 16),[16]⟩ ::
 ⟨none,some 102,.ia (.t 100) (.t 101) 1,[100,101]⟩ ::
 ⟨none,some 103,.ld (.t 102),[102]⟩ ::
 ⟨none,some 104,.len (.t 103),[103]⟩ ::
 ⟨none,some 105,.ar .lss (.t 98) (.t 104),[98,104]⟩ :: []))
(.cond (.t 105) .skip
 (.exit 8)))
(.seq (.block 9 (.region (
 ⟨none,some 108,.fa (.t 7) 3,[7]⟩ ::
 ⟨none,some 109,.ld (.t 108),[108]⟩ ::
 ⟨none,some 110,.mv (.t 16),[16]⟩ ::
 ⟨none,some 111,.ia (.t 109) (.t 110) 1,[109,110]⟩ ::
 ⟨none,some 112,.ld (.t 111),[111]⟩ ::
 ⟨none,some 113,.mv (.t 17),[17]⟩ ::
 ⟨none,some 114,.ia (.t 112) (.t 113) 1,[112,113]⟩ ::
 ⟨none,none,.st (.t 114) (.c (.i .i64 99)) 1,[114]⟩ :: [])))
(.region (
 ⟨none,some 106,.mv (.t 17),[17]⟩ ::
 ⟨none,some 107,.ar .add (.t 106) (.c (.i .i64 1)),[106]⟩ ::
 ⟨none,some 17,.mv (.t 107),[107]⟩ :: []))))))))
(.region (
 ⟨none,some 96,.mv (.t 16),[16]⟩ ::
 ⟨none,some 97,.ar .add (.t 96) (.c (.i .i64 1)),[96]⟩ ::
 ⟨none,some 16,.mv (.t 97),[97]⟩ :: [])))))))
(.seq (.region (
 ⟨none,some 115,.lds (.t 9) 8,[9]⟩ ::
 ⟨none,some 116,.lds (.t 11) 8,[11]⟩ ::
 ⟨none,some 117,.call 12 [(.t 115),(.t 116)],[115,116]⟩ ::
 ⟨none,some 118,.mv (.t 117),[117]⟩ ::
 ⟨some (118,true),some 119,.lds (.t 5) 8,[5,118]⟩ ::
 ⟨some (118,true),some 120,.lds (.t 2) 8,[2,118]⟩ ::
 ⟨some (118,true),some 121,.call 12 [(.t 119),(.t 120)],[119,120,118]⟩ ::
 ⟨none,some 122,.pk (.t 118) (.t 121) (.c (.b false)),[118,121]⟩ ::
 ⟨none,some 123,.mv (.t 122),[122]⟩ ::
 ⟨some (123,true),some 124,.mv (.t 6),[6,123]⟩ ::
 ⟨some (123,true),some 125,.mv (.t 1),[1,123]⟩ ::
 ⟨some (123,true),some 126,.call 13 [(.t 124),(.t 125)],[124,125,123]⟩ ::
 ⟨none,some 127,.pk (.t 123) (.t 126) (.c (.b false)),[123,126]⟩ ::
 ⟨none,some 128,.mv (.t 127),[127]⟩ ::
 ⟨some (128,true),some 129,.call 14 [],[128]⟩ ::
 ⟨none,some 130,.pk (.t 128) (.t 129) (.c (.b false)),[128,129]⟩ ::
 ⟨none,some 4,.mv (.t 130),[130]⟩ :: []))
.ret)))))))))))))
set_option maxRecDepth 100000 in
theorem c3:fnB Tryz.prog 3=some (131,s3,[.t 4]):=by kernel_rfl
structure Tu {α:Type} [Inhabited α] (h:H) (n0:Nat) (v:V) (sz:Nat) (ty:TypeId) (c:α→Nat→V) (n:Nat):Prop where
 is:∃l:List α,l.length=n∧Gw h n0 v sz ty c l
theorem Gw.tu {α:Type} [Inhabited α] {h:H} {n0 sz:Nat} {v:V} {ty:TypeId} {c:α→Nat→V} {l:List α} (hg:Gw h n0 v sz ty c l):Tu h n0 v sz ty c l.length:=⟨l,rfl,hg⟩
def In (a b k:Nat):Prop:=a≤k∧k<b
set_option maxRecDepth 100000 in
set_option maxHeartbeats 0 in
theorem plays_law {h:H} {gl:List V} {vp:V} {g:Gr} {ps:List Int} (hw:Wf h) (hG:GrAt h gl g) (hth:∀v∈gl,Th h v) (hs:Sm g) (hz:Sz_ g) (hvp:Ro h vp 1 icell ps) (htv:Th h vp) (hps:ps.length≤10000000)
  (hlv:∀h',Kp h h'→FX false Tryz.prog 14 [] h' fun v _=>v=.b true):FX false Tryz.prog 3 [.agg gl,vp] h fun v _=>v=.b true:=by
 have hone:=hG.one
 obtain⟨ve,vrf,vco,vrmw,vad,vda,vct,rfl,-⟩:=hG.is
 refine Fn.env c3 rfl ?_
 unfold s3
 refine Es.seq (Es.region (ew_bx (hz:=hone) fun b2 h1 ob2 k1=>?_))
 have hw1:=k1.wf hw
 have hB2:=ob2.bx
 have q1:=ob2.lo
 have q2:=ob2.hi
 have q3:=k1.le
 refine go ?_
 refine stC (copied_spec hw1 (hG.kp k1 hw) (fun v hv=>(hth v hv).kp k1 hw) hs) (fun v h2 ⟨⟨ce,crf,cco,crm,cad,cda,cct,hv,hGC,_,_,_,_,_,_,hnn⟩,k2⟩=>?_)
 subst hv
 have hw2:=k2.wf hw1
 refine ew_al fun b5 h3 ob5 k3=>?_
 refine ew_st ob5 (fun h4 ob6 m4=>?_) (h1:=hGC.one)
 have k4:Kp h2 h4:=m4.kp k3 fun k hk=>by injection hk with hk;subst hk;exact ob5.lo
 have hw4:=k4.wf hw2
 have hB5:Bx h4 b5 [.i .i64 g.cells,ce,crf,cco,crm,cad,cda,cct]:=ob6.bx
 have q4:=k2.le
 have q5:=ob5.lo
 have q6:=ob6.hi
 have q7:=k4.le
 have k14:=k2.trans k4
 have k04:=k1.trans k14
 have hB2:=hB2.kp k14 hw1
 have hGC:=hGC.kp k4 hw2
 clear ob5 m4 k3 ob2
 refine go ?_
 refine ew_apR (hvp.kp k04 hw) (htv.kp k04 hw) (by decide) ione' (by omega) fun v6 h5 G6 _ k5=>?_
 have hw5:=k5.wf hw4
 have k05:=k04.trans k5
 have hB2:=hB2.kp k5 hw4
 have hB5:=hB5.kp k5 hw4
 have hGC:=hGC.kp k5 hw4
 have q8:=k5.le
 refine go ?_
 refine stC (pplay_spec hw5 hGC hnn hs G6.ro hps) (fun v h6 ⟨⟨rl,w,code,hv,hR1,hP1,hO1,hZ1⟩,k6⟩=>?_)
 subst hv
 have hw6:=k6.wf hw5
 have hone1:=hR1.at_.one
 obtain⟨re,rrf,rco,rrm,rad,rda,rct,hrl,W1,W2,W3,hne,cs,hFil,hco⟩:=hO1.is
 subst hrl
 refine go ?_
 refine ew_al fun b7 h7 ob7 k7=>?_
 refine ew_st ob7 (fun h8 ob8 m8=>?_) (h1:=hone1)
 have ob8:Ob h8 h6.next b7 26 [.i .i64 w.cells,re,rrf,rco,rrm,rad,rda,rct]:=ob8
 have k8:Kp h6 h8:=m8.kp k7 fun k hk=>by injection hk with hk;subst hk;exact ob7.lo
 have hw8:=k8.wf hw6
 have q9:=k6.le
 have q10:=ob7.lo
 have q11:=ob8.hi
 have q12:=k8.le
 have k58:=k6.trans k8
 have k08:=k05.trans k58
 have hB2:=hB2.kp k58 hw5
 have hB5:=hB5.kp k58 hw5
 have hGC8:=hGC.kp k58 hw5
 have hB7:=ob8.bx
 clear ob7 m8 k7 ob6
 refine go ?_
 refine stC (pplay_spec hw8 hGC8 hnn hs (G6.ro.kp k58 hw5) hps) (fun v h9 ⟨⟨rl2,w2,code2,hv,hR2,hP2,_,_⟩,k9⟩=>?_)
 subst hv
 obtain⟨rfl,rfl⟩:=hP1.det hP2
 have hw9:=k9.wf hw8
 obtain⟨ie,irf,ico,irm,iad,ida,ict,rfl,-⟩:=hR2.at_.is
 have hone2:=hR2.at_.one
 refine go ?_
 refine ew_al fun b9 hA obA kA=>?_
 refine ew_st obA (fun hB obB mB=>?_) (h1:=hone2)
 have obB:Ob hB h9.next b9 26 [.i .i64 w.cells,ie,irf,ico,irm,iad,ida,ict]:=obB
 have kB:Kp h9 hB:=mB.kp kA fun k hk=>by injection hk with hk;subst hk;exact obA.lo
 have hwB:=kB.wf hw9
 have q13:=k9.le
 have q14:=obA.lo
 have q15:=obB.hi
 have q16:=kB.le
 have k8B:=k9.trans kB
 have k0B:=k08.trans k8B
 have hB2:=hB2.kp k8B hw8
 have hB5:=hB5.kp k8B hw8
 have hB7:=hB7.kp k8B hw8
 have hB9:=obB.bx
 have hR2:=hR2.pr (Pr.of_kp (P:=fun _=>False) kB) hw9 (fun _ h=>h.elim)
 clear obA mB kA
 refine go ?_
 refine stC (rplay_spec hwB (hG.kp k0B hw) (fun v hv=>(hth v hv).kp k0B hw) hs (hvp.kp k0B hw) hps) (fun v hC ⟨⟨rl3,w3,code3,hv,hR3,hP3⟩,kC⟩=>?_)
 subst hv
 obtain⟨rfl,rfl⟩:=hP1.det hP3
 have hwC:=kC.wf hwB
 obtain⟨we,wrf,wco,wrm,wad,wda,wct,rfl,-⟩:=hR3.at_.is
 have hone3:=hR3.at_.one
 refine go ?_
 refine ew_al fun b11 hD obD kD=>?_
 refine ew_st obD (fun hE obE mE=>?_) (h1:=hone3)
 have obE:Ob hE hC.next b11 26 [.i .i64 w.cells,we,wrf,wco,wrm,wad,wda,wct]:=obE
 have kE:Kp hC hE:=mE.kp kD fun k hk=>by injection hk with hk;subst hk;exact obD.lo
 have hwE:=kE.wf hwC
 have q17:=kC.le
 have q18:=obD.lo
 have q19:=obE.hi
 have q20:=kE.le
 have kBE:=kC.trans kE
 have k0E:=k0B.trans kBE
 have hB2:=hB2.kp kBE hwB
 have hB5:=hB5.kp kBE hwB
 have hB7:=hB7.kp kBE hwB
 have hB9:=hB9.kp kBE hwB
 have hB11:=obE.bx
 have hR2:=hR2.pr (Pr.of_kp (P:=fun _=>False) kBE) hwB (fun _ h=>h.elim)
 have hR3:=hR3.pr (Pr.of_kp (P:=fun _=>False) kE) hwC (fun _ h=>h.elim)
 have k6E:=k8.trans (k8B.trans kBE)
 have hR1:=hR1.pr (Pr.of_kp (P:=fun _=>False) k6E) hw6 (fun _ h=>h.elim)
 clear obD mE kD
 refine go ?_
 refine stC (alike_spec hwE hR1.at_ hR3.at_ hZ1) (fun v hF ⟨hv,kF⟩=>?_)
 obtain rfl:v=.b true:=hv.trans (B_t rfl).symm
 have hwF:=kF.wf hwE
 have kEF:=kF
 have q21:=kF.le
 have hB2:=hB2.kp kF hwE
 have hB5:=hB5.kp kF hwE
 have hB7:=hB7.kp kF hwE
 have hB9:=hB9.kp kF hwE
 have hB11:=hB11.kp kF hwE
 have hR2:=hR2.pr (Pr.of_kp (P:=fun _=>False) kF) hwE (fun _ h=>h.elim)
 have hR3:=hR3.pr (Pr.of_kp (P:=fun _=>False) kF) hwE (fun _ h=>h.elim)
 have k6F:=k6E.trans kF
 have mm:∀{α:Type} [Inhabited α] {v:V} {sz n0:Nat} {ty:TypeId} {c:α→Nat→V} {l:List α},Gw h6 n0 v sz ty c l→Gw hF n0 v sz ty c l:=fun hg=>hg.mo (Mo.of_kp k6F none) (fun _ _ e=>by cases e)
 have W1b:=W1.blk
 have W2b:=W2.blk
 have W3b:=W3.blk
 have W1:=mm W1
 have W2:=mm W2
 have W3:=mm W3
 have hcb:∀i,i<w.co.length→∀k,(gt cs i).blk=some k→In h5.next h6.next k:=fun i hi k hk=>(hFil.row i hi).blk k hk
 have hcr:∀i,i<w.co.length→Gw hF h5.next (gt cs i) 1 3 icell (gt w.co i):=fun i hi=>mm (hFil.row i hi)
 have hco:(rco=.ns∧cs = [])∨Ar hF h5.next rco 1 27 vcell cs:=hco.imp id fun hA=>hA.mo (Mo.of_kp k6F none) (fun e=>by cases e)
 have hcl:=hFil.len
 have k0F:=k0E.trans kF
 have k5F:=k6.trans k6F
 have hGCF:=hGC.kp k5F hw5
 have hG6F:=G6.ro.kp k5F hw5
 have k58':=k58
 clear hR1 k6E k8B kBE kEF
 have hev:=hZ1.ev
 have hrf:=hZ1.rf
 have hrm:=hZ1.rmw
 have hcoz:=hZ1.co
 have key:∀{h':H},Pr (In h5.next h6.next) hF h'→Kp h h'∧Wf h'∧Bx h' b2 [.i .i64 g.cells,ve,vrf,vco,vrmw,vad,vda,vct]∧Bx h' b5 [.i .i64 g.cells,ce,crf,cco,crm,cad,cda,cct]∧Bx h' b7 [.i .i64 w.cells,re,rrf,rco,rrm,rad,rda,rct]∧Bx h' b9 [.i .i64 w.cells,ie,irf,ico,irm,iad,ida,ict]∧Bx h' b11 [.i .i64 w.cells,we,wrf,wco,wrm,wad,wda,wct]:=fun p=>by
  unfold In at p
  exact⟨p.kp k0F fun k hk=>by have:=hk.1;omega,p.wf hwF,p.bx hB2 (by omega) (by omega),p.bx hB5 (by omega) (by omega),p.bx hB7 (by omega) (by omega),p.bx hB9 (by omega) (by omega),p.bx hB11 (by omega) (by omega)⟩
 refine go ?_
 refine Es.toB (X:=Unit) (fun _=>[(1,vp),(2,.p b2 0),(5,.p b5 0),(6,v6),(7,.p b7 0),(9,.p b9 0),(11,.p b11 0)]) (fun _ h'=>Pr (In h5.next h6.next) hF h'∧Gw h' h5.next rrf 2 39 pcell w.rf∧Gw h' h5.next rrm 2 39 pcell w.rmw∧(∀i,i<w.co.length→Gw h' h5.next (gt cs i) 1 3 icell (gt w.co i))∧((rco=.ns∧cs = [])∨Ar h' h5.next rco 1 27 vcell cs)) ?_ fun _ hn hx=>?_
 ·refine Es.loop (X:=Nat × List Ev_) (fun x=>w.ev.length-x.1) (fun x=>[(1,vp),(2,.p b2 0),(5,.p b5 0),(6,v6),(7,.p b7 0),(9,.p b9 0),(11,.p b11 0),(13,.i .i64 (x.1:Int))]) (fun x h'=>x.1≤w.ev.length∧x.2.length=w.ev.length∧Gw h' h5.next re 5 37 ecell x.2∧Pr (In h5.next h6.next) hF h'∧Gw h' h5.next rrf 2 39 pcell w.rf∧Gw h' h5.next rrm 2 39 pcell w.rmw∧(∀i,i<w.co.length→Gw h' h5.next (gt cs i) 1 3 icell (gt w.co i))∧((rco=.ns∧cs = [])∨Ar h' h5.next rco 1 27 vcell cs)) (0,w.ev) ⟨rfl,rfl,rfl,rfl,rfl,rfl,rfl,rfl,trivial⟩ ⟨Nat.zero_le _,rfl,W1,.refl _ _,W2,W3,hcr,hco⟩ fun x hl hx=>?_
  obtain⟨k,l⟩:=x
  obtain⟨hk,hll,hG,hp,H2,H3,H4,H5⟩:=hx
  simp only at hk hll hG
  obtain⟨_,hwl,B2,B5,B7,B9,B11⟩:=key hp
  have hL:=hG.ln
  rw[hll]at hL
  refine go ?_
  refine cD (fun hlt=>?_) (fun hge=>?_)
  ·skip
   refine go ?_
   refine ew_gw1 (k:=3) (w:=.i .u64 99) { gt l k with val:=99 } hG (i:=k) (by omega) (by decide) (fun j hj=>?_) rfl (fun h2 hG2 m2=>?_)
   ·match j,hj with
    | 0,_=>rfl
    | 1,_=>rfl
    | 2,_=>rfl
    | 3,_=>rfl
    | 4,_=>rfl
   ·skip
    refine go ?_
    exact Nx.inv (k+1,_) (by simp only;omega) ⟨rfl,rfl,rfl,rfl,rfl,rfl,rfl,rfl,trivial⟩ ⟨by simp only;omega,by simp only;rw[List.length_set];exact hll,hG2,hp.trans (Pr.of_mo m2 fun k hk=>W1b k hk),H2.mo m2 (fun k hk=>H2.ne hG (by decide) k hk),H3.mo m2 (fun k hk=>H3.ne hG (by decide) k hk),fun i hi=>(H4 i hi).mo m2 fun k hk=>(H4 i hi).ne hG (by decide) k hk,H5.imp id fun hA=>hA.mo m2 (hA.ne hG (by decide))⟩
  ·skip
   refine go ?_
   exact Nx.to () ⟨rfl,rfl,rfl,rfl,rfl,rfl,rfl,trivial⟩ ⟨hp,H2,H3,H4,H5⟩
 obtain⟨hpn,W2,W3,hcr,hco⟩:=hx
 obtain⟨_,hwn,B2,B5,B7,B9,B11⟩:=key hpn
 refine go ?_
 refine Es.toB (X:=Unit) (fun _=>[(1,vp),(2,.p b2 0),(5,.p b5 0),(6,v6),(7,.p b7 0),(9,.p b9 0),(11,.p b11 0)]) (fun _ h'=>Pr (In h5.next h6.next) hF h'∧Gw h' h5.next rrm 2 39 pcell w.rmw∧(∀i,i<w.co.length→Gw h' h5.next (gt cs i) 1 3 icell (gt w.co i))∧((rco=.ns∧cs = [])∨Ar h' h5.next rco 1 27 vcell cs)) ?_ fun _ hn hx=>?_
 ·refine Es.loop (X:=Nat × List (Int × Int)) (fun x=>w.rf.length-x.1) (fun x=>[(1,vp),(2,.p b2 0),(5,.p b5 0),(6,v6),(7,.p b7 0),(9,.p b9 0),(11,.p b11 0),(14,.i .i64 (x.1:Int))]) (fun x h'=>x.1≤w.rf.length∧x.2.length=w.rf.length∧Gw h' h5.next rrf 2 39 pcell x.2∧Pr (In h5.next h6.next) hF h'∧Gw h' h5.next rrm 2 39 pcell w.rmw∧(∀i,i<w.co.length→Gw h' h5.next (gt cs i) 1 3 icell (gt w.co i))∧((rco=.ns∧cs = [])∨Ar h' h5.next rco 1 27 vcell cs)) (0,w.rf) ⟨rfl,rfl,rfl,rfl,rfl,rfl,rfl,rfl,trivial⟩ ⟨Nat.zero_le _,rfl,W2,hpn,W3,hcr,hco⟩ fun x hl hx=>?_
  obtain⟨k,l⟩:=x
  obtain⟨hk,hll,hG,hp,H3,H4,H5⟩:=hx
  simp only at hk hll hG
  obtain⟨_,hwl,B2,B5,B7,B9,B11⟩:=key hp
  have hL:=hG.ln
  rw[hll]at hL
  refine go ?_
  refine cD (fun hlt=>?_) (fun hge=>?_)
  ·skip
   refine go ?_
   refine ew_gw1 (k:=0) (w:=.i .i64 99) (99,(gt l k).2) hG (i:=k) (by omega) (by decide) (fun j hj=>?_) rfl (fun h2 hG2 m2=>?_)
   ·match j,hj with
    | 0,_=>rfl
    | 1,_=>rfl
   ·skip
    refine go ?_
    exact Nx.inv (k+1,_) (by simp only;omega) ⟨rfl,rfl,rfl,rfl,rfl,rfl,rfl,rfl,trivial⟩ ⟨by simp only;omega,by simp only;rw[List.length_set];exact hll,hG2,hp.trans (Pr.of_mo m2 fun k hk=>W2b k hk),H3.mo m2 (fun k hk e=>hne k e hk),fun i hi=>(H4 i hi).mo m2 fun k hk=>(H4 i hi).ne hG (by decide) k hk,H5.imp id fun hA=>hA.mo m2 (hA.ne hG (by decide))⟩
  ·skip
   refine go ?_
   exact Nx.to () ⟨rfl,rfl,rfl,rfl,rfl,rfl,rfl,trivial⟩ ⟨hp,H3,H4,H5⟩
 obtain⟨hpn,W3,hcr,hco⟩:=hx
 obtain⟨_,hwn,B2,B5,B7,B9,B11⟩:=key hpn
 refine go ?_
 refine Es.toB (X:=Unit) (fun _=>[(1,vp),(2,.p b2 0),(5,.p b5 0),(6,v6),(7,.p b7 0),(9,.p b9 0),(11,.p b11 0)]) (fun _ h'=>Pr (In h5.next h6.next) hF h'∧(∀i,i<w.co.length→Gw h' h5.next (gt cs i) 1 3 icell (gt w.co i))∧((rco=.ns∧cs = [])∨Ar h' h5.next rco 1 27 vcell cs)) ?_ fun _ hn hx=>?_
 ·refine Es.loop (X:=Nat × List (Int × Int)) (fun x=>w.rmw.length-x.1) (fun x=>[(1,vp),(2,.p b2 0),(5,.p b5 0),(6,v6),(7,.p b7 0),(9,.p b9 0),(11,.p b11 0),(15,.i .i64 (x.1:Int))]) (fun x h'=>x.1≤w.rmw.length∧x.2.length=w.rmw.length∧Gw h' h5.next rrm 2 39 pcell x.2∧Pr (In h5.next h6.next) hF h'∧(∀i,i<w.co.length→Gw h' h5.next (gt cs i) 1 3 icell (gt w.co i))∧((rco=.ns∧cs = [])∨Ar h' h5.next rco 1 27 vcell cs)) (0,w.rmw) ⟨rfl,rfl,rfl,rfl,rfl,rfl,rfl,rfl,trivial⟩ ⟨Nat.zero_le _,rfl,W3,hpn,hcr,hco⟩ fun x hl hx=>?_
  obtain⟨k,l⟩:=x
  obtain⟨hk,hll,hG,hp,H4,H5⟩:=hx
  simp only at hk hll hG
  obtain⟨_,hwl,B2,B5,B7,B9,B11⟩:=key hp
  have hL:=hG.ln
  rw[hll]at hL
  refine go ?_
  refine cD (fun hlt=>?_) (fun hge=>?_)
  ·skip
   refine go ?_
   refine ew_gw1 (k:=0) (w:=.i .i64 99) (99,(gt l k).2) hG (i:=k) (by omega) (by decide) (fun j hj=>?_) rfl (fun h2 hG2 m2=>?_)
   ·match j,hj with
    | 0,_=>rfl
    | 1,_=>rfl
   ·skip
    refine go ?_
    exact Nx.inv (k+1,_) (by simp only;omega) ⟨rfl,rfl,rfl,rfl,rfl,rfl,rfl,rfl,trivial⟩ ⟨by simp only;omega,by simp only;rw[List.length_set];exact hll,hG2,hp.trans (Pr.of_mo m2 fun k hk=>W3b k hk),fun i hi=>(H4 i hi).mo m2 fun k hk=>(H4 i hi).ne hG (by decide) k hk,H5.imp id fun hA=>hA.mo m2 (hA.ne hG (by decide))⟩
  ·skip
   refine go ?_
   exact Nx.to () ⟨rfl,rfl,rfl,rfl,rfl,rfl,rfl,trivial⟩ ⟨hp,H4,H5⟩
 obtain⟨hpn,hcr,hco⟩:=hx
 obtain⟨_,hwn,B2,B5,B7,B9,B11⟩:=key hpn
 refine go ?_
 have hLc:Ln rco 1 w.co.length:=by
  rcases hco with⟨rfl,rfl⟩ | hA
  ·have:w.co.length=0:=hcl.symm
   rw[this]
   exact .ns
  ·have:=hA.ln
   rwa [hcl]at this
 refine Es.toB (X:=Unit) (fun _=>[(1,vp),(2,.p b2 0),(5,.p b5 0),(6,v6),(7,.p b7 0),(9,.p b9 0),(11,.p b11 0)]) (fun _ h'=>Pr (In h5.next h6.next) hF h') ?_ fun _ hm hpm=>?_
 ·refine Es.loop (X:=Nat) (fun x=>w.co.length-x) (fun x=>[(1,vp),(2,.p b2 0),(5,.p b5 0),(6,v6),(7,.p b7 0),(9,.p b9 0),(11,.p b11 0),(16,.i .i64 (x:Int))]) (fun x h'=>x≤w.co.length∧Pr (In h5.next h6.next) hF h'∧(∀i,i<w.co.length→Tu h' h5.next (gt cs i) 1 3 icell (gt w.co i).length)∧((rco=.ns∧cs = [])∨Ar h' h5.next rco 1 27 vcell cs)) 0 ⟨rfl,rfl,rfl,rfl,rfl,rfl,rfl,rfl,trivial⟩ ⟨Nat.zero_le _,hpn,fun i hi=>(hcr i hi).tu,hco⟩ fun k hl hx=>?_
  obtain⟨hk,hp,H4,H5⟩:=hx
  obtain⟨_,hwl,B2,B5,B7,B9,B11⟩:=key hp
  refine go ?_
  refine cD (fun hlt=>?_) (fun hge=>?_)
  ·have hkl:k<w.co.length:=by omega
   obtain⟨l0,hl0,hG0⟩:=(H4 k hkl).is
   have hrz:=hZ1.row k hkl
   refine go ?_
   refine Es.loop (X:=Nat × List Int) (fun x=>(gt w.co k).length-x.1) (fun x=>[(1,vp),(2,.p b2 0),(5,.p b5 0),(6,v6),(7,.p b7 0),(9,.p b9 0),(11,.p b11 0),(16,.i .i64 (k:Int)),(17,.i .i64 (x.1:Int))]) (fun x h'=>x.1≤(gt w.co k).length∧x.2.length=(gt w.co k).length∧Gw h' h5.next (gt cs k) 1 3 icell x.2∧Pr (In h5.next h6.next) hF h'∧(∀i,i<w.co.length→i≠k→Tu h' h5.next (gt cs i) 1 3 icell (gt w.co i).length)∧((rco=.ns∧cs = [])∨Ar h' h5.next rco 1 27 vcell cs)) (0,l0) ⟨rfl,rfl,rfl,rfl,rfl,rfl,rfl,rfl,rfl,trivial⟩ ⟨Nat.zero_le _,hl0,hG0,hp,fun i hi _=>H4 i hi,H5⟩ fun x hi hx=>?_
   clear hG0 H4 H5 hp B2 B5 B7 B9 B11 hl0
   obtain⟨j,l⟩:=x
   obtain⟨hj,hll,hG,hp,H4,H5⟩:=hx
   simp only at hj hll hG
   obtain⟨_,hwi,B2,B5,B7,B9,B11⟩:=key hp
   rcases H5 with⟨e1,e2⟩ | hA
   ·exfalso
    rw[e2]at hcl
    have:w.co.length=0:=hcl.symm
    omega
   have hCc:=hA.cs
   rw[hcl]at hCc
   have hL:Ln (vcell (gt cs k) 0) 1 (gt w.co k).length:=by have:=hG.ln;rwa [hll]at this
   refine go ?_
   refine cD (fun hlt2=>?_) (fun hge2=>?_)
   ·skip
    refine go ?_
    refine ew_gw1 (k:=0) (w:=.i .i64 99) (99:Int) hG (i:=j) (by omega) (by decide) (fun j hj=>?_) rfl (fun h2 hG2 m2=>?_)
    ·match j,hj with
     | 0,_=>rfl
    ·skip
     refine go ?_
     exact Nx.inv (j+1,_) (by simp only;omega) ⟨rfl,rfl,rfl,rfl,rfl,rfl,rfl,rfl,rfl,trivial⟩ ⟨by simp only;omega,by simp only;rw[List.length_set];exact hll,hG2,hp.trans (Pr.of_mo m2 fun b hb=>hcb k hkl b hb),fun i hi hne'=>by
      obtain⟨l',h1,h2'⟩:=(H4 i hi hne').is
      exact⟨l',h1,h2'.mo m2 fun b hb=>hFil.dis i k hi hkl hne' b hb⟩,.inr (hA.mo m2 (hA.ne hG (by decide)))⟩
   ·skip
    refine go ?_
    exact Nx.inv (k+1) (by omega) ⟨rfl,rfl,rfl,rfl,rfl,rfl,rfl,rfl,trivial⟩ ⟨by omega,hp,fun i hi=>by
     by_cases e:i=k
     ·subst e;exact⟨l,hll,hG⟩
     ·exact H4 i hi e,.inr hA⟩
  ·skip
   refine go ?_
   exact Nx.to () ⟨rfl,rfl,rfl,rfl,rfl,rfl,rfl,trivial⟩ hp
 obtain⟨kZ,hwm,B2,B5,B7,B9,B11⟩:=key hpm
 have hR2:=hR2.pr hpm hwF (fun k h=>by have:=h.2;omega)
 have hR3:=hR3.pr hpm hwF (fun k h=>by have:=h.2;omega)
 have kF5:Kp h5 hm:=hpm.kp k5F fun k hk=>hk.1
 refine go ?_
 refine stC (alike_spec hwm hR2.at_ hR3.at_ hZ1) (fun v h9 ⟨hv,k9⟩=>?_)
 obtain rfl:v=.b true:=hv.trans (B_t rfl).symm
 have hw9:=k9.wf hwm
 have B2:=B2.kp k9 hwm
 have B5:=B5.kp k9 hwm
 refine go ?_
 refine stC (alike_spec hw9 (hGC.kp (kF5.trans k9) hw5) (hG.kp (kZ.trans k9) hw) hz) (fun v hA ⟨hv,kA⟩=>?_)
 obtain rfl:v=.b true:=hv.trans (B_t rfl).symm
 refine go ?_
 refine stC (ints_spec (G6.ro.kp (kF5.trans (k9.trans kA)) hw5) (hvp.kp (kZ.trans (k9.trans kA)) hw) (by omega)) (fun v hB' ⟨hv,e⟩=>?_)
 obtain rfl:=e.symm
 obtain rfl:v=.b true:=hv.trans (B_t rfl).symm
 refine go ?_
 refine stC (hlv _ (kZ.trans (k9.trans kA))) (fun v hC' hv=>?_)
 subst hv
 refine go ?_
 exact ret_1 rfl
end Go.Proofs.YtkcdehffcddciaaGreatDoor.Vm
