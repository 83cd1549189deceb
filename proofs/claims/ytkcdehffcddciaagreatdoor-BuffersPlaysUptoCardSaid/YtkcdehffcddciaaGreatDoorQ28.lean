/- Graphs that are alike. -/
import Derived.Test.YtkcdehffcddciaaGreatDoorQ19
import Derived.Test.YtkcdehffcddciaaGreatDoorQ18
import Derived.Test.YtkcdehffcddciaaGreatDoorQ21
import Derived.Test.YtkcdehffcddciaaGreatDoorQ20
namespace Go.Proofs.YtkcdehffcddciaaGreatDoor.Vm
open Go Go.RowKit
def s52:Sc:=(.seq (.region (
 ⟨none,some 4,.mv (.c (.b false)),[]⟩ :: []))
(.seq (.seq (.region (
 ⟨none,some 6,.mv (.t 0),[0]⟩ ::
 ⟨none,some 7,.len (.t 6),[6]⟩ ::
 ⟨none,some 8,.mv (.t 1),[1]⟩ ::
 ⟨none,some 9,.len (.t 8),[8]⟩ ::
 ⟨none,some 10,.eq .int true (.t 7) (.t 9),[7,9]⟩ :: []))
(.cond (.t 10) (.seq (.region (
 ⟨none,some 4,.mv (.c (.b false)),[]⟩ :: []))
.ret)
 .skip))
(.seq (.seq (.region (
 ⟨none,some 5,.mv (.c (.i .i64 0)),[]⟩ :: []))
(.block 0 (.loop (.seq (.seq (.region (
 ⟨none,some 11,.mv (.t 5),[5]⟩ ::
 ⟨none,some 12,.mv (.t 0),[0]⟩ ::
 ⟨none,some 13,.len (.t 12),[12]⟩ ::
 ⟨none,some 14,.ar .lss (.t 11) (.t 13),[11,13]⟩ :: []))
(.cond (.t 14) .skip
 (.exit 0)))
(.seq (.block 1 (.seq (.mix (
 (⟨none,some 17,.mv (.t 0),[0]⟩,.q [none]) ::
 (⟨none,some 18,.mv (.t 5),[5]⟩,.q [none]) ::
 (⟨none,some 19,.ia (.t 17) (.t 18) 2,[17,18]⟩,.q [none]) ::
 (⟨none,some 20,.lds (.t 19) 2,[19]⟩,.q [none]) ::
 (⟨none,some 21,.mv (.t 1),[1]⟩,.q [none]) ::
 (⟨none,some 22,.mv (.t 5),[5]⟩,.q [none]) ::
 (⟨none,some 23,.ia (.t 21) (.t 22) 2,[21,22]⟩,.q [none]) ::
 (⟨none,some 24,.lds (.t 23) 2,[23]⟩,.q [none]) ::
 (⟨none,some 25,.eq (.struct [true,true]) true (.t 20) (.t 24),[20,24]⟩,.q [none]) :: []))
(.cond (.t 25) (.seq (.region (
 ⟨none,some 4,.mv (.c (.b false)),[]⟩ :: []))
.ret)
 .skip)))
(.region (
 ⟨none,some 15,.mv (.t 5),[5]⟩ ::
 ⟨none,some 16,.ar .add (.t 15) (.c (.i .i64 1)),[15]⟩ ::
 ⟨none,some 5,.mv (.t 16),[16]⟩ :: [])))))))
(.seq (.region (
 ⟨none,some 4,.mv (.c (.b true)),[]⟩ :: []))
.ret))))
set_option maxRecDepth 100000 in
theorem c52:fnB Tryz.prog 52=some (26,s52,[.t 4]):=by kernel_rfl
def s12:Sc:=(.seq (.region (
 ⟨none,some 2,.bx 26 (.t 0),[0]⟩ ::
 ⟨none,some 3,.bx 26 (.t 1),[1]⟩ ::
 ⟨none,some 4,.mv (.c (.b false)),[]⟩ :: []))
(.seq (.seq (.region (
 ⟨none,some 8,.fa (.t 2) 0,[2]⟩ ::
 ⟨none,some 9,.ld (.t 8),[8]⟩ ::
 ⟨none,some 10,.fa (.t 3) 0,[3]⟩ ::
 ⟨none,some 11,.ld (.t 10),[10]⟩ ::
 ⟨none,some 12,.eq .int true (.t 9) (.t 11),[9,11]⟩ ::
 ⟨none,some 13,.mv (.t 12),[12]⟩ ::
 ⟨some (13,false),some 14,.fa (.t 2) 1,[2,13]⟩ ::
 ⟨some (13,false),some 15,.ld (.t 14),[14,13]⟩ ::
 ⟨some (13,false),some 16,.len (.t 15),[15,13]⟩ ::
 ⟨some (13,false),some 17,.fa (.t 3) 1,[3,13]⟩ ::
 ⟨some (13,false),some 18,.ld (.t 17),[17,13]⟩ ::
 ⟨some (13,false),some 19,.len (.t 18),[18,13]⟩ ::
 ⟨some (13,false),some 20,.eq .int true (.t 16) (.t 19),[16,19,13]⟩ ::
 ⟨none,some 21,.pk (.t 13) (.c (.b true)) (.t 20),[13,20]⟩ ::
 ⟨none,some 22,.mv (.t 21),[21]⟩ ::
 ⟨some (22,false),some 23,.fa (.t 2) 3,[2,22]⟩ ::
 ⟨some (22,false),some 24,.ld (.t 23),[23,22]⟩ ::
 ⟨some (22,false),some 25,.len (.t 24),[24,22]⟩ ::
 ⟨some (22,false),some 26,.fa (.t 3) 3,[3,22]⟩ ::
 ⟨some (22,false),some 27,.ld (.t 26),[26,22]⟩ ::
 ⟨some (22,false),some 28,.len (.t 27),[27,22]⟩ ::
 ⟨some (22,false),some 29,.eq .int true (.t 25) (.t 28),[25,28,22]⟩ ::
 ⟨none,some 30,.pk (.t 22) (.c (.b true)) (.t 29),[22,29]⟩ ::
 ⟨none,some 31,.mv (.t 30),[30]⟩ ::
 ⟨some (31,false),some 32,.fa (.t 2) 2,[2,31]⟩ ::
 ⟨some (31,false),some 33,.ld (.t 32),[32,31]⟩ ::
 ⟨some (31,false),some 34,.fa (.t 3) 2,[3,31]⟩ ::
 ⟨some (31,false),some 35,.ld (.t 34),[34,31]⟩ ::
 ⟨some (31,false),some 36,.call 52 [(.t 33),(.t 35)],[33,35,31]⟩ ::
 ⟨some (31,false),some 37,.nt (.t 36),[36,31]⟩ ::
 ⟨none,some 38,.pk (.t 31) (.c (.b true)) (.t 37),[31,37]⟩ ::
 ⟨none,some 39,.mv (.t 38),[38]⟩ ::
 ⟨some (39,false),some 40,.fa (.t 2) 4,[2,39]⟩ ::
 ⟨some (39,false),some 41,.ld (.t 40),[40,39]⟩ ::
 ⟨some (39,false),some 42,.fa (.t 3) 4,[3,39]⟩ ::
 ⟨some (39,false),some 43,.ld (.t 42),[42,39]⟩ ::
 ⟨some (39,false),some 44,.call 52 [(.t 41),(.t 43)],[41,43,39]⟩ ::
 ⟨some (39,false),some 45,.nt (.t 44),[44,39]⟩ ::
 ⟨none,some 46,.pk (.t 39) (.c (.b true)) (.t 45),[39,45]⟩ ::
 ⟨none,some 47,.mv (.t 46),[46]⟩ ::
 ⟨some (47,false),some 48,.fa (.t 2) 5,[2,47]⟩ ::
 ⟨some (47,false),some 49,.ld (.t 48),[48,47]⟩ ::
 ⟨some (47,false),some 50,.fa (.t 3) 5,[3,47]⟩ ::
 ⟨some (47,false),some 51,.ld (.t 50),[50,47]⟩ ::
 ⟨some (47,false),some 52,.call 52 [(.t 49),(.t 51)],[49,51,47]⟩ ::
 ⟨some (47,false),some 53,.nt (.t 52),[52,47]⟩ ::
 ⟨none,some 54,.pk (.t 47) (.c (.b true)) (.t 53),[47,53]⟩ ::
 ⟨none,some 55,.mv (.t 54),[54]⟩ ::
 ⟨some (55,false),some 56,.fa (.t 2) 6,[2,55]⟩ ::
 ⟨some (55,false),some 57,.ld (.t 56),[56,55]⟩ ::
 ⟨some (55,false),some 58,.fa (.t 3) 6,[3,55]⟩ ::
 ⟨some (55,false),some 59,.ld (.t 58),[58,55]⟩ ::
 ⟨some (55,false),some 60,.call 52 [(.t 57),(.t 59)],[57,59,55]⟩ ::
 ⟨some (55,false),some 61,.nt (.t 60),[60,55]⟩ ::
 ⟨none,some 62,.pk (.t 55) (.c (.b true)) (.t 61),[55,61]⟩ ::
 ⟨none,some 63,.mv (.t 62),[62]⟩ ::
 ⟨some (63,false),some 64,.fa (.t 2) 7,[2,63]⟩ ::
 ⟨some (63,false),some 65,.ld (.t 64),[64,63]⟩ ::
 ⟨some (63,false),some 66,.fa (.t 3) 7,[3,63]⟩ ::
 ⟨some (63,false),some 67,.ld (.t 66),[66,63]⟩ ::
 ⟨some (63,false),some 68,.call 52 [(.t 65),(.t 67)],[65,67,63]⟩ ::
 ⟨some (63,false),some 69,.nt (.t 68),[68,63]⟩ ::
 ⟨none,some 70,.pk (.t 63) (.c (.b true)) (.t 69),[63,69]⟩ :: []))
(.cond (.t 70) (.seq (.region (
 ⟨none,some 4,.mv (.c (.b false)),[]⟩ :: []))
.ret)
 .skip))
(.seq (.seq (.region (
 ⟨none,some 5,.mv (.c (.i .i64 0)),[]⟩ :: []))
(.block 0 (.loop (.seq (.seq (.region (
 ⟨none,some 71,.mv (.t 5),[5]⟩ ::
 ⟨none,some 72,.fa (.t 2) 1,[2]⟩ ::
 ⟨none,some 73,.ld (.t 72),[72]⟩ ::
 ⟨none,some 74,.len (.t 73),[73]⟩ ::
 ⟨none,some 75,.ar .lss (.t 71) (.t 74),[71,74]⟩ :: []))
(.cond (.t 75) .skip
 (.exit 0)))
(.seq (.block 1 (.seq (.mix (
 (⟨none,some 78,.fa (.t 2) 1,[2]⟩,.q [none]) ::
 (⟨none,some 79,.ld (.t 78),[78]⟩,.q [none]) ::
 (⟨none,some 80,.mv (.t 5),[5]⟩,.q [none]) ::
 (⟨none,some 81,.ia (.t 79) (.t 80) 5,[79,80]⟩,.q [none]) ::
 (⟨none,some 82,.lds (.t 81) 5,[81]⟩,.q [none]) ::
 (⟨none,some 83,.fa (.t 3) 1,[3]⟩,.q [none]) ::
 (⟨none,some 84,.ld (.t 83),[83]⟩,.q [none]) ::
 (⟨none,some 85,.mv (.t 5),[5]⟩,.q [none]) ::
 (⟨none,some 86,.ia (.t 84) (.t 85) 5,[84,85]⟩,.q [none]) ::
 (⟨none,some 87,.lds (.t 86) 5,[86]⟩,.q [none]) ::
 (⟨none,some 88,.eq (.struct [true,true,true,true,true]) true (.t 82) (.t 87),[82,87]⟩,.q [none]) :: []))
(.cond (.t 88) (.seq (.region (
 ⟨none,some 4,.mv (.c (.b false)),[]⟩ :: []))
.ret)
 .skip)))
(.region (
 ⟨none,some 76,.mv (.t 5),[5]⟩ ::
 ⟨none,some 77,.ar .add (.t 76) (.c (.i .i64 1)),[76]⟩ ::
 ⟨none,some 5,.mv (.t 77),[77]⟩ :: [])))))))
(.seq (.seq (.region (
 ⟨none,some 6,.mv (.c (.i .i64 0)),[]⟩ :: []))
(.block 2 (.loop (.seq (.seq (.region (
 ⟨none,some 89,.mv (.t 6),[6]⟩ ::
 ⟨none,some 90,.fa (.t 2) 3,[2]⟩ ::
 ⟨none,some 91,.ld (.t 90),[90]⟩ ::
 ⟨none,some 92,.len (.t 91),[91]⟩ ::
 ⟨none,some 93,.ar .lss (.t 89) (.t 92),[89,92]⟩ :: []))
(.cond (.t 93) .skip
 (.exit 2)))
(.seq (.block 3 (.seq (.seq (.mix (
 (⟨none,some 96,.fa (.t 2) 3,[2]⟩,.q [none]) ::
 (⟨none,some 97,.ld (.t 96),[96]⟩,.q [none]) ::
 (⟨none,some 98,.mv (.t 6),[6]⟩,.q [none]) ::
 (⟨none,some 99,.ia (.t 97) (.t 98) 1,[97,98]⟩,.q [none]) ::
 (⟨none,some 100,.ld (.t 99),[99]⟩,.q [none]) ::
 (⟨none,some 101,.len (.t 100),[100]⟩,.q [none]) ::
 (⟨none,some 102,.fa (.t 3) 3,[3]⟩,.q [none]) ::
 (⟨none,some 103,.ld (.t 102),[102]⟩,.q [none]) ::
 (⟨none,some 104,.mv (.t 6),[6]⟩,.q [none]) ::
 (⟨none,some 105,.ia (.t 103) (.t 104) 1,[103,104]⟩,.q [none]) ::
 (⟨none,some 106,.ld (.t 105),[105]⟩,.q [none]) ::
 (⟨none,some 107,.len (.t 106),[106]⟩,.q [none]) ::
 (⟨none,some 108,.eq .int true (.t 101) (.t 107),[101,107]⟩,.q [none]) :: []))
(.cond (.t 108) (.seq (.region (
 ⟨none,some 4,.mv (.c (.b false)),[]⟩ :: []))
.ret)
 .skip))
(.seq (.region (
 ⟨none,some 7,.mv (.c (.i .i64 0)),[]⟩ :: []))
(.block 4 (.loop (.seq (.seq (.region (
 ⟨none,some 109,.mv (.t 7),[7]⟩ ::
 ⟨none,some 110,.fa (.t 2) 3,[2]⟩ ::
 ⟨none,some 111,.ld (.t 110),[110]⟩ ::
 ⟨none,some 112,.mv (.t 6),[6]⟩ ::
 ⟨none,some 113,.ia (.t 111) (.t 112) 1,[111,112]⟩ ::
 ⟨none,some 114,.ld (.t 113),[113]⟩ ::
 ⟨none,some 115,.len (.t 114),[114]⟩ ::
 ⟨none,some 116,.ar .lss (.t 109) (.t 115),[109,115]⟩ :: []))
(.cond (.t 116) .skip
 (.exit 4)))
(.seq (.block 5 (.seq (.mix (
 (⟨none,some 119,.fa (.t 2) 3,[2]⟩,.q [none]) ::
 (⟨none,some 120,.ld (.t 119),[119]⟩,.q [none]) ::
 (⟨none,some 121,.mv (.t 6),[6]⟩,.q [none]) ::
 (⟨none,some 122,.ia (.t 120) (.t 121) 1,[120,121]⟩,.q [none]) ::
 (⟨none,some 123,.ld (.t 122),[122]⟩,.q [none]) ::
 (⟨none,some 124,.mv (.t 7),[7]⟩,.q [none]) ::
 (⟨none,some 125,.ia (.t 123) (.t 124) 1,[123,124]⟩,.q [none]) ::
 (⟨none,some 126,.ld (.t 125),[125]⟩,.q [none]) ::
 (⟨none,some 127,.fa (.t 3) 3,[3]⟩,.q [none]) ::
 (⟨none,some 128,.ld (.t 127),[127]⟩,.q [none]) ::
 (⟨none,some 129,.mv (.t 6),[6]⟩,.q [none]) ::
 (⟨none,some 130,.ia (.t 128) (.t 129) 1,[128,129]⟩,.q [none]) ::
 (⟨none,some 131,.ld (.t 130),[130]⟩,.q [none]) ::
 (⟨none,some 132,.mv (.t 7),[7]⟩,.q [none]) ::
 (⟨none,some 133,.ia (.t 131) (.t 132) 1,[131,132]⟩,.q [none]) ::
 (⟨none,some 134,.ld (.t 133),[133]⟩,.q [none]) ::
 (⟨none,some 135,.eq .int true (.t 126) (.t 134),[126,134]⟩,.q [none]) :: []))
(.cond (.t 135) (.seq (.region (
 ⟨none,some 4,.mv (.c (.b false)),[]⟩ :: []))
.ret)
 .skip)))
(.region (
 ⟨none,some 117,.mv (.t 7),[7]⟩ ::
 ⟨none,some 118,.ar .add (.t 117) (.c (.i .i64 1)),[117]⟩ ::
 ⟨none,some 7,.mv (.t 118),[118]⟩ :: [])))))))))
(.region (
 ⟨none,some 94,.mv (.t 6),[6]⟩ ::
 ⟨none,some 95,.ar .add (.t 94) (.c (.i .i64 1)),[94]⟩ ::
 ⟨none,some 6,.mv (.t 95),[95]⟩ :: [])))))))
(.seq (.region (
 ⟨none,some 4,.mv (.c (.b true)),[]⟩ :: []))
.ret)))))
set_option maxRecDepth 100000 in
theorem c12:fnB Tryz.prog 12=some (136,s12,[.t 4]):=by kernel_rfl
theorem ev_ext {a b:Ev_} (h:a.thread=b.thread∧a.kind=b.kind∧a.loc=b.loc∧a.val=b.val∧a.mode=b.mode):a=b:=by
 obtain⟨h1,h2,h3,h4,h5⟩:=h
 cases a
 cases b
 simp only at h1 h2 h3 h4 h5
 subst h1 h2 h3 h4 h5
 rfl
set_option maxHeartbeats 0 in
theorem pairs_spec2 {m:Bool} {h:H} {va vb:V} {a b:List (Int × Int)} (ha:Ro h va 2 pcell a) (hb:Ro h vb 2 pcell b) (hn:a.length≤100000000):FX m Tryz.prog 52 [va,vb] h fun v h'=>v=B (a=b)∧h'=h:=by
 refine Fn.env c52 rfl ?_
 unfold s52
 obtain⟨hL,hC⟩:=ha
 obtain⟨hL2,hD⟩:=hb
 refine go ?_
 refine cN (fun hne=>?_) (fun heq=>?_)
 ·skip
  refine go ?_
  exact ret_1 ⟨B_f fun h=>hne (by rw[h]),rfl⟩
 have hl:a.length=b.length:=by omega
 refine go ?_
 refine Es.loop (X:=Nat) (fun x=>a.length-x) (fun x=>[(0,va),(1,vb),(5,.i .i64 (x:Int))]) (fun x h'=>x≤a.length∧h'=h∧∀i,i<x→gt a i=gt b i) 0 ⟨rfl,rfl,rfl,trivial⟩ ⟨Nat.zero_le _,rfl,fun i hi=>absurd hi (Nat.not_lt_zero _)⟩ fun x h2 hx=>?_
 obtain⟨hx,rfl,hI⟩:=hx
 refine go ?_
 refine cD (fun hlt=>?_) (fun hge=>?_)
 ·skip
  refine go ?_
  refine emN (mS (hd:=⟨fun _=>od_neS [(.i64,(gt a x).1,(gt b x).1),(.i64,(gt a x).2,(gt b x).2)] rfl rfl rfl rfl rfl⟩) ?_)
  refine go ?_
  refine cN (fun hne=>?_) (fun he=>?_)
  ·skip
   refine go ?_
   exact ret_1 ⟨B_f fun h=>hne (by rw[h];simp),rfl⟩
  ·skip
   refine go ?_
   exact Nx.inv (x+1) (by omega) ⟨rfl,rfl,rfl,trivial⟩ ⟨by omega,rfl,fun i hi=>by
    rcases Nat.lt_succ_iff_lt_or_eq.1 hi with h1 | h1
    ·exact hI i h1
    ·subst h1
     simp only[List.mem_cons,List.not_mem_nil,or_false,forall_eq_or_imp,forall_eq]at he
     exact Prod.ext he.1 he.2⟩
 ·skip
  refine go ?_
  exact ret_1 ⟨B_t (gt_ext hl fun i hi=>hI i (by omega)),rfl⟩
structure Sz_ (g:Gr):Prop where
 ev:g.ev.length≤10000000
 rf:g.rf.length≤10000000
 co:g.co.length≤10000000
 row:∀c,c<g.co.length→(gt g.co c).length≤10000000
 rmw:g.rmw.length≤10000000
 addr:g.addr.length≤10000000
 data:g.data.length≤10000000
 ctrl:g.ctrl.length≤10000000
set_option maxHeartbeats 0 in
theorem alike_spec {m:Bool} {h:H} {gl gl':List V} {g g':Gr} (hw:Wf h) (hg:GrAt h gl g) (hg':GrAt h gl' g') (hs:Sz_ g):FX m Tryz.prog 12 [.agg gl,.agg gl'] h fun v h'=>v=B (g=g')∧Kp h h':=by
 have hone:=hg.one
 have hone':=hg'.one
 obtain⟨ve,vrf,vco,vrmw,vad,vda,vct,rfl,he,hrf,hco,hrm,had,hda,hct⟩:=hg.is
 obtain⟨we,wrf,wco,wrmw,wad,wda,wct,rfl,he',hrf',hco',hrm',had',hda',hct'⟩:=hg'.is
 obtain⟨vs,hvs,hvl,hrows⟩:=hco.is
 obtain⟨ws,hws,hwl,hrows'⟩:=hco'.is
 refine Fn.env c12 rfl ?_
 unfold s12
 refine Es.seq (Es.region (ew_bx (hz:=hone) fun b h1 ob k1=>?_))
 refine ew_bx (hz:=hone') fun b' h2 ob' k2=>?_
 have hw1:=k1.wf hw
 have k:=k1.trans k2
 have hkp:=k
 have hB:=ob.bx.kp k2 hw1
 have hB':=ob'.bx
 have hw2:=k2.wf hw1
 obtain⟨hL,hC⟩:=he.kp k hw
 obtain⟨hL',hC'⟩:=he'.kp k hw
 obtain⟨hLc,hD⟩:=hvs.kp k hw
 rw[hvl]at hLc hD
 obtain⟨hLc',hD'⟩:=hws.kp k hw
 rw[hwl]at hLc' hD'
 have hR:∀i,i<g.co.length→Ro h2 (gt vs i) 1 icell (gt g.co i):=fun i hi=>(hrows i hi).kp k hw
 have hR':∀i,i<g'.co.length→Ro h2 (gt ws i) 1 icell (gt g'.co i):=fun i hi=>(hrows' i hi).kp k hw
 have hrf:=hrf.kp k hw
 have hrm:=hrm.kp k hw
 have had:=had.kp k hw
 have hda:=hda.kp k hw
 have hct:=hct.kp k hw
 have hrf':=hrf'.kp k hw
 have hrm':=hrm'.kp k hw
 have had':=had'.kp k hw
 have hda':=hda'.kp k hw
 have hct':=hct'.kp k hw
 have s1:=hs.ev
 have s2:=hs.rf
 have s3:=hs.co
 have s4:=hs.rmw
 have s5:=hs.addr
 have s6:=hs.data
 have s7:=hs.ctrl
 clear hg hg' he he' hco hco' hvs hws hrows hrows' ob ob'
 refine go ?_
 repeat' ((first | refine wgd (fun _=>?_) fun _=>?_ | refine wgn (fun _=>?_) fun _=>?_ | refine wgb (fun _=>?_) fun _=>?_ | refine mgd (fun _=>?_) fun _=>?_ | refine mgn (fun _=>?_) fun _=>?_ | refine mgb (fun _=>?_) fun _=>?_ | refine cD (fun _=>?_) fun _=>?_ | refine cN (fun _=>?_) fun _=>?_ | refine cB (fun _=>?_) fun _=>?_) <;> refine go ?_)
 all_goals try exact ret_1 ⟨B_f fun h=>by subst h;omega,hkp⟩
 refine stC (pairs_spec2 hrf hrf' (by omega)) fun v h9 hR=>?_
 obtain⟨rfl,e9⟩:=hR
 obtain rfl:=e9.symm
 by_cases h_rf:g.rf=g'.rf
 case neg =>
  have hE':=h_rf
  refine go ?_
  repeat' ((first | refine wgd (fun _=>?_) fun _=>?_ | refine wgn (fun _=>?_) fun _=>?_ | refine wgb (fun _=>?_) fun _=>?_ | refine mgd (fun _=>?_) fun _=>?_ | refine mgn (fun _=>?_) fun _=>?_ | refine mgb (fun _=>?_) fun _=>?_ | refine cD (fun _=>?_) fun _=>?_ | refine cN (fun _=>?_) fun _=>?_ | refine cB (fun _=>?_) fun _=>?_) <;> refine go ?_)
  all_goals first
   | exact ret_1 ⟨B_f fun h=>h_rf (by rw[h]),hkp⟩
   | exact absurd (by assumption) hE'
 refine go ?_
 repeat' ((first | refine wgd (fun _=>?_) fun _=>?_ | refine wgn (fun _=>?_) fun _=>?_ | refine wgb (fun _=>?_) fun _=>?_ | refine mgd (fun _=>?_) fun _=>?_ | refine mgn (fun _=>?_) fun _=>?_ | refine mgb (fun _=>?_) fun _=>?_ | refine cD (fun _=>?_) fun _=>?_ | refine cN (fun _=>?_) fun _=>?_ | refine cB (fun _=>?_) fun _=>?_) <;> refine go ?_)
 all_goals try exact absurd h_rf (by assumption)
 refine stC (pairs_spec2 hrm hrm' (by omega)) fun v h9 hR=>?_
 obtain⟨rfl,e9⟩:=hR
 obtain rfl:=e9.symm
 by_cases h_rm:g.rmw=g'.rmw
 case neg =>
  have hE':=h_rm
  refine go ?_
  repeat' ((first | refine wgd (fun _=>?_) fun _=>?_ | refine wgn (fun _=>?_) fun _=>?_ | refine wgb (fun _=>?_) fun _=>?_ | refine mgd (fun _=>?_) fun _=>?_ | refine mgn (fun _=>?_) fun _=>?_ | refine mgb (fun _=>?_) fun _=>?_ | refine cD (fun _=>?_) fun _=>?_ | refine cN (fun _=>?_) fun _=>?_ | refine cB (fun _=>?_) fun _=>?_) <;> refine go ?_)
  all_goals first
   | exact ret_1 ⟨B_f fun h=>h_rm (by rw[h]),hkp⟩
   | exact absurd (by assumption) hE'
 refine go ?_
 repeat' ((first | refine wgd (fun _=>?_) fun _=>?_ | refine wgn (fun _=>?_) fun _=>?_ | refine wgb (fun _=>?_) fun _=>?_ | refine mgd (fun _=>?_) fun _=>?_ | refine mgn (fun _=>?_) fun _=>?_ | refine mgb (fun _=>?_) fun _=>?_ | refine cD (fun _=>?_) fun _=>?_ | refine cN (fun _=>?_) fun _=>?_ | refine cB (fun _=>?_) fun _=>?_) <;> refine go ?_)
 all_goals try exact absurd h_rm (by assumption)
 refine stC (pairs_spec2 had had' (by omega)) fun v h9 hR=>?_
 obtain⟨rfl,e9⟩:=hR
 obtain rfl:=e9.symm
 by_cases h_ad:g.addr=g'.addr
 case neg =>
  have hE':=h_ad
  refine go ?_
  repeat' ((first | refine wgd (fun _=>?_) fun _=>?_ | refine wgn (fun _=>?_) fun _=>?_ | refine wgb (fun _=>?_) fun _=>?_ | refine mgd (fun _=>?_) fun _=>?_ | refine mgn (fun _=>?_) fun _=>?_ | refine mgb (fun _=>?_) fun _=>?_ | refine cD (fun _=>?_) fun _=>?_ | refine cN (fun _=>?_) fun _=>?_ | refine cB (fun _=>?_) fun _=>?_) <;> refine go ?_)
  all_goals first
   | exact ret_1 ⟨B_f fun h=>h_ad (by rw[h]),hkp⟩
   | exact absurd (by assumption) hE'
 refine go ?_
 repeat' ((first | refine wgd (fun _=>?_) fun _=>?_ | refine wgn (fun _=>?_) fun _=>?_ | refine wgb (fun _=>?_) fun _=>?_ | refine mgd (fun _=>?_) fun _=>?_ | refine mgn (fun _=>?_) fun _=>?_ | refine mgb (fun _=>?_) fun _=>?_ | refine cD (fun _=>?_) fun _=>?_ | refine cN (fun _=>?_) fun _=>?_ | refine cB (fun _=>?_) fun _=>?_) <;> refine go ?_)
 all_goals try exact absurd h_ad (by assumption)
 refine stC (pairs_spec2 hda hda' (by omega)) fun v h9 hR=>?_
 obtain⟨rfl,e9⟩:=hR
 obtain rfl:=e9.symm
 by_cases h_da:g.data=g'.data
 case neg =>
  have hE':=h_da
  refine go ?_
  repeat' ((first | refine wgd (fun _=>?_) fun _=>?_ | refine wgn (fun _=>?_) fun _=>?_ | refine wgb (fun _=>?_) fun _=>?_ | refine mgd (fun _=>?_) fun _=>?_ | refine mgn (fun _=>?_) fun _=>?_ | refine mgb (fun _=>?_) fun _=>?_ | refine cD (fun _=>?_) fun _=>?_ | refine cN (fun _=>?_) fun _=>?_ | refine cB (fun _=>?_) fun _=>?_) <;> refine go ?_)
  all_goals first
   | exact ret_1 ⟨B_f fun h=>h_da (by rw[h]),hkp⟩
   | exact absurd (by assumption) hE'
 refine go ?_
 repeat' ((first | refine wgd (fun _=>?_) fun _=>?_ | refine wgn (fun _=>?_) fun _=>?_ | refine wgb (fun _=>?_) fun _=>?_ | refine mgd (fun _=>?_) fun _=>?_ | refine mgn (fun _=>?_) fun _=>?_ | refine mgb (fun _=>?_) fun _=>?_ | refine cD (fun _=>?_) fun _=>?_ | refine cN (fun _=>?_) fun _=>?_ | refine cB (fun _=>?_) fun _=>?_) <;> refine go ?_)
 all_goals try exact absurd h_da (by assumption)
 refine stC (pairs_spec2 hct hct' (by omega)) fun v h9 hR=>?_
 obtain⟨rfl,e9⟩:=hR
 obtain rfl:=e9.symm
 by_cases h_ct:g.ctrl=g'.ctrl
 case neg =>
  have hE':=h_ct
  refine go ?_
  repeat' ((first | refine wgd (fun _=>?_) fun _=>?_ | refine wgn (fun _=>?_) fun _=>?_ | refine wgb (fun _=>?_) fun _=>?_ | refine mgd (fun _=>?_) fun _=>?_ | refine mgn (fun _=>?_) fun _=>?_ | refine mgb (fun _=>?_) fun _=>?_ | refine cD (fun _=>?_) fun _=>?_ | refine cN (fun _=>?_) fun _=>?_ | refine cB (fun _=>?_) fun _=>?_) <;> refine go ?_)
  all_goals first
   | exact ret_1 ⟨B_f fun h=>h_ct (by rw[h]),hkp⟩
   | exact absurd (by assumption) hE'
 refine go ?_
 repeat' ((first | refine wgd (fun _=>?_) fun _=>?_ | refine wgn (fun _=>?_) fun _=>?_ | refine wgb (fun _=>?_) fun _=>?_ | refine mgd (fun _=>?_) fun _=>?_ | refine mgn (fun _=>?_) fun _=>?_ | refine mgb (fun _=>?_) fun _=>?_ | refine cD (fun _=>?_) fun _=>?_ | refine cN (fun _=>?_) fun _=>?_ | refine cB (fun _=>?_) fun _=>?_) <;> refine go ?_)
 all_goals try exact absurd h_ct (by assumption)
 have l1:g.ev.length=g'.ev.length:=by omega
 have l2:g.co.length=g'.co.length:=by omega
 have l3:g.cells=g'.cells:=by omega
 
 refine Es.loop (X:=Nat) (fun x=>g.ev.length-x) (fun x=>[(2,.p b 0),(3,.p b' 0),(5,.i .i64 (x:Int))]) (fun x h'=>x≤g.ev.length∧h'=h2∧∀i,i<x→gt g.ev i=gt g'.ev i) 0 ⟨rfl,rfl,rfl,trivial⟩ ⟨Nat.zero_le _,rfl,fun i hi=>absurd hi (Nat.not_lt_zero _)⟩ fun x h3 hx=>?_
 obtain⟨hx,e3,hI⟩:=hx
 obtain rfl:=e3.symm
 refine go ?_
 refine cD (fun hlt=>?_) (fun hge=>?_)
 ·skip
  refine go ?_
  refine emN (mS (hd:=⟨fun _=>od_neS [(.i64,(gt g.ev x).thread,(gt g'.ev x).thread),(.i64,(gt g.ev x).kind,(gt g'.ev x).kind),(.i64,(gt g.ev x).loc,(gt g'.ev x).loc),(.u64,(gt g.ev x).val,(gt g'.ev x).val),(.i64,(gt g.ev x).mode,(gt g'.ev x).mode)] rfl rfl rfl rfl rfl⟩) ?_)
  refine go ?_
  refine cN (fun hne=>?_) (fun he=>?_)
  ·skip
   refine go ?_
   exact ret_1 ⟨B_f fun h=>hne (by subst h;simp),hkp⟩
  ·skip
   refine go ?_
   exact Nx.inv (x+1) (by omega) ⟨rfl,rfl,rfl,trivial⟩ ⟨by omega,rfl,fun i hi=>by
    rcases Nat.lt_succ_iff_lt_or_eq.1 hi with h1 | h1
    ·exact hI i h1
    ·subst h1
     simp only[List.mem_cons,List.not_mem_nil,or_false,forall_eq_or_imp,forall_eq]at he
     exact ev_ext he⟩
 have hev:g.ev=g'.ev:=gt_ext l1 fun i hi=>hI i (by omega)
 refine go ?_
 
 refine Es.loop (X:=Nat) (fun x=>g.co.length-x) (fun x=>[(2,.p b 0),(3,.p b' 0),(6,.i .i64 (x:Int))]) (fun x h'=>x≤g.co.length∧h'=h2∧∀i,i<x→gt g.co i=gt g'.co i) 0 ⟨rfl,rfl,rfl,trivial⟩ ⟨Nat.zero_le _,rfl,fun i hi=>absurd hi (Nat.not_lt_zero _)⟩ fun c h3 hx=>?_
 obtain⟨hc,e3,hJ⟩:=hx
 obtain rfl:=e3.symm
 refine go ?_
 refine cD (fun hlt=>?_) (fun hge=>?_)
 ·obtain⟨hLr,hCr⟩:=hR c (by omega)
  have hLr:Ln (vcell (gt vs c) 0) 1 (gt g.co c).length:=hLr
  have hCr:Cs h2 (vcell (gt vs c) 0) 1 (gt g.co c).length fun i k=>icell (gt (gt g.co c) i) k:=hCr
  obtain⟨hLr',hCr'⟩:=hR' c (by omega)
  have hLr':Ln (vcell (gt ws c) 0) 1 (gt g'.co c).length:=hLr'
  have hCr':Cs h2 (vcell (gt ws c) 0) 1 (gt g'.co c).length fun i k=>icell (gt (gt g'.co c) i) k:=hCr'
  have hsr:=hs.row c (by omega)
  refine go ?_
  refine cN (fun hne=>?_) (fun hle=>?_)
  ·skip
   refine go ?_
   exact ret_1 ⟨B_f fun h=>hne (by rw[h]),hkp⟩
  have hle:(gt g.co c).length=(gt g'.co c).length:=by omega
  refine go ?_
  refine Es.loop (X:=Nat) (fun x=>(gt g.co c).length-x) (fun x=>[(2,.p b 0),(3,.p b' 0),(6,.i .i64 (c:Int)),(7,.i .i64 (x:Int))]) (fun x h'=>x≤(gt g.co c).length∧h'=h2∧∀i,i<x→gt (gt g.co c) i=gt (gt g'.co c) i) 0 ⟨rfl,rfl,rfl,rfl,trivial⟩ ⟨Nat.zero_le _,rfl,fun i hi=>absurd hi (Nat.not_lt_zero _)⟩ fun y h4 hy=>?_
  obtain⟨hy,e4,hK⟩:=hy
  obtain rfl:=e4.symm
  refine go ?_
  refine cD (fun hlt2=>?_) (fun hge2=>?_)
  ·skip
   refine go ?_
   refine cN (fun hne=>?_) (fun he=>?_)
   ·skip
    refine go ?_
    exact ret_1 ⟨B_f fun h=>hne (by rw[h]),hkp⟩
   ·skip
    refine go ?_
    exact Nx.inv (y+1) (by omega) ⟨rfl,rfl,rfl,rfl,trivial⟩ ⟨by omega,rfl,fun i hi=>by
     rcases Nat.lt_succ_iff_lt_or_eq.1 hi with h1 | h1
     ·exact hK i h1
     ·subst h1;exact he⟩
  have hrow:gt g.co c=gt g'.co c:=gt_ext hle fun i hi=>hK i (by omega)
  refine go ?_
  exact Nx.inv (c+1) (by omega) ⟨rfl,rfl,rfl,trivial⟩ ⟨by omega,rfl,fun i hi=>by
   rcases Nat.lt_succ_iff_lt_or_eq.1 hi with h1 | h1
   ·exact hJ i h1
   ·subst h1;exact hrow⟩
 have hco:g.co=g'.co:=gt_ext l2 fun i hi=>hJ i (by omega)
 refine go ?_
 exact ret_1 ⟨B_t (by
  cases g
  cases g'
  simp only at h_rf h_rm h_ad h_da h_ct l3 hev hco
  subst h_rf h_rm h_ad h_da h_ct l3 hev hco
  rfl),hkp⟩
def s50:Sc:=(.seq (.region (
 ⟨none,some 3,.bx 100 (.t 0),[0]⟩ :: []))
(.seq (.seq (.region (
 ⟨none,some 8,.fa (.t 3) 0,[3]⟩ ::
 ⟨none,some 9,.ld (.t 8),[8]⟩ ::
 ⟨none,some 10,.mv (.t 2),[2]⟩ ::
 ⟨none,some 11,.ia (.t 9) (.t 10) 1,[9,10]⟩ ::
 ⟨none,some 12,.ld (.t 11),[11]⟩ ::
 ⟨none,some 13,.len (.t 12),[12]⟩ ::
 ⟨none,some 14,.eq .int false (.t 13) (.c (.i .i64 0)),[13]⟩ :: []))
(.cond (.t 14) .ret
 .skip))
(.seq (.region (
 ⟨none,some 15,.fa (.t 3) 0,[3]⟩ ::
 ⟨none,some 16,.ld (.t 15),[15]⟩ ::
 ⟨none,some 17,.mv (.t 2),[2]⟩ ::
 ⟨none,some 18,.ia (.t 16) (.t 17) 1,[16,17]⟩ ::
 ⟨none,some 19,.ld (.t 18),[18]⟩ ::
 ⟨none,some 20,.ia (.t 19) (.c (.i .i64 0)) 1,[19]⟩ ::
 ⟨none,some 21,.ld (.t 20),[20]⟩ ::
 ⟨none,some 6,.mv (.t 21),[21]⟩ :: []))
(.seq (.mix (
 (⟨none,some 22,.fa (.t 3) 0,[3]⟩,.q [none]) ::
 (⟨none,some 23,.ld (.t 22),[22]⟩,.q [none]) ::
 (⟨none,some 24,.mv (.t 2),[2]⟩,.q [none]) ::
 (⟨none,some 25,.fa (.t 3) 0,[3]⟩,.q [none]) ::
 (⟨none,some 26,.ld (.t 25),[25]⟩,.q [none]) ::
 (⟨none,some 27,.mv (.t 2),[2]⟩,.q [none]) ::
 (⟨none,some 28,.ia (.t 26) (.t 27) 1,[26,27]⟩,.q [none]) ::
 (⟨none,some 29,.ld (.t 28),[28]⟩,.q [none]) ::
 (⟨none,some 30,.s2 1 (.t 29) (some (.c (.i .i64 1))) none,[29]⟩,.q [none]) ::
 (⟨none,some 31,.ia (.t 23) (.t 24) 1,[23,24]⟩,.q [none]) ::
 (⟨none,none,.st (.t 31) (.t 30) 1,[31,30]⟩,.e) :: []))
(.seq (.region (
 ⟨none,some 32,.mv (.t 1),[1]⟩ ::
 ⟨none,some 33,.mv (.t 6),[6]⟩ ::
 ⟨none,some 34,.ia (.t 32) (.t 33) 5,[32,33]⟩ ::
 ⟨none,some 35,.fa (.t 34) 2,[34]⟩ ::
 ⟨none,some 36,.ld (.t 35),[35]⟩ ::
 ⟨none,some 7,.mv (.t 36),[36]⟩ :: []))
(.mix (
 (⟨none,some 37,.fa (.t 3) 1,[3]⟩,.q [none,(some 9),(some 10)]) ::
 (⟨none,some 38,.ld (.t 37),[37]⟩,.q [none,(some 9),(some 10)]) ::
 (⟨none,some 39,.mv (.t 7),[7]⟩,.q [none,(some 9),(some 10)]) ::
 (⟨none,some 40,.fa (.t 3) 1,[3]⟩,.q [none,(some 9)]) ::
 (⟨none,some 41,.ld (.t 40),[40]⟩,.q [none,(some 9)]) ::
 (⟨none,some 42,.mv (.t 7),[7]⟩,.q [none,(some 9)]) ::
 (⟨none,some 43,.ia (.t 41) (.t 42) 1,[41,42]⟩,.q [none,(some 9)]) ::
 (⟨none,some 44,.ld (.t 43),[43]⟩,.q [none,(some 9)]) ::
 (⟨none,some 45,.mv (.t 6),[6]⟩,.q [none]) ::
 (⟨none,some 46,.bs 3 1 1 [(.i .i64 0)] [(0,1,(.t 45))],[45]⟩,.e) ::
 (⟨none,some 47,.ap 3 1 8 (.t 44) (.t 46),[44,46]⟩,.e) ::
 (⟨none,some 48,.ia (.t 38) (.t 39) 1,[38,39]⟩,.q [(some 10)]) ::
 (⟨none,none,.st (.t 48) (.t 47) 1,[48,47]⟩,.e) :: [])))))))
set_option maxRecDepth 100000 in
theorem c50:fnB Tryz.prog 50=some (49,s50,[]):=by kernel_rfl
theorem cells_one4 {v:V} (h:v.one=true):v.cells = [v]:=by
 cases v <;> first | rfl | cases h
theorem ione (x:Int):allOne (upto (icell x) 1 0)=true:=rfl
theorem rw_new1 {h:H} {ty:TypeId} {l:List V} {n:Nat} (hn:l.length=n):Rw (h.new ty l false) h.next n 0 l:=⟨by
 have:=rowC_of (h:=h.new ty l false) (b:=h.next) (o:=0) (l:=l) fun j _=>by rw[new_cell,if_pos rfl,Nat.zero_add]
 rwa [hn]at this⟩
set_option maxHeartbeats 0 in
theorem flush_spec {m:Bool} {h:H} {n0:Nat} {P:Nat→Prop} {vq vo ve:V} {qs os:List V} {Q O:List (List Int)} {evs:List Ev_} {t:Nat} (hw:Wf h) (hm:Mac h n0 P vq vo 27 27 1 3 icell Q O qs os) (he:Ro h ve 5 ecell evs) (hve:0<evs.length→¬P ve.ba) (ht:t<Q.length) (hq:∀x∈gt Q t,0≤x∧x<evs.length∧0≤(gt evs x.toNat).loc∧(gt evs x.toNat).loc<O.length)
  (hP:∀k,h.next≤k→P k) (hn0:n0≤h.next) (hsz:lenT Q+lenT O≤1000000):FX m Tryz.prog 50 [.agg [vq,vo],ve,.i .i64 (t:Int)] h fun v h'=>v=.u∧(∃qs' os',Mac h' n0 P vq vo 27 27 1 3 icell (flushP evs Q O t).1 (flushP evs Q O t).2 qs' os')∧Pr P h h':=by
 have o1:=hm.q.ln.one
 have o2:=hm.o.ln.one
 refine Fn.env c50 rfl ?_
 unfold s50
 refine Es.seq (Es.region (ew_bx (hz:=allOne_cons o1 (allOne_cons o2 rfl)) fun b h1 ob k1=>?_))
 have hw1:=k1.wf hw
 have hB:=ob.bx
 have hm1:=hm.kp k1
 have hL:=hm1.q.ln
 rw[hm.ql]at hL
 have hC:=hm1.q.cs
 rw[hm.ql]at hC
 have hR:=(hm1.qr t ht).ro
 obtain⟨hLr,hCr⟩:=hR
 have hLr:Ln (vcell (gt qs t) 0) 1 (gt Q t).length:=hLr
 have hCr:Cs h1 (vcell (gt qs t) 0) 1 (gt Q t).length fun i k=>icell (gt (gt Q t) i) k:=hCr
 have b1:=ob.lo
 have b2:=hm.q.blk.2.2
 have b3:=hm.o.blk.2.2
 have hbl:=lenT_le ht
 refine go ?_
 refine cD (fun h0=>?_) (fun h0=>?_)
 ·skip
  refine go ?_
  have e0:gt Q t = []:=List.length_eq_zero_iff.1 (by omega)
  exact ret_0 ⟨rfl,by rw[flushP_nil e0];exact⟨qs,os,hm1⟩,Pr.of_kp k1⟩
 ·cases hqt:gt Q t with
  | nil=>rw[hqt]at h0;exact absurd rfl h0
  | cons w r =>
  rw[hqt,List.length_cons]at hLr hCr
  have hwc:Ce h1 (vcell (gt qs t) 0).ba (vcell (gt qs t) 0).of (.i .i64 w):=hCr.hd0 (Nat.zero_lt_succ _) (by decide)
  obtain⟨hx0,hx1,hx2,hx3⟩:=hq w (by rw[hqt];exact List.mem_cons_self)
  refine go ?_
  have hG:=hm1.qr t ht
  rw[hqt]at hG
  obtain⟨hG',hbk⟩:=hG.tl
  refine emN (mS (v:=tlV (vcell (gt qs t) 0) 1) (hd:=⟨fun _=>by exact od_tl hLr (by omega) rfl rfl⟩) ?_)
  refine go ?_
  have o3:=hG'.ln.one
  have l0:=hm.ql
  refine em_arQ (tlV (gt qs t) 1) hm1.q (i:=t) (by omega) (fun h2 hA2 m2=>?_) (hv:=cells_one4 o3) (h1:=by show((tlV (gt qs t) 1).one&&true)=true;rw[o3];rfl) (hl:=fun _ _=>trivial)
  have hne:∀k,(tlV (gt qs t) 1).blk=some k→some vq.ba≠some k:=fun k hk e=>by
   rw[hbk]at hk
   injection e with e
   exact(hm.qa t ht k hk).1 e.symm
  have hP2:=hm.putQ ht k1 (Mo.refl _) m2 hA2 (hG'.mo m2 hne) (fun k hk=>.inl (by rw[hbk]at hk;exact hk))
  obtain⟨hm2,p2⟩:=hP2
  have hw2:=p2.wf hw
  have le2:=p2.le
  have m2le:=m2.le
  have k1le:=k1.le
  have bhi:=ob.hi
  obtain⟨hLe,hCe⟩:=p2.ro hw (by decide) he hve
  have hB2:Bx h2 b [vq,vo]:=⟨fun k v hk=>⟨(m2.cell ob.hi fun e=>by injection e with e;omega).trans (hB.eq k v hk).eq⟩⟩
  clear hB hC hL hLr hCr hG hG' hA2 hm1 hwc
  have hlo:(gt evs w.toNat).loc.toNat<O.length:=by omega
  have hl2:=lenT_le hlo
  have hLo:=hm2.o.ln
  rw[hm.ol]at hLo
  have hCo:=hm2.o.cs
  rw[hm.ol]at hCo
  have hXo:=hm2.or_ _ hlo
  refine gol ?_
  refine em_bs (l:=upto (icell w) 1 0) rfl rfl rfl ⟨fun _=>FCe.of (Ce.kp kp_new hw2 (ce_s0 hCo hlo (by decide))),⟨fun _=>FCe.of (Ce.kp kp_new hw2 (ce_b hB2 rfl)),⟨fun _=>FCe.of (Ce.kp kp_new hw2 (ce_b hB2 rfl)),trivial⟩⟩⟩ ?_
  have k3:Kp h2 (h2.new 3 (upto (icell w) 1 0) false):=kp_new
  have hrw:Rw (h2.new 3 (upto (icell w) 1 0) false) h2.next (1*1) 0 (upto (icell w) 1 0):=rw_new1 rfl
  have hm3:=hm2.kp k3
  have hB3:=hB2.kp k3 hw2
  have k3le:=k3.le
  have hbO:∀k,(gt os (gt evs w.toNat).loc.toNat).blk=some k→k<h.next:=fun k hk=>((hm.or_ _ hlo).blk k hk).2
  refine em_gx (n0:=n0) w (hm3.or_ _ hlo) rfl rfl hrw ione (by decide) (by omega) (by omega) (fun h4 m4=>⟨fun (hk:some 10∈[none,some 9])=>absurd hk (by decide),⟨fun (hk:some 10∈[none,some 9])=>absurd hk (by decide),⟨fun _=>FCe.of ⟨(m4.cell (by omega) fun e=>by have:=hbO _ e;omega).trans (hB3.eq 1 vo rfl).eq⟩,trivial⟩⟩⟩) fun v' h4 hbk4 hG4 m4=>?_
  refine go ?_
  have o4:=hG4.ln.one
  have hA4:=hm3.o.mo m4 fun e=>((hm.oa _ hlo _ e).2.1 rfl)
  have ol0:=hm.ol
  refine em_arQ v' hA4 (i:=(gt evs w.toNat).loc.toNat) (by omega) (fun h5 hA5 m5=>?_) (hv:=cells_one4 o4) (h1:=by show(v'.one&&true)=true;rw[o4];rfl) (hl:=fun h' _=>⟨fun (hk:some 12∈[none,some 9])=>absurd hk (by decide),⟨fun (hk:some 12∈[none,some 9])=>absurd hk (by decide),⟨fun (hk:some 12∈[none,some 9,some 10])=>absurd hk (by decide),trivial⟩⟩⟩)
  have hG5:=hG4.mo m5 fun k hk e=>by
   rw[hbk4]at hk
   injection hk with hk
   injection e with e
   omega
  obtain⟨hm5,p5⟩:=hm2.putO hlo k3 m4 m5 hA5 hG5.gx fun k hk=>.inr (by
   rw[hbk4]at hk
   injection hk with hk
   exact⟨by omega,hP k (by omega)⟩)
  refine go ?_
  exact end_0 ⟨rfl,by rw[flushP_cons hqt];exact⟨_,_,hm5⟩,p2.trans p5⟩
def s51:Sc:=(.seq (.region (
 ⟨none,some 2,.bx 100 (.t 0),[0]⟩ :: []))
(.seq (.region (
 ⟨none,some 4,.mv (.c (.i .i64 0)),[]⟩ :: []))
(.block 0 (.loop (.seq (.seq (.region (
 ⟨none,some 5,.mv (.t 4),[4]⟩ ::
 ⟨none,some 6,.fa (.t 2) 0,[2]⟩ ::
 ⟨none,some 7,.ld (.t 6),[6]⟩ ::
 ⟨none,some 8,.len (.t 7),[7]⟩ ::
 ⟨none,some 9,.ar .lss (.t 5) (.t 8),[5,8]⟩ :: []))
(.cond (.t 9) .skip
 (.exit 0)))
(.seq (.block 1 (.block 2 (.loop (.seq (.seq (.region (
 ⟨none,some 12,.fa (.t 2) 0,[2]⟩ ::
 ⟨none,some 13,.ld (.t 12),[12]⟩ ::
 ⟨none,some 14,.mv (.t 4),[4]⟩ ::
 ⟨none,some 15,.ia (.t 13) (.t 14) 1,[13,14]⟩ ::
 ⟨none,some 16,.ld (.t 15),[15]⟩ ::
 ⟨none,some 17,.len (.t 16),[16]⟩ ::
 ⟨none,some 18,.ar .gtr (.t 17) (.c (.i .i64 0)),[17]⟩ :: []))
(.cond (.t 18) .skip
 (.exit 2)))
(.block 3 (.region (
 ⟨none,some 19,.lds (.t 2) 2,[2]⟩ ::
 ⟨none,some 20,.mv (.t 1),[1]⟩ ::
 ⟨none,some 21,.mv (.t 4),[4]⟩ ::
 ⟨none,some 22,.call 50 [(.t 19),(.t 20),(.t 21)],[19,20,21]⟩ :: [])))))))
(.region (
 ⟨none,some 10,.mv (.t 4),[4]⟩ ::
 ⟨none,some 11,.ar .add (.t 10) (.c (.i .i64 1)),[10]⟩ ::
 ⟨none,some 4,.mv (.t 11),[11]⟩ :: []))))))))
set_option maxRecDepth 100000 in
theorem c51:fnB Tryz.prog 51=some (23,s51,[]):=by kernel_rfl
theorem flush_less {ev:List Ev_} {Q O:List (List Int)} {t:Nat} (ht:t<Q.length) (h:gt Q t≠[]):(gt (flushP ev Q O t).1 t).length<(gt Q t).length:=by
 cases hq:gt Q t with
 | nil=>exact absurd hq h
 | cons w r =>
  rw[flushP_cons hq]
  show(gt (Q.set t r) t).length<_
  rw[gt_set ht,if_pos rfl,List.length_cons]
  omega
set_option maxHeartbeats 0 in
theorem end_spec {m:Bool} {h:H} {n0 n:Nat} {P:Nat→Prop} {vq vo ve:V} {qs os:List V} {T Q O:List (List Int)} {F ps:List Int} {g:Gr} (hw:Wf h) (hm:Mac h n0 P vq vo 27 27 1 3 icell Q O qs os) (he:Ro h ve 5 ecell g.ev) (hve:0<g.ev.length→¬P ve.ba) (hg:Gp g n T Q O F) (hn:n≤64)
  (hP:∀k,h.next≤k→P k) (hn0:n0≤h.next):FX m Tryz.prog 51 [.agg [vq,vo],ve] h fun v h'=>v=.u∧(∃Q' O' qs' os',Mac h' n0 P vq vo 27 27 1 3 icell Q' O' qs' os'∧Gp g n T Q' O' F∧Leads g ps n ⟨.en 0,T,Q,O,F⟩ ⟨.en n,T,Q',O',F⟩)∧Pr P h h':=by
 have o1:=hm.q.ln.one
 have o2:=hm.o.ln.one
 refine Fn.env c51 rfl ?_
 unfold s51
 refine Es.seq (Es.region (ew_bx (hz:=allOne_cons o1 (allOne_cons o2 rfl)) fun b h1 ob k1=>?_))
 have hw1:=k1.wf hw
 have hB1:=ob.bx
 have b1:=ob.lo
 have b2:=ob.hi
 have hm1:=(hm.chP (P':=fun k=>P k∧k≠b) fun k hk hp=>⟨hp,by omega⟩).kp k1
 have hP1:∀k,h1.next≤k→P k∧k≠b:=fun k hk=>⟨hP k (by have:=k1.le;omega),by omega⟩
 have k1le:=k1.le
 have he1:=he.kp k1 hw
 clear hm he
 refine go ?_
 refine Es.loop (X:=Nat × List (List Int) × List (List Int) × List V × List V) (fun x=>n-x.1) (fun x=>[(1,ve),(2,.p b 0),(4,.i .i64 (x.1:Int))]) (fun x h'=>x.1≤n∧Mac h' n0 (fun k=>P k∧k≠b) vq vo 27 27 1 3 icell x.2.1 x.2.2.1 x.2.2.2.1 x.2.2.2.2∧Gp g n T x.2.1 x.2.2.1 F∧Leads g ps n ⟨.en 0,T,Q,O,F⟩ ⟨.en x.1,T,x.2.1,x.2.2.1,F⟩∧Pr (fun k=>P k∧k≠b) h1 h') (0,Q,O,qs,os) ⟨rfl,rfl,rfl,trivial⟩ ⟨Nat.zero_le _,hm1,hg,.refl _,.refl _ _⟩ fun x h2 hx=>?_
 obtain⟨t,Q2,O2,qs2,os2⟩:=x
 clear hm1 hg
 obtain⟨htn,hm2,hg2,hL2,p2⟩:=hx
 simp only at htn hm2 hg2 hL2 ⊢
 have hB:=p2.bx hB1 b2 (fun h=>h.2 rfl)
 have hLn:=hm2.q.ln
 rw[hm2.ql,hg2.ql]at hLn
 refine go ?_
 refine cD (fun hlt=>?_) (fun hge=>?_)
 ·clear hB hLn
  refine go ?_
  refine Es.loop (X:=List (List Int) × List (List Int) × List V × List V) (fun y=>(gt y.1 t).length) (fun y=>[(1,ve),(2,.p b 0),(4,.i .i64 (t:Int))]) (fun y h'=>Mac h' n0 (fun k=>P k∧k≠b) vq vo 27 27 1 3 icell y.1 y.2.1 y.2.2.1 y.2.2.2∧Gp g n T y.1 y.2.1 F∧Leads g ps n ⟨.en 0,T,Q,O,F⟩ ⟨.en t,T,y.1,y.2.1,F⟩∧Pr (fun k=>P k∧k≠b) h1 h') (Q2,O2,qs2,os2) ⟨rfl,rfl,rfl,trivial⟩ ⟨hm2,hg2,hL2,p2⟩ fun y h3 hy=>?_
  obtain⟨Q3,O3,qs3,os3⟩:=y
  clear hm2 hg2 hL2 p2
  obtain⟨hm3,hg3,hL3,p3⟩:=hy
  simp only at hm3 hg3 hL3 ⊢
  have hw3:=p3.wf hw1
  have hB:=p3.bx hB1 b2 (fun h=>h.2 rfl)
  have ht:t<n:=by omega
  have ht3:t<Q3.length:=by rw[hg3.ql];exact ht
  have hLn:=hm3.q.ln
  rw[hm3.ql]at hLn
  have hC:=hm3.q.cs
  rw[hm3.ql]at hC
  have hLr:Ln (vcell (gt qs3 t) 0) 1 (gt Q3 t).length:=(hm3.qr t ht3).ln
  refine go ?_
  refine cD (fun hpos=>?_) (fun hnp=>?_)
  ·have hne:gt Q3 t≠[]:=fun e=>by rw[e]at hpos;exact absurd hpos (by decide)
   have hcar:=hm3.or_
   have he3:=p3.ro hw1 (by decide) he1 (fun h h'=>hve h h'.1)
   refine go ?_
   refine stC (flush_spec hw3 hm3 he3 (fun h h'=>hve h h'.1) ht3 (fun x hx=>?_) (fun k hk=>hP1 k (Nat.le_trans p3.le hk)) (by have:=p3.le;omega) (by have:=hg3.sz;omega)) (fun v h4 ⟨_,⟨qs4,os4,hm4⟩,p4⟩=>?_)
   ·have h5:=hg3.q t ht x hx
    have h6:=hg3.ol
    exact⟨h5.1,h5.2.1,h5.2.2.2.1,by rw[h6];exact h5.2.2.2.2⟩
   ·skip
    refine go ?_
    exact Nx.inv ((flushP g.ev Q3 O3 t).1,(flushP g.ev Q3 O3 t).2,qs4,os4) (flush_less ht3 hne) ⟨rfl,rfl,rfl,trivial⟩ ⟨hm4,hg3.flush ht,hL3.next (next_enf ht hne),p3.trans p4⟩
  ·have he:gt Q3 t = []:=List.length_eq_zero_iff.1 (by omega)
   refine go ?_
   exact Nx.inv (t+1,Q3,O3,qs3,os3) (by simp only;omega) ⟨rfl,rfl,rfl,trivial⟩ ⟨by simp only;omega,hm3,hg3,hL3.next (next_ene ht he),p3⟩
 ·obtain rfl:t=n:=by omega
  refine go ?_
  exact end_0 ⟨rfl,⟨Q2,O2,qs2,os2,hm2.chP fun k _ h=>h.1,hg2,hL2⟩,(Pr.of_kp k1).trans (p2.sub fun k _ h=>h.1)⟩
end Go.Proofs.YtkcdehffcddciaaGreatDoor.Vm
