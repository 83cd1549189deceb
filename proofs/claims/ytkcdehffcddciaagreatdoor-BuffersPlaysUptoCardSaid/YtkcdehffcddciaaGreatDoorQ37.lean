/- The reference's Play. -/
import Derived.Test.YtkcdehffcddciaaGreatDoorQ23
import Derived.Test.YtkcdehffcddciaaGreatDoorQ28
import Derived.Test.YtkcdehffcddciaaGreatDoorQ36
import Derived.Test.YtkcdehffcddciaaGreatDoorQ34
namespace Go.Proofs.YtkcdehffcddciaaGreatDoor.Vm
open Go Go.RowKit
def s11:Sc:=(.seq (.region (
 ⟨none,some 2,.bx 26 (.t 0),[0]⟩ ::
 ⟨none,some 4,.al 26 [(.i .i64 0),.ns,.ns,.ns,.ns,.ns,.ns,.ns],[]⟩ ::
 ⟨none,some 5,.mv (.c (.i .i64 0)),[]⟩ :: []))
(.seq (.seq (.region (
 ⟨none,some 17,.lds (.t 2) 8,[2]⟩ ::
 ⟨none,some 18,.call 45 [(.t 17)],[17]⟩ ::
 ⟨none,some 19,.nt (.t 18),[18]⟩ :: []))
(.cond (.t 19) (.seq (.region (
 ⟨none,some 20,.bd [(.i .i64 0),.ns,.ns,.ns,.ns,.ns,.ns,.ns] [],[]⟩ ::
 ⟨none,none,.st (.t 4) (.t 20) 8,[4,20]⟩ ::
 ⟨none,some 5,.mv (.c (.i .i64 4)),[]⟩ :: []))
.ret)
 .skip))
(.seq (.region (
 ⟨none,some 21,.lds (.t 2) 8,[2]⟩ ::
 ⟨none,some 22,.call 46 [(.t 21)],[21]⟩ ::
 ⟨none,some 6,.mv (.t 22),[22]⟩ :: []))
(.seq (.region (
 ⟨none,some 23,.fa (.t 2) 0,[2]⟩ ::
 ⟨none,some 24,.ld (.t 23),[23]⟩ ::
 ⟨none,some 25,.mv (.t 6),[6]⟩ ::
 ⟨none,some 26,.len (.t 25),[25]⟩ ::
 ⟨none,some 27,.call 47 [(.t 24),(.t 26)],[24,26]⟩ ::
 ⟨none,some 7,.al 100 [.ns,.ns],[]⟩ ::
 ⟨none,none,.st (.t 7) (.t 27) 2,[7,27]⟩ :: []))
(.seq (.region (
 ⟨none,some 28,.fa (.t 2) 1,[2]⟩ ::
 ⟨none,some 29,.ld (.t 28),[28]⟩ ::
 ⟨none,some 30,.len (.t 29),[29]⟩ ::
 ⟨none,some 31,.ms 3 1 8 [(.i .i64 0)] (.t 30) (.t 30),[30,30]⟩ ::
 ⟨none,some 8,.mv (.t 31),[31]⟩ :: []))
(.seq (.seq (.region (
 ⟨none,some 9,.mv (.c (.i .i64 0)),[]⟩ :: []))
(.block 0 (.loop (.seq (.seq (.region (
 ⟨none,some 32,.mv (.t 9),[9]⟩ ::
 ⟨none,some 33,.mv (.t 1),[1]⟩ ::
 ⟨none,some 34,.len (.t 33),[33]⟩ ::
 ⟨none,some 35,.ar .lss (.t 32) (.t 34),[32,34]⟩ ::
 ⟨none,some 36,.mv (.t 35),[35]⟩ ::
 ⟨some (36,true),some 37,.mv (.t 6),[6,36]⟩ ::
 ⟨some (36,true),some 38,.len (.t 37),[37,36]⟩ ::
 ⟨some (36,true),some 39,.ar .gtr (.t 38) (.c (.i .i64 0)),[38,36]⟩ ::
 ⟨none,some 40,.pk (.t 36) (.t 39) (.c (.b false)),[36,39]⟩ :: []))
(.cond (.t 40) .skip
 (.exit 0)))
(.seq (.block 1 (.seq (.region (
 ⟨none,some 44,.mv (.t 1),[1]⟩ ::
 ⟨none,some 45,.mv (.t 9),[9]⟩ ::
 ⟨none,some 46,.ia (.t 44) (.t 45) 1,[44,45]⟩ ::
 ⟨none,some 47,.ld (.t 46),[46]⟩ ::
 ⟨none,some 48,.mv (.t 6),[6]⟩ ::
 ⟨none,some 49,.len (.t 48),[48]⟩ ::
 ⟨none,some 50,.call 48 [(.t 47),(.t 49)],[47,49]⟩ ::
 ⟨none,some 43,.mv (.t 50),[50]⟩ ::
 ⟨none,some 51,.ex (.t 43) 0,[43]⟩ ::
 ⟨none,some 52,.ex (.t 43) 1,[43]⟩ ::
 ⟨none,some 10,.mv (.t 51),[51]⟩ ::
 ⟨none,some 11,.mv (.t 52),[52]⟩ :: []))
(.seq (.region (
 ⟨none,some 53,.mv (.t 11),[11]⟩ :: []))
(.cond (.t 53) (.mix (
  (⟨none, some 55, .mv (.t 6), [6]⟩, .q [none, (some 10)]) ::
  (⟨none, some 56, .mv (.t 10), [10]⟩, .q [none, (some 10)]) ::
  (⟨none, some 57, .lds (.t 2) 8, [2]⟩, .q [none]) ::
  (⟨none, some 58, .lds (.t 7) 2, [7]⟩, .q [none]) ::
  (⟨none, some 59, .mv (.t 8), [8]⟩, .q [none]) ::
  (⟨none, some 60, .mv (.t 10), [10]⟩, .q [none]) ::
  (⟨none, some 61, .mv (.t 6), [6]⟩, .q [none]) ::
  (⟨none, some 62, .mv (.t 10), [10]⟩, .q [none]) ::
  (⟨none, some 63, .ia (.t 61) (.t 62) 1, [61, 62]⟩, .q [none]) ::
  (⟨none, some 64, .ld (.t 63), [63]⟩, .q [none]) ::
  (⟨none, some 65, .call 49 [(.t 57), (.t 58), (.t 59), (.t 60), (.t 64)], [57, 58, 59, 60, 64]⟩, .e) ::
  (⟨none, some 54, .mv (.t 65), [65]⟩, .q [(some 10)]) ::
  (⟨none, some 66, .ex (.t 54) 0, [54]⟩, .q [(some 10)]) ::
  (⟨none, some 67, .ex (.t 54) 1, [54]⟩, .q [(some 10), (some 15)]) ::
  (⟨none, some 68, .ia (.t 55) (.t 56) 1, [55, 56]⟩, .q [(some 10)]) ::
  (⟨none, none, .st (.t 68) (.t 66) 1, [68, 66]⟩, .e) :: []))
 (.region (
  ⟨none, some 69, .lds (.t 7) 2, [7]⟩ ::
  ⟨none, some 70, .fa (.t 2) 1, [2]⟩ ::
  ⟨none, some 71, .ld (.t 70), [70]⟩ ::
  ⟨none, some 72, .mv (.t 10), [10]⟩ ::
  ⟨none, some 73, .call 50 [(.t 69), (.t 71), (.t 72)], [69, 71, 72]⟩ :: []))))))
(.region (
 ⟨none,some 41,.mv (.t 9),[9]⟩ ::
 ⟨none,some 42,.ar .add (.t 41) (.c (.i .i64 1)),[41]⟩ ::
 ⟨none,some 9,.mv (.t 42),[42]⟩ :: [])))))))
(.seq (.seq (.region (
 ⟨none,some 12,.mv (.c (.i .i64 0)),[]⟩ :: []))
(.block 2 (.loop (.seq (.seq (.region (
 ⟨none,some 74,.mv (.t 12),[12]⟩ ::
 ⟨none,some 75,.mv (.t 6),[6]⟩ ::
 ⟨none,some 76,.len (.t 75),[75]⟩ ::
 ⟨none,some 77,.ar .lss (.t 74) (.t 76),[74,76]⟩ :: []))
(.cond (.t 77) .skip
 (.exit 2)))
(.seq (.block 3 (.block 4 (.loop (.seq (.seq (.region (
 ⟨none,some 80,.mv (.t 6),[6]⟩ ::
 ⟨none,some 81,.mv (.t 12),[12]⟩ ::
 ⟨none,some 82,.ia (.t 80) (.t 81) 1,[80,81]⟩ ::
 ⟨none,some 83,.ld (.t 82),[82]⟩ ::
 ⟨none,some 84,.len (.t 83),[83]⟩ ::
 ⟨none,some 85,.ar .gtr (.t 84) (.c (.i .i64 0)),[84]⟩ :: []))
(.cond (.t 85) .skip
 (.exit 4)))
(.block 5 (.seq (.mix (
 (⟨none,some 87,.lds (.t 2) 8,[2]⟩,.q [none]) ::
 (⟨none,some 88,.lds (.t 7) 2,[7]⟩,.q [none]) ::
 (⟨none,some 89,.mv (.t 8),[8]⟩,.q [none]) ::
 (⟨none,some 90,.mv (.t 12),[12]⟩,.q [none]) ::
 (⟨none,some 91,.mv (.t 6),[6]⟩,.q [none]) ::
 (⟨none,some 92,.mv (.t 12),[12]⟩,.q [none]) ::
 (⟨none,some 93,.ia (.t 91) (.t 92) 1,[91,92]⟩,.q [none]) ::
 (⟨none,some 94,.ld (.t 93),[93]⟩,.q [none]) ::
 (⟨none,some 95,.call 49 [(.t 87),(.t 88),(.t 89),(.t 90),(.t 94)],[87,88,89,90,94]⟩,.e) ::
 (⟨none,some 86,.mv (.t 95),[95]⟩,.q [(some 8)]) ::
 (⟨none,some 96,.ex (.t 86) 0,[86]⟩,.q [(some 8)]) ::
 (⟨none,some 97,.ex (.t 86) 1,[86]⟩,.q [(some 8)]) ::
 (⟨none,some 13,.mv (.t 96),[96]⟩,.q [(some 8)]) ::
 (⟨none,some 14,.mv (.t 97),[97]⟩,.q [(some 8)]) :: []))
(.seq (.region (
 ⟨none,some 98,.mv (.t 6),[6]⟩ ::
 ⟨none,some 99,.mv (.t 12),[12]⟩ ::
 ⟨none,some 100,.mv (.t 13),[13]⟩ ::
 ⟨none,some 101,.ia (.t 98) (.t 99) 1,[98,99]⟩ ::
 ⟨none,none,.st (.t 101) (.t 100) 1,[101,100]⟩ :: []))
(.seq (.region (
 ⟨none,some 102,.mv (.t 14),[14]⟩ ::
 ⟨none,some 103,.nt (.t 102),[102]⟩ :: []))
(.cond (.t 103) (.region (
  ⟨none,some 104,.lds (.t 7) 2,[7]⟩ ::
  ⟨none,some 105,.fa (.t 2) 1,[2]⟩ ::
  ⟨none,some 106,.ld (.t 105),[105]⟩ ::
  ⟨none,some 107,.mv (.t 12),[12]⟩ ::
  ⟨none,some 108,.call 50 [(.t 104),(.t 106),(.t 107)],[104,106,107]⟩ :: []))
 .skip)))))))))
(.region (
 ⟨none,some 78,.mv (.t 12),[12]⟩ ::
 ⟨none,some 79,.ar .add (.t 78) (.c (.i .i64 1)),[78]⟩ ::
 ⟨none,some 12,.mv (.t 79),[79]⟩ :: [])))))))
(.seq (.region (
 ⟨none,some 109,.lds (.t 7) 2,[7]⟩ ::
 ⟨none,some 110,.fa (.t 2) 1,[2]⟩ ::
 ⟨none,some 111,.ld (.t 110),[110]⟩ ::
 ⟨none,some 112,.call 51 [(.t 109),(.t 111)],[109,111]⟩ :: []))
(.seq (.region (
 ⟨none,some 113,.lds (.t 2) 8,[2]⟩ ::
 ⟨none,some 114,.call 9 [(.t 113)],[113]⟩ ::
 ⟨none,some 15,.al 26 [(.i .i64 0),.ns,.ns,.ns,.ns,.ns,.ns,.ns],[]⟩ ::
 ⟨none,none,.st (.t 15) (.t 114) 8,[15,114]⟩ :: []))
(.seq (.region (
 ⟨none,some 115,.fa (.t 15) 2,[15]⟩ ::
 ⟨none,none,.st (.t 115) (.c .ns) 1,[115]⟩ :: []))
(.seq (.region (
 ⟨none,some 116,.fa (.t 7) 1,[7]⟩ ::
 ⟨none,some 117,.ld (.t 116),[116]⟩ ::
 ⟨none,some 118,.fa (.t 15) 3,[15]⟩ ::
 ⟨none,none,.st (.t 118) (.t 117) 1,[118,117]⟩ :: []))
(.seq (.seq (.region (
 ⟨none,some 16,.mv (.c (.i .i64 0)),[]⟩ :: []))
(.block 6 (.loop (.seq (.seq (.region (
 ⟨none,some 119,.mv (.t 16),[16]⟩ ::
 ⟨none,some 120,.fa (.t 15) 1,[15]⟩ ::
 ⟨none,some 121,.ld (.t 120),[120]⟩ ::
 ⟨none,some 122,.len (.t 121),[121]⟩ ::
 ⟨none,some 123,.ar .lss (.t 119) (.t 122),[119,122]⟩ :: []))
(.cond (.t 123) .skip
 (.exit 6)))
(.seq (.block 7 (.seq (.region (
 ⟨none,some 126,.fa (.t 15) 1,[15]⟩ ::
 ⟨none,some 127,.ld (.t 126),[126]⟩ ::
 ⟨none,some 128,.mv (.t 16),[16]⟩ ::
 ⟨none,some 129,.ia (.t 127) (.t 128) 5,[127,128]⟩ ::
 ⟨none,some 130,.fa (.t 129) 1,[129]⟩ ::
 ⟨none,some 131,.ld (.t 130),[130]⟩ ::
 ⟨none,some 132,.eq .int false (.t 131) (.c (.i .i64 1)),[131]⟩ :: []))
(.cond (.t 132) (.seq (.mix (
 (⟨none,some 133,.fa (.t 15) 2,[15]⟩,.q [none,(some 8)]) ::
 (⟨none,some 134,.ld (.t 133),[133]⟩,.q [none,(some 8)]) ::
 (⟨none,some 135,.mv (.t 8),[8]⟩,.q [none]) ::
 (⟨none,some 136,.mv (.t 16),[16]⟩,.q [none]) ::
 (⟨none,some 137,.ia (.t 135) (.t 136) 1,[135,136]⟩,.q [none]) ::
 (⟨none,some 138,.ld (.t 137),[137]⟩,.q [none]) ::
 (⟨none,some 139,.mv (.t 16),[16]⟩,.q [none]) ::
 (⟨none,some 140,.bd [(.i .i64 0),(.i .i64 0)] [(0,1,(.t 138)),(1,1,(.t 139))],[138,139]⟩,.q [none]) ::
 (⟨none,some 141,.bs 39 1 2 [(.i .i64 0),(.i .i64 0)] [(0,2,(.t 140))],[140]⟩,.e) ::
 (⟨none,some 142,.ap 39 2 16 (.t 134) (.t 141),[134,141]⟩,.e) ::
 (⟨none,some 143,.fa (.t 15) 2,[15]⟩,.q [(some 9)]) ::
 (⟨none,none,.st (.t 143) (.t 142) 1,[143,142]⟩,.e) :: []))
(.mix (
  (⟨none,some 144,.fa (.t 15) 1,[15]⟩,.q [none]) ::
  (⟨none,some 145,.ld (.t 144),[144]⟩,.q [none]) ::
  (⟨none,some 146,.mv (.t 16),[16]⟩,.q [none]) ::
  (⟨none,some 147,.fa (.t 2) 1,[2]⟩,.q [none]) ::
  (⟨none,some 148,.ld (.t 147),[147]⟩,.q [none]) ::
  (⟨none,some 149,.mv (.t 8),[8]⟩,.q [none]) ::
  (⟨none,some 150,.mv (.t 16),[16]⟩,.q [none]) ::
  (⟨none,some 151,.ia (.t 149) (.t 150) 1,[149,150]⟩,.q [none]) ::
  (⟨none,some 152,.ld (.t 151),[151]⟩,.q [none]) ::
  (⟨none,some 153,.ia (.t 148) (.t 152) 5,[148,152]⟩,.q [none]) ::
  (⟨none,some 154,.fa (.t 153) 3,[153]⟩,.q [none]) ::
  (⟨none,some 155,.ld (.t 154),[154]⟩,.q [none]) ::
  (⟨none,some 156,.ia (.t 145) (.t 146) 5,[145,146]⟩,.q [none]) ::
  (⟨none,some 157,.fa (.t 156) 3,[156]⟩,.q [none]) ::
  (⟨none,none,.st (.t 157) (.t 155) 1,[157,155]⟩,.e) :: [])))
 .skip)))
(.region (
 ⟨none,some 124,.mv (.t 16),[16]⟩ ::
 ⟨none,some 125,.ar .add (.t 124) (.c (.i .i64 1)),[124]⟩ ::
 ⟨none,some 16,.mv (.t 125),[125]⟩ :: [])))))))
(.seq (.region (
 ⟨none,some 158,.lds (.t 15) 8,[15]⟩ ::
 ⟨none,none,.st (.t 4) (.t 158) 8,[4,158]⟩ ::
 ⟨none,some 5,.mv (.c (.i .i64 0)),[]⟩ :: []))
.ret)))))))))))))
set_option maxRecDepth 100000 in
theorem c11:fnB Tryz.prog 11=some (159,s11,[.c (.lds (.t 4) 8),.t 5]):=by kernel_rfl
set_option maxHeartbeats 0 in
theorem rplay_spec {m : Bool} {h : H} {gl : List V} {vp : V} {g : Gr} {ps : List Int} (hw : Wf h) (hG : GrAt h gl g) (hth : ∀ v ∈ gl, Th h v) (hs : Sm g) (hvp : Ro h vp 1 icell ps) (hps : ps.length ≤ 10000000) : FX m Tryz.prog 11 [.agg gl, vp] h fun v h' => (∃ rl w code, v = .tup [.agg rl, .i .i64 code] ∧ GrAtN h' h.next rl w ∧ PlayR g ps w code) ∧ Kp h h' := by
  have hone := hG.one
  obtain ⟨ve, vrf, vco, vrmw, vad, vda, vct, rfl, he0, -⟩ := hG.is
  refine Fn.env c11 rfl ?_
  unfold s11
  refine Es.seq (Es.region (ew_bx (hz := hone) fun b2 h1 ob2 k1 => ?_))
  refine ew_al fun b4 h2 ob4 k2 => ?_
  have hw1 := k1.wf hw
  have hw2 := k2.wf hw1
  have k02 := k1.trans k2
  have hB2 := ob2.bx.kp k2 hw1
  have hG2 := hG.kp k02 hw
  have q1 := ob2.lo
  have q2 := ob2.hi
  have q3 := ob4.lo
  have q4 := ob4.hi
  have q5 := k1.le
  have q6 := k2.le
  refine go ?_
  refine stC (good_spec hw2 hG2 hs) (fun v h3 ⟨hv, k3⟩ => ?_)
  have hw3 := k3.wf hw2
  have hB2 := hB2.kp k3 hw2
  have hG3 := hG2.kp k3 hw2
  have ob4 := ob4.mo (Mo.of_kp k3 none) (fun e => by cases e)
  have k03 := k02.trans k3
  have q7 := k3.le
  clear hG2 ob2
  by_cases hwf : WF g false ∨ WF g true
  case neg =>
    obtain rfl : v = .b false := hv.trans (B_f hwf).symm
    refine go ?_
    refine ew_st ob4 (fun h4 ob5 m5 => ?_)
    have k5 := m5.kp k03 fun k hk => by injection hk with hk; omega
    have hB5 : Bx h4 b4 [.i .i64 0, .ns, .ns, .ns, .ns, .ns, .ns, .ns] := ob5.bx
    refine go ?_
    exact ret_ct (v := .agg [.i .i64 0, .ns, .ns, .ns, .ns, .ns, .ns, .ns]) (od_lds rfl (rw_b hB5 rfl)) ⟨⟨_, zeroG, 4, rfl, ⟨.ns, .ns, .ns, .ns, .ns, .ns, .ns, rfl, .nil, .nil, ⟨[], .nil, rfl, fun i hi => absurd hi (Nat.not_lt_zero _)⟩, .nil, .nil, .nil, .nil⟩, .inl ⟨hwf, rfl, rfl⟩⟩, k5⟩
  obtain rfl : v = .b true := hv.trans (B_t hwf).symm
  obtain ⟨z1, z2, z3, z4⟩ := wf_size hwf
  obtain ⟨wb, hwb⟩ : ∃ wb, WF g wb := by
    rcases hwf with h | h
    · exact ⟨_, h⟩
    · exact ⟨_, h⟩
  have htn := thrN_le (l := g.ev) (n := g.ev.length) z4
  obtain ⟨n, hN⟩ : ∃ n : Nat, thrN g.ev g.ev.length = n := ⟨(thrN g.ev g.ev.length).toNat, by omega⟩
  have hn : n ≤ 64 := by omega
  obtain ⟨cc, hcc⟩ : ∃ cc : Nat, g.cells = cc := ⟨g.cells.toNat, by omega⟩
  refine go ?_
  refine stC (rthreads_spec hw3 hG3 z3 z4 n hN) (fun v6 hT ⟨⟨vs, hTd, hvl, hTr⟩, kT⟩ => ?_)
  have hwT := kT.wf hw3
  have hB2 := hB2.kp kT hw3
  have k0T := k03.trans kT
  have hLt := hTd.ln
  rw [hvl] at hLt
  have q8 := kT.le
  clear hG3
  refine go ?_
  refine stC (new_spec (c := cc) (n := n) hwT (by omega) hn) (fun v hN' ⟨⟨vq, vo, ws, hv, hQ, hO, hqo, hwl, hLi⟩, kN⟩ => ?_) (ha := congrArg (fun z : Int => some [V.i .i64 z, .i .i64 (n : Int)]) hcc)
  subst hv
  have o1 := hQ.ln.one
  have o2 := hO.ln.one
  have hB2 := hB2.kp kN hwT
  have hwN := kN.wf hwT
  refine ew_al fun b7 hA ob7 kA => ?_
  refine ew_st ob7 (fun hB ob7 mB => ?_) (h1 := allOne_cons o1 (allOne_cons o2 rfl))
  have q9 := kN.le
  have q10 := ob7.lo
  have q11 := ob7.hi
  have kB : Kp hN' hB := mB.kp kA fun k hk => by injection hk with hk; subst hk; exact ob7.lo
  have hwB := kB.wf hwN
  have hB2 := hB2.kp kB hwN
  have hB7 : Bx hB b7 [vq, vo] := ob7.bx
  have he1 := he0.kp (k0T.trans (kN.trans kB)) hw
  obtain ⟨hLe, hCe⟩ := he1
  have q12 := kB.le
  have q13 := mB.le
  refine go ?_
  refine ew_ms (α := Int) (c := icell) (n := g.ev.length) 0 (fun vf hS hF kS => ?_) (by omega) (by omega)
  have kTS := kN.trans (kB.trans kS)
  have k0S := k0T.trans kTS
  have hwS := kS.wf hwB
  have hB2S := hB2.kp kS hwB
  have hB7S := hB7.kp kS hwB
  have q14 := kS.le
  have q15 := hF.blk.2.1
  have q16 := hF.blk.2.2
  have q17 := hTd.blk.2.1
  have q18 := hTd.blk.2.2
  obtain ⟨c, rfl, hcT, hcR, hcP, rfl, rfl, rfl, rfl⟩ : ∃ c : RC, c.hS = hS ∧ c.nT = hT.next ∧ c.nR = h3.next ∧ (∀ k, c.P k ↔ hT.next ≤ k ∧ k ≠ b7 ∧ k ≠ c.vf.ba) ∧ c.vq = vq ∧ c.vo = vo ∧ c.vf = vf ∧ c.v6 = v6 :=
    ⟨⟨hS, hT.next, h3.next, fun k => hT.next ≤ k ∧ k ≠ b7 ∧ k ≠ vf.ba, vq, vo, vf, v6, fun k h => h.1, fun h => h.2.2 rfl, by omega, q18⟩, rfl, rfl, rfl, fun k => Iff.rfl, rfl, rfl, rfl, rfl⟩
  have hPP : ∀ k, (c.P k ∨ k = c.vf.ba ∨ k = c.v6.ba) → h.next ≤ k := fun k hk => by
    rcases hk with hk | hk | hk
    · have := (hcP k).1 hk; omega
    · omega
    · omega
  have hP2 : ¬ (c.P b2 ∨ b2 = c.vf.ba ∨ b2 = c.v6.ba) := fun hk => by
    rcases hk with hk | hk | hk
    · have := (hcP b2).1 hk; omega
    · omega
    · omega
  have hP7 : ¬ (c.P b7 ∨ b7 = c.vf.ba ∨ b7 = c.v6.ba) := fun hk => by
    rcases hk with hk | hk | hk
    · exact ((hcP b7).1 hk).2.1 rfl
    · omega
    · omega
  have hP4 : ¬ (c.P b4 ∨ b4 = c.vf.ba ∨ b4 = c.v6.ba) := fun hk => by
    rcases hk with hk | hk | hk
    · have := (hcP b4).1 hk; omega
    · omega
    · omega
  have hRI : RI c g n c.hS ⟨0, begT g n, List.replicate n [], begO g.cells.toNat, List.replicate g.ev.length 0, vs, List.replicate n .ns, ws⟩ :=
    { mac := by
        have h1 := Mac.new hQ hO hqo hwl (fun i hi => hLi i hi)
        rw [← hcT] at h1
        have h2 : Mac hN' c.nT c.P c.vq c.vo 27 27 1 3 icell (List.replicate n []) (begO cc) (List.replicate n V.ns) ws := h1.chP (P' := c.P) fun k hk hp => (hcP k).2 ⟨by omega, by omega, by omega⟩
        have : g.cells.toNat = cc := by omega
        rw [this]
        exact h2.kp (kB.trans kS)
      gp := Gp.beg hwb hn
      fr := hF.low (by omega)
      td := by rw [hcR]; exact hTd.mo (Mo.of_kp kTS none) (fun e => by cases e)
      tl := hvl
      rows := fun t ht => by
        have h1 : gt (begT g n) t = threadL g.ev t g.ev.length := gt_mapR ht
        show Ro c.hS (gt vs t) 1 icell (gt (begT g n) t) ∧ (0 < (gt (begT g n) t).length → (gt vs t).ba < c.nT ∧ (gt vs t).ba ≠ c.v6.ba)
        rw [h1]
        refine ⟨(hTr t ht).ro.kp kTS hwT, fun h0 => ?_⟩
        have h2 := (hTr t ht).blk_some h0
        have h3 := ((hTr t ht).blk _ h2).2
        exact ⟨by omega, fun e => hTd.ne (hTr t ht) (by decide) (by rw [h2, e])⟩
      pr := .refl _ _
      wf := hwS }
  have ob4S : Ob c.hS h1.next b4 26 [.i .i64 0, .ns, .ns, .ns, .ns, .ns, .ns, .ns] := ob4.mo (Mo.of_kp (kT.trans kTS) none) (fun e => by cases e)
  have hstart : Leads g ps n (begP g n) ⟨.pk 0, begT g n, List.replicate n [], begO g.cells.toNat, List.replicate g.ev.length 0⟩ := Leads.refl _
  have hPf : ∀ {h' : H} {x : RS}, RI c g n h' x → ∀ k, h'.next ≤ k → c.P k := fun hI k hk => (hcP k).2 (by have := hI.pr.le; omega)
  have hnt : ∀ {h' : H} {x : RS}, RI c g n h' x → c.nT ≤ h'.next := fun hI => by have := hI.pr.le; omega
  have heP : 0 < g.ev.length → ¬ c.P ve.ba := fun h0 hp => by
    have h1 := (he0.cs.eq 0 0 h0 (by decide)).lt hw
    have h2 := (hcP _).1 hp
    omega
  clear ob4 hTd hTr kTS k0T kT hLt hQ hO hLi kN ob7 kA mB kB hB2 hB7 hLe hCe hF kS k1 k2 k02 k3 k03 hw1 hw2 hw3 hwT hwN hwB
  refine go ?_
  refine Es.toB (X := RS) (fun _ => [(1, vp), (2, .p b2 0), (4, .p b4 0), (6, c.v6), (7, .p b7 0), (8, c.vf)]) (fun x h' => RI c g n h' x ∧ Leads g ps n (begP g n) ⟨.dr 0, x.T, x.Q, x.O, x.F⟩) ?_ fun x hd hx => ?_
  · refine Es.loop (X := RS) (fun x => ps.length - x.i) (fun x => [(1, vp), (2, .p b2 0), (4, .p b4 0), (6, c.v6), (7, .p b7 0), (8, c.vf), (9, .i .i64 (x.i : Int))]) (fun x h' => x.i ≤ ps.length ∧ RI c g n h' x ∧ Leads g ps n (begP g n) ⟨.pk x.i, x.T, x.Q, x.O, x.F⟩) ⟨0, begT g n, List.replicate n [], begO g.cells.toNat, List.replicate g.ev.length 0, vs, List.replicate n .ns, ws⟩ ⟨rfl, rfl, rfl, rfl, rfl, rfl, rfl, trivial⟩ ⟨Nat.zero_le _, hRI, hstart⟩ fun x hl hx => ?_
    clear hRI hstart
    obtain ⟨i, T, Q, O, F, tv, qs, os⟩ := x
    obtain ⟨hi, hI, hL⟩ := hx
    simp only at hi hL ⊢
    have hk := hI.pr.kp k0S hPP
    have hwl := hI.wf
    have hB2 := hI.pr.bx hB2S (by omega) hP2
    have hB7 := hI.pr.bx hB7S (by omega) hP7
    obtain ⟨hLp, hCp⟩ := hvp.kp hk hw
    have htl : tv.length = n := hI.tl
    have hLt : Ln c.v6 1 tv.length := hI.td.ln
    have hCt : Cs hl c.v6 1 tv.length fun i k => vcell (gt tv i) k := hI.td.cs
    rw [htl] at hLt hCt
    by_cases hc : i < ps.length ∧ 0 < n
    · obtain ⟨hc1, hc2⟩ := hc
      refine go ?_
      refine stC (rpick_spec (p := gt ps i) (n := n) (by omega) (by omega)) (fun v hp ⟨hv, e⟩ => ?_)
      obtain rfl := e.symm
      have e1 := Int.emod_nonneg (gt ps i) (show (2 * (n : Int)) ≠ 0 by omega)
      have e2 := Int.emod_lt_of_pos (gt ps i) (show 0 < (2 * (n : Int)) by omega)
      obtain ⟨t, ht⟩ : ∃ t : Nat, gt ps i % (2 * (n : Int)) / 2 = t := ⟨(gt ps i % (2 * (n : Int)) / 2).toNat, by omega⟩
      have htn : t < n := by omega
      have ht' : (gt ps i % (2 * (n : Int)) / 2).toNat = t := by omega
      have hv2 : v = .tup [.i .i64 (t : Int), .b (decide (gt ps i % (2 * (n : Int)) % 2 = 0))] := by rw [hv]; unfold pickV; rw [ht]
      subst hv2
      have htq : t < Q.length := by have : Q.length = n := hI.gp.ql; omega
      have hsz : lenT T + lenT Q + lenT O ≤ 100000 := hI.gp.sz
      refine go ?_
      refine cD (fun hst => ?_) (fun hfl => ?_)
      · skip
        refine go ?_
        refine mC (stepped_spec (T := T) hwl hI.mac (hG.kp hk hw) hI.fr c.c2 (hI.rows t htn).1 hI.gp hwb htn (by have := hs.rmw; omega) (hPf hI) (hnt hI)) (fun v h6 ⟨⟨k, hv, hl6, hk6⟩, ⟨qs', os', hm6⟩, hF6, p6⟩ => ⟨trivial, ?_⟩)
        subst hv
        have hA6 : Ar h6 c.nR c.v6 1 27 vcell tv := p6.ar hI.td fun hp => by
          rcases hp with hp | hp
          · have := (hcP _).1 hp; omega
          · omega
        have oo := ((hI.rows t htn).1.tl hk6).ln.one
        refine go ?_
        refine em_arQ (tlV (gt tv t) k) hA6 (i := t) (by omega) (fun h7 hA7 m7 => ?_) (hv := cells_one4 oo) (h1 := allOne_cons oo rfl) (hl := fun _ _ => trivial)
        refine go ?_
        exact Nx.inv _ (by simp only; omega) ⟨rfl, rfl, rfl, rfl, rfl, rfl, rfl, trivial⟩ ⟨by simp only; omega, hI.step hwb htn hl6 hk6 hm6 hF6 p6 hA7 m7 (i + 1), hL.next (next_pks ⟨hc1, hc2⟩ hst ht')⟩
      · skip
        refine go ?_
        refine stC (flush_spec hwl hI.mac (he0.kp hk hw) heP htq (fun x hx => ?_) (hPf hI) (hnt hI) (by simp only; omega)) (fun v h6 ⟨_, ⟨qs', os', hm6⟩, p6⟩ => ?_)
        · have h5 := hI.gp.q t htn x hx
          have h6 : (O.length : Int) = g.cells := hI.gp.ol
          exact ⟨h5.1, h5.2.1, h5.2.2.2.1, by rw [h6]; exact h5.2.2.2.2⟩
        · skip
          refine go ?_
          exact Nx.inv _ (by simp only; omega) ⟨rfl, rfl, rfl, rfl, rfl, rfl, rfl, trivial⟩ ⟨by simp only; omega, hI.flush htn hm6 p6 (i + 1), hL.next (next_pkf ⟨hc1, hc2⟩ hfl ht')⟩
    · by_cases hc1 : i < ps.length
      · have hn0 : n = 0 := by omega
        refine go ?_
        exact Nx.to _ ⟨rfl, rfl, rfl, rfl, rfl, rfl, trivial⟩ ⟨hI, hL.next (next_pk0 hc)⟩
      · skip
        refine go ?_
        exact Nx.to _ ⟨rfl, rfl, rfl, rfl, rfl, rfl, trivial⟩ ⟨hI, hL.next (next_pk0 hc)⟩
  clear hRI hstart
  obtain ⟨i0, T0, Q0, O0, F0, tv0, qs0, os0⟩ := x
  obtain ⟨hI0, hL0⟩ := hx
  simp only at hL0
  refine go ?_
  refine Es.toB (X := RS) (fun _ => [(1, vp), (2, .p b2 0), (4, .p b4 0), (6, c.v6), (7, .p b7 0), (8, c.vf)]) (fun x h' => RI c g n h' x ∧ Leads g ps n (begP g n) ⟨.en 0, x.T, x.Q, x.O, x.F⟩) ?_ fun x he hx => ?_
  · refine Es.loop (X := RS) (fun x => n - x.i) (fun x => [(1, vp), (2, .p b2 0), (4, .p b4 0), (6, c.v6), (7, .p b7 0), (8, c.vf), (12, .i .i64 (x.i : Int))]) (fun x h' => x.i ≤ n ∧ RI c g n h' x ∧ Leads g ps n (begP g n) ⟨.dr x.i, x.T, x.Q, x.O, x.F⟩) ⟨0, T0, Q0, O0, F0, tv0, qs0, os0⟩ ⟨rfl, rfl, rfl, rfl, rfl, rfl, rfl, trivial⟩ ⟨Nat.zero_le _, hI0.at_, hL0⟩ fun x hl hx => ?_
    clear hI0 hL0
    obtain ⟨t, T1, Q1, O1, F1, tv1, qs1, os1⟩ := x
    obtain ⟨hi, hI1, hL1⟩ := hx
    simp only at hi hL1 ⊢
    have htl : tv1.length = n := hI1.tl
    have hLt : Ln c.v6 1 tv1.length := hI1.td.ln
    rw [htl] at hLt
    refine go ?_
    refine cD (fun hlt => ?_) (fun hge => ?_)
    · have htn : t < n := by omega
      refine go ?_
      refine Es.loop (X := RS) (fun x => 2 * (gt x.T t).length + (gt x.Q t).length) (fun x => [(1, vp), (2, .p b2 0), (4, .p b4 0), (6, c.v6), (7, .p b7 0), (8, c.vf), (12, .i .i64 (t : Int))]) (fun x h' => RI c g n h' x ∧ Leads g ps n (begP g n) ⟨.dr t, x.T, x.Q, x.O, x.F⟩) ⟨t, T1, Q1, O1, F1, tv1, qs1, os1⟩ ⟨rfl, rfl, rfl, rfl, rfl, rfl, rfl, trivial⟩ ⟨hI1, hL1⟩ fun x hm hx => ?_
      clear hI1 hL1
      obtain ⟨i, T, Q, O, F, tv, qs, os⟩ := x
      obtain ⟨hI, hL⟩ := hx
      simp only at hL ⊢
      have hk := hI.pr.kp k0S hPP
      have hwl := hI.wf
      have hB2 := hI.pr.bx hB2S (by omega) hP2
      have hB7 := hI.pr.bx hB7S (by omega) hP7
      have htl : tv.length = n := hI.tl
      have hCt : Cs hm c.v6 1 tv.length fun i k => vcell (gt tv i) k := hI.td.cs
      rw [htl] at hCt
      have hLr : Ln (vcell (gt tv t) 0) 1 (gt T t).length := (hI.rows t htn).1.ln
      have htq : t < Q.length := by have : Q.length = n := hI.gp.ql; omega
      have htT : t < T.length := by have : T.length = n := hI.gp.tl; omega
      have hsz : lenT T + lenT Q + lenT O ≤ 100000 := hI.gp.sz
      refine go ?_
      refine cD (fun hpos => ?_) (fun hnp => ?_)
      · have hTne : gt T t ≠ [] := fun e => by rw [e] at hpos; exact absurd hpos (by decide)
        refine go ?_
        refine mC (stepped_spec (T := T) hwl hI.mac (hG.kp hk hw) hI.fr c.c2 (hI.rows t htn).1 hI.gp hwb htn (by have := hs.rmw; omega) (hPf hI) (hnt hI)) (fun v h6 ⟨⟨k, hv, hl6, hk6⟩, ⟨qs', os', hm6⟩, hF6, p6⟩ => ⟨trivial, ?_⟩)
        have hA6 : Ar h6 c.nR c.v6 1 27 vcell tv := p6.ar hI.td fun hp => by
          rcases hp with hp | hp
          · have := (hcP _).1 hp; omega
          · omega
        have oo := ((hI.rows t htn).1.tl hk6).ln.one
        cases hdn : (stepP g.ev g.rmw Q O F t (gt T t)).done with
        | true =>
          have hless := step_less2 (T := T) htq hdn
          simp only [hdn] at hv
          subst hv
          refine go ?_
          refine ew_ar (tlV (gt tv t) k) hA6 (i := t) (by omega) (fun h7 hA7 m7 => ?_) (hv := cells_one4 oo) (h1 := allOne_cons oo rfl)
          refine go ?_
          exact Nx.inv _ (by simp only; rw [gt_set htT, if_pos rfl]; exact hless) ⟨rfl, rfl, rfl, rfl, rfl, rfl, rfl, trivial⟩ ⟨hI.step hwb htn hl6 hk6 hm6 hF6 p6 hA7 m7 t, hL.next (next_drs htn hTne hdn)⟩
        | false =>
          simp only [hdn] at hv
          subst hv
          refine go ?_
          refine ew_ar (tlV (gt tv t) k) hA6 (i := t) (by omega) (fun h7 hA7 m7 => ?_) (hv := cells_one4 oo) (h1 := allOne_cons oo rfl)
          have hI7 := hI.step hwb htn hl6 hk6 hm6 hF6 p6 hA7 m7 t
          simp only at hI7
          rw [step_same hdn] at hI7
          simp only at hI7
          rw [set_gt htT] at hI7
          have hQne := wait_some (Q := Q) hTne hdn
          have hk7 := hI7.pr.kp k0S hPP
          have hw7 := hI7.wf
          have hB2 := hI7.pr.bx hB2S (by omega) hP2
          have hB7 := hI7.pr.bx hB7S (by omega) hP7
          refine go ?_
          refine stC (flush_spec hw7 hI7.mac (he0.kp hk7 hw) heP htq (fun x hx => ?_) (hPf hI7) (hnt hI7) (by simp only; omega)) (fun v h8 ⟨_, ⟨qs2, os2, hm8⟩, p8⟩ => ?_)
          · have h5 := hI.gp.q t htn x hx
            have h6 : (O.length : Int) = g.cells := hI.gp.ol
            exact ⟨h5.1, h5.2.1, h5.2.2.2.1, by rw [h6]; exact h5.2.2.2.2⟩
          · have hfl := flush_less (ev := g.ev) (O := O) htq hQne
            refine go ?_
            exact Nx.inv _ (by simp only; omega) ⟨rfl, rfl, rfl, rfl, rfl, rfl, rfl, trivial⟩ ⟨hI7.flush htn hm8 p8 t, hL.next (next_drf htn hTne hdn)⟩
      · have hTe : gt T t = [] := List.length_eq_zero_iff.1 (by omega)
        refine go ?_
        exact Nx.inv _ (by simp only; omega) ⟨rfl, rfl, rfl, rfl, rfl, rfl, rfl, trivial⟩ ⟨by simp only; omega, hI.at_ (j := t + 1), hL.next (next_dre htn hTe)⟩
    · skip
      refine go ?_
      exact Nx.to _ ⟨rfl, rfl, rfl, rfl, rfl, rfl, trivial⟩ ⟨hI1, hL1.next (next_dr0 (by omega))⟩
  obtain ⟨i1, T1, Q1, O1, F1, tv1, qs1, os1⟩ := x
  clear hI0 hL0
  obtain ⟨hI, hL⟩ := hx
  simp only at hL
  have hk := hI.pr.kp k0S hPP
  have hwl := hI.wf
  have hB2 := hI.pr.bx hB2S (by omega) hP2
  have hB7 := hI.pr.bx hB7S (by omega) hP7
  refine go ?_
  refine stC (end_spec (T := T1) (F := F1) (ps := ps) hwl hI.mac (he0.kp hk hw) heP hI.gp hn (hPf hI) (hnt hI)) (fun v hE ⟨_, ⟨Q', O', qs', os', hmE, hgE, hLE⟩, pE⟩ => ?_)
  have hrun : RunP g ps n (begP g n) ⟨.en n, T1, Q', O', F1⟩ := hL _ (hLE _ (.fin (next_en0 (Nat.lt_irrefl _))))
  have pSE : Pr (fun k => c.P k ∨ k = c.vf.ba ∨ k = c.v6.ba) c.hS hE := hI.pr.trans (pE.sub fun k _ hp => .inl hp)
  have hFE : Ar hE c.nT c.vf 1 3 icell F1 := pE.ar hI.fr c.c2
  have hF1 : ∀ x, x < g.ev.length → 0 ≤ gt F1 x ∧ gt F1 x < g.ev.length := fun x hx => hgE.f x (by rw [hgE.fl]; exact hx)
  have hFl : F1.length = g.ev.length := hgE.fl
  clear hL hLE hB2 hB7 hk hwl
  have hkE := pSE.kp k0S hPP
  have hwE := pSE.wf hwS
  have hB2 := pSE.bx hB2S (by omega) hP2
  have hB7 := pSE.bx hB7S (by omega) hP7
  have ob4E := pSE.ob ob4S hP4
  have leE := pSE.le
  clear hI pE pSE
  refine go ?_
  refine stC (copied_spec hwE (hG.kp hkE hw) (fun v hv => (hth v hv).kp hkE hw) hs) (fun v hD ⟨⟨ue, urf, uco, urm, uad, uda, uct, hv, hGD, _, hUe, hU4, hU5, hU6, hU7, _⟩, kD⟩ => ?_)
  subst hv
  have oD := hGD.one
  have hU4' : ∀ k, urm.blk = some k → k < hD.next := fun k hk => (hU4.blk k hk).2
  have hU5' : ∀ k, uad.blk = some k → k < hD.next := fun k hk => (hU5.blk k hk).2
  have hU6' : ∀ k, uda.blk = some k → k < hD.next := fun k hk => (hU6.blk k hk).2
  have hU7' : ∀ k, uct.blk = some k → k < hD.next := fun k hk => (hU7.blk k hk).2
  refine ew_al fun b15 hH ob15 kH => ?_
  refine ew_st ob15 (fun hJ obJ mJ => ?_) (h1 := oD)
  have kJ : Kp hD hJ := mJ.kp kH fun k hk => by injection hk with hk; subst hk; exact ob15.lo
  have obJ : Ob hJ hD.next b15 26 [.i .i64 g.cells, ue, urf, uco, urm, uad, uda, uct] := obJ
  have r1 := kD.le
  have r2 := obJ.lo
  have r3 := obJ.hi
  have r4 := kJ.le
  clear ob15 mJ kH
  refine go ?_
  refine ew_st obJ (fun hK obK mK => ?_)
  have obK : Ob hK hD.next b15 26 [.i .i64 g.cells, ue, .ns, uco, urm, uad, uda, uct] := obK
  have kK : Kp hD hK := mK.kp kJ fun k hk => by injection hk with hk; omega
  have hwD := kD.wf hwE
  have hB7K := (hB7.kp kD hwE).kp kK hwD
  clear hB7
  refine go ?_
  have oV := hmE.o.ln.one
  refine ew_st obK (fun hC obC mC' => ?_) (hv := cells_one4 oV) (h1 := allOne_cons oV rfl)
  have obC : Ob hC hD.next b15 26 [.i .i64 g.cells, ue, .ns, c.vo, urm, uad, uda, uct] := obC
  have kC : Kp hD hC := mC'.kp kK fun k hk => by injection hk with hk; omega
  have kEC : Kp hE hC := kD.trans kC
  have hwC := kEC.wf hwE
  have hGC : GrAt hC [.i .i64 g.cells, ue, urf, uco, urm, uad, uda, uct] g := hGD.kp kC hwD
  have hUC : Gw hC hE.next ue 5 37 ecell g.ev := hUe.mo (Mo.of_kp kC none) (fun _ _ e => by cases e)
  have hU4 : Gw hC hE.next urm 2 39 pcell g.rmw := hU4.mo (Mo.of_kp kC none) (fun _ _ e => by cases e)
  have hU5 : Gw hC hE.next uad 2 39 pcell g.addr := hU5.mo (Mo.of_kp kC none) (fun _ _ e => by cases e)
  have hU6 : Gw hC hE.next uda 2 39 pcell g.data := hU6.mo (Mo.of_kp kC none) (fun _ _ e => by cases e)
  have hU7 : Gw hC hE.next uct 2 39 pcell g.ctrl := hU7.mo (Mo.of_kp kC none) (fun _ _ e => by cases e)
  have hpa : ∀ {v : V} {l : List (Int × Int)}, Gw hC hE.next v 2 39 pcell l → (∀ k, v.blk = some k → k < b15) → ∀ k, v.blk = some k → ¬ (k = b15 ∨ ue.blk = some k) := fun hg hb k hk h => by
    rcases h with h | h
    · have := hb k hk; omega
    · exact hg.ne hUC (by decide) k hk h
  have n4 := hpa hU4 fun k hk => by have := (hU4' k hk); omega
  have n5 := hpa hU5 fun k hk => by have := (hU5' k hk); omega
  have n6 := hpa hU6 fun k hk => by have := (hU6' k hk); omega
  have n7 := hpa hU7 fun k hk => by have := (hU7' k hk); omega
  have hmC : Mac hC c.nT (fun k => c.P k ∧ k < hE.next) c.vq c.vo 27 27 1 3 icell Q' O' qs' os' := (hmE.chP (P' := fun k => c.P k ∧ k < hE.next) fun k hk hp => ⟨hp, hk⟩).kp kEC
  have hFC := hFE.mo (Mo.of_kp kEC none) (fun e => by cases e)
  have hB2C := hB2.kp kEC hwE
  have ob4C := ob4E.mo (Mo.of_kp kEC none) (fun e => by cases e)
  have r5 := kC.le
  have k0C := hkE.trans kEC
  have r6 := obC.hi
  clear hpa hU4' hU5' hU6' hU7'
  have hUb : ∀ k, ue.blk = some k → hE.next ≤ k ∧ k < b15 := fun k hk => by
    have h1 := (hUe.blk k hk).1
    have h2 := (hUe.blk k hk).2
    exact ⟨h1, by omega⟩
  clear kD kJ kK kC kEC hGD hUe mK mC' obJ obK hmE hFE hB2 ob4E hB7K hB2S hB7S ob4S
  refine go ?_
  refine Es.loop (X := Nat × V) (fun x => g.ev.length - x.1) (fun x => [(2, .p b2 0), (4, .p b4 0), (8, c.vf), (15, .p b15 0), (16, .i .i64 (x.1 : Int))]) (fun x h' => x.1 ≤ g.ev.length ∧ Gw h' hE.next ue 5 37 ecell (evsA g F1 x.1) ∧ Gw h' hC.next x.2 2 39 pcell (rfsA g F1 x.1) ∧ Ob h' hD.next b15 26 [.i .i64 g.cells, ue, x.2, c.vo, urm, uad, uda, uct] ∧ Pr (fun k => k = b15 ∨ ue.blk = some k) hC h') (0, .ns) ⟨rfl, rfl, rfl, rfl, rfl, trivial⟩ ⟨Nat.zero_le _, by rw [evsA_0]; exact hUC, .nil, obC, .refl _ _⟩ fun x hl hx => ?_
  obtain ⟨r, w⟩ := x
  clear hUC obC
  obtain ⟨hr, hU, hW, hob, hp⟩ := hx
  simp only at hr hU hW hob ⊢
  have hn2 : ¬ (b2 = b15 ∨ ue.blk = some b2) := fun h => by
    rcases h with h | h
    · omega
    · have := (hUb _ h).1; omega
  have hn4 : ¬ (b4 = b15 ∨ ue.blk = some b4) := fun h => by
    rcases h with h | h
    · omega
    · have := (hUb _ h).1; omega
  have hnf : ¬ (c.vf.ba = b15 ∨ ue.blk = some c.vf.ba) := fun h => by
    rcases h with h | h
    · omega
    · have := (hUb _ h).1; omega
  have hk := hp.kp k0C fun k hk => by
    rcases hk with hk | hk
    · omega
    · have := (hUb _ hk).1; omega
  have hwl := hp.wf hwC
  have hB15 := hob.bx
  have hLu := hU.ln
  rw [evsA_len] at hLu
  refine go ?_
  refine cD (fun hlt => ?_) (fun hge => ?_)
  · have hr' : r < g.ev.length := by omega
    have hkc : Ce hl ue.ba (ue.of + r * 5 + 1) (.i .i64 (gt g.ev r).kind) := by
      have := hU.cs.eq r 1 (by rw [evsA_len]; exact hr') (by decide)
      rw [evsA_gt hr', if_neg (Nat.lt_irrefl _)] at this
      exact this
    refine go ?_
    refine cD (fun hkd => ?_) (fun hkd => ?_)
    · have hFl' := (hp.ar hFC hnf)
      obtain ⟨hLf, hCf⟩ := hFl'.ro
      rw [hFl] at hLf hCf
      have hB2 := hp.bx hB2C (by omega) hn2
      have hrl := rfsA_len (g := g) (F := F1) (n := r)
      refine gol ?_
      refine em_bs (l := upto (pcell (gt F1 r, (r : Int))) 2 0) rfl rfl rfl ⟨fun _ => FCe.of (Ce.kp kp_new hwl (ce_b hB15 rfl)), trivial⟩ ?_
      have kn : Kp hl (hl.new 39 (upto (pcell (gt F1 r, (r : Int))) 2 0) false) := kp_new
      have hrw : Rw (hl.new 39 (upto (pcell (gt F1 r, (r : Int))) 2 0) false) hl.next (1 * 2) 0 (upto (pcell (gt F1 r, (r : Int))) 2 0) := rw_new1 rfl
      have hWn := hW.mo (Mo.of_kp kn none) (fun _ _ e => by cases e)
      have knl := kn.le
      have hpl := hp.le
      refine em_gx (n0 := hC.next) (gt F1 r, (r : Int)) hWn.gx rfl rfl hrw pone (by decide) (by omega) (by omega) (fun h9 m9 => ⟨fun (hk : some 9 ∈ [none, some 8]) => absurd hk (by decide), trivial⟩) fun v' h9 hbk9 hG9 m9 => ?_
      have hne9 : ∀ k, w.blk = some k → hC.next ≤ k := fun k hk => (hW.blk k hk).1
      have hob9 := (hob.mo (Mo.of_kp kn none) (fun e => by cases e)).mo m9 fun e => by have := hne9 _ e; omega
      have o9 := hG9.ln.one
      refine go ?_
      refine em_stL hob9 (fun h10 hob10 m10 => ?_) (hl := fun h' _ => ⟨fun (hk : some 11 ∈ [none, some 8]) => absurd hk (by decide), trivial⟩) (hv := cells_one4 o9) (h1 := allOne_cons o9 rfl)
      have hob10 : Ob h10 hD.next b15 26 [.i .i64 g.cells, ue, v', c.vo, urm, uad, uda, uct] := hob10
      have pn : Pr (fun k => k = b15 ∨ ue.blk = some k) hC h10 := (((hp.trans (Pr.of_kp kn)).mo_hi m9 fun k hk => .inr (hne9 k hk))).trans (Pr.of_mo m10 fun k hk => by injection hk with hk; exact .inl hk.symm)
      have hU10 := ((hU.mo (Mo.of_kp kn none) (fun _ _ e => by cases e)).mo m9 fun k hk e => by have h1 := hne9 _ e; have := (hUb _ hk).2; omega).mo m10 fun k hk e => by injection e with e; have := (hUb _ hk).2; omega
      have hG10 := hG9.mo m10 fun k hk e => by injection e with e; have := (hG9.blk k hk).1; omega
      have hw10 := pn.wf hwC
      have hB2 := pn.bx hB2C (by omega) hn2
      have hB15 := hob10.bx
      have hk10 := pn.kp k0C fun k hk => by
        rcases hk with hk | hk
        · omega
        · have := (hUb _ hk).1; omega
      obtain ⟨hLe, hCe⟩ := he0.kp hk10 hw
      obtain ⟨hLf, hCf⟩ := (pn.ar hFC hnf).ro
      rw [hFl] at hLf hCf
      have hfb := hF1 r hr'
      clear hob hob9 hkc
      refine go ?_
      refine em_gw1 (k := 3) (w := .i .u64 (gt g.ev (gt F1 r).toNat).val) (valE g F1 r) hU10 (i := r) (by rw [evsA_len]; exact hr') (by decide) (fun j hj => ?_) rfl (fun _ _ => trivial) (fun h11 hU11 m11 => ?_)
      · have h1 : valE g F1 r = { gt g.ev r with val := (gt g.ev (gt F1 r).toNat).val } := if_pos hkd
        rw [h1, evsA_gt hr', if_neg (Nat.lt_irrefl _)]
        match j, hj with
        | 0, _ => rfl
        | 1, _ => rfl
        | 2, _ => rfl
        | 3, _ => rfl
        | 4, _ => rfl
      · rw [← evsA_s hr'] at hU11
        refine go ?_
        exact Nx.inv (r + 1, v') (by simp only; omega) ⟨rfl, rfl, rfl, rfl, rfl, trivial⟩ ⟨by simp only; omega, hU11, by rw [rfsA_y hkd]; exact hG10.mo m11 fun k hk e => by have h1 := (hUb _ e).2; have := (hG10.blk k hk).1; omega, hob10.mo m11 fun e => by have := (hUb _ e).2; omega, pn.trans (Pr.of_mo m11 fun k hk => .inr hk)⟩
    · skip
      refine go ?_
      exact Nx.inv (r + 1, w) (by simp only; omega) ⟨rfl, rfl, rfl, rfl, rfl, trivial⟩ ⟨by simp only; omega, by rw [evsA_n hr' hkd]; exact hU, by rw [rfsA_n hkd]; exact hW, hob, hp⟩
  · obtain rfl : r = g.ev.length := by omega
    have ob4l := hp.ob ob4C hn4
    have hmL := hmC.pr hp fun k hk h => by
      rcases h with h | h
      · omega
      · have := (hUb _ h).1; omega
    have hU4 := hp.gw hU4 n4
    have hU5 := hp.gw hU5 n5
    have hU6 := hp.gw hU6 n6
    have hU7 := hp.gw hU7 n7
    have oA := hU.ln.one
    have oB := hW.ln.one
    have oC := hmC.o.ln.one
    have oL : allOne [V.i .i64 g.cells, ue, w, c.vo, urm, uad, uda, uct] = true := allOne_cons rfl (allOne_cons oA (allOne_cons oB (allOne_cons oC (allOne_cons hU4.ln.one (allOne_cons hU5.ln.one (allOne_cons hU6.ln.one (allOne_cons hU7.ln.one rfl)))))))
    have hpl := hp.le
    refine go ?_
    refine ew_st ob4l (fun hZ obZ mZ => ?_) (h1 := oL)
    have hBZ : Bx hZ b4 [.i .i64 g.cells, ue, w, c.vo, urm, uad, uda, uct] := obZ.bx
    have hne : ∀ {v : V}, (∀ k, v.blk = some k → hE.next ≤ k) → ∀ k, v.blk = some k → some b4 ≠ some k := fun h k hk e => by injection e with e; have := h k hk; omega
    have hmZ := hmL.mo mZ fun k hk h => by injection hk with hk; subst hk; have := c.c1 _ h.1; omega
    refine go ?_
    refine ret_ct (v := .agg [.i .i64 g.cells, ue, w, c.vo, urm, uad, uda, uct]) (od_lds rfl (rw_b hBZ rfl)) ⟨⟨_, playG g O' F1, 0, rfl, ?_, .inr ⟨hwf, rfl, n, hN, _, hrun, rfl⟩⟩, mZ.kp hk fun k hk => by injection hk with hk; omega⟩
    rw [playG_eq]
    have hr : ∀ {α : Type} [Inhabited α] {v : V} {sz n0 : Nat} {ty : TypeId} {cc : α → Nat → V} {l : List α}, Gw hl n0 v sz ty cc l → hE.next ≤ n0 → RoN hZ h.next v sz cc l := fun hg hn => ((hg.mo mZ (hne fun k hk => by have := (hg.blk k hk).1; omega)).ron).low (by omega)
    exact ⟨ue, w, c.vo, urm, uad, uda, uct, rfl, hr hU (Nat.le_refl _), hr hW (by omega), ⟨os', hmZ.o.ron.low (by omega), hmZ.ol, fun i hi => ((hmZ.or_ i hi).ron).low (by omega)⟩, hr hU4 (Nat.le_refl _), hr hU5 (Nat.le_refl _), hr hU6 (Nat.le_refl _), hr hU7 (Nat.le_refl _)⟩
end Go.Proofs.YtkcdehffcddciaaGreatDoor.Vm
