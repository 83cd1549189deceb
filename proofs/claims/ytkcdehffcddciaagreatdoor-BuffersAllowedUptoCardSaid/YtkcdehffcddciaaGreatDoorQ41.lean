/- The law BuffersAllowed, walked. -/
import Derived.Test.YtkcdehffcddciaaGreatDoorQ35
import Derived.Test.YtkcdehffcddciaaGreatDoorQ40
import Derived.Test.YtkcdehffcddciaaGreatDoorQ23
namespace Go.Proofs.YtkcdehffcddciaaGreatDoor.Vm
open Go Go.RowKit
def s6 : Sc:=(.seq (.region [Y 2 (.bx 26 (.t 0)) [0],Y 4 (.mv (.c (.b false))) []])
  (.seq (.region [Y 19 (.lds (.t 2) 8) [2],Y 20 (.mv (.t 1)) [1],Y 21 (.call 10 [.t 19,.t 20]) [19,20],
 Y 18 (.mv (.t 21)) [21],Y 22 (.ex (.t 18) 0) [18],Y 23 (.ex (.t 18) 1) [18],
 Y 5 (.al 26 [.i .i64 0,.ns,.ns,.ns,.ns,.ns,.ns,.ns]) [],⟨none,none,.st (.t 5) (.t 22) 8,[5,22]⟩,
 Y 6 (.mv (.t 23)) [23]]) (.seq (.region [Y 25 (.lds (.t 2) 8) [2],Y 26 (.call 25 [.t 25,.c (.b false)]) [25],
 Y 24 (.mv (.t 26)) [26],Y 27 (.ex (.t 24) 0) [24],Y 28 (.ex (.t 24) 1) [24],Y 7 (.mv (.t 27)) [27],
 Y 8 (.mv (.t 28)) [28]]) (.seq (.region [Y 30 (.lds (.t 2) 8) [2],Y 31 (.call 25 [.t 30,.c (.b true)]) [30],
 Y 29 (.mv (.t 31)) [31],Y 32 (.ex (.t 29) 0) [29],Y 33 (.ex (.t 29) 1) [29],Y 9 (.mv (.t 32)) [32],
 Y 10 (.mv (.t 33)) [33]]) (.seq (.seq (.region [Y 34 (.mv (.t 7)) [7],Y 35 (.eq .int true (.t 34)
  (.c (.i .i64 0))) [34],Y 36 (.mv (.t 35)) [35],Z 36 true 37 (.mv (.t 9)) [9,36],
 Z 36 true 38 (.eq .int true (.t 37) (.c (.i .i64 0))) [37,36],Y 39 (.pk (.t 36) (.t 38)
  (.c (.b false))) [36,38]]) (.cond (.t 39) (.seq (.region [Y 40 (.mv (.t 6)) [6],Y 41 (.eq .int false (.t 40)
  (.c (.i .i64 4))) [40],Y 42 (.mv (.t 41)) [41],Z 42 true 43 (.call 14 []) [42],Y 44 (.pk (.t 42) (.t 43)
  (.c (.b false))) [42,43],Y 4 (.mv (.t 44)) [44]]) .ret) .skip)) (.seq (.region [Y 46 (.lds (.t 5) 8) [5],
 Y 47 (.call 25 [.t 46,.c (.b false)]) [46],Y 45 (.mv (.t 47)) [47],Y 48 (.ex (.t 45) 0) [45],
 Y 49 (.ex (.t 45) 1) [45],Y 11 (.mv (.t 48)) [48],Y 12 (.mv (.t 49)) [49]])
  (.seq (.region [Y 51 (.lds (.t 5) 8) [5],Y 52 (.call 25 [.t 51,.c (.b true)]) [51],Y 50 (.mv (.t 52)) [52],
 Y 53 (.ex (.t 50) 0) [50],Y 54 (.ex (.t 50) 1) [50],Y 13 (.mv (.t 53)) [53],Y 14 (.mv (.t 54)) [54]])
  (.seq (.region [Y 56 (.lds (.t 5) 8) [5],Y 57 (.call 26 [.t 56]) [56],Y 55 (.mv (.t 57)) [57],
 Y 58 (.ex (.t 55) 0) [55],Y 59 (.ex (.t 55) 1) [55],Y 60 (.ex (.t 55) 2) [55],Y 15 (.mv (.t 58)) [58],
 Y 16 (.mv (.t 59)) [59],Y 17 (.mv (.t 60)) [60]]) (.seq (.region [Y 61 (.mv (.t 6)) [6],
 Y 62 (.eq .int false (.t 61) (.c (.i .i64 0))) [61],Y 63 (.mv (.t 62)) [62],Z 63 true 64 (.mv (.t 7)) [7,63],
 Z 63 true 65 (.eq .int false (.t 64) (.c (.i .i64 0))) [64,63],Z 63 true 66 (.mv (.t 11)) [11,63],
 Z 63 true 67 (.eq .int false (.t 66) (.c (.i .i64 0))) [66,63],Z 63 true 68 (.eq .bool false (.t 65)
  (.t 67)) [65,67,63],Y 69 (.pk (.t 63) (.t 68) (.c (.b false))) [63,68],Y 70 (.mv (.t 69)) [69],
 Z 70 true 71 (.mv (.t 9)) [9,70],Z 70 true 72 (.eq .int false (.t 71) (.c (.i .i64 0))) [71,70],
 Z 70 true 73 (.mv (.t 13)) [13,70],Z 70 true 74 (.eq .int false (.t 73) (.c (.i .i64 0))) [73,70],
 Z 70 true 75 (.eq .bool false (.t 72) (.t 74)) [72,74,70],Y 76 (.pk (.t 70) (.t 75) (.c (.b false))) [70,75],
 Y 77 (.mv (.t 76)) [76],Z 77 true 78 (.mv (.t 17)) [17,77],Z 77 true 79 (.eq .int false (.t 78)
  (.c (.i .i64 0))) [78,77],Y 80 (.pk (.t 77) (.t 79) (.c (.b false))) [77,79],Y 81 (.mv (.t 80)) [80],
 Z 81 true 82 (.mv (.t 15)) [15,81],Z 81 true 83 (.eq .int false (.t 82) (.c (.i .i64 0))) [82,81],
 Y 84 (.pk (.t 81) (.t 83) (.c (.b false))) [81,83],Y 85 (.mv (.t 84)) [84],Z 85 true 86 (.call 14 []) [85],
 Y 87 (.pk (.t 85) (.t 86) (.c (.b false))) [85,86],Y 4 (.mv (.t 87)) [87]]) .ret)))))))))
set_option maxRecDepth 100000 in
theorem c6:fnB Tryz.prog 6=some (88,s6,[.t 4]):=by kernel_rfl
theorem sm_of {g:Gr} (h:Sz_ g):Sm g:=⟨h.ev,h.rf,h.co,h.row,h.rmw,h.addr,h.data,h.ctrl⟩
theorem beq_iff {a c:Int} (h:a=0↔c=0):(decide (a=0) == decide (c=0))=true:=by
 by_cases e:a=0
 ·rw[decide_eq_true e,decide_eq_true (h.1 e)];rfl
 ·rw[decide_eq_false e,decide_eq_false fun hc=>e (h.2 hc)];rfl
set_option maxRecDepth 10000 in
set_option maxHeartbeats 0 in
theorem allowed_law {h:H} {gl:List V} {vp:V} {g:Gr} {ps:List Int} (hw:Wf h) (hT:TabP h) (hG:GrAt h gl g) (hth:∀v∈gl,Th h v) (hs:Sm g) (hvp:Ro h vp 1 icell ps) (hps:ps.length≤10000000)
  (hlv:∀h',Kp h h'→FX false Tryz.prog 14 [] h' fun v _=>v=.b true):FX false Tryz.prog 6 [.agg gl,vp] h fun v _=>v=.b true:=by
 have hone:=hG.one
 have hG0:=hG
 obtain⟨ve,vrf,vco,vrmw,vad,vda,vct,rfl,-⟩:=hG.is
 refine Fn.env c6 rfl ?_
 unfold s6
 refine go ?_
 refine ew_bx (hz:=hone) fun b2 h1 ob2 k1=>?_
 have hB1:=ob2.bx
 have hw1:=k1.wf hw
 refine go ?_
 refine stC (pplay_spec hw1 (hG0.kp k1 hw) (fun v hv=>(hth v hv).kp k1 hw) hs (hvp.kp k1 hw) hps) (fun v h2 ⟨⟨rl,w,code,hv,hR,hP,_,hZ⟩,k2⟩=>?_)
 subst hv
 have hw2:=k2.wf hw1
 have k02:=k1.trans k2
 have hB2:=hB1.kp k2 hw1
 have hRa:=hR.at_
 have hone2:=hRa.one
 obtain⟨re,rrf,rco,rrm,rad,rda,rct,hrl,-⟩:=hRa.is
 subst hrl
 clear hB1
 refine go ?_
 refine ew_al fun b5 h3 ob5 k3=>?_
 refine ew_st ob5 (vs:=[.i .i64 w.cells,re,rrf,rco,rrm,rad,rda,rct]) (fun h4 ob5' m4=>?_) (h1:=hone2)
 have k4:Kp h2 h4:=m4.kp k3 (fun k e=>by injection e with e;rw[←e];exact ob5.lo)
 have hw4:=k4.wf hw2
 have k04:=k02.trans k4
 have hB5:Bx h4 b5 [.i .i64 w.cells,re,rrf,rco,rrm,rad,rda,rct]:=ob5'.bx
 have hB4:=hB2.kp k4 hw2
 have hR4:=hRa.kp k4 hw2
 clear hB2
 refine go ?_
 refine stC (lcheck_spec (w:=false) hw4 (hG0.kp k04 hw) hs) (fun v h5 ⟨⟨ra,aa,hv,hra⟩,k5⟩=>?_)
 subst hv
 have hw5:=k5.wf hw4
 have k05:=k04.trans k5
 have hB5:=hB5.kp k5 hw4
 have hB4:=hB4.kp k5 hw4
 have hR5:=hR4.kp k5 hw4
 refine go ?_
 refine stC (lcheck_spec (w:=true) hw5 (hG0.kp k05 hw) hs) (fun v h6 ⟨⟨rb,ab,hv,hrb⟩,k6⟩=>?_)
 subst hv
 have hw6:=k6.wf hw5
 have k06:=k05.trans k6
 have hB6:=hB5.kp k6 hw5
 have hR6:=hR5.kp k6 hw5
 clear hB5 hB4
 by_cases hwf:WF g false∨WF g true
 ·obtain⟨rfl,i1,i2,hT'⟩:=hP.allowed hwf
  obtain⟨wb,hwb⟩:∃wb,WF w wb:=by
   rcases hwf with hf | hf
   ·exact⟨false,i1.2 hf⟩
   ·exact⟨true,i2.2 hf⟩
  have hzero:¬(ra≠0∧rb≠0):=fun ⟨h1,h2⟩=>by
   rcases hwf with hf | hf
   ·exact h1 (hra.2 hf)
   ·exact h2 (hrb.2 hf)
  refine go ?_
  refine EwG.mk fun _=>?_
  refine Ew.to (X:=Unit) (fun _=>[(5,.p b5 0),(6,.i .i64 0),(7,.i .i64 ra),(9,.i .i64 rb),(39,.b false)]) (fun _ h'=>h'=h6) ?_ fun _ h' e=>?_
  ·skip
   refine go ?_
   repeat' ((first|refine wgd ?_ ?_|refine wgn ?_ ?_|refine wgb ?_ ?_|refine mgd ?_ ?_|refine mgn ?_ ?_|refine mgb ?_ ?_|refine cD ?_ ?_|refine cN ?_ ?_|refine cB ?_ ?_)<;>intro _<;>refine go ?_)
   ·refine⟨(),⟨rfl,rfl,rfl,rfl,?_,trivial⟩,rfl⟩
    rename_i hne
    have hb0:rb=0:=Classical.byContradiction fun h=>hzero ⟨hne,h⟩
    show some (V.b (!decide (rb=0)))=_
    rw[decide_eq_true hb0]
    rfl
   ·exact⟨(),⟨rfl,rfl,rfl,rfl,rfl,trivial⟩,rfl⟩
  subst e
  refine go ?_
  refine stC (lcheck_spec (w:=false) hw6 hR6 (sm_of hZ)) (fun v h7 ⟨⟨rc,ac,hv,hrc⟩,k7⟩=>?_)
  subst hv
  have hw7:=k7.wf hw6
  have k07:=k06.trans k7
  have hB7:=hB6.kp k7 hw6
  have hR7:=hR6.kp k7 hw6
  clear hB6
  refine go ?_
  refine stC (lcheck_spec (w:=true) hw7 hR7 (sm_of hZ)) (fun v h8 ⟨⟨rd,ad,hv,hrd⟩,k8⟩=>?_)
  subst hv
  have hw8:=k8.wf hw7
  have k08:=k07.trans k8
  have hB8:=hB7.kp k8 hw7
  have hR8:=hR7.kp k8 hw7
  clear hB7
  refine go ?_
  refine stC (tso_spec hw8 (hT.kp k08) hR8 (sm_of hZ) hwb hT') (fun v h9 ⟨hv,k9⟩=>?_)
  subst hv
  have e1:(decide (ra=0) == decide (rc=0))=true:=beq_iff (hra.trans (i1.symm.trans hrc.symm))
  have e2:(decide (rb=0) == decide (rd=0))=true:=beq_iff (hrb.trans (i2.symm.trans hrd.symm))
  refine go ?_
  refine ew_s .n (od_eqB rfl rfl) ?_
  rw[e1]
  refine go ?_
  refine ew_s .n (od_eqB rfl rfl) ?_
  rw[e2]
  refine go ?_
  refine stC (hlv _ (k08.trans k9)) (fun v h10 hv=>?_)
  subst hv
  refine go ?_
  exact ret_1 rfl
 ·have hna:¬ra=0:=fun h=>hwf (.inl (hra.1 h))
  have hnb:¬rb=0:=fun h=>hwf (.inr (hrb.1 h))
  obtain rfl:code=4:=by
   rcases hP with⟨_,_,h⟩ | ⟨h,_⟩
   ·exact h
   ·exact absurd h hwf
  refine go ?_
  refine stC (hlv _ k06) (fun v h10 hv=>?_)
  subst hv
  refine go ?_
  exact ret_1 rfl
end Go.Proofs.YtkcdehffcddciaaGreatDoor.Vm
