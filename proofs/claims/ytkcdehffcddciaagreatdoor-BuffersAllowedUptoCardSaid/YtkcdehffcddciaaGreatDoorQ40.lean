/- The program's Play. -/
import Derived.Test.YtkcdehffcddciaaGreatDoorQ37
import Derived.Test.YtkcdehffcddciaaGreatDoorQ38
import Derived.Test.YtkcdehffcddciaaGreatDoorQ39
import Derived.Test.YtkcdehffcddciaaGreatDoorQ23
import Derived.Test.YtkcdehffcddciaaGreatDoorQ36
namespace Go.Proofs.YtkcdehffcddciaaGreatDoor.Vm
open Go Go.RowKit
def s10 : Sc:=(.seq (.region [Y 2 (.bx 26 (.t 0)) [0],Y 4 (.al 26 [.i .i64 0,.ns,.ns,.ns,.ns,.ns,.ns,.ns]) [],
 Y 5 (.mv (.c (.i .i64 0))) []]) (.seq (.seq (.region [Y 19 (.lds (.t 2) 8) [2],Y 20 (.call 29 [.t 19]) [19],
 Y 21 (.nt (.t 20)) [20]]) (.cond (.t 21)
  (.seq (.region [Y 22 (.bd [.i .i64 0,.ns,.ns,.ns,.ns,.ns,.ns,.ns] []) [],⟨none,none,.st (.t 4)
  (.t 22) 8,[4,22]⟩,Y 5 (.mv (.c (.i .i64 4))) []]) .ret) .skip)) (.seq (.region [Y 23 (.lds (.t 2) 8) [2],
 Y 24 (.call 30 [.t 23]) [23],Y 6 (.al 24 [.ns]) [],⟨none,none,.st (.t 6) (.t 24) 1,[6,24]⟩])
  (.seq (.region [Y 25 (.lds (.t 2) 8) [2],Y 26 (.call 31 [.t 25]) [25],Y 7 (.al 75 [.nm]) [],
 ⟨none,none,.st (.t 7) (.t 26) 1,[7,26]⟩]) (.seq (.region [Y 27 (.lds (.t 2) 8) [2],
 Y 28 (.call 32 [.t 27]) [27],Y 8 (.al 26 [.i .i64 0,.ns,.ns,.ns,.ns,.ns,.ns,.ns]) [],⟨none,none,.st (.t 8)
  (.t 28) 8,[8,28]⟩]) (.seq (.region [Y 29 (.fa (.t 2) 0) [2],Y 30 (.ld (.t 29)) [29],Y 31 (.ld (.t 6)) [6],
 Y 32 (.len (.t 31)) [31],Y 33 (.call 33 [.t 30,.t 32]) [30,32],Y 9 (.al 77 [.np]) [],⟨none,none,.st (.t 9)
  (.t 33) 1,[9,33]⟩]) (.seq (.region [Y 34 (.mm) [],Y 10 (.al 79 [.nm]) [],⟨none,none,.st (.t 10)
  (.t 34) 1,[10,34]⟩]) (.seq (.region [Y 35 (.mf (.func 34) [] [.t 6,.t 2,.t 7,.t 9,.t 10]) [6,2,7,9,10],
 Y 11 (.mv (.t 35)) [35]]) (.seq (.seq (.region [Y 36 (.mv (.t 1)) [1],Y 37 (.len (.t 36)) [36],
 Y 38 (.mv (.c (.i .i64 0))) []]) (.block 0 (.loop (.seq (.region [Y 39 (.ar .lss (.t 38) (.t 37)) [38,37]])
  (.seq (.cond (.t 39) .skip (.exit 0)) (.seq (.block 1 (.seq (.region [Y 40 (.ia (.t 36) (.t 38) 1) [36,38],
 Y 41 (.ld (.t 40)) [40],Y 13 (.mv (.t 41)) [41]]) (.seq (.seq (.region [Y 42 (.ld (.t 6)) [6],
 Y 43 (.len (.t 42)) [42],Y 44 (.eq .int false (.t 43) (.c (.i .i64 0))) [43]]) (.cond (.t 44)
  (.exit 0) .skip)) (.seq (.region [Y 46 (.mv (.t 13)) [13],Y 47 (.ld (.t 6)) [6],Y 48 (.len (.t 47)) [47],
 Y 49 (.call 40 [.t 46,.t 48]) [46,48],Y 45 (.mv (.t 49)) [49],Y 50 (.ex (.t 45) 0) [45],
 Y 51 (.ex (.t 45) 1) [45],Y 14 (.mv (.t 50)) [50],Y 15 (.mv (.t 51)) [51]])
  (.block 2 (.seq (.region [Y 53 (.mv (.t 15)) [15],Y 54 (.nt (.t 53)) [53],Y 52 (.mv (.t 54)) [54]])
  (.cond (.t 52) (.region [Y 55 (.ld (.t 9)) [9],Y 56 (.mv (.t 14)) [14],
 Y 57 (.call 41 [.t 55,.t 56]) [55,56]]) (.seq (.region [Y 59 (.ld (.t 6)) [6],Y 60 (.mv (.t 14)) [14],
 Y 61 (.ia (.t 59) (.t 60) 1) [59,60],Y 62 (.ld (.t 61)) [61],Y 63 (.len (.t 62)) [62],Y 64 (.ar .gtr (.t 63)
  (.c (.i .i64 0))) [63],Y 58 (.mv (.t 64)) [64]]) (.cond (.t 58) (.region [Y 65 (.mv (.t 11)) [11],
 Y 66 (.mv (.t 14)) [14],Y 67 (.callv (.t 65) [.t 66]) [65,66]]) .skip)))))))))
  (.region [Y 68 (.ar .add (.t 38) (.c (.i .i64 1))) [38],Y 38 (.mv (.t 68)) [68]])))))))
  (.seq (.seq (.region [Y 69 (.ld (.t 6)) [6],Y 70 (.len (.t 69)) [69],Y 71 (.mv (.c (.i .i64 0))) []])
  (.block 3 (.loop (.seq (.region [Y 72 (.ar .lss (.t 71) (.t 70)) [71,70]])
  (.seq (.cond (.t 72) .skip (.exit 3)) (.seq (.block 4 (.seq (.region [Y 73 (.mv (.t 71)) [71],
 Y 16 (.mv (.t 73)) [73]]) (.block 5 (.loop (.seq (.seq (.region [Y 74 (.ld (.t 6)) [6],
 Y 75 (.mv (.t 16)) [16],Y 76 (.ia (.t 74) (.t 75) 1) [74,75],Y 77 (.ld (.t 76)) [76],
 Y 78 (.len (.t 77)) [77],Y 79 (.ar .gtr (.t 78) (.c (.i .i64 0))) [78]]) (.cond (.t 79) .skip (.exit 5)))
  (.block 6 (.seq (.region [Y 80 (.mv (.t 11)) [11],Y 81 (.mv (.t 16)) [16],
 Y 82 (.callv (.t 80) [.t 81]) [80,81],Y 83 (.nt (.t 82)) [82]]) (.cond (.t 83)
  (.region [Y 84 (.ld (.t 9)) [9],Y 85 (.mv (.t 16)) [16],
 Y 86 (.call 41 [.t 84,.t 85]) [84,85]]) .skip)))))))) (.region [Y 87 (.ar .add (.t 71)
  (.c (.i .i64 1))) [71],Y 71 (.mv (.t 87)) [87]]))))))) (.seq (.region [Y 88 (.ld (.t 9)) [9],
 Y 89 (.call 42 [.t 88]) [88]]) (.seq (.seq (.region [Y 90 (.fa (.t 8) 1) [8],Y 91 (.ld (.t 90)) [90],
 Y 92 (.len (.t 91)) [91],Y 93 (.mv (.c (.i .i64 0))) []])
  (.block 7 (.loop (.seq (.region [Y 94 (.ar .lss (.t 93) (.t 92)) [93,92]])
  (.seq (.cond (.t 94) .skip (.exit 7)) (.seq (.block 8 (.seq (.region [Y 95 (.mv (.t 93)) [93],
 Y 96 (.ia (.t 91) (.t 93) 5) [91,93],Y 97 (.lds (.t 96) 5) [96],
 Y 18 (.al 37 [.i .i64 0,.i .i64 0,.i .i64 0,.i .u64 0,.i .i64 0]) [],Y 17 (.mv (.t 95)) [95],
 ⟨none,none,.st (.t 18) (.t 97) 5,[18,97]⟩]) (.seq (.region [Y 98 (.fa (.t 18) 1) [18],
 Y 99 (.ld (.t 98)) [98],Y 100 (.eq .int false (.t 99) (.c (.i .i64 1))) [99]]) (.cond (.t 100)
  (.seq (.region [Y 101 (.fa (.t 8) 1) [8],Y 102 (.ld (.t 101)) [101],Y 103 (.mv (.t 17)) [17],
 Y 104 (.ld (.t 10)) [10],Y 105 (.mv (.t 17)) [17],Y 106 (.lk (.t 104) (.t 105)
  (.agg [.i .i64 0,.i .i64 0,.i .u64 0]) false) [104,105],Y 107 (.fl (.t 106) 2) [106],Y 108 (.ia (.t 102)
  (.t 103) 5) [102,103],Y 109 (.fa (.t 108) 3) [108],⟨none,none,.st (.t 109) (.t 107) 1,[109,107]⟩])
  (.region [Y 110 (.fa (.t 8) 2) [8],Y 111 (.ld (.t 110)) [110],Y 112 (.ld (.t 10)) [10],
 Y 113 (.mv (.t 17)) [17],Y 114 (.lk (.t 112) (.t 113)
  (.agg [.i .i64 0,.i .i64 0,.i .u64 0]) false) [112,113],Y 115 (.fl (.t 114) 1) [114],
 Y 116 (.mv (.t 17)) [17],Y 117 (.bd [.i .i64 0,.i .i64 0] [(0,1,.t 115),(1,1,.t 116)]) [115,116],
 Y 118 (.bs 39 1 2 [.i .i64 0,.i .i64 0] [(0,2,.t 117)]) [117],Y 119 (.ap 39 2 16 (.t 111)
  (.t 118)) [111,118],Y 120 (.fa (.t 8) 2) [8],⟨none,none,.st (.t 120) (.t 119) 1,[120,119]⟩])) .skip))))
  (.region [Y 121 (.ar .add (.t 93) (.c (.i .i64 1))) [93],Y 93 (.mv (.t 121)) [121]])))))))
  (.seq (.region [Y 122 (.ld (.t 9)) [9],Y 123 (.call 43 [.t 122,(.c (.fn (.func 44) [] []))]) [122],
 Y 124 (.fa (.t 8) 3) [8],⟨none,none,.st (.t 124) (.t 123) 1,[124,123]⟩])
  (.seq (.region [Y 125 (.lds (.t 8) 8) [8],⟨none,none,.st (.t 4) (.t 125) 8,[4,125]⟩,
 Y 5 (.mv (.c (.i .i64 0))) []]) .ret))))))))))))))
set_option maxRecDepth 100000 in
theorem c10:fnB Tryz.prog 10=some (126,s10,[.c (.lds (.t 4) 8),.t 5]):=by kernel_rfl
structure OwnG (h:H) (n0:Nat) (rl:List V) (w:Gr):Prop where
 is:∃ve vrf vco vrm vad vda vct,rl = [.i .i64 w.cells,ve,vrf,vco,vrm,vad,vda,vct]∧Gw h n0 ve 5 37 ecell w.ev∧Gw h n0 vrf 2 39 pcell w.rf∧Gw h n0 vrm 2 39 pcell w.rmw∧(∀k,vrf.blk=some k→vrm.blk≠some k)∧∃cs,Fil h n0 cs w.co w.co.length∧((vco=.ns∧cs = [])∨Ar h n0 vco 1 27 vcell cs)
theorem from_val {g:Gr} {b:Bool} (hw:WF g b) {F:List Int} {ml:List (Int × V)} (hm:FromM g.ev F ml) {r:Nat} (hr:r<F.length) (hl:F.length=g.ev.length) (hk:(gt g.ev r).kind=1):∃a,(mGet (r:Int) ml).getD (.agg [.i .i64 0,.i .i64 0,.i .u64 0])=.agg [a,.i .i64 (gt F r),.i .u64 (gt g.ev (gt F r).toNat).val]:=by
 rcases hm r hr with⟨h1,h2⟩ | h1
 ·rw[h1,h2]
  refine⟨.i .i64 0,?_⟩
  have hc:g.cells≤r:=by
   apply Classical.byContradiction
   intro h
   have h5:=hw.init r (by omega)
   rw[h5]at hk
   exact absurd hk (by show ¬(2:Int)=1;decide)
  have he:=hw.ev r hc (by omega)
  have h3:0<g.cells:=by
   rcases he.2.2.2 with h | h
   ·omega
   ·omega
  have h4:=hw.init 0 (by omega)
  show V.agg [_,_,_]=V.agg [_,.i .i64 0,.i .u64 (gt g.ev (0:Int).toNat).val]
  rw[show((0:Int).toNat)=0 from rfl,h4]
  rfl
 ·rw[h1]
  exact⟨_,rfl⟩
theorem ew_lkV {C:Cx} {d b n0:Nat} {us:List Nat} {l:List So} {e:Env} {h:H} {x y:Rd} {Q:Env→H→Prop} {k:IntKind} {ml:List (Int × V)} {p:Int} {zv v:V} (hm:Mp h n0 b k ml) (hv:(mGet p ml).getD zv=v) (hr:Ew C l ((d,v) :: e) h Q) (hx:x.lk e=some (.m b):=by exact rfl) (hy:y.lk e=some (.i k p):=by exact rfl):Ew C (⟨none,some d,.lk x y zv false,us⟩ :: l) e h Q:=by
 subst hv
 exact ew_s .n (od_lk hm.at_ hx hy) hr
set_option maxRecDepth 100000 in
set_option maxHeartbeats 0 in
theorem pplay_spec {m : Bool} {h : H} {gl : List V} {vp : V} {g : Gr} {ps : List Int} (hw : Wf h) (hG : GrAt h gl g) (hth : ∀ v ∈ gl, Th h v) (hs : Sm g) (hvp : Ro h vp 1 icell ps) (hps : ps.length ≤ 10000000) : FX m Tryz.prog 10 [.agg gl, vp] h fun v h' => (∃ rl w code, v = .tup [.agg rl, .i .i64 code] ∧ GrAtN h' h.next rl w ∧ PlayR g ps w code ∧ (Nil_ gl g → OwnG h' h.next rl w) ∧ Sz_ w) ∧ Kp h h' := by
  have hone := hG.one
  obtain ⟨ve, vrf, vco, vrmw, vad, vda, vct, rfl, he0, -⟩ := hG.is
  refine Fn.env c10 rfl ?_
  unfold s10
  refine Es.seq (Es.region (ew_bx (hz := hone) fun b2 h1 ob2 k1 => ?_))
  refine ew_al fun b4 h2 ob4 k2 => ?_
  have hw1 := k1.wf hw
  have hw2 := k2.wf hw1
  have k02 := k1.trans k2
  have hB2 := ob2.bx.kp k2 hw1
  have hG2 := hG.kp k02 hw
  have hth := fun v hv => (hth v hv).kp k02 hw
  have q1 := ob2.lo
  have q2 := ob2.hi
  have q3 := ob4.lo
  have q4 := ob4.hi
  have q5 := k1.le
  have q6 := k2.le
  refine go ?_
  refine stC (bgood_spec hw2 hG2 hs) (fun v h3 ⟨hv, k3⟩ => ?_)
  have hw3 := k3.wf hw2
  have hB2 := hB2.kp k3 hw2
  have hG3 := hG2.kp k3 hw2
  have hth := fun v hv => (hth v hv).kp k3 hw2
  have ob4 := ob4.mo (Mo.of_kp k3 none) (fun e => by cases e)
  have k03 := k02.trans k3
  have q7 := k3.le
  clear hG2 ob2
  by_cases hwf : WF g false ∨ WF g true
  case neg =>
    obtain rfl : v = .b false := hv.trans (B_f hwf).symm
    refine go ?_
    refine ew_st ob4 (fun h4 ob5 m5 => ?_)
    have k5 := m5.kp k03 fun k hk => by injection hk with hk; omega
    have hB5 : Bx h4 b4 [.i .i64 0, .ns, .ns, .ns, .ns, .ns, .ns, .ns] := ob5.bx
    refine go ?_
    exact ret_ct (v := .agg [.i .i64 0, .ns, .ns, .ns, .ns, .ns, .ns, .ns]) (od_lds rfl (rw_b hB5 rfl)) ⟨⟨_, zeroG, 4, rfl, ⟨.ns, .ns, .ns, .ns, .ns, .ns, .ns, rfl, .nil, .nil, ⟨[], .nil, rfl, fun i hi => absurd hi (Nat.not_lt_zero _)⟩, .nil, .nil, .nil, .nil⟩, .inl ⟨hwf, rfl, rfl⟩, fun _ => ⟨.ns, .ns, .ns, .ns, .ns, .ns, .ns, rfl, .nil, .nil, .nil, (fun k hk => by cases hk), [], ⟨rfl, fun i hi => absurd hi (Nat.not_lt_zero _), fun i j hi => absurd hi (Nat.not_lt_zero _), fun i _ hi => absurd hi (Nat.not_lt_zero _)⟩, .inl ⟨rfl, rfl⟩⟩, ⟨Nat.zero_le _, Nat.zero_le _, Nat.zero_le _, fun c hc => absurd hc (Nat.not_lt_zero _), Nat.zero_le _, Nat.zero_le _, Nat.zero_le _, Nat.zero_le _⟩⟩, k5⟩
  obtain rfl : v = .b true := hv.trans (B_t hwf).symm
  obtain ⟨z1, z2, z3, z4⟩ := wf_size hwf
  obtain ⟨wb, hwb⟩ : ∃ wb, WF g wb := by
    rcases hwf with h | h
    · exact ⟨_, h⟩
    · exact ⟨_, h⟩
  have z5 : ∀ i, i < g.ev.length → -1 ≤ (gt g.ev i).thread ∧ (gt g.ev i).thread < 64 := fun i hi => ⟨by
    by_cases h5 : (i : Int) < g.cells
    · rw [hwb.init i h5]; show (-1 : Int) ≤ -1; omega
    · have := (hwb.ev i (by omega) hi).1; omega, z4 i hi⟩
  have htn := thrN_le (l := g.ev) (n := g.ev.length) z4
  obtain ⟨n, hN⟩ : ∃ n : Nat, thrN g.ev g.ev.length = n := ⟨(thrN g.ev g.ev.length).toNat, by omega⟩
  have hn : n ≤ 64 := by omega
  obtain ⟨cc, hcc⟩ : ∃ cc : Nat, g.cells = cc := ⟨g.cells.toNat, by omega⟩
  refine go ?_
  refine stC (pthreads_spec hw3 hG3 z3 z5 n hN) (fun v6 hT ⟨⟨vs, hTd, hvl, hTr⟩, kT⟩ => ?_)
  have hwT := kT.wf hw3
  have oT := hTd.ln.one
  refine ew_al fun b6 hA ob6 kA => ?_
  refine ew_st ob6 (fun hB obB mB => ?_) (hv := cells_one5 oT) (h1 := allOne_cons oT rfl)
  have kTB : Kp hT hB := mB.kp kA fun k hk => by injection hk with hk; subst hk; exact ob6.lo
  have hwB := kTB.wf hwT
  have q8 := kT.le
  have q9 := ob6.lo
  have q10 := obB.hi
  have q11 := kTB.le
  have k3B := kT.trans kTB
  have hB2 := hB2.kp k3B hw3
  have hG4 := hG3.kp k3B hw3
  have hth := fun v hv => (hth v hv).kp k3B hw3
  have hB6 : Bx hB b6 [v6] := obB.bx
  clear hG3 ob6 mB kA
  refine go ?_
  refine stC (seconds_spec hwB hG4 (by have := hs.rmw; omega)) (fun v hC ⟨⟨bS, sml, hv, hS, hsm⟩, kC⟩ => ?_)
  subst hv
  have hwC := kC.wf hwB
  refine ew_al fun b7 hD ob7 kD => ?_
  refine ew_st ob7 (fun hE obE mE => ?_)
  have kCE : Kp hC hE := mE.kp kD fun k hk => by injection hk with hk; subst hk; exact ob7.lo
  have q12 := kC.le
  have q13 := ob7.lo
  have q14 := obE.hi
  have q15 := kCE.le
  have q16 := hS.lo
  have q17 := hS.hi
  have kBE := kC.trans kCE
  have hwE := kBE.wf hwB
  have hB2 := hB2.kp kBE hwB
  have hB6 := hB6.kp kBE hwB
  have hG5 := hG4.kp kBE hwB
  have hth := fun v hv => (hth v hv).kp kBE hwB
  have hB7 : Bx hE b7 [.m bS] := obE.bx
  have hS := hS.kp kCE
  clear hG4 ob7 mE kD
  refine go ?_
  refine stC (pcopied_spec hwE hG5 hth hs) (fun v hF ⟨⟨ue, urm, uad, uda, uct, hv, U1, U4, U5, U6, U7, hnil⟩, kF⟩ => ?_)
  subst hv
  have hwF := kF.wf hwE
  have oU : allOne [V.i .i64 g.cells, ue, .ns, .ns, urm, uad, uda, uct] = true := allOne_cons rfl (allOne_cons U1.ln.one (allOne_cons rfl (allOne_cons rfl (allOne_cons U4.ln.one (allOne_cons U5.ln.one (allOne_cons U6.ln.one (allOne_cons U7.ln.one rfl)))))))
  refine ew_al fun b8 hH ob8 kH => ?_
  refine ew_st ob8 (fun hJ obJ mJ => ?_) (h1 := oU)
  have obJ : Ob hJ hF.next b8 26 [V.i .i64 g.cells, ue, .ns, .ns, urm, uad, uda, uct] := obJ
  have kFJ : Kp hF hJ := mJ.kp kH fun k hk => by injection hk with hk; subst hk; exact ob8.lo
  have q18 := kF.le
  have q19 := ob8.lo
  have q20 := obJ.hi
  have q21 := kFJ.le
  have kEJ := kF.trans kFJ
  have hwJ := kEJ.wf hwE
  have hB2 := hB2.kp kEJ hwE
  have hB6 := hB6.kp kEJ hwE
  have hB7 := hB7.kp kEJ hwE
  have hS := hS.kp kEJ
  have U1' := U1
  have U4' := U4
  have U5' := U5
  have U6' := U6
  have U7' := U7
  have U1 := U1.mo (Mo.of_kp kFJ none) (fun _ _ e => by cases e)
  have U4 := U4.mo (Mo.of_kp kFJ none) (fun _ _ e => by cases e)
  have U5 := U5.mo (Mo.of_kp kFJ none) (fun _ _ e => by cases e)
  have U6 := U6.mo (Mo.of_kp kFJ none) (fun _ _ e => by cases e)
  have U7 := U7.mo (Mo.of_kp kFJ none) (fun _ _ e => by cases e)
  have hUne : ∀ k, ue.blk = some k → k < b8 := fun k hk => by have := (U1'.blk k hk).2; omega
  have U4lt : ∀ k, urm.blk = some k → k < b8 := fun k hk => by have := (U4'.blk k hk).2; omega
  have U5lt : ∀ k, uad.blk = some k → k < b8 := fun k hk => by have := (U5'.blk k hk).2; omega
  have U6lt : ∀ k, uda.blk = some k → k < b8 := fun k hk => by have := (U6'.blk k hk).2; omega
  have U7lt : ∀ k, uct.blk = some k → k < b8 := fun k hk => by have := (U7'.blk k hk).2; omega
  clear U1' U4' U5' U6' U7'
  have B1 : ∀ k, ue.blk = some k → hE.next ≤ k ∧ k < hJ.next := U1.blk
  have B4 : ∀ k, urm.blk = some k → hE.next ≤ k ∧ k < hJ.next := U4.blk
  have B5 : ∀ k, uad.blk = some k → hE.next ≤ k ∧ k < hJ.next := U5.blk
  have B6 : ∀ k, uda.blk = some k → hE.next ≤ k ∧ k < hJ.next := U6.blk
  have B7 : ∀ k, uct.blk = some k → hE.next ≤ k ∧ k < hJ.next := U7.blk
  clear hG5 ob8 mJ kH
  have kTJ := kTB.trans (kBE.trans kEJ)
  have hTdJ := hTd.mo (Mo.of_kp kTJ none) (fun e => by cases e)
  have hLt := hTdJ.ln
  rw [hvl] at hLt
  have q22 := hTd.blk.2.1
  have q23 := hTd.blk.2.2
  refine go ?_
  refine stC (newmach_spec (c := cc) (n := n) (ev := g.ev) hwJ (by omega) hn (fun i hi => by rw [hwb.init i (by omega)]; exact ⟨rfl, rfl⟩)) (fun v hK ⟨⟨bm, vq, vo, ws, hv, obm, hMac⟩, kK⟩ => ?_) (ha := congrArg (fun z : Int => some [V.i .i64 z, .i .i64 (n : Int)]) hcc)
  subst hv
  have hwK := kK.wf hwJ
  refine ew_al fun b9 hL ob9 kL => ?_
  refine ew_st ob9 (fun hM obM mM => ?_)
  have kKM : Kp hK hM := mM.kp kL fun k hk => by injection hk with hk; subst hk; exact ob9.lo
  have hwM := kKM.wf hwK
  have q24 := kK.le
  have q25 := obm.lo
  have q26 := obm.hi
  have q27 := ob9.lo
  have q28 := obM.hi
  have q29 := kKM.le
  have hB9 : Bx hM b9 [.p bm 0] := obM.bx
  clear ob9 mM kL
  refine go ?_
  refine ew_mm .i64 fun mF hO hMF kO => ?_
  refine ew_al fun b10 hP' ob10 kP => ?_
  refine ew_st ob10 (fun hS' obS mS' => ?_)
  have kOS : Kp hO hS' := mS'.kp kP fun k hk => by injection hk with hk; subst hk; exact ob10.lo
  have kMS := kO.trans kOS
  have kKS := kKM.trans kMS
  have kJS := kK.trans kKS
  have q30 := kO.le
  have q31 := hMF.lo
  have q32 := hMF.hi
  have q33 := ob10.lo
  have q34 := obS.hi
  have q35 := kOS.le
  have hwS := kJS.wf hwJ
  have hB2S := hB2.kp kJS hwJ
  have hB6S := hB6.kp kJS hwJ
  have hB7S := hB7.kp kJS hwJ
  have hB9S := hB9.kp kMS hwM
  have hB10S : Bx hS' b10 [.m mF] := obS.bx
  have hBmS := obm.bx.kp kKS hwK
  have hSS := hS.kp kJS
  have ob8S := obJ.mo (Mo.of_kp kJS none) (fun e => by cases e)
  have ob4S : Ob hS' h1.next b4 26 [.i .i64 0, .ns, .ns, .ns, .ns, .ns, .ns, .ns] := ob4.mo (Mo.of_kp (kT.trans (kTJ.trans kJS)) none) (fun e => by cases e)
  have k0S := k03.trans (kT.trans (kTJ.trans kJS))
  have U1 := U1.mo (Mo.of_kp kJS none) (fun _ _ e => by cases e)
  have U4 := U4.mo (Mo.of_kp kJS none) (fun _ _ e => by cases e)
  have U5 := U5.mo (Mo.of_kp kJS none) (fun _ _ e => by cases e)
  have U6 := U6.mo (Mo.of_kp kJS none) (fun _ _ e => by cases e)
  have U7 := U7.mo (Mo.of_kp kJS none) (fun _ _ e => by cases e)
  have hMFS := hMF.kp kOS
  obtain ⟨c, rfl, hcT, hcR, hcP, rfl, rfl, rfl, rfl, rfl⟩ : ∃ c : PC, c.hS = hS' ∧ c.nT = hJ.next ∧ c.nR = h3.next ∧ (∀ k, c.P k ↔ hJ.next ≤ k ∧ k ≠ c.bm ∧ k ≠ b9 ∧ k ≠ c.mF ∧ k ≠ b10) ∧ c.vq = vq ∧ c.vo = vo ∧ c.v6 = v6 ∧ c.bm = bm ∧ c.mF = mF :=
    ⟨⟨hS', hJ.next, h3.next, fun k => hJ.next ≤ k ∧ k ≠ bm ∧ k ≠ b9 ∧ k ≠ mF ∧ k ≠ b10, vq, vo, v6, bm, mF, fun k h => h.1, fun h => h.2.2.2.1 rfl, by omega, by omega, fun h => h.2.1 rfl, by omega, by omega⟩, rfl, rfl, rfl, fun k => Iff.rfl, rfl, rfl, rfl, rfl, rfl⟩
  have hcP' : ∀ k, c.P k → hJ.next ≤ k := fun k hk => ((hcP k).1 hk).1
  have hPPn : ∀ k, k < hJ.next → k ≠ c.v6.ba → ¬ (c.P k ∨ k = c.mF ∨ k = c.v6.ba) := fun k h1 h2 h3 => by
    rcases h3 with h3 | h3 | h3
    · have := hcP' k h3; omega
    · omega
    · exact h2 h3
  have hPP : ∀ k, (c.P k ∨ k = c.mF ∨ k = c.v6.ba) → h.next ≤ k := fun k hk => by
    rcases hk with hk | hk | hk
    · have := hcP' k hk; omega
    · omega
    · omega
  have hPbm : ¬ (c.P c.bm ∨ c.bm = c.mF ∨ c.bm = c.v6.ba) := fun hk => by
    rcases hk with hk | hk | hk
    · exact ((hcP _).1 hk).2.1 rfl
    · omega
    · omega
  have hP9 : ¬ (c.P b9 ∨ b9 = c.mF ∨ b9 = c.v6.ba) := fun hk => by
    rcases hk with hk | hk | hk
    · exact ((hcP _).1 hk).2.2.1 rfl
    · omega
    · omega
  have hP10 : ¬ (c.P b10 ∨ b10 = c.mF ∨ b10 = c.v6.ba) := fun hk => by
    rcases hk with hk | hk | hk
    · exact ((hcP _).1 hk).2.2.2.2 rfl
    · omega
    · omega
  have hPI : PI c g n c.hS ⟨0, begT g n, List.replicate n [], begO g.cells.toNat, List.replicate g.ev.length 0, vs, List.replicate n .ns, ws, []⟩ :=
    { mac := by
        rw [← hcT] at hMac
        have h2 : Mac hK c.nT c.P c.vq c.vo 94 92 3 83 (wc g.ev) (List.replicate n []) (begO cc) (List.replicate n V.ns) ws := hMac.chP (P' := c.P) fun k hk hp => (hcP k).2 ⟨by omega, hp.2, by omega, by omega, by omega⟩
        have : g.cells.toNat = cc := by omega
        rw [this]
        exact h2.kp kKS
      gp := Gp.beg hwb hn
      mp := ⟨by omega, hMFS.hi, hMFS.at_⟩
      fr := fun r hr => .inl ⟨rfl, by rw [List.length_replicate] at hr; exact gt_rep hr⟩
      td := by rw [hcR]; exact hTdJ.mo (Mo.of_kp kJS none) (fun e => by cases e)
      tl := hvl
      rows := fun t ht => by
        have h1 : gt (begT g n) t = threadL g.ev t g.ev.length := gt_mapR ht
        show Ro c.hS (gt vs t) 1 icell (gt (begT g n) t) ∧ (0 < (gt (begT g n) t).length → (gt vs t).ba < c.nT ∧ (gt vs t).ba ≠ c.v6.ba)
        rw [h1]
        refine ⟨(hTr t ht).ro.kp (kTJ.trans kJS) hwT, fun h0 => ?_⟩
        have h2 := (hTr t ht).blk_some h0
        have h3 := ((hTr t ht).blk _ h2).2
        exact ⟨by omega, fun e => hTd.ne (hTr t ht) (by decide) (by rw [h2, e])⟩
      pr := .refl _ _
      wf := hwS }
  have hstart : Leads g ps n (begP g n) ⟨.pk 0, begT g n, List.replicate n [], begO g.cells.toNat, List.replicate g.ev.length 0⟩ := Leads.refl _
  have hPf : ∀ {h' : H} {x : PS}, PI c g n h' x → ∀ k, h'.next ≤ k → c.P k := fun hI k hk => (hcP k).2 (by have := hI.pr.le; omega)
  have hnt : ∀ {h' : H} {x : PS}, PI c g n h' x → c.nT ≤ h'.next := fun hI => by have := hI.pr.le; omega
  have heP : 0 < g.ev.length → ∀ ve', [V.i .i64 g.cells, ve, vrf, vco, vrmw, vad, vda, vct][1]? = some ve' → ¬ (c.P ve'.ba ∨ ve'.ba = c.mF) := fun h0 ve' hve' hp => by
    injection hve' with hve'
    subst hve'
    have h1 := (he0.cs.eq 0 0 h0 (by decide)).lt hw
    rcases hp with hp | hp
    · have h2 := hcP' _ hp
      omega
    · omega
  have hstep : ∀ {mm : Bool} {h' : H} {i : Nat} {T Q O : List (List Int)} {F : List Int} {tv qs os : List V} {ml : List (Int × V)} {t : Nat}, PI c g n h' ⟨i, T, Q, O, F, tv, qs, os, ml⟩ → t < n → gt T t ≠ [] → FX mm Tryz.prog 34 [.i .i64 (t : Int), .p b6 0, .p b2 0, .p b7 0, .p b9 0, .p b10 0] h' fun v h' => v = .b (stepP g.ev g.rmw Q O F t (gt T t)).done ∧ ∃ tv' qs' os' ml', PI c g n h' ⟨i, T.set t (stepP g.ev g.rmw Q O F t (gt T t)).l, (stepP g.ev g.rmw Q O F t (gt T t)).Q, (stepP g.ev g.rmw Q O F t (gt T t)).O, (stepP g.ev g.rmw Q O F t (gt T t)).F, tv', qs', os', ml'⟩ := fun hI htn hT => by
    have hp := hI.pr
    have hle := hp.le
    have n2 : ¬ (c.P b2 ∨ b2 = c.mF ∨ b2 = c.v6.ba) := hPPn b2 (by omega) (by omega)
    have n6 : ¬ (c.P b6 ∨ b6 = c.mF ∨ b6 = c.v6.ba) := hPPn b6 (by omega) (by omega)
    have n7 : ¬ (c.P b7 ∨ b7 = c.mF ∨ b7 = c.v6.ba) := hPPn b7 (by omega) (by omega)
    have nS : ¬ (c.P bS ∨ bS = c.mF ∨ bS = c.v6.ba) := hPPn bS (by omega) (by omega)
    have hk := hp.kp k0S hPP
    exact pstep_spec hI (hG.kp hk hw) hwb htn hT (hp.bx hB6S (by omega) n6) (hp.bx hB2S (by omega) n2) (hp.bx hB7S (by omega) n7) (hp.bx hB9S (by omega) hP9) (hp.bx hB10S (by omega) hP10) (hp.bx hBmS (by omega) hPbm) (hp.mp hSS nS) hsm (by omega) ⟨by omega, fun h => n6 (h.imp id .inl)⟩ ⟨by omega, fun h => n2 (h.imp id .inl)⟩ ⟨by omega, fun h => hP9 (h.imp id .inl)⟩ heP (hPf hI) (hnt hI)
  have hflu : ∀ {mm : Bool} {h' : H} {i : Nat} {T Q O : List (List Int)} {F : List Int} {tv qs os : List V} {ml : List (Int × V)} {t : Nat} (j : Nat), PI c g n h' ⟨i, T, Q, O, F, tv, qs, os, ml⟩ → t < n → FX mm Tryz.prog 41 [.p c.bm 0, .i .i64 (t : Int)] h' fun _ h' => ∃ qs' os', PI c g n h' ⟨j, T, (flushP g.ev Q O t).1, (flushP g.ev Q O t).2, F, tv, qs', os', ml⟩ := fun j hI htn => by
    have hp := hI.pr
    have hle := hp.le
    have hgp := hI.gp
    have hsz : lenT _ + lenT _ + lenT _ ≤ 100000 := hgp.sz
    refine FX.mono (pflush_spec (t := _) hI.wf hI.mac (hp.bx hBmS (by omega) hPbm) (by omega) c.c5 (by rw [hgp.ql]; exact htn) (fun x hx => ?_) (hPf hI) (hnt hI) (by omega)) fun v h' ⟨_, ⟨qs', os', hm'⟩, p'⟩ => ⟨qs', os', hI.flush htn hm' p' j⟩
    have h5 := hgp.q _ htn x hx
    have h6 := hgp.ol
    exact ⟨h5.1, h5.2.1, h5.2.2.2.1, by rw [h6]; exact h5.2.2.2.2⟩
  clear ob4 hTd hTdJ kT kTB k3B kC kCE kBE kF kFJ kEJ kTJ kK kKM kMS kKS kJS hB2 hB6 hB7 hB9 hS obB obE obJ obm obM obS mS' kO kOS kP ob10 hMF hMFS hMac hTr hLt k1 k2 k02 k3 k03 hw1 hw2 hw3 hwT hwB hwC hwE hwF hwJ hwK hwM
  have hLp0 := hvp.ln
  refine go ?_
  refine Es.toB (X := PS) (fun _ => [(4, .p b4 0), (6, .p b6 0), (8, .p b8 0), (9, .p b9 0), (10, .p b10 0), (11, .fn (.func 34) [] [.p b6 0, .p b2 0, .p b7 0, .p b9 0, .p b10 0])]) (fun x h' => PI c g n h' x ∧ Leads g ps n (begP g n) ⟨.dr 0, x.T, x.Q, x.O, x.F⟩) ?_ fun x hd hx => ?_
  · refine Es.loop (X := PS) (fun x => ps.length - x.i) (fun x => [(4, .p b4 0), (6, .p b6 0), (8, .p b8 0), (9, .p b9 0), (10, .p b10 0), (11, .fn (.func 34) [] [.p b6 0, .p b2 0, .p b7 0, .p b9 0, .p b10 0]), (36, vp), (37, .i .i64 (ps.length : Int)), (38, .i .i64 (x.i : Int))]) (fun x h' => x.i ≤ ps.length ∧ PI c g n h' x ∧ Leads g ps n (begP g n) ⟨.pk x.i, x.T, x.Q, x.O, x.F⟩) ⟨0, begT g n, List.replicate n [], begO g.cells.toNat, List.replicate g.ev.length 0, vs, List.replicate n .ns, ws, []⟩ ⟨rfl, rfl, rfl, rfl, rfl, rfl, rfl, rfl, rfl, trivial⟩ ⟨Nat.zero_le _, hPI, hstart⟩ fun x hl hx => ?_
    clear hPI hstart
    obtain ⟨i, T, Q, O, F, tv, qs, os, ml⟩ := x
    obtain ⟨hi, hI, hL⟩ := hx
    simp only at hi hL ⊢
    have hk := hI.pr.kp k0S hPP
    have hwl := hI.wf
    have hB6 := hI.pr.bx hB6S (by omega) (hPPn b6 (by omega) (by omega))
    have hB9 := hI.pr.bx hB9S (by omega) hP9
    obtain ⟨hLp, hCp⟩ := hvp.kp hk hw
    have htl : tv.length = n := hI.tl
    have hLt : Ln c.v6 1 tv.length := hI.td.ln
    have hCt : Cs hl c.v6 1 tv.length fun i k => vcell (gt tv i) k := hI.td.cs
    rw [htl] at hLt hCt
    by_cases hc1 : i < ps.length
    · by_cases hc2 : 0 < n
      · skip
        refine go ?_
        refine stC (ppick_spec (p := gt ps i) (n := n) (by omega) (by omega)) (fun v hp ⟨hv, e⟩ => ?_)
        obtain rfl := e.symm
        have e1 := Int.emod_nonneg (gt ps i) (show (2 * (n : Int)) ≠ 0 by omega)
        have e2 := Int.emod_lt_of_pos (gt ps i) (show 0 < (2 * (n : Int)) by omega)
        obtain ⟨t, ht⟩ : ∃ t : Nat, gt ps i % (2 * (n : Int)) / 2 = t := ⟨(gt ps i % (2 * (n : Int)) / 2).toNat, by omega⟩
        have htn : t < n := by omega
        have ht' : (gt ps i % (2 * (n : Int)) / 2).toNat = t := by omega
        have hv2 : v = .tup [.i .i64 (t : Int), .b (decide (gt ps i % (2 * (n : Int)) % 2 = 0))] := by rw [hv]; unfold pickV; rw [ht]
        subst hv2
        have hLr : Ln (vcell (gt tv t) 0) 1 (gt T t).length := (hI.rows t htn).1.ln
        have htT : t < T.length := by have : T.length = n := hI.gp.tl; omega
        refine go ?_
        refine cN (fun hfl => ?_) (fun hst => ?_)
        · skip
          refine go ?_
          refine stC (hflu (i + 1) hI htn) (fun v h6 ⟨qs', os', hI6⟩ => ?_)
          refine go ?_
          exact Nx.inv _ (by simp only; omega) ⟨rfl, rfl, rfl, rfl, rfl, rfl, rfl, rfl, rfl, trivial⟩ ⟨by simp only; omega, hI6, hL.next (next_pkf ⟨hc1, hc2⟩ hfl ht')⟩
        · skip
          refine go ?_
          refine cD (fun hpos => ?_) (fun hnp => ?_)
          · have hTne : gt T t ≠ [] := fun e => by rw [e] at hpos; exact absurd hpos (by decide)
            refine go ?_
            refine ew_cv .n rfl rfl (hstep hI htn hTne) (fun v h6 ⟨hv, tv', qs', os', ml', hI6⟩ => ?_)
            refine go ?_
            exact Nx.inv _ (by simp only; omega) ⟨rfl, rfl, rfl, rfl, rfl, rfl, rfl, rfl, rfl, trivial⟩ ⟨by simp only; omega, hI6.at_ (j := i + 1), hL.next (next_pks ⟨hc1, hc2⟩ hst ht')⟩
          · have hTe : gt T t = [] := List.length_eq_zero_iff.1 (by omega)
            have hnx := next_pks (g := g) (T := T) (Q := Q) (O := O) (F := F) ⟨hc1, hc2⟩ hst ht'
            have hTT : T.set t [] = T := by rw [← hTe]; exact set_gt htT
            rw [hTe, stepP_nil] at hnx
            simp only [hTT] at hnx
            refine go ?_
            exact Nx.inv _ (by simp only; omega) ⟨rfl, rfl, rfl, rfl, rfl, rfl, rfl, rfl, rfl, trivial⟩ ⟨by simp only; omega, hI.at_ (j := i + 1), hL.next hnx⟩
      · have hn0 : n = 0 := by omega
        refine go ?_
        exact Nx.to _ ⟨rfl, rfl, rfl, rfl, rfl, rfl, trivial⟩ ⟨hI, hL.next (next_pk0 (by omega))⟩
    · skip
      refine go ?_
      exact Nx.to _ ⟨rfl, rfl, rfl, rfl, rfl, rfl, trivial⟩ ⟨hI, hL.next (next_pk0 (by omega))⟩
  clear hPI hstart
  obtain ⟨i0, T0, Q0, O0, F0, tv0, qs0, os0, ml0⟩ := x
  obtain ⟨hI0, hL0⟩ := hx
  simp only at hL0
  have hB6 := hI0.pr.bx hB6S (by omega) (hPPn b6 (by omega) (by omega))
  have hLt : Ln c.v6 1 tv0.length := hI0.td.ln
  have htl : tv0.length = n := hI0.tl
  rw [htl] at hLt
  refine go ?_
  refine Es.toB (X := PS) (fun _ => [(4, .p b4 0), (6, .p b6 0), (8, .p b8 0), (9, .p b9 0), (10, .p b10 0), (11, .fn (.func 34) [] [.p b6 0, .p b2 0, .p b7 0, .p b9 0, .p b10 0])]) (fun x h' => PI c g n h' x ∧ Leads g ps n (begP g n) ⟨.en 0, x.T, x.Q, x.O, x.F⟩) ?_ fun x he hx => ?_
  · refine Es.loop (X := PS) (fun x => n - x.i) (fun x => [(4, .p b4 0), (6, .p b6 0), (8, .p b8 0), (9, .p b9 0), (10, .p b10 0), (11, .fn (.func 34) [] [.p b6 0, .p b2 0, .p b7 0, .p b9 0, .p b10 0]), (70, .i .i64 (n : Int)), (71, .i .i64 (x.i : Int))]) (fun x h' => x.i ≤ n ∧ PI c g n h' x ∧ Leads g ps n (begP g n) ⟨.dr x.i, x.T, x.Q, x.O, x.F⟩) ⟨0, T0, Q0, O0, F0, tv0, qs0, os0, ml0⟩ ⟨rfl, rfl, rfl, rfl, rfl, rfl, rfl, rfl, trivial⟩ ⟨Nat.zero_le _, hI0.at_, hL0⟩ fun x hl hx => ?_
    clear hI0 hL0 hB6 htl
    obtain ⟨t, T1, Q1, O1, F1, tv1, qs1, os1, ml1⟩ := x
    obtain ⟨hi, hI1, hL1⟩ := hx
    simp only at hi hL1 ⊢
    refine go ?_
    refine cD (fun hlt => ?_) (fun hge => ?_)
    · have htn : t < n := by omega
      refine go ?_
      refine Es.loop (X := PS) (fun x => 2 * (gt x.T t).length + (gt x.Q t).length) (fun x => [(4, .p b4 0), (6, .p b6 0), (8, .p b8 0), (9, .p b9 0), (10, .p b10 0), (11, .fn (.func 34) [] [.p b6 0, .p b2 0, .p b7 0, .p b9 0, .p b10 0]), (16, .i .i64 (t : Int)), (70, .i .i64 (n : Int)), (71, .i .i64 (t : Int))]) (fun x h' => PI c g n h' x ∧ Leads g ps n (begP g n) ⟨.dr t, x.T, x.Q, x.O, x.F⟩) ⟨t, T1, Q1, O1, F1, tv1, qs1, os1, ml1⟩ ⟨rfl, rfl, rfl, rfl, rfl, rfl, rfl, rfl, rfl, trivial⟩ ⟨hI1, hL1⟩ fun x hm hx => ?_
      clear hI1 hL1
      obtain ⟨i, T, Q, O, F, tv, qs, os, ml⟩ := x
      obtain ⟨hI, hL⟩ := hx
      simp only at hL ⊢
      have hwl := hI.wf
      have hB6 := hI.pr.bx hB6S (by omega) (hPPn b6 (by omega) (by omega))
      have htl : tv.length = n := hI.tl
      have hCt : Cs hm c.v6 1 tv.length fun i k => vcell (gt tv i) k := hI.td.cs
      rw [htl] at hCt
      have hLr : Ln (vcell (gt tv t) 0) 1 (gt T t).length := (hI.rows t htn).1.ln
      have htq : t < Q.length := by have : Q.length = n := hI.gp.ql; omega
      have htT : t < T.length := by have : T.length = n := hI.gp.tl; omega
      refine go ?_
      refine cD (fun hpos => ?_) (fun hnp => ?_)
      · have hTne : gt T t ≠ [] := fun e => by rw [e] at hpos; exact absurd hpos (by decide)
        refine go ?_
        refine ew_cv .n rfl rfl (hstep hI htn hTne) (fun v h6 ⟨hv, tv', qs', os', ml', hI6⟩ => ?_)
        cases hdn : (stepP g.ev g.rmw Q O F t (gt T t)).done with
        | true =>
          have hless := step_less2 (T := T) htq hdn
          rw [hdn] at hv
          subst hv
          refine go ?_
          exact Nx.inv _ (by simp only; rw [gt_set htT, if_pos rfl]; exact hless) ⟨rfl, rfl, rfl, rfl, rfl, rfl, rfl, rfl, rfl, trivial⟩ ⟨hI6, hL.next (next_drs htn hTne hdn)⟩
        | false =>
          rw [hdn] at hv
          subst hv
          rw [step_same hdn] at hI6
          simp only at hI6
          rw [set_gt htT] at hI6
          have hQne := wait_some (Q := Q) hTne hdn
          have hB9 := hI6.pr.bx hB9S (by omega) hP9
          have hfl := flush_less (ev := g.ev) (O := O) htq hQne
          refine go ?_
          refine stC (hflu i hI6 htn) (fun v h8 ⟨qs2, os2, hI8⟩ => ?_)
          refine go ?_
          exact Nx.inv _ (by simp only; omega) ⟨rfl, rfl, rfl, rfl, rfl, rfl, rfl, rfl, rfl, trivial⟩ ⟨hI8, hL.next (next_drf htn hTne hdn)⟩
      · have hTe : gt T t = [] := List.length_eq_zero_iff.1 (by omega)
        refine go ?_
        exact Nx.inv _ (by simp only; omega) ⟨rfl, rfl, rfl, rfl, rfl, rfl, rfl, rfl, trivial⟩ ⟨by simp only; omega, hI.at_ (j := t + 1), hL.next (next_dre htn hTe)⟩
    · skip
      refine go ?_
      exact Nx.to _ ⟨rfl, rfl, rfl, rfl, rfl, rfl, trivial⟩ ⟨hI1, hL1.next (next_dr0 (by omega))⟩
  clear hI0 hL0 hB6 htl
  obtain ⟨i1, T1, Q1, O1, F1, tv1, qs1, os1, ml1⟩ := x
  obtain ⟨hI, hL⟩ := hx
  simp only at hL
  have hk := hI.pr.kp k0S hPP
  have hB9 := hI.pr.bx hB9S (by omega) hP9
  have hBm := hI.pr.bx hBmS (by omega) hPbm
  have hle := hI.pr.le
  refine go ?_
  refine stC (pend_spec (T := T1) (F := F1) (ps := ps) hI.wf hI.mac hBm (by omega) c.c5 hI.gp hn (hPf hI) (hnt hI)) (fun v hZ ⟨_, ⟨Q', O', qs', os', hmZ, hgZ, hLZ⟩, pZ⟩ => ?_)
  have hrun : RunP g ps n (begP g n) ⟨.en n, T1, Q', O', F1⟩ := hL _ (hLZ _ (.fin (next_en0 (Nat.lt_irrefl _))))
  have pSZ : Pr (fun k => c.P k ∨ k = c.mF ∨ k = c.v6.ba) c.hS hZ := hI.pr.trans (pZ.sub fun k _ hp => .inl hp)
  have hMZ : Mp hZ c.nT c.mF .i64 ml1 := pZ.mp hI.mp c.c2
  have hfr : FromM g.ev F1 ml1 := hI.fr
  have hF1 : ∀ x, x < g.ev.length → 0 ≤ gt F1 x ∧ gt F1 x < g.ev.length := fun x hx => hgZ.f x (by rw [hgZ.fl]; exact hx)
  have hFl : F1.length = g.ev.length := hgZ.fl
  clear hL hLZ hB9 hBm hk hle
  have hkZ := pSZ.kp k0S hPP
  have hwZ := pSZ.wf hwS
  have leZ := pSZ.le
  have hB9Z := pSZ.bx hB9S (by omega) hP9
  have hB10Z := pSZ.bx hB10S (by omega) hP10
  have hBmZ := pSZ.bx hBmS (by omega) hPbm
  have ob4Z := pSZ.ob ob4S (hPPn b4 (by omega) (by omega))
  have ob8Z := pSZ.ob ob8S (hPPn b8 (by omega) (by omega))
  have U1 := pSZ.gy U1 fun k hk => hPPn k (B1 k hk).2 (by have := (B1 k hk).1; omega)
  have U4 := pSZ.gy U4 fun k hk => hPPn k (B4 k hk).2 (by have := (B4 k hk).1; omega)
  have U5 := pSZ.gy U5 fun k hk => hPPn k (B5 k hk).2 (by have := (B5 k hk).1; omega)
  have U6 := pSZ.gy U6 fun k hk => hPPn k (B6 k hk).2 (by have := (B6 k hk).1; omega)
  have U7 := pSZ.gy U7 fun k hk => hPPn k (B7 k hk).2 (by have := (B7 k hk).1; omega)
  clear hI pZ pSZ hB2S hB6S hB7S hB9S hB10S hBmS hSS ob4S ob8S hstep hflu
  have hB8 := ob8Z.bx
  have hLu0 := U1.ln
  have n4 : ∀ k, urm.blk = some k → ¬ (k = b8 ∨ ue.blk = some k) := fun k hk h => by
    rcases h with h | h
    · have := U4lt k hk; omega
    · exact U4.ne U1 (by decide) k hk h
  have n5 : ∀ k, uad.blk = some k → ¬ (k = b8 ∨ ue.blk = some k) := fun k hk h => by
    rcases h with h | h
    · have := U5lt k hk; omega
    · exact U5.ne U1 (by decide) k hk h
  have n6 : ∀ k, uda.blk = some k → ¬ (k = b8 ∨ ue.blk = some k) := fun k hk h => by
    rcases h with h | h
    · have := U6lt k hk; omega
    · exact U6.ne U1 (by decide) k hk h
  have n7 : ∀ k, uct.blk = some k → ¬ (k = b8 ∨ ue.blk = some k) := fun k hk h => by
    rcases h with h | h
    · have := U7lt k hk; omega
    · exact U7.ne U1 (by decide) k hk h
  have hno : ∀ k, hJ.next ≤ k → ¬ (k = b8 ∨ ue.blk = some k) := fun k hk h => by
    rcases h with h | h
    · omega
    · have := (B1 _ h).2; omega
  have hn4 : ¬ (b4 = b8 ∨ ue.blk = some b4) := fun h => by
    rcases h with h | h
    · omega
    · have := (B1 _ h).1; omega
  refine go ?_
  refine Es.loop (X := Nat × V) (fun x => g.ev.length - x.1) (fun x => [(4, .p b4 0), (8, .p b8 0), (9, .p b9 0), (10, .p b10 0), (91, ue), (92, .i .i64 (g.ev.length : Int)), (93, .i .i64 (x.1 : Int))]) (fun x h' => x.1 ≤ g.ev.length ∧ Gy h' hE.next ue 5 37 ecell (evsA g F1 x.1) ∧ Gw h' hZ.next x.2 2 39 pcell (rfsA g F1 x.1) ∧ Ob h' hF.next b8 26 [.i .i64 g.cells, ue, x.2, .ns, urm, uad, uda, uct] ∧ Pr (fun k => k = b8 ∨ ue.blk = some k) hZ h') (0, .ns) ⟨rfl, rfl, rfl, rfl, rfl, rfl, rfl, trivial⟩ ⟨Nat.zero_le _, by rw [evsA_0]; exact U1, .nil, ob8Z, .refl _ _⟩ fun x hl hx => ?_
  obtain ⟨r, w⟩ := x
  clear U1 ob8Z hB8
  obtain ⟨hr, hU, hW, hob, hp⟩ := hx
  simp only at hr hU hW hob ⊢
  have hk := hp.kp hkZ fun k hk => by
    rcases hk with hk | hk
    · omega
    · have := (B1 _ hk).1; omega
  have hwl := hp.wf hwZ
  have hB8 := hob.bx
  have hLu := hU.ln
  rw [evsA_len] at hLu
  have hple := hp.le
  refine go ?_
  refine cD (fun hlt => ?_) (fun hge => ?_)
  · have hr' : r < g.ev.length := by omega
    have hRw : Rw hl ue.ba 5 (ue.of + r * 5) (upto (ecell (gt g.ev r)) 5 0) := by
      have := hU.cs.row (i := r) (by rw [evsA_len]; exact hr')
      simp only [evsA_gt hr', if_neg (Nat.lt_irrefl _)] at this
      exact this
    have hM := hp.mp hMZ (hno _ (by omega))
    have hB10 := hp.bx hB10Z (by omega) (hno _ (by omega))
    refine go ?_
    refine ew_al fun b18 h2 ob2 k2 => ?_
    refine go ?_
    refine ew_st ob2 fun h3 ob3 m3 => ?_
    have k3 : Kp hl h3 := m3.kp k2 fun j hj => by injection hj with hj; subst hj; exact ob2.lo
    have hB18 : Bx h3 b18 (upto (ecell (gt g.ev r)) 5 0) := ob3.bx
    have k3le := k3.le
    have hU3 := hU.mo (Mo.of_kp k3 none) (fun _ _ e => by cases e)
    have hW3 := hW.mo (Mo.of_kp k3 none) (fun _ _ e => by cases e)
    have hob3 := hob.mo (Mo.of_kp k3 none) (fun e => by cases e)
    have hB8 := hB8.kp k3 hwl
    have hB10 := hB10.kp k3 hwl
    have hM3 := hM.kp k3
    have hp3 := hp.trans (Pr.of_kp (P := fun k => k = b8 ∨ ue.blk = some k) k3)
    clear hRw hM k2 ob2 m3 ob3
    refine go ?_
    refine cD (fun hkd => ?_) (fun hkd => ?_)
    · obtain ⟨a, hfv⟩ := from_val hwb hfr (r := r) (by omega) hFl hkd
      have hrl := rfsA_len (g := g) (F := F1) (n := r)
      refine go ?_
      refine ew_lkV hM3 hfv ?_
      refine go ?_
      refine ew_gw1 (k := 3) (w := .i .u64 (gt g.ev (gt F1 r).toNat).val) (valE g F1 r) (hU3.gw fun e => by have := evsA_len (g := g) (F := F1) (n := r); rw [e] at this; have : 0 = g.ev.length := this; omega) (i := r) (by rw [evsA_len]; exact hr') (by decide) (fun j hj => ?_) rfl (fun h4 hU4 m4 => ?_)
      · have h1 : valE g F1 r = { gt g.ev r with val := (gt g.ev (gt F1 r).toNat).val } := if_pos hkd
        rw [h1, evsA_gt hr', if_neg (Nat.lt_irrefl _)]
        match j, hj with
        | 0, _ => rfl
        | 1, _ => rfl
        | 2, _ => rfl
        | 3, _ => rfl
        | 4, _ => rfl
      · rw [← evsA_s hr'] at hU4
        have hU4 := hU4.gy
        have hob4 := hob3.mo m4 fun e => absurd (hUne _ e) (Nat.lt_irrefl _)
        have hW4 := hW3.mo m4 fun k hk e => by have := (B1 _ e).2; have := (hW.blk k hk).1; omega
        have hM4 := hM3.mo m4 fun e => by have := (B1 _ e).2; omega
        have hB10 : Bx h4 b10 [.m c.mF] := ⟨fun k v hk => ⟨(m4.cell (by omega) fun e => by have := (B1 _ e).2; omega).trans (hB10.eq k v hk).eq⟩⟩
        have hp4 := hp3.trans (Pr.of_mo m4 fun k hk => .inr hk)
        have hB8 := hob4.bx
        have m4le := m4.le
        clear hU3 hW3 hM3 hB18
        refine go ?_
        refine ew_lkV hM4 hfv ?_
        refine go ?_
        refine ew_app (x := (gt F1 r, (r : Int))) hW4 rfl rfl rfl rfl rfl (by decide) (by omega) (by omega) fun v' h5 hW5 m5 => ?_
        rw [← rfsA_y hkd] at hW5
        have hwn : ∀ k, w.blk = some k → hZ.next ≤ k := fun k hk => (hW.blk k hk).1
        have hob5 := hob4.mo m5 fun e => by have := hwn _ e; omega
        have hU5 := hU4.mo m5 fun k hk e => by have := hwn _ e; have := (B1 _ hk).2; omega
        have hp5 := hp4.mo_hi m5 fun k hk => .inr (hwn k hk)
        have o5 := hW5.ln.one
        refine go ?_
        refine ew_st hob5 (fun h6 hob6 m6 => ?_) (hv := cells_one5 o5) (h1 := allOne_cons o5 rfl)
        have hob6 : Ob h6 hF.next b8 26 [.i .i64 g.cells, ue, v', .ns, urm, uad, uda, uct] := hob6
        refine go ?_
        exact Nx.inv (r + 1, v') (by simp only; omega) ⟨rfl, rfl, rfl, rfl, rfl, rfl, rfl, trivial⟩ ⟨by simp only; omega, hU5.mo m6 fun k hk e => by injection e with e; have := (hUne k hk); omega, hW5.mo m6 fun k hk e => by injection e with e; have := (hW5.blk k hk).1; omega, hob6, hp5.trans (Pr.of_mo m6 fun k hk => by injection hk with hk; exact .inl hk.symm)⟩
    · skip
      refine go ?_
      exact Nx.inv (r + 1, w) (by simp only; omega) ⟨rfl, rfl, rfl, rfl, rfl, rfl, rfl, trivial⟩ ⟨by simp only; omega, by rw [evsA_n hr' hkd]; exact hU3, by rw [rfsA_n hkd]; exact hW3, hob3, hp3⟩
  · obtain rfl : r = g.ev.length := by omega
    have hmL := hmZ.pr hp fun k hk => hno k (hcP' k hk)
    have hB9 := hp.bx hB9Z (by omega) (hno _ (by omega))
    have hBm := hp.bx hBmZ (by omega) (hno _ (by omega))
    have ob4l := hp.ob ob4Z hn4
    have hol := hgZ.ol
    have U4 := hp.gy U4 n4
    have U5 := hp.gy U5 n5
    have U6 := hp.gy U6 n6
    have U7 := hp.gy U7 n7
    have hOsz := hgZ.sz
    refine go ?_
    refine stC (orders_spec (ev := g.ev) hwl hmL hBm (by omega) (by omega)) (fun v hY ⟨⟨cs, hAc, hFc⟩, kY⟩ => ?_)
    have hwY := kY.wf hwl
    have hU := hU.mo (Mo.of_kp kY none) (fun _ _ e => by cases e)
    have hW := hW.mo (Mo.of_kp kY none) (fun _ _ e => by cases e)
    have U4 := U4.mo (Mo.of_kp kY none) (fun _ _ e => by cases e)
    have U5 := U5.mo (Mo.of_kp kY none) (fun _ _ e => by cases e)
    have U6 := U6.mo (Mo.of_kp kY none) (fun _ _ e => by cases e)
    have U7 := U7.mo (Mo.of_kp kY none) (fun _ _ e => by cases e)
    have hobY := hob.mo (Mo.of_kp kY none) (fun e => by cases e)
    have ob4Y := ob4l.mo (Mo.of_kp kY none) (fun e => by cases e)
    have kYle := kY.le
    have oc := hAc.ln.one
    have ac1 := hAc.blk.2.1
    clear hob ob4l hB8
    refine go ?_
    refine ew_st hobY (fun hV obV mV => ?_) (hv := cells_one5 oc) (h1 := allOne_cons oc rfl)
    have obV : Ob hV hF.next b8 26 [.i .i64 g.cells, ue, w, v, urm, uad, uda, uct] := obV
    have ob4V := ob4Y.mo mV fun e => by injection e with e; omega
    have hB8 := obV.bx
    have mVle := mV.le
    have oL : allOne [V.i .i64 g.cells, ue, w, v, urm, uad, uda, uct] = true := allOne_cons rfl (allOne_cons hU.ln.one (allOne_cons hW.ln.one (allOne_cons oc (allOne_cons U4.ln.one (allOne_cons U5.ln.one (allOne_cons U6.ln.one (allOne_cons U7.ln.one rfl)))))))
    refine go ?_
    refine ew_st ob4V (fun hX obX mX => ?_) (h1 := oL)
    have hBX : Bx hX b4 [.i .i64 g.cells, ue, w, v, urm, uad, uda, uct] := obX.bx
    have hbb : ∀ k, k ≠ b8 → k ≠ b4 → ∀ {b : Option Nat}, b = some b8 ∨ b = some b4 → b ≠ some k := fun k h1 h2 b hb e => by
      rcases hb with h | h <;> (rw [h] at e; injection e with e; omega)
    have mv : ∀ {α : Type} [Inhabited α] {v : V} {sz n0 : Nat} {ty : TypeId} {cc : α → Nat → V} {l : List α}, Gw hY n0 v sz ty cc l → (∀ k, v.blk = some k → k ≠ b8 ∧ k ≠ b4) → Gw hX n0 v sz ty cc l := fun hg hb => (hg.mo mV fun k hk => hbb k (hb k hk).1 (hb k hk).2 (.inl rfl)).mo mX fun k hk => hbb k (hb k hk).1 (hb k hk).2 (.inr rfl)
    have mvy : ∀ {α : Type} [Inhabited α] {v : V} {sz n0 : Nat} {ty : TypeId} {cc : α → Nat → V} {l : List α}, Gy hY n0 v sz ty cc l → (∀ k, v.blk = some k → k ≠ b8 ∧ k ≠ b4) → Gy hX n0 v sz ty cc l := fun hg hb => (hg.mo mV fun k hk => hbb k (hb k hk).1 (hb k hk).2 (.inl rfl)).mo mX fun k hk => hbb k (hb k hk).1 (hb k hk).2 (.inr rfl)
    have hU := mvy hU fun k hk => ⟨by have := hUne k hk; omega, by have := (B1 k hk).1; omega⟩
    have hWn := hW.blk
    have hW := mv hW fun k hk => ⟨by have := (hWn k hk).1; omega, by have := (hWn k hk).1; omega⟩
    have U4b := fun k hk => (B4 k hk).2
    have hU4n : ∀ k, w.blk = some k → urm.blk ≠ some k := fun k hk e => by have := (hWn k hk).1; have := U4lt k e; omega
    have U4 := mvy U4 fun k hk => ⟨by have := U4lt k hk; omega, by have := (B4 k hk).1; omega⟩
    have U5 := mvy U5 fun k hk => ⟨by have := U5lt k hk; omega, by have := (B5 k hk).1; omega⟩
    have U6 := mvy U6 fun k hk => ⟨by have := U6lt k hk; omega, by have := (B6 k hk).1; omega⟩
    have U7 := mvy U7 fun k hk => ⟨by have := U7lt k hk; omega, by have := (B7 k hk).1; omega⟩
    have hAc := (hAc.mo mV fun e => by injection e with e; omega).mo mX fun e => by injection e with e; omega
    have hFr : ∀ i, i < O'.length → Gw hX hl.next (gt cs i) 1 3 icell (gt O' i) := fun i hi => mv (hFc.row i hi) fun k hk => by have := ((hFc.row i hi).blk k hk).1; exact ⟨by omega, by omega⟩
    have kZ := mX.kp (mV.kp (hk.trans kY) fun k hk => by injection hk with hk; omega) fun k hk => by injection hk with hk; omega
    refine go ?_
    refine ret_ct (v := .agg [.i .i64 g.cells, ue, w, v, urm, uad, uda, uct]) (od_lds rfl (rw_b hBX rfl)) ⟨⟨_, playG g O' F1, 0, rfl, ?_, .inr ⟨hwf, rfl, n, hN, _, hrun, rfl⟩, ?_, ?_⟩, kZ⟩
    · rw [playG_eq]
      exact ⟨ue, w, v, urm, uad, uda, uct, rfl, hU.ron.low (by omega), hW.ron.low (by omega), ⟨cs, hAc.ron.low (by omega), hFc.len, fun i hi => (hFr i hi).ron.low (by omega)⟩, U4.ron.low (by omega), U5.ron.low (by omega), U6.ron.low (by omega), U7.ron.low (by omega)⟩
    · rw [playG_eq]
      refine fun hnn => ?_
      obtain ⟨hn1, hn4⟩ := hnil hnn
      have hUg := hU.gw fun e => hn1 (List.length_eq_zero_iff.1 (by have := evsA_len (g := g) (F := F1) (n := g.ev.length); rw [e] at this; exact this.symm))
      have U4g := U4.gw hn4
      exact ⟨ue, w, v, urm, uad, uda, uct, rfl, hUg.low (by omega), hW.low (by omega), U4g.low (by omega), hU4n, cs, ⟨hFc.len, fun i hi => (hFr i hi).low (by omega), hFc.dis, hFc.rest⟩, .inr (hAc.low (by omega))⟩
    · rw [playG_eq]
      have e1 : (evsA g F1 g.ev.length).length = g.ev.length := evsA_len
      have e2 := rfsA_len (g := g) (F := F1) (n := g.ev.length)
      exact ⟨by show (evsA g F1 g.ev.length).length ≤ _; omega, by show (rfsA g F1 g.ev.length).length ≤ _; omega, by show O'.length ≤ _; omega, fun x hx => by have := lenT_le (L := O') hx; show (gt O' x).length ≤ _; omega, hs.rmw, hs.addr, hs.data, hs.ctrl⟩
end Go.Proofs.YtkcdehffcddciaaGreatDoor.Vm
