/- The program's rule 5. -/
import Derived.Test.YtkcdehffcddciaaGreatDoorQ22
import Derived.Test.YtkcdehffcddciaaGreatDoorQ18
namespace Go.Proofs.YtkcdehffcddciaaGreatDoor.Vm
open Go Go.RowKit
def s84:Sc:=(.seq (.region (
 ⟨none,some 2,.mv (.c (.i .i64 0)),[]⟩ :: []))
(.seq (.region (
 ⟨none,some 16,.mm,[]⟩ ::
 ⟨none,some 3,.mv (.t 16),[16]⟩ :: []))
(.seq (.seq (.region (
 ⟨none,some 17,.mv (.t 0),[0]⟩ ::
 ⟨none,some 18,.nc (.t 17),[17]⟩ ::
 ⟨none,some 19,.fa (.t 18) 0,[18]⟩ ::
 ⟨none,some 20,.fa (.t 19) 1,[19]⟩ ::
 ⟨none,some 21,.ld (.t 20),[20]⟩ ::
 ⟨none,some 22,.len (.t 21),[21]⟩ ::
 ⟨none,some 23,.mv (.c (.i .i64 0)),[]⟩ :: []))
(.block 0 (.loop (.seq (.region (
 ⟨none,some 24,.ar .lss (.t 23) (.t 22),[23,22]⟩ :: []))
(.seq (.cond (.t 24) .skip
 (.exit 0))
(.seq (.block 1 (.seq (.region (
 ⟨none,some 25,.ia (.t 21) (.t 23) 5,[21,23]⟩ ::
 ⟨none,some 26,.lds (.t 25) 5,[25]⟩ ::
 ⟨none,some 5,.al 37 [(.i .i64 0),(.i .i64 0),(.i .i64 0),(.i .u64 0),(.i .i64 0)],[]⟩ ::
 ⟨none,none,.st (.t 5) (.t 26) 5,[5,26]⟩ :: []))
(.seq (.region (
 ⟨none,some 27,.fa (.t 5) 1,[5]⟩ ::
 ⟨none,some 28,.ld (.t 27),[27]⟩ ::
 ⟨none,some 29,.eq .int false (.t 28) (.c (.i .i64 2)),[28]⟩ :: []))
(.cond (.t 29) (.region (
  ⟨none,some 30,.mv (.t 3),[3]⟩ ::
  ⟨none,some 31,.fa (.t 5) 2,[5]⟩ ::
  ⟨none,some 32,.ld (.t 31),[31]⟩ ::
  ⟨none,some 33,.lk (.t 30) (.t 32) (.i .i64 0) false,[30,32]⟩ ::
  ⟨none,some 34,.ar .add (.t 33) (.c (.i .i64 1)),[33]⟩ ::
  ⟨none,none,.mu (.t 30) (.t 32) (.t 34),[30,32,34]⟩ :: []))
 .skip))))
(.region (
 ⟨none,some 35,.ar .add (.t 23) (.c (.i .i64 1)),[23]⟩ ::
 ⟨none,some 23,.mv (.t 35),[35]⟩ :: []))))))))
(.seq (.region (
 ⟨none,some 36,.mv (.t 0),[0]⟩ ::
 ⟨none,some 37,.nc (.t 36),[36]⟩ ::
 ⟨none,some 38,.fa (.t 37) 0,[37]⟩ ::
 ⟨none,some 39,.fa (.t 38) 1,[38]⟩ ::
 ⟨none,some 40,.ld (.t 39),[39]⟩ ::
 ⟨none,some 41,.len (.t 40),[40]⟩ ::
 ⟨none,some 42,.ms 4 1 1 [(.b false)] (.t 41) (.t 41),[41,41]⟩ ::
 ⟨none,some 6,.mv (.t 42),[42]⟩ :: []))
(.seq (.mix (
 (⟨none,some 43,.mv (.t 0),[0]⟩,.q [none]) ::
 (⟨none,some 44,.nc (.t 43),[43]⟩,.q [none]) ::
 (⟨none,some 45,.fa (.t 44) 0,[44]⟩,.q [none]) ::
 (⟨none,some 46,.fa (.t 45) 3,[45]⟩,.q [none]) ::
 (⟨none,some 47,.ld (.t 46),[46]⟩,.q [none]) ::
 (⟨none,some 48,.len (.t 47),[47]⟩,.q [none]) ::
 (⟨none,some 49,.mv (.t 0),[0]⟩,.q [none]) ::
 (⟨none,some 50,.nc (.t 49),[49]⟩,.q [none]) ::
 (⟨none,some 51,.fa (.t 50) 0,[50]⟩,.q [none]) ::
 (⟨none,some 52,.fa (.t 51) 0,[51]⟩,.q [none]) ::
 (⟨none,some 53,.ld (.t 52),[52]⟩,.q [none]) ::
 (⟨none,some 54,.mn (.t 48) [(.t 53)],[48,53]⟩,.q [none]) ::
 (⟨none,some 7,.mv (.t 54),[54]⟩,.q [none]) :: []))
(.seq (.region (
 ⟨none,some 55,.mv (.t 7),[7]⟩ ::
 ⟨none,some 8,.mv (.t 55),[55]⟩ :: []))
(.seq (.seq (.region (
 ⟨none,some 56,.mv (.t 0),[0]⟩ ::
 ⟨none,some 57,.nc (.t 56),[56]⟩ ::
 ⟨none,some 58,.fa (.t 57) 0,[57]⟩ ::
 ⟨none,some 59,.fa (.t 58) 3,[58]⟩ ::
 ⟨none,some 60,.ld (.t 59),[59]⟩ ::
 ⟨none,some 61,.mv (.t 7),[7]⟩ ::
 ⟨none,some 62,.s2 1 (.t 60) none (some (.t 61)),[60,61]⟩ ::
 ⟨none,some 63,.len (.t 62),[62]⟩ ::
 ⟨none,some 64,.mv (.c (.i .i64 0)),[]⟩ :: []))
(.block 2 (.loop (.seq (.region (
 ⟨none,some 65,.ar .lss (.t 64) (.t 63),[64,63]⟩ :: []))
(.seq (.cond (.t 65) .skip
 (.exit 2))
(.seq (.block 3 (.seq (.region (
 ⟨none,some 66,.mv (.t 64),[64]⟩ ::
 ⟨none,some 67,.ia (.t 62) (.t 64) 1,[62,64]⟩ ::
 ⟨none,some 68,.ld (.t 67),[67]⟩ ::
 ⟨none,some 9,.mv (.t 66),[66]⟩ ::
 ⟨none,some 10,.mv (.t 68),[68]⟩ :: []))
(.seq (.region (
 ⟨none,some 69,.mv (.t 10),[10]⟩ ::
 ⟨none,some 70,.len (.t 69),[69]⟩ ::
 ⟨none,some 71,.ar .gtr (.t 70) (.c (.i .i64 0)),[70]⟩ ::
 ⟨none,some 72,.mv (.t 71),[71]⟩ ::
 ⟨some (72,true),some 73,.mv (.t 10),[10,72]⟩ ::
 ⟨some (72,true),some 74,.ia (.t 73) (.c (.i .i64 0)) 1,[73,72]⟩ ::
 ⟨some (72,true),some 75,.ld (.t 74),[74,72]⟩ ::
 ⟨some (72,true),some 76,.mv (.t 9),[9,72]⟩ ::
 ⟨some (72,true),some 77,.eq .int false (.t 75) (.t 76),[75,76,72]⟩ ::
 ⟨none,some 78,.pk (.t 72) (.t 77) (.c (.b false)),[72,77]⟩ ::
 ⟨none,some 11,.mv (.t 78),[78]⟩ :: []))
(.seq (.seq (.region (
 ⟨none,some 79,.mv (.t 10),[10]⟩ ::
 ⟨none,some 80,.len (.t 79),[79]⟩ ::
 ⟨none,some 81,.mv (.c (.i .i64 0)),[]⟩ :: []))
(.block 4 (.loop (.seq (.region (
 ⟨none,some 82,.ar .lss (.t 81) (.t 80),[81,80]⟩ :: []))
(.seq (.cond (.t 82) .skip
 (.exit 4))
(.seq (.block 5 (.seq (.region (
 ⟨none,some 83,.ia (.t 79) (.t 81) 1,[79,81]⟩ ::
 ⟨none,some 84,.ld (.t 83),[83]⟩ ::
 ⟨none,some 13,.mv (.t 84),[84]⟩ :: []))
(.seq (.region (
 ⟨none,some 85,.mv (.t 11),[11]⟩ ::
 ⟨none,some 86,.mv (.t 85),[85]⟩ ::
 ⟨some (86,true),some 87,.mv (.t 0),[0,86]⟩ ::
 ⟨some (86,true),some 88,.mv (.t 13),[13,86]⟩ ::
 ⟨some (86,true),some 89,.call 154 [(.t 87),(.t 88),(.c (.i .i64 2))],[87,88,86]⟩ ::
 ⟨none,some 90,.pk (.t 86) (.t 89) (.c (.b false)),[86,89]⟩ ::
 ⟨none,some 91,.mv (.t 90),[90]⟩ ::
 ⟨some (91,true),some 92,.mv (.t 0),[0,91]⟩ ::
 ⟨some (91,true),some 93,.nc (.t 92),[92,91]⟩ ::
 ⟨some (91,true),some 94,.fa (.t 93) 0,[93,91]⟩ ::
 ⟨some (91,true),some 95,.fa (.t 94) 1,[94,91]⟩ ::
 ⟨some (91,true),some 96,.ld (.t 95),[95,91]⟩ ::
 ⟨some (91,true),some 97,.mv (.t 13),[13,91]⟩ ::
 ⟨some (91,true),some 98,.ia (.t 96) (.t 97) 5,[96,97,91]⟩ ::
 ⟨some (91,true),some 99,.fa (.t 98) 2,[98,91]⟩ ::
 ⟨some (91,true),some 100,.ld (.t 99),[99,91]⟩ ::
 ⟨some (91,true),some 101,.mv (.t 9),[9,91]⟩ ::
 ⟨some (91,true),some 102,.eq .int false (.t 100) (.t 101),[100,101,91]⟩ ::
 ⟨none,some 103,.pk (.t 91) (.t 102) (.c (.b false)),[91,102]⟩ ::
 ⟨none,some 104,.mv (.t 103),[103]⟩ ::
 ⟨some (104,true),some 105,.mv (.t 6),[6,104]⟩ ::
 ⟨some (104,true),some 106,.mv (.t 13),[13,104]⟩ ::
 ⟨some (104,true),some 107,.ia (.t 105) (.t 106) 1,[105,106,104]⟩ ::
 ⟨some (104,true),some 108,.ld (.t 107),[107,104]⟩ ::
 ⟨some (104,true),some 109,.nt (.t 108),[108,104]⟩ ::
 ⟨none,some 110,.pk (.t 104) (.t 109) (.c (.b false)),[104,109]⟩ ::
 ⟨none,some 11,.mv (.t 110),[110]⟩ :: []))
(.seq (.region (
 ⟨none,some 111,.mv (.t 11),[11]⟩ :: []))
(.cond (.t 111) (.seq (.region (
 ⟨none,some 112,.mv (.t 6),[6]⟩ ::
 ⟨none,some 113,.mv (.t 13),[13]⟩ ::
 ⟨none,some 114,.ia (.t 112) (.t 113) 1,[112,113]⟩ ::
 ⟨none,none,.st (.t 114) (.c (.b true)) 1,[114]⟩ :: []))
(.region (
  ⟨none,some 115,.mv (.t 3),[3]⟩ ::
  ⟨none,some 116,.mv (.t 9),[9]⟩ ::
  ⟨none,some 117,.lk (.t 115) (.t 116) (.i .i64 0) false,[115,116]⟩ ::
  ⟨none,some 118,.ar .sub (.t 117) (.c (.i .i64 1)),[117]⟩ ::
  ⟨none,none,.mu (.t 115) (.t 116) (.t 118),[115,116,118]⟩ :: [])))
 .skip)))))
(.region (
 ⟨none,some 119,.ar .add (.t 81) (.c (.i .i64 1)),[81]⟩ ::
 ⟨none,some 81,.mv (.t 119),[119]⟩ :: []))))))))
(.seq (.region (
 ⟨none,some 120,.mv (.t 11),[11]⟩ ::
 ⟨none,some 121,.nt (.t 120),[120]⟩ :: []))
(.cond (.t 121) (.region (
  ⟨none,some 122,.mv (.t 8),[8]⟩ ::
  ⟨none,some 123,.mv (.t 9),[9]⟩ ::
  ⟨none,some 124,.mn (.t 122) [(.t 123)],[122,123]⟩ ::
  ⟨none,some 8,.mv (.t 124),[124]⟩ :: []))
 .skip))))))
(.region (
 ⟨none,some 125,.ar .add (.t 64) (.c (.i .i64 1)),[64]⟩ ::
 ⟨none,some 64,.mv (.t 125),[125]⟩ :: []))))))))
(.seq (.seq (.region (
 ⟨none,some 126,.mv (.t 3),[3]⟩ ::
 ⟨none,some 127,.rg (.t 126),[126]⟩ :: []))
(.block 6 (.loop (.seq (.region (
 ⟨none,some 128,.nx (.t 127),[127]⟩ ::
 ⟨none,some 129,.ex (.t 128) 0,[128]⟩ :: []))
(.seq (.cond (.t 129) .skip
 (.exit 6))
(.block 7 (.seq (.region (
 ⟨none,some 130,.en (.t 127),[127]⟩ ::
 ⟨none,some 131,.ex (.t 130) 0,[130]⟩ ::
 ⟨none,some 132,.ex (.t 130) 1,[130]⟩ ::
 ⟨none,some 14,.mv (.t 131),[131]⟩ ::
 ⟨none,some 15,.mv (.t 132),[132]⟩ :: []))
(.seq (.region (
 ⟨none,some 133,.mv (.t 15),[15]⟩ ::
 ⟨none,some 134,.ar .gtr (.t 133) (.c (.i .i64 0)),[133]⟩ :: []))
(.cond (.t 134) (.region (
  ⟨none,some 135,.mv (.t 8),[8]⟩ ::
  ⟨none,some 136,.mv (.t 14),[14]⟩ ::
  ⟨none,some 137,.mn (.t 135) [(.t 136)],[135,136]⟩ ::
  ⟨none,some 8,.mv (.t 137),[137]⟩ :: []))
 .skip)))))))))
(.seq (.seq (.mix (
 (⟨none,some 138,.mv (.t 8),[8]⟩,.q [none]) ::
 (⟨none,some 139,.mv (.t 7),[7]⟩,.q [none]) ::
 (⟨none,some 140,.ar .lss (.t 138) (.t 139),[138,139]⟩,.q [none]) ::
 (⟨none,some 141,.mv (.t 140),[140]⟩,.q [none]) ::
 (⟨some (141,false),some 142,.mv (.t 0),[0,141]⟩,.q [none]) ::
 (⟨some (141,false),some 143,.nc (.t 142),[142,141]⟩,.q [none]) ::
 (⟨some (141,false),some 144,.fa (.t 143) 0,[143,141]⟩,.q [none]) ::
 (⟨some (141,false),some 145,.fa (.t 144) 3,[144,141]⟩,.q [none]) ::
 (⟨some (141,false),some 146,.ld (.t 145),[145,141]⟩,.q [none]) ::
 (⟨some (141,false),some 147,.len (.t 146),[146,141]⟩,.q [none]) ::
 (⟨some (141,false),some 148,.mv (.t 0),[0,141]⟩,.q [none]) ::
 (⟨some (141,false),some 149,.nc (.t 148),[148,141]⟩,.q [none]) ::
 (⟨some (141,false),some 150,.fa (.t 149) 0,[149,141]⟩,.q [none]) ::
 (⟨some (141,false),some 151,.fa (.t 150) 0,[150,141]⟩,.q [none]) ::
 (⟨some (141,false),some 152,.ld (.t 151),[151,141]⟩,.q [none]) ::
 (⟨some (141,false),some 153,.eq .int true (.t 147) (.t 152),[147,152,141]⟩,.q [none]) ::
 (⟨none,some 154,.pk (.t 141) (.c (.b true)) (.t 153),[141,153]⟩,.q [none]) :: []))
(.cond (.t 154) (.seq (.region (
 ⟨none,some 155,.mv (.t 8),[8]⟩ ::
 ⟨none,some 2,.mv (.t 155),[155]⟩ :: []))
.ret)
 .skip))
(.seq (.region (
 ⟨none,some 2,.mv (.c (.i .i64 (-1))),[]⟩ :: []))
.ret))))))))))
set_option maxRecDepth 100000 in
theorem c84:fnB Tryz.prog 84=some (156,s84,[.t 2]):=by kernel_rfl
def RowOk (g:Gr) (c:Nat):Prop:=0<(gt g.co c).length∧gt (gt g.co c) 0=c∧∀i,i<(gt g.co c).length→IsE g (gt (gt g.co c) i) 2∧(gt g.ev (gt (gt g.co c) i).toNat).loc=c∧∀j,j<i→gt (gt g.co c) j≠gt (gt g.co c) i
structure Co2 where
 c:Nat
 sl:List Bool
 ml:List (Int × V)
 F:Int→Int
 bad:Int
structure P2 (g:Gr) (m0:Nat) (x:Co2):Prop where
 len:x.sl.length=g.ev.length
 le:∀c,x.F c≤WrC g c g.ev.length
 eq:∀c:Int,x.c≤c→x.F c=WrC g c g.ev.length
 b0:0≤x.bad
 b1:x.bad≤m0
 ok:x.bad=m0→∀c:Nat,c<x.c→RowOk g c∧x.F c=WrC g c g.ev.length-(gt g.co c).length
 no:x.bad<m0→∃c:Nat,c<x.c∧¬RowOk g c
 seen:∀i,i<g.ev.length→gt x.sl i=true→(gt g.ev i).loc<x.c
structure Co3 where
 i:Nat
 ok:Bool
 sl:List Bool
 ml:List (Int × V)
 F:Int→Int
structure P3 (g:Gr) (c:Nat) (F0:Int→Int) (x:Co3):Prop where
 len:x.sl.length=g.ev.length
 keep:∀c':Int,c'≠c→x.F c'=F0 c'
 hi:x.F c≤WrC g c g.ev.length
 lo:(WrC g c g.ev.length:Int)-x.i≤x.F c
 ok:x.ok=true→(0<(gt g.co c).length∧gt (gt g.co c) 0=c)∧x.F c=WrC g c g.ev.length-x.i∧(∀i,i<x.i→IsE g (gt (gt g.co c) i) 2∧(gt g.ev (gt (gt g.co c) i).toNat).loc=c∧∀j,j<i→gt (gt g.co c) j≠gt (gt g.co c) i)∧∀j,j<x.i→gt x.sl (gt (gt g.co c) j).toNat=true
 no:x.ok=false→¬RowOk g c
 seen:∀k:Nat,k<g.ev.length→gt x.sl k=true→(gt g.ev k).loc<c∨((gt g.ev k).loc=c∧∃j,j<x.i∧gt (gt g.co c) j=k)
theorem nodup_le:∀(l r:List Nat),l.Nodup→(∀x∈l,x∈r)→l.length≤r.length
 | [],_,_,_=>Nat.zero_le _
 | a :: l,r,hn,hs=>by
  rw[List.nodup_cons]at hn
  have h1:a∈r:=hs a List.mem_cons_self
  have h2:=nodup_le l (r.erase a) hn.2 fun x hx=>(List.mem_erase_of_ne (fun e:x=a=>hn.1 (by rw[←e];exact hx))).2 (hs x (List.mem_cons_of_mem _ hx))
  rw[List.length_erase_of_mem h1]at h2
  have h3:=List.length_pos_of_mem h1
  simp only[List.length_cons]
  omega
theorem RowOk.le {g:Gr} {c:Nat} (h:RowOk g c):(gt g.co c).length≤WrC g c g.ev.length:=by
 have h1:(((List.range (gt g.co c).length).map fun i=>(gt (gt g.co c) i).toNat)).length≤WrC g c g.ev.length:=by
  refine nodup_le _ _ ?_ fun x hx=>?_
  ·rw[List.nodup_iff_pairwise_ne,List.pairwise_map]
   refine List.Pairwise.imp_of_mem (R:=fun a b=>a<b) (fun {a b} ha hb hab e=>?_) List.pairwise_lt_range
   rw[List.mem_range]at ha hb
   obtain⟨⟨h3,-,-⟩,-,h4⟩:=h.2.2 b hb
   obtain⟨⟨h5,-,-⟩,-,-⟩:=h.2.2 a ha
   exact h4 a hab (by omega)
  ·obtain⟨i,hi,rfl⟩:=List.mem_map.1 hx
   rw[List.mem_range]at hi
   obtain⟨⟨h3,h4,h5⟩,h6,-⟩:=h.2.2 i hi
   refine List.mem_filter.2 ⟨List.mem_range.2 (by omega),?_⟩
   simp only[decide_eq_true_eq]
   exact⟨h5,h6⟩
 rw[List.length_map,List.length_range]at h1
 exact h1
set_option maxHeartbeats 0 in
theorem lco_spec {h:H} {b:Nat} {gl:List V} {vn:V} {g:Gr} {w:Bool} {nx:List Int} (hw:Wf h) (hg:LkAt h b gl vn g w nx) (hn:g.ev.length≤256) (hc0:0≤g.cells) (hcl:g.co.length≤100000000) (hcm:∀c,c<g.co.length→(gt g.co c).length≤100000000) (hpos:∀i,i<g.ev.length→(gt g.ev i).kind=2→0≤(gt g.ev i).loc):FX false Tryz.prog 84 [.p b 0] h fun v h'=>Iv v (CoOk g)∧Kp h h':=by
  obtain⟨ve,vrf,vco,vrmw,vad,vda,vct,rfl,he,-,hco,-⟩:=hg.gr.is
  obtain⟨vs,hvs,hvl,hR1⟩:=hco.is
  refine Fn.env c84 rfl ?_
  unfold s84
  have hB1:=hg.bx
  obtain⟨hL,hC1⟩:=he
  obtain⟨hL2,hV1⟩:=hvs
  rw[hvl]at hL2 hV1
  have hg1:=hg
  clear hg hco
  have hB:=hB1
  have k1:=Kp.refl h
  refine go ?_
  refine ew_mm .i64 fun bm h2 hM2 k2=>?_
  have hw2:=k2.wf hw
  have hB:=hB.kp k2 hw
  refine go ?_
  
  refine Es.loop (X:=Nat × List (Int × V)) (fun x=>g.ev.length-x.1) (fun x=>[(0,.p b 0),(3,.m bm),(21,ve),(22,.i .i64 (g.ev.length:Int)),(23,.i .i64 (x.1:Int))]) (fun x h'=>x.1≤g.ev.length∧Kp h h'∧Mp h' h.next bm .i64 x.2∧MF x.2 fun c=>WrC g c x.1) (0,[]) ⟨rfl,rfl,rfl,rfl,rfl,trivial⟩ ⟨Nat.zero_le _,k2,hM2,.nil⟩ fun x h3 hx=>?_
  obtain⟨r,ml⟩:=x
  obtain⟨hr,k3,hM,hF⟩:=hx
  simp only at hr hM hF ⊢
  clear hM2 k1
  have hw3:=k3.wf hw
  have hB:=hB1.kp k3 hw
  have hC:=hC1.kp k3 hw
  refine go ?_
  refine cD (fun hlt=>?_) (fun hge=>?_)
  · skip
    refine go ?_
    refine ew_al fun b5 h4 ob5 k4=>?_
    refine go ?_
    refine ew_st ob5 fun h5 ob6 m5=>?_
    have k5:Kp h3 h5:=m5.kp k4 fun j hj=>by injection hj with hj;subst hj;exact ob5.lo
    have hw5:=k5.wf hw3
    have hB5:=ob6.bx
    have hM:=hM.kp k5
    have hkp:=k3.trans k5
    clear k4 k5 ob5 ob6 m5 k3
    refine go ?_
    refine cD (fun hw2=>?_) (fun hw2=>?_)
    · skip
      refine go ?_
      refine ew_s .n (od_lk hM.at_ rfl rfl) ?_
      rw[hF.get]
      have hwl:=WrC_le g (gt g.ev r).loc r
      refine go ?_
      refine ew_mu hM fun h6 hM6 m6=>?_
      have hlo:=hM.lo
      refine go ?_
      exact Nx.inv (r+1,_) (by simp only;omega) ⟨rfl,rfl,rfl,rfl,rfl,trivial⟩ ⟨by simp only;omega,m6.kp hkp fun j hj=>by injection hj with hj;subst hj;exact hlo,hM6,by
        have h9:=hF.ins (gt g.ev r).loc ((WrC g (gt g.ev r).loc r:Int)+1)
        have e:(fun c=>if c=(gt g.ev r).loc then(WrC g (gt g.ev r).loc r:Int)+1 else(WrC g c r:Int))=fun c=>((WrC g c (r+1):Nat):Int):=funext fun c=>by
          by_cases e:c=(gt g.ev r).loc
          · rw[if_pos e,WrC_y ⟨hw2,e.symm⟩,e]
            rfl
          · rw[if_neg e,WrC_n fun h=>e h.2.symm]
        rw[e]at h9
        exact h9⟩
    · skip
      refine go ?_
      exact Nx.inv (r+1,ml) (by simp only;omega) ⟨rfl,rfl,rfl,rfl,rfl,trivial⟩ ⟨by simp only;omega,hkp,hM,by
        have e:(fun c=>((WrC g c r:Nat):Int))=fun c=>((WrC g c (r+1):Nat):Int):=funext fun c=>by
          rw[WrC_n fun h=>hw2 h.1]
        rw[e]at hF
        exact hF⟩
  have hrn:r=g.ev.length:=by omega
  subst hrn
  clear hge hr
  refine go ?_
  refine ew_ms (α:=Bool) (c:=bcell) (n:=g.ev.length) false (fun vz h4 hA4 k4=>?_) (by omega) (by omega)
  have hw4:=k4.wf hw3
  have hB:=hB.kp k4 hw3
  have hC:=hC.kp k4 hw3
  have hV:=(hV1.kp k3 hw).kp k4 hw3
  have hM4:=hM.kp k4
  have k04:=k3.trans k4
  have hbz:bm≠vz.ba:=by have:=hM.hi;have:=hA4.blk.2.1;omega
  have hA4:=hA4.low k3.le
  clear hM k4 k3
  refine go ?_
  obtain⟨m0,hm0⟩:∃m0:Nat,min (g.co.length:Int) g.cells=m0:=⟨(min (g.co.length:Int) g.cells).toNat,by omega⟩
  rw[hm0]
  refine go ?_
  refine ew_cut hL2 (m:=m0) (by omega) ?_
  obtain⟨hL3,-,-⟩:=cut_ln (m:=m0) hL2 (by omega)
  have hV0:=cut_cs (m:=m0) hL2 (by omega) hV1
  generalize hcv:cutV vco m0=vcc at hL3 hV0
  have hwr:∀c,WrC g c g.ev.length≤256:=fun c=>Nat.le_trans (WrC_le g c _) hn
  clear hV hB hC
  refine go ?_
  refine Es.loop (X:=Co2) (fun x=>m0-x.c) (fun x=>[(0,.p b 0),(3,.m bm),(6,vz),(7,.i .i64 (m0:Int)),(8,.i .i64 x.bad),(62,vcc),(63,.i .i64 (m0:Int)),(64,.i .i64 (x.c:Int))]) (fun x h'=>x.c≤m0∧Kp h h'∧Ar h' h.next vz 1 4 bcell x.sl∧Mp h' h.next bm .i64 x.ml∧MF x.ml x.F∧P2 g m0 x) ⟨0,List.replicate g.ev.length false,ml,fun c=>WrC g c g.ev.length,m0⟩ ⟨rfl,rfl,rfl,rfl,rfl,rfl,rfl,rfl,trivial⟩ ⟨Nat.zero_le _,k04,hA4,hM4,hF,by
    exact⟨List.length_replicate,fun c=>Int.le_refl _,fun c _=>rfl,by simp only;omega,Int.le_refl _,fun _ c hc=>absurd hc (Nat.not_lt_zero _),fun hc=>absurd hc (by simp only;omega),fun i hi hc=>by
      simp only at hc
      rw[gt_lt (by rw[List.length_replicate];exact hi),List.getElem_replicate]at hc
      cases hc⟩⟩ fun x h5 hx=>?_
  obtain⟨c,sl,ml,F,bad⟩:=x
  clear hF hM4 hA4 k04 hw4
  obtain⟨hc,k5,hA5,hM5,hF5,hP⟩:=hx
  simp only at hc hA5 hM5 hF5 ⊢
  have hw5:=k5.wf hw
  have hV:=hV0.kp k5 hw
  refine go ?_
  refine cD (fun hlt=>?_) (fun hge=>?_)
  · have hRc:=hR1 c (by omega)
    have hLc:Ln (vcell (gt vs c) 0) 1 (gt g.co c).length:=hRc.ln
    have hCc1:Cs h (vcell (gt vs c) 0) 1 (gt g.co c).length fun i k=>icell (gt (gt g.co c) i) k:=hRc.cs
    have hlr:=hcm c (by omega)
    have hCc:=hCc1.kp k5 hw
    
    have hrow:∀ok:Bool,(ok=true→0<(gt g.co c).length∧gt (gt g.co c) 0=c)→(ok=false→¬(0<(gt g.co c).length∧gt (gt g.co c) 0=c))→P3 g c F ⟨0,ok,sl,ml,F⟩:=fun ok h1 h2 =>
      ⟨hP.len,fun _ _=>rfl,hP.le c,by have:=hP.eq c (Int.le_refl _);simp only at this ⊢;omega,fun h=>⟨h1 h,by have:=hP.eq c (Int.le_refl _);simp only at this ⊢;omega,fun i hi=>absurd hi (Nat.not_lt_zero _),fun i hi=>absurd hi (Nat.not_lt_zero _)⟩,fun h hok=>h2 h ⟨hok.1,hok.2.1⟩,fun k hk h=>.inl (hP.seen k hk h)⟩
    refine go ?_
    refine EwG.mk fun _=>?_
    refine Ew.to (X:=Bool) (fun ok=>[(0,.p b 0),(3,.m bm),(6,vz),(7,.i .i64 (m0:Int)),(8,.i .i64 bad),(9,.i .i64 (c:Int)),(10,vcell (gt vs c) 0),(11,.b ok),(62,vcc),(63,.i .i64 (m0:Int)),(64,.i .i64 (c:Int))]) (fun ok h'=>h'=h5∧(ok=true↔0<(gt g.co c).length∧gt (gt g.co c) 0=c)) ?_ fun ok h6 hx=>?_
    · skip
      refine go ?_
      repeat' ((first | refine wgd (fun _=>?_) fun _=>?_ | refine wgn (fun _=>?_) fun _=>?_ | refine wgb (fun _=>?_) fun _=>?_ | refine mgd (fun _=>?_) fun _=>?_ | refine mgn (fun _=>?_) fun _=>?_ | refine mgb (fun _=>?_) fun _=>?_ | refine cD (fun _=>?_) fun _=>?_ | refine cN (fun _=>?_) fun _=>?_ | refine cB (fun _=>?_) fun _=>?_) <;> refine go ?_)
      · exact⟨decide (gt (gt g.co c) 0=(c:Int)),⟨rfl,rfl,rfl,rfl,rfl,rfl,rfl,rfl,rfl,rfl,rfl,trivial⟩,rfl,by simp only[decide_eq_true_eq];exact⟨fun h=>⟨by omega,h⟩,fun h=>h.2⟩⟩
      · exact⟨false,⟨rfl,rfl,rfl,rfl,rfl,rfl,rfl,rfl,rfl,rfl,rfl,trivial⟩,rfl,⟨fun h=>absurd h (by decide),fun h=>by omega⟩⟩
    obtain⟨rfl,hok⟩:=hx
    have hP3:=hrow ok hok.1 fun h h2=>by rw[hok.2 h2]at h;cases h
    clear hrow hok
    refine go ?_
    refine Es.loop (X:=Co3) (fun x=>(gt g.co c).length-x.i) (fun x=>[(0,.p b 0),(3,.m bm),(6,vz),(7,.i .i64 (m0:Int)),(8,.i .i64 bad),(9,.i .i64 (c:Int)),(11,.b x.ok),(62,vcc),(63,.i .i64 (m0:Int)),(64,.i .i64 (c:Int)),(79,vcell (gt vs c) 0),(80,.i .i64 ((gt g.co c).length:Int)),(81,.i .i64 (x.i:Int))]) (fun x h'=>x.i≤(gt g.co c).length∧Kp h h'∧Ar h' h.next vz 1 4 bcell x.sl∧Mp h' h.next bm .i64 x.ml∧MF x.ml x.F∧P3 g c F x) ⟨0,ok,sl,ml,F⟩ ⟨rfl,rfl,rfl,rfl,rfl,rfl,rfl,rfl,rfl,rfl,rfl,rfl,rfl,trivial⟩ ⟨Nat.zero_le _,k5,hA5,hM5,hF5,hP3⟩ fun y h7 hy=>?_
    obtain⟨i,ok,sl,ml,F'⟩:=y
    clear hP3 hV hCc hw5
    obtain⟨hi,k7,hA7,hM7,hF7,hP7⟩:=hy
    simp only at hi hA7 hM7 hF7 ⊢
    have hw7:=k7.wf hw
    have hB:=hB1.kp k7 hw
    have hC:=hC1.kp k7 hw
    have hCc:=hCc1.kp k7 hw
    have hsl:sl.length=g.ev.length:=hP7.len
    have hLz:Ln vz 1 g.ev.length:=by rw[←hsl];exact hA7.ln
    have hCz:Cs h7 vz 1 g.ev.length fun i k=>bcell (gt sl i) k:=by rw[←hsl];exact hA7.cs
    refine go ?_
    refine cD (fun hlt2=>?_) (fun hge2=>?_)
    · have hg7:=hg1.kp k7 hw
      have hfail:∀okv:Bool,okv=false→¬RowOk g c→P3 g c F ⟨i+1,okv,sl,ml,F'⟩:=fun okv h1 h2=>⟨hP7.len,hP7.keep,hP7.hi,by have:=hP7.lo;simp only at this ⊢;omega,fun h=>by simp only[h1]at h;exact absurd h (by decide),fun _=>h2,fun k hk h=>(hP7.seen k hk h).imp id fun ⟨hl,j,h3,h4⟩=>⟨hl,j,Nat.lt_succ_of_lt h3,h4⟩⟩
      cases ok with
      | false =>
        have hno:=hP7.no rfl
        refine go ?_
        repeat' ((first | refine wgd (fun _=>?_) fun _=>?_ | refine wgn (fun _=>?_) fun _=>?_ | refine wgb (fun _=>?_) fun _=>?_ | refine mgd (fun _=>?_) fun _=>?_ | refine mgn (fun _=>?_) fun _=>?_ | refine mgb (fun _=>?_) fun _=>?_ | refine cD (fun _=>?_) fun _=>?_ | refine cN (fun _=>?_) fun _=>?_ | refine cB (fun _=>?_) fun _=>?_) <;> refine go ?_)
        exact Nx.inv ⟨i+1,false,sl,ml,F'⟩ (by simp only;omega) ⟨rfl,rfl,rfl,rfl,rfl,rfl,rfl,rfl,rfl,rfl,rfl,rfl,rfl,trivial⟩ ⟨by simp only;omega,k7,hA7,hM7,hF7,hfail _ rfl hno⟩
      | true =>
        refine go ?_
        refine stC (lis_spec hg7) fun v h8 hR=>?_
        obtain⟨rfl,k8⟩:=hR
        have hA8:=hA7.mo (Mo.of_kp k8 none) (fun h=>by cases h)
        have hM8:=hM7.kp k8
        have hkp:=k7.trans k8
        have hB:=hB.kp k8 hw7
        have hC:=hC.kp k8 hw7
        have hCc:=hCc.kp k8 hw7
        have hCz:Cs h8 vz 1 g.ev.length fun i k=>bcell (gt sl i) k:=by rw[←hsl];exact hA8.cs
        clear k7 k8 hg7 hA7 hM7
        by_cases hE:IsE g (gt (gt g.co c) i) 2
        case neg =>
          have hE':=hE
          refine go ?_
          repeat' ((first | refine wgd (fun _=>?_) fun _=>?_ | refine wgn (fun _=>?_) fun _=>?_ | refine wgb (fun _=>?_) fun _=>?_ | refine mgd (fun _=>?_) fun _=>?_ | refine mgn (fun _=>?_) fun _=>?_ | refine mgb (fun _=>?_) fun _=>?_ | refine cD (fun _=>?_) fun _=>?_ | refine cN (fun _=>?_) fun _=>?_ | refine cB (fun _=>?_) fun _=>?_) <;> refine go ?_)
          exact Nx.inv ⟨i+1,_,sl,ml,F'⟩ (by simp only;omega) ⟨rfl,rfl,rfl,rfl,rfl,rfl,rfl,rfl,rfl,rfl,rfl,rfl,rfl,trivial⟩ ⟨by simp only;omega,hkp,hA8,hM8,hF7,hfail _ (by first | rfl | exact decide_eq_false hE) fun h=>hE (h.2.2 i (by omega)).1⟩
        obtain⟨hE0,hE1,hE2⟩:=id hE
        refine go ?_
        repeat' ((first | refine wgd (fun _=>?_) fun _=>?_ | refine wgn (fun _=>?_) fun _=>?_ | refine wgb (fun _=>?_) fun _=>?_ | refine mgd (fun _=>?_) fun _=>?_ | refine mgn (fun _=>?_) fun _=>?_ | refine mgb (fun _=>?_) fun _=>?_ | refine cD (fun _=>?_) fun _=>?_ | refine cN (fun _=>?_) fun _=>?_ | refine cB (fun _=>?_) fun _=>?_) <;> refine go ?_)
        all_goals try exact Nx.inv ⟨i+1,_,sl,ml,F'⟩ (by simp only;omega) ⟨rfl,rfl,rfl,rfl,rfl,rfl,rfl,rfl,rfl,rfl,rfl,rfl,rfl,trivial⟩ ⟨by simp only;omega,hkp,hA8,hM8,hF7,hfail _ (by first | rfl | exact decide_eq_false (by assumption) | assumption) fun h=>by
          have h1:=h.2.2 i (by omega)
          first
            | exact absurd h1.2.1 (by assumption)
            | (have h2:gt sl (gt (gt g.co c) i).toNat=true:=by
                have h3:(!gt sl (gt (gt g.co c) i).toNat)=false:=by assumption
                revert h3
                cases gt sl (gt (gt g.co c) i).toNat <;> decide
               have h3:=h1.2.1
               rcases hP7.seen _ (by omega) h2 with h4 | ⟨-,j,h4,h5⟩
               · omega
               · exact h1.2.2 j h4 (by rw[h5,Int.toNat_of_nonneg hE0]))⟩
        have hloc:(gt g.ev (gt (gt g.co c) i).toNat).loc=c:=by assumption
        have hns:gt sl (gt (gt g.co c) i).toNat=false:=by
          have h3:(!gt sl (gt (gt g.co c) i).toNat)=true:=by assumption
          revert h3
          cases gt sl (gt (gt g.co c) i).toNat <;> decide
        refine ew_ar true hA8 (i:=(gt (gt g.co c) i).toNat) (by omega) fun h9 hA9 m9=>?_
        have hM9:=hM8.mo m9 fun h=>by injection h with h;exact hbz h.symm
        have hkp9:=m9.kp hkp fun j hj=>by injection hj with hj;subst hj;exact hA8.blk.2.1
        have hFhi:=hP7.hi
        have hFlo:=hP7.lo
        have hwc:=hwr c
        simp only at hFhi hFlo
        refine go ?_
        refine ew_s .n (od_lk hM9.at_ rfl rfl) ?_
        rw[hF7.get]
        refine go ?_
        refine ew_mu hM9 fun h10 hM10 m10=>?_
        have hkp10:=m10.kp hkp9 fun j hj=>by injection hj with hj;subst hj;exact hM9.lo
        have hA10:=hA9.mo m10 fun h=>by injection h with h;exact hbz h
        have hok7:=hP7.ok rfl
        refine go ?_
        refine Nx.inv ⟨i+1,_,sl.set (gt (gt g.co c) i).toNat true,_,fun c'=>if c'=(c:Int)then F' c-1 else F' c'⟩ (by simp only;omega) ⟨rfl,rfl,rfl,rfl,rfl,rfl,rfl,rfl,rfl,rfl,rfl,rfl,rfl,trivial⟩ ⟨by simp only;omega,hkp10,hA10,hM10,hF7.ins (c:Int) (F' c-1),?_⟩
        refine⟨?_,?_,?_,?_,?_,?_,?_⟩
        · simp only[List.length_set];exact hsl
        · intro c' hc'
          simp only[if_neg hc']
          exact hP7.keep c' hc'
        · simp only[if_true];omega
        · simp only[if_true];omega
        · intro _
          obtain⟨h1,h2,h3,h4⟩:=hok7
          simp only at h2 h3 h4
          refine⟨h1,by simp only[if_true];omega,fun i' hi'=>?_,fun j hj=>?_⟩
          · simp only at hi'
            rcases Nat.lt_succ_iff_lt_or_eq.1 hi' with h9 | h9
            · exact h3 i' h9
            · subst h9
              refine⟨hE,hloc,fun j hj e=>?_⟩
              have:=h4 j hj
              rw[e,hns]at this
              cases this
          · simp only at hj ⊢
            rw[gt_set (by omega)]
            split
            · rfl
            · rcases Nat.lt_succ_iff_lt_or_eq.1 hj with h9 | h9
              · exact h4 j h9
              · subst h9;contradiction
        · intro h1
          simp only at h1
          rw[hns]at h1
          cases h1
        · intro k hk h1
          simp only at h1 ⊢
          rw[gt_set (by omega)]at h1
          by_cases e:k=(gt (gt g.co c) i).toNat
          · exact .inr ⟨by rw[e];exact hloc,i,Nat.lt_succ_self _,by omega⟩
          · rw[if_neg e]at h1
            exact(hP7.seen k hk h1).imp id fun ⟨hl,j,h3,h4⟩=>⟨hl,j,Nat.lt_succ_of_lt h3,h4⟩
    have hic:i=(gt g.co c).length:=by omega
    subst hic
    have h2le:=hP.le
    have h2eq:=hP.eq
    have h2b0:=hP.b0
    have h2b1:=hP.b1
    have h2ok:=hP.ok
    have h2no:=hP.no
    simp only at h2le h2eq h2b0 h2b1 h2ok h2no
    have hle':∀c',F' c'≤WrC g c' g.ev.length:=fun c'=>by
      by_cases e:c'=(c:Int)
      · rw[e];exact hP7.hi
      · have:=hP7.keep c' e
        simp only at this
        rw[this];exact h2le c'
    have heq':∀c':Int,(c:Int)+1≤c'→F' c'=WrC g c' g.ev.length:=fun c' hc'=>by
      have:=hP7.keep c' (by omega)
      simp only at this
      rw[this];exact h2eq c' (by omega)
    have hseen':∀k,k<g.ev.length→gt sl k=true→(gt g.ev k).loc<((c+1:Nat):Int):=fun k hk h=>by
      rcases hP7.seen k hk h with h1 | ⟨h1,-⟩ <;> omega
    cases ok with
    | false =>
      have hno:=hP7.no rfl
      refine go ?_
      repeat' ((first | refine wgd (fun _=>?_) fun _=>?_ | refine wgn (fun _=>?_) fun _=>?_ | refine wgb (fun _=>?_) fun _=>?_ | refine mgd (fun _=>?_) fun _=>?_ | refine mgn (fun _=>?_) fun _=>?_ | refine mgb (fun _=>?_) fun _=>?_ | refine cD (fun _=>?_) fun _=>?_ | refine cN (fun _=>?_) fun _=>?_ | refine cB (fun _=>?_) fun _=>?_) <;> refine go ?_)
      exact Nx.inv ⟨c+1,sl,ml,F',min bad c⟩ (by simp only;omega) ⟨rfl,rfl,rfl,rfl,rfl,rfl,rfl,rfl,trivial⟩ ⟨by simp only;omega,k7,hA7,hM7,hF7,⟨hsl,hle',fun c' hc'=>heq' c' (by simp only at hc';omega),by simp only;omega,by simp only;omega,fun h=>by simp only at h;omega,fun _=>⟨c,Nat.lt_succ_self _,hno⟩,hseen'⟩⟩
    | true =>
      obtain⟨h1,h2,h3,-⟩:=hP7.ok rfl
      simp only at h2 h3
      refine go ?_
      repeat' ((first | refine wgd (fun _=>?_) fun _=>?_ | refine wgn (fun _=>?_) fun _=>?_ | refine wgb (fun _=>?_) fun _=>?_ | refine mgd (fun _=>?_) fun _=>?_ | refine mgn (fun _=>?_) fun _=>?_ | refine mgb (fun _=>?_) fun _=>?_ | refine cD (fun _=>?_) fun _=>?_ | refine cN (fun _=>?_) fun _=>?_ | refine cB (fun _=>?_) fun _=>?_) <;> refine go ?_)
      exact Nx.inv ⟨c+1,sl,ml,F',bad⟩ (by simp only;omega) ⟨rfl,rfl,rfl,rfl,rfl,rfl,rfl,rfl,trivial⟩ ⟨by simp only;omega,k7,hA7,hM7,hF7,⟨hsl,hle',fun c' hc'=>heq' c' (by simp only at hc';omega),h2b0,h2b1,fun h c' hc'=>by
        simp only at h hc' ⊢
        rcases Nat.lt_succ_iff_lt_or_eq.1 hc' with h9 | h9
        · have h8:=hP7.keep c' (by omega)
          simp only at h8
          rw[h8]
          exact h2ok h c' h9
        · subst h9
          exact⟨⟨h1.1,h1.2,h3⟩,h2⟩,fun h=>by
        obtain⟨c',h4,h5⟩:=h2no h
        exact⟨c',Nat.lt_succ_of_lt h4,h5⟩,hseen'⟩⟩
  obtain rfl:c=m0:=by omega
  have h2le:=hP.le
  have h2b0:=hP.b0
  have h2b1:=hP.b1
  have h2ok:=hP.ok
  have h2no:=hP.no
  simp only at h2le h2b0 h2b1 h2ok h2no
  clear hge hP hV hA5
  refine go ?_
  
  refine ew_rg hM5 fun bi h6 hI6 k6=>?_
  have hI6:It h6 h.next bi bm ml.length []:=⟨Nat.le_trans k5.le hI6.lo,hI6.hi,hI6.at_⟩
  have hM6:=hM5.kp k6
  have k06:=k5.trans k6
  clear k5 k6 hM5 hw5
  refine go ?_
  refine Es.loop (X:=List Nat × Int) (fun x=>toCome ml.length x.1) (fun x=>[(0,.p b 0),(7,.i .i64 (c:Int)),(8,.i .i64 x.2),(127,.p bi 0)]) (fun x h'=>Kp h h'∧Mp h' h.next bm .i64 ml∧It h' h.next bi bm ml.length x.1∧0≤x.2∧x.2≤c∧(x.2<c→bad<c∨∃c':Int,0≤c'∧c'<c∧0<F c')∧x.2≤bad∧∀i (hi:i<ml.length),i∈x.1→0<F (ml[i]).1→x.2≤(ml[i]).1) ([],bad) ⟨rfl,rfl,rfl,rfl,trivial⟩ ⟨k06,hM6,hI6,h2b0,h2b1,fun h=>.inl h,Int.le_refl _,fun i _ hi=>absurd hi List.not_mem_nil⟩ fun x h7 hx=>?_
  obtain⟨seen,bd⟩:=x
  clear hM6 hI6 k06
  obtain⟨k7,hM7,hI7,hb0,hb1,hb2,hb3,hb4⟩:=hx
  simp only at hI7 hb0 hb1 hb2 hb3 hb4 ⊢
  have hw7:=k7.wf hw
  have hB:=hB1.kp k7 hw
  have hpF:∀c':Int,0<F c'→0≤c':=fun c' hc'=>by
    have h1:=h2le c'
    have h2:0<WrC g c' g.ev.length:=by omega
    unfold WrC at h2
    obtain⟨i,hi⟩:=List.exists_mem_of_length_pos h2
    obtain⟨h3,h4⟩:=List.mem_filter.1 hi
    rw[List.mem_range]at h3
    simp only[decide_eq_true_eq]at h4
    rw[←h4.2]
    exact hpos i h3 h4.1
  refine go ?_
  refine ew_next rfl hM7 hI7 (fun hall=>?_) (fun i hl h8 hs hI8 m8=>?_)
  · have hmin:∀c',0<F c'→bd≤c':=fun c' hc'=>by
      obtain⟨q,hq,e⟩:=hF5.has c' (by omega)
      obtain⟨i,hi,e2⟩:=List.mem_iff_getElem.1 hq
      have:=hb4 i hi (hall i hi) (by rw[e2,e];exact hc')
      rw[e2,e]at this
      exact this
    have hA:CoOk g→(c:Int)≤bd∧(g.co.length:Int)=g.cells:=fun hok=>⟨by
      have h1:∀c':Nat,c'<c→CoAt g c':=fun c' hc'=>hok.1 c' (by clear hb2 h2no;omega) (by clear hb2 h2no;omega)
      have h2:∀c':Nat,c'<c→RowOk g c':=fun c' hc'=>⟨(h1 c' hc').1,(h1 c' hc').2.1,(h1 c' hc').2.2.2⟩
      have hbad:bad=c:=by
        rcases Int.lt_or_le bad c with h3 | h3
        · obtain⟨c',h4,h5⟩:=h2no h3
          exact absurd (h2 c' h4) h5
        · clear hb2 h2no;omega
      rcases Int.lt_or_le bd c with h3 | h3
      · rcases hb2 h3 with h4 | ⟨c',h4,h5,h6⟩
        · clear hb2 h2no;omega
        · obtain⟨k,rfl⟩:=Int.eq_ofNat_of_zero_le h4
          have h7:=(h2ok hbad k (by clear hb2 h2no;omega)).2
          have h8:=(h1 k (by clear hb2 h2no;omega)).2.2.1
          clear hb2 h2no;omega
      · exact h3,hok.2⟩
    have hZ:(c:Int)≤bd→(g.co.length:Int)=g.cells→CoOk g:=fun h1 h2=>⟨fun c' h3 h4=>by
      have hbad:bad=c:=by clear hb2 h2no;omega
      obtain⟨h5,h6⟩:=h2ok hbad c' (by clear hb2 h2no;omega)
      have h7:=h5.le
      have h8:¬0<F c':=fun h=>by have:=hmin c' h;clear hb2 h2no;omega
      exact⟨h5.1,h5.2.1,by clear hb2 h2no;omega,h5.2.2⟩,h2⟩
    clear hb4 hb2 h2ok h2no hall
    refine go ?_
    repeat' ((first | refine wgd (fun _=>?_) fun _=>?_ | refine wgn (fun _=>?_) fun _=>?_ | refine wgb (fun _=>?_) fun _=>?_ | refine mgd (fun _=>?_) fun _=>?_ | refine mgn (fun _=>?_) fun _=>?_ | refine mgb (fun _=>?_) fun _=>?_ | refine cD (fun _=>?_) fun _=>?_ | refine cN (fun _=>?_) fun _=>?_ | refine cB (fun _=>?_) fun _=>?_) <;> refine go ?_)
    all_goals first
      | exact ret_1 ⟨.n (hZ (by omega) (by omega)),k7⟩
      | exact ret_1 ⟨⟨bd,rfl,fun h=>by omega,fun hok=>by have:=hA hok;omega⟩,k7⟩
  · have hv:=hF5.val _ (List.getElem_mem hl)
    have hM8:=hM7.mo m8 fun h=>by injection h with h;subst h;have h1:=hM7.at_;have h2:=hI7.at_;unfold MapAt at h1;unfold IterAt at h2;rw[h1]at h2;cases h2
    have k8:=m8.kp k7 fun j hj=>by injection hj with hj;subst hj;exact hI7.lo
    rw[hv]
    refine go ?_
    refine ew_en hM8 hI8 hl ?_
    rw[hv]
    have hlt:=toCome_lt hl hs
    have hstep:∀bd':Int,bd'≤bd→(0<F (ml[i]).1→bd'≤(ml[i]).1)→∀j (hj:j<ml.length),j∈seen++[i]→0<F (ml[j]).1→bd'≤(ml[j]).1:=fun bd' h1 h2 j hj h3 h4=>by
      rcases List.mem_append.1 h3 with h5 | h5
      · exact Int.le_trans h1 (hb4 j hj h5 h4)
      · obtain rfl:=List.mem_singleton.1 h5
        exact h2 h4
    refine go ?_
    refine cD (fun hp=>?_) (fun hp=>?_)
    · have hk0:=hpF _ hp
      refine go ?_
      exact Nx.inv (seen++[i],min bd (ml[i]).1) hlt ⟨rfl,rfl,rfl,rfl,trivial⟩ ⟨k8,hM8,hI8,by simp only;omega,by simp only;omega,fun h=>by
        simp only at h
        rcases Int.lt_or_le bd c with h3 | h3
        · exact hb2 h3
        · exact .inr ⟨_,hk0,by omega,hp⟩,by simp only;omega,hstep _ (by simp only;omega) fun _=>by simp only;omega⟩
    · skip
      refine go ?_
      exact Nx.inv (seen++[i],bd) hlt ⟨rfl,rfl,rfl,rfl,trivial⟩ ⟨k8,hM8,hI8,hb0,hb1,hb2,hb3,hstep _ (Int.le_refl _) fun h=>absurd h hp⟩
end Go.Proofs.YtkcdehffcddciaaGreatDoor.Vm
