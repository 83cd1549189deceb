/- The relations of a graph. -/
import Derived.Test.YtkcdehffcddciaaGreatDoorQ32
namespace Go.Proofs.YtkcdehffcddciaaGreatDoor.Vm
open Go Go.RowKit
def s56 : Sc:=(.seq (.region [Y 1 (.bx 26 (.t 0)) [0],
 Y 2 (.al 113 [.np,.np,.np,.np,.np,.np,.np,.np,.np,.np,.ns,.ns,.ns]) [],Y 3 (.mv (.c (.i .i64 0))) []])
  (.seq (.seq (.region [Y 16 (.lds (.t 1) 8) [1],Y 17 (.call 93 [.t 16]) [16],Y 18 (.nt (.t 17)) [17]])
  (.cond (.t 18) (.seq (.region [Y 19 (.bd [.np,.np,.np,.np,.np,.np,.np,.np,.np,.np,.ns,.ns,.ns] []) [],
 ⟨none,none,.st (.t 2) (.t 19) 13,[2,19]⟩,Y 3 (.mv (.c (.i .i64 4))) []]) .ret) .skip))
  (.seq (.region [Y 20 (.fa (.t 1) 1) [1],Y 21 (.ld (.t 20)) [20],Y 22 (.len (.t 21)) [21],
 Y 4 (.mv (.t 22)) [22]]) (.seq (.mix [(Y 23 (.mv (.t 4)) [4],.q [none]),(Y 24 (.call 107 [.t 23]) [23],.e),
 (Y 25 (.mv (.t 4)) [4],.q [none,some 1]),(Y 26 (.fa (.t 1) 2) [1],.q [none,some 1]),
 (Y 27 (.ld (.t 26)) [26],.q [none,some 1]),(Y 28 (.call 108 [.t 25,.t 27]) [25,27],.e),
 (Y 29 (.mv (.t 4)) [4],.q [none,some 1,some 5]),(Y 30 (.call 107 [.t 29]) [29],.e),
 (Y 31 (.mv (.t 4)) [4],.q [none,some 1,some 5,some 7]),
 (Y 32 (.fa (.t 1) 4) [1],.q [none,some 1,some 5,some 7]),
 (Y 33 (.ld (.t 32)) [32],.q [none,some 1,some 5,some 7]),(Y 34 (.call 108 [.t 31,.t 33]) [31,33],.e),
 (Y 35 (.mv (.t 4)) [4],.q [none,some 1,some 5,some 7,some 11]),(Y 36 (.call 107 [.t 35]) [35],.e),
 (Y 37 (.mv (.t 4)) [4],.q [none,some 1,some 5,some 7,some 11,some 13]),(Y 38 (.call 107 [.t 37]) [37],.e),
 (Y 39 (.mv (.t 4)) [4],.q [none,some 1,some 5,some 7,some 11,some 13,some 15]),
 (Y 40 (.fa (.t 1) 5) [1],.q [none,some 1,some 5,some 7,some 11,some 13,some 15]),
 (Y 41 (.ld (.t 40)) [40],.q [none,some 1,some 5,some 7,some 11,some 13,some 15]),
 (Y 42 (.call 108 [.t 39,.t 41]) [39,41],.e),
 (Y 43 (.mv (.t 4)) [4],.q [none,some 1,some 5,some 7,some 11,some 13,some 15,some 19]),
 (Y 44 (.fa (.t 1) 6) [1],.q [none,some 1,some 5,some 7,some 11,some 13,some 15,some 19]),
 (Y 45 (.ld (.t 44)) [44],.q [none,some 1,some 5,some 7,some 11,some 13,some 15,some 19]),
 (Y 46 (.call 108 [.t 43,.t 45]) [43,45],.e),
 (Y 47 (.mv (.t 4)) [4],.q [none,some 1,some 5,some 7,some 11,some 13,some 15,some 19,some 23]),
 (Y 48 (.fa (.t 1) 7) [1],.q [none,some 1,some 5,some 7,some 11,some 13,some 15,some 19,some 23]),
 (Y 49 (.ld (.t 48)) [48],.q [none,some 1,some 5,some 7,some 11,some 13,some 15,some 19,some 23]),
 (Y 50 (.call 108 [.t 47,.t 49]) [47,49],.e),
 (Y 51 (.bd [.np,.np,.np,.np,.np,.np,.np,.np,.np,.np,.ns,.ns,.ns] [(0,1,.t 24),(1,1,.t 28),(2,1,.t 30),
 (4,1,.t 34),(5,1,.t 36),(6,1,.t 38),(7,1,.t 42),(8,1,.t 46),
 (9,1,.t 50)]) [24,28,30,34,36,38,42,46,50],.q [some 27]),
 (Y 5 (.al 113 [.np,.np,.np,.np,.np,.np,.np,.np,.np,.np,.ns,.ns,.ns]) [],.soft),(⟨none,none,.st (.t 5)
  (.t 51) 13,[5,51]⟩,.e)]) (.seq (.seq (.region [Y 52 (.fa (.t 1) 1) [1],Y 53 (.ld (.t 52)) [52],
 Y 54 (.len (.t 53)) [53],Y 55 (.mv (.c (.i .i64 0))) []])
  (.block 0 (.loop (.seq (.region [Y 56 (.ar .lss (.t 55) (.t 54)) [55,54]])
  (.seq (.cond (.t 56) .skip (.exit 0)) (.seq (.block 1 (.seq (.region [Y 57 (.mv (.t 55)) [55],
 Y 58 (.ia (.t 53) (.t 55) 5) [53,55],Y 59 (.lds (.t 58) 5) [58],
 Y 7 (.al 37 [.i .i64 0,.i .i64 0,.i .i64 0,.i .u64 0,.i .i64 0]) [],Y 6 (.mv (.t 57)) [57],
 ⟨none,none,.st (.t 7) (.t 59) 5,[7,59]⟩]) (.seq (.region [Y 60 (.fa (.t 5) 10) [5],Y 61 (.ld (.t 60)) [60],
 Y 62 (.fa (.t 7) 1) [7],Y 63 (.ld (.t 62)) [62],Y 64 (.eq .int false (.t 63) (.c (.i .i64 1))) [63],
 Y 65 (.bs 4 1 1 [.b false] [(0,1,.t 64)]) [64],Y 66 (.ap 4 1 1 (.t 61) (.t 65)) [61,65],
 Y 67 (.fa (.t 5) 10) [5],⟨none,none,.st (.t 67) (.t 66) 1,[67,66]⟩])
  (.seq (.region [Y 68 (.fa (.t 5) 11) [5],Y 69 (.ld (.t 68)) [68],Y 70 (.fa (.t 7) 1) [7],
 Y 71 (.ld (.t 70)) [70],Y 72 (.eq .int false (.t 71) (.c (.i .i64 2))) [71],
 Y 73 (.bs 4 1 1 [.b false] [(0,1,.t 72)]) [72],Y 74 (.ap 4 1 1 (.t 69) (.t 73)) [69,73],
 Y 75 (.fa (.t 5) 11) [5],⟨none,none,.st (.t 75) (.t 74) 1,[75,74]⟩])
  (.seq (.region [Y 76 (.fa (.t 5) 12) [5],Y 77 (.ld (.t 76)) [76],Y 78 (.fa (.t 7) 1) [7],
 Y 79 (.ld (.t 78)) [78],Y 80 (.eq .int false (.t 79) (.c (.i .i64 3))) [79],
 Y 81 (.bs 4 1 1 [.b false] [(0,1,.t 80)]) [80],Y 82 (.ap 4 1 1 (.t 77) (.t 81)) [77,81],
 Y 83 (.fa (.t 5) 12) [5],⟨none,none,.st (.t 83) (.t 82) 1,[83,82]⟩]) (.seq (.region [Y 84 (.fa (.t 1) 1) [1],
 Y 85 (.ld (.t 84)) [84],Y 86 (.len (.t 85)) [85],Y 87 (.mv (.c (.i .i64 0))) []])
  (.block 2 (.loop (.seq (.region [Y 88 (.ar .lss (.t 87) (.t 86)) [87,86]])
  (.seq (.cond (.t 88) .skip (.exit 2)) (.seq (.block 3 (.seq (.region [Y 89 (.mv (.t 87)) [87],
 Y 90 (.ia (.t 85) (.t 87) 5) [85,87],Y 91 (.lds (.t 90) 5) [90],
 Y 9 (.al 37 [.i .i64 0,.i .i64 0,.i .i64 0,.i .u64 0,.i .i64 0]) [],Y 8 (.mv (.t 89)) [89],
 ⟨none,none,.st (.t 9) (.t 91) 5,[9,91]⟩]) (.seq (.region [Y 92 (.fa (.t 5) 0) [5],Y 93 (.ld (.t 92)) [92],
 Y 94 (.mv (.t 6)) [6],Y 95 (.mv (.t 8)) [8],Y 96 (.mv (.t 6)) [6],Y 97 (.mv (.t 8)) [8],
 Y 98 (.ar .lss (.t 96) (.t 97)) [96,97],Y 99 (.mv (.t 98)) [98],Z 99 true 100 (.fa (.t 7) 0) [7,99],
 Z 99 true 101 (.ld (.t 100)) [100,99],Z 99 true 102 (.ar .geq (.t 101) (.c (.i .i64 0))) [101,99],
 Y 103 (.pk (.t 99) (.t 102) (.c (.b false))) [99,102],Y 104 (.mv (.t 103)) [103],
 Z 104 true 105 (.fa (.t 7) 0) [7,104],Z 104 true 106 (.ld (.t 105)) [105,104],
 Z 104 true 107 (.fa (.t 9) 0) [9,104],Z 104 true 108 (.ld (.t 107)) [107,104],
 Z 104 true 109 (.eq .int false (.t 106) (.t 108)) [106,108,104],Y 110 (.pk (.t 104) (.t 109)
  (.c (.b false))) [104,109],Y 111 (.call 109 [.t 93,.t 94,.t 95,.t 110]) [93,94,95,110]])
  (.seq (.region [Y 112 (.fa (.t 5) 5) [5],Y 113 (.ld (.t 112)) [112],Y 114 (.mv (.t 6)) [6],
 Y 115 (.mv (.t 8)) [8],Y 116 (.fa (.t 7) 2) [7],Y 117 (.ld (.t 116)) [116],Y 118 (.ar .geq (.t 117)
  (.c (.i .i64 0))) [117],Y 119 (.mv (.t 118)) [118],Z 119 true 120 (.fa (.t 7) 2) [7,119],
 Z 119 true 121 (.ld (.t 120)) [120,119],Z 119 true 122 (.fa (.t 9) 2) [9,119],
 Z 119 true 123 (.ld (.t 122)) [122,119],Z 119 true 124 (.eq .int false (.t 121) (.t 123)) [121,123,119],
 Y 125 (.pk (.t 119) (.t 124) (.c (.b false))) [119,124],
 Y 126 (.call 109 [.t 113,.t 114,.t 115,.t 125]) [113,114,115,125]]) (.region [Y 127 (.fa (.t 5) 6) [5],
 Y 128 (.ld (.t 127)) [127],Y 129 (.mv (.t 6)) [6],Y 130 (.mv (.t 8)) [8],Y 131 (.fa (.t 7) 0) [7],
 Y 132 (.ld (.t 131)) [131],Y 133 (.fa (.t 9) 0) [9],Y 134 (.ld (.t 133)) [133],Y 135 (.eq .int true (.t 132)
  (.t 134)) [132,134],Y 136 (.call 109 [.t 128,.t 129,.t 130,.t 135]) [128,129,130,135]])))))
  (.region [Y 137 (.ar .add (.t 87) (.c (.i .i64 1))) [87],Y 87 (.mv (.t 137)) [137]]))))))))))))
  (.region [Y 138 (.ar .add (.t 55) (.c (.i .i64 1))) [55],Y 55 (.mv (.t 138)) [138]])))))))
  (.seq (.seq (.region [Y 139 (.fa (.t 1) 3) [1],Y 140 (.ld (.t 139)) [139],Y 141 (.len (.t 140)) [140],
 Y 142 (.mv (.c (.i .i64 0))) []]) (.block 4 (.loop (.seq (.region [Y 143 (.ar .lss (.t 142)
  (.t 141)) [142,141]]) (.seq (.cond (.t 143) .skip (.exit 4))
  (.seq (.block 5 (.seq (.region [Y 144 (.ia (.t 140) (.t 142) 1) [140,142],Y 145 (.ld (.t 144)) [144],
 Y 11 (.mv (.t 145)) [145]]) (.seq (.region [Y 146 (.mv (.t 11)) [11],Y 147 (.len (.t 146)) [146],
 Y 148 (.mv (.c (.i .i64 0))) []]) (.block 6 (.loop (.seq (.region [Y 149 (.ar .lss (.t 148)
  (.t 147)) [148,147]]) (.seq (.cond (.t 149) .skip (.exit 6))
  (.seq (.block 7 (.seq (.region [Y 150 (.mv (.t 148)) [148],Y 151 (.ia (.t 146) (.t 148) 1) [146,148],
 Y 152 (.ld (.t 151)) [151],Y 12 (.mv (.t 150)) [150],Y 13 (.mv (.t 152)) [152]])
  (.seq (.region [Y 153 (.mv (.t 11)) [11],Y 154 (.mv (.t 12)) [12],Y 155 (.ar .add (.t 154)
  (.c (.i .i64 1))) [154],Y 156 (.s2 1 (.t 153) (some (.t 155)) none) [153,155],Y 157 (.len (.t 156)) [156],
 Y 158 (.mv (.c (.i .i64 0))) []]) (.block 8 (.loop (.seq (.region [Y 159 (.ar .lss (.t 158)
  (.t 157)) [158,157]]) (.seq (.cond (.t 159) .skip (.exit 8))
  (.seq (.block 9 (.seq (.region [Y 160 (.ia (.t 156) (.t 158) 1) [156,158],Y 161 (.ld (.t 160)) [160],
 Y 15 (.mv (.t 161)) [161]]) (.region [Y 162 (.fa (.t 5) 2) [5],Y 163 (.ld (.t 162)) [162],
 Y 164 (.mv (.t 13)) [13],Y 165 (.mv (.t 15)) [15],
 Y 166 (.call 109 [.t 163,.t 164,.t 165,.c (.b true)]) [163,164,165]]))) (.region [Y 167 (.ar .add (.t 158)
  (.c (.i .i64 1))) [158],Y 158 (.mv (.t 167)) [167]]))))))))) (.region [Y 168 (.ar .add (.t 148)
  (.c (.i .i64 1))) [148],Y 148 (.mv (.t 168)) [168]]))))))))) (.region [Y 169 (.ar .add (.t 142)
  (.c (.i .i64 1))) [142],Y 142 (.mv (.t 169)) [169]])))))))
  (.seq (.mix [(Y 170 (.fa (.t 5) 1) [5],.q [none]),(Y 171 (.ld (.t 170)) [170],.q [none]),
 (Y 172 (.call 111 [.t 171]) [171],.e),(Y 173 (.fa (.t 5) 2) [5],.q [none,some 2]),
 (Y 174 (.ld (.t 173)) [173],.q [none,some 2]),(Y 175 (.call 110 [.t 172,.t 174]) [172,174],.e),
 (Y 176 (.fa (.t 5) 3) [5],.q [some 5]),(⟨none,none,.st (.t 176) (.t 175) 1,[176,175]⟩,.e)])
  (.seq (.region [Y 177 (.lds (.t 5) 13) [5],⟨none,none,.st (.t 2) (.t 177) 13,[2,177]⟩,
 Y 3 (.mv (.c (.i .i64 0))) []]) .ret))))))))
set_option maxRecDepth 100000 in
theorem c56:fnB Tryz.prog 56=some (178,s56,[.c (.lds (.t 2) 13),.t 3]):=by kernel_rfl
structure FcAt (h:H) (fl:List V) (g:Gr):Prop where
 is:∃po rf co fr rmw same ext addr data ctrl vR vW vF,fl = [po,rf,co,fr,rmw,same,ext,addr,data,ctrl,vR,vW,vF]∧RelS h po g.ev.length (POr g)∧RelS h rf g.ev.length (RF g)∧RelS h co g.ev.length (CO g)∧RelS h fr g.ev.length (fun a c=>∃q,q<g.ev.length∧RF g q a∧CO g q c)∧RelS h same g.ev.length (SAME g)∧RelS h ext g.ev.length (EXT g) ∧
  Ro h vR 1 bcell (flg g 1 g.ev.length)∧Ro h vW 1 bcell (flg g 2 g.ev.length)∧Ro h vF 1 bcell (flg g 3 g.ev.length)∧allOne fl=true
theorem FcAt.kp {h h':H} {fl:List V} {g:Gr} (k:Kp h h') (hw:Wf h) (hf:FcAt h fl g):FcAt h' fl g:=by
 obtain⟨po,rf,co,fr,rmw,same,ext,addr,data,ctrl,vR,vW,vF,h0,h1,h2,h3,h4,h5,h6,h7,h8,h9,h10⟩:=hf.is
 exact⟨po,rf,co,fr,rmw,same,ext,addr,data,ctrl,vR,vW,vF,h0,h1.kp k hw,h2.kp k hw,h3.kp k hw,h4.kp k hw,h5.kp k hw,h6.kp k hw,h7.kp k hw,h8.kp k hw,h9.kp k hw,h10⟩
def POb (g:Gr) (a c:Nat):Prop:=a<c∧0≤(gt g.ev a).thread∧(gt g.ev a).thread=(gt g.ev c).thread
def COp (g:Gr) (k i j a c:Nat):Prop:=∃k' i' j',k'<g.co.length∧i'<j'∧j'<(gt g.co k').length∧gt (gt g.co k') i'=(a:Int)∧gt (gt g.co k') j'=(c:Int)∧(k'<k∨(k'=k∧(i'<i∨(i'=i∧j'<j))))
theorem COp_zero {g:Gr} {a c:Nat}:¬COp g 0 0 0 a c:=by
 rintro⟨k',i',j',h1,h2,h3,h4,h5,h6⟩
 omega
theorem COp_step {g:Gr} {k i j a c:Nat} (hk:k<g.co.length) (hij:i<j) (hj:j<(gt g.co k).length):COp g k i (j+1) a c↔COp g k i j a c∨(gt (gt g.co k) i=(a:Int)∧gt (gt g.co k) j=(c:Int)):=by
 constructor
 ·rintro⟨k',i',j',h1,h2,h3,h4,h5,h6⟩
  by_cases e:k'=k∧i'=i∧j'=j
  ·obtain⟨rfl,rfl,rfl⟩:=e
   exact .inr ⟨h4,h5⟩
  ·exact .inl ⟨k',i',j',h1,h2,h3,h4,h5,by omega⟩
 ·rintro (⟨k',i',j',h1,h2,h3,h4,h5,h6⟩ | ⟨h1,h2⟩)
  ·exact⟨k',i',j',h1,h2,h3,h4,h5,by omega⟩
  ·exact⟨k,i,j,hk,hij,hj,h1,h2,by omega⟩
theorem COp_row0 {g:Gr} {k i a c:Nat}:COp g k i (i+1) a c↔COp g k i 0 a c:=by
 constructor <;> (rintro⟨k',i',j',h1,h2,h3,h4,h5,h6⟩;exact⟨k',i',j',h1,h2,h3,h4,h5,by omega⟩)
theorem COp_rown {g:Gr} {k i a c:Nat}:COp g k i (gt g.co k).length a c↔COp g k (i+1) 0 a c:=by
 constructor
 ·rintro⟨k',i',j',h1,h2,h3,h4,h5,h6⟩
  exact⟨k',i',j',h1,h2,h3,h4,h5,by omega⟩
 ·rintro⟨k',i',j',h1,h2,h3,h4,h5,h6⟩
  refine⟨k',i',j',h1,h2,h3,h4,h5,?_⟩
  by_cases e:k'=k
  ·subst e;omega
  ·omega
theorem COp_end {g:Gr} {k a c:Nat}:COp g k (gt g.co k).length 0 a c↔COp g (k+1) 0 0 a c:=by
 constructor
 ·rintro⟨k',i',j',h1,h2,h3,h4,h5,h6⟩
  exact⟨k',i',j',h1,h2,h3,h4,h5,by omega⟩
 ·rintro⟨k',i',j',h1,h2,h3,h4,h5,h6⟩
  refine⟨k',i',j',h1,h2,h3,h4,h5,?_⟩
  by_cases e:k'=k
  ·subst e;omega
  ·omega
theorem COp_all {g:Gr} {a c:Nat}:COp g g.co.length 0 0 a c↔CO g a c:=by
 constructor
 ·rintro⟨k',i',j',h1,h2,h3,h4,h5,h6⟩
  exact⟨k',i',j',h1,h2,h3,h4,h5⟩
 ·rintro⟨k',i',j',h1,h2,h3,h4,h5⟩
  exact⟨k',i',j',h1,h2,h3,h4,h5,.inl h1⟩
def CB (n:Nat) (D:List Nat) (S:Nat→Nat→Prop):Prop:=∀a c,a<n→c<n→(bt D a c=true↔S a c)
theorem CB.to {n:Nat} {D:List Nat} {S S':Nat→Nat→Prop} (h:CB n D S) (hS:∀a c,S a c↔S' a c):CB n D S':=fun a c ha hc=>(h a c ha hc).trans (hS a c)
theorem CB.put {n:Nat} {D D':List Nat} {S:Nat→Nat→Prop} {p q:Int} (h:CB n D S) (hp:∀a c,a<n→c<n→bt D' a c=if (a:Int)=p∧(c:Int)=q then true else bt D a c):CB n D' fun a c=>S a c∨(p=(a:Int)∧q=(c:Int)):=fun a c ha hc=>by
 rw[hp a c ha hc]
 by_cases e:(a:Int)=p∧(c:Int)=q
 ·rw[if_pos e]
  exact⟨fun _=>.inr ⟨e.1.symm,e.2.symm⟩,fun _=>rfl⟩
 ·rw[if_neg e,h a c ha hc]
  exact⟨.inl,fun h=>h.elim id fun h=>absurd ⟨h.1.symm,h.2.symm⟩ e⟩
def evc (e:Ev_):List V:=[.i .i64 e.thread,.i .i64 e.kind,.i .i64 e.loc,.i .u64 e.val,.i .i64 e.mode]
set_option maxRecDepth 10000 in
set_option maxHeartbeats 0 in
theorem derive_spec {m:Bool} {h:H} {gl:List V} {g:Gr} (hw:Wf h) (hT:TabP h) (hg:GrAt h gl g) (hs:Sm g) (hwf:WF g false∨WF g true):FX m Tryz.prog 56 [.agg gl] h fun r h'=>∃fl,r=.tup [.agg fl,.i .i64 0]∧FcAt h' fl g∧Kp h h':=by
 obtain⟨hc0,hc1,hn,-⟩:=wf_size hwf
 obtain⟨ve,vrf,vco,vrmw,vad,vda,vct,rfl,rev,rrf,⟨vcs,rco,hcl,hcr⟩,rrmw,rad,rda,rct⟩:=hg.is
 have ogl:=hg.one
 have hLe:=rev.ln
 refine Fn.env c56 rfl ?_
 unfold s56
 refine go ?_
 refine ew_bx (hz:=ogl) fun bG ha obG ka=>?_
 refine ew_al fun bZ hb obZ kb'=>?_
 have kb:=ka.trans kb'
 have hwb:=kb.wf hw
 have hB1:=obG.bx.kp kb' (ka.wf hw)
 have hTb:=hT.kp kb
 refine go ?_
 refine stC (lgood_spec hwb (hg.kp kb hw) hs) (fun r h' ⟨e1,e2⟩=>?_)
 obtain rfl:r=.b true:=e1.trans (B_t hwf).symm
 obtain rfl:=e2.symm
 refine go ?_
 refine mC (rnew_spec (m:=true) hwb hn) (fun r h1 ⟨q0,vr0,vs0,e,hN0,k1⟩=>⟨Lv.nil,?_⟩)
 subst e
 have w1:=k1.wf hwb
 have hBa:=hB1.kp k1 hwb
 refine go ?_
 refine mC (of_spec (m:=true) w1 (rrf.kp (kb.trans k1) hw) hn (by have:=hs.rf;omega)) (fun r h2 ⟨q1,vr1,vs1,R1,e,hN1,k2,hb1⟩=>⟨Lv.nil,?_⟩)
 subst e
 have w2:=k2.wf w1
 have k02:=k1.trans k2
 have hBb:=hB1.kp k02 hwb
 refine go ?_
 refine mC (rnew_spec (m:=true) w2 hn) (fun r h3 ⟨q2,vr2,vs2,e,hN2,k3⟩=>⟨Lv.nil,?_⟩)
 subst e
 have w3:=k3.wf w2
 have k03:=k02.trans k3
 have hBc:=hB1.kp k03 hwb
 refine go ?_
 refine mC (of_spec (m:=true) w3 (rrmw.kp (kb.trans k03) hw) hn (by have:=hs.rmw;omega)) (fun r h4 ⟨q3,vr3,vs3,R3,e,hN3,k4,hb3⟩=>⟨Lv.nil,?_⟩)
 subst e
 have w4:=k4.wf w3
 have k04:=k03.trans k4
 have hBd:=hB1.kp k04 hwb
 refine go ?_
 refine mC (rnew_spec (m:=true) w4 hn) (fun r h5 ⟨q4,vr4,vs4,e,hN4,k5⟩=>⟨Lv.nil,?_⟩)
 subst e
 have w5:=k5.wf w4
 have k05:=k04.trans k5
 have hBe:=hB1.kp k05 hwb
 refine go ?_
 refine mC (rnew_spec (m:=true) w5 hn) (fun r h6 ⟨q5,vr5,vs5,e,hN5,k6⟩=>⟨Lv.nil,?_⟩)
 subst e
 have w6:=k6.wf w5
 have k06:=k05.trans k6
 have hBf:=hB1.kp k06 hwb
 refine go ?_
 refine mC (of_spec (m:=true) w6 (rad.kp (kb.trans k06) hw) hn (by have:=hs.addr;omega)) (fun r h7 ⟨q6,vr6,vs6,R6,e,hN6,k7,hb6⟩=>⟨Lv.nil,?_⟩)
 subst e
 have w7:=k7.wf w6
 have k07:=k06.trans k7
 have hBg:=hB1.kp k07 hwb
 refine go ?_
 refine mC (of_spec (m:=true) w7 (rda.kp (kb.trans k07) hw) hn (by have:=hs.data;omega)) (fun r h8 ⟨q7,vr7,vs7,R7,e,hN7,k8,hb7⟩=>⟨Lv.nil,?_⟩)
 subst e
 have w8:=k8.wf w7
 have k08:=k07.trans k8
 have hBh:=hB1.kp k08 hwb
 refine go ?_
 refine mC (of_spec (m:=true) w8 (rct.kp (kb.trans k08) hw) hn (by have:=hs.ctrl;omega)) (fun r h9 ⟨q8,vr8,vs8,R8,e,hN8,k9,hb8⟩=>⟨Lv.nil,?_⟩)
 subst e
 have w9:=k9.wf w8
 have k09:=k08.trans k9
 refine go ?_
 refine em_al fun bF hc obF kc=>?_
 refine em_st obF (vs:=[.p q0 0,.p q1 0,.p q2 0,.np,.p q3 0,.p q4 0,.p q5 0,.p q6 0,.p q7 0,.p q8 0,.ns,.ns,.ns]) (fun hd obF' md=>?_)
 have kd:Kp h9 hd:=md.kp kc (fun k e=>by injection e with e;rw[←e];exact obF.lo)
 obtain⟨T,hTT⟩:∃T,T=h9.next:=⟨_,rfl⟩
 obtain⟨L,hLL⟩:∃L:List Nat→List Nat→List Nat→List Nat→List Rc,L=fun A B C D=>[⟨hb.next,h1.next,q0,vr0,vs0,A⟩,⟨h1.next,h2.next,q1,vr1,vs1,R1⟩,⟨h2.next,h3.next,q2,vr2,vs2,D⟩,⟨h3.next,h4.next,q3,vr3,vs3,R3⟩,⟨h4.next,h5.next,q4,vr4,vs4,B⟩,⟨h5.next,h6.next,q5,vr5,vs5,C⟩,⟨h6.next,h7.next,q6,vr6,vs6,R6⟩,⟨h7.next,h8.next,q7,vr7,vs7,R7⟩,⟨h8.next,h9.next,q8,vr8,vs8,R8⟩]:=⟨_,rfl⟩
 have hF:Fm hd g.ev.length hb.next (L (List.replicate g.ev.length 0) (List.replicate g.ev.length 0) (List.replicate g.ev.length 0) (List.replicate g.ev.length 0)) T:=by
  rw[hLL,hTT]
  have t1:=k2.trans (k3.trans (k4.trans (k5.trans (k6.trans (k7.trans (k8.trans (k9.trans kd)))))))
  have t2:=k3.trans (k4.trans (k5.trans (k6.trans (k7.trans (k8.trans (k9.trans kd))))))
  have t3:=k4.trans (k5.trans (k6.trans (k7.trans (k8.trans (k9.trans kd)))))
  have t4:=k5.trans (k6.trans (k7.trans (k8.trans (k9.trans kd))))
  have t5:=k6.trans (k7.trans (k8.trans (k9.trans kd)))
  have t6:=k7.trans (k8.trans (k9.trans kd))
  have t7:=k8.trans (k9.trans kd)
  have t8:=k9.trans kd
  exact⟨Nat.le_refl _,hN0.kp t1,Nat.le_refl _,hN1.kp t2,Nat.le_refl _,hN2.kp t3,Nat.le_refl _,hN3.kp t4,Nat.le_refl _,hN4.kp t5,Nat.le_refl _,hN5.kp t6,Nat.le_refl _,hN6.kp t7,Nat.le_refl _,hN7.kp t8,Nat.le_refl _,hN8.kp kd,Nat.le_refl _⟩
 have g0:∀A B C D,(L A B C D)[0]?=some ⟨hb.next,h1.next,q0,vr0,vs0,A⟩∧∀A',(L A B C D).set 0 ⟨hb.next,h1.next,q0,vr0,vs0,A'⟩=L A' B C D:=fun A B C D=>by rw[hLL];exact⟨rfl,fun _=>rfl⟩
 have g1:∀A B C D,(L A B C D)[1]?=some ⟨h1.next,h2.next,q1,vr1,vs1,R1⟩:=fun A B C D=>by rw[hLL];rfl
 have g2:∀A B C D,(L A B C D)[2]?=some ⟨h2.next,h3.next,q2,vr2,vs2,D⟩∧∀A',(L A B C D).set 2 ⟨h2.next,h3.next,q2,vr2,vs2,A'⟩=L A B C A':=fun A B C D=>by rw[hLL];exact⟨rfl,fun _=>rfl⟩
 have g4:∀A B C D,(L A B C D)[4]?=some ⟨h4.next,h5.next,q4,vr4,vs4,B⟩∧∀A',(L A B C D).set 4 ⟨h4.next,h5.next,q4,vr4,vs4,A'⟩=L A A' C D:=fun A B C D=>by rw[hLL];exact⟨rfl,fun _=>rfl⟩
 have g5:∀A B C D,(L A B C D)[5]?=some ⟨h5.next,h6.next,q5,vr5,vs5,C⟩∧∀A',(L A B C D).set 5 ⟨h5.next,h6.next,q5,vr5,vs5,A'⟩=L A B A' D:=fun A B C D=>by rw[hLL];exact⟨rfl,fun _=>rfl⟩
 have hD:Dst hb g.ev.length T bF [.p q0 0,.p q1 0,.p q2 0,.np,.p q3 0,.p q4 0,.p q5 0,.p q6 0,.p q7 0,.p q8 0] (L (List.replicate g.ev.length 0) (List.replicate g.ev.length 0) (List.replicate g.ev.length 0) (List.replicate g.ev.length 0)) .ns .ns .ns (flg g 1 0) (flg g 2 0) (flg g 3 0) hd :=
  ⟨k09.trans kd,hF,by rw[hTT];exact kd.le,by rw[hTT];exact obF',.nil,.nil,.nil,(fun _ e=>by cases e),(fun _ e=>by cases e),(fun _ e=>by cases e)⟩
 have hBi:=hB1.kp hD.k hwb
 clear hBa hBb hBc hBd hBe hBf hBg hBh hN0 hN1 hN2 hN3 hN4 hN5 hN6 hN7 hN8 hLL hF w1 w2 w3 w4 w5 w6 w7 w8 w9 k02 k03 k04 k05 k06 k07 k08 k09 k1 k2 k3 k4 k5 k6 k7 k8 k9 kc kd md obF' obF hTT hb3 hb6 hb7 hb8
 refine go ?_
 refine Es.loop (X:=Nat × (List Nat × List Nat × List Nat) × (V × V × V)) (fun x=>g.ev.length-x.1) (fun x=>[(1,.p bG 0),(2,.p bZ 0),(5,.p bF 0),(53,ve),(54,.i .i64 (g.ev.length:Int)),(55,.i .i64 (x.1:Int))]) (fun x h'=>x.1≤g.ev.length∧Dst hb g.ev.length T bF [.p q0 0,.p q1 0,.p q2 0,.np,.p q3 0,.p q4 0,.p q5 0,.p q6 0,.p q7 0,.p q8 0] (L x.2.1.1 x.2.1.2.1 x.2.1.2.2 (List.replicate g.ev.length 0)) x.2.2.1 x.2.2.2.1 x.2.2.2.2 (flg g 1 x.1) (flg g 2 x.1) (flg g 3 x.1) h'∧Bits g.ev.length x.1 0 x.2.1.1 (POb g)∧Bits g.ev.length x.1 0 x.2.1.2.1 (SAME g)∧Bits g.ev.length x.1 0 x.2.1.2.2 (EXT g)) (0,(List.replicate g.ev.length 0,List.replicate g.ev.length 0,List.replicate g.ev.length 0),(.ns,.ns,.ns)) ⟨rfl,rfl,rfl,rfl,rfl,rfl,trivial⟩ ⟨Nat.zero_le _,hD,.zero,.zero,.zero⟩ fun x he hx=>?_
 clear hD hBi
 obtain⟨i,⟨A,B,C⟩,vR,vW,vF⟩:=x
 obtain⟨hin,hD,hA,hB,hC⟩:=hx
 simp only at hin hD hA hB hC
 have hBi:=hB1.kp hD.k hwb
 have revi:=rev.kp (kb.trans hD.k) hw
 have hCe:=revi.cs
 refine go ?_
 refine cD (fun hlt=>?_) (fun hge=>?_)
 ·have hlt:i<g.ev.length:=by omega
  refine go ?_
  refine ew_al fun bA hf obA kf=>?_
  refine go ?_
  refine ew_st obA (vs:=evc (gt g.ev i)) (fun hh obA' mf=>?_)
  have kAB:Kp he hh:=mf.kp kf (fun k e=>by injection e with e;rw[←e];exact obA.lo)
  have hD2:=hD.step kAB
  have obA2:Ob hh T bA 37 (evc (gt g.ev i)):=obA'.low hD.t
  have hAF:bA≠bF:=fun e=>by have:=obA.lo;have:=hD.o.hi;omega
  have hBA:=obA2.bx
  have hBF:=hD2.o.bx
  clear hD hCe revi hBi
  refine go ?_
  refine ew_appF (x:=decide ((gt g.ev i).kind=1)) hD2.gR rfl rfl rfl rfl rfl (by decide) (by rw[flg_len];omega) hD2.t fun v1 hi1 hG1 m1 f1=>?_
  rw[flg_s]at hG1
  have obF1:=hD2.o.mo m1 (hD2.gR.ob_ne hD2.o (by decide))
  have o1:=hG1.ln.one
  refine go ?_
  refine ew_st obF1 (vs:=[v1]) (fun hi2 obF2 m2=>?_) (hv:=cells_one5 o1) (h1:=allOne_cons o1 rfl)
  have hD3:=hD2.reads hG1 m1 f1 obF2 m2 (hG1.ob_ne obF1 (by decide))
  have obA3:=hD2.box hD2.gR m1 m2 obA2 (by decide) hAF
  clear hBA hBF hD2 hG1 m1 m2 obF1 obF2 f1 obA2 obA'
  have hBA:=obA3.bx
  have hBF:=hD3.o.bx
  refine go ?_
  refine ew_appF (x:=decide ((gt g.ev i).kind=2)) hD3.gW rfl rfl rfl rfl rfl (by decide) (by rw[flg_len];omega) hD3.t fun v2 hi3 hG1 m1 f1=>?_
  rw[flg_s]at hG1
  have obF1:=hD3.o.mo m1 (hD3.gW.ob_ne hD3.o (by decide))
  have o2:=hG1.ln.one
  refine go ?_
  refine ew_st obF1 (vs:=[v2]) (fun hi4 obF2 m2=>?_) (hv:=cells_one5 o2) (h1:=allOne_cons o2 rfl)
  have hD4:=hD3.writes hG1 m1 f1 obF2 m2 (hG1.ob_ne obF1 (by decide))
  have obA4:=hD3.box hD3.gW m1 m2 obA3 (by decide) hAF
  clear hBA hBF hD3 hG1 m1 m2 obF1 obF2 f1 obA3
  have hBA:=obA4.bx
  have hBF:=hD4.o.bx
  refine go ?_
  refine ew_appF (x:=decide ((gt g.ev i).kind=3)) hD4.gF rfl rfl rfl rfl rfl (by decide) (by rw[flg_len];omega) hD4.t fun v3 hi5 hG1 m1 f1=>?_
  rw[flg_s]at hG1
  have obF1:=hD4.o.mo m1 (hD4.gF.ob_ne hD4.o (by decide))
  have o3:=hG1.ln.one
  refine go ?_
  refine ew_st obF1 (vs:=[v3]) (fun hi6 obF2 m2=>?_) (hv:=cells_one5 o3) (h1:=allOne_cons o3 rfl)
  have hD5:=hD4.fences hG1 m1 f1 obF2 m2 (hG1.ob_ne obF1 (by decide))
  have obA5:=hD4.box hD4.gF m1 m2 obA4 (by decide) hAF
  clear hBA hBF hD4 hG1 m1 m2 obF1 obF2 f1 obA4
  have hBi:=hB1.kp hD5.k hwb
  have hTA:T≤bA:=obA5.lo
  refine go ?_
  refine Es.loop (X:=Nat × (List Nat × List Nat × List Nat)) (fun x=>g.ev.length-x.1) (fun x=>[(1,.p bG 0),(2,.p bZ 0),(5,.p bF 0),(53,ve),(54,.i .i64 (g.ev.length:Int)),(55,.i .i64 (i:Int)),(6,.i .i64 (i:Int)),(7,.p bA 0),(85,ve),(86,.i .i64 (g.ev.length:Int)),(87,.i .i64 (x.1:Int))]) (fun x h'=>x.1≤g.ev.length∧Dst hb g.ev.length T bF [.p q0 0,.p q1 0,.p q2 0,.np,.p q3 0,.p q4 0,.p q5 0,.p q6 0,.p q7 0,.p q8 0] (L x.2.1 x.2.2.1 x.2.2.2 (List.replicate g.ev.length 0)) v1 v2 v3 (flg g 1 (i+1)) (flg g 2 (i+1)) (flg g 3 (i+1)) h'∧(Bx h' bA (evc (gt g.ev i))∧bA<h'.next)∧Bits g.ev.length i x.1 x.2.1 (POb g)∧Bits g.ev.length i x.1 x.2.2.1 (SAME g)∧Bits g.ev.length i x.1 x.2.2.2 (EXT g)) (0,(A,B,C)) ⟨rfl,rfl,rfl,rfl,rfl,rfl,rfl,rfl,rfl,rfl,rfl,trivial⟩ ⟨Nat.zero_le _,hD5,⟨obA5.bx,obA5.hi⟩,hA,hB,hC⟩ fun x hj hx=>?_
  clear hD5 obA5 hBi hA hB hC
  obtain⟨j,A,B,C⟩:=x
  obtain⟨hjn,hD,⟨hBA,hAl⟩,hA,hB,hC⟩:=hx
  simp only at hjn hD hA hB hC
  have wj:=(kb.trans hD.k).wf hw
  have revj:=rev.kp (kb.trans hD.k) hw
  have hCe:=revj.cs
  refine go ?_
  refine cD (fun hlt2=>?_) (fun hge2=>?_)
  ·have hlt2:j<g.ev.length:=by omega
   refine go ?_
   refine ew_al fun bB hk obB kk=>?_
   refine go ?_
   refine ew_st obB (vs:=evc (gt g.ev j)) (fun hl obB' ml=>?_)
   have kBB:Kp hj hl:=ml.kp kk (fun k e=>by injection e with e;rw[←e];exact obB.lo)
   have hD2:=hD.step kBB
   have hBA2:=hBA.kp kBB wj
   have hBB:Bx hl bB (evc (gt g.ev j)):=obB'.bx
   have hBl:bB<hl.next:=obB'.hi
   have hTB:T≤bB:=Nat.le_trans hD.t obB.lo
   have hAl2:bA<hl.next:=Nat.lt_of_lt_of_le hAl kBB.le
   have hBF:=hD2.o.bx
   clear hD hBA hAl hCe revj obB' ml
   have step:∀w:Bool,(w=true↔POb g i j)→FX m Tryz.prog 109 [.p q0 0,.i .i64 (i:Int),.i .i64 (j:Int),.b w] hl fun r h'=>∃A',Dst hb g.ev.length T bF [.p q0 0,.p q1 0,.p q2 0,.np,.p q3 0,.p q4 0,.p q5 0,.p q6 0,.p q7 0,.p q8 0] (L A' B C (List.replicate g.ev.length 0)) v1 v2 v3 (flg g 1 (i+1)) (flg g 2 (i+1)) (flg g 3 (i+1)) h'∧Bits g.ev.length i (j+1) A' (POb g)∧(Bx h' bA (evc (gt g.ev i))∧bA<h'.next)∧Bx h' bB (evc (gt g.ev j))∧bB<h'.next:=fun w hw' =>
    FX.mono (put_spec_ (hD2.f.get (g0 A B C _).1)) fun r h' ⟨A',hR',p',hb'⟩=>by
     obtain⟨h1,h2⟩:=hD2.put (g0 A B C _).1 hR' p'
     rw[(g0 A B C _).2]at h1
     exact⟨A',h1,hA.step hb' hw',⟨h2 _ _ hBA2 hAl2 hTA,Nat.lt_of_lt_of_le hAl2 p'.le⟩,h2 _ _ hBB hBl hTB,Nat.lt_of_lt_of_le hBl p'.le⟩
   refine go ?_
   refine EwG.mk fun _=>?_
   refine Ew.to (X:=List Nat) (fun _=>[(1,.p bG 0),(2,.p bZ 0),(5,.p bF 0),(53,ve),(54,.i .i64 (g.ev.length:Int)),(55,.i .i64 (i:Int)),(6,.i .i64 (i:Int)),(7,.p bA 0),(8,.i .i64 (j:Int)),(9,.p bB 0),(85,ve),(86,.i .i64 (g.ev.length:Int)),(87,.i .i64 (j:Int))]) (fun A' h'=>Dst hb g.ev.length T bF [.p q0 0,.p q1 0,.p q2 0,.np,.p q3 0,.p q4 0,.p q5 0,.p q6 0,.p q7 0,.p q8 0] (L A' B C (List.replicate g.ev.length 0)) v1 v2 v3 (flg g 1 (i+1)) (flg g 2 (i+1)) (flg g 3 (i+1)) h'∧Bits g.ev.length i (j+1) A' (POb g)∧(Bx h' bA (evc (gt g.ev i))∧bA<h'.next)∧Bx h' bB (evc (gt g.ev j))∧bB<h'.next) ?_ fun A' hm hx=>?_
   ·skip
    refine go ?_
    repeat' ((first|refine wgd ?_ ?_|refine wgn ?_ ?_|refine wgb ?_ ?_|refine mgd ?_ ?_|refine mgn ?_ ?_|refine mgb ?_ ?_|refine cD ?_ ?_|refine cN ?_ ?_|refine cB ?_ ?_)<;>intro _<;>refine go ?_)
    all_goals
     refine stC (step _ ?_) (fun r h' ⟨A',hφ⟩=>?_)
     rotate_left
     ·skip
      refine go ?_
      exact⟨A',⟨rfl,rfl,rfl,rfl,rfl,rfl,rfl,rfl,rfl,rfl,rfl,rfl,rfl,trivial⟩,hφ⟩
     first | exact⟨(fun h=>by cases h),fun h=>by unfold POb at h;omega⟩ |(rw[decide_eq_true_eq];unfold POb;omega)
   clear step hD2 hBA2 hBB hBl hAl2 hBF hA
   obtain⟨hD2,hA,⟨hBA2,hAl2⟩,hBB,hBl⟩:=hx
   have hBF:=hD2.o.bx
   have step:∀w:Bool,(w=true↔SAME g i j)→FX m Tryz.prog 109 [.p q4 0,.i .i64 (i:Int),.i .i64 (j:Int),.b w] hm fun r h'=>∃B',Dst hb g.ev.length T bF [.p q0 0,.p q1 0,.p q2 0,.np,.p q3 0,.p q4 0,.p q5 0,.p q6 0,.p q7 0,.p q8 0] (L A' B' C (List.replicate g.ev.length 0)) v1 v2 v3 (flg g 1 (i+1)) (flg g 2 (i+1)) (flg g 3 (i+1)) h'∧Bits g.ev.length i (j+1) B' (SAME g)∧(Bx h' bA (evc (gt g.ev i))∧bA<h'.next)∧Bx h' bB (evc (gt g.ev j))∧bB<h'.next:=fun w hw' =>
    FX.mono (put_spec_ (hD2.f.get (g4 A' B C _).1)) fun r h' ⟨B',hR',p',hb'⟩=>by
     obtain⟨h1,h2⟩:=hD2.put (g4 A' B C _).1 hR' p'
     rw[(g4 A' B C _).2]at h1
     exact⟨B',h1,hB.step hb' hw',⟨h2 _ _ hBA2 hAl2 hTA,Nat.lt_of_lt_of_le hAl2 p'.le⟩,h2 _ _ hBB hBl hTB,Nat.lt_of_lt_of_le hBl p'.le⟩
   refine go ?_
   refine EwG.mk fun _=>?_
   refine Ew.to (X:=List Nat) (fun _=>[(1,.p bG 0),(2,.p bZ 0),(5,.p bF 0),(53,ve),(54,.i .i64 (g.ev.length:Int)),(55,.i .i64 (i:Int)),(6,.i .i64 (i:Int)),(7,.p bA 0),(8,.i .i64 (j:Int)),(9,.p bB 0),(85,ve),(86,.i .i64 (g.ev.length:Int)),(87,.i .i64 (j:Int))]) (fun B' h'=>Dst hb g.ev.length T bF [.p q0 0,.p q1 0,.p q2 0,.np,.p q3 0,.p q4 0,.p q5 0,.p q6 0,.p q7 0,.p q8 0] (L A' B' C (List.replicate g.ev.length 0)) v1 v2 v3 (flg g 1 (i+1)) (flg g 2 (i+1)) (flg g 3 (i+1)) h'∧Bits g.ev.length i (j+1) B' (SAME g)∧(Bx h' bA (evc (gt g.ev i))∧bA<h'.next)∧Bx h' bB (evc (gt g.ev j))∧bB<h'.next) ?_ fun B' hm2 hx=>?_
   ·skip
    refine go ?_
    repeat' ((first|refine wgd ?_ ?_|refine wgn ?_ ?_|refine wgb ?_ ?_|refine mgd ?_ ?_|refine mgn ?_ ?_|refine mgb ?_ ?_|refine cD ?_ ?_|refine cN ?_ ?_|refine cB ?_ ?_)<;>intro _<;>refine go ?_)
    all_goals
     refine stC (step _ ?_) (fun r h' ⟨A',hφ⟩=>?_)
     rotate_left
     ·skip
      refine go ?_
      exact⟨A',⟨rfl,rfl,rfl,rfl,rfl,rfl,rfl,rfl,rfl,rfl,rfl,rfl,rfl,trivial⟩,hφ⟩
     first | exact⟨(fun h=>by cases h),fun h=>by unfold SAME at h;omega⟩ |(rw[decide_eq_true_eq];unfold SAME;omega)
   clear step hD2 hBA2 hBB hBl hAl2 hBF hB
   obtain⟨hD2,hB,⟨hBA2,hAl2⟩,hBB,hBl⟩:=hx
   have hBF:=hD2.o.bx
   refine go ?_
   refine stC (put_spec_ (p:=i) (q:=j) (w:=!decide ((gt g.ev i).thread=(gt g.ev j).thread)) (hD2.f.get (g5 A' B' C _).1)) (fun r h' ⟨C',hR',p',hb'⟩=>?_)
   obtain⟨hD3,h2⟩:=hD2.put (g5 A' B' C _).1 hR' p'
   rw[(g5 A' B' C _).2]at hD3
   have hC':=hC.step hb' (by unfold EXT;rw[Bool.not_eq_true',decide_eq_false_iff_not])
   have hBA3:=h2 _ _ hBA2 hAl2 hTA
   refine go ?_
   exact Nx.inv (j+1,(A',B',C')) (by simp only;omega) ⟨rfl,rfl,rfl,rfl,rfl,rfl,rfl,rfl,rfl,rfl,rfl,trivial⟩ ⟨by simp only;omega,hD3,⟨hBA3,Nat.lt_of_lt_of_le hAl2 p'.le⟩,hA,hB,hC'⟩
  ·have e:j=g.ev.length:=by omega
   subst e
   refine go ?_
   exact Nx.inv (i+1,(A,B,C),(v1,v2,v3)) (by simp only;omega) ⟨rfl,rfl,rfl,rfl,rfl,rfl,trivial⟩ ⟨by simp only;omega,hD,hA.row,hB.row,hC.row⟩
 ·have e:i=g.ev.length:=by omega
  subst e
  have hLco:Ln vco 1 g.co.length:=by have:=rco.ln;rwa [hcl]at this
  have hsrow:=hs.row
  have hs10:=hs.co
  clear hCe revi
  refine go ?_
  refine Es.loop (X:=Nat × List Nat) (fun x=>g.co.length-x.1) (fun x=>[(1,.p bG 0),(2,.p bZ 0),(5,.p bF 0),(140,vco),(141,.i .i64 (g.co.length:Int)),(142,.i .i64 (x.1:Int))]) (fun x h'=>x.1≤g.co.length∧Dst hb g.ev.length T bF [.p q0 0,.p q1 0,.p q2 0,.np,.p q3 0,.p q4 0,.p q5 0,.p q6 0,.p q7 0,.p q8 0] (L A B C x.2) vR vW vF (flg g 1 g.ev.length) (flg g 2 g.ev.length) (flg g 3 g.ev.length) h'∧CB g.ev.length x.2 (COp g x.1 0 0)) (0,List.replicate g.ev.length 0) ⟨rfl,rfl,rfl,rfl,rfl,rfl,trivial⟩ ⟨Nat.zero_le _,hD,fun a c ha _=>(zero_bt ha).trans ⟨False.elim,fun h=>COp_zero h⟩⟩ fun x hj hx=>?_
  clear hD hBi
  obtain⟨k,D⟩:=x
  obtain⟨hkn,hD,hcb⟩:=hx
  simp only at hkn hD hcb
  refine go ?_
  refine cD (fun hlt=>?_) (fun hge=>?_)
  ·have hk:k<g.co.length:=by omega
   have hck:Ce hj vco.ba (vco.of+k*1) (gt vcs k):=(rco.kp (kb.trans hD.k) hw).cs.eq k 0 (by rw[hcl];exact hk) Nat.zero_lt_one
   have hLr:=(hcr k hk).ln
   have hrl:=hsrow k hk
   refine go ?_
   refine Es.loop (X:=Nat × List Nat) (fun x=>(gt g.co k).length-x.1) (fun x=>[(1,.p bG 0),(2,.p bZ 0),(5,.p bF 0),(140,vco),(141,.i .i64 (g.co.length:Int)),(142,.i .i64 (k:Int)),(11,gt vcs k),(146,gt vcs k),(147,.i .i64 ((gt g.co k).length:Int)),(148,.i .i64 (x.1:Int))]) (fun x h'=>x.1≤(gt g.co k).length∧Dst hb g.ev.length T bF [.p q0 0,.p q1 0,.p q2 0,.np,.p q3 0,.p q4 0,.p q5 0,.p q6 0,.p q7 0,.p q8 0] (L A B C x.2) vR vW vF (flg g 1 g.ev.length) (flg g 2 g.ev.length) (flg g 3 g.ev.length) h'∧CB g.ev.length x.2 (COp g k x.1 0)) (0,D) ⟨rfl,rfl,rfl,rfl,rfl,rfl,rfl,rfl,rfl,rfl,trivial⟩ ⟨Nat.zero_le _,hD,hcb⟩ fun x hj2 hx=>?_
   clear hD hcb hck
   obtain⟨i,D⟩:=x
   obtain⟨hin,hD,hcb⟩:=hx
   simp only at hin hD hcb
   have rk:=(hcr k hk).kp (kb.trans hD.k) hw
   refine go ?_
   refine cD (fun hlt2=>?_) (fun hge2=>?_)
   ·have hi:i<(gt g.co k).length:=by omega
    have hci:Ce hj2 (gt vcs k).ba ((gt vcs k).of+i*1) (.i .i64 (gt (gt g.co k) i)):=rk.cs.eq i 0 hi Nat.zero_lt_one
    have hLt:Ln (tlV (gt vcs k) (i+1)) 1 ((gt g.co k).length-(i+1)):=by
     have:=(rk.tl (m:=i+1) (by omega)).ln
     rwa [List.length_drop]at this
    refine go ?_
    refine ewN (stS (v:=tlV (gt vcs k) (i+1)) (hd:=by exact od_tl hLr (by omega) rfl rfl) ?_)
    refine go ?_
    refine Es.loop (X:=Nat × List Nat) (fun x=>(gt g.co k).length-(i+1)-x.1) (fun x=>[(1,.p bG 0),(2,.p bZ 0),(5,.p bF 0),(140,vco),(141,.i .i64 (g.co.length:Int)),(142,.i .i64 (k:Int)),(11,gt vcs k),(146,gt vcs k),(147,.i .i64 ((gt g.co k).length:Int)),(148,.i .i64 (i:Int)),(13,.i .i64 (gt (gt g.co k) i)),(156,tlV (gt vcs k) (i+1)),(157,.i .i64 (((gt g.co k).length-(i+1):Nat):Int)),(158,.i .i64 (x.1:Int))]) (fun x h'=>x.1≤(gt g.co k).length-(i+1)∧Dst hb g.ev.length T bF [.p q0 0,.p q1 0,.p q2 0,.np,.p q3 0,.p q4 0,.p q5 0,.p q6 0,.p q7 0,.p q8 0] (L A B C x.2) vR vW vF (flg g 1 g.ev.length) (flg g 2 g.ev.length) (flg g 3 g.ev.length) h'∧CB g.ev.length x.2 (COp g k i (i+1+x.1))) (0,D) ⟨rfl,rfl,rfl,rfl,rfl,rfl,rfl,rfl,rfl,rfl,rfl,rfl,rfl,rfl,trivial⟩ ⟨Nat.zero_le _,hD,hcb.to fun a c=>COp_row0.symm⟩ fun x hj3 hx=>?_
    clear hD hcb hci rk
    obtain⟨j,D⟩:=x
    obtain⟨hjn,hD,hcb⟩:=hx
    simp only at hjn hD hcb
    have rt:=((hcr k hk).kp (kb.trans hD.k) hw).tl (m:=i+1) (by omega)
    refine go ?_
    refine cD (fun hlt3=>?_) (fun hge3=>?_)
    ·have hj':j<(gt g.co k).length-(i+1):=by omega
     have hct:Ce hj3 (tlV (gt vcs k) (i+1)).ba ((tlV (gt vcs k) (i+1)).of+j*1) (.i .i64 (gt (gt g.co k) (i+1+j))):=by
      have:=rt.cs.eq j 0 (by rw[List.length_drop];exact hj') Nat.zero_lt_one
      rw[gt_drop]at this
      exact this
     have hBF:=hD.o.bx
     refine go ?_
     refine stC (put_spec_ (p:=gt (gt g.co k) i) (q:=gt (gt g.co k) (i+1+j)) (w:=true) (hD.f.get (g2 A B C D).1)) (fun r h' ⟨D',hR',p',hb'⟩=>?_)
     obtain⟨hD3,-⟩:=hD.put (g2 A B C D).1 hR' p'
     rw[(g2 A B C D).2]at hD3
     refine go ?_
     exact Nx.inv (j+1,D') (by simp only;omega) ⟨rfl,rfl,rfl,rfl,rfl,rfl,rfl,rfl,rfl,rfl,rfl,rfl,rfl,rfl,trivial⟩ ⟨by simp only;omega,hD3,(hcb.put hb').to fun a c=>(COp_step hk (by omega) (by omega)).symm⟩
    ·have e:i+1+j=(gt g.co k).length:=by omega
     rw[e]at hcb
     refine go ?_
     exact Nx.inv (i+1,D) (by simp only;omega) ⟨rfl,rfl,rfl,rfl,rfl,rfl,rfl,rfl,rfl,rfl,trivial⟩ ⟨by simp only;omega,hD,hcb.to fun a c=>COp_rown⟩
   ·have e:i=(gt g.co k).length:=by omega
    subst e
    refine go ?_
    exact Nx.inv (k+1,D) (by simp only;omega) ⟨rfl,rfl,rfl,rfl,rfl,rfl,trivial⟩ ⟨by simp only;omega,hD,hcb.to fun a c=>COp_end⟩
  ·have e:k=g.co.length:=by omega
   subst e
   have hco:CB g.ev.length D (CO g):=hcb.to fun a c=>COp_all
   have hBF:=hD.o.bx
   have wj:=(kb.trans hD.k).wf hw
   have hrf:=(hD.f.get (g1 A B C D)).at_
   refine go ?_
   refine mC (inv_spec (m:=true) wj (hTb.kp hD.k) hrf) (fun vi hk1 ⟨hSi,kk1⟩=>⟨Lv.nil,?_⟩)
   obtain⟨RI,hRI,hbI⟩:=hSi.is
   have hD1:=hD.step kk1
   have wk1:=kk1.wf wj
   have hBF1:=hD1.o.bx
   refine go ?_
   refine mC (comp_rl (m:=true) wk1 (hTb.kp hD1.k) hRI (hD1.f.get (g2 A B C D).1).at_) (fun vf hk2 ⟨qf,vrf',vsf,RF',ef,hRF,kk2,hbF⟩=>⟨Lv.nil,?_⟩)
   subst ef
   have hD2:=hD1.step kk2
   have hBF2:=hD2.o.bx
   refine go ?_
   refine em_st hD2.o (vs:=[.p qf 0]) (fun hk3 ob3 m3=>?_)
   have hT1:=hD1.t
   have hoF:=hD2.o.hi
   have p3:Pr (fun k=>k=bF) hk2 hk3:=Pr.of_mo m3 fun k e=>by injection e with e;exact e.symm
   have f3:=hD2.f.pr p3 fun k e=>.inr (by have:=hD2.o.lo;omega)
   have hRF3:=hRF.pr p3 fun k h1 _ e=>by have:=hD1.o.hi;omega
   have gR3:=hD2.gR.mo m3 fun k hk e=>hD2.gR.ob_ne hD2.o (by decide) (by rw[hk,e])
   have gW3:=hD2.gW.mo m3 fun k hk e=>hD2.gW.ob_ne hD2.o (by decide) (by rw[hk,e])
   have gF3:=hD2.gF.mo m3 fun k hk e=>hD2.gF.ob_ne hD2.o (by decide) (by rw[hk,e])
   have hTl:=hD2.le
   have kb3:Kp hb hk3:=m3.kp hD2.k fun k e=>by injection e with e;rw[←e];have:=hD2.o.lo;omega
   have obZ3:=(obZ.low (n1:=h.next) ka.le).mo (Mo.of_kp kb3 none) (fun e=>by cases e)
   have hBF3:=ob3.bx
   have oR:=gR3.ln.one
   have oW:=gW3.ln.one
   have oF:=gF3.ln.one
   have hall:allOne [.p q0 0,.p q1 0,.p q2 0,.p qf 0,.p q3 0,.p q4 0,.p q5 0,.p q6 0,.p q7 0,.p q8 0,vR,vW,vF]=true:=by
    repeat first | refine allOne_cons rfl ?_ | refine allOne_cons oR ?_ | refine allOne_cons oW ?_ | refine allOne_cons oF ?_ | exact allOne_nil
   refine go ?_
   refine ew_st obZ3 (vs:=[.p q0 0,.p q1 0,.p q2 0,.p qf 0,.p q3 0,.p q4 0,.p q5 0,.p q6 0,.p q7 0,.p q8 0,vR,vW,vF]) (fun hk4 ob4 m4=>?_) (h1:=hall)
   have hzl:=obZ.hi
   have p4:Pr (fun k=>k=bZ) hk3 hk4:=Pr.of_mo m4 fun k e=>by injection e with e;exact e.symm
   have f4:=f3.pr p4 fun k e=>.inl (by omega)
   have hRF4:=hRF3.pr p4 fun k h1 _ e=>by have:=hD1.k.le;omega
   have gR4:=gR3.mo m4 fun k hk e=>by injection e with e;have:=(gR3.blk k hk).1;omega
   have gW4:=gW3.mo m4 fun k hk e=>by injection e with e;have:=(gW3.blk k hk).1;omega
   have gF4:=gF3.mo m4 fun k hk e=>by injection e with e;have:=(gF3.blk k hk).1;omega
   have kh4:Kp h hk4:=m4.kp (kb.trans kb3) fun k e=>by injection e with e;rw[←e];have:=obZ.lo;have:=ka.le;omega
   have hBZ:=ob4.bx
   refine go ?_
   refine ret_ct (v:=.agg [.p q0 0,.p q1 0,.p q2 0,.p qf 0,.p q3 0,.p q4 0,.p q5 0,.p q6 0,.p q7 0,.p q8 0,vR,vW,vF]) (od_lds rfl (rw_b hBZ rfl)) ⟨_,rfl,⟨_,_,_,_,_,_,_,_,_,_,_,_,_,rfl,⟨_,(f4.get (g0 A B C D).1).at_,fun a c ha hc=>(hA.all a c ha hc).trans ⟨fun h=>⟨h.1,hc,h.2⟩,fun h=>⟨h.1,h.2.2⟩⟩⟩,⟨_,(f4.get (g1 A B C D)).at_,hb1⟩,⟨_,(f4.get (g2 A B C D).1).at_,hco⟩,⟨_,hRF4.at_,fun a c ha hc=>(hbF a c ha hc).trans ⟨fun ⟨q,h1,h2,h3⟩=>⟨q,h1,(hb1 q a h1 ha).1 ((hbI a q ha h1).1 h2),(hco q c h1 hc).1 h3⟩,fun ⟨q,h1,h2,h3⟩=>⟨q,h1,(hbI a q ha h1).2 ((hb1 q a h1 ha).2 h2),(hco q c h1 hc).2 h3⟩⟩⟩,⟨_,(f4.get (g4 A B C D).1).at_,hB.all⟩,⟨_,(f4.get (g5 A B C D).1).at_,hC.all⟩,gR4.ro,gW4.ro,gF4.ro,hall⟩,kh4⟩
end Go.Proofs.YtkcdehffcddciaaGreatDoor.Vm
