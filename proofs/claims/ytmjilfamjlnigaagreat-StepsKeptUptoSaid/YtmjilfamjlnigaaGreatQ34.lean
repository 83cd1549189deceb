/- WALKS: a run is told. -/
import Derived.Test.YtmjilfamjlnigaaGreatQ25
import Derived.Test.YtmjilfamjlnigaaGreatQ29
import Derived.Test.YtmjilfamjlnigaaGreatQ32
import Derived.Test.YtmjilfamjlnigaaGreatQ33
namespace Go.Proofs.YtmjilfamjlnigaaGreat.RunW
open Go Go.RowKit Kit SrcP SrcW MchW OwnR
theorem info_bool:(Tryz.prog.info? 4).map (fun i=>(i.zero,i.size,i.bytes))=some (some (.bool false),1,1):=by kernel_rfl
def playC (nc:Nat) (V:RV) (used:Nat) (hv:Value):Array Value :=
 #[.int .i64 nc,V.ev,V.rf,V.co,V.rmw,nilV,nilV,nilV,V.cells,V.outs,hv,.int .i64 used]
def haltL (K:Kd Mch) (ths:List (Th Mch)):List Bool:=ths.map fun x=>decide ((K.now (K.next x.m)).what=5)
def play0:Array Value:=#[.int .i64 0,.slice none 0 0,.slice none 0 0,.slice none 0 0,.slice none 0 0,.slice none 0 0,.slice none 0 0,.slice none 0 0,.slice none 0 0,.slice none 0 0,.slice none 0 0,.int .i64 0]
def TRel (K:Kd Mch) (base gr nc gp gq:Nat) (w:World) (who:Nat→Option Pt) (V:RV) (r:Rn Mch) (mm:Nat) (s35:Value) (wr:World):Prop :=
 ∃(t:Nat) (who':Nat→Option Pt) (ths:List (Th Mch)) (hv:Value),s35=.int .i64 t∧t≤r.ths.length∧mm=r.ths.length-t∧RunW (srcX nc) K base gr nc wr who' V { r with ths:=ths }∧Moves who who' w wr∧ths.length=r.ths.length∧(∀u,t≤u→ths[u]?=r.ths[u]?) ∧
  Blk wr gp 36 (playC nc V r.used hv)∧who' gp=none∧wr.ownsRow w.heap.size 4 1 hv t ((haltL K (r.ths.take t)).map Value.bool)∧(∀k,hv.ownBlock=some k→who' k=none)∧Blk wr gq 36 play0∧who' gq=none
def TOut (K:Kd Mch) (base gr nc:Nat) (w:World) (who:Nat→Option Pt) (V:RV) (r:Rn Mch) (e:Ending) (w':World):Prop :=
 ∃(who':Nat→Option Pt) (ths:List (Th Mch)) (hv:Value) (d:List (Nat × Nat)),e=.returned (.agg (playC nc V r.used hv))∧RunW (srcX nc) K base gr nc w' who' V { r with ths:=ths,rmw:=d }∧d.Perm r.rmw∧SortedP d∧Moves who who' w w'∧ths.length=r.ths.length ∧
  w'.ownsRow w.heap.size 4 1 hv r.ths.length ((haltL K r.ths).map Value.bool)∧(∀k,hv.ownBlock=some k→who' k=none)
theorem field_what (a b c:Int) (d:Nat) (e f:Bool) (w:World):(Instr.field 100 (.agg #[.int .i64 a,.int .i64 b,.int .i64 c,.int .u64 d,.bool e,.bool f]) 0).run Tryz.prog w=.ok (.int .i64 a) w:=by kernel_rfl
theorem no_cpu (g:Nat) (w:World):(Instr.typeAssert (.iface 118 (.pointer (some ⟨g,0,none⟩))) 125 104 true).run Tryz.prog w=.ok (.tuple #[.pointer none,.bool false]) w:=by kernel_rfl
theorem RunW.grownOther {M:Type} {X:Mk M} {K:Kd M} {base gr nc:Nat} {w w1:World} {who:Nat→Option Pt} {V:RV} {r:Rn M} (hX:MkM X) (h:RunW X K base gr nc w who V r) {row:Option Nat} (hg:w.grownBy w1 row) (hn:∀k,row=some k→who k=none∧∃t cs,Blk w k t cs∧¬X.TM t):RunW X K base gr nc w1 who V r :=
 h.turn hX (fun _=>False) (fun k p hk _=>hg.block k (h.lt2 k p hk) (fun e=>by rw[(hn k e.symm).1]at hk;cases hk)) hg.size (Still.grown hg fun k hk cs t fr hb=>by
  obtain⟨t',cs',hb',hnt⟩:=(hn k hk).2
  unfold Blk at hb'
  rw[hb']at hb
  injection hb with hb
  injection hb with _ hb _
  rw[←hb]
  exact hnt) (fun _ _ _=>Iff.rfl)
  (fun p _=>agree_refl p) (fun _ h=>h.elim) (fun _ _ h=>h.elim) h.gtl h.gml h.numl h.outl h.col
theorem RunW.elsewhere {M:Type} {X:Mk M} {K:Kd M} {base gr nc:Nat} {w w1:World} {who:Nat→Option Pt} {V:RV} {r:Rn M} (hX:MkM X) (h:RunW X K base gr nc w who V r) {g:Nat} (hn:who g=none) (hk:KeptS (fun k=>k=g) w w1) (ht:∃t cs,Blk w g t cs∧¬X.TM t) :
  RunW X K base gr nc w1 who V r:=by
 have hne:∀k p,who k=some p→k≠g:=fun k p hk2 e=>by rw[e,hn]at hk2;cases hk2
 exact h.turn hX (fun _=>False) (fun k p hk2 _=>hk.2.2.2.2 k (h.lt2 k p hk2) (hne k p hk2)) hk.size (KeptS.still hk fun k hk2=>by rw[hk2];exact ht) (fun _ _ _=>Iff.rfl)
  (fun p _=>agree_refl p) (fun _ h=>h.elim) (fun _ _ h=>h.elim) h.gtl h.gml h.numl h.outl h.col
theorem Moves.grownNew {who who':Nat→Option Pt} {w w1 w2:World} (h:Moves who who' w w1) {row:Option Nat} (hg:w1.grownBy w2 row) (hr:∀k,row=some k→w.heap.size≤k):Moves who who' w w2 :=
 ⟨⟨hg.os.trans h.keep.1,hg.tape.trans h.keep.2.1,hg.output.trans h.keep.2.2.1,Nat.le_trans h.keep.size hg.size,fun k hk hn=>(hg.block k (Nat.lt_of_lt_of_le hk h.keep.size) (fun e=>by have:=hr k e.symm;omega)).trans (h.keep.2.2.2.2 k hk hn)⟩,h.own⟩
section
variable {K:Kd Mch} {base gr nc:Nat} {w:World} {who:Nat→Option Pt} {V:RV} {r:Rn Mch}
set_option maxRecDepth 100000 in
set_option maxHeartbeats 0 in
theorem told_any (hX:MkC (srcX nc) K nc) (h:RunW (srcX nc) K base gr nc w who V r) (hok:RnOk nc r) (hev:r.events.length≤1000) (hth:r.ths.length≤1048576) :
  Calls Tryz.prog 23 #[ptrV gr] w fun e w'=>TOut K base gr nc w who V r e w':=by
 unfold ptrV
 go_enter Tryz.func23,Tryz.ntmps23
 go_upto_region 1 with fail
 obtain⟨w0,hw0⟩:∃y,y=w.alloc (.cells #[.int .i64 0,.slice none 0 0,.slice none 0 0,.slice none 0 0,.slice none 0 0,.slice none 0 0,.slice none 0 0,.slice none 0 0,.slice none 0 0,.slice none 0 0,.slice none 0 0,.int .i64 0] 36):=⟨_,rfl⟩
 have hb0:Below w.heap.size w w0:=by rw[hw0];exact Kit.bl1
 have hQ0:Blk w0 w.heap.size 36 #[.int .i64 0,.slice none 0 0,.slice none 0 0,.slice none 0 0,.slice none 0 0,.slice none 0 0,.slice none 0 0,.slice none 0 0,.slice none 0 0,.slice none 0 0,.slice none 0 0,.int .i64 0]:=by rw[hw0];exact Blk.new w _ _
 obtain⟨hR0,hm0⟩:=h.below' hX.toMkM hb0
 have hnq:who w.heap.size=none:=h.noOne (Nat.le_refl _)
 rw[←hw0]
 clear hw0
 obtain⟨Ae,ce,ve,_⟩:=own_slice (h.own .ev)
 simp only[RV.val,rowN]at ve
 have k6:∀p:Cls (Below w0.heap.size w0),p.w.cell? ⟨gr,6,none⟩=some (.slice Ae r.events.length ce):=fun p=>by
  rw[hR0.seeRun (hR0.seesB p) (fun e=>e) 6,←ve];rfl
 obtain⟨Af,cf,vf,_⟩:=own_slice (h.own .rf)
 simp only[RV.val,rowN]at vf
 have k7:∀p:Cls (Below w0.heap.size w0),p.w.cell? ⟨gr,7,none⟩=some (.slice Af r.rf.length cf):=fun p=>by
  rw[hR0.seeRun (hR0.seesB p) (fun e=>e) 7,←vf];rfl
 obtain⟨Ao,co,vo,_⟩:=own_slice (h.own .co)
 simp only[RV.val,rowN]at vo
 have k8:∀p:Cls (Below w0.heap.size w0),p.w.cell? ⟨gr,8,none⟩=some (.slice Ao V.coi.length co):=fun p=>by
  rw[hR0.seeRun (hR0.seesB p) (fun e=>e) 8,←vo];rfl
 obtain⟨Am,cm,vm,_⟩:=own_slice (h.own .rmw)
 simp only[RV.val,rowN]at vm
 have k9:∀p:Cls (Below w0.heap.size w0),p.w.cell? ⟨gr,9,none⟩=some (.slice Am r.rmw.length cm):=fun p=>by
  rw[hR0.seeRun (hR0.seesB p) (fun e=>e) 9,←vm];rfl
 obtain⟨Ac,cc,vc,_⟩:=own_slice (h.own .cells)
 simp only[RV.val,rowN]at vc
 have k3:∀p:Cls (Below w0.heap.size w0),p.w.cell? ⟨gr,3,none⟩=some (.slice Ac r.cells.length cc):=fun p=>by
  rw[hR0.seeRun (hR0.seesB p) (fun e=>e) 3,←vc];rfl
 obtain⟨Au,cu,vu,_⟩:=own_slice (h.own .outs)
 simp only[RV.val,rowN]at vu
 have k13:∀p:Cls (Below w0.heap.size w0),p.w.cell? ⟨gr,13,none⟩=some (.slice Au V.outi.length cu):=fun p=>by
  rw[hR0.seeRun (hR0.seesB p) (fun e=>e) 13,←vu];rfl
 have k10:∀p:Cls (Below w0.heap.size w0),p.w.cell? ⟨gr,10,none⟩=some (.slice none 0 0):=fun p=>by
  rw[hR0.seeRun (hR0.seesB p) (fun e=>e) 10];rfl
 have k11:∀p:Cls (Below w0.heap.size w0),p.w.cell? ⟨gr,11,none⟩=some (.slice none 0 0):=fun p=>by
  rw[hR0.seeRun (hR0.seesB p) (fun e=>e) 11];rfl
 have k12:∀p:Cls (Below w0.heap.size w0),p.w.cell? ⟨gr,12,none⟩=some (.slice none 0 0):=fun p=>by
  rw[hR0.seeRun (hR0.seesB p) (fun e=>e) 12];rfl
 have k5:∀p:Cls (Below w0.heap.size w0),p.w.cell? ⟨gr,5,none⟩=some (.int .i64 nc):=fun p=>by
  rw[hR0.seeRun (hR0.seesB p) (fun e=>e) 5];rfl
 have k15:∀p:Cls (Below w0.heap.size w0),p.w.cell? ⟨gr,15,none⟩=some (.int .i64 r.used):=fun p=>by
  rw[hR0.seeRun (hR0.seesB p) (fun e=>e) 15];rfl
 have HV:Hid (playC nc V r.used nilV=#[.int .i64 nc,.slice Ae r.events.length ce,.slice Af r.rf.length cf,.slice Ao V.coi.length co,.slice Am r.rmw.length cm,.slice none 0 0,.slice none 0 0,.slice none 0 0,.slice Ac r.cells.length cc,.slice Au V.outi.length cu,.slice none 0 0,.int .i64 r.used]):=Lib.hid (by
  unfold playC
  rw[ve,vf,vo,vm,vc,vu])
 clear ve vf vo vm vc vu h
 refine wp_region_float_at (Below w0.heap.size w0) 18 1 [0,1,2,3,4,5,6,7,8,9,10,11,12,13,14,15,16] [] (Below_drewN _ 1) (by kernel_rfl) (by kernel_rfl) ?_
 intro hne
 simp only[pickL,List.map_cons,List.map_nil,List.getElem?_cons_succ,List.getElem?_cons_zero,Option.getD_some]
 repeat (go_big_quiet_step (fail))
 refine wpQuiet_nil ?_
 clear k3 k5 k6 k7 k8 k9 k10 k11 k12 k13 k15
 have hbd:Below w0.heap.size w0 (World.drewN w0 1):=Below_drewN _ 1
 generalize World.drewN w0 1=wd at *
 refine fG (i:=17) rfl ?_
 go_wp2_with fail
 have hb1:Below w0.heap.size w0 (wd.alloc (.cells #[.int .i64 0,.slice none 0 0,.slice none 0 0,.slice none 0 0,.slice none 0 0,.slice none 0 0,.slice none 0 0,.slice none 0 0,.slice none 0 0,.slice none 0 0,.slice none 0 0,.int .i64 0] 36)):=Kit.Below.al hbd _
 refine Kit.oG hb1 ?_
 refine(show tailG _ _ _ _ _ _ _ from⟨by kernel_rfl,?_⟩)
 simp only[List.drop_succ_cons,List.drop_zero]
 go_upto_region 3 with fail
 obtain⟨w1,hw1⟩:∃y,y=wd.alloc (.cells #[.int .i64 nc,.slice Ae r.events.length ce,.slice Af r.rf.length cf,.slice Ao V.coi.length co,.slice Am r.rmw.length cm,.slice none 0 0,.slice none 0 0,.slice none 0 0,.slice Ac r.cells.length cc,.slice Au V.outi.length cu,.slice none 0 0,.int .i64 r.used] 36):=⟨_,rfl⟩
 have hb01:Below w0.heap.size w0 w1:=by rw[hw1];exact Kit.Below.al hbd _
 have hP1:Blk w1 wd.heap.size 36 (playC nc V r.used nilV):=by rw[hw1,HV.out];exact Blk.new wd _ _
 rw[←hw1]
 obtain⟨gp,hgp⟩:∃y,y=wd.heap.size:=⟨_,rfl⟩
 rw[←hgp]at hP1 ⊢
 obtain⟨hR1,hm1⟩:=hR0.below' hX.toMkM hb01
 have hm1:=hm0.trans hm1
 have hgw:w.heap.size≤gp:=by rw[hgp];exact Nat.le_trans hb0.size hbd.size
 have hgw0:w0.heap.size≤gp:=by rw[hgp];exact hbd.size
 have hnp:who gp=none:=hR0.noOne hgw0
 have hQ1:=hQ0.below' hb01
 obtain⟨gq,hgq⟩:∃y,y=w.heap.size:=⟨_,rfl⟩
 have hqp:gq≠gp:=by have:=hQ0.lt;omega
 have hgqw:w.heap.size≤gq:=by omega
 rw[←hgq]at hnq hQ1 ⊢
 obtain⟨T,cT,hevT,_⟩:=own_slice (hR1.own .thr)
 simp only[RV.val,rowN,hR1.gtl]at hevT
 have k2:w1.cell? ⟨gr,2,none⟩=some (.slice T r.ths.length cT):=by rw[hR1.run.2.cell 2,←hevT];rfl
 have HTV:=Lib.hid hevT
 clear hw1 hgp hb01 hbd hb1 hR0 hm0 hQ0 hevT hb0 hgw0 HV hgq
 go_upto_region 4 with fail
 go_loopg [35] r.ths.length (fun mm s35 wr=>TRel K base gr nc gp gq w who V r mm s35 wr)
 case atStart=>exact⟨0,who,r.ths,nilV,rfl,Nat.zero_le _,rfl,hR1,hm1,rfl,fun _ _=>rfl,hP1,hnp,own_nil _ _ _ _,(fun k hk=>by cases hk),hQ1,hnq⟩
 case round =>
  obtain⟨t,who2,ths,hv,rfl,ht,hmm,hR2,hm2,hlen,hold,hP2,hnp2,hown,hnv,hQ2,hnq2⟩:=hrel
  have HM:=Lib.hid hmm
  clear hmm k2 hR1 hP1 hnp hQ1 hnq
  by_cases hke:t<r.ths.length
  ·obtain⟨x,hx⟩:∃x,r.ths[t]?=some x:=⟨_,Kit.eG hke⟩
   have hx2:({ r with ths:=ths }:Rn Mch).ths[t]?=some x:=by show ths[t]?=_;rw[hold t (Nat.le_refl _)];exact hx
   have q1:(t:Int)<(r.ths.length:Int):=by omega
   have q2:(0:Int)≤(t:Int):=by omega
   obtain⟨gth,capth,gt,gm,hvth,hgt,hgm,hjt⟩:=hR2.thr hx2
   have hthw:=(hR2.thOf hx2)
   have hvth':V.thr=.slice (some ⟨gth,0,none⟩) r.ths.length capth:=by rw[hvth];show Value.slice _ ths.length _=_;rw[hlen]
   have hT:=HTV.out
   rw[hvth']at hT
   injection hT with hT1 hT2 hT3
   subst hT1
   subst hT3
   have hs0:Sees (fun _=>False) who2 wr wr:=fun _ _ _ _=>rfl
   have kt:wr.cell? ⟨gth,t,none⟩=some (.pointer (some ⟨gt,0,none⟩)):=hR2.seeRow hs0 (fun e=>e) (q:=.thr) hvth t _ hjt
   have km:wr.cell? ⟨gt,0,none⟩=some (.iface 118 (.pointer (some ⟨gm,0,none⟩))):=by rw[hR2.seeTh hs0 (fun e=>e) hx2 hgt hgm 0];rfl
   have hwt:who2 gt=some (.th t):=by
    obtain⟨gt',gm',h1,h2,h3,_⟩:=hthw
    rw[hgt]at h1
    obtain rfl:=Option.some.inj h1
    exact h3
   have hbt:Blk wr gt 127 (thC (srcX nc) V t gm x):=(hR2.part (.th t) _ _ _ hx2 hgt hgm).2
   clear hvth hvth' hjt hT2 hthw hs0
   have hta:=no_cpu gm
   go_upto_region 11 with fail
   clear hta kt q2
   obtain⟨Ah,ch,hvh,_⟩:=own_slice hown
   subst hvh
   obtain⟨S,hS⟩:∃S:Nat→Prop,∀k,S k↔(who2 k=some (.mach t)∨(Value.slice Ah t ch).ownBlock=some k):=⟨_,fun _=>Iff.rfl⟩
   have hgpS:¬S gp:=fun hs=>by
    rcases (hS _).1 hs with h1 | h1
    ·rw[hnp2]at h1;cases h1
    ·exact OwnR.own_type hown hP2 (by decide) h1
   have hgqS:¬S gq:=fun hs=>by
    rcases (hS _).1 hs with h1 | h1
    ·rw[hnq2]at h1;cases h1
    ·exact OwnR.own_type hown hQ2 (by decide) h1
   have hgtS:¬S gt:=fun hs=>by
    rcases (hS _).1 hs with h1 | h1
    ·rw[hwt]at h1;cases h1
    ·rw[hnv gt h1]at hwt;cases hwt
   have kh:∀p:Cls (KeptS S wr),p.w.cell? ⟨gp,10,none⟩=some (.slice Ah t ch):=fun p=>(p.h.blk hP2 hgpS).cell 10
   replace km:∀p:Cls (KeptS S wr),p.w.cell? ⟨gt,0,none⟩=some (.iface 118 (.pointer (some ⟨gm,0,none⟩))):=fun p=>(p.h.blk hbt hgtS).cell 0
   have hkd:KeptS S wr (World.drewN wr 1):=(KeptS.refl _ wr).dn 1
   have hbd:Below wr.heap.size wr (World.drewN wr 1):=Below_drewN _ 1
   have HS:=Lib.hid hS
   clear hS
   refine wp_region_float_at (KeptS S wr) 11 5 [0,1,2,3,4,5] [] hkd (by kernel_rfl) (by kernel_rfl) ?_
   intro hne
   simp only[pickL,List.map_cons,List.map_nil,List.getElem?_cons_succ,List.getElem?_cons_zero,Option.getD_some]
   repeat (go_big_quiet_step (fail))
   refine wpQuiet_nil ?_
   clear kh km
   generalize World.drewN wr 1=wd2 at *
   obtain⟨hRd,hmd⟩:=hR2.below' hX.toMkM hbd
   have hrep:=hRd.part (.mach t) _ _ hx2 hgm
   obtain⟨s,hs⟩:∃y,y=K.now (K.next x.m):=⟨_,rfl⟩
   have HNX:Hid (Calls Tryz.prog 215 #[.pointer (some ⟨gm,0,none⟩)] wd2 fun e w'=>e=.returned (.agg #[.int .i64 s.what,.int .i64 s.loc,.int .i64 s.mode,.int .u64 s.val,.bool s.ex,.bool s.one])∧MOp (srcX nc) wd2 (fun k=>who2 k=some (.mach t)) gm (K.next x.m) w'):=by
    rw[hs];exact Lib.hid (hX.next hrep)
   have HSS:=Lib.hid hs
   have hmN:∀w,(method 432 118 (.pointer (some ⟨gm,0,none⟩)) "Next").run Tryz.prog w=.ok (215,.pointer (some ⟨gm,0,none⟩)) w:=hX.nextM gm
   have hts:=types_size
   clear hs hrep
   refine fG (i:=6) rfl ?_
   go_wp2_with (go_at_call 215;refine HNX.out.mono ?_;rintro e w3 ⟨rfl,S',hS',hrep3,hk3,hst3⟩)
   have hk3S:KeptS S wr w3:=hkd.trans (hk3.mono fun k hk=>(HS.out k).2 (.inl hk))
   obtain⟨who3,hR3,hm3⟩:=hRd.machOp hX.toMkM hx2 hgm hS' hrep3 hk3 hst3
   have hown3:w3.ownsRow w.heap.size 4 1 (.slice Ah t ch) t ((haltL K (r.ths.take t)).map Value.bool):=OwnR.own_stays hown fun k hk=>(hk3.2.2.2.2 k (by have:=OwnR.own_lt hown hk;have:=hbd.size;omega) (fun e=>by have e':who2 k=some (.mach t):=e;rw[hnv k hk]at e';cases e')).trans (hbd.block k (OwnR.own_lt hown hk))
   clear hS' hrep3 hst3 HNX hmN
   refine Kit.oG hk3S ?_
   have hfl:=field_what s.what s.loc s.mode s.val s.ex s.one
   refine fG (i:=7) rfl ?_
   go_wp2_with fail
   refine Kit.oG hk3S ?_
   refine fG (i:=8) rfl ?_
   go_wp2_with fail
   refine Kit.oG hk3S ?_
   obtain⟨b,hb⟩:∃b,b=(s.what == 5):=⟨_,rfl⟩
   rw[←hb]
   have HB:=Lib.hid hb
   clear hb hfl
   refine fG (i:=9) rfl ?_
   go_wp2_with fail
   have hk4S:KeptS S wr (w3.alloc (.cells #[.bool b] 4)):=hk3S.al _
   have hb4:Below w3.heap.size w3 (w3.alloc (.cells #[.bool b] 4)):=Kit.bl1
   have hN4:Blk (w3.alloc (.cells #[.bool b] 4)) w3.heap.size 4 (List.toArray [.bool b]):=Blk.new w3 _ _
   refine Kit.oG hk4S ?_
   obtain⟨hR4,hm4⟩:=hR3.below' hX.toMkM hb4
   have hown4:(w3.alloc (.cells #[.bool b] 4)).ownsRow w.heap.size 4 1 (.slice Ah t ch) t ((haltL K (r.ths.take t)).map Value.bool):=OwnR.own_stays hown3 fun k hk=>hb4.block k (OwnR.own_lt hown3 hk)
   have hmm4:=hm2.trans (hmd.trans (hm3.trans hm4))
   have hw34:w3.heap.size≤(w3.alloc (.cells #[.bool b] 4)).heap.size:=hb4.size
   have hgs3:w3.heap.size=w3.heap.size:=rfl
   obtain⟨g3,hg3⟩:∃y,y=w3.heap.size:=⟨_,rfl⟩
   rw[←hg3]at hN4 ⊢
   generalize w3.alloc (.cells #[.bool b] 4)=w4 at *
   have hnv4:∀k,(Value.slice Ah t ch).ownBlock=some k→who3 k=none:=fun k hk=>by
    cases hw:who3 k with
    | none=>rfl
    | some pt =>
     exfalso
     have hne:who3 k≠none:=by rw[hw];exact fun e=>by cases e
     rcases hm3.own k hne with h1 | h1
     ·exact h1 (hnv k hk)
     ·have:=OwnR.own_lt hown hk;have:=hbd.size;omega
   have hnp4:who3 gp=none:=by
    cases hw:who3 gp with
    | none=>rfl
    | some pt =>
     exfalso
     have hne:who3 gp≠none:=by rw[hw];exact fun e=>by cases e
     rcases hm3.own gp hne with h1 | h1
     ·exact h1 hnp2
     ·have:=hP2.lt;have:=hbd.size;omega
   have hnq4:who3 gq=none:=by
    cases hw:who3 gq with
    | none=>rfl
    | some pt =>
     exfalso
     have hne:who3 gq≠none:=by rw[hw];exact fun e=>by cases e
     rcases hm3.own gq hne with h1 | h1
     ·exact h1 hnq2
     ·have:=hQ2.lt;have:=hbd.size;omega
   clear hR3 hRd hR2 hk3S hk3 hgs3 hm2 hmd hm3 hm4 hg3 hb4 hown3 hbd hkd hbt hgtS hwt
   obtain⟨i0,hi0,hz0,hz1,hz2⟩:=info_parts info_bool
   have HEO:=Lib.hid hown4
   have hml:(16*1048576:Nat)≤maxLen:=by decide
   have hbs:w.heap.size≤w4.heap.size:=hmm4.keep.size
   refine fG (i:=10) rfl ?_
   refine wpList_append_lies _ (by rfl) _ _ _ (by rfl) w.heap.size 4 i0 _ 1 1 Tryz.underlying34 hi0 hz0 hz1 hz2 rfl (by omega) _ t _ (by rfl) HEO.out ⟨g3,0,none⟩ 1 1 [.bool b] (by rfl) rfl (news_one hN4) (one_one rfl) (by omega) (by omega) (by omega) hbs _ rfl ?_
   intro g8 cap8 w8 hown8 hgrow8 hat8 hlt8
   have hk8:=kept_grown hk4S hgrow8 (fun k hk=>(HS.out k).2 (.inr hk))
   refine Kit.oG hk8 ?_
   refine(show tailG _ _ _ _ _ _ _ from⟨by kernel_rfl,?_⟩)
   simp only[List.drop_succ_cons,List.drop_zero]
   have hB8:=hk8.blk hP2 hgpS
   have hQ8:=hk8.blk hQ2 hgqS
   have kf:=fun i=>hB8.frozen i
   have k10:w8.cell? ⟨gp,10,none⟩=some (.slice Ah t ch):=hB8.cell 10
   go_upto_region 12 with fail
   have hR8:=hR4.grownOther hX.toMkM hgrow8 (fun k hk=>⟨hnv4 k hk,by
    rcases hown4.2 with⟨h0,_⟩ | ⟨g',cap',cur,h0,_,hh,_⟩
    ·rw[h0]at hk;cases hk
    ·rw[h0]at hk
     obtain rfl:g'=k:=by simpa [Value.ownBlock]using hk
     exact⟨_,_,hh,by show ¬TA _;unfold TA;decide⟩⟩)
   have hR9:=hR8.other hX.toMkM hnp4 hB8 (by show ¬TA _;unfold TA;decide) 10 (.slice (some ⟨g8,0,none⟩) (t+1) cap8)
   have hm9:=(hmm4.grownNew hgrow8 (fun k hk=>OwnR.own_base hown4 hk)).setNew hgw 10 (.slice (some ⟨g8,0,none⟩) (t+1) cap8)
   have hP9:Blk (w8.setCell ⟨gp,10,none⟩ (.slice (some ⟨g8,0,none⟩) (t+1) cap8)) gp 36 (playC nc V r.used (.slice (some ⟨g8,0,none⟩) (t+1) cap8)):=hB8.set 10 _
   have hown9:(w8.setCell ⟨gp,10,none⟩ (.slice (some ⟨g8,0,none⟩) (t+1) cap8)).ownsRow w.heap.size 4 1 (.slice (some ⟨g8,0,none⟩) (t+1) cap8) (t+1) ((haltL K (r.ths.take (t+1))).map Value.bool):=by
    have e:(haltL K (r.ths.take (t+1))).map Value.bool=(haltL K (r.ths.take t)).map Value.bool++[.bool b]:=by
     unfold haltL
     rw[List.take_add_one,hx,HB.out,HSS.out]
     simp
     rfl
    rw[e]
    exact OwnR.own_stays hown8 fun k hk=>Below.heap_setCell _ _ _ k (fun e=>OwnR.own_type hown8 hB8 (by decide) (by rw[hk,e]))
   have hnv9:∀k,(Value.slice (some ⟨g8,0,none⟩) (t+1) cap8).ownBlock=some k→who3 k=none:=fun k hk=>by
    obtain rfl:g8=k:=by simpa [Value.ownBlock]using hk
    rcases hat8 with h1 | h1
    ·exact hnv4 _ h1
    ·exact hR4.noOne (by omega)
   have hl9:(ths.set t { x with m:=K.next x.m }).length=r.ths.length:=by rw[List.length_set];exact hlen
   have ho9:∀u,t+1≤u→(ths.set t { x with m:=K.next x.m })[u]?=r.ths[u]?:=fun u hu=>by
    rw[List.getElem?_set_ne (by omega)]
    exact hold u (by omega)
   have hQ9:Blk (w8.setCell ⟨gp,10,none⟩ (.slice (some ⟨g8,0,none⟩) (t+1) cap8)) gq 36 play0:=hQ8.farN hqp _
   replace hR9:RunW (srcX nc) K base gr nc _ who3 V { r with ths:=ths.set t { x with m:=K.next x.m } }:=hR9
   generalize w8.setCell ⟨gp,10,none⟩ (.slice (some ⟨g8,0,none⟩) (t+1) cap8)=w9 at *
   clear hR8 hk8 hB8 hQ8 hQ2 hnq2 hgqS kf k10 hgrow8 hat8 hlt8 hown8 HEO HS hgpS hN4 hi0 hz0 hz1 hz2 hR4 hown4 hown hnv4 hmm4 hk4S hP2 hw34 hbs hne hnv hx2 hold
   go_wp2_with fail
   go_roundg (r.ths.length-(t+1))
   case measure=>have:=HM.out;omega
   case rel=>exact⟨t+1,who3,_,_,by push_cast;rfl,hke,rfl,hR9,hm9,hl9,ho9,hP9,hnp4,hown9,hnv9,hQ9,hnq4⟩
  ·obtain rfl:t=r.ths.length:=by omega
   rw[List.take_length]at hown
   have hmr:r.rmw.length≤1048576:=Nat.le_trans hok.rmw (by omega)
   obtain⟨Am,cm,vm,_⟩:=own_slice (hR2.own .rmw)
   simp only[RV.val,rowN]at vm
   have k4:∀p:Cls (Below wr.heap.size wr),p.w.cell? ⟨gp,4,none⟩=some (.slice Am r.rmw.length cm):=fun p=>by rw[hP2.cls 4 p,←vm];rfl
   have k5:∀p:Cls (Below wr.heap.size wr),p.w.cell? ⟨gp,5,none⟩=some (.slice none 0 0):=fun p=>hP2.cls 5 p
   have k6:∀p:Cls (Below wr.heap.size wr),p.w.cell? ⟨gp,6,none⟩=some (.slice none 0 0):=fun p=>hP2.cls 6 p
   have k7:∀p:Cls (Below wr.heap.size wr),p.w.cell? ⟨gp,7,none⟩=some (.slice none 0 0):=fun p=>hP2.cls 7 p
   have hbd:Below wr.heap.size wr (World.drewN wr 1):=Below_drewN _ 1
   have HVM:=Lib.hid vm
   clear vm
   go_upto_region 13 with fail
   refine wp_region_float_all (Below wr.heap.size wr) 19 2 [0,1,2,3,4,5,6,7,8,9,10,11,12,13,14,15,18] [] hbd (by kernel_rfl) (by kernel_rfl) ?_
   intro hne
   simp only[pickL,List.map_cons,List.map_nil,List.getElem?_cons_succ,List.getElem?_cons_zero,Option.getD_some]
   repeat (go_big_quiet_step (fail))
   refine wpQuiet_nil ?_
   clear k4 k5 k6 k7
   have hwd:Below wr.heap.size wr (World.drewN wr 1):=hbd
   obtain⟨hRd,hmd⟩:=hR2.below' hX.toMkM hbd
   have hPd:=hP2.below' hbd
   have hQd:=hQ2.below' hbd
   have hownd:=own_stays hown (fun k hk=>hbd.block k (OwnR.own_lt hown hk))
   have hm3:=hm2.trans hmd
   generalize World.drewN wr 1=wd2 at *
   clear hR2 hP2 hQ2 hown hm2 hmd
   refine fG (i:=16) rfl ?_
   go_wp2_with fail
   have hbL:Below wd2.heap.size wd2 (wd2.alloc (.cells #[.slice Am r.rmw.length cm,.slice none 0 0,.slice none 0 0,.slice none 0 0] 28)):=Kit.bl1
   have hL:Blk (wd2.alloc (.cells #[.slice Am r.rmw.length cm,.slice none 0 0,.slice none 0 0,.slice none 0 0] 28)) wd2.heap.size 28 #[.slice Am r.rmw.length cm,.slice none 0 0,.slice none 0 0,.slice none 0 0]:=Blk.new wd2 _ _
   refine onG_mk (fun _=>⟨⟨_,Kit.Below.then hbd hbL⟩,rfl⟩) ?_
   obtain⟨gL,hgL⟩:∃y,y=wd2.heap.size:=⟨_,rfl⟩
   have hnL:who2 gL=none:=by rw[hgL];exact hRd.noOne (Nat.le_refl _)
   rw[←hgL]at hL ⊢
   obtain⟨hR4,hm4⟩:=hRd.below' hX.toMkM hbL
   have hm4:=hm3.trans hm4
   have hP4:=hPd.below' hbL
   have hQ4:=hQd.below' hbL
   have hown4:=own_stays hownd (fun k hk=>hbL.block k (OwnR.own_lt hownd hk))
   have hgpL:gp≠gL:=by have:=hPd.lt;omega
   have hgqL:gq≠gL:=by have:=hQd.lt;omega
   have hbd4:=Kit.Below.then hbd hbL
   generalize wd2.alloc (.cells #[.slice Am r.rmw.length cm,.slice none 0 0,.slice none 0 0,.slice none 0 0] 28)=w4 at *
   clear hRd hPd hQd hownd hm3 hbL hbd hwd hgL
   refine fG (i:=17) rfl ?_
   go_wp2_with fail
   refine Kit.oG hbd4 ?_
   refine(show tailG _ _ _ _ _ _ _ from⟨by kernel_rfl,?_⟩)
   simp only[List.drop_succ_cons,List.drop_nil]
   go_wp2_with fail
   have l0:w4.cell? ⟨gL,0,none⟩=some (.slice Am r.rmw.length cm):=hL.cell 0
   have HSO:Hid (Calls Tryz.prog 44 #[.slice Am r.rmw.length cm,.func (.func 45) #[] #[]] w4 fun e w'=>e=.returned (.tuple #[])∧∃d,d.Perm r.rmw∧SortedP d∧RunW (srcX nc) K base gr nc w' who2 V { r with ths:=ths,rmw:=d }∧Moves who2 who2 w4 w'):=by
    have:=sort_any hX.toMkM hR4 hmr
    rw[HVM.out]at this
    exact Lib.hid this
   have HSN:∀w,Hid (Calls Tryz.prog 44 #[.slice none 0 0,.func (.func 45) #[] #[]] w fun e w'=>e=.returned (.tuple #[])∧w'=w):=fun w=>by
    have hc:=AnyF.slices_SortFunc_none (P:=Tryz.prog) (ρ:=Tryz.sortPairs_ren) { Tryz.sortPairs with } none 0 (.func (.func 45) #[] #[]) w
    exact Lib.hid (Calls.mono (show Calls Tryz.prog 44 _ _ _ from hc) (fun e w' h=>h))
   refine wp_loop_rounds 5 ?_
   rw[rounds_succ]
   go_wp2_with (go_at_call 44;refine HSO.out.mono ?_;rintro e w5 ⟨rfl,d,hpd,hsd,hR5,hm5⟩)
   have hL5:=(hm5.blk hL hnL).1
   have hP5:=(hm5.blk hP4 hnp2).1
   have hQ5:=(hm5.blk hQ4 hnq2).1
   have hown5:=own_stays hown4 (fun k hk=>hm5.keep.2.2.2.2 k (OwnR.own_lt hown4 hk) (fun h=>h (hnv k hk)))
   have hm5:=hm4.trans hm5
   clear l0 HSO hL hP4 hQ4 hown4 hm4 hR4
   have l1:w5.cell? ⟨gL,1,none⟩=some (.slice none 0 0):=hL5.cell 1
   have l2:w5.cell? ⟨gL,2,none⟩=some (.slice none 0 0):=hL5.cell 2
   have l3:w5.cell? ⟨gL,3,none⟩=some (.slice none 0 0):=hL5.cell 3
   rw[rounds_succ]
   go_wp2_with (go_at_call 44;refine(HSN _).out.mono ?_;rintro e w6 ⟨rfl,rfl⟩)
   rw[rounds_succ]
   go_wp2_with (go_at_call 44;refine(HSN _).out.mono ?_;rintro e w6 ⟨rfl,rfl⟩)
   rw[rounds_succ]
   go_wp2_with (go_at_call 44;refine(HSN _).out.mono ?_;rintro e w6 ⟨rfl,rfl⟩)
   clear l1 l2 l3 HSN
   obtain⟨Ae,ce,ve,_⟩:=own_slice (hR5.own .ev)
   simp only[RV.val,rowN]at ve
   obtain⟨Af,cf,vf,_⟩:=own_slice (hR5.own .rf)
   simp only[RV.val,rowN]at vf
   obtain⟨Ao,co,vo,_⟩:=own_slice (hR5.own .co)
   simp only[RV.val,rowN]at vo
   obtain⟨Ac,cc,vc,_⟩:=own_slice (hR5.own .cells)
   simp only[RV.val,rowN]at vc
   obtain⟨Au,cu,vu,_⟩:=own_slice (hR5.own .outs)
   simp only[RV.val,rowN]at vu
   obtain⟨Ah,ch,vh,_⟩:=own_slice hown5
   subst vh
   have HPV:Hid (playC nc V r.used (.slice Ah r.ths.length ch)=#[.int .i64 (nc:Int),.slice Ae r.events.length ce,.slice Af r.rf.length cf,.slice Ao V.coi.length co,.slice Am r.rmw.length cm,.slice none 0 0,.slice none 0 0,.slice none 0 0,.slice Ac r.cells.length cc,.slice Au V.outi.length cu,.slice Ah r.ths.length ch,.int .i64 (r.used:Int)]):=Lib.hid (by
    unfold playC
    rw[ve,vf,vo,HVM.out,vc,vu])
   rw[HPV.out]at hP5
   clear ve vf vo vc vu
   obtain⟨p0,p1,p2,p3,p4,p5,p6,p7,p8,p9,p10,p11⟩:=Kit.cells12 hP5
   obtain⟨q0,q1,q2,q3,q4,q5,q6,q7,q8,q9,q10,q11⟩:=Kit.cells12 hQ5
   have kf:=fun i=>hQ5.frozen i
   have hs0:Blk (w6.setCell ⟨gq,0,none⟩ (.int .i64 (nc:Int))) gq 36 #[.int .i64 (nc:Int),.slice none 0 0,.slice none 0 0,.slice none 0 0,.slice none 0 0,.slice none 0 0,.slice none 0 0,.slice none 0 0,.slice none 0 0,.slice none 0 0,.slice none 0 0,.int .i64 0]:=hQ5.set 0 (.int .i64 (nc:Int))
   have hs1:Blk ((w6.setCell ⟨gq,0,none⟩ (.int .i64 (nc:Int))).setCell ⟨gq,1,none⟩ (.slice Ae r.events.length ce)) gq 36 #[.int .i64 (nc:Int),.slice Ae r.events.length ce,.slice none 0 0,.slice none 0 0,.slice none 0 0,.slice none 0 0,.slice none 0 0,.slice none 0 0,.slice none 0 0,.slice none 0 0,.slice none 0 0,.int .i64 0]:=hs0.set 1 (.slice Ae r.events.length ce)
   have hs2:Blk (((w6.setCell ⟨gq,0,none⟩ (.int .i64 (nc:Int))).setCell ⟨gq,1,none⟩ (.slice Ae r.events.length ce)).setCell ⟨gq,2,none⟩ (.slice Af r.rf.length cf)) gq 36 #[.int .i64 (nc:Int),.slice Ae r.events.length ce,.slice Af r.rf.length cf,.slice none 0 0,.slice none 0 0,.slice none 0 0,.slice none 0 0,.slice none 0 0,.slice none 0 0,.slice none 0 0,.slice none 0 0,.int .i64 0]:=hs1.set 2 (.slice Af r.rf.length cf)
   have hs3:Blk ((((w6.setCell ⟨gq,0,none⟩ (.int .i64 (nc:Int))).setCell ⟨gq,1,none⟩ (.slice Ae r.events.length ce)).setCell ⟨gq,2,none⟩ (.slice Af r.rf.length cf)).setCell ⟨gq,3,none⟩ (.slice Ao V.coi.length co)) gq 36 #[.int .i64 (nc:Int),.slice Ae r.events.length ce,.slice Af r.rf.length cf,.slice Ao V.coi.length co,.slice none 0 0,.slice none 0 0,.slice none 0 0,.slice none 0 0,.slice none 0 0,.slice none 0 0,.slice none 0 0,.int .i64 0]:=hs2.set 3 (.slice Ao V.coi.length co)
   have hs4:Blk (((((w6.setCell ⟨gq,0,none⟩ (.int .i64 (nc:Int))).setCell ⟨gq,1,none⟩ (.slice Ae r.events.length ce)).setCell ⟨gq,2,none⟩ (.slice Af r.rf.length cf)).setCell ⟨gq,3,none⟩ (.slice Ao V.coi.length co)).setCell ⟨gq,4,none⟩ (.slice Am r.rmw.length cm)) gq 36 #[.int .i64 (nc:Int),.slice Ae r.events.length ce,.slice Af r.rf.length cf,.slice Ao V.coi.length co,.slice Am r.rmw.length cm,.slice none 0 0,.slice none 0 0,.slice none 0 0,.slice none 0 0,.slice none 0 0,.slice none 0 0,.int .i64 0]:=hs3.set 4 (.slice Am r.rmw.length cm)
   have hs5:Blk ((((((w6.setCell ⟨gq,0,none⟩ (.int .i64 (nc:Int))).setCell ⟨gq,1,none⟩ (.slice Ae r.events.length ce)).setCell ⟨gq,2,none⟩ (.slice Af r.rf.length cf)).setCell ⟨gq,3,none⟩ (.slice Ao V.coi.length co)).setCell ⟨gq,4,none⟩ (.slice Am r.rmw.length cm)).setCell ⟨gq,5,none⟩ (.slice none 0 0)) gq 36 #[.int .i64 (nc:Int),.slice Ae r.events.length ce,.slice Af r.rf.length cf,.slice Ao V.coi.length co,.slice Am r.rmw.length cm,.slice none 0 0,.slice none 0 0,.slice none 0 0,.slice none 0 0,.slice none 0 0,.slice none 0 0,.int .i64 0]:=hs4.set 5 (.slice none 0 0)
   have hs6:Blk (((((((w6.setCell ⟨gq,0,none⟩ (.int .i64 (nc:Int))).setCell ⟨gq,1,none⟩ (.slice Ae r.events.length ce)).setCell ⟨gq,2,none⟩ (.slice Af r.rf.length cf)).setCell ⟨gq,3,none⟩ (.slice Ao V.coi.length co)).setCell ⟨gq,4,none⟩ (.slice Am r.rmw.length cm)).setCell ⟨gq,5,none⟩ (.slice none 0 0)).setCell ⟨gq,6,none⟩ (.slice none 0 0)) gq 36 #[.int .i64 (nc:Int),.slice Ae r.events.length ce,.slice Af r.rf.length cf,.slice Ao V.coi.length co,.slice Am r.rmw.length cm,.slice none 0 0,.slice none 0 0,.slice none 0 0,.slice none 0 0,.slice none 0 0,.slice none 0 0,.int .i64 0]:=hs5.set 6 (.slice none 0 0)
   have hs7:Blk ((((((((w6.setCell ⟨gq,0,none⟩ (.int .i64 (nc:Int))).setCell ⟨gq,1,none⟩ (.slice Ae r.events.length ce)).setCell ⟨gq,2,none⟩ (.slice Af r.rf.length cf)).setCell ⟨gq,3,none⟩ (.slice Ao V.coi.length co)).setCell ⟨gq,4,none⟩ (.slice Am r.rmw.length cm)).setCell ⟨gq,5,none⟩ (.slice none 0 0)).setCell ⟨gq,6,none⟩ (.slice none 0 0)).setCell ⟨gq,7,none⟩ (.slice none 0 0)) gq 36 #[.int .i64 (nc:Int),.slice Ae r.events.length ce,.slice Af r.rf.length cf,.slice Ao V.coi.length co,.slice Am r.rmw.length cm,.slice none 0 0,.slice none 0 0,.slice none 0 0,.slice none 0 0,.slice none 0 0,.slice none 0 0,.int .i64 0]:=hs6.set 7 (.slice none 0 0)
   have hs8:Blk (((((((((w6.setCell ⟨gq,0,none⟩ (.int .i64 (nc:Int))).setCell ⟨gq,1,none⟩ (.slice Ae r.events.length ce)).setCell ⟨gq,2,none⟩ (.slice Af r.rf.length cf)).setCell ⟨gq,3,none⟩ (.slice Ao V.coi.length co)).setCell ⟨gq,4,none⟩ (.slice Am r.rmw.length cm)).setCell ⟨gq,5,none⟩ (.slice none 0 0)).setCell ⟨gq,6,none⟩ (.slice none 0 0)).setCell ⟨gq,7,none⟩ (.slice none 0 0)).setCell ⟨gq,8,none⟩ (.slice Ac r.cells.length cc)) gq 36 #[.int .i64 (nc:Int),.slice Ae r.events.length ce,.slice Af r.rf.length cf,.slice Ao V.coi.length co,.slice Am r.rmw.length cm,.slice none 0 0,.slice none 0 0,.slice none 0 0,.slice Ac r.cells.length cc,.slice none 0 0,.slice none 0 0,.int .i64 0]:=hs7.set 8 (.slice Ac r.cells.length cc)
   have hs9:Blk ((((((((((w6.setCell ⟨gq,0,none⟩ (.int .i64 (nc:Int))).setCell ⟨gq,1,none⟩ (.slice Ae r.events.length ce)).setCell ⟨gq,2,none⟩ (.slice Af r.rf.length cf)).setCell ⟨gq,3,none⟩ (.slice Ao V.coi.length co)).setCell ⟨gq,4,none⟩ (.slice Am r.rmw.length cm)).setCell ⟨gq,5,none⟩ (.slice none 0 0)).setCell ⟨gq,6,none⟩ (.slice none 0 0)).setCell ⟨gq,7,none⟩ (.slice none 0 0)).setCell ⟨gq,8,none⟩ (.slice Ac r.cells.length cc)).setCell ⟨gq,9,none⟩ (.slice Au V.outi.length cu)) gq 36 #[.int .i64 (nc:Int),.slice Ae r.events.length ce,.slice Af r.rf.length cf,.slice Ao V.coi.length co,.slice Am r.rmw.length cm,.slice none 0 0,.slice none 0 0,.slice none 0 0,.slice Ac r.cells.length cc,.slice Au V.outi.length cu,.slice none 0 0,.int .i64 0]:=hs8.set 9 (.slice Au V.outi.length cu)
   have hs10:Blk (((((((((((w6.setCell ⟨gq,0,none⟩ (.int .i64 (nc:Int))).setCell ⟨gq,1,none⟩ (.slice Ae r.events.length ce)).setCell ⟨gq,2,none⟩ (.slice Af r.rf.length cf)).setCell ⟨gq,3,none⟩ (.slice Ao V.coi.length co)).setCell ⟨gq,4,none⟩ (.slice Am r.rmw.length cm)).setCell ⟨gq,5,none⟩ (.slice none 0 0)).setCell ⟨gq,6,none⟩ (.slice none 0 0)).setCell ⟨gq,7,none⟩ (.slice none 0 0)).setCell ⟨gq,8,none⟩ (.slice Ac r.cells.length cc)).setCell ⟨gq,9,none⟩ (.slice Au V.outi.length cu)).setCell ⟨gq,10,none⟩ (.slice Ah r.ths.length ch)) gq 36 #[.int .i64 (nc:Int),.slice Ae r.events.length ce,.slice Af r.rf.length cf,.slice Ao V.coi.length co,.slice Am r.rmw.length cm,.slice none 0 0,.slice none 0 0,.slice none 0 0,.slice Ac r.cells.length cc,.slice Au V.outi.length cu,.slice Ah r.ths.length ch,.int .i64 0]:=hs9.set 10 (.slice Ah r.ths.length ch)
   have hQ12:Blk ((((((((((((w6.setCell ⟨gq,0,none⟩ (.int .i64 (nc:Int))).setCell ⟨gq,1,none⟩ (.slice Ae r.events.length ce)).setCell ⟨gq,2,none⟩ (.slice Af r.rf.length cf)).setCell ⟨gq,3,none⟩ (.slice Ao V.coi.length co)).setCell ⟨gq,4,none⟩ (.slice Am r.rmw.length cm)).setCell ⟨gq,5,none⟩ (.slice none 0 0)).setCell ⟨gq,6,none⟩ (.slice none 0 0)).setCell ⟨gq,7,none⟩ (.slice none 0 0)).setCell ⟨gq,8,none⟩ (.slice Ac r.cells.length cc)).setCell ⟨gq,9,none⟩ (.slice Au V.outi.length cu)).setCell ⟨gq,10,none⟩ (.slice Ah r.ths.length ch)).setCell ⟨gq,11,none⟩ (.int .i64 (r.used:Int))) gq 36 #[.int .i64 (nc:Int),.slice Ae r.events.length ce,.slice Af r.rf.length cf,.slice Ao V.coi.length co,.slice Am r.rmw.length cm,.slice none 0 0,.slice none 0 0,.slice none 0 0,.slice Ac r.cells.length cc,.slice Au V.outi.length cu,.slice Ah r.ths.length ch,.int .i64 (r.used:Int)]:=hs10.set 11 (.int .i64 (r.used:Int))
   clear hs0 hs1 hs2 hs3 hs4 hs5 hs6 hs7 hs8 hs9 hs10
   have hqq:(fun k=>k=gq) gq:=rfl
   have hk12:KeptS (fun k=>k=gq) w6 ((((((((((((w6.setCell ⟨gq,0,none⟩ (.int .i64 (nc:Int))).setCell ⟨gq,1,none⟩ (.slice Ae r.events.length ce)).setCell ⟨gq,2,none⟩ (.slice Af r.rf.length cf)).setCell ⟨gq,3,none⟩ (.slice Ao V.coi.length co)).setCell ⟨gq,4,none⟩ (.slice Am r.rmw.length cm)).setCell ⟨gq,5,none⟩ (.slice none 0 0)).setCell ⟨gq,6,none⟩ (.slice none 0 0)).setCell ⟨gq,7,none⟩ (.slice none 0 0)).setCell ⟨gq,8,none⟩ (.slice Ac r.cells.length cc)).setCell ⟨gq,9,none⟩ (.slice Au V.outi.length cu)).setCell ⟨gq,10,none⟩ (.slice Ah r.ths.length ch)).setCell ⟨gq,11,none⟩ (.int .i64 (r.used:Int))):=(KeptS.set (g:=gq) (KeptS.set (g:=gq) (KeptS.set (g:=gq) (KeptS.set (g:=gq) (KeptS.set (g:=gq) (KeptS.set (g:=gq) (KeptS.set (g:=gq) (KeptS.set (g:=gq) (KeptS.set (g:=gq) (KeptS.set (g:=gq) (KeptS.set (g:=gq) (KeptS.set (g:=gq) (KeptS.refl (fun k=>k=gq) w6) hqq 0 _) hqq 1 _) hqq 2 _) hqq 3 _) hqq 4 _) hqq 5 _) hqq 6 _) hqq 7 _) hqq 8 _) hqq 9 _) hqq 10 _) hqq 11 _)
   have HR:=hR5.elsewhere hX.toMkM hnq2 hk12 ⟨_,_,hQ5,by show ¬TA _;unfold TA;decide⟩
   have hown12:=own_stays hown5 (fun k hk=>hk12.2.2.2.2 k (OwnR.own_lt hown5 hk) (fun e=>OwnR.own_type hown5 hQ5 (by decide) (by rw[hk,e])))
   have hm12:Moves who who2 w ((((((((((((w6.setCell ⟨gq,0,none⟩ (.int .i64 (nc:Int))).setCell ⟨gq,1,none⟩ (.slice Ae r.events.length ce)).setCell ⟨gq,2,none⟩ (.slice Af r.rf.length cf)).setCell ⟨gq,3,none⟩ (.slice Ao V.coi.length co)).setCell ⟨gq,4,none⟩ (.slice Am r.rmw.length cm)).setCell ⟨gq,5,none⟩ (.slice none 0 0)).setCell ⟨gq,6,none⟩ (.slice none 0 0)).setCell ⟨gq,7,none⟩ (.slice none 0 0)).setCell ⟨gq,8,none⟩ (.slice Ac r.cells.length cc)).setCell ⟨gq,9,none⟩ (.slice Au V.outi.length cu)).setCell ⟨gq,10,none⟩ (.slice Ah r.ths.length ch)).setCell ⟨gq,11,none⟩ (.int .i64 (r.used:Int))):=(Moves.setNew (g:=gq) (Moves.setNew (g:=gq) (Moves.setNew (g:=gq) (Moves.setNew (g:=gq) (Moves.setNew (g:=gq) (Moves.setNew (g:=gq) (Moves.setNew (g:=gq) (Moves.setNew (g:=gq) (Moves.setNew (g:=gq) (Moves.setNew (g:=gq) (Moves.setNew (g:=gq) (Moves.setNew (g:=gq) hm5 hgqw 0 _) hgqw 1 _) hgqw 2 _) hgqw 3 _) hgqw 4 _) hgqw 5 _) hgqw 6 _) hgqw 7 _) hgqw 8 _) hgqw 9 _) hgqw 10 _) hgqw 11 _)
   rw[rounds_succ]
   go_wp2_with fail
   generalize ((((((((((((w6.setCell ⟨gq,0,none⟩ (.int .i64 (nc:Int))).setCell ⟨gq,1,none⟩ (.slice Ae r.events.length ce)).setCell ⟨gq,2,none⟩ (.slice Af r.rf.length cf)).setCell ⟨gq,3,none⟩ (.slice Ao V.coi.length co)).setCell ⟨gq,4,none⟩ (.slice Am r.rmw.length cm)).setCell ⟨gq,5,none⟩ (.slice none 0 0)).setCell ⟨gq,6,none⟩ (.slice none 0 0)).setCell ⟨gq,7,none⟩ (.slice none 0 0)).setCell ⟨gq,8,none⟩ (.slice Ac r.cells.length cc)).setCell ⟨gq,9,none⟩ (.slice Au V.outi.length cu)).setCell ⟨gq,10,none⟩ (.slice Ah r.ths.length ch)).setCell ⟨gq,11,none⟩ (.int .i64 (r.used:Int)))=w12 at *
   clear kf
   obtain⟨z0,z1,z2,z3,z4,z5,z6,z7,z8,z9,z10,z11⟩:=Kit.cells12 hQ12
   refine bodyPost_ret (v:=.agg #[.int .i64 (nc:Int),.slice Ae r.events.length ce,.slice Af r.rf.length cf,.slice Ao V.coi.length co,.slice Am r.rmw.length cm,.slice none 0 0,.slice none 0 0,.slice none 0 0,.slice Ac r.cells.length cc,.slice Au V.outi.length cu,.slice Ah r.ths.length ch,.int .i64 (r.used:Int)]) (by simp[results,Tryz.results23,go_sem,z0,z1,z2,z3,z4,z5,z6,z7,z8,z9,z10,z11]) rfl ?_
   refine⟨who2,ths,.slice Ah r.ths.length ch,d,?_,HR,hpd,hsd,hm12,hlen,hown12,hnv⟩
   rw[HPV.out]
end
end Go.Proofs.YtmjilfamjlnigaaGreat.RunW
