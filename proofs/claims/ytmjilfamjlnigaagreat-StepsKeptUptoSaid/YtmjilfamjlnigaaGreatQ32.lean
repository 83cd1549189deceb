/- WALKS: a program's run. -/
import Derived.Test.YtmjilfamjlnigaaGreatQ25
import Derived.Test.YtmjilfamjlnigaaGreatQ29
import Derived.Test.YtmjilfamjlnigaaGreatQ30
import Derived.Test.YtmjilfamjlnigaaGreatQ31
import Derived.Test.YtmjilfamjlnigaaGreatQ13
import Derived.Shelf.SlSortCmp.KitK
import Derived.Shelf.SlSortCmp.NoneTotal
import Derived.Ground.SlsfProg
import Derived.Test.YtmjilfamjlnigaaGreatProg
import Derived.Test.YtmjilfamjlnigaaGreatQ05
import Derived.Test.YtmjilfamjlnigaaGreatQ23
namespace Go.Proofs.YtmjilfamjlnigaaGreat.RunW
open Go Go.RowKit Kit SrcP SrcW MchW OwnR
def ProgV (p:SrcP.Prog):Prop:=∀th∈p.threads,∀a∈th.acts,(∀x∈a.index,x.val<M64)∧(∀x∈a.e,x.val<M64)∧(∀x∈a.f,x.val<M64)
theorem newM_ok {nc:Nat} {th:SrcP.Thread} (h:threadOk (nc:Int) th=true) (hv:∀a∈th.acts,(∀x∈a.index,x.val<M64)∧(∀x∈a.e,x.val<M64)∧(∀x∈a.f,x.val<M64)):MchOk nc th.locals.toNat (newM th):=by
 simp only[threadOk,Bool.and_eq_true,decide_eq_true_eq,List.all_eq_true]at h
 obtain⟨⟨h1,h2,h3⟩,h4⟩:=h
 have e:((th.locals.toNat:Nat):Int)=th.locals:=by omega
 refine⟨⟨by omega,by simp[newM],fun x hx=>?_,Nat.zero_le _,h3,fun a ha=>⟨by rw[e];exact h4 a ha,(hv a ha).1,(hv a ha).2.1,(hv a ha).2.2⟩,by show 0<M64;decide,by show 0<M64;decide,fun h=>(by cases h)⟩,fun h=>(by cases h)⟩
 simp only[newM,List.mem_replicate]at hx
 rw[hx.2]
 decide
def SrcPost (p:SrcP.Prog) (picks:List Int) (fuel:Int) (lse:Bool) (w:World) (e:Ending) (w':World):Prop :=
 Below w.heap.size w w'∧match sourceS p picks fuel lse with
  | .error n=>∃v,e=.returned (.tuple #[v,.int .i64 (n:Int)])
  | .ok r=>∃base gr who V,e=.returned (.tuple #[.pointer (some ⟨gr,0,none⟩),.int .i64 0])∧w.heap.size≤base∧RunW (srcX p.cells.toNat) (srcK lse) base gr p.cells.toNat w' who V r∧RnOk p.cells.toNat r
def SrRel (p:SrcP.Prog) (vt:Value) (lse:Bool) (base gr:Nat) (w:World) (mm:Nat) (s31:Value) (wr:World):Prop :=
 ∃(t:Nat) (who':Nat→Option Pt) (V':RV),s31=.int .i64 t∧t≤p.threads.length∧mm=p.threads.length-t ∧
  RunW (srcX p.cells.toNat) (srcK lse) base gr p.cells.toNat wr who' V' ((srcK lse).start p.cells.toNat ((p.threads.take t).map newM))∧Below w.heap.size w wr∧Blk wr w.heap.size 24 #[.int .i64 p.cells,vt]
def outR (P:Rn Mch × Bool):Except Nat (Rn Mch):=match P with
 |(_,true)=>.error 2
 |(r,false)=>.ok r
theorem source_play {p:SrcP.Prog} {picks:List Int} {fuel:Int} {lse:Bool} (hf:0≤fuel) (hw:wholeP p=true):sourceS p picks fuel lse=outR ((srcK lse).play fuel picks ((srcK lse).start p.cells.toNat (p.threads.map newM))):=by
 unfold sourceS
 rw[if_neg (fun hh=>by
  rcases hh with h1 | h1
  ·omega
  ·rw[hw]at h1;cases h1)]
 unfold Kd.run
 cases (srcK lse).play fuel picks ((srcK lse).start p.cells.toNat (p.threads.map newM))with
 | mk r b=>cases b <;> rfl
set_option maxRecDepth 100000 in
set_option maxHeartbeats 0 in
theorem source_any (p:SrcP.Prog) (hv:ProgV p) (vt:Value) (hlen:p.threads.length≤1048576) (picks:List Int) (hpl:picks.length≤4194304) (fuel:Int) (hfu:fuel≤4194304) (lse:Bool) (w:World) (h:ThreadsAt w vt p.threads)
  (A:Option Addr) (cA:Nat) (hI:IntsAt w A picks) (hA:∀ad,A=some ad→ad.block<w.heap.size) :
  Calls Tryz.prog 22 #[.agg #[.int .i64 p.cells,vt],.slice A picks.length cA,.int .i64 fuel,.bool lse] w fun e w'=>SrcPost p picks fuel lse w e w':=by
 have HT:=Lib.hid h
 obtain⟨B,cB,rfl,_⟩:=h
 have HW:∀w2,Below w.heap.size w w2→Hid (Calls Tryz.prog 40 #[.agg #[.int .i64 p.cells,.slice B p.threads.length cB]] w2 fun r w'=>r=.returned (.bool (wholeP p))∧Below w2.heap.size w2 w') :=
  fun w2 hb=>Lib.hid (Whole_any p _ hlen w2 (HT.out.below hb))
 go_enter Tryz.func22,Tryz.ntmps22
 go_upto_region 1 with fail
 obtain⟨w0,hw0⟩:∃x,x=w.alloc (.cells #[.int .i64 p.cells,.slice B p.threads.length cB] 24):=⟨_,rfl⟩
 have hb0:Below w.heap.size w w0:=by rw[hw0];exact Kit.bl1
 have hP0:Blk w0 w.heap.size 24 #[.int .i64 p.cells,.slice B p.threads.length cB]:=by rw[hw0];exact Blk.new _ _ _
 rw[←hw0]
 clear hw0
 have k0:w0.cell? ⟨w.heap.size,0,none⟩=some (.int .i64 p.cells):=hP0.cell 0
 have k1:w0.cell? ⟨w.heap.size,1,none⟩=some (.slice B p.threads.length cB):=hP0.cell 1
 have HW0:=HW w0 hb0
 by_cases hf:fuel<0
 ·have HE:Hid (sourceS p picks fuel lse=.error 1):=Lib.hid (if_pos (.inl hf))
  go_wp2_with fail
  refine bodyPost_ret (v:=.tuple #[.pointer none,.int .i64 1]) (by simp[results,Tryz.results22,go_sem]) rfl ?_
  exact⟨hb0,by rw[HE.out];exact⟨_,rfl⟩⟩
 cases hwh:wholeP p with
 | false =>
  have HE:Hid (sourceS p picks fuel lse=.error 1):=Lib.hid (if_pos (.inr hwh))
  rw[hwh]at HW0
  go_wp2_with (go_at_call 40;refine HW0.out.mono ?_;rintro e w1 ⟨rfl,hb1⟩)
  refine bodyPost_ret (v:=.tuple #[.pointer none,.int .i64 1]) (by simp[results,Tryz.results22,go_sem]) rfl ?_
  exact⟨Kit.Below.then hb0 hb1,by rw[HE.out];exact⟨_,rfl⟩⟩
 | true =>
  rw[hwh]at HW0
  go_upto_region 3 with (go_at_call 40;refine HW0.out.mono ?_;rintro e w1 ⟨rfl,hb1⟩)
  clear k0 k1 HW0
  have hwp:=hwh
  simp only[wholeP,Bool.and_eq_true,decide_eq_true_eq,List.all_eq_true]at hwp
  obtain⟨⟨hc0,hc1,hnt⟩,hthr⟩:=hwp
  obtain⟨nc,hnc⟩:=Int.eq_ofNat_of_zero_le hc0
  have hncn:p.cells.toNat=nc:=by omega
  have hnc4:nc≤4096:=by omega
  have hP1:=hP0.below' hb1
  have hbw1:=Kit.Below.then hb0 hb1
  have k0:w1.cell? ⟨w.heap.size,0,none⟩=some (.int .i64 (nc:Int)):=by rw[hP1.cell 0,←hnc];rfl
  have HBG:Hid (Calls Tryz.prog 34 #[.bool false,.int .i64 (nc:Int)] w1 fun e w'=>BegPost (srcX nc) (srcK false) nc w1 e w'):=Lib.hid (begin_any (srcM nc) (srcK false) rfl nc hnc4 w1)
  have HNC:=Lib.hid hnc
  clear hnc
  go_upto_region 4 with (go_at_call 34;refine HBG.out.mono ?_;rintro e w2 ⟨gr,who2,V2,rfl,hR2,hb2⟩)
  clear k0 HBG
  have hB2:=hR2.run.2
  have kf:=fun i=>hB2.frozen i
  have k1':w2.cell? ⟨gr,1,none⟩=some (.bool false):=hB2.cell 1
  have hgb:=(hR2.lt gr _ hR2.run.1).1
  go_upto_region 5 with fail
  obtain⟨hR3,hm3⟩:=hR2.lse (srcM nc) (K':=srcK lse) rfl
  have hb3:Below w1.heap.size w1 (w2.setCell ⟨gr,1,none⟩ (.bool lse)):=Kit.Below.setN hb2 hgb (.bool lse)
  replace hR3:RunW (srcX nc) (srcK lse) w1.heap.size gr nc (w2.setCell ⟨gr,1,none⟩ (.bool lse)) who2 V2 ((srcK lse).beginR nc):=hR3
  replace hb3:Below w1.heap.size w1 (w2.setCell ⟨gr,1,none⟩ (.bool lse)):=hb3
  generalize w2.setCell ⟨gr,1,none⟩ (.bool lse)=w3 at *
  have hP3:=hP1.below' hb3
  have hbw3:=Kit.Below.then hbw1 hb3
  have hbase:=hbw1.size
  have hbase1:=hP1.lt
  generalize w1.heap.size=base at *
  clear kf k1' hR2 hm3 hb2 hB2 hb0 hb1 hP0 hP1 hbw1 hb3
  have k1:w3.cell? ⟨w.heap.size,1,none⟩=some (.slice B p.threads.length cB):=hP3.cell 1
  have HWH:=Lib.hid hwh
  have HTH:=Lib.hid hthr
  clear hwh hthr
  go_upto_region 6 with fail
  go_loopg [31] p.threads.length (fun mm s31 wr=>SrRel p (.slice B p.threads.length cB) lse base gr w mm s31 wr)
  case atStart=>exact⟨0,_,_,rfl,Nat.zero_le _,rfl,by rw[hncn];exact hR3,hbw3,hP3⟩
  case round =>
   obtain⟨t,who4,V4,rfl,ht,hmm,hR4,hb4,hP4⟩:=hrel
   rw[hncn]at hR4
   have HM:=Lib.hid hmm
   clear hmm k1 hP3 hbw3 hR3
   have hstl:((srcK lse).start nc ((p.threads.take t).map newM)).ths.length=t∧((srcK lse).start nc ((p.threads.take t).map newM)).outs.length=t:=by
    rw[Kd.start_eq]
    simp
    omega
   by_cases hke:t<p.threads.length
   ·have q1:(t:Int)<(p.threads.length:Int):=by omega
    obtain⟨th,hth⟩:∃th,p.threads[t]?=some th:=⟨_,Kit.eG hke⟩
    have hmem:=List.mem_of_getElem? hth
    have HNW:=Lib.hid (NewW.New_any p (.slice B p.threads.length cB) hlen t th hth HWH.out wr (HT.out.below hb4))
    have k0:wr.cell? ⟨w.heap.size,0,none⟩=some (.int .i64 p.cells):=hP4.cell 0
    have k1:wr.cell? ⟨w.heap.size,1,none⟩=some (.slice B p.threads.length cB):=hP4.cell 1
    have HTK:Hid ((p.threads.take (t+1)).map newM=(p.threads.take t).map newM++[newM th]):=Lib.hid (by rw[List.take_add_one,hth];simp)
    have hok0:=newM_ok (nc:=nc) (by rw[←HNC.out];exact HTH.out th hmem) (hv th hmem)
    clear hmem hth
    go_upto_region 9 with (go_at_call 41;refine HNW.out.mono ?_;rintro e w5 ⟨g,gl,va,rfl,hM,hg1,hg2,hb5⟩)
    clear k0 k1 HNW
    obtain⟨hR5,hm5⟩:=hR4.below' (srcM nc) hb5
    have hbr:=RunW.base_le hR4
    have HAD:Hid (Calls Tryz.prog 36 #[.pointer (some ⟨gr,0,none⟩),.iface 118 (.pointer (some ⟨g,0,none⟩))] w5 fun e w'=>AddPost (srcX nc) (srcK lse) base gr nc w5 (((srcK lse).start nc ((p.threads.take t).map newM)).add (newM th)) e w') :=
     Lib.hid (add_any (srcM nc) hR5 (by omega) (by omega) (m:=newM th) (gm:=g) (S0:=fun k=>k=g∨k=gl) (fun k hk=>by
      rcases hk with rfl | rfl
      ·exact⟨hR4.noOne hg1,by omega,hM.blk.lt⟩
      ·exact⟨hR4.noOne hg2,by omega,hM.loc.lt⟩) ⟨gl,th.locals,va,th.locals.toNat,hM,hok0,fun k=>Iff.rfl⟩)
    have hP5:=hP4.below' hb5
    have hb45:=Kit.Below.then hb4 hb5
    clear hok0 hg1 hg2 hR4 hm5 hb5 hP4 hb4
    go_upto_region 12 with (go_at_call 36;refine HAD.out.mono ?_;rintro e w6 ⟨rfl,who6,V6,hR6,hb6⟩)
    rw[←Kd.start_snoc,←HTK.out]at hR6
    have hP6:Blk w6 w.heap.size 24 #[.int .i64 p.cells,.slice B p.threads.length cB]:=(hb6.block _ hbase1).trans hP5
    have hb46:=hb45.trans (hb6.mono (by omega))
    clear HAD hR5 HTK hM
    go_wp2_with fail
    go_roundg (p.threads.length-(t+1))
    case measure=>have:=HM.out;omega
    case rel=>exact⟨t+1,who6,V6,by push_cast;rfl,hke,rfl,by rw[hncn];exact hR6,hb46,hP6⟩
   ·obtain rfl:t=p.threads.length:=by omega
    rw[List.take_length]at hR4 hstl
    have hbr:=RunW.base_le hR4
    have hIr:IntsAt wr A picks:=fun i q hq=>by
     obtain⟨ad,hA1,hc⟩:=hI i q hq
     refine⟨ad,hA1,?_⟩
     have hb':(ad.add i).block=ad.block:=by unfold Addr.add;split <;> rfl
     rw[World.cell?_of_block (w:=w) (hb4.block _ (by rw[hb'];exact hA ad hA1))]
     exact hc
    have HPY:=Lib.hid (play_any (srcC nc hnc4 lse) hR4 (RnOk.start _ _ _) (by rw[Kd.start_eq];exact Nat.zero_le _) (by omega) picks fuel hfu hpl A cA hIr (fun ad hA1=>by
     cases hw:who4 ad.block with
     | none=>rfl
     | some pt=>have h1:=(hR4.lt _ _ hw).1;have h2:=hA ad hA1;omega))
    unfold ptrV at HPY
    clear hIr hI
    obtain⟨P,hP⟩:∃P,P=(srcK lse).play fuel picks ((srcK lse).start nc (p.threads.map newM)):=⟨_,rfl⟩
    rw[←hP]at HPY
    have HSO:Hid (sourceS p picks fuel lse=outR P):=Lib.hid (by rw[hP,←hncn];exact source_play (by omega) HWH.out)
    clear hP
    rcases P with⟨r,b⟩
    cases b with
    | true =>
     go_wp2_with (go_at_call 37;refine HPY.out.mono ?_;rintro e w7 ⟨he,hst,hokr⟩;obtain rfl:e=.returned (.int .i64 2):=he)
     refine bodyPost_ret (v:=.tuple #[.pointer (some ⟨gr,0,none⟩),.int .i64 2]) (by simp[results,Tryz.results22,go_sem]) rfl ?_
     obtain⟨who7,V7,hR7,hm7,_,_⟩:=hst
     refine⟨hb4.trans ((hm7.belowBase hR4 hbr).mono hbase),?_⟩
     rw[HSO.out]
     exact⟨_,rfl⟩
    | false =>
     go_wp2_with (go_at_call 37;refine HPY.out.mono ?_;rintro e w7 ⟨he,hst,hokr⟩;obtain rfl:e=.returned (.int .i64 0):=he)
     refine bodyPost_ret (v:=.tuple #[.pointer (some ⟨gr,0,none⟩),.int .i64 0]) (by simp[results,Tryz.results22,go_sem]) rfl ?_
     obtain⟨who7,V7,hR7,hm7,_,_⟩:=hst
     refine⟨hb4.trans ((hm7.belowBase hR4 hbr).mono hbase),?_⟩
     rw[HSO.out]
     exact⟨base,gr,who7,V7,rfl,hbase,by rw[hncn];exact hR7,by rw[hncn];exact hokr⟩
end Go.Proofs.YtmjilfamjlnigaaGreat.RunW
namespace Go.Proofs.YtmjilfamjlnigaaGreat.RunW
open Go Go.RowKit Kit
def cmpI (x y:Int):Int:=if x<y then -1 else if y<x then 1 else 0
theorem isNaN_any (x:Int) (w:World):Calls Tryz.prog 68 #[.int .i64 x] w fun e w'=>e=.returned (.bool false)∧w'=w:=by
 go_enter Tryz.func68,Tryz.ntmps68
 go_wp2_with fail
 go_ret
 exact⟨by simp,rfl⟩
theorem compare_any (x y:Int) (w:World):Calls Tryz.prog 47 #[.int .i64 x,.int .i64 y] w fun e w'=>e=.returned (.int .i64 (cmpI x y))∧w'=w:=by
 have H1:=fun w=>Lib.hid (isNaN_any x w)
 have H2:=fun w=>Lib.hid (isNaN_any y w)
 by_cases h1:x<y
 ·have e:Hid (cmpI x y = -1):=Lib.hid (if_pos h1)
  go_enter Tryz.func47,Tryz.ntmps47
  go_upto_region 2 with (go_at_call 68;refine(H1 _).out.mono ?_;rintro e w' ⟨rfl,rfl⟩)
  go_wp2_with (go_at_call 68;refine(H2 _).out.mono ?_;rintro e w' ⟨rfl,rfl⟩)
  go_ret
  exact⟨by rw[e.out];rfl,rfl⟩
 ·by_cases h2:y<x
  ·have e:Hid (cmpI x y=1):=Lib.hid (by unfold cmpI;rw[if_neg h1,if_pos h2])
   go_enter Tryz.func47,Tryz.ntmps47
   go_upto_region 2 with (go_at_call 68;refine(H1 _).out.mono ?_;rintro e w' ⟨rfl,rfl⟩)
   go_wp2_with (go_at_call 68;refine(H2 _).out.mono ?_;rintro e w' ⟨rfl,rfl⟩)
   go_ret
   exact⟨by rw[e.out];rfl,rfl⟩
  ·have e:Hid (cmpI x y=0):=Lib.hid (by unfold cmpI;rw[if_neg h1,if_neg h2])
   go_enter Tryz.func47,Tryz.ntmps47
   go_upto_region 2 with (go_at_call 68;refine(H1 _).out.mono ?_;rintro e w' ⟨rfl,rfl⟩)
   go_wp2_with (go_at_call 68;refine(H2 _).out.mono ?_;rintro e w' ⟨rfl,rfl⟩)
   go_ret
   exact⟨by rw[e.out];rfl,rfl⟩
def orI (a b:Int):Int:=if a≠0 then a else b
theorem or_any (a b:Int) (g:Nat) (w:World) (h:Blk w g 3 #[.int .i64 a,.int .i64 b]):Calls Tryz.prog 46 #[.slice (some ⟨g,0,none⟩) 2 2] w fun e w'=>e=.returned (.int .i64 (orI a b))∧w'=w:=by
 have k0:w.cell? ⟨g,0,none⟩=some (.int .i64 a):=h.cell 0
 have k1:w.cell? ⟨g,1,none⟩=some (.int .i64 b):=h.cell 1
 clear h
 by_cases h1:a=0
 ·subst h1
  by_cases h2:b=0
  ·subst h2
   go_enter Tryz.func46,Tryz.ntmps46
   go_wp2_with fail
   refine wp_loop_rounds 3 ?_
   rw[rounds_succ]
   go_wp2_with fail
   rw[rounds_succ]
   go_wp2_with fail
   rw[rounds_succ]
   go_wp2_with fail
   go_ret
   exact⟨rfl,rfl⟩
  ·go_enter Tryz.func46,Tryz.ntmps46
   go_wp2_with fail
   refine wp_loop_rounds 3 ?_
   rw[rounds_succ]
   go_wp2_with fail
   rw[rounds_succ]
   go_wp2_with fail
   go_ret
   exact⟨rfl,rfl⟩
 ·have e:Hid (orI a b=a):=Lib.hid (if_pos h1)
  go_enter Tryz.func46,Tryz.ntmps46
  go_wp2_with fail
  refine wp_loop_rounds 3 ?_
  rw[rounds_succ]
  go_wp2_with fail
  go_ret
  exact⟨by rw[e.out];rfl,rfl⟩
end Go.Proofs.YtmjilfamjlnigaaGreat.RunW
namespace Go.Proofs.YtmjilfamjlnigaaGreat.RunW
open Go Go.RowKit Kit Go.Lib Go.Sort
def cfP (x y:Nat × Nat):Int:=orI (cmpI x.1 y.1) (cmpI x.2 y.2)
set_option maxRecDepth 100000 in
set_option maxHeartbeats 4000000 in
theorem told1_any (x y:Nat × Nat) (W:World):Calls Tryz.prog 45 #[.agg #[.int .i64 x.1,.int .i64 x.2],.agg #[.int .i64 y.1,.int .i64 y.2]] W fun e w'=>e=.returned (.int .i64 (cfP x y))∧∃q os',w'=grow (W.drewN q) os':=by
 go_enter Tryz.func45,Tryz.ntmps45
 go_upto_region 1 with fail
 obtain⟨w0,hw0⟩:∃y',y'=(W.alloc (.cells #[.int .i64 x.1,.int .i64 x.2] 51)).alloc (.cells #[.int .i64 y.1,.int .i64 y.2] 51):=⟨_,rfl⟩
 have c1:Blk w0 W.heap.size 51 #[.int .i64 x.1,.int .i64 x.2]:=by rw[hw0];exact(Blk.new W _ _).alloc _
 have c2:Blk w0 (W.heap.size+1) 51 #[.int .i64 y.1,.int .i64 y.2]:=by rw[hw0];exact Blk.newAt (sizeA W _) _ _
 rw[←hw0]
 have HW0:=Lib.hid hw0
 clear hw0
 have k1:∀p:Cls (Below w0.heap.size w0),p.w.cell? ⟨W.heap.size,0,none⟩=some (.int .i64 x.1):=fun p=>c1.cls 0 p
 have k2:∀p:Cls (Below w0.heap.size w0),p.w.cell? ⟨W.heap.size,1,none⟩=some (.int .i64 x.2):=fun p=>c1.cls 1 p
 have k3:∀p:Cls (Below w0.heap.size w0),p.w.cell? ⟨W.heap.size+1,0,none⟩=some (.int .i64 y.1):=fun p=>c2.cls 0 p
 have k4:∀p:Cls (Below w0.heap.size w0),p.w.cell? ⟨W.heap.size+1,1,none⟩=some (.int .i64 y.2):=fun p=>c2.cls 1 p
 have HC1:=fun w=>Lib.hid (compare_any x.1 y.1 w)
 have HC2:=fun w=>Lib.hid (compare_any x.2 y.2 w)
 have hbd:Below w0.heap.size w0 (World.drewN w0 1):=Below_drewN _ 1
 have hsz:(World.drewN w0 1).heap.size=w0.heap.size:=rfl
 refine wp_region_float_at (Below w0.heap.size w0) 12 4 [0,1,2,3,5,6,7,8] [] hbd (by kernel_rfl) (by kernel_rfl) ?_
 intro hne
 simp only[pickL,List.map_cons,List.map_nil,List.getElem?_cons_succ,List.getElem?_cons_zero,Option.getD_some]
 repeat (go_big_quiet_step (fail))
 refine wpQuiet_nil ?_
 clear k1 k2 k3 k4
 obtain⟨wd,hwd⟩:∃y,y=World.drewN w0 1:=⟨_,rfl⟩
 rw[←hwd]at hbd hsz ⊢
 have HWD:=Lib.hid hwd
 have HSZ:=Lib.hid hsz
 clear hwd hsz
 refine fG (i:=4) rfl ?_
 go_wp2_with (go_at_call 47;refine(HC1 _).out.mono ?_;rintro e wa ⟨rfl,rfl⟩)
 refine Kit.oG hbd ?_
 refine fG (i:=9) rfl ?_
 go_wp2_with (go_at_call 47;refine(HC2 _).out.mono ?_;rintro e wb ⟨rfl,rfl⟩)
 refine Kit.oG hbd ?_
 refine fG (i:=10) rfl ?_
 go_wp2_with fail
 have hb2:Below w0.heap.size w0 (wb.alloc (.cells #[.int .i64 (cmpI x.1 y.1),.int .i64 (cmpI x.2 y.2)] 3)):=Kit.Below.al hbd _
 have hs2:Blk (wb.alloc (.cells #[.int .i64 (cmpI x.1 y.1),.int .i64 (cmpI x.2 y.2)] 3)) wb.heap.size 3 #[.int .i64 (cmpI x.1 y.1),.int .i64 (cmpI x.2 y.2)]:=Blk.new wb _ _
 refine Kit.oG hb2 ?_
 have HOR:=Lib.hid (or_any _ _ _ _ hs2)
 obtain⟨wc,hwc⟩:∃y',y'=wb.alloc (.cells #[.int .i64 (cmpI x.1 y.1),.int .i64 (cmpI x.2 y.2)] 3):=⟨_,rfl⟩
 rw[←hwc]at hb2 HOR ⊢
 have HWC:=Lib.hid hwc
 clear hwc hs2
 refine fG (i:=11) rfl ?_
 go_wp2_with (go_at_call 46;refine HOR.out.mono ?_;rintro e wz ⟨rfl,rfl⟩)
 refine Kit.oG hb2 ?_
 refine(show tailG _ _ _ _ _ _ _ from⟨by kernel_rfl,?_⟩)
 simp only[List.drop_succ_cons,List.drop_zero]
 go_wp2_with fail
 go_ret
 refine⟨rfl,1,#[.cells #[.int .i64 x.1,.int .i64 x.2] 51,.cells #[.int .i64 y.1,.int .i64 y.2] 51,.cells #[.int .i64 (cmpI x.1 y.1),.int .i64 (cmpI x.2 y.2)] 3],?_⟩
 rw[HWC.out,HWD.out,HW0.out]
 simp only[alloc_eq_grow,grow_grow]
 rfl
theorem cfP_lays (blk off size:Nat) (w:World):CmpLays Tryz.prog 45 #[] (fun p:Nat × Nat=>pairC p) 2 cfP blk off size w:=fun _m _os _dk _ x y=>told1_any x y _
theorem ltP (x y:Nat × Nat):ltOf cfP x y=decide (x.1<y.1∨(x.1=y.1∧x.2<y.2)):=by
 unfold ltOf cfP orI cmpI
 by_cases h1:x.1<y.1
 ·have:((x.1:Int)<(y.1:Int)):=by omega
  simp[h1,this]
 ·by_cases h2:y.1<x.1
  ·have a1:¬((x.1:Int)<(y.1:Int)):=by omega
   have a2:((y.1:Int)<(x.1:Int)):=by omega
   have a3:¬(x.1=y.1):=by omega
   simp[h1,a1,a2,a3]
  ·have a1:¬((x.1:Int)<(y.1:Int)):=by omega
   have a2:¬((y.1:Int)<(x.1:Int)):=by omega
   have a3:x.1=y.1:=by omega
   by_cases h3:x.2<y.2
   ·have a4:((x.2:Int)<(y.2:Int)):=by omega
    simp[a3,h3,a4]
   ·have a4:¬((x.2:Int)<(y.2:Int)):=by omega
    by_cases h4:y.2<x.2
    ·have a5:((y.2:Int)<(x.2:Int)):=by omega
     simp[a3,h3,a4,a5]
    ·have a5:¬((y.2:Int)<(x.2:Int)):=by omega
     simp[a3,h3,a4,a5]
theorem cfP_swo:SWO (ltOf cfP) where
 irrefl x:=by rw[ltP];simp
 trans x y z h1 h2:=by rw[ltP]at *;simp only[decide_eq_true_eq]at *;omega
 ntrans x y z h1 h2:=by rw[ltP]at *;simp only[decide_eq_false_iff_not]at *;omega
end Go.Proofs.YtmjilfamjlnigaaGreat.RunW
namespace Go.Proofs
open Go.Shelf
def Tryz.sortPairs_ren:Go.Shelf.Ren:=⟨fun | 6=>44 | 15=>67 | 14=>66 | 28=>112 | 29=>113 | 20=>104 | 21=>105 | 22=>106 | 23=>107 | 24=>108 | 25=>109 | 26=>110 | 27=>111 | 46=>150 | 47=>151 | 48=>152 | 49=>153 | 50=>154 | 57=>174 | n=>n,fun | 22=>28 | 24=>51 | 25=>137 | 3=>3 | 39=>177 | 0=>0 | 53=>116 | 55=>40 | 4=>4 | 46=>209 | 45=>208 | 50=>213 | 5=>5 | 9=>9 | 66=>259 | 70=>263 | 76=>287 | 77=>172 | n=>n,fun | n=>n⟩
theorem Tryz.sortPairs:Go.Proofs.SlLaysF0.n6 Tryz.prog Tryz.sortPairs_ren:={
 mixed:=by kernel_rfl
 f6:=⟨Tryz.f44.name,by decide,Tryz.func44.trans (congrArg some (by kernel_rfl))⟩
 f14:=⟨Tryz.f66.name,by decide,Tryz.func66.trans (congrArg some (by kernel_rfl))⟩
 f15:=Tryz.func67.trans (congrArg some (by kernel_rfl))
 f20:=⟨Tryz.f104.name,by decide,Tryz.func104.trans (congrArg some (by kernel_rfl))⟩
 f21:=⟨Tryz.f105.name,by decide,Tryz.func105.trans (congrArg some (by kernel_rfl))⟩
 f22:=⟨Tryz.f106.name,by decide,Tryz.func106.trans (congrArg some (by kernel_rfl))⟩
 f23:=⟨Tryz.f107.name,by decide,Tryz.func107.trans (congrArg some (by kernel_rfl))⟩
 f24:=⟨Tryz.f108.name,by decide,Tryz.func108.trans (congrArg some (by kernel_rfl))⟩
 f25:=⟨Tryz.f109.name,by decide,Tryz.func109.trans (congrArg some (by kernel_rfl))⟩
 f26:=⟨Tryz.f110.name,by decide,Tryz.func110.trans (congrArg some (by kernel_rfl))⟩
 f27:=⟨Tryz.f111.name,by decide,Tryz.func111.trans (congrArg some (by kernel_rfl))⟩
 f28:=Tryz.func112.trans (congrArg some (by kernel_rfl))
 f29:=Tryz.func113.trans (congrArg some (by kernel_rfl))
 f46:=⟨Tryz.f150.name,by decide,Tryz.func150.trans (congrArg some (by kernel_rfl))⟩
 f47:=Tryz.func151.trans (congrArg some (by kernel_rfl))
 f48:=Tryz.func152.trans (congrArg some (by kernel_rfl))
 f49:=⟨Tryz.f153.name,by decide,Tryz.func153.trans (congrArg some (by kernel_rfl))⟩
 f50:=⟨Tryz.f154.name,by decide,Tryz.func154.trans (congrArg some (by kernel_rfl))⟩
 f57:=⟨Tryz.f174.name,by decide,Tryz.func174.trans (congrArg some (by kernel_rfl))⟩
 t0:=Tryz.underlying0
 a0:=Tryz.isAgg0
 z0:=Tryz.sizeOf0
 v0:=Tryz.zeroValue0
 t3:=Tryz.underlying3
 a3:=Tryz.isAgg3
 z3:=Tryz.sizeOf3
 v3:=Tryz.zeroValue3
 t4:=Tryz.underlying4
 a4:=Tryz.isAgg4
 z4:=Tryz.sizeOf4
 v4:=Tryz.zeroValue4
 t5:=Tryz.underlying5
 a5:=Tryz.isAgg5
 z5:=Tryz.sizeOf5
 v5:=Tryz.zeroValue5
 t9:=Tryz.underlying9
 a9:=Tryz.isAgg9
 z9:=Tryz.sizeOf9
 v9:=Tryz.zeroValue9
 t22:=Tryz.underlying28
 a22:=Tryz.isAgg28
 z22:=Tryz.sizeOf28
 v22:=Tryz.zeroValue28
 t25:=Tryz.underlying137
 a25:=Tryz.isAgg137
 z25:=Tryz.sizeOf137
 v25:=Tryz.zeroValue137
 t39:=Tryz.underlying177
 a39:=Tryz.isAgg177
 z39:=Tryz.sizeOf177
 v39:=Tryz.zeroValue177
 t45:=Tryz.underlying208
 a45:=Tryz.isAgg208
 z45:=Tryz.sizeOf208
 v45:=Tryz.zeroValue208
 t46:=Tryz.underlying209
 a46:=Tryz.isAgg209
 z46:=Tryz.sizeOf209
 v46:=Tryz.zeroValue209
 t50:=Tryz.underlying213
 a50:=Tryz.isAgg213
 z50:=Tryz.sizeOf213
 v50:=Tryz.zeroValue213
 t53:=Tryz.underlying116
 a53:=Tryz.isAgg116
 z53:=Tryz.sizeOf116
 v53:=Tryz.zeroValue116
 t55:=Tryz.underlying40
 a55:=Tryz.isAgg40
 z55:=Tryz.sizeOf40
 v55:=Tryz.zeroValue40
 t66:=Tryz.underlying259
 a66:=Tryz.isAgg259
 z66:=Tryz.sizeOf259
 v66:=Tryz.zeroValue259
 t70:=Tryz.underlying263
 a70:=Tryz.isAgg263
 z70:=Tryz.sizeOf263
 v70:=Tryz.zeroValue263
 t76:=Tryz.underlying287
 a76:=Tryz.isAgg287
 z76:=Tryz.sizeOf287
 v76:=Tryz.zeroValue287
 t77:=Tryz.underlying172
 a77:=Tryz.isAgg172
 z77:=Tryz.sizeOf172
 v77:=Tryz.zeroValue172 }
end Go.Proofs
namespace Go.Proofs.YtmjilfamjlnigaaGreat.RunW
open Go Go.RowKit Kit SrcP MchW OwnR Go.Lib Go.Sort
abbrev encP:Nat × Nat→List Value:=fun p=>pairC p
theorem flatK_list (l:List (Nat × Nat)):(flatK encP 2 l.toArray).toList=l.flatMap pairC:=by
 apply List.ext_getElem?
 intro t
 by_cases ht:t<l.length*2
 ·have h1:t / 2<l.length:=by omega
  have h2:(l.flatMap pairC)[t]?=some ((pairC l[t / 2])[t % 2]!):=by
   have h:=NewW.flat_get pairC 2 (fun _=>rfl) l (t / 2) (t % 2) l[t / 2] (Kit.eG h1) (by omega)
   rw[show t / 2*2+t % 2=t by omega]at h
   rw[h]
   have h3:t % 2=0∨t % 2=1:=by omega
   rcases h3 with h3 | h3 <;> rw[h3] <;> rfl
  rw[h2]
  simp only[flatK,Array.getElem?_toList,Array.getElem?_map]
  rw[Array.getElem?_eq_getElem (by simpa using ht)]
  simp[h1]
 ·rw[List.getElem?_eq_none (by simp;omega),List.getElem?_eq_none (by rw[NewW.flat_len pairC 2 (fun _=>rfl)];omega)]
theorem putCells_take (F cur:Array Value) (h:F.size≤cur.size):(putCells id 0 F cur).toList.take F.size=F.toList:=by
 apply List.ext_getElem?
 intro j
 by_cases hj:j<F.size
 ·have hc:j<cur.size:=by omega
  rw[List.getElem?_take,if_pos hj]
  simp[putCells,hj,hc]
 ·rw[List.getElem?_eq_none (by simp;omega),List.getElem?_eq_none (by simpa using hj)]
def SortedP (d:List (Nat × Nat)):Prop:=d.Pairwise fun x y=>x.1<y.1∨(x.1=y.1∧x.2≤y.2)
section
variable {M:Type} {X:Mk M} {K:Kd M} {base gr nc:Nat} {w w' w1:World} {who who':Nat→Option Pt} {V V':RV} {r r':Rn M}
theorem sort_any (hX:MkM X) (h:RunW X K base gr nc w who V r) (hn:r.rmw.length≤1048576) :
  Calls Tryz.prog 44 #[V.rmw,.func (.func 45) #[] #[]] w fun e w'=>e=.returned (.tuple #[])∧∃d,d.Perm r.rmw∧SortedP d∧RunW X K base gr nc w' who V { r with rmw:=d }∧Moves who who w w':=by
 have ho:=h.own .rmw
 simp only[RV.val,rowN,rowX,rowT,rowS]at ho
 rcases Nat.eq_zero_or_pos r.rmw.length with h0 | h0
 ·obtain⟨A,c,hv,_⟩:=own_slice ho
  rw[hv,h0]
  have hc:=AnyF.slices_SortFunc_none (P:=Tryz.prog) (ρ:=Tryz.sortPairs_ren) { Tryz.sortPairs with } A c (.func (.func 45) #[] #[]) w
  refine Calls.mono (show Calls Tryz.prog 44 _ _ _ from hc) ?_
  rintro e w' ⟨rfl,rfl⟩
  have hnil:r.rmw = []:=List.length_eq_zero_iff.1 h0
  exact⟨rfl,r.rmw,List.Perm.refl _,by rw[hnil];exact List.Pairwise.nil,h,Moves.refl who w'⟩
 ·obtain⟨hlen,ho2⟩:=ho
  rcases ho2 with⟨_,h1⟩ | ⟨g,cap,cur,hv,hgb,hheap,hcap,hmax,hsz,hcur⟩
  ·omega
  ·have hk:(V.val .rmw).ownBlock=some g:=by show V.rmw.ownBlock=_;rw[hv];rfl
   have hwg:=h.ownW .rmw g hk
   have hgl:g<w.heap.size:=(h.lt g _ hwg).2
   have hH:HoldsK encP 2 w g 0 r.rmw.toArray:=fun j hj=>by
    have hj2:j<r.rmw.length*2:=by simpa using hj
    have hjc:j<cur.size:=by rw[hsz];have:=Nat.mul_le_mul_right 2 hcap;omega
    have e1:(flatK encP 2 r.rmw.toArray)[j]! = cur[j]:=by
     have e2:(flatK encP 2 r.rmw.toArray).toList[j]?=some cur[j]:=by
      rw[flatK_list,←hcur,List.getElem?_take,if_pos hj2,Array.getElem?_toList,Array.getElem?_eq_getElem hjc]
     rw[Array.getElem?_toList]at e2
     simp[Array.getElem!_eq_getD,Array.getD_eq_getD_getElem?,e2]
    rw[Nat.zero_add]
    exact⟨by rw[World.cell?,hheap];simp[e1,hjc],by rw[World.frozen?,hheap];rfl⟩
   have hc:=AnyQ.slices_SortFunc (P:=Tryz.prog) (ρ:=Tryz.sortPairs_ren) Tryz.sortPairs 2 Tryz.isAgg51 Tryz.sizeOf51 encP (fun _=>rfl) pairC_one cfP cfP_swo 45 #[] g 0 cap r.rmw.toArray w (fun args w=>callFunc_enter Tryz.func45 (by kernel_rfl) (by kernel_rfl) args w) (cfP_lays g 0 _ w) hH hgl (by simp;omega)
   rw[hv]
   rw[List.size_toArray]at hc
   refine Calls.mono (show Calls Tryz.prog 44 _ _ _ from hc) ?_
   rintro e w' ⟨rfl,d',n,os,hp,hso,rfl⟩
   have hd:d'.size=r.rmw.length:=by rw[hp.1];simp
   have hflat:(flatK encP 2 d').toList=d'.toList.flatMap pairC:=by have:=flatK_list d'.toList;rwa [Array.toArray_toList]at this
   have hfs:(flatK encP 2 d').size=r.rmw.length*2:=by rw[size_flatK,hd]
   have hcs:r.rmw.length*2≤cur.size:=by rw[hsz];exact Nat.mul_le_mul_right 2 hcap
   have hsize:w.heap.size≤(sortWorldK encP 2 w g 0 n d' os).heap.size:=by
    unfold sortWorldK
    rw[size_grow]
    have:(putRowK encP 2 (Sort.ahead w n) g 0 d').heap.size=w.heap.size:=by simp[putRowK,putRow,mapBlock,Sort.ahead]
    omega
   have hne:∀k,k<w.heap.size→k≠g→(sortWorldK encP 2 w g 0 n d' os).heap[k]?=w.heap[k]?:=fun k hk hkg=>by
    unfold sortWorldK
    rw[heap_grow_old _ _ (show k<(w.heap.modify g _).size by simpa using hk)]
    show(w.heap.modify g _)[k]?=_
    rw[Array.getElem?_modify,if_neg (Ne.symm hkg)]
   have hgg:(sortWorldK encP 2 w g 0 n d' os).heap[g]?=some (.cells (putCells id 0 (flatK encP 2 d') cur) 51 (0,0)):=by
    unfold sortWorldK
    rw[heap_grow_old _ _ (show g<(w.heap.modify g _).size by simpa using hgl)]
    show(w.heap.modify g _)[g]?=_
    rw[Array.getElem?_modify,if_pos rfl,hheap]
    rfl
   have htake:(putCells id 0 (flatK encP 2 d') cur).toList.take (r.rmw.length*2)=d'.toList.flatMap pairC:=by
    rw[←hflat,←hfs]
    exact putCells_take _ _ (by rw[hfs];exact hcs)
   have hKP:KeptS (fun k=>k=g) w (sortWorldK encP 2 w g 0 n d' os):=⟨rfl,rfl,rfl,hsize,fun k hk hk2=>hne k hk hk2⟩
   generalize sortWorldK encP 2 w g 0 n d' os=w' at *
   have hlen2:d'.toList.length=r.rmw.length:=by rw[Array.length_toList];exact hd
   refine⟨rfl,d'.toList,?_,?_,?_,hKP.mono (fun k hk=>by rw[hk,hwg];exact fun e=>by cases e),fun _ h=>.inl h⟩
   ·have h2:=hp.2.2
    have e1:d'.extract 0 r.rmw.length=d':=by rw[←hd];simp
    have e2:r.rmw.toArray.extract 0 r.rmw.length=r.rmw.toArray:=by simp
    rw[e1,e2]at h2
    exact h2
   ·unfold SortedP
    rw[List.pairwise_iff_getElem]
    intro i j hi hj hij
    have h2:=hso i j (Nat.zero_le _) hij (by rw[←hlen2];exact hj)
    rw[ltP]at h2
    have e1:d'[i]! = d'.toList[i]:=by rw[getElem!_pos d' i (by simpa using hi)];simp
    have e2:d'[j]! = d'.toList[j]:=by rw[getElem!_pos d' j (by simpa using hj)];simp
    rw[e1,e2]at h2
    simp only[decide_eq_false_iff_not]at h2
    omega
   ·refine h.turn hX (fun p=>p=.row .rmw) (fun k p hk2 hnp=>hne k (h.lt2 k p hk2) (fun e=>hnp (by rw[e,hwg]at hk2;injection hk2 with hk2;exact hk2.symm))) hsize ?_ (fun _ _ _=>Iff.rfl) ?_ ?_ ?_ h.gtl h.gml h.numl h.outl h.col
    ·intro k cs t fr hb ht
     have hkl:k<w.heap.size:=by
      rcases Nat.lt_or_ge k w.heap.size with h1 | h1
      ·exact h1
      ·rw[Array.getElem?_eq_none h1]at hb;cases hb
     rw[hne k hkl (fun e=>by
      rw[e,hheap]at hb
      injection hb with hb
      injection hb with _ hb _
      rw[←hb]at ht
      exact hX.rows .rmw ht)]
     exact hb
    ·intro p hnp
     cases p with
     | run=>rfl
     | th u=>exact⟨⟨rfl,rfl,rfl⟩,rfl⟩
     | mach u=>exact⟨rfl,rfl⟩
     | row q=>cases q <;> first | exact absurd rfl hnp | exact⟨rfl,rfl,rfl⟩
    ·rintro p rfl
     refine⟨⟨?_,.inr ⟨g,cap,putCells id 0 (flatK encP 2 d') cur,?_,hgb,hgg,?_,hmax,?_,?_⟩⟩,fun k hk2=>h.ownW .rmw k hk2⟩
     ·simp only[rowX,rowN,rowS]
      rw[←hflat,Array.length_toList,hfs,hlen2]
     ·simp only[RV.val,rowN,hlen2];exact hv
     ·simp only[rowN,hlen2];exact hcap
     ·simp only[rowS];rw[←hsz];simp[putCells]
     ·simp only[rowN,rowS,rowX,hlen2];exact htake
    ·rintro k p rfl hk2
     exact⟨(h.lt k _ hk2).1,Nat.lt_of_lt_of_le (h.lt k _ hk2).2 hsize⟩
end
end Go.Proofs.YtmjilfamjlnigaaGreat.RunW
