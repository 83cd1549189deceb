/- WALKS: the document's own run of a program, as the program's own run tells (chapter 19). -/
import Derived.Test.YtmjilfamjlnigaaGreatQ48
import Derived.Test.YtmjilfamjlnigaaGreatQ41
import Derived.Test.YtmjilfamjlnigaaGreatQ37
import Derived.Test.YtmjilfamjlnigaaGreatQ43
import Derived.Test.YtmjilfamjlnigaaGreatQ39
import Derived.Test.YtmjilfamjlnigaaGreatQ36
namespace Go.Proofs.YtmjilfamjlnigaaGreat.RefW
open Go Go.RowKit Kit SrcP SrcW Go.Proofs.YtmjilfamjlnigaaGreat.MchW
abbrev S3:=Option Addr × Nat × Nat
theorem refS_split {p:SrcP.Prog} {picks:List Int} {fuel:Int} (hf:0≤fuel) (hw:wholeP p=true):refS p picks fuel=match (RR.start p.cells.toNat p.threads).play p.cells.toNat fuel picks with
  |(_,true)=>.error 2
  |(r,false)=>.ok r:=by
 unfold refS
 rw[if_neg (by rw[hw];simp;omega)]
 cases (RR.start p.cells.toNat p.threads).play p.cells.toNat fuel picks with
 | mk r b=>cases b <;> rfl
theorem Source_ok (p:SrcP.Prog) (hv:RunW.ProgV p) (vt:Value) (fuel:Int) (hf0:0≤fuel) (hfu:fuel≤1000) (picks:List Int) (A:Option Addr) (cA:Nat) (hpl:picks.length≤4194304) (w:World) (h:ThreadsAt w vt p.threads) (hI:RunW.IntsAt w A picks) (hA:∀ad,A=some ad→ad.block<w.heap.size)
  {x:Rn Mch} {lg pk:List Nat} (hR:RunW.RefOk p picks fuel x lg pk) :
  Calls Tryz.prog 11 #[.agg #[.int .i64 p.cells,vt],.slice A picks.length cA,.int .i64 fuel] w fun e w'=>∃V who,e=.returned (.tuple #[.agg (runD p.cells.toNat V (RR.of x lg pk)),.int .i64 0])∧Below w.heap.size w w'∧RunAt mzL w p.cells.toNat w' who V (RR.of x lg pk):=by
 have hw:wholeP p=true:=by
  cases hw:wholeP p with
  | true=>rfl
  | false =>
   have h1:=hR.eq
   unfold refS at h1
   rw[if_pos (.inr hw)]at h1
   cases h1
 have h2:=hR.eq
 rw[refS_split hf0 hw]at h2
 have h3:=Source_run p hv hw vt fuel hf0 hfu picks A cA hpl w h hI hA
 cases hp:(RR.start p.cells.toNat p.threads).play p.cells.toNat fuel picks with
 | mk r b =>
  rw[hp]at h2 h3
  cases b with
  | true=>cases h2
  | false =>
   injection h2 with h2
   subst h2
   exact h3.mono fun e w' ⟨V,he,hb,who,hr⟩=>⟨V,who,he,hb,hr⟩
theorem Source_err (p:SrcP.Prog) (hv:RunW.ProgV p) (vt:Value) (hlen:p.threads.length≤1048576) (fuel:Int) (hf0:0≤fuel) (hfu:fuel≤1000) (picks:List Int) (A:Option Addr) (cA:Nat) (hpl:picks.length≤4194304) (w:World) (h:ThreadsAt w vt p.threads) (hI:RunW.IntsAt w A picks) (hA:∀ad,A=some ad→ad.block<w.heap.size)
  {n:Nat} (hR:refS p picks fuel=.error n) :
  Calls Tryz.prog 11 #[.agg #[.int .i64 p.cells,vt],.slice A picks.length cA,.int .i64 fuel] w fun e w'=>∃(c u:Int) (s1 s2 s3 s4 s5 s6 s7:S3),e=.returned (.tuple #[.agg #[.bool false,.int .i64 c,.slice s1.1 s1.2.1 s1.2.2,.slice s2.1 s2.2.1 s2.2.2,.slice s3.1 s3.2.1 s3.2.2,.slice s4.1 s4.2.1 s4.2.2,.slice s5.1 s5.2.1 s5.2.2,.slice s6.1 s6.2.1 s6.2.2,.slice s7.1 s7.2.1 s7.2.2,.int .i64 u],.int .i64 (n:Int)])∧Below w.heap.size w w':=by
 by_cases hw:wholeP p=true
 ·rw[refS_split hf0 hw]at hR
  have h3:=Source_run p hv hw vt fuel hf0 hfu picks A cA hpl w h hI hA
  cases hp:(RR.start p.cells.toNat p.threads).play p.cells.toNat fuel picks with
  | mk r b =>
   rw[hp]at hR h3
   cases b with
   | false=>cases hR
   | true =>
    injection hR with hR
    subst hR
    refine h3.mono fun e w' ⟨V,he,hb,who,hr⟩=>?_
    obtain⟨aT,cT,ae,ce,af,cf,am,cm,ao,co,al,cl,ap,cp,hvT,hve,hvf,hvm,hvo,hvl,hvp⟩:=hr.slices
    refine⟨p.cells.toNat,r.used,(aT,V.tcs.length,cT),(ae,r.events.length,ce),(af,r.rf.length,cf),(am,r.rmw.length,cm),(ao,V.vo.length,co),(al,r.log.length,cl),(ap,r.picks.length,cp),?_,hb⟩
    rw[he]
    unfold runD
    rw[hvT,hve,hvf,hvm,hvo,hvl,hvp]
    rfl
 ·have hw':wholeP p=false:=by simpa using hw
  have h1:refS p picks fuel=.error 1:=by unfold refS;rw[if_pos (.inr hw')]
  rw[h1]at hR
  injection hR with hR
  subst hR
  exact(Source_bad p vt hlen fuel (.inr hw') w h A picks.length cA).mono fun e w' ⟨he,hb⟩=>⟨0,0,(none,0,0),(none,0,0),(none,0,0),(none,0,0),(none,0,0),(none,0,0),(none,0,0),he,hb⟩
def CellsOk (l:List Ev) (cells:List Nat):Prop:=∀c:Nat,c<cells.length→∃f:Nat,lastR l (c:Int)=(f:Int)∧f<l.length∧(l[f]?).map Ev.val=cells[c]?
def FinRel (cells:List Nat) (w1:World) (mm:Nat) (s3 s4:Value) (wr:World):Prop :=
 ∃(i:Nat) (A:Option Addr) (c:Nat),s3=.slice A i c∧s4=.int .i64 i∧i≤cells.length∧mm=cells.length-i∧wr.ownsRow w1.heap.size 40 1 (.slice A i c) i ((cells.take i).map u64V)∧Below w1.heap.size w1 wr
set_option maxRecDepth 100000 in
set_option maxHeartbeats 0 in
theorem Final_any {mz:List Value} {w0:World} {nc:Nat} {w:World} {who:Nat→Option Dq} {V:DV} {r:RR} (h:RunAt mz w0 nc w who V r) (hev:r.events.length≤1000) (cells:List Nat) (hcl:cells.length=nc) (hnc:nc≤4096) (hc:CellsOk r.events cells) :
  Calls Tryz.prog 32 #[.agg (runD nc V r)] w fun e w'=>∃A c,e=.returned (.slice A cells.length c)∧w'.ownsRow w.heap.size 40 1 (.slice A cells.length c) cells.length (cells.map u64V)∧Below w.heap.size w w':=by
 obtain⟨aT,cT,ae,ce,af,cf,am,cm,ao,co,al,cl,ap,cp,hvT,hve,hvf,hvm,hvo,hvl,hvp⟩:=h.slices
 have hrd:runD nc V r=#[.bool false,.int .i64 nc,.slice aT V.tcs.length cT,.slice ae r.events.length ce,.slice af r.rf.length cf,.slice am r.rmw.length cm,.slice ao V.vo.length co,.slice al r.log.length cl,.slice ap r.picks.length cp,.int .i64 r.used]:=by unfold runD;rw[hvT,hve,hvf,hvm,hvo,hvl,hvp]
 have HRD:=Lib.hid hrd
 have HE:=Lib.hid (fun (k:Nat) (e:Ev) (hk:r.events[k]?=some e)=>h.evs hve hk)
 have HRUN:=Lib.hid h
 rw[hrd]
 clear hrd hvT hve hvf hvm hvo hvl hvp h
 have hml:(16*1048576:Nat)≤maxLen:=by decide
 go_enter Tryz.func32,Tryz.ntmps32
 go_upto_region 3 with fail
 obtain⟨w1,hw1⟩:∃yy:World,yy=w.alloc (.cells #[.bool false,.int .i64 nc,.slice aT V.tcs.length cT,.slice ae r.events.length ce,.slice af r.rf.length cf,.slice am r.rmw.length cm,.slice ao V.vo.length co,.slice al r.log.length cl,.slice ap r.picks.length cp,.int .i64 r.used] 47):=⟨_,rfl⟩
 have hb1:Below w.heap.size w w1:=by rw[hw1];exact Kit.bl1
 have hD1:Blk w1 w.heap.size 47 #[.bool false,.int .i64 nc,.slice aT V.tcs.length cT,.slice ae r.events.length ce,.slice af r.rf.length cf,.slice am r.rmw.length cm,.slice ao V.vo.length co,.slice al r.log.length cl,.slice ap r.picks.length cp,.int .i64 r.used]:=by rw[hw1];exact Blk.new _ _ _
 rw[←hw1]
 clear hw1
 have HCL:=Lib.hid hcl
 have k1:w1.cell? ⟨w.heap.size,1,none⟩=some (.int .i64 (cells.length:Int)):=by rw[hcl];exact Blk.cell hD1 1
 have hncl:cells.length≤4096:=by omega
 clear hcl hnc
 go_loopg [3,4] cells.length (fun mm s3 s4 wr=>FinRel cells w1 mm s3 s4 wr)
 case atStart=>exact⟨0,none,0,rfl,rfl,Nat.zero_le _,rfl,⟨rfl,.inl ⟨rfl,rfl⟩⟩,Below.refl _ _⟩
 case round =>
  obtain⟨i,A,c,rfl,rfl,hi,hmm,hown,hb⟩:=hrel
  have HM:=Lib.hid hmm
  clear hmm
  have hD:=hD1.below' hb
  have kr:wr.cell? ⟨w.heap.size,1,none⟩=some (.int .i64 (cells.length:Int)):=by rw[hb.cell (p:=⟨w.heap.size,1,none⟩) hD1.lt];exact k1
  by_cases hke:i<cells.length
  ·have q1:(i:Int)<(cells.length:Int):=by omega
   obtain⟨f,hf1,hf2,hf3⟩:=hc i hke
   obtain⟨ev,hevf⟩:∃e,r.events[f]?=some e:=⟨_,Kit.eG hf2⟩
   obtain⟨v,hv⟩:∃v,cells[i]?=some v:=⟨_,Kit.eG hke⟩
   have hvv:ev.val=v:=by rw[hevf,hv]at hf3;simpa using hf3
   obtain⟨ge,rfl,hgl,hr⟩:=HE.out f ev hevf
   have hbw:=hb1.trans (hb.mono hb1.size)
   have r3:wr.cell? ⟨ge,f*5+3,none⟩=some (.int .u64 (v:Int)):=by rw[←hvv,hbw.cell (p:=⟨ge,f*5+3,none⟩) hgl];exact hr 3 _ rfl
   have a1:(f:Int)<(r.events.length:Int):=by omega
   have a2:(0:Int)≤(f:Int):=by omega
   have HLast:Hid (∀w2,Below w.heap.size w w2→Calls Tryz.prog 51 #[.agg #[.bool false,.int .i64 nc,.slice aT V.tcs.length cT,.slice (some ⟨ge,0,none⟩) r.events.length ce,.slice af r.rf.length cf,.slice am r.rmw.length cm,.slice ao V.vo.length co,.slice al r.log.length cl,.slice ap r.picks.length cp,.int .i64 r.used],.int .i64 (i:Int)] w2 fun e w'=>e=.returned (.int .i64 (f:Int))∧Below w2.heap.size w2 w'):=Lib.hid fun w2 hb2=>by
    have h1:=Last_any (HRUN.out.below hb2) hev (i:Int)
    rw[HRD.out,hf1]at h1
    exact h1
   have HV:=Lib.hid hv
   clear hf1 hf2 hf3 hevf hvv hr hv
   obtain⟨S,hS⟩:∃S:Nat→Prop,∀k,S k↔(Value.slice A i c).ownBlock=some k:=⟨_,fun _=>Iff.rfl⟩
   have HSS:=Lib.hid hS
   clear hS
   have hnD:¬S w.heap.size:=fun e=>by
    have h1:=OwnR.own_base hown ((HSS.out _).1 e)
    have h2:=hD1.lt
    omega
   have hnE:¬S ge:=fun e=>by
    have h1:=OwnR.own_base hown ((HSS.out _).1 e)
    have h2:=hb1.size
    omega
   have HND:=Lib.hid hnD
   have HNE:=Lib.hid hnE
   clear hnD hnE
   have hger:ge<wr.heap.size:=Nat.lt_of_lt_of_le hgl hbw.size
   obtain⟨c0,c1,c2,c3,c4,c5,c6,c7,c8,c9⟩:=Kit.cellsA10 fun p:Cls (KeptS S wr)=>(p.h.blk hD HND.out)
   have cev:∀p:Cls (KeptS S wr),p.w.cell? ⟨ge,f*5+3,none⟩=some (.int .u64 (v:Int)):=fun p=>by rw[World.cell?_of_block (w:=wr) (p.h.2.2.2.2 _ hger HNE.out)];exact r3
   have hne:Nonempty (Cls (KeptS S wr)):=⟨⟨wr,KeptS.refl _ _⟩⟩
   have hbd:Below wr.heap.size wr (wr.drewN 1):=Below_drewN _ 1
   go_upto_region 5 with fail
   clear r3 kr
   refine wp_region_float_go (fun w'=>∃p:Cls (KeptS S wr),w'=p.w) 12 (by kernel_rfl) rfl ?_
   refine floatG_reads 7 [0,1,2,3,4] ⟨⟨_,KeptS.of_below hbd⟩,rfl⟩ rfl (by kernel_rfl) ?_
   simp only[pickL,List.map_cons,List.map_nil,List.getElem?_cons_succ,List.getElem?_cons_zero,Option.getD_some]
   repeat (go_big_quiet_step (fail))
   refine wpQuiet_nil ?_
   clear c0 c1 c2 c3 c4 c5 c6 c7 c8 c9
   generalize wr.drewN 1=wd at *
   refine fG (i:=5) rfl ?_
   have HL1:=Lib.hid (HLast.out wd (hbw.trans (hbd.mono hbw.size)))
   go_wp2_with (go_at_call 51;refine HL1.out.mono ?_;rintro e w5 ⟨rfl,hb5⟩)
   have hb5w:Below wr.heap.size wr w5:=hbd.trans (hb5.mono hbd.size)
   clear HL1 hb5
   refine onG_mk (fun _=>⟨⟨_,KeptS.of_below hb5w⟩,rfl⟩) ?_
   refine floatG_reads 3 [6,7,8] ⟨⟨_,KeptS.of_below hb5w⟩,rfl⟩ rfl (by kernel_rfl) ?_
   simp only[pickL,List.map_cons,List.map_nil,List.getElem?_cons_succ,List.getElem?_cons_zero,Option.getD_some]
   repeat (go_big_quiet_step (fail))
   refine wpQuiet_nil ?_
   clear cev hne
   refine fG (i:=9) rfl ?_
   go_wp2_with fail
   obtain⟨w6,hw6⟩:∃yy:World,yy=w5.alloc (.cells #[.int .u64 (v:Int)] 40):=⟨_,rfl⟩
   have hb6:Below w5.heap.size w5 w6:=by rw[hw6];exact Kit.bl1
   have hN6:Blk w6 w5.heap.size 40 (List.toArray [u64V v]):=by rw[hw6];exact Blk.new _ _ _
   rw[←hw6]
   clear hw6
   have hbr6:=hb5w.trans (hb6.mono hb5w.size)
   have HOW:=Lib.hid (OwnR.own_stays hown fun k hk=>hbr6.block k (OwnR.own_lt hown hk))
   have hb16:=hb.trans (hbr6.mono hb.size)
   obtain⟨j0,hj0,hjz0,hjz1,hjz2⟩:=info_parts info_u64
   have hbs:=hb16.size
   refine onG_mk (fun _=>⟨⟨_,KeptS.of_below hbr6⟩,rfl⟩) ?_
   refine fG (i:=10) rfl ?_
   refine wpList_append_lies _ (by rfl) _ _ _ (by rfl) w1.heap.size 40 j0 _ 1 8 Tryz.underlying32 hj0 hjz0 hjz1 hjz2 rfl (by omega) _ i _ (by rfl) HOW.out ⟨w5.heap.size,0,none⟩ 1 1 [u64V v] (by rfl) rfl (RunW.news_one hN6) (RunW.one_one rfl) (by omega) (by omega) (by omega) hbs _ rfl ?_
   intro g8 cap8 w8 hown8 hgrow8 hat8 hlt8
   have hC8:KeptS S wr w8:=RunW.kept_grown (KeptS.of_below hbr6) hgrow8 (fun k hk=>(HSS.out k).2 hk)
   have hb8:=hb16.grown hgrow8 hbs (fun k hk=>OwnR.own_base HOW.out hk)
   refine Kit.oG hC8 ?_
   refine fG (i:=11) rfl ?_
   go_wp2_with fail
   refine Kit.oG hC8 ?_
   refine(show tailG _ _ _ _ _ _ _ from⟨by kernel_rfl,?_⟩)
   simp only[List.drop_succ_cons,List.drop_nil]
   have he:(cells.take i).map u64V++[u64V v]=(cells.take (i+1)).map u64V:=by
    rw[List.take_add_one,HV.out]
    simp
   rw[he]at hown8
   clear hC8 hgrow8 hat8 hlt8 HOW hN6 hb6 hbr6 hb16 hbs hb5w hbd he
   go_wp2_with fail
   go_roundg (cells.length-(i+1))
   case measure=>have:=HM.out;omega
   case rel=>exact⟨i+1,_,_,rfl,by push_cast;rfl,hke,rfl,hown8,hb8⟩
  ·obtain rfl:i=cells.length:=by omega
   have q1:¬((cells.length:Int)<(cells.length:Int)):=by omega
   rw[List.take_length]at hown
   go_wp2_with fail
   go_ret
   exact⟨A,c,rfl,OwnR.own_mono hown hb1.size,hb1.trans (hb.mono hb1.size)⟩
def CoRel (l:List Ev) (loc:Int) (w1:World) (mm:Nat) (s5 s6:Value) (wr:World):Prop :=
 ∃(i:Nat) (L:List Nat) (A:Option Addr) (c:Nat),s5=.slice A L.length c∧s6=.int .i64 i∧i≤l.length∧L.length≤i∧mm=l.length-i∧coG loc 0 l=L++coG loc i (l.drop i)∧wr.ownsRow w1.heap.size 3 1 (.slice A L.length c) L.length (L.map RunW.i64V)∧Below w1.heap.size w1 wr
set_option maxRecDepth 100000 in
set_option maxHeartbeats 0 in
theorem Co_any {mz:List Value} {w0:World} {nc:Nat} {w:World} {who:Nat→Option Dq} {V:DV} {r:RR} (h:RunAt mz w0 nc w who V r) (hev:r.events.length≤1000) (loc:Int) :
  Calls Tryz.prog 30 #[.agg (runD nc V r),.int .i64 loc] w fun e w'=>∃A c,e=.returned (.slice A (coG loc 0 r.events).length c)∧w'.ownsRow w.heap.size 3 1 (.slice A (coG loc 0 r.events).length c) (coG loc 0 r.events).length ((coG loc 0 r.events).map RunW.i64V)∧Below w.heap.size w w':=by
 obtain⟨aT,cT,ae,ce,af,cf,am,cm,ao,co,al,cl,ap,cp,hvT,hve,hvf,hvm,hvo,hvl,hvp⟩:=h.slices
 have hrd:runD nc V r=#[.bool false,.int .i64 nc,.slice aT V.tcs.length cT,.slice ae r.events.length ce,.slice af r.rf.length cf,.slice am r.rmw.length cm,.slice ao V.vo.length co,.slice al r.log.length cl,.slice ap r.picks.length cp,.int .i64 r.used]:=by unfold runD;rw[hvT,hve,hvf,hvm,hvo,hvl,hvp]
 have HE:=Lib.hid (fun (k:Nat) (e:Ev) (hk:r.events[k]?=some e)=>h.evs hve hk)
 rw[hrd]
 clear hrd hvT hve hvf hvm hvo hvl hvp h
 have hml:(16*1048576:Nat)≤maxLen:=by decide
 generalize hee:r.events=l at *
 clear hee
 go_enter Tryz.func30,Tryz.ntmps30
 go_upto_region 3 with fail
 obtain⟨w1,hw1⟩:∃yy:World,yy=w.alloc (.cells #[.bool false,.int .i64 nc,.slice aT V.tcs.length cT,.slice ae l.length ce,.slice af r.rf.length cf,.slice am r.rmw.length cm,.slice ao V.vo.length co,.slice al r.log.length cl,.slice ap r.picks.length cp,.int .i64 r.used] 47):=⟨_,rfl⟩
 have hb1:Below w.heap.size w w1:=by rw[hw1];exact Kit.bl1
 have hD1:Blk w1 w.heap.size 47 #[.bool false,.int .i64 nc,.slice aT V.tcs.length cT,.slice ae l.length ce,.slice af r.rf.length cf,.slice am r.rmw.length cm,.slice ao V.vo.length co,.slice al r.log.length cl,.slice ap r.picks.length cp,.int .i64 r.used]:=by rw[hw1];exact Blk.new _ _ _
 rw[←hw1]
 clear hw1
 go_loopg [5,6] l.length (fun mm s5 s6 wr=>CoRel l loc w1 mm s5 s6 wr)
 case atStart=>exact⟨0,[],none,0,rfl,rfl,Nat.zero_le _,Nat.le_refl _,rfl,rfl,⟨rfl,.inl ⟨rfl,rfl⟩⟩,Below.refl _ _⟩
 case round =>
  obtain⟨i,L,A,c,rfl,rfl,hi,hLi,hmm,hco,hown,hb⟩:=hrel
  have HM:=Lib.hid hmm
  clear hmm
  have hD:=hD1.below' hb
  have k3:wr.cell? ⟨w.heap.size,3,none⟩=some (.slice ae l.length ce):=Blk.cell hD 3
  by_cases hke:i<l.length
  ·obtain⟨g,rfl,hgl,hr⟩:=HE.out i l[i] (by simp[hke])
   rw[List.drop_eq_getElem_cons hke]at hco
   simp only[coG]at hco
   have HG:=Lib.hid hco
   clear hco
   generalize l[i]=e at *
   obtain⟨th,ki,lo,va,md⟩:=e
   simp only at HG
   have hbw:=hb1.trans (hb.mono hb1.size)
   have r1:wr.cell? ⟨g,i*5+1,none⟩=some (.int .i64 ki):=by rw[hbw.cell (p:=⟨g,i*5+1,none⟩) hgl];exact hr 1 _ rfl
   have r2:wr.cell? ⟨g,i*5+2,none⟩=some (.int .i64 lo):=by rw[hbw.cell (p:=⟨g,i*5+2,none⟩) hgl];exact hr 2 _ rfl
   have a1:(i:Int)<(l.length:Int):=by omega
   have a2:(0:Int)≤(i:Int):=by omega
   clear hr
   by_cases hki:ki=2
   ·subst hki
    by_cases hlo:lo=loc
    ·subst hlo
     obtain⟨j0,hj0,hjz0,hjz1,hjz2⟩:=info_parts RunW.info_int
     have hb6:Below wr.heap.size wr (wr.alloc (.cells #[.int .i64 (i:Int)] 3)):=Kit.bl1
     have hN6:Blk (wr.alloc (.cells #[.int .i64 (i:Int)] 3)) wr.heap.size 3 (List.toArray [RunW.i64V i]):=Blk.new _ _ _
     have HOW:=Lib.hid (OwnR.own_stays hown fun k hk=>hb6.block k (OwnR.own_lt hown hk))
     have hb16:=hb.trans (hb6.mono hb.size)
     have hbs:=hb16.size
     clear hown
     go_wp2_with (at_builtin;refine wpList_append_lies _ (by rfl) _ _ _ (by rfl) w1.heap.size 3 j0 _ 1 8 Tryz.underlying25 hj0 hjz0 hjz1 hjz2 rfl (by omega) _ L.length _ (by rfl) HOW.out ⟨wr.heap.size,0,none⟩ 1 1 [RunW.i64V i] (by rfl) rfl (RunW.news_one hN6) (RunW.one_one rfl) (by omega) (by omega) (by omega) hbs _ rfl ?_;intro g8 cap8 w8 hown8 hgrow8 hat8 hlt8)
     have hb8:=hb16.grown hgrow8 hbs (fun k hk=>OwnR.own_base HOW.out hk)
     go_roundg (l.length-(i+1))
     case measure=>have:=HM.out;omega
     case rel =>
      refine⟨i+1,L++[i],some ⟨g8,0,none⟩,cap8,by rw[List.length_append];rfl,by push_cast;rfl,hke,by rw[List.length_append,List.length_singleton];omega,rfl,by rw[HG.out,if_pos (by simp)];simp,?_,hb8⟩
      rw[List.length_append,List.map_append]
      exact hown8
    ·have q1:(lo == loc)=false:=by simpa using hlo
     have HLO:=Lib.hid hlo
     clear hlo
     go_wp2_with fail
     go_roundg (l.length-(i+1))
     case measure=>have:=HM.out;omega
     case rel=>exact⟨i+1,L,A,c,rfl,by push_cast;rfl,hke,by omega,rfl,by rw[HG.out,if_neg (fun hh=>HLO.out hh.2)],hown,hb⟩
   ·have q1:(ki == 2)=false:=by simpa using hki
    have HKI:=Lib.hid hki
    clear hki
    go_wp2_with fail
    go_roundg (l.length-(i+1))
    case measure=>have:=HM.out;omega
    case rel=>exact⟨i+1,L,A,c,rfl,by push_cast;rfl,hke,by omega,rfl,by rw[HG.out,if_neg (fun hh=>HKI.out hh.1)],hown,hb⟩
  ·obtain rfl:i=l.length:=by omega
   have q1:¬((l.length:Int)<(l.length:Int)):=by omega
   rw[List.drop_length]at hco
   have hLL:coG loc 0 l=L:=by rw[hco];simp[coG]
   have HLL:=Lib.hid hLL
   clear hco hLL
   go_wp2_with fail
   go_ret
   rw[HLL.out]
   exact⟨A,c,rfl,OwnR.own_mono hown hb1.size,hb1.trans (hb.mono hb1.size)⟩
end Go.Proofs.YtmjilfamjlnigaaGreat.RefW

namespace Go.Proofs.YtmjilfamjlnigaaGreat.RefW
open Go Go.RowKit Kit SrcP SrcW Go.Proofs.YtmjilfamjlnigaaGreat.MchW
set_option maxRecDepth 100000 in
set_option maxHeartbeats 0 in
theorem Numbers_any (w:World) (A B:Option Addr) (la lb:List Nat) (cA cB:Nat) (hA:LawW.U64sAt w A la) (hB:LawW.U64sAt w B lb) (hla:la.length≤16777216) (hlb:lb.length≤16777216) :
  Calls Tryz.prog 31 #[.slice A la.length cA,.slice B lb.length cB] w fun e w'=>e=.returned (.bool (la == lb))∧∃n,w'=w.drewN n:=by
 by_cases hlen:la.length=lb.length
 ·have HL:=Lib.hid hlen
  have hcl:decide ((la.length:Int)=(lb.length:Int))=true:=by rw[hlen];simp
  obtain⟨n,hn⟩:∃n,n=la.length:=⟨_,rfl⟩
  rw[←hlen]
  rw[←hn]at hla ⊢
  have HN:=Lib.hid hn
  clear hlen hn hcl hlb
  go_enter Tryz.func31,Tryz.ntmps31
  go_upto_region 4 with fail
  go_loopg [5] n (fun mm s5 wr=>LawW.NumRel w la lb mm s5 wr)
  case atStart=>exact⟨0,0,rfl,Nat.zero_le _,by rw[HN.out];rfl,fun j hj=>by omega,(World.drewN_zero _).symm⟩
  case round =>
   obtain⟨k,q,rfl,hk,hmm,heq,rfl⟩:=hrel
   have HM:=Lib.hid hmm
   have HE:=Lib.hid heq
   clear hmm heq
   rw[←HN.out]at hk
   by_cases hke:k<n
   ·have q1:(k:Int)<(n:Int):=by omega
    have q2:(0:Int)≤(k:Int):=by omega
    obtain⟨x,hx⟩:∃x,la[k]?=some x:=⟨_,Kit.eG (by rw[←HN.out];exact hke)⟩
    obtain⟨y,hy⟩:∃y,lb[k]?=some y:=⟨_,Kit.eG (by rw[←HL.out,←HN.out];exact hke)⟩
    obtain⟨ad,rfl,hca⟩:=hA k x hx
    obtain⟨bd,rfl,hcb⟩:=hB k y hy
    by_cases hxy:x=y
    ·have HX:=Lib.hid hx
     have HY:=Lib.hid hy
     clear hx hy
     subst hxy
     have e1:((x:Int) == (x:Int))=true:=by simp
     go_upto_region 6 with fail
     go_quiet (fail)
     go_wp2_with fail
     go_roundg (n-(k+1))
     case measure=>have:=HM.out;have:=HN.out;omega
     case rel =>
      refine⟨k+1,_,by push_cast;rfl,by rw[←HN.out];exact hke,by rw[←HN.out],fun j hj=>?_,rfl⟩
      rcases Nat.lt_or_ge j k with h | h
      ·exact HE.out j h
      ·obtain rfl:j=k:=by omega
       rw[HX.out,HY.out]
    ·have hne:¬((x:Int)=(y:Int)):=by omega
     have hb:Hid ((la == lb)=false):=Lib.hid (by
      rw[beq_eq_false_iff_ne]
      rintro rfl
      rw[hx]at hy
      exact hxy (Option.some.inj hy))
     have HX:=Lib.hid hx
     have HY:=Lib.hid hy
     clear hx hy
     go_upto_region 6 with fail
     go_quiet (fail)
     go_wp2_with fail
     go_ret
     exact⟨by rw[hb.out];rfl,q+nq,(World.drewN_drewN _ _ _)⟩
   ·obtain rfl:k=n:=by omega
    have hb:Hid ((la == lb)=true):=Lib.hid (by
     rw[beq_iff_eq]
     refine List.ext_getElem? fun j=>?_
     rcases Nat.lt_or_ge j la.length with h | h
     ·exact HE.out j (by rw[HN.out];exact h)
     ·rw[List.getElem?_eq_none h,List.getElem?_eq_none (by rw[←HL.out];exact h)])
    go_wp2_with fail
    go_ret
    exact⟨by rw[hb.out];rfl,_,rfl⟩
 ·have hb:Hid ((la == lb)=false):=Lib.hid (by
   rw[beq_eq_false_iff_ne]
   rintro rfl
   exact hlen rfl)
  go_enter Tryz.func31,Tryz.ntmps31
  go_wp2_with fail
  go_ret
  exact⟨by rw[hb.out];rfl,0,(World.drewN_zero _).symm⟩
def PairsAt (w:World) (A:Option Addr) (l:List (Nat × Nat)):Prop:=∀(i:Nat) (x:Nat × Nat),l[i]?=some x→∃g:Nat,A=some ⟨g,0,none⟩∧w.cell? ⟨g,i*2,none⟩=some (.int .i64 x.1)∧w.cell? ⟨g,i*2+1,none⟩=some (.int .i64 x.2)
theorem own_pairs {w:World} {lo n c:Nat} {A:Option Addr} {l:List (Nat × Nat)} (h:w.ownsRow lo 51 2 (.slice A n c) n (l.flatMap RunW.pairC)) (hn:n=l.length):PairsAt w A l:=fun i x hi=>by
 have hil:=(List.getElem?_eq_some_iff.1 hi).1
 obtain⟨g,hA,_,_,_,_,hc⟩:=LawW.row_at h (by omega)
 have hf:=fun (j:Nat) (hj:j<2)=>NewW.flat_get RunW.pairC 2 (fun _=>rfl) l i j x hi hj
 refine⟨g,hA,hc _ _ ?_,hc _ _ ?_⟩
 ·have:=hf 0 (by decide)
  rw[Nat.add_zero]at this
  rw[this];rfl
 ·rw[hf 1 (by decide)];rfl
theorem PairsAt.dn {w:World} {A:Option Addr} {l:List (Nat × Nat)} (h:PairsAt w A l) (n:Nat):PairsAt (w.drewN n) A l:=h
theorem PairsAt.nil {w:World} {A:Option Addr}:PairsAt w A []:=fun i x h=>by simp at h
def PairRel (w:World) (la lb:List (Nat × Nat)) (mm:Nat) (s5:Value) (wr:World):Prop :=
 ∃k n:Nat,s5=.int .i64 k∧k≤la.length∧mm=la.length-k∧(∀j,j<k→la[j]?=lb[j]?)∧wr=w.drewN n
set_option maxRecDepth 100000 in
set_option maxHeartbeats 0 in
theorem pairs_any (w:World) (A B:Option Addr) (la lb:List (Nat × Nat)) (cA cB:Nat) (hA:PairsAt w A la) (hB:PairsAt w B lb) (hla:la.length≤16777216) (hlb:lb.length≤16777216) :
  Calls Tryz.prog 28 #[.slice A la.length cA,.slice B lb.length cB] w fun e w'=>e=.returned (.bool (la == lb))∧∃n,w'=w.drewN n:=by
 by_cases hlen:la.length=lb.length
 ·have HL:=Lib.hid hlen
  have hcl:decide ((la.length:Int)=(lb.length:Int))=true:=by rw[hlen];simp
  obtain⟨n,hn⟩:∃n,n=la.length:=⟨_,rfl⟩
  rw[←hlen]
  rw[←hn]at hla ⊢
  have HN:=Lib.hid hn
  clear hlen hn hcl hlb
  go_enter Tryz.func28,Tryz.ntmps28
  go_upto_region 4 with fail
  go_loopg [5] n (fun mm s5 wr=>PairRel w la lb mm s5 wr)
  case atStart=>exact⟨0,0,rfl,Nat.zero_le _,by rw[HN.out];rfl,fun j hj=>by omega,(World.drewN_zero _).symm⟩
  case round =>
   obtain⟨k,q,rfl,hk,hmm,heq,rfl⟩:=hrel
   have HM:=Lib.hid hmm
   have HE:=Lib.hid heq
   clear hmm heq
   rw[←HN.out]at hk
   by_cases hke:k<n
   ·have q1:(k:Int)<(n:Int):=by omega
    have q2:(0:Int)≤(k:Int):=by omega
    obtain⟨x,hx⟩:∃x,la[k]?=some x:=⟨_,Kit.eG (by rw[←HN.out];exact hke)⟩
    obtain⟨y,hy⟩:∃y,lb[k]?=some y:=⟨_,Kit.eG (by rw[←HL.out,←HN.out];exact hke)⟩
    obtain⟨gA,rfl,hca,hca2⟩:=hA k x hx
    obtain⟨gB,rfl,hcb,hcb2⟩:=hB k y hy
    by_cases hxy:x=y
    ·have HX:=Lib.hid hx
     have HY:=Lib.hid hy
     clear hx hy
     subst hxy
     obtain⟨x1,x2⟩:=x
     simp only at hca hca2 hcb hcb2
     have e1:((x1:Int) == (x1:Int))=true:=by simp
     have e2:((x2:Int) == (x2:Int))=true:=by simp
     go_upto_region 6 with fail
     go_quiet (fail)
     go_wp2_with fail
     go_roundg (n-(k+1))
     case measure=>have:=HM.out;have:=HN.out;omega
     case rel =>
      refine⟨k+1,_,by push_cast;rfl,by rw[←HN.out];exact hke,by rw[←HN.out],fun j hj=>?_,rfl⟩
      rcases Nat.lt_or_ge j k with h | h
      ·exact HE.out j h
      ·obtain rfl:j=k:=by omega
       rw[HX.out,HY.out]
    ·have hb:Hid ((la == lb)=false):=Lib.hid (by
      rw[beq_eq_false_iff_ne]
      rintro rfl
      rw[hx]at hy
      exact hxy (Option.some.inj hy))
     have HX:=Lib.hid hx
     have HY:=Lib.hid hy
     clear hx hy
     obtain⟨x1,x2⟩:=x
     obtain⟨y1,y2⟩:=y
     simp only at hca hca2 hcb hcb2
     by_cases h1:x1=y1
     ·have h2:¬((x2:Int)=(y2:Int)):=fun e=>hxy (by rw[h1,show x2=y2 by omega])
      clear hxy
      subst h1
      have e1:((x1:Int) == (x1:Int))=true:=by simp
      have e2:((x2:Int) == (y2:Int))=false:=by simpa using h2
      clear h2
      go_upto_region 6 with fail
      go_quiet (fail)
      go_wp2_with fail
      go_ret
      exact⟨by rw[hb.out];rfl,q+nq,(World.drewN_drewN _ _ _)⟩
     ·have e1:((x1:Int) == (y1:Int))=false:=by simp;omega
      clear hxy h1
      go_upto_region 6 with fail
      go_quiet (fail)
      go_wp2_with fail
      go_ret
      exact⟨by rw[hb.out];rfl,q+nq,(World.drewN_drewN _ _ _)⟩
   ·obtain rfl:k=n:=by omega
    have hb:Hid ((la == lb)=true):=Lib.hid (by
     rw[beq_iff_eq]
     refine List.ext_getElem? fun j=>?_
     rcases Nat.lt_or_ge j la.length with h | h
     ·exact HE.out j (by rw[HN.out];exact h)
     ·rw[List.getElem?_eq_none h,List.getElem?_eq_none (by rw[←HL.out];exact h)])
    go_wp2_with fail
    go_ret
    exact⟨by rw[hb.out];rfl,_,rfl⟩
 ·have hb:Hid ((la == lb)=false):=Lib.hid (by
   rw[beq_eq_false_iff_ne]
   rintro rfl
   exact hlen rfl)
  go_enter Tryz.func28,Tryz.ntmps28
  go_wp2_with fail
  go_ret
  exact⟨by rw[hb.out];rfl,0,(World.drewN_zero _).symm⟩
end Go.Proofs.YtmjilfamjlnigaaGreat.RefW
namespace Go.Proofs.YtmjilfamjlnigaaGreat.Kit
open Go Go.RowKit
def readB3 (o:Oper):Bool:=match o.op with
 | .call { callee:=.builtin .len,.. }=>true
 | _=>readB2 o
theorem read_no_enter3 {P:Program} {o:Oper} (h:readB3 o=true) {ρ:Operand→Value} {w w':World} {f:FuncId} {args:Array Value}:(execOp ρ o).run P w≠.ok (.enter f args) w':=by
 unfold readB3 at h
 split at h
 ·rename_i heq
  unfold execOp
  rw[heq]
  exact bind_value
 ·exact read_no_enter2 h
section
variable {P:Program} {ops:Array Oper} {md:Region.Mode} {C:World→Prop}
theorem reads_of_yields3 {o:Oper} {v:Value} {a:Act} (hr:readB3 o=true) (hy:YieldsIn P ops C o v a):ReadsIn P ops C o v a:=by
 rcases hy with⟨hw,h⟩ | h
 ·refine .inl ⟨hw,fun w hC=>?_⟩
  have:=h w hC
  unfold Oper.quietAt at this
  cases hx:(execOp a.eval o).run P w with
  | halt x w'=>rw[hx]at this;exact this.elim
  | ok n w' =>
   rw[hx]at this
   cases n with
   | value u=>obtain⟨rfl,rfl⟩:=this;exact .inl rfl
   | skip=>obtain⟨rfl,rfl⟩:=this;exact .inr ⟨rfl,rfl⟩
   | enter f args=>exact absurd hx (read_no_enter3 hr)
   | _=>exact this.elim
 ·exact .inr h
def readsB3 (md:Region.Mode) (ops:Array Oper) (n:Nat):List Nat→Array Bool→Bool
 | [],_=>true
 | k :: l,listed=>(Region.ready md ops listed).contains k&&Region.free md ops listed k&&decide (k<n)&&((ops[k]?).map readB3).getD false&&readsB3 md ops n l (listed.setIfInBounds k true)
def standB3 (md:Region.Mode) (ops:Array Oper) (n:Nat) (listed:Array Bool):Bool :=
 decide (listed.size=ops.size)&&((List.range ops.size).all fun j=>!listed.getD j false ||(((ops[j]?).map fun o=>o.after.toList.all fun e=>!Region.binds md e || listed.getD e.on false).getD true))&&((List.range ops.size).all fun j=>decide (j<n) || !listed.getD j true)
theorem stand_inv3 {n:Nat} {listed:Array Bool} (h:standB3 md ops n listed=true):HeadInv md ops n listed:=by
 simp only[standB3,Bool.and_eq_true,decide_eq_true_eq,List.all_eq_true,List.mem_range,Bool.or_eq_true,Bool.not_eq_true']at h
 obtain⟨⟨h1,h2⟩,h3⟩:=h
 refine⟨h1,fun j oj ho hl e he hb=>?_,fun t ht1 ht2=>?_⟩
 ·have hj:j<ops.size:=(Array.getElem?_eq_some_iff.1 ho).1
  rcases h2 j hj with h | h
  ·rw[hl]at h;cases h
  ·rw[ho]at h
   simp only[Option.map_some,Option.getD_some,List.all_eq_true,Bool.or_eq_true,Bool.not_eq_true']at h
   rcases h e (by simpa using he)with h4 | h4
   ·rw[hb]at h4;cases h4
   ·exact h4
 ·rcases h3 t ht2 with h | h
  ·omega
  ·exact h
theorem floatG_lex3 {n m:Nat} {T:Array Bool→Act→World→Prop} (hsel:Region.noSelect ops=true) (hn:n=ops.size)
  (hT:∀listed a w,T listed a w→∀j∈Region.ready md ops listed,n≤j) (w:World) (hC:C w) (rd:List Nat) :
  ∀(listed:Array Bool) (a:Act),HeadInv md ops n listed→readsB3 md ops n rd listed=true→∀(l:List Oper),l.length=rd.length→(∀j,j<l.length→l[j]?=(rd[j]?).bind fun k=>ops[k]?) →
   wpQuiet P ops C (fun a'=>floatG P md ops C [] n T m (listedAll rd listed) a' w) l a→floatG P md ops C [] n T (rd.length+m) listed a w:=by
 induction rd with
 | nil =>
  intro listed a inv hB l hlen hl h
  obtain rfl:l = []:=by simpa using hlen
  rw[List.length_nil,Nat.zero_add]
  exact h
 | cons k rd ih =>
  intro listed a inv hB l hlen hl h
  cases l with
  | nil=>simp at hlen
  | cons o l =>
   have h0:ops[k]?=some o:=by
    have:=hl 0 (by simp)
    simpa using this.symm
   simp only[readsB3,Bool.and_eq_true,decide_eq_true_eq,h0,Option.map_some,Option.getD_some]at hB
   obtain⟨⟨⟨⟨hr,hf⟩,hk⟩,hrd⟩,hB'⟩:=hB
   have hr':k∈Region.ready md ops listed:=by simpa using hr
   have hq:qOp P ops C k (wpQuiet P ops C (fun a'=>floatG P md ops C [] n T m (listedAll rd (listed.setIfInBounds k true)) a' w) l) a:=by
    unfold qOp
    simp only[h0]
    exact h
   obtain⟨v,hy,hK⟩:=yieldsIn_of_qOp h0 hq
   rw[List.length_cons,show rd.length+1+m=(rd.length+m)+1 by omega]
   refine floatG_takeA h0 (Region.noSelect_spec hsel) hn hk (fun j hj=>by cases hj) hT (rd.length+m) listed a w hC inv (Region.free_spec h0 hf) hr' (reads_of_yields3 hrd hy) ?_
   refine ih _ _ (inv.set hr' hk) hB' l (by simpa using hlen) (fun j hj=>?_) hK
   have:=hl (j+1) (by simp;omega)
   simpa using this
end
theorem reads3_lt {md:Region.Mode} {ops:Array Oper} {n:Nat} (rd:List Nat):∀listed,readsB3 md ops n rd listed=true→∀k∈rd,k<n:=by
 induction rd with
 | nil=>intro _ _ k hk;cases hk
 | cons k0 rd ih =>
  intro listed h k hk
  simp only[readsB3,Bool.and_eq_true,decide_eq_true_eq]at h
  rcases List.mem_cons.1 hk with rfl | hk
  ·exact h.1.1.2
  ·exact ih _ h.2 k hk
theorem floatG_reads3 {P:Program} {C:World→Prop} {Q:Exit→Act→World→Prop} {l:List Oper} {n f:Nat} (m:Nat) (rd:List Nat) {listed:Array Bool} {a:Act} {w:World} (hC:C w) (hf:rd.length+m=f)
  (hB:(Region.noSelect l.toArray&&decide (n=l.length)&&standB3 .any l.toArray n listed&&readsB3 .any l.toArray n rd listed)=true)
  (h:wpQuiet P l.toArray C (fun a'=>floatG P .any l.toArray C [] n (tailG P Q l n) m (listedAll rd listed) a' w) (pickL rd l) a) :
  floatG P .any l.toArray C [] n (tailG P Q l n) f listed a w:=by
 subst hf
 simp only[Bool.and_eq_true,decide_eq_true_eq]at hB
 obtain⟨⟨⟨hsel,hn⟩,hst⟩,hrd⟩:=hB
 refine floatG_lex3 hsel (by simpa using hn) (fun _ _ _ hT=>seqB_ready hT.1) w hC rd listed a (stand_inv3 hst) hrd (pickL rd l) (by simp[pickL]) (fun j hj=>?_) h
 have hj':j<rd.length:=by simpa [pickL]using hj
 have hk:=reads3_lt rd _ hrd rd[j] (List.getElem_mem hj')
 have hk':rd[j]<l.length:=by omega
 simp[pickL,hj',hk']
end Go.Proofs.YtmjilfamjlnigaaGreat.Kit
namespace Go.Proofs.YtmjilfamjlnigaaGreat.LawW
open Go Go.RowKit Kit SrcP SrcW MchW OwnR NewW RunW
def playX (nc:Nat) (Q:SL) (r:Rn Mch):Array Value:=#[.int .i64 (nc:Int),.slice Q.ae r.events.length Q.ce,.slice Q.af r.rf.length Q.cf,.slice Q.ao Q.no Q.co,.slice Q.am r.rmw.length Q.cm,.slice none 0 0,.slice none 0 0,.slice none 0 0,.slice Q.ac r.cells.length Q.cc,.slice Q.au Q.nu Q.cu,.slice Q.ah r.ths.length Q.ch,.int .i64 (r.used:Int)]
def AnyW (_:World):Prop:=True
theorem AnyW.below {w w':World} (_:AnyW w) (_:Below w.heap.size w w'):AnyW w':=trivial
theorem AnyW.else_ {S:Nat→Prop} {w w':World} {g:Nat} {cs:Array Value} (_:AnyW w) (_:Blk w g 36 cs) (_:KeptS S w w') (_:∀k,S k→k=g):AnyW w':=trivial
theorem PlayQ.outs_at {lo:Nat} {w:World} {Q:SL} {r:Rn Mch} (h:PlayQ lo w Q r) {t:Nat} {l:List Nat} (hl:r.outs[t]?=some l):∃g A c,Q.au=some ⟨g,0,none⟩∧w.cell? ⟨g,t,none⟩=some (.slice A l.length c)∧w.ownsRow lo 40 1 (.slice A l.length c) l.length (l.map u64V):=by
 have hlt:=(List.getElem?_eq_some_iff.1 hl).1
 obtain⟨A,c,h1,h2⟩:=h.outAt hl
 obtain⟨g,hg,_,_,_,_,hc⟩:=row_at h.outsR (by rw[h.out.1];omega)
 exact⟨g,A,c,hg,hc t _ h1,h2⟩
theorem ev_cells {w:World} {g:Nat} {l:List Ev} (hc:∀(j:Nat) (u:Value),(l.flatMap evC)[j]?=some u→w.cell? ⟨g,j,none⟩=some u) {i:Nat} {e:Ev} (hi:l[i]?=some e) :
  w.cell? ⟨g,i*5,none⟩=some (.int .i64 e.thread)∧w.cell? ⟨g,i*5+1,none⟩=some (.int .i64 e.kind)∧w.cell? ⟨g,i*5+2,none⟩=some (.int .i64 e.loc)∧w.cell? ⟨g,i*5+3,none⟩=some (.int .u64 e.val)∧w.cell? ⟨g,i*5+4,none⟩=some (.int .i64 e.mode):=by
 have h:=fun (j:Nat) (hj:j<5)=>flat_get evC 5 (fun _=>rfl) l i j e hi hj
 exact⟨hc _ _ (by have:=h 0 (by decide);rw[Nat.add_zero]at this;rw[this];rfl),hc _ _ (by rw[h 1 (by decide)];rfl),hc _ _ (by rw[h 2 (by decide)];rfl),hc _ _ (by rw[h 3 (by decide)];rfl),hc _ _ (by rw[h 4 (by decide)];rfl)⟩
end Go.Proofs.YtmjilfamjlnigaaGreat.LawW
