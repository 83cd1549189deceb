/- WALKS: the document's own run of a program (chapter 19). -/
import Derived.Test.YtmjilfamjlnigaaGreatQ45
import Derived.Test.YtmjilfamjlnigaaGreatQ47
namespace Go.Proofs.YtmjilfamjlnigaaGreat.RefW
open Go Go.RowKit Kit SrcP SrcW Go.Proofs.YtmjilfamjlnigaaGreat.MchW
def mzL:List Value:=[.slice none 0 0,.int .i64 0,.int .u64 0,.slice none 0 0,.int .u64 0,.slice none 0 0,.int .u64 0,.slice none 0 0,.int .u64 0,.slice none 0 0,.int .u64 0,.slice none 0 0,.int .u64 0,.slice none 0 0,.int .u64 0,.slice none 0 0,.int .u64 0,.slice none 0 0,.int .u64 0,.slice none 0 0,.int .u64 0,.slice none 0 0,.int .u64 0,.slice none 0 0,.int .u64 0,.slice none 0 0,.int .u64 0,.slice none 0 0,.int .u64 0,.slice none 0 0,.int .u64 0,.slice none 0 0,.int .u64 0,.slice none 0 0,.int .u64 0,.slice none 0 0,.int .u64 0,.slice none 0 0,.int .u64 0,.slice none 0 0,.int .u64 0,.slice none 0 0,.int .u64 0,.slice none 0 0,.int .u64 0,.slice none 0 0,.int .u64 0,.slice none 0 0,.int .u64 0,.slice none 0 0,.int .u64 0,.slice none 0 0,.int .u64 0,.slice none 0 0,.int .u64 0,.slice none 0 0,.int .u64 0,.slice none 0 0,.int .u64 0,.slice none 0 0,.int .u64 0,.slice none 0 0,.int .u64 0,.slice none 0 0,.int .u64 0,.slice none 0 0,.bool false,.bool false,.bool false,.bool false,.slice none 0 0,.slice none 0 0,.bool false,.int .i64 0,.int .i64 0,.int .i64 0,.int .i64 0,.int .i64 0,.slice none 0 0,.slice none 0 0,.slice none 0 0,.slice none 0 0,.slice none 0 0,.slice none 0 0,.int .i64 0,.bool false,.int .i64 0,.int .i64 0,.int .i64 0,.int .u64 0,.bool false,.bool false,.slice none 0 0,.slice none 0 0,.int .i64 0]
theorem mzL_len:mzL.length=95:=by kernel_rfl
theorem mzL_one:mzL.all (·.oneCell')=true:=by kernel_rfl
theorem onG_alloc {C:World→Prop} {b:Prop} {F:Act→World→Prop} {a:Act} {w:World} {t:TypeId} {cs:Array Value} (cs':Array Value) (h:cs=cs') (H:onG C b F .normal a (w.alloc (.cells cs' t))):onG C b F .normal a (w.alloc (.cells cs t)):=by rw[h];exact H
theorem th_info:((Tryz.prog.info? 94).map (fun i=>decide (i.bytes≤4096)&&i.size == 101&&(i.zero.map (fun z=>z.cells.size)) == some 101))=some true:=by kernel_rfl
theorem th_parts:∃(i:TypeInfo) (z:Value),Tryz.prog.info? 94=some i∧i.zero=some z∧i.size=101∧i.bytes≤4096∧z.cells.size=101:=by
 have h:=th_info
 cases hi:Tryz.prog.info? 94 with
 | none=>rw[hi]at h;cases h
 | some i =>
  rw[hi]at h
  simp only[Option.map_some,Option.some.injEq,Bool.and_eq_true,decide_eq_true_eq,beq_iff_eq]at h
  obtain⟨⟨h1,h2⟩,h3⟩:=h
  cases hz:i.zero with
  | none=>rw[hz]at h3;cases h3
  | some z =>
   rw[hz]at h3
   exact⟨i,z,rfl,hz,h2,h1,by simpa using h3⟩
def SrcRel (w0:World) (nc:Nat) (gD n:Nat) (B:Option Addr) (cB:Nat) (l:List SrcP.Thread) (mm:Nat) (s9:Value) (wr:World):Prop :=
 ∃(i:Nat) (V:DV) (who:Nat→Option Dq),s9=.int .i64 i∧i≤n∧mm=n-i∧RunAt mzL w0 nc wr who V (RR.start nc (l.take i))∧V.tcs.length=i∧V.vo.length=i∧Blk wr gD 47 (runD nc V (RR.start nc (l.take i)))∧Blk wr (w0.heap.size+1) 47 #[.bool false,.int .i64 0,.slice none 0 0,.slice none 0 0,.slice none 0 0,.slice none 0 0,.slice none 0 0,.slice none 0 0,.slice none 0 0,.int .i64 0]∧Blk wr w0.heap.size 24 #[.int .i64 nc,.slice B n cB]∧who (w0.heap.size+1)=none
set_option maxRecDepth 100000 in
set_option maxHeartbeats 0 in
theorem Source_run (p:SrcP.Prog) (hv:RunW.ProgV p) (hw:wholeP p=true) (vt:Value) (fuel:Int) (hf0:0≤fuel) (hfu:fuel≤1000) (picks:List Int) (A:Option Addr) (cA:Nat) (hpl:picks.length≤4194304) (w:World) (h:ThreadsAt w vt p.threads) (hI:RunW.IntsAt w A picks) (hA:∀ad,A=some ad→ad.block<w.heap.size) :
  Calls Tryz.prog 11 #[.agg #[.int .i64 p.cells,vt],.slice A picks.length cA,.int .i64 fuel] w fun e w'=>∃V',e=.returned (.tuple #[.agg (runD p.cells.toNat V' ((RR.start p.cells.toNat p.threads).play p.cells.toNat fuel picks).1),.int .i64 (errN ((RR.start p.cells.toNat p.threads).play p.cells.toNat fuel picks).2)])∧Below w.heap.size w w'∧∃who',RunAt mzL w p.cells.toNat w' who' V' ((RR.start p.cells.toNat p.threads).play p.cells.toNat fuel picks).1:=by
 have hri  :=RunW.start_ri p hv hw
 have hst:=RunW.start_of p
 have hwp:=hw
 simp only[wholeP,Bool.and_eq_true,decide_eq_true_eq,List.all_eq_true]at hw
 obtain⟨⟨hw1,hw2,hw3⟩,hw4⟩:=hw
 have HT:=Lib.hid h
 obtain⟨nc,hnc⟩:∃nc:Nat,p.cells=(nc:Int):=⟨p.cells.toNat,by omega⟩
 have hnt:p.cells.toNat=nc:=by omega
 rw[hnt]at hri hst ⊢
 have hBt:Between nc (SK.start nc (p.threads.map newM)) [] []:=⟨hri,RnOk.start SK _ _,Nat.zero_le _,Nat.zero_le _,by rw[Kd.start_eq];exact Nat.zero_le _⟩
 have HBT:=Lib.hid hBt
 have HST:=Lib.hid hst
 have HW4:Hid (∀th∈p.threads,threadOk (nc:Int) th=true):=Lib.hid fun th hth=>by rw[←hnc];exact hw4 th hth
 have hncl:nc≤4096:=by omega
 obtain⟨l,hl⟩:∃l,l=p.threads:=⟨_,rfl⟩
 rw[←hl]at hw3 HT HST HW4 HBT ⊢
 have HVL:Hid (∀th∈l,∀a∈th.acts,(∀x∈a.index,x.val<M64)∧(∀x∈a.e,x.val<M64)∧(∀x∈a.f,x.val<M64)):=Lib.hid (by rw[hl];exact hv)
 have HWh:Hid (∀w2,Below w.heap.size w w2→Calls Tryz.prog 24 #[.agg #[.int .i64 (nc:Int),vt]] w2 fun r w'=>r=.returned (.bool true)∧Below w2.heap.size w2 w'):=Lib.hid fun w2 hb=>by
  have h1:=rWhole_any p vt (by rw[←hl];omega) w2 (h.below hb)
  rw[hwp,hnc]at h1
  exact h1
 rw[hnc]
 clear hri hst hwp hw1 hw2 hw4 hnt hBt h hv
 obtain⟨R,hR⟩:∃R,R=(RR.start nc l).play nc fuel picks:=⟨_,rfl⟩
 rw[←hR]
 have HR:=Lib.hid hR
 clear hR
 clear hnc hl
 obtain⟨n,hn⟩:∃n,n=l.length:=⟨_,rfl⟩
 have HN:=Lib.hid hn
 obtain⟨B,cB,rfl,hth⟩:=HT.out
 have HTH:=Lib.hid hth
 rw[←hn]at hw3 HWh ⊢
 clear hth hn HT
 have hml:(16*1048576:Nat)≤maxLen:=by decide
 have b1:¬fuel<0:=by omega
 go_enter Tryz.func11,Tryz.ntmps11
 go_upto_region 1 with fail
 obtain⟨w1,hw1⟩:∃yy:World,yy=(w.alloc (.cells #[.int .i64 nc,.slice B n cB] 24)).alloc (.cells #[.bool false,.int .i64 0,.slice none 0 0,.slice none 0 0,.slice none 0 0,.slice none 0 0,.slice none 0 0,.slice none 0 0,.slice none 0 0,.int .i64 0] 47):=⟨_,rfl⟩
 have hb1:Below w.heap.size w w1:=by rw[hw1];exact Kit.bl2
 have hP1:Blk w1 w.heap.size 24 #[.int .i64 nc,.slice B n cB]:=by rw[hw1];exact(Blk.new _ _ _).alloc _
 have hE1:Blk w1 (w.heap.size+1) 47 #[.bool false,.int .i64 0,.slice none 0 0,.slice none 0 0,.slice none 0 0,.slice none 0 0,.slice none 0 0,.slice none 0 0,.slice none 0 0,.int .i64 0]:=by rw[hw1];exact Blk.newAt (sizeA _ _) _ _
 rw[←hw1]
 clear hw1
 have kp0:w1.cell? ⟨w.heap.size,0,none⟩=some (.int .i64 nc):=hP1.cell 0
 have kp1:w1.cell? ⟨w.heap.size,1,none⟩=some (.slice B n cB):=hP1.cell 1
 have HW1:=Lib.hid (HWh.out w1 hb1)
 go_upto_region 3 with (go_at_call 24;refine HW1.out.mono ?_;rintro e w2 ⟨rfl,hb2⟩)
 clear kp0 kp1 HW1 HWh
 have hP2:=hP1.below' hb2
 have hE2:=hE1.below' hb2
 have hbw2:=hb1.trans (hb2.mono hb1.size)
 clear hP1 hE1 hb1 hb2
 have kp0:w2.cell? ⟨w.heap.size,0,none⟩=some (.int .i64 nc):=hP2.cell 0
 have kp1:w2.cell? ⟨w.heap.size,1,none⟩=some (.slice B n cB):=hP2.cell 1
 have HBg:=Lib.hid (Begin19_any nc hncl w2)
 go_upto_region 5 with (go_at_call 25;refine HBg.out.mono ?_;rintro e w3 ⟨ae,ce,rfl,hown3,hb3⟩)
 clear kp0 kp1 HBg
 have hP3:=hP2.below' hb3
 have hE3:=hE2.below' hb3
 have hbw3:=hbw2.trans (hb3.mono hbw2.size)
 obtain⟨w4,hw4⟩:∃yy:World,yy=w3.alloc (.cells #[.bool false,.int .i64 nc,.slice none 0 0,.slice ae nc ce,.slice none 0 0,.slice none 0 0,.slice none 0 0,.slice none 0 0,.slice none 0 0,.int .i64 0] 47):=⟨_,rfl⟩
 have hb34:Below w3.heap.size w3 w4:=by rw[hw4];exact Kit.bl1
 have hD4:Blk w4 w3.heap.size 47 #[.bool false,.int .i64 nc,.slice none 0 0,.slice ae nc ce,.slice none 0 0,.slice none 0 0,.slice none 0 0,.slice none 0 0,.slice none 0 0,.int .i64 0]:=by rw[hw4];exact Blk.new _ _ _
 rw[←hw4]
 clear hw4
 have hP4:=hP3.below' hb34
 have hE4:=hE3.below' hb34
 have hbw4:=hbw3.trans (hb34.mono hbw3.size)
 obtain⟨who0,hR0,hw0⟩:=RunAt.start0 mzL (w0:=w) (OwnR.own_stays hown3 fun k hk=>hb34.block k (OwnR.own_lt hown3 hk)) hbw2.size hbw4
 have hgD:w.heap.size+1<w3.heap.size:=hE3.lt
 have HLT2:Hid (w.heap.size+1<w2.heap.size):=Lib.hid hE2.lt
 clear hown3 hb3 hP2 hE2 hP3 hE3 hbw2 hbw3 hb34
 generalize w3.heap.size=gD at *
 have HR0:=Lib.hid hR0
 have HD4:=Lib.hid hD4
 have HW0:=Lib.hid (hw0 (w.heap.size+1) HLT2.out)
 clear hR0 hD4 hw0
 go_loopg [9] n (fun mm s9 wr=>SrcRel w nc gD n B cB l mm s9 wr)
 case atStart=>exact⟨0,V0 (.slice ae nc ce),who0,rfl,Nat.zero_le _,rfl,HR0.out,rfl,rfl,HD4.out,hE4,hP4,HW0.out⟩
 case round =>
  clear HR0 HD4 hE4 hP4 hbw4 HW0
  obtain⟨i,V,who,rfl,hi,hmm,hR,hVt,hVo,hD,hE,hP,hwE⟩:=hrel
  have HWE:=Lib.hid hwE
  clear hwE
  have HM:=Lib.hid hmm
  clear hmm
  by_cases hke:i<n
  ·have q1:(i:Int)<(n:Int):=by omega
   have q2:(0:Int)≤(i:Int):=by omega
   obtain⟨th,hth⟩:∃th,l[i]?=some th:=⟨_,Kit.eG (by rw[←HN.out];exact hke)⟩
   obtain⟨ad,va,rfl,hC,hac,_⟩:=HTH.out i th hth
   have hmem:th∈l:=List.mem_of_getElem? hth
   have hok:=RunW.newM_ok (HW4.out th hmem) (HVL.out th hmem)
   have hto:=HW4.out th hmem
   simp only[threadOk,Bool.and_eq_true,decide_eq_true_eq]at hto
   obtain⟨⟨ht1,ht2,_⟩,_⟩:=hto
   obtain⟨lc,hlc⟩:∃lc:Nat,th.locals=(lc:Int):=⟨th.locals.toNat,by omega⟩
   have HAC:=Lib.hid hac
   obtain⟨D,cD,hva,_⟩:=hac
   have HOK:=Lib.hid hok
   have HTI:=Lib.hid hth
   rw[hva]at hC HAC
   rw[hlc]at hC
   clear hok hth
   obtain⟨r,hr⟩:∃r,r=RR.start nc (l.take i):=⟨_,rfl⟩
   rw[←hr]at hR hD
   have HRR:=Lib.hid hr
   clear hr
   obtain⟨aT,cT,ae,ce,af,cf,am,cm,ao,co,al,cl,ap,cp,hvT,hve,hvf,hvm,hvo,hvl,hvp⟩:=hR.slices
   have HV:=Lib.hid (And.intro hvT (And.intro hve (And.intro hvf (And.intro hvm (And.intro hvo (And.intro hvl hvp))))))
   unfold runD at hD
   simp only[hvT,hve,hvf,hvm,hvo,hvl,hvp,hVt,hVo]at hD
   have HVT:=Lib.hid hVt
   have HVO:=Lib.hid hVo
   clear hvT hve hvf hvm hvo hvl hvp hVt hVo
   have hbr:=hR.start
   have kp1:wr.cell? ⟨w.heap.size,1,none⟩=some (.slice (some ad) n cB):=hP.cell 1
   obtain⟨S,hS⟩:∃S:Nat→Prop,∀k,S k↔(Value.slice aT i cT).ownBlock=some k:=⟨_,fun _=>Iff.rfl⟩
   have HSS:=Lib.hid hS
   clear hS
   have hoT:=hR.own .thr
   simp only[dT,dS,DV.val,dN,dX]at hoT
   rw[HV.out.1,HVT.out]at hoT
   have HOT:=Lib.hid hoT
   clear hoT
   have HND:Hid (¬S gD):=Lib.hid fun e=>OwnR.own_type HOT.out hD (by decide) ((HSS.out _).1 e)
   have HNP:Hid (¬S w.heap.size):=Lib.hid fun e=>OwnR.own_type HOT.out hP (by decide) ((HSS.out _).1 e)
   have HNA:Hid (¬S ad.block):=Lib.hid fun e=>by
    have h1:=OwnR.own_base HOT.out ((HSS.out _).1 e)
    have h2:=World.block_lt_of_cell? w _ (hC 0 _ rfl)
    simp only[OwnR.block_add]at h2
    omega
   have hCr:=hC.below hbr
   have halt:ad.block<wr.heap.size:=by
    have h2:=World.block_lt_of_cell? w _ (hC 0 _ rfl)
    simp only[OwnR.block_add]at h2
    exact Nat.lt_of_lt_of_le h2 hbr.size
   have HCR:=Lib.hid hCr
   clear hC hCr
   have c2:∀p':Cls (KeptS S wr),p'.w.cell? ⟨gD,2,none⟩=some (.slice aT i cT):=fun p'=>Blk.cell (p'.h.blk hD HND.out) 2
   have cp1:∀p':Cls (KeptS S wr),p'.w.cell? ⟨w.heap.size,1,none⟩=some (.slice (some ad) n cB):=fun p'=>Blk.cell (p'.h.blk hP HNP.out) 1
   have ct0:∀p':Cls (KeptS S wr),p'.w.cell? (ad.add (i*2))=some (.int .i64 lc):=fun p'=>by
    rw[World.cell?_of_block (w:=wr) (p'.h.2.2.2.2 _ (by rw[OwnR.block_add];exact halt) (by rw[OwnR.block_add];exact HNA.out))]
    exact HCR.out 0 _ rfl
   have ct1:∀p':Cls (KeptS S wr),p'.w.cell? ⟨(ad.add (i*2)).block,(ad.add (i*2)).off+1,none⟩=some (.slice D th.acts.length cD):=fun p' =>
    (show p'.w.cell? ⟨(ad.add (i*2)).block,(ad.add (i*2)).off+1,none⟩=wr.cell? ⟨(ad.add (i*2)).block,(ad.add (i*2)).off+1,none⟩from World.cell?_of_block (p'.h.2.2.2.2 _ (show(ad.add (i*2)).block<_ by rw[OwnR.block_add];exact halt) (show ¬S (ad.add (i*2)).block by rw[OwnR.block_add];exact HNA.out))).trans (HCR.out 1 _ rfl)
   have hne:Nonempty (Cls (KeptS S wr)):=⟨⟨wr,KeptS.refl _ _⟩⟩
   have hbd:Below wr.heap.size wr (wr.drewN 1):=Below_drewN _ 1
   go_upto_region 7 with fail
   clear kp1
   refine wp_region_float_at (KeptS S wr) 11 4 [0,1,2,3,4,5,6] [] (KeptS.of_below hbd) (by kernel_rfl) (by kernel_rfl) ?_
   intro hne'
   simp only[pickL,List.map_cons,List.map_nil,List.getElem?_cons_succ,List.getElem?_cons_zero,Option.getD_some]
   repeat (go_big_quiet_step (fail))
   refine wpQuiet_nil ?_
   clear c2 cp1 ct0 ct1 hne hne'
   have HB13:=Lib.hid (Begin13_any lc (by omega) D th.acts.length cD (wr.drewN 1))
   generalize wr.drewN 1=wd at *
   refine fG (i:=7) rfl ?_
   go_wp2_with (go_at_call 26;refine HB13.out.mono ?_;rintro e w5 ⟨vl,rfl,hU5,hb5⟩)
   have hbr5:Below wr.heap.size wr w5:=hbd.trans (hb5.mono hbd.size)
   clear HB13 hb5
   refine onG_mk (fun _=>⟨⟨_,KeptS.of_below hbr5⟩,rfl⟩) ?_
   obtain⟨L,dL,hvl,_⟩:=U64O.mk_ hU5
   rw[List.length_replicate]at hvl
   subst hvl
   refine fG (i:=8) rfl ?_
   go_wp2_with fail
   refine onG_mk (fun _=>⟨⟨_,KeptS.of_below hbr5⟩,rfl⟩) ?_
   refine fG (i:=9) rfl ?_
   go_wp2_with fail
   obtain⟨x,hx⟩:∃x:TC,x=⟨(lc:Int),.slice D th.acts.length cD,⟨th.acts,0,List.replicate lc 0⟩,.slice L lc dL,[],.slice none 0 0,lc⟩:=⟨_,rfl⟩
   have hcells:(thC mzL x).toArray=#[.int .i64 (lc:Int),.slice D th.acts.length cD,.int .i64 0,.slice L lc dL,.slice none 0 0,.int .i64 0,.int .u64 0,.slice none 0 0,.int .u64 0,.slice none 0 0,.int .u64 0,.slice none 0 0,.int .u64 0,.slice none 0 0,.int .u64 0,.slice none 0 0,.int .u64 0,.slice none 0 0,.int .u64 0,.slice none 0 0,.int .u64 0,.slice none 0 0,.int .u64 0,.slice none 0 0,.int .u64 0,.slice none 0 0,.int .u64 0,.slice none 0 0,.int .u64 0,.slice none 0 0,.int .u64 0,.slice none 0 0,.int .u64 0,.slice none 0 0,.int .u64 0,.slice none 0 0,.int .u64 0,.slice none 0 0,.int .u64 0,.slice none 0 0,.int .u64 0,.slice none 0 0,.int .u64 0,.slice none 0 0,.int .u64 0,.slice none 0 0,.int .u64 0,.slice none 0 0,.int .u64 0,.slice none 0 0,.int .u64 0,.slice none 0 0,.int .u64 0,.slice none 0 0,.int .u64 0,.slice none 0 0,.int .u64 0,.slice none 0 0,.int .u64 0,.slice none 0 0,.int .u64 0,.slice none 0 0,.int .u64 0,.slice none 0 0,.int .u64 0,.slice none 0 0,.int .u64 0,.slice none 0 0,.int .u64 0,.slice none 0 0,.bool false,.bool false,.bool false,.bool false,.slice none 0 0,.slice none 0 0,.bool false,.int .i64 0,.int .i64 0,.int .i64 0,.int .i64 0,.int .i64 0,.slice none 0 0,.slice none 0 0,.slice none 0 0,.slice none 0 0,.slice none 0 0,.slice none 0 0,.int .i64 0,.bool false,.int .i64 0,.int .i64 0,.int .i64 0,.int .u64 0,.bool false,.bool false,.slice none 0 0,.slice none 0 0,.int .i64 0,.slice none 0 0,.int .i64 (-1)]:=by rw[hx];kernel_rfl
   have HCL:=Lib.hid hcells
   clear hcells
   obtain⟨w6,hw6⟩:∃yy:World,yy=w5.alloc (.cells #[.int .i64 (lc:Int),.slice D th.acts.length cD,.int .i64 0,.slice L lc dL,.slice none 0 0,.int .i64 0,.int .u64 0,.slice none 0 0,.int .u64 0,.slice none 0 0,.int .u64 0,.slice none 0 0,.int .u64 0,.slice none 0 0,.int .u64 0,.slice none 0 0,.int .u64 0,.slice none 0 0,.int .u64 0,.slice none 0 0,.int .u64 0,.slice none 0 0,.int .u64 0,.slice none 0 0,.int .u64 0,.slice none 0 0,.int .u64 0,.slice none 0 0,.int .u64 0,.slice none 0 0,.int .u64 0,.slice none 0 0,.int .u64 0,.slice none 0 0,.int .u64 0,.slice none 0 0,.int .u64 0,.slice none 0 0,.int .u64 0,.slice none 0 0,.int .u64 0,.slice none 0 0,.int .u64 0,.slice none 0 0,.int .u64 0,.slice none 0 0,.int .u64 0,.slice none 0 0,.int .u64 0,.slice none 0 0,.int .u64 0,.slice none 0 0,.int .u64 0,.slice none 0 0,.int .u64 0,.slice none 0 0,.int .u64 0,.slice none 0 0,.int .u64 0,.slice none 0 0,.int .u64 0,.slice none 0 0,.int .u64 0,.slice none 0 0,.int .u64 0,.slice none 0 0,.int .u64 0,.slice none 0 0,.int .u64 0,.slice none 0 0,.bool false,.bool false,.bool false,.bool false,.slice none 0 0,.slice none 0 0,.bool false,.int .i64 0,.int .i64 0,.int .i64 0,.int .i64 0,.int .i64 0,.slice none 0 0,.slice none 0 0,.slice none 0 0,.slice none 0 0,.slice none 0 0,.slice none 0 0,.int .i64 0,.bool false,.int .i64 0,.int .i64 0,.int .i64 0,.int .u64 0,.bool false,.bool false,.slice none 0 0,.slice none 0 0,.int .i64 0,.slice none 0 0,.int .i64 (-1)] 94):=⟨_,rfl⟩
   refine onG_alloc #[.int .i64 (lc:Int),.slice D th.acts.length cD,.int .i64 0,.slice L lc dL,.slice none 0 0,.int .i64 0,.int .u64 0,.slice none 0 0,.int .u64 0,.slice none 0 0,.int .u64 0,.slice none 0 0,.int .u64 0,.slice none 0 0,.int .u64 0,.slice none 0 0,.int .u64 0,.slice none 0 0,.int .u64 0,.slice none 0 0,.int .u64 0,.slice none 0 0,.int .u64 0,.slice none 0 0,.int .u64 0,.slice none 0 0,.int .u64 0,.slice none 0 0,.int .u64 0,.slice none 0 0,.int .u64 0,.slice none 0 0,.int .u64 0,.slice none 0 0,.int .u64 0,.slice none 0 0,.int .u64 0,.slice none 0 0,.int .u64 0,.slice none 0 0,.int .u64 0,.slice none 0 0,.int .u64 0,.slice none 0 0,.int .u64 0,.slice none 0 0,.int .u64 0,.slice none 0 0,.int .u64 0,.slice none 0 0,.int .u64 0,.slice none 0 0,.int .u64 0,.slice none 0 0,.int .u64 0,.slice none 0 0,.int .u64 0,.slice none 0 0,.int .u64 0,.slice none 0 0,.int .u64 0,.slice none 0 0,.int .u64 0,.slice none 0 0,.int .u64 0,.slice none 0 0,.int .u64 0,.slice none 0 0,.int .u64 0,.slice none 0 0,.bool false,.bool false,.bool false,.bool false,.slice none 0 0,.slice none 0 0,.bool false,.int .i64 0,.int .i64 0,.int .i64 0,.int .i64 0,.int .i64 0,.slice none 0 0,.slice none 0 0,.slice none 0 0,.slice none 0 0,.slice none 0 0,.slice none 0 0,.int .i64 0,.bool false,.int .i64 0,.int .i64 0,.int .i64 0,.int .u64 0,.bool false,.bool false,.slice none 0 0,.slice none 0 0,.int .i64 0,.slice none 0 0,.int .i64 (-1)] (by kernel_rfl) ?_
   rw[←hw6]
   have hb6:Below w5.heap.size w5 w6:=by rw[hw6];exact Kit.bl1
   have hN6:Blk w6 w5.heap.size 94 (List.toArray (thC mzL x)):=by rw[HCL.out,hw6];exact Blk.new _ _ _
   clear HCL
   have hone:∀u∈thC mzL x,u.oneCell'=true:=by
    rw[hx]
    intro u hu
    simp only[thC,stC,List.mem_append,List.mem_cons,List.not_mem_nil,or_false]at hu
    rcases hu with (rfl | rfl | rfl | rfl) | hu | rfl | rfl
    any_goals rfl
    exact List.all_eq_true.1 mzL_one u hu
   have XD:=Lib.hid hx
   clear hw6 hx
   have hbr6:=hbr5.trans (hb6.mono hbr5.size)
   have HOT6:=Lib.hid (OwnR.own_stays HOT.out fun k hk=>hbr6.block k (OwnR.own_lt HOT.out hk))
   have hR6:=hR.below hbr6
   have hU6:=hU5.below hb6
   have hD6:=hD.below' hbr6
   have hE6:=hE.below' hbr6
   have hP6:=hP.below' hbr6
   have HE6L:=Lib.hid hE6.lt
   have hbs:=hR6.start.size
   obtain⟨i0,z0,hi0,hz0,hz1,hz2,hz3⟩:=th_parts
   have hHB:(i+1)*i0.bytes≤140737488355328:=Nat.le_trans (Nat.mul_le_mul (show i+1≤65 by omega) hz2) (by decide)
   have HDN:=Lib.hid (OwnR.own_type HOT6.out hD6 (by decide))
   refine onG_mk (fun _=>⟨⟨_,KeptS.of_below hbr6⟩,rfl⟩) ?_
   refine fG (i:=10) rfl ?_
   refine wpList_append_lies _ (by rfl) _ _ _ (by rfl) w.heap.size 94 i0 z0 101 i0.bytes Tryz.underlying45 hi0 hz0 hz1 rfl hz3 (by omega) _ i _ (by rfl) HOT6.out ⟨w5.heap.size,0,none⟩ 1 1 (thC mzL x) (by rfl) (by rw[thC_len mzL_len]) (RunW.news_one hN6) hone (by omega) (by omega) hHB hbs _ rfl ?_
   intro g8 cap8 w8 hown8 hgrow8 hat8 hlt8
   have hC8:KeptS S wr w8:=RunW.kept_grown (KeptS.of_below hbr6) hgrow8 (fun k hk=>(HSS.out k).2 hk)
   have hD8:=hD6.grown hgrow8 HDN.out
   have hE8:=hE6.grown hgrow8 (OwnR.own_type HOT6.out hE6 (by decide))
   have hP8:=hP6.grown hgrow8 (OwnR.own_type HOT6.out hP6 (by decide))
   obtain⟨who8,hR8,hwho8⟩:=hR6.app_thr x (g8:=g8) (cap8:=cap8) (by rw[HVT.out];exact hown8) (by rw[HV.out.1,HVT.out];exact hgrow8) (by rw[HV.out.1,HVT.out];exact hat8.imp id (fun e=>by rw[e];have:=hb6.size;have:=hN6.lt;omega)) (by rw[XD.out];exact HAC.out) (by rw[XD.out];exact hU6) (by rw[XD.out];show SrcP.MchW nc lc _;have h1:=HOK.out.toMchW;rw[show th.locals.toNat=lc by omega]at h1;rw[show(⟨th.acts,0,List.replicate lc 0⟩:RS).m=newM th by unfold newM RS.m;rw[show th.locals.toNat=lc by omega]];exact h1) (by rw[XD.out]) (by rw[XD.out])
   clear hone hN6 hb6 hbr6 hbr5 hbd hU5 hU6 hR6 hD6 hE6 hP6 hgrow8 hat8 hlt8 hown8 HDN HOT6 hHB hi0 hz0 hz1 hz2 hz3 hbs hR hD hE hP halt
   refine Kit.oG hC8 ?_
   refine(show tailG _ _ _ _ _ _ _ from⟨by kernel_rfl,?_⟩)
   simp only[List.drop_succ_cons,List.drop_zero]
   have c2:w8.cell? ⟨gD,2,none⟩=some (.slice aT i cT):=Blk.cell hD8 2
   have cf:=fun j=>Blk.frozen hD8 j
   go_upto_region 8 with fail
   clear c2 cf
   obtain⟨w9,hw9⟩:∃yy:World,yy=w8.setCell ⟨gD,2,none⟩ (.slice (some ⟨g8,0,none⟩) (i+1) cap8):=⟨_,rfl⟩
   rw[←hw9]
   have hk9:KeptS (fun k=>k=gD) w8 w9:=by rw[hw9];exact(KeptS.refl (fun k=>k=gD) w8).set rfl _ _
   have hD9:Blk w9 gD 47 #[.bool false,.int .i64 nc,.slice (some ⟨g8,0,none⟩) (i+1) cap8,.slice ae r.events.length ce,.slice af r.rf.length cf,.slice am r.rmw.length cm,.slice ao i co,.slice al r.log.length cl,.slice ap r.picks.length cp,.int .i64 r.used]:=by rw[hw9];exact hD8.set 2 _
   have hE9:=hk9.blk hE8 (by omega)
   have hP9:=hk9.blk hP8 (by omega)
   have hR9:=hR8.other hD8 (fun q=>by cases q <;> decide) (by decide) (by omega) hk9
   have HWE8:Hid (who8 (w.heap.size+1)=none):=Lib.hid ((hwho8 _ HE6L.out).trans HWE.out)
   clear hw9 hk9 hD8 hE8 hP8 hR8 hC8 hwho8
   obtain⟨V2,hV2⟩:∃y:DV,y = { V with thr:=.slice (some ⟨g8,0,none⟩) (V.tcs.length+1) cap8,tcs:=V.tcs++[x] }:=⟨_,rfl⟩
   obtain⟨r2,hr2⟩:∃y:RR,y = { r with ths:=r.ths++[x.rt] }:=⟨_,rfl⟩
   rw[←hV2,←hr2]at hR9
   have HV2:=Lib.hid hV2
   have HR2:=Lib.hid hr2
   clear hV2 hr2
   have hov:V2.outs=.slice ao i co:=by rw[HV2.out];show V.outs=_;rw[HV.out.2.2.2.2.1,HVO.out]
   have hvl:V2.vo.length=i:=by rw[HV2.out];exact HVO.out
   have k6:w9.cell? ⟨gD,6,none⟩=some (.slice ao i co):=Blk.cell hD9 6
   have hba:Below w9.heap.size w9 (w9.alloc (.cells #[.slice none 0 0] 32)):=Kit.bl1
   have hNa:Blk (w9.alloc (.cells #[.slice none 0 0] 32)) w9.heap.size 32 (List.toArray [Value.slice none 0 0]):=Blk.new _ _ _
   have hRa:=hR9.below hba
   have hoa:=hRa.own .outs
   simp only[dT,dS,DV.val,dN,dX]at hoa
   rw[hov,hvl]at hoa
   have HOA:=Lib.hid hoa
   have HDa:=Lib.hid (hD9.below' hba)
   have HEa:=Lib.hid (hE9.below' hba)
   have HPa:=Lib.hid (hP9.below' hba)
   have HDN:=Lib.hid (OwnR.own_type HOA.out HDa.out (by decide))
   have HRa:=Lib.hid hRa
   have HOV:=Lib.hid hov
   have HVL:=Lib.hid hvl
   have hbs:=hRa.start.size
   obtain⟨j0,hj0,hjz0,hjz1,hjz2⟩:=info_parts RunW.info_u64s
   clear hoa hRa hov hvl hR9 hD9 hE9 hP9
   go_wp2_with (at_builtin;refine wpList_append_lies _ (by rfl) _ _ _ (by rfl) w.heap.size 32 j0 _ 1 24 Tryz.underlying33 hj0 hjz0 hjz1 hjz2 rfl (by omega) _ i _ (by rfl) HOA.out ⟨w9.heap.size,0,none⟩ 1 1 [Value.slice none 0 0] (by rfl) rfl (RunW.news_one hNa) (RunW.one_one rfl) (by omega) (by omega) (by omega) hbs _ rfl ?_;intro g10 cap10 w10 hown10 hgrow10 hat10 hlt10;have c6:w10.cell? ⟨gD,6,none⟩=some (.slice ao i co):=Blk.cell (HDa.out.grown hgrow10 HDN.out) 6;have cf6:=Blk.frozen (HDa.out.grown hgrow10 HDN.out) 6)
   have hD10:=HDa.out.grown hgrow10 HDN.out
   have hE10:=HEa.out.grown hgrow10 (OwnR.own_type HOA.out HEa.out (by decide))
   have hP10:=HPa.out.grown hgrow10 (OwnR.own_type HOA.out HPa.out (by decide))
   obtain⟨who10,hR10,hwho10⟩:=HRa.out.app_outs (g8:=g10) (cap8:=cap10) (by rw[HVL.out];exact hown10) (by rw[HOV.out];exact hgrow10) (by rw[HOV.out];exact hat10.imp id (fun e=>by rw[e];exact Nat.le_refl _))
   clear c6 cf6 k6
   have hk11:KeptS (fun k=>k=gD) w10 (w10.setCell ⟨gD,6,none⟩ (.slice (some ⟨g10,0,none⟩) (i+1) cap10)):=(KeptS.refl (fun k=>k=gD) w10).set rfl _ _
   have hR11:=hR10.other hD10 (fun q=>by cases q <;> decide) (by decide) (by omega) hk11
   have hD11:=hD10.set 6 (.slice (some ⟨g10,0,none⟩) (i+1) cap10)
   have hE11:=hk11.blk hE10 (by omega)
   have hP11:=hk11.blk hP10 (by omega)
   go_roundg (n-(i+1))
   case measure=>have:=HM.out;omega
   case rel =>
    have hrs:RR.start nc (l.take (i+1)) = { r2 with outs:=r2.outs++[[]] }:=by
     rw[List.take_add_one,HTI.out,Option.toList_some,start_snoc,HR2.out,HRR.out,XD.out]
     simp only[TC.rt]
     rw[show th.locals.toNat=lc by omega]
    refine⟨i+1,_,who10,by push_cast;rfl,hke,rfl,by rw[hrs];exact hR11,by rw[HV2.out];show(V.tcs++[x]).length=_;rw[List.length_append,HVT.out];rfl,by show(V2.vo++[_]).length=_;rw[List.length_append,HVL.out];rfl,?_,hE11,hP11,(hwho10 _ HEa.out.lt).trans HWE8.out⟩
    refine Eq.trans hD11 ?_
    rw[hrs]
    unfold runD
    rw[HVL.out,HV2.out,HR2.out,HVT.out]
    obtain⟨c1,c2,c3,c4,c5,c6,c7⟩:=HV.out
    rw[c2,c3,c4,c6,c7]
    rfl
  ·obtain rfl:i=n:=by omega
   have q1:¬((i:Int)<(i:Int)):=by omega
   rw[HN.out,List.take_length]at hR hD
   obtain⟨r,hr⟩:∃r,r=RR.start nc l:=⟨_,rfl⟩
   have HRS:Hid (r=RR.of (SK.start nc (l.map newM)) [] []):=Lib.hid (hr.trans HST.out)
   have HRR:Hid (R=r.play nc fuel picks):=Lib.hid (by rw[hr];exact HR.out)
   rw[←hr]at hR hD
   clear hr
   have HRUN:=Lib.hid hR
   obtain⟨aT,cT,ae,ce,af,cf,am,cm,ao,co,al,cl,ap,cp,hvT,hve,hvf,hvm,hvo,hvl,hvp⟩:=hR.slices
   have hrd:runD nc V r=#[.bool false,.int .i64 nc,.slice aT V.tcs.length cT,.slice ae r.events.length ce,.slice af r.rf.length cf,.slice am r.rmw.length cm,.slice ao V.vo.length co,.slice al r.log.length cl,.slice ap r.picks.length cp,.int .i64 r.used]:=by unfold runD;rw[hvT,hve,hvf,hvm,hvo,hvl,hvp]
   have HRD:=Lib.hid hrd
   rw[hrd]at hD
   clear hrd hvT hve hvf hvm hvo hvl hvp hVt hVo hR
   have kp1:wr.cell? ⟨w.heap.size,1,none⟩=some (.slice B i cB):=hP.cell 1
   obtain⟨d0,d1,d2,d3,d4,d5,d6,d7,d8,d9⟩:=Kit.cells10 hD
   have HPl:Hid (Calls Tryz.prog 27 #[.agg #[.bool false,.int .i64 nc,.slice aT V.tcs.length cT,.slice ae r.events.length ce,.slice af r.rf.length cf,.slice am r.rmw.length cm,.slice ao V.vo.length co,.slice al r.log.length cl,.slice ap r.picks.length cp,.int .i64 r.used],.slice A picks.length cA,.int .i64 fuel] wr fun e w'=>∃V',e=.returned (.tuple #[.agg (runD nc V' R.1),.int .i64 (errN R.2)])∧DRet mzL w nc wr who w' V' R.1):=Lib.hid (by
    have h1:=HRUN.out
    rw[HRS.out]at h1
    have h2:=Play_any mzL_len mzL_one hncl HBT.out h1 picks A cA hI hA hpl fuel hfu
    rw[←HRS.out,HRD.out,←HRR.out]at h2
    exact h2)
   have hnE:who (w.heap.size+1)=none:=HWE.out
   go_wp2_with (go_at_call 27;refine HPl.out.mono ?_;rintro e w5 ⟨V1,rfl,hDR⟩;obtain⟨⟨who3,hR5,hwh5⟩,hk5⟩:=hDR;unfold runD;obtain⟨aT1,cT1,ae1,ce1,af1,cf1,am1,cm1,ao1,co1,al1,cl1,ap1,cp1,hvT1,hve1,hvf1,hvm1,hvo1,hvl1,hvp1⟩:=hR5.slices;simp only[hvT1,hve1,hvf1,hvm1,hvo1,hvl1,hvp1];have HV1:=Lib.hid (And.intro hvT1 (And.intro hve1 (And.intro hvf1 (And.intro hvm1 (And.intro hvo1 (And.intro hvl1 hvp1))))));clear hvT1 hve1 hvf1 hvm1 hvo1 hvl1 hvp1;have hE5:=hk5.blk hE (fun e=>e hnE);obtain⟨y0,y1,y2,y3,y4,y5,y6,y7,y8,y9⟩:=Kit.cells10 hE5;have zf:=fun j=>Blk.frozen hE5 j)
   clear zf y0 y1 y2 y3 y4 y5 y6 y7 y8 y9 d0 d1 d2 d3 d4 d5 d6 d7 d8 d9 kp1
   refine(show bodyPost _ _ _ _ _ (RunW.putL w5 (w.heap.size+1) 0 [.bool false,.int .i64 nc,.slice aT1 V1.tcs.length cT1,.slice ae1 R.1.events.length ce1,.slice af1 R.1.rf.length cf1,.slice am1 R.1.rmw.length cm1,.slice ao1 V1.vo.length co1,.slice al1 R.1.log.length cl1,.slice ap1 R.1.picks.length cp1,.int .i64 R.1.used])from RunW.putL_go hE5 rfl fun wf hEf hkf=>?_)
   obtain⟨e0,e1,e2,e3,e4,e5,e6,e7,e8,e9⟩:=Kit.cells10 hEf
   refine bodyPost_ret (v:=.tuple #[.agg #[.bool false,.int .i64 nc,.slice aT1 V1.tcs.length cT1,.slice ae1 R.1.events.length ce1,.slice af1 R.1.rf.length cf1,.slice am1 R.1.rmw.length cm1,.slice ao1 V1.vo.length co1,.slice al1 R.1.log.length cl1,.slice ap1 R.1.picks.length cp1,.int .i64 R.1.used],.int .i64 (errN R.2)]) (by simp[results,Tryz.results11,go_sem,e0,e1,e2,e3,e4,e5,e6,e7,e8,e9]) rfl ?_
   have hRf:=hR5.other hE5 (fun q=>by cases q <;> decide) (by decide) (Nat.le_succ _) hkf
   obtain⟨c1,c2,c3,c4,c5,c6,c7⟩:=HV1.out
   exact⟨V1,by unfold runD;rw[c1,c2,c3,c4,c5,c6,c7],hRf.start,who3,hRf⟩
set_option maxRecDepth 100000 in
set_option maxHeartbeats 0 in
theorem Source_bad (p:SrcP.Prog) (vt:Value) (hlen:p.threads.length≤1048576) (fuel:Int) (hbad:fuel<0∨wholeP p=false) (w:World) (h:ThreadsAt w vt p.threads) (A:Option Addr) (n cA:Nat) :
  Calls Tryz.prog 11 #[.agg #[.int .i64 p.cells,vt],.slice A n cA,.int .i64 fuel] w fun e w'=>e=.returned (.tuple #[.agg #[.bool false,.int .i64 0,.slice none 0 0,.slice none 0 0,.slice none 0 0,.slice none 0 0,.slice none 0 0,.slice none 0 0,.slice none 0 0,.int .i64 0],.int .i64 1])∧Below w.heap.size w w':=by
 have HWh:Hid (∀w2,Below w.heap.size w w2→Calls Tryz.prog 24 #[.agg #[.int .i64 p.cells,vt]] w2 fun r w'=>r=.returned (.bool (wholeP p))∧Below w2.heap.size w2 w'):=Lib.hid fun w2 hb=>rWhole_any p vt hlen w2 (h.below hb)
 obtain⟨B,cB,rfl,_⟩:=h
 go_enter Tryz.func11,Tryz.ntmps11
 go_upto_region 1 with fail
 obtain⟨w1,hw1⟩:∃yy:World,yy=(w.alloc (.cells #[.int .i64 p.cells,.slice B p.threads.length cB] 24)).alloc (.cells #[.bool false,.int .i64 0,.slice none 0 0,.slice none 0 0,.slice none 0 0,.slice none 0 0,.slice none 0 0,.slice none 0 0,.slice none 0 0,.int .i64 0] 47):=⟨_,rfl⟩
 have hb1:Below w.heap.size w w1:=by rw[hw1];exact Kit.bl2
 have hP1:Blk w1 w.heap.size 24 #[.int .i64 p.cells,.slice B p.threads.length cB]:=by rw[hw1];exact(Blk.new _ _ _).alloc _
 have hE1:Blk w1 (w.heap.size+1) 47 #[.bool false,.int .i64 0,.slice none 0 0,.slice none 0 0,.slice none 0 0,.slice none 0 0,.slice none 0 0,.slice none 0 0,.slice none 0 0,.int .i64 0]:=by rw[hw1];exact Blk.newAt (sizeA _ _) _ _
 rw[←hw1]
 clear hw1
 have kp0:w1.cell? ⟨w.heap.size,0,none⟩=some (.int .i64 p.cells):=hP1.cell 0
 have kp1:w1.cell? ⟨w.heap.size,1,none⟩=some (.slice B p.threads.length cB):=hP1.cell 1
 by_cases hf:fuel<0
 ·clear hbad HWh
  obtain⟨y0,y1,y2,y3,y4,y5,y6,y7,y8,y9⟩:=Kit.cells10 hE1
  have zf:=fun j=>Blk.frozen hE1 j
  go_wp2_with fail
  clear zf y0 y1 y2 y3 y4 y5 y6 y7 y8 y9 kp0 kp1
  refine(show bodyPost _ _ _ _ _ (RunW.putL w1 (w.heap.size+1) 0 [.bool false,.int .i64 0,.slice none 0 0,.slice none 0 0,.slice none 0 0,.slice none 0 0,.slice none 0 0,.slice none 0 0,.slice none 0 0,.int .i64 0])from RunW.putL_go hE1 rfl fun wf hEf hkf=>?_)
  obtain⟨e0,e1,e2,e3,e4,e5,e6,e7,e8,e9⟩:=Kit.cells10 hEf
  exact bodyPost_ret (v:=.tuple #[.agg #[.bool false,.int .i64 0,.slice none 0 0,.slice none 0 0,.slice none 0 0,.slice none 0 0,.slice none 0 0,.slice none 0 0,.slice none 0 0,.int .i64 0],.int .i64 1]) (by simp[results,Tryz.results11,go_sem,e0,e1,e2,e3,e4,e5,e6,e7,e8,e9]) rfl ⟨rfl,NewW.kept_below hb1 hkf (fun j hj=>by rw[hj];exact Nat.le_succ _)⟩
 ·have hw:wholeP p=false:=hbad.resolve_left hf
  rw[hw]at HWh
  have HW1:=Lib.hid (HWh.out w1 hb1)
  clear hbad HWh hw
  go_upto_region 2 with (go_at_call 24;refine HW1.out.mono ?_;rintro e w2 ⟨rfl,hb2⟩)
  have hE2:=hE1.below' hb2
  have hbw2:=hb1.trans (hb2.mono hb1.size)
  clear kp0 kp1
  obtain⟨y0,y1,y2,y3,y4,y5,y6,y7,y8,y9⟩:=Kit.cells10 hE2
  have zf:=fun j=>Blk.frozen hE2 j
  go_wp2_with fail
  clear zf y0 y1 y2 y3 y4 y5 y6 y7 y8 y9
  refine(show bodyPost _ _ _ _ _ (RunW.putL w2 (w.heap.size+1) 0 [.bool false,.int .i64 0,.slice none 0 0,.slice none 0 0,.slice none 0 0,.slice none 0 0,.slice none 0 0,.slice none 0 0,.slice none 0 0,.int .i64 0])from RunW.putL_go hE2 rfl fun wf hEf hkf=>?_)
  obtain⟨e0,e1,e2,e3,e4,e5,e6,e7,e8,e9⟩:=Kit.cells10 hEf
  exact bodyPost_ret (v:=.tuple #[.agg #[.bool false,.int .i64 0,.slice none 0 0,.slice none 0 0,.slice none 0 0,.slice none 0 0,.slice none 0 0,.slice none 0 0,.slice none 0 0,.int .i64 0],.int .i64 1]) (by simp[results,Tryz.results11,go_sem,e0,e1,e2,e3,e4,e5,e6,e7,e8,e9]) rfl ⟨rfl,NewW.kept_below hbw2 hkf (fun j hj=>by rw[hj];exact Nat.le_succ _)⟩
end Go.Proofs.YtmjilfamjlnigaaGreat.RefW
