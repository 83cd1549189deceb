/- WALKS: what a play tells is held against the document's own run (chapter 19). -/
import Derived.Test.YtmjilfamjlnigaaGreatQ49
import Derived.Test.YtmjilfamjlnigaaGreatQ44
namespace Go.Proofs.YtmjilfamjlnigaaGreat.RefW
open Go Go.RowKit Kit SrcP SrcW Go.Proofs.YtmjilfamjlnigaaGreat.MchW
theorem playQ_keep {S:Nat→Prop} {lo:Nat} {w w':World} {Q:LawW.SL} {x:Rn Mch} (h:LawW.PlayQ lo w Q x) (hk:KeptS S w w') (hS:∀k,S k→k<lo):LawW.PlayQ lo w' Q x:=by
 have st:∀{e size n:Nat} {v:Value} {xs:List Value},w.ownsRow lo e size v n xs→w'.ownsRow lo e size v n xs:=fun ho =>
  OwnR.own_stays ho fun k hk2=>hk.2.2.2.2 k (OwnR.own_lt ho hk2) (fun s=>by have h1:=OwnR.own_base ho hk2;have h2:=hS k s;omega)
 exact⟨st h.ev,st h.rf,st h.rmw,st h.co,h.col,fun c=>st (h.coi c),st h.cells,st h.outs,h.outl,fun c=>st (h.outi c),st h.hv⟩
theorem cells_ok {nc:Nat} {x:Rn Mch} (h:RI nc x) (hr:RnOk nc x):CellsOk x.events x.cells:=fun c hc=>by
 rw[hr.cells]at hc
 obtain⟨h1,h2,_⟩:=h.mem.at_ c hc
 have h3:x.cells[c]?=some (x.cells.getD c 0):=by
  rw[Kit.gD,Kit.eG (by rw[hr.cells];exact hc)]
  rfl
 refine⟨_,h1,?_,h2.trans h3.symm⟩
 cases he:x.events[x.last.getD c 0]? with
 | none=>rw[he]at h2;cases h2
 | some e=>exact(List.getElem?_eq_some_iff.1 he).1
theorem setths_get (r:RR) (t u:Nat) (h:t≠u) (s:RS):(r.setS t s).ths[u]?=r.ths[u]?:=by
 unfold RR.setS
 simp[h]
def SeenRel (mz:List Value) (w0:World) (nc:Nat) (w w1:World) (who:Nat→Option Dq) (V:DV) (x:Rn Mch) (Q:LawW.SL) (Dc:Array Value) (mm:Nat) (s5:Value) (wr:World):Prop :=
 ∃(t:Nat) (r:RR) (l:List TC) (who':Nat→Option Dq),s5=.int .i64 t∧t≤x.ths.length∧mm=x.ths.length-t∧RunAt mz w0 nc wr who' (V.wT l) r∧r.ths.length=x.ths.length∧(r.events=x.events∧r.rf=x.rf∧r.rmw=x.rmw∧r.outs=x.outs∧r.used=x.used)∧(∀u,t≤u→r.ths[u]?=(x.ths[u]?).map RT.of) ∧
  Blk wr w.heap.size 36 #[.int .i64 nc,.slice Q.ae x.events.length Q.ce,.slice Q.af x.rf.length Q.cf,.slice Q.ao Q.no Q.co,.slice Q.am x.rmw.length Q.cm,.slice none 0 0,.slice none 0 0,.slice none 0 0,.slice Q.ac x.cells.length Q.cc,.slice Q.au x.outs.length Q.cu,.slice Q.ah x.ths.length Q.ch,.int .i64 x.used]∧Blk wr (w.heap.size+1) 47 Dc∧(∀k,k<w1.heap.size→who' k=who k)∧KeptS (fun k=>who k≠none) w wr∧w1.heap.size≤wr.heap.size
set_option maxRecDepth 100000 in
set_option maxHeartbeats 0 in
theorem Seen_any {mz:List Value} (hz:mz.length=95) (ho:mz.all (·.oneCell')=true) {w0:World} {nc:Nat} (hnc:nc≤4096) {w:World} {who:Nat→Option Dq} {V:DV} {x:Rn Mch} {lg pk:List Nat} (h:RunAt mz w0 nc w who V (RR.of x lg pk)) (hri:RI nc x) (hrn:RnOk nc x) (hev:x.events.length≤256) (hus:x.used≤1000) (hth:x.ths.length≤1048576) {lo:Nat} {Q:LawW.SL} (hQ:LawW.PlayQ lo w Q x) (hsep:∀k q,who k=some q→k<lo) :
  Calls Tryz.prog 13 #[.agg (LawW.playX nc Q x),.agg (runD nc V (RR.of x lg pk))] w fun e w'=>e=.returned (.bool true)∧∃(who':Nat→Option Dq) (l:List TC) (r':RR),RunAt mz w0 nc w' who' (V.wT l) r'∧(r'.events=x.events∧r'.rf=x.rf∧r'.rmw=x.rmw∧r'.used=x.used)∧(∀k,k<w.heap.size→who' k=who k)∧KeptS (fun k=>who k≠none) w w':=by
 have hths:V.tcs.length=x.ths.length:=by have:=congrArg List.length h.ths;simpa [RR.of]using this.symm
 have hvos:V.vo.length=x.outs.length:=h.outl
 obtain⟨hno,hnoi⟩:=hQ.out
 obtain⟨aT,cT,ae,ce,af,cf,am,cm,ao,co,al,cl,ap,cp,hvT,hve,hvf,hvm,hvo,hvl,hvp⟩:=h.slices
 rw[hths]at hvT
 rw[hvos]at hvo
 have hrd:runD nc V (RR.of x lg pk)=#[.bool false,.int .i64 nc,.slice aT x.ths.length cT,.slice ae x.events.length ce,.slice af x.rf.length cf,.slice am x.rmw.length cm,.slice ao x.outs.length co,.slice al lg.length cl,.slice ap pk.length cp,.int .i64 x.used]:=by unfold runD;rw[hvT,hve,hvf,hvm,hvo,hvl,hvp];rfl
 have hpx:LawW.playX nc Q x=#[.int .i64 nc,.slice Q.ae x.events.length Q.ce,.slice Q.af x.rf.length Q.cf,.slice Q.ao Q.no Q.co,.slice Q.am x.rmw.length Q.cm,.slice none 0 0,.slice none 0 0,.slice none 0 0,.slice Q.ac x.cells.length Q.cc,.slice Q.au x.outs.length Q.cu,.slice Q.ah x.ths.length Q.ch,.int .i64 x.used]:=by unfold LawW.playX;rw[hno]
 have HRD:Hid (∀(l:List TC) (r:RR),r.used=x.used→runD nc (V.wT l) r=#[.bool false,.int .i64 nc,.slice aT x.ths.length cT,.slice ae x.events.length ce,.slice af x.rf.length cf,.slice am x.rmw.length cm,.slice ao x.outs.length co,.slice al lg.length cl,.slice ap pk.length cp,.int .i64 x.used]):=Lib.hid fun l r hu=>by rw[←hrd];unfold runD DV.wT;rw[hu];rfl
 have HVO:=Lib.hid hvo
 have HX:=Lib.hid h
 have HQ:=Lib.hid hQ
 have HSEP:=Lib.hid hsep
 have hcl:x.cells.length≤4096:=by rw[hrn.cells];exact hnc
 have HOL:Hid (x.outs.length=x.ths.length):=Lib.hid hrn.outs
 rw[hrd,hpx]
 have HVOS:=Lib.hid hvos
 clear hvos
 clear hrd hpx hvT hve hvf hvm hvo hvl hvp h hQ hsep hno hnoi hths
 have HFin:Hid (∀w2,Below w.heap.size w w2→Calls Tryz.prog 32 #[.agg #[.bool false,.int .i64 nc,.slice aT x.ths.length cT,.slice ae x.events.length ce,.slice af x.rf.length cf,.slice am x.rmw.length cm,.slice ao x.outs.length co,.slice al lg.length cl,.slice ap pk.length cp,.int .i64 x.used]] w2 fun e w'=>∃A c,e=.returned (.slice A x.cells.length c)∧w'.ownsRow w2.heap.size 40 1 (.slice A x.cells.length c) x.cells.length (x.cells.map u64V)∧Below w2.heap.size w2 w'):=Lib.hid fun w2 hb=>by
  have h1:=Final_any (HX.out.below hb) (show x.events.length≤1000 by omega) x.cells hrn.cells hnc (cells_ok hri hrn)
  have h2:runD nc V (RR.of x lg pk)=_:=HRD.out V.tcs (RR.of x lg pk) rfl
  rw[h2]at h1
  exact h1
 have HQC:=Lib.hid HQ.out.cellsR
 go_enter Tryz.func13,Tryz.ntmps13
 go_upto_region 1 with fail
 obtain⟨w1,hw1⟩:∃yy:World,yy=(w.alloc (.cells #[.int .i64 nc,.slice Q.ae x.events.length Q.ce,.slice Q.af x.rf.length Q.cf,.slice Q.ao Q.no Q.co,.slice Q.am x.rmw.length Q.cm,.slice none 0 0,.slice none 0 0,.slice none 0 0,.slice Q.ac x.cells.length Q.cc,.slice Q.au x.outs.length Q.cu,.slice Q.ah x.ths.length Q.ch,.int .i64 x.used] 36)).alloc (.cells #[.bool false,.int .i64 nc,.slice aT x.ths.length cT,.slice ae x.events.length ce,.slice af x.rf.length cf,.slice am x.rmw.length cm,.slice ao x.outs.length co,.slice al lg.length cl,.slice ap pk.length cp,.int .i64 x.used] 47):=⟨_,rfl⟩
 have hb1:Below w.heap.size w w1:=by rw[hw1];exact Kit.bl2
 have hP1:Blk w1 w.heap.size 36 #[.int .i64 nc,.slice Q.ae x.events.length Q.ce,.slice Q.af x.rf.length Q.cf,.slice Q.ao Q.no Q.co,.slice Q.am x.rmw.length Q.cm,.slice none 0 0,.slice none 0 0,.slice none 0 0,.slice Q.ac x.cells.length Q.cc,.slice Q.au x.outs.length Q.cu,.slice Q.ah x.ths.length Q.ch,.int .i64 x.used]:=by rw[hw1];exact(Blk.new _ _ _).alloc _
 have hR1:Blk w1 (w.heap.size+1) 47 #[.bool false,.int .i64 nc,.slice aT x.ths.length cT,.slice ae x.events.length ce,.slice af x.rf.length cf,.slice am x.rmw.length cm,.slice ao x.outs.length co,.slice al lg.length cl,.slice ap pk.length cp,.int .i64 x.used]:=by rw[hw1];exact Blk.newAt (sizeA _ _) _ _
 have HS1:Hid (w1.heap.size=w.heap.size+1+1):=Lib.hid (by rw[hw1,sizeA,sizeA])
 rw[←hw1]
 clear hw1
 have p8:∀p:Cls (Below w1.heap.size w1),p.w.cell? ⟨w.heap.size,8,none⟩=some (.slice Q.ac x.cells.length Q.cc):=fun p=>Blk.cell (hP1.below' p.h) 8
 have p9:∀p:Cls (Below w1.heap.size w1),p.w.cell? ⟨w.heap.size,9,none⟩=some (.slice Q.au x.outs.length Q.cu):=fun p=>Blk.cell (hP1.below' p.h) 9
 have p10:∀p:Cls (Below w1.heap.size w1),p.w.cell? ⟨w.heap.size,10,none⟩=some (.slice Q.ah x.ths.length Q.ch):=fun p=>Blk.cell (hP1.below' p.h) 10
 have p11:∀p:Cls (Below w1.heap.size w1),p.w.cell? ⟨w.heap.size,11,none⟩=some (.int .i64 x.used):=fun p=>Blk.cell (hP1.below' p.h) 11
 obtain⟨c0,c1,c2,c3,c4,c5,c6,c7,c8,c9⟩:=Kit.cellsA10 fun p:Cls (Below w1.heap.size w1)=>(hR1.below' p.h)
 have hne:Nonempty (Cls (Below w1.heap.size w1)):=⟨⟨w1,Below.refl _ _⟩⟩
 have hbd:Below w1.heap.size w1 (w1.drewN 1):=Below_drewN _ 1
 have HF1:=Lib.hid (HFin.out (w1.drewN 1) (hb1.trans (hbd.mono hb1.size)))
 refine wp_region_float_go (fun w'=>∃p:Cls (Below w1.heap.size w1),w'=p.w) 31 (by kernel_rfl) rfl ?_
 refine floatG_reads3 28 [0,1,2] ⟨⟨_,hbd⟩,rfl⟩ rfl (by kernel_rfl) ?_
 simp only[pickL,List.map_cons,List.map_nil,List.getElem?_cons_succ,List.getElem?_cons_zero,Option.getD_some]
 repeat (go_big_quiet_step (fail))
 refine wpQuiet_nil ?_
 generalize w1.drewN 1=wd at *
 refine fG (i:=3) rfl ?_
 go_wp2_with (go_at_call 32;refine HF1.out.mono ?_;rintro e w2 ⟨A,c,rfl,hown2,hb2⟩)
 have hb12:Below w1.heap.size w1 w2:=hbd.trans (hb2.mono hbd.size)
 refine Kit.oG hb12 ?_
 have HNu:Hid (Calls Tryz.prog 31 #[.slice Q.ac x.cells.length Q.cc,.slice A x.cells.length c] w2 fun e w'=>e=.returned (.bool true)∧∃n,w'=w2.drewN n):=Lib.hid (by
  have h1:=Numbers_any w2 Q.ac A x.cells x.cells Q.cc c (LawW.own_u64s (RunW.own_below HQC.out (hb1.trans (hb12.mono hb1.size))) rfl) (LawW.own_u64s hown2 rfl) (by omega) (by omega)
  rw[show(x.cells == x.cells)=true by simp]at h1
  exact h1)
 refine fG (i:=4) rfl ?_
 go_wp2_with (go_at_call 31;refine HNu.out.mono ?_;rintro e w3 ⟨rfl,n3,rfl⟩)
 have hb13:Below w1.heap.size w1 (w2.drewN n3):=Kit.Below.dn hb12
 generalize w2.drewN n3=w3 at *
 refine Kit.oG hb13 ?_
 refine floatG_reads3 0 [5,6,7,8,9,10,11,12,13,14,15,16,17,18,19,20,21,22,23,24,25,26,27,28,29,30] ⟨⟨_,hb13⟩,rfl⟩ rfl (by kernel_rfl) ?_
 simp only[pickL,List.map_cons,List.map_nil,List.getElem?_cons_succ,List.getElem?_cons_zero,Option.getD_some]
 repeat (go_big_quiet_step (fail))
 refine wpQuiet_nil ?_
 refine(show tailG _ _ _ _ _ _ _ from⟨by kernel_rfl,?_⟩)
 simp only[List.drop_succ_cons,List.drop_nil]
 clear p8 p9 p10 p11 c0 c1 c2 c3 c4 c5 c6 c7 c8 c9 hne HF1 HNu hown2 hb2 hbd hb12
 go_upto_region 4 with fail
 have hP3:=hP1.below' hb13
 have hR3:=hR1.below' hb13
 have hbw3:=hb1.trans (hb13.mono hb1.size)
 have hs3:=hb13.size
 have HS0:Hid (SeenRel mz w0 nc w w1 who V x Q #[.bool false,.int .i64 nc,.slice aT x.ths.length cT,.slice ae x.events.length ce,.slice af x.rf.length cf,.slice am x.rmw.length cm,.slice ao x.outs.length co,.slice al lg.length cl,.slice ap pk.length cp,.int .i64 x.used] x.ths.length (.int .i64 0) w3):=Lib.hid ⟨0,RR.of x lg pk,V.tcs,who,rfl,Nat.zero_le _,rfl,HX.out.below hbw3,by simp[RR.of],⟨rfl,rfl,rfl,rfl,rfl⟩,fun u _=>by simp[RR.of],hP3,hR3,fun _ _=>rfl,KeptS.of_below hbw3,hs3⟩
 clear hb13 hP1 hR1 hP3 hR3 hbw3 hb1 HFin hs3
 go_loopg [5] x.ths.length (fun mm s5 wr=>SeenRel mz w0 nc w w1 who V x Q #[.bool false,.int .i64 nc,.slice aT x.ths.length cT,.slice ae x.events.length ce,.slice af x.rf.length cf,.slice am x.rmw.length cm,.slice ao x.outs.length co,.slice al lg.length cl,.slice ap pk.length cp,.int .i64 x.used] mm s5 wr)
 case atStart=>exact HS0.out
 case round =>
  clear HS0
  obtain⟨t,r,l,who',rfl,ht,hmm,hR,hrl,hsame,hrest,hP,hD,hwh,hk,hsz⟩:=hrel
  have HM:=Lib.hid hmm
  have HSM:=Lib.hid hsame
  have HRS:=Lib.hid hrest
  have HWH:=Lib.hid hwh
  clear hmm hsame hrest hwh
  have k2:wr.cell? ⟨(w.heap.size+1),2,none⟩=some (.slice aT x.ths.length cT):=Blk.cell hD 2
  by_cases hke:t<x.ths.length
  ·have q1:(t:Int)<(x.ths.length:Int):=by omega
   have q2:(0:Int)≤(t:Int):=by omega
   have q3:(t:Int)<(x.outs.length:Int):=by have:=HOL.out;omega
   have htr:t<r.ths.length:=by rw[hrl];exact hke
   have HAsk:Hid (Calls Tryz.prog 33 #[.agg #[.bool false,.int .i64 nc,.slice aT x.ths.length cT,.slice ae x.events.length ce,.slice af x.rf.length cf,.slice am x.rmw.length cm,.slice ao x.outs.length co,.slice al lg.length cl,.slice ap pk.length cp,.int .i64 x.used],.int .i64 (t:Int)] wr fun e w'=>∃V',e=.returned (.tuple #[.agg (runD nc V' (r.ask t).1),.agg (wantC (r.ask t).2)])∧DRet mz w0 nc wr who' w' V' (r.ask t).1∧(∃l',V'=V.wT l')):=Lib.hid (by
    have h1:=Ask_keep hz ho hnc hR t htr
    rw[HRD.out l r HSM.out.2.2.2.2]at h1
    exact h1.mono fun e w' ⟨V',a,b,l',c⟩=>⟨V',a,b,l',c⟩)
   obtain⟨r2,hr2⟩:∃y,y=(r.ask t).1:=⟨_,rfl⟩
   obtain⟨q,hq⟩:∃y,y=(r.ask t).2:=⟨_,rfl⟩
   rw[←hr2,←hq]at HAsk
   have hu2:r2.used=x.used:=by rw[hr2];exact HSM.out.2.2.2.2
   have HU2:=Lib.hid hu2
   have hxt:x.ths[t]?=some x.ths[t]:=Kit.eG hke
   have hrt:r.th t=RT.of (x.th SK t):=by
    unfold RR.th Rn.th
    rw[Kit.gD,HRS.out t (Nat.le_refl _),Kit.gD,hxt]
    rfl
   have hqn:q=(nextS (x.th SK t).m).now:=by
    rw[hq]
    show(r.th t).s.asked.2=_
    rw[hrt]
    show(RS.of (x.th SK t).m).asked.2=_
    rw[(next_ms (hri.ms t)).2.1]
   have hhv:(RunW.haltL SK x.ths)[t]?=some (q.what == 5):=by
    unfold RunW.haltL
    rw[List.getElem?_map,hxt]
    show some (decide _)=_
    rw[hqn]
    have e:(x.th SK t)=x.ths[t]:=by unfold Rn.th;rw[Kit.gD,hxt];rfl
    rw[e]
    rfl
   have HRN:Hid (r2.ths.length=x.ths.length∧(r2.events=x.events∧r2.rf=x.rf∧r2.rmw=x.rmw∧r2.outs=x.outs∧r2.used=x.used)∧∀u,t+1≤u→r2.ths[u]?=(x.ths[u]?).map RT.of):=Lib.hid (by
    rw[hr2]
    refine⟨?_,HSM.out,fun u hu=>?_⟩
    ·show(r.ths.set t _).length=_
     rw[List.length_set,hrl]
    ·show(r.setS t _).ths[u]?=_
     rw[setths_get _ _ _ (by omega)]
     exact HRS.out u (by omega))
   have HHV:=Lib.hid hhv
   have hfree:∀k,k<w1.heap.size→w.heap.size≤k→who' k=none:=fun k h1 h2=>by
    rw[HWH.out k h1]
    cases hwk:who k with
    | none=>rfl
    | some q=>have:=(HX.out.lt _ _ hwk).2;omega
   have HFP:=Lib.hid (hfree w.heap.size (by have:=HS1.out;omega) (Nat.le_refl _))
   have HFR:=Lib.hid (hfree (w.heap.size+1) (by have:=HS1.out;omega) (Nat.le_succ _))
   clear hr2 hq hu2 hxt hrt hqn hhv hfree htr
   obtain⟨d0,d1,d2,d3,d4,d5,d6,d7,d8,d9⟩:=Kit.cells10 hD
   go_upto_region 7 with (go_at_call 33;refine HAsk.out.mono ?_;rintro e w2 ⟨V2,rfl,hDR,l2,rfl⟩;rw[HRD.out l2 r2 HU2.out];unfold wantC)
   clear d0 d1 d2 d3 d4 d5 d6 d7 d8 d9 k2
   obtain⟨⟨who2,hR2,hwh2⟩,hk2⟩:=hDR
   have hD2:=hk2.blk hD (fun e=>e HFR.out)
   have hP2:=hk2.blk hP (fun e=>e HFP.out)
   obtain⟨w3,hw3⟩:∃yy:World,yy=(w2.alloc (.cells #[.bool false,.int .i64 nc,.slice aT x.ths.length cT,.slice ae x.events.length ce,.slice af x.rf.length cf,.slice am x.rmw.length cm,.slice ao x.outs.length co,.slice al lg.length cl,.slice ap pk.length cp,.int .i64 x.used] 47)).alloc (.cells #[.int .i64 q.what,.int .i64 q.loc,.int .i64 q.mode,.int .u64 (q.val:Int),.bool q.ex,.bool q.one] 100):=⟨_,rfl⟩
   have hb23:Below w2.heap.size w2 w3:=by rw[hw3];exact Kit.bl2
   have hU3:Blk w3 w2.heap.size 47 #[.bool false,.int .i64 nc,.slice aT x.ths.length cT,.slice ae x.events.length ce,.slice af x.rf.length cf,.slice am x.rmw.length cm,.slice ao x.outs.length co,.slice al lg.length cl,.slice ap pk.length cp,.int .i64 x.used]:=by rw[hw3];exact(Blk.new _ _ _).alloc _
   have hW3:Blk w3 (w2.heap.size+1) 100 #[.int .i64 q.what,.int .i64 q.loc,.int .i64 q.mode,.int .u64 (q.val:Int),.bool q.ex,.bool q.one]:=by rw[hw3];exact Blk.newAt (sizeA _ _) _ _
   rw[←hw3]
   clear hw3
   have hD3:=hD2.below' hb23
   have hP3:=hP2.below' hb23
   have hR3:=hR2.below hb23
   have hkw2:KeptS (fun k=>who k≠none) w w2:=keptAfter hk2 hk (fun k hk3 e=>by rw[←HWH.out k (by have:=HS1.out;omega)];exact e)
   have hkw3:=hkw2.trans (KeptS.of_below (S:=fun k=>who k≠none) hb23)
   have hsz2:wr.heap.size≤w2.heap.size:=hk2.size
   have hsz3:=hb23.size
   have hgq:w2.heap.size+1≠(w.heap.size+1):=by have:=hD.lt;omega
   have HGQ:=Lib.hid hgq
   have HW2:Hid (∀k,k<w1.heap.size→who2 k=who k):=Lib.hid fun k hk3=>(hwh2 k (by omega)).trans (HWH.out k hk3)
   clear hD2 hP2 hR2 hk2 hkw2 hwh2 hb23 hgq HAsk
   generalize w2.heap.size=gu at *
   obtain⟨u0,u1,u2,u3,u4,u5,u6,u7,u8,u9⟩:=Kit.cells10 hU3
   obtain⟨d0,d1,d2,d3,d4,d5,d6,d7,d8,d9⟩:=Kit.cells10 hD3
   have df:=fun i=>Blk.frozen hD3 i
   go_upto_region 8 with fail
   clear df u0 u1 u2 u3 u4 u5 u6 u7 u8 u9 d0 d1 d2 d3 d4 d5 d6 d7 d8 d9
   refine(show Code.wp _ _ _ _ (RunW.putL w3 (w.heap.size+1) 0 [.bool false,.int .i64 nc,.slice aT x.ths.length cT,.slice ae x.events.length ce,.slice af x.rf.length cf,.slice am x.rmw.length cm,.slice ao x.outs.length co,.slice al lg.length cl,.slice ap pk.length cp,.int .i64 x.used])from RunW.putL_go hD3 rfl fun w4 hD4 hk34=>?_)
   have hP4:=hk34.blk hP3 (by omega)
   have hW4:=hk34.blk hW3 HGQ.out
   have hR4:=hR3.other hD3 (fun q=>by cases q <;> decide) (by decide) (by have:=HX.out.start.size;omega) hk34
   have hkw4:=kept_new hkw3 hk34 (fun k e=>by rw[e];exact Nat.le_succ _)
   have hs34:=hk34.size
   have hQ4:=playQ_keep HQ.out hkw4 (fun k e=>by
    cases hwk:who k with
    | none=>exact absurd hwk e
    | some q=>exact HSEP.out k q hwk)
   clear hD3 hP3 hW3 hR3 hkw3 hk34 hU3
   have hto:t<x.outs.length:=by have:=HOL.out;omega
   obtain⟨l0,hl0⟩:∃l0,x.outs[t]?=some l0:=⟨_,Kit.eG hto⟩
   obtain⟨go,Ay,ay,hau,kau,hoy⟩:=hQ4.outs_at hl0
   obtain⟨gh,hah,_,_,_,_,hch⟩:=LawW.row_at hQ4.hvR (by omega)
   have kah:=hch t (.bool (q.what == 5)) (by rw[List.getElem?_map,HHV.out];rfl)
   obtain⟨g6,cap6,hv6,_,_,_,_,hc6⟩:=OwnR.own_cells (hR4.own .outs) (show 0<(V.wT l2).vo.length by show 0<V.vo.length;rw[HVOS.out];omega)
   obtain⟨v2,hv2⟩:∃v2,V.vo[t]?=some v2:=⟨_,Kit.eG (by rw[HVOS.out];exact hto)⟩
   have k6t:=hc6 t v2 hv2
   have hU6:=hR4.outi t v2 l0 hv2 (by rw[HRN.out.2.1.2.2.2.1];exact hl0)
   obtain⟨B2,d2,rfl,_⟩:=U64O.mk_ hU6
   have hao:ao=some ⟨g6,0,none⟩:=by
    have h1:V.outs=.slice (some ⟨g6,0,none⟩) _ cap6:=hv6
    rw[HVO.out]at h1
    injection h1
   have hll:l0.length≤16777216:=by
    have h1:=hrn.outi l0 (List.mem_of_getElem? hl0)
    omega
   have HNu:Hid (∀w5,Below w4.heap.size w4 w5→Calls Tryz.prog 31 #[.slice Ay l0.length ay,.slice B2 l0.length d2] w5 fun e w'=>e=.returned (.bool true)∧∃n,w'=w5.drewN n):=Lib.hid fun w5 hb5=>by
    have h1:=Numbers_any w5 Ay B2 l0 l0 ay d2 (LawW.own_u64s (RunW.own_below hoy hb5) rfl) (LawW.own_u64s (RunW.own_below hU6 hb5) rfl) hll hll
    rw[show(l0 == l0)=true by simp]at h1
    exact h1
   have hgo:=World.block_lt_of_cell? _ _ kau
   have hgh:=World.block_lt_of_cell? _ _ kah
   have hg6:=World.block_lt_of_cell? _ _ k6t
   have p9:∀p:Cls (Below w4.heap.size w4),p.w.cell? ⟨w.heap.size,9,none⟩=some (.slice (some ⟨go,0,none⟩) x.outs.length Q.cu):=fun p=>by rw[←hau];exact Blk.cell (hP4.below' p.h) 9
   have p9t:∀p:Cls (Below w4.heap.size w4),p.w.cell? ⟨go,t,none⟩=some (.slice Ay l0.length ay):=fun p=>(p.h.cell (p:=⟨go,t,none⟩) hgo).trans kau
   have c6:∀p:Cls (Below w4.heap.size w4),p.w.cell? ⟨(w.heap.size+1),6,none⟩=some (.slice (some ⟨g6,0,none⟩) x.outs.length co):=fun p=>by rw[←hao];exact Blk.cell (hD4.below' p.h) 6
   have c6t:∀p:Cls (Below w4.heap.size w4),p.w.cell? ⟨g6,t,none⟩=some (.slice B2 l0.length d2):=fun p=>(p.h.cell (p:=⟨g6,t,none⟩) hg6).trans k6t
   have p10:∀p:Cls (Below w4.heap.size w4),p.w.cell? ⟨w.heap.size,10,none⟩=some (.slice (some ⟨gh,0,none⟩) x.ths.length Q.ch):=fun p=>by rw[←hah];exact Blk.cell (hP4.below' p.h) 10
   have p10t:∀p:Cls (Below w4.heap.size w4),p.w.cell? ⟨gh,t,none⟩=some (.bool (q.what == 5)):=fun p=>(p.h.cell (p:=⟨gh,t,none⟩) hgh).trans kah
   have pw:∀p:Cls (Below w4.heap.size w4),p.w.cell? ⟨gu+1,0,none⟩=some (.int .i64 q.what):=fun p=>Blk.cell (hW4.below' p.h) 0
   have hne:Nonempty (Cls (Below w4.heap.size w4)):=⟨⟨w4,Below.refl _ _⟩⟩
   have hbd:Below w4.heap.size w4 (w4.drewN 1):=Below_drewN _ 1
   clear hQ4 hau kau hoy hah hch kah hv6 hc6 hv2 k6t hU6 hao hll hgo hgh hg6 hl0 hto
   cases hwq:(q.what == 5)
   ·rw[hwq]at p10t
    refine wp_region_float_go (fun w'=>∃p:Cls (Below w4.heap.size w4),w'=p.w) 23 (by kernel_rfl) rfl ?_
    refine floatG_reads3 13 [0,1,2,3,4,5,6,7,8,9] ⟨⟨_,hbd⟩,rfl⟩ rfl (by kernel_rfl) ?_
    simp only[pickL,List.map_cons,List.map_nil,List.getElem?_cons_succ,List.getElem?_cons_zero,Option.getD_some]
    repeat (go_big_quiet_step (fail))
    refine wpQuiet_nil ?_
    generalize w4.drewN 1=wd at *
    refine fG (i:=10) rfl ?_
    have HN1:=Lib.hid (HNu.out wd hbd)
    go_wp2_with (go_at_call 31;refine HN1.out.mono ?_;rintro e w5 ⟨rfl,n5,rfl⟩)
    have hb5:Below w4.heap.size w4 (wd.drewN n5):=Kit.Below.dn hbd
    generalize wd.drewN n5=w5 at *
    refine Kit.oG hb5 ?_
    refine floatG_reads3 0 [11,12,13,14,15,16,17,18,19,20,21,22] ⟨⟨_,hb5⟩,rfl⟩ rfl (by kernel_rfl) ?_
    simp only[pickL,List.map_cons,List.map_nil,List.getElem?_cons_succ,List.getElem?_cons_zero,Option.getD_some]
    repeat (go_big_quiet_step (fail))
    refine wpQuiet_nil ?_
    refine(show tailG _ _ _ _ _ _ _ from⟨by kernel_rfl,?_⟩)
    simp only[List.drop_succ_cons,List.drop_nil]
    clear p9 p9t c6 c6t p10 p10t pw hne HN1
    have hR5:=hR4.below hb5
    have hP5:=hP4.below' hb5
    have hD5:=hD4.below' hb5
    have hk5:=hkw4.trans (KeptS.of_below (S:=fun k=>who k≠none) hb5)
    have hs5:=hb5.size
    clear hR4 hP4 hD4 hkw4 hbd hb5 hW4
    go_wp2_with fail
    go_roundg (x.ths.length-(t+1))
    case measure=>have:=HM.out;omega
    case rel=>exact⟨t+1,r2,l2,who2,by push_cast;rfl,hke,rfl,hR5,HRN.out.1,HRN.out.2.1,HRN.out.2.2,hP5,hD5,HW2.out,hk5,by omega⟩
   ·rw[hwq]at p10t
    refine wp_region_float_go (fun w'=>∃p:Cls (Below w4.heap.size w4),w'=p.w) 23 (by kernel_rfl) rfl ?_
    refine floatG_reads3 13 [0,1,2,3,4,5,6,7,8,9] ⟨⟨_,hbd⟩,rfl⟩ rfl (by kernel_rfl) ?_
    simp only[pickL,List.map_cons,List.map_nil,List.getElem?_cons_succ,List.getElem?_cons_zero,Option.getD_some]
    repeat (go_big_quiet_step (fail))
    refine wpQuiet_nil ?_
    generalize w4.drewN 1=wd at *
    refine fG (i:=10) rfl ?_
    have HN1:=Lib.hid (HNu.out wd hbd)
    go_wp2_with (go_at_call 31;refine HN1.out.mono ?_;rintro e w5 ⟨rfl,n5,rfl⟩)
    have hb5:Below w4.heap.size w4 (wd.drewN n5):=Kit.Below.dn hbd
    generalize wd.drewN n5=w5 at *
    refine Kit.oG hb5 ?_
    refine floatG_reads3 0 [11,12,13,14,15,16,17,18,19,20,21,22] ⟨⟨_,hb5⟩,rfl⟩ rfl (by kernel_rfl) ?_
    simp only[pickL,List.map_cons,List.map_nil,List.getElem?_cons_succ,List.getElem?_cons_zero,Option.getD_some]
    repeat (go_big_quiet_step (fail))
    refine wpQuiet_nil ?_
    refine(show tailG _ _ _ _ _ _ _ from⟨by kernel_rfl,?_⟩)
    simp only[List.drop_succ_cons,List.drop_nil]
    clear p9 p9t c6 c6t p10 p10t pw hne HN1
    have hR5:=hR4.below hb5
    have hP5:=hP4.below' hb5
    have hD5:=hD4.below' hb5
    have hk5:=hkw4.trans (KeptS.of_below (S:=fun k=>who k≠none) hb5)
    have hs5:=hb5.size
    clear hR4 hP4 hD4 hkw4 hbd hb5 hW4
    go_wp2_with fail
    go_roundg (x.ths.length-(t+1))
    case measure=>have:=HM.out;omega
    case rel=>exact⟨t+1,r2,l2,who2,by push_cast;rfl,hke,rfl,hR5,HRN.out.1,HRN.out.2.1,HRN.out.2.2,hP5,hD5,HW2.out,hk5,by omega⟩
  ·obtain rfl:t=x.ths.length:=by omega
   have q1:¬((x.ths.length:Int)<(x.ths.length:Int)):=by omega
   go_wp2_with fail
   go_ret
   exact⟨rfl,who',l,r,hR,⟨HSM.out.1,HSM.out.2.1,HSM.out.2.2.1,HSM.out.2.2.2.2⟩,fun k hk2=>HWH.out k (by have:=HS1.out;omega),hk⟩
end Go.Proofs.YtmjilfamjlnigaaGreat.RefW
