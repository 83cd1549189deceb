/- PLAIN: a run of the program's own, between picks, is one that the document's step may be asked of. -/
import Derived.Test.YtmjilfamjlnigaaGreatQ42
import Derived.Test.YtmjilfamjlnigaaGreatQ35
import Derived.Test.YtmjilfamjlnigaaGreatQ13
import Derived.Test.YtmjilfamjlnigaaGreatQ36
namespace Go.Proofs.YtmjilfamjlnigaaGreat.RefW
open Go Go.RowKit Kit SrcP SrcW Go.Proofs.YtmjilfamjlnigaaGreat.MchW
theorem asked_s {nc:Nat} {r:Rn Mch} (h:RI nc r) (lg pk:List Nat) {t:Nat} (ht:t<r.ths.length):(((RR.of r lg pk).ask t).1.th t).s=RS.of (nextS (r.th SK t).m)∧(((RR.of r lg pk).ask t).1.th t).nums=(r.th SK t).nums∧((RR.of r lg pk).ask t).2=(nextS (r.th SK t).m).now∧((RR.of r lg pk).ask t).1=RR.of (r.ask SK t) lg pk:=by
 have hA:=ask_of (h.ms t) lg pk (r:=r) (t:=t)
 have hm:(r.ask SK t).th SK t = { r.th SK t with m:=nextS (r.th SK t).m }:=by
  unfold Rn.ask Rn.setM
  rw[th_set,if_pos ⟨rfl,ht⟩]
  rfl
 rw[hA]
 refine⟨?_,?_,rfl,rfl⟩
 ·show((RR.of (r.ask SK t) lg pk).th t).s=_
  rw[th_of,hm]
  rfl
 ·show((RR.of (r.ask SK t) lg pk).th t).nums=_
  rw[th_of,hm]
  rfl
theorem fits_of {nc:Nat} {r:Rn Mch} (h:RI nc r) (hr:RnOk nc r) (lg pk:List Nat) {t:Nat} (ht:t<r.ths.length) (hu:r.used≤1000) (hev:r.events.length≤256) (hlg:lg.length≤r.used+r.events.length) (hpk:pk.length≤r.used):FitS nc (RR.of r lg pk) t:=by
 obtain⟨a1,a2,a3,a4⟩:=asked_s h lg pk ht
 have hm:((r.ask SK t).th SK t).m=nextS (r.th SK t).m:=ask_th r ht
 have hI:=h.ask t
 have hon:(nextS (r.th SK t).m).asked=true:=(next_ms (h.ms _)).2.2
 have hopn:(nextS (r.th SK t).m).opn=false:=(next_ms (h.ms _)).1.1
 have hl:(r.ask SK t).ths.length=r.ths.length:=(Grows.ask SK r t).ths
 obtain⟨nl,hok⟩:=hI.ok t (by rw[hl];exact ht)
 rw[hm]at hok
 have hnum:(r.th SK t).nums.length≤r.events.length:=by
  unfold Rn.th
  rw[Kit.gD,Kit.eG ht]
  exact hr.nums _ (List.getElem_mem ht)
 have hnums:((RR.of r lg pk).th t).nums.length≤r.events.length:=by
  rw[th_of]
  exact hnum
 have hact:noUse nc ((RR.of r lg pk).ask t).2=false→((RR.of r lg pk).ask t).2.what≠6→∃a,(nextS (r.th SK t).m).acts[(nextS (r.th SK t).m).at_]?=some a∧ownB a=false∧(nextS (r.th SK t).m).now=wantS (nextS (r.th SK t).m) a:=fun hn h6=>by
  rw[a3]at hn h6
  refine hok.now hon (fun h5=>?_) h6
  unfold noUse at hn
  exact of_decide_eq_false hn (.inl h5)
 refine⟨by show r.used<_;omega,by show r.events.length≤_;omega,by show lg.length≤_;omega,by show pk.length≤_;omega,by omega,?_,by show t<r.outs.length;rw[hr.outs];exact ht,fun hn h6=>?_,fun hn h1=>?_⟩
 ·show(r.outs.getD t []).length≤_
  have:=mem_getD (P:=fun l=>l.length≤r.used) hr.outi [] (Nat.zero_le _) t
  omega
 ·obtain⟨a,b1,b2,_⟩:=hact hn h6
  rw[a1]
  exact⟨a,b1,b2⟩
 ·obtain⟨a,b1,b2,b3⟩:=hact hn (by rw[h1];decide)
  have hw:(nextS (r.th SK t).m).now.what=1:=by rw[←a3];exact h1
  have hcell:0≤(nextS (r.th SK t).m).now.loc∧(nextS (r.th SK t).m).now.loc<(nc:Int):=by
   have hwell:=hok.toMchW.well b1
   rw[a3]at hn
   have h2:¬((nc:Int)≤(nextS (r.th SK t).m).now.loc):=fun hle=>by
    unfold noUse at hn
    exact of_decide_eq_false hn (.inr (.inr ⟨.inl hw,hle⟩))
   refine⟨?_,by omega⟩
   have hp:hasPlace a.op=true:=by
    rw[b3]at hw
    unfold wantS at hw
    have hop:=hwell.parts.1
    unfold ownB at b2
    simp at b2
    by_cases c7:a.op=7
    ·simp[c7]at hw
    ·by_cases c8:a.op=8
     ·simp[c8]at hw
     ·have:a.op=2∨a.op=3∨a.op=4∨a.op=5∨a.op=6:=by omega
      rcases this with h | h | h | h | h <;> rw[h] <;> rfl
   have hrg:=locS_range (hwell.place hp) (nextS (r.th SK t).m).locals
   rw[b3]
   rw[b3]at hw
   unfold wantS at hw ⊢
   by_cases c2:a.op=2
   ·rw[if_pos c2];exact hrg.1
   ·rw[if_neg c2]at hw ⊢
    by_cases c3:a.op=3
    ·rw[if_pos c3]at hw;simp at hw
    ·rw[if_neg c3]at hw ⊢
     by_cases c7:a.op=7
     ·rw[if_pos c7]at hw;simp at hw
     ·rw[if_neg c7]at hw ⊢
      by_cases c8:a.op=8
      ·rw[if_pos c8]at hw;simp at hw
      ·rw[if_neg c8]
       split <;> exact hrg.1
  obtain⟨c,hc⟩:∃c:Nat,(nextS (r.th SK t).m).now.loc=(c:Int):=⟨(nextS (r.th SK t).m).now.loc.toNat,by omega⟩
  obtain⟨d1,d2,_⟩:=hI.mem.at_ c (by omega)
  have hcv:(r.ask SK t).cells.getD c 0<M64:=mem_getD (P:=fun x=>x<M64) (hr.ask (K:=SK) t).vals 0 (by decide) c
  have hrE:(r.ask SK t).events=r.events:=rfl
  rw[hrE]at d1 d2
  cases he:r.events[(r.ask SK t).last.getD c 0]? with
  | none=>rw[he]at d2;cases d2
  | some e =>
   rw[he]at d2
   have hlt:=(List.getElem?_eq_some_iff.1 he).1
   rw[a3,a4]
   refine⟨by show r.events.length≤_;omega,?_,?_,?_,?_,⟨a,?_,b2,fun hx=>?_⟩,⟨(r.ask SK t).last.getD c 0,?_,hlt,?_⟩⟩
   ·show r.rf.length≤_;have:=hr.rf;omega
   ·show r.rmw.length≤_;have:=hr.rmw;omega
   ·show(lg++[t]).length≤_;rw[List.length_append,List.length_singleton];omega
   ·show((RR.of (r.ask SK t) lg pk).th t).nums.length≤_
    rw[←a4,a2];omega
   ·show((RR.of (r.ask SK t) lg pk).th t).s.acts[((RR.of (r.ask SK t) lg pk).th t).s.at_]?=some a
    rw[←a4,a1];exact b1
   ·rw[b3]at hx
    unfold wantS at hx
    by_cases c2:a.op=2
    ·simp[c2]at hx
    ·by_cases c3:a.op=3
     ·simp[c3]at hx
     ·by_cases c7:a.op=7
      ·simp[c7]at hx
      ·by_cases c8:a.op=8
       ·simp[c8]at hx
       ·have hop:=(hok.toMchW.well b1).parts.1
        unfold ownB at b2
        simp at b2
        omega
   ·show lastR r.events _=_
    rw[hc];exact d1
   ·show valAt r.events _<_
    unfold valAt
    rw[he]
    show e.val<_
    have:e.val=(r.ask SK t).cells.getD c 0:=by simpa using d2
    rw[this];exact hcv
theorem DRet.refl {mz:List Value} {w0:World} {nc:Nat} {w w':World} {who:Nat→Option Dq} {V:DV} {r:RR} (h:RunAt mz w0 nc w who V r) (hb:Below w.heap.size w w'):DRet mz w0 nc w who w' V r:=⟨⟨who,h.below hb,fun _ _=>rfl⟩,KeptS.of_below hb⟩
set_option maxRecDepth 100000 in
set_option maxHeartbeats 0 in
theorem Step_no {mz:List Value} {w0:World} {nc:Nat} {w:World} {who:Nat→Option Dq} {V:DV} {r:RR} (h:RunAt mz w0 nc w who V r) (t:Int) (ht:t<0∨(r.ths.length:Int)≤t) :
  Calls Tryz.prog 49 #[.agg (runD nc V r),.int .i64 t] w fun e w'=>e=.returned (.tuple #[.agg (runD nc V r),.bool false])∧Below w.heap.size w w':=by
 have hlen:V.tcs.length=r.ths.length:=by rw[h.ths,List.length_map]
 obtain⟨aT,cT,ae,ce,af,cf,am,cm,ao,co,al,cl,ap,cp,hvT,hve,hvf,hvm,hvo,hvl,hvp⟩:=h.slices
 unfold runD
 simp only[hvT,hve,hvf,hvm,hvo,hvl,hvp]
 clear hvT hve hvf hvm hvo hvl hvp
 rw[←hlen]at ht
 clear hlen h
 go_enter Tryz.func49,Tryz.ntmps49
 go_upto_region 1 with fail
 obtain⟨w1,hw1⟩:∃yy:World,yy=(w.alloc (.cells #[.bool false,.int .i64 nc,.slice aT V.tcs.length cT,.slice ae r.events.length ce,.slice af r.rf.length cf,.slice am r.rmw.length cm,.slice ao V.vo.length co,.slice al r.log.length cl,.slice ap r.picks.length cp,.int .i64 r.used] 47)).alloc (.cells #[.bool false,.int .i64 0,.slice none 0 0,.slice none 0 0,.slice none 0 0,.slice none 0 0,.slice none 0 0,.slice none 0 0,.slice none 0 0,.int .i64 0] 47):=⟨_,rfl⟩
 have hb1:Below w.heap.size w w1:=by rw[hw1];exact Kit.bl2
 have hD1:Blk w1 w.heap.size 47 #[.bool false,.int .i64 nc,.slice aT V.tcs.length cT,.slice ae r.events.length ce,.slice af r.rf.length cf,.slice am r.rmw.length cm,.slice ao V.vo.length co,.slice al r.log.length cl,.slice ap r.picks.length cp,.int .i64 r.used]:=by rw[hw1];exact(Blk.new _ _ _).alloc _
 have hE1:Blk w1 (w.heap.size+1) 47 #[.bool false,.int .i64 0,.slice none 0 0,.slice none 0 0,.slice none 0 0,.slice none 0 0,.slice none 0 0,.slice none 0 0,.slice none 0 0,.int .i64 0]:=by rw[hw1];exact Blk.newAt (sizeA _ _) _ _
 rw[←hw1]
 clear hw1
 obtain⟨k0,k1,k2,k3,k4,k5,k6,k7,k8,k9⟩:=Kit.cells10 hD1
 obtain⟨y0,y1,y2,y3,y4,y5,y6,y7,y8,y9⟩:=Kit.cells10 hE1
 have zf:=fun i=>Blk.frozen hE1 i
 by_cases h0:t<0
 ·have a1:(t<0)=True:=eq_true h0
  skip
  clear h0 ht
  go_wp2_with fail
  clear zf y0 y1 y2 y3 y4 y5 y6 y7 y8 y9 k0 k1 k2 k3 k4 k5 k6 k7 k8 k9
  refine(show bodyPost _ _ _ _ _ (RunW.putL w1 (w.heap.size+1) 0 [.bool false,.int .i64 nc,.slice aT V.tcs.length cT,.slice ae r.events.length ce,.slice af r.rf.length cf,.slice am r.rmw.length cm,.slice ao V.vo.length co,.slice al r.log.length cl,.slice ap r.picks.length cp,.int .i64 r.used])from RunW.putL_go hE1 rfl fun wf hEf hkf=>?_)
  obtain⟨e0,e1,e2,e3,e4,e5,e6,e7,e8,e9⟩:=Kit.cells10 hEf
  exact bodyPost_ret (v:=.tuple #[.agg #[.bool false,.int .i64 nc,.slice aT V.tcs.length cT,.slice ae r.events.length ce,.slice af r.rf.length cf,.slice am r.rmw.length cm,.slice ao V.vo.length co,.slice al r.log.length cl,.slice ap r.picks.length cp,.int .i64 r.used],.bool false]) (by simp[results,Tryz.results49,go_sem,e0,e1,e2,e3,e4,e5,e6,e7,e8,e9]) rfl ⟨rfl,NewW.kept_below hb1 hkf (fun j hj=>by rw[hj];exact Nat.le_succ _)⟩
 ·have a1:(t<0)=False:=eq_false h0
  have a2:((V.tcs.length:Int)≤t)=True:=eq_true (by omega)
  clear h0 ht
  go_wp2_with fail
  clear zf y0 y1 y2 y3 y4 y5 y6 y7 y8 y9 k0 k1 k2 k3 k4 k5 k6 k7 k8 k9
  refine(show bodyPost _ _ _ _ _ (RunW.putL w1 (w.heap.size+1) 0 [.bool false,.int .i64 nc,.slice aT V.tcs.length cT,.slice ae r.events.length ce,.slice af r.rf.length cf,.slice am r.rmw.length cm,.slice ao V.vo.length co,.slice al r.log.length cl,.slice ap r.picks.length cp,.int .i64 r.used])from RunW.putL_go hE1 rfl fun wf hEf hkf=>?_)
  obtain⟨e0,e1,e2,e3,e4,e5,e6,e7,e8,e9⟩:=Kit.cells10 hEf
  exact bodyPost_ret (v:=.tuple #[.agg #[.bool false,.int .i64 nc,.slice aT V.tcs.length cT,.slice ae r.events.length ce,.slice af r.rf.length cf,.slice am r.rmw.length cm,.slice ao V.vo.length co,.slice al r.log.length cl,.slice ap r.picks.length cp,.int .i64 r.used],.bool false]) (by simp[results,Tryz.results49,go_sem,e0,e1,e2,e3,e4,e5,e6,e7,e8,e9]) rfl ⟨rfl,NewW.kept_below hb1 hkf (fun j hj=>by rw[hj];exact Nat.le_succ _)⟩
theorem Step_int {mz:List Value} (hz:mz.length=95) (ho:mz.all (·.oneCell')=true) {w0:World} {nc:Nat} (hnc:nc≤4096) {w:World} {who:Nat→Option Dq} {V:DV} {r:RR} (h:RunAt mz w0 nc w who V r) (t:Int) (hf:t.toNat<r.ths.length→FitS nc r t.toNat) :
  Calls Tryz.prog 49 #[.agg (runD nc V r),.int .i64 t] w fun e w'=>∃V' b,e=.returned (.tuple #[.agg (runD nc V' (r.step nc t)),.bool b])∧DRet mz w0 nc w who w' V' (r.step nc t):=by
 by_cases ht:t<0∨(r.ths.length:Int)≤t
 ·have hs:r.step nc t=r:=by unfold RR.step;rw[if_pos ht]
  rw[hs]
  exact(Step_no h t ht).mono fun e w' ⟨h1,h2⟩=>⟨V,false,h1,DRet.refl h h2⟩
 ·obtain⟨n,rfl⟩:∃n:Nat,t=(n:Int):=⟨t.toNat,by omega⟩
  have hn:n<r.ths.length:=by omega
  exact Step_any hz ho hnc h n hn (by simpa using hf (by simpa using hn))
end Go.Proofs.YtmjilfamjlnigaaGreat.RefW
namespace Go.Proofs.YtmjilfamjlnigaaGreat.LawW
open Go Go.RowKit Kit SrcP SrcW MchW OwnR NewW RunW
structure SL where
 ae:Option Addr
 ce:Nat
 af:Option Addr
 cf:Nat
 ao:Option Addr
 no:Nat
 co:Nat
 am:Option Addr
 cm:Nat
 ac:Option Addr
 cc:Nat
 au:Option Addr
 nu:Nat
 cu:Nat
 ah:Option Addr
 ch:Nat
 coi:List Value
 outi:List Value
def SL.pv (Q:SL) (r:Rn Mch):PV:=⟨.slice Q.ae r.events.length Q.ce,.slice Q.af r.rf.length Q.cf,.slice Q.ao Q.no Q.co,.slice Q.am r.rmw.length Q.cm,.slice Q.ac r.cells.length Q.cc,.slice Q.au Q.nu Q.cu,.slice Q.ah r.ths.length Q.ch,Q.coi,Q.outi⟩
def PlayQ (lo:Nat) (w:World) (Q:SL) (r:Rn Mch):Prop:=PlayW lo w (Q.pv r) (toldR r) (haltL (srcK false) r.ths)
theorem PlayQ.below {lo:Nat} {w w':World} {Q:SL} {r:Rn Mch} (h:PlayQ lo w Q r) (hb:Below w.heap.size w w'):PlayQ lo w' Q r:=PlayW.below h hb
def SrcOk (nc:Nat) (r:Rn Mch) (w:World) (e:Ending) (w':World):Prop :=
 Below w.heap.size w w'∧∃Q:SL,e=.returned (.tuple #[.agg #[.int .i64 (nc:Int),.slice Q.ae r.events.length Q.ce,.slice Q.af r.rf.length Q.cf,.slice Q.ao Q.no Q.co,.slice Q.am r.rmw.length Q.cm,.slice none 0 0,.slice none 0 0,.slice none 0 0,.slice Q.ac r.cells.length Q.cc,.slice Q.au Q.nu Q.cu,.slice Q.ah r.ths.length Q.ch,.int .i64 (r.used:Int)],.int .i64 0])∧PlayQ w.heap.size w' Q r
section
variable {p:SrcP.Prog} {picks:List Int} {fuel:Int} {w:World} {e:Ending} {w':World}
theorem source_ok {r:Rn Mch} (hr:sourceS p picks fuel false=.ok r) (h:SourcePost p picks fuel w e w'):SrcOk p.cells.toNat r w e w':=by
 unfold SourcePost at h
 simp only[hr]at h
 obtain⟨hb,Ae,ce,Af,cf,Ao,no,co,Am,cm,Ac,cc,Au,nu,cu,Ah,ch,coi,outi,he,hP⟩:=h
 exact⟨hb,⟨Ae,ce,Af,cf,Ao,no,co,Am,cm,Ac,cc,Au,nu,cu,Ah,ch,coi,outi⟩,he,hP⟩
theorem source_no {n:Nat} (hr:sourceS p picks fuel false=.error n) (h:SourcePost p picks fuel w e w'):Below w.heap.size w w'∧e=.returned (.tuple #[.agg #[.int .i64 0,.slice none 0 0,.slice none 0 0,.slice none 0 0,.slice none 0 0,.slice none 0 0,.slice none 0 0,.slice none 0 0,.slice none 0 0,.slice none 0 0,.slice none 0 0,.int .i64 0],.int .i64 (n:Int)]):=by
 unfold SourcePost at h
 simp only[hr]at h
 exact h
end
theorem row_at {w:World} {lo e size n c:Nat} {A:Option Addr} {xs:List Value} (h:w.ownsRow lo e size (.slice A n c) n xs) (hn:0<n):∃g,A=some ⟨g,0,none⟩∧g<w.heap.size∧lo≤g∧n≤c∧(∀o,w.frozen? ⟨g,o,none⟩=false)∧∀j u,xs[j]?=some u→w.cell? ⟨g,j,none⟩=some u:=by
 obtain⟨g,cap,hv,h1,h2,h3,h4,h5⟩:=own_cells h hn
 injection hv with hv hn' hc
 subst hc
 exact⟨g,hv,h2,h1,h3,h4,h5⟩
theorem PlayQ.out {lo:Nat} {w:World} {Q:SL} {r:Rn Mch} (h:PlayQ lo w Q r):Q.nu=r.outs.length∧Q.outi.length=r.outs.length:=by
 have h1:=h.outs
 have h2:=h.outl
 have e:(toldR r).outs=r.outs:=rfl
 rw[e]at h2
 have h3:Q.nu=Q.outi.length:=by
  obtain⟨A,c,hv,_⟩:=own_slice h1
  injection hv
 exact⟨h3.trans h2,h2⟩
theorem PlayQ.evR {lo:Nat} {w:World} {Q:SL} {r:Rn Mch} (h:PlayQ lo w Q r):w.ownsRow lo 42 5 (.slice Q.ae r.events.length Q.ce) r.events.length (r.events.flatMap evC):=h.ev
theorem PlayQ.cellsR {lo:Nat} {w:World} {Q:SL} {r:Rn Mch} (h:PlayQ lo w Q r):w.ownsRow lo 40 1 (.slice Q.ac r.cells.length Q.cc) r.cells.length (r.cells.map u64V):=h.cells
theorem PlayQ.outsR {lo:Nat} {w:World} {Q:SL} {r:Rn Mch} (h:PlayQ lo w Q r):w.ownsRow lo 32 1 (.slice Q.au Q.nu Q.cu) Q.nu Q.outi:=by
 have:=h.outs
 rw[show(Q.pv r).outi.length=Q.nu from h.out.2.trans h.out.1.symm]at this
 exact this
theorem PlayQ.hvR {lo:Nat} {w:World} {Q:SL} {r:Rn Mch} (h:PlayQ lo w Q r):w.ownsRow lo 4 1 (.slice Q.ah r.ths.length Q.ch) r.ths.length ((haltL (srcK false) r.ths).map Value.bool):=by
 have:=h.hv
 rw[haltL_len]at this
 exact this
theorem PlayQ.outAt {lo:Nat} {w:World} {Q:SL} {r:Rn Mch} (h:PlayQ lo w Q r) {t:Nat} {l:List Nat} (hl:r.outs[t]?=some l):∃A c,Q.outi[t]?=some (.slice A l.length c)∧w.ownsRow lo 40 1 (.slice A l.length c) l.length (l.map u64V):=by
 have h1:=h.outi t
 have e:(toldR r).outs.getD t []=l:=by show r.outs.getD t []=l;rw[Kit.gD,hl];rfl
 rw[e]at h1
 obtain⟨A,c,hv,_⟩:=own_slice h1
 have hlt:t<Q.outi.length:=by rw[h.out.2];exact(List.getElem?_eq_some_iff.1 hl).1
 have e2:Q.outi[t]?=some (Q.outi.getD t nilV):=by rw[Kit.gD,Kit.eG hlt];rfl
 refine⟨A,c,?_,?_⟩
 ·rw[e2];exact congrArg some hv
 ·have h2:w.ownsRow lo 40 1 (Q.outi.getD t nilV) l.length (l.map u64V):=h1
  rw[show Q.outi.getD t nilV=_ from hv]at h2
  exact h2
def awakeB:Bool:=match sourceS bufferP [0,0,0,1,1,1] 100 false with
 | .ok r=>r.used == 6&&r.events.length == 6&&r.cells.length == 2&&r.cells[0]? == some 1&&r.ths.length == 2&&haltL (srcK false) r.ths == [true,true]&&r.outs.length == 2&&r.outs[1]? == some [1]
 | .error _=>false
theorem awakeB_true:awakeB=true:=by decide +kernel
theorem awake_run:∃r,sourceS bufferP [0,0,0,1,1,1] 100 false=.ok r∧r.used=6∧r.events.length=6∧r.cells.length=2∧r.cells[0]?=some 1∧r.ths.length=2∧haltL (srcK false) r.ths = [true,true]∧r.outs.length=2∧r.outs[1]?=some [1]:=by
 have h:=awakeB_true
 unfold awakeB at h
 cases hr:sourceS bufferP [0,0,0,1,1,1] 100 false with
 | error n=>rw[hr]at h;cases h
 | ok r =>
  rw[hr]at h
  simp only[Bool.and_eq_true,beq_iff_eq]at h
  obtain⟨⟨⟨⟨⟨⟨⟨h1,h2⟩,h3⟩,h4⟩,h5⟩,h6⟩,h7⟩,h8⟩:=h
  exact⟨r,rfl,h1,h2,h3,h4,h5,h6,h7,h8⟩
theorem bufferV:ProgV bufferP:=fun th hth a ha=>by
 simp only[bufferP,List.mem_cons,List.not_mem_nil,or_false]at hth
 rcases hth with rfl | rfl <;> (simp only[bufActs,List.mem_cons,List.not_mem_nil,or_false]at ha;rcases ha with rfl | rfl | rfl <;> (refine⟨?_,?_,?_⟩ <;> intro x hx <;> simp only[List.mem_cons,List.not_mem_nil,or_false]at hx <;> subst hx <;> decide))
theorem ints_blk {w:World} {g:Nat} {l:List Int} (h:Blk w g 3 (l.map (Value.int .i64)).toArray):IntsAt w (some ⟨g,0,none⟩) l:=fun i p hp=>by
 refine⟨_,rfl,?_⟩
 rw[show Addr.add ⟨g,0,none⟩ i=⟨g,i,none⟩ by unfold Addr.add;split <;> simp_all,h.cell]
 simp[hp]
set_option maxRecDepth 100000 in
set_option maxHeartbeats 0 in
theorem awake_any (w:World):Calls Tryz.prog 8 #[] w fun e w'=>e=.returned (.bool true)∧Below w.heap.size w w':=by
 have HBf:=Lib.hid (Buffer_any w)
 obtain⟨r,hr,h1,h2,h3,h4,h5,h6,h7,h8⟩:=awake_run
 have HSrc:∀w1 vt,ThreadsAt w1 vt bufferP.threads→Hid (Calls Tryz.prog 9 #[.agg #[.int .i64 2,vt],.slice (some ⟨w1.heap.size,0,none⟩) 6 6,.int .i64 100] (w1.alloc (.cells #[.int .i64 0,.int .i64 0,.int .i64 0,.int .i64 1,.int .i64 1,.int .i64 1] 3)) fun e w'=>SrcOk 2 r (w1.alloc (.cells #[.int .i64 0,.int .i64 0,.int .i64 0,.int .i64 1,.int .i64 1,.int .i64 1] 3)) e w'):=fun w1 vt hth =>
  Lib.hid ((Source_any bufferP bufferV vt (by decide) [0,0,0,1,1,1] (by decide) 100 (by decide) _ (hth.below (Kit.bl1)) (some ⟨w1.heap.size,0,none⟩) 6 (ints_blk (Blk.new w1 _ _)) (fun ad had=>by
   injection had with had
   subst had
   rw[sizeA]
   exact Nat.lt_succ_self _)).mono fun e w' h=>source_ok hr h)
 clear hr
 have H1:=Lib.hid h1
 have H2:=Lib.hid h2
 have H3:=Lib.hid h3
 have H5:=Lib.hid h5
 clear h1 h2 h3 h5
 go_enter Tryz.func8,Tryz.ntmps8
 go_upto_region 2 with (first |(go_at_call 17;refine HBf.out.mono ?_;rintro e w1 ⟨vt,rfl,hth,hb1⟩;have HS1:=HSrc w1 vt hth) |(go_at_call 9;refine HS1.out.mono ?_;rintro e w2 ⟨hb2,Q,rfl,hP⟩))
 obtain⟨w3,hw3⟩:∃y,y=w2.alloc (.cells #[.int .i64 2,.slice Q.ae r.events.length Q.ce,.slice Q.af r.rf.length Q.cf,.slice Q.ao Q.no Q.co,.slice Q.am r.rmw.length Q.cm,.slice none 0 0,.slice none 0 0,.slice none 0 0,.slice Q.ac r.cells.length Q.cc,.slice Q.au Q.nu Q.cu,.slice Q.ah r.ths.length Q.ch,.int .i64 (r.used:Int)] 36):=⟨_,rfl⟩
 have hX:Blk w3 w2.heap.size 36 #[.int .i64 2,.slice Q.ae r.events.length Q.ce,.slice Q.af r.rf.length Q.cf,.slice Q.ao Q.no Q.co,.slice Q.am r.rmw.length Q.cm,.slice none 0 0,.slice none 0 0,.slice none 0 0,.slice Q.ac r.cells.length Q.cc,.slice Q.au Q.nu Q.cu,.slice Q.ah r.ths.length Q.ch,.int .i64 (r.used:Int)]:=by rw[hw3];exact Blk.new _ _ _
 have hb23:Below w2.heap.size w2 w3:=by rw[hw3];exact Kit.bl1
 have hb3:Below w.heap.size w w3:=Kit.Below.then (Kit.Below.then (Kit.Below.al hb1 _) hb2) hb23
 have hP3:=hP.below hb23
 rw[←hw3]
 clear hw3 hb23 hP hb2 HS1 HSrc hth hb1 HBf
 generalize w2.heap.size=gx at *
 obtain⟨ho1,ho2⟩:=hP3.out
 obtain⟨gc,hac,_,_,_,_,hcc⟩:=row_at hP3.cellsR (by rw[H3.out];decide)
 obtain⟨gh,hah,_,_,_,_,hch⟩:=row_at hP3.hvR (by rw[H5.out];decide)
 have hou:=hP3.outsR
 obtain⟨go_,hau,_,_,_,_,hco⟩:=row_at hou (by rw[ho1,h7];decide)
 obtain⟨A1,c1,he1,hr1⟩:=hP3.outAt h8
 obtain⟨g1,rfl,_,_,_,_,hc1⟩:=row_at hr1 (by decide)
 have k11:w3.cell? ⟨gx,11,none⟩=some (.int .i64 6):=by rw[hX.cell 11,←show((r.used:Nat):Int)=6 by rw[H1.out];rfl];rfl
 have k1:w3.cell? ⟨gx,1,none⟩=some (.slice Q.ae 6 Q.ce):=by rw[hX.cell 1,←H2.out];rfl
 have k8:w3.cell? ⟨gx,8,none⟩=some (.slice (some ⟨gc,0,none⟩) 2 Q.cc):=by rw[hX.cell 8,←H3.out,←hac];rfl
 have k9:w3.cell? ⟨gx,9,none⟩=some (.slice (some ⟨go_,0,none⟩) 2 Q.cu):=by rw[hX.cell 9,←h7,←ho1,←hau];rfl
 have k10:w3.cell? ⟨gx,10,none⟩=some (.slice (some ⟨gh,0,none⟩) 2 Q.ch):=by rw[hX.cell 10,←H5.out,←hah];rfl
 have kc:w3.cell? ⟨gc,0,none⟩=some (.int .u64 1):=hcc 0 _ (by show(r.cells.map u64V)[0]?=_;rw[List.getElem?_map,h4];rfl)
 have kh:w3.cell? ⟨gh,1,none⟩=some (.bool true):=hch 1 _ (by rw[h6];rfl)
 have ko:w3.cell? ⟨go_,1,none⟩=some (.slice (some ⟨g1,0,none⟩) 1 c1):=hco 1 _ he1
 have k1':w3.cell? ⟨g1,0,none⟩=some (.int .u64 1):=hc1 0 _ rfl
 clear hcc hch hco hc1 he1 hr1 hou hau hah hac ho1 ho2 hX hP3 h4 h6 h7 h8
 go_wp2_with fail
 go_ret
 exact⟨rfl,hb3⟩
theorem load_same (K:Kd Mch) (r:Rn Mch) (t:Nat) (w:Want):(r.load K t w).used=r.used∧(r.load K t w).outs=r.outs:=by
 unfold Rn.load Rn.exd
 split <;> exact⟨rfl,rfl⟩
theorem second_same (K:Kd Mch) (r:Rn Mch) (t n:Nat):(r.second K t n).used=r.used∧(r.second K t n).outs=r.outs:=by
 unfold Rn.second
 simp only
 split
 ·exact⟨rfl,rfl⟩
 ·split
  ·exact⟨rfl,rfl⟩
  ·split <;> exact⟨rfl,rfl⟩
def OutsLe (r:Rn Mch):Prop:=∀t,(r.outs.getD t []).length≤r.used
theorem OutsLe.same {r r':Rn Mch} (h:OutsLe r) (h1:r'.used=r.used) (h2:r'.outs=r.outs):OutsLe r':=fun t=>by rw[h1,h2];exact h t
theorem doo_le (K:Kd Mch) (r:Rn Mch) (t:Nat) (w:Want) (h:OutsLe r):OutsLe ((r.did t).doo K t w)∧((r.did t).doo K t w).used=r.used+1:=by
 have hd:OutsLe (r.did t):=fun u=>Nat.le_succ_of_le (h u)
 unfold Rn.doo
 repeat' split
 ·exact⟨hd.same (load_same K _ t w).1 (load_same K _ t w).2,(load_same K _ t w).1⟩
 ·have e:=second_same K (((r.did t).load K t w).ask K t) t (r.did t).events.length
  have e2:=load_same K (r.did t) t w
  exact⟨hd.same (e.1.trans e2.1) (e.2.trans e2.2),e.1.trans e2.1⟩
 ·exact⟨hd.same (load_same K _ t w).1 (load_same K _ t w).2,(load_same K _ t w).1⟩
 ·have e:=second_same K (((r.did t).load K t w).ask K t) t (r.did t).events.length
  have e2:=load_same K (r.did t) t w
  exact⟨hd.same (e.1.trans e2.1) (e.2.trans e2.2),e.1.trans e2.1⟩
 ·exact⟨hd.same rfl rfl,rfl⟩
 ·exact⟨hd.same rfl rfl,rfl⟩
 ·exact⟨hd.same rfl rfl,rfl⟩
 ·refine⟨fun u=>?_,rfl⟩
  show((r.outs.set t (r.outs.getD t []++[w.val])).getD u []).length≤r.used+1
  have h1:=h t
  have h2:=h u
  simp only[List.getD_eq_getElem?_getD,List.getElem?_set]at *
  split
  ·rename_i e
   subst e
   split
   ·simp;omega
   ·simp
  ·omega
 ·exact⟨hd,rfl⟩
theorem pick_le (K:Kd Mch) (r:Rn Mch) (t:Int) (h:OutsLe r):OutsLe (r.pick K t)∧(r.pick K t).used≤r.used+1:=by
 unfold Rn.pick
 simp only
 split
 ·exact⟨h,Nat.le_succ _⟩
 ·have h1:OutsLe (r.ask K t.toNat):=h.same rfl rfl
  split
  ·obtain⟨h2,h3⟩:=doo_le K (r.ask K t.toNat) t.toNat ((r.ask K t.toNat).wants K t.toNat) h1
   exact⟨h2,by rw[h3];exact Nat.le_refl _⟩
  ·exact⟨h1,Nat.le_succ _⟩
def U64sAt (w:World) (A:Option Addr) (l:List Nat):Prop:=∀(i:Nat) (x:Nat),l[i]?=some x→∃ad:Addr,A=some ad∧w.cell? (ad.add i)=some (.int .u64 x)
theorem own_u64s {w:World} {lo n c:Nat} {A:Option Addr} {l:List Nat} (h:w.ownsRow lo 40 1 (.slice A n c) n (l.map u64V)) (hn:n=l.length):U64sAt w A l:=fun i x hi=>by
 have hil:=(List.getElem?_eq_some_iff.1 hi).1
 obtain⟨g,hA,_,_,_,_,hc⟩:=row_at h (by omega)
 refine⟨_,hA,?_⟩
 rw[show Addr.add ⟨g,0,none⟩ i=⟨g,i,none⟩ by unfold Addr.add;split <;> simp_all]
 exact hc i _ (by rw[List.getElem?_map,hi];rfl)
theorem U64sAt.dn {w:World} {A:Option Addr} {l:List Nat} (h:U64sAt w A l) (n:Nat):U64sAt (w.drewN n) A l:=h
theorem ints_below {w w':World} {A:Option Addr} {l:List Int} (h:IntsAt w A l) (hA:∀ad,A=some ad→ad.block<w.heap.size) (hb:Below w.heap.size w w'):IntsAt w' A l:=fun i q hq=>by
 obtain⟨ad,hA1,hc⟩:=h i q hq
 refine⟨ad,hA1,?_⟩
 have hb':(ad.add i).block=ad.block:=by unfold Addr.add;split <;> rfl
 rw[World.cell?_of_block (w:=w) (hb.block _ (by rw[hb'];exact hA ad hA1))]
 exact hc
theorem PlayQ.else_ {S:Nat→Prop} {lo g:Nat} {w w':World} {Q:SL} {r:Rn Mch} {cs:Array Value} (h:PlayQ lo w Q r) (hb:Blk w g 36 cs) (hk:KeptS S w w') (hS:∀k,S k→k=g):PlayQ lo w' Q r:=PlayW.else_ h hb hk hS
def NumRel (w:World) (la lb:List Nat) (mm:Nat) (s5:Value) (wr:World):Prop :=
 ∃k n:Nat,s5=.int .i64 k∧k≤la.length∧mm=la.length-k∧(∀j,j<k→la[j]?=lb[j]?)∧wr=w.drewN n
end Go.Proofs.YtmjilfamjlnigaaGreat.LawW
