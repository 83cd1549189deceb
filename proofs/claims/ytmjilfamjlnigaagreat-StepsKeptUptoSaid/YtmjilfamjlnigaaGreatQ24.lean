/- WALKS: what a thread wants next. -/
import Derived.Test.YtmjilfamjlnigaaGreatQ23
namespace Go.Proofs.YtmjilfamjlnigaaGreat.MchW
open Go Go.RowKit Kit SrcP SrcW
def NxRel (w0:World) (g gl:Nat) (tl:Int) (va:Value) (nl cells:Nat) (m0:Mch) (acts:List SrcP.Act) (mm:Nat) (s25:Value) (wr:World):Prop :=
 ∃(k:Nat) (m:Mch),s25=.int .i64 k∧k≤100000∧mm=100000-k∧MachM wr g gl tl va nl m∧MchW cells nl m∧m.acts=acts∧KeptS (MS g gl) w0 wr∧nextL (100000-k) m=nextL 100000 m0
theorem wantC_len (x:Want):(wantC x).toArray=#[.int .i64 x.what,.int .i64 x.loc,.int .i64 x.mode,.int .u64 x.val,.bool x.ex,.bool x.one]:=rfl
theorem MachM.dn {w:World} {g gl nl:Nat} {tl:Int} {va:Value} {m:Mch} (h:MachM w g gl tl va nl m) (n:Nat):MachM (w.drewN n) g gl tl va nl m:=h.below (Below_drewN _ _)
theorem kept_now {S:Nat→Prop} {w w1:World} (h:KeptS S w w1) {g:Nat} (hg:S g) (u0 u1 u2 u3 u4 u5:Value) :
  KeptS S w ((((((w1.setCell ⟨g,4,none⟩ u0).setCell ⟨g,5,none⟩ u1).setCell ⟨g,6,none⟩ u2).setCell ⟨g,7,none⟩ u3).setCell ⟨g,8,none⟩ u4).setCell ⟨g,9,none⟩ u5) :=
 (((((h.set hg 4 u0).set hg 5 u1).set hg 6 u2).set hg 7 u3).set hg 8 u4).set hg 9 u5
theorem far_now {w:World} {gg g:Nat} {t:TypeId} {cs:Array Value} (h:Blk w gg t cs) (hne:gg≠g) (u0 u1 u2 u3 u4 u5:Value) :
  Blk ((((((w.setCell ⟨g,4,none⟩ u0).setCell ⟨g,5,none⟩ u1).setCell ⟨g,6,none⟩ u2).setCell ⟨g,7,none⟩ u3).setCell ⟨g,8,none⟩ u4).setCell ⟨g,9,none⟩ u5) gg t cs :=
 (((((h.farN hne u0).farN hne u1).farN hne u2).farN hne u3).farN hne u4).farN hne u5
theorem ownS_acts (m:Mch) (a:SrcP.Act):(ownS m a).acts=m.acts:=by
 unfold ownS
 repeat' split
 all_goals rfl
set_option maxRecDepth 100000 in
set_option maxHeartbeats 0 in
theorem Next_any {w:World} {g gl nl cells:Nat} (hcells:cells≤4096) {tl:Int} {va:Value} {m:Mch} (h:MachM w g gl tl va nl m) (hok:MchOk cells nl m) :
  Calls Tryz.prog 215 #[.pointer (some ⟨g,0,none⟩)] w fun r w'=>r=.returned (.agg (wantC (nextS m).now).toArray)∧MachM w' g gl tl va nl (nextS m)∧KeptS (MS g gl) w w':=by
 have hg1:=h.blk.lt
 have hg2:=h.loc.lt
 have hgl:=h.ne
 obtain⟨A,c,rfl,_⟩:=h.acts
 generalize hL:m.acts.length=L at *
 have HL0:=Lib.hid hL
 clear hL
 generalize hms:nextS m=ms at *
 have HMS:=Lib.hid hms
 clear hms
 go_enter Tryz.func215,Tryz.ntmps215
 go_upto_region 1 with fail
 obtain⟨w0,hw0⟩:∃y,y=w.alloc (.cells #[.int .i64 0,.int .i64 0,.int .i64 0,.int .u64 0,.bool false,.bool false] 100):=⟨_,rfl⟩
 have hb0:Below w.heap.size w w0:=by rw[hw0];exact Kit.bl1
 have hW8:Blk w0 w.heap.size 100 #[.int .i64 0,.int .i64 0,.int .i64 0,.int .u64 0,.bool false,.bool false]:=by rw[hw0];exact Blk.new _ _ _
 rw[←hw0]
 clear hw0
 have hM8:=h.below hb0
 have hK8:KeptS (MS g gl) w w0:=KeptS.of_below hb0
 obtain⟨gr,hgrE⟩:∃gr,gr=w.heap.size:=⟨_,rfl⟩
 have hgr:w.heap.size≤gr:=by omega
 have hgr1:g<gr:=by omega
 have hgr2:gl<gr:=by omega
 rw[←hgrE]at hW8 ⊢
 have HGR:=Lib.hid hgrE
 clear hgrE
 clear hb0 h
 have k10:w0.cell? ⟨g,10,none⟩=some (.bool m.asked):=hM8.blk.cell 10
 have k4:w0.cell? ⟨g,4,none⟩=some (.int .i64 m.now.what):=hM8.blk.cell 4
 by_cases hask:m.asked=true∧m.now.what≠6
 ·obtain rfl:ms=m:=by rw[←HMS.out];unfold nextS;rw[if_pos hask]
  have q1:=hask.1
  have q2:(ms.now.what == 6)=false:=by simp[hask.2]
  rw[q1]at k10
  clear k4
  clear HMS
  have n4:w0.cell? ⟨g,4,none⟩=some (.int .i64 ms.now.what):=hM8.blk.cell 4
  have n5:w0.cell? ⟨g,5,none⟩=some (.int .i64 ms.now.loc):=hM8.blk.cell 5
  have n6:w0.cell? ⟨g,6,none⟩=some (.int .i64 ms.now.mode):=hM8.blk.cell 6
  have n7:w0.cell? ⟨g,7,none⟩=some (.int .u64 ms.now.val):=hM8.blk.cell 7
  have n8:w0.cell? ⟨g,8,none⟩=some (.bool ms.now.ex):=hM8.blk.cell 8
  have n9:w0.cell? ⟨g,9,none⟩=some (.bool ms.now.one):=hM8.blk.cell 9
  have hl8:=hW8.lt
  obtain⟨d0,d1,d2,d3,d4,d5⟩:=Kit.cells6 hW8
  have df:=fun i=>hW8.frozen i
  go_wp2_with fail
  have hB9:=blk_set6 hW8 (.int .i64 ms.now.what) (.int .i64 ms.now.loc) (.int .i64 ms.now.mode) (.int .u64 ms.now.val) (.bool ms.now.ex) (.bool ms.now.one)
  have hk9:=kept_set6 hK8 hgr (.int .i64 ms.now.what) (.int .i64 ms.now.loc) (.int .i64 ms.now.mode) (.int .u64 ms.now.val) (.bool ms.now.ex) (.bool ms.now.one)
  have hM9:=hM8.kept (keptW_set6 (g:=gr) (.int .i64 ms.now.what) (.int .i64 ms.now.loc) (.int .i64 ms.now.mode) (.int .u64 ms.now.val) (.bool ms.now.ex) (.bool ms.now.one)) (by omega) (by omega) (fun k hk=>⟨_,_,hk ▸ hW8,nTW⟩)
  generalize ((((((w0.setCell ⟨gr,0,none⟩ _).setCell ⟨gr,1,none⟩ _).setCell ⟨gr,2,none⟩ _).setCell ⟨gr,3,none⟩ _).setCell ⟨gr,4,none⟩ _).setCell ⟨gr,5,none⟩ _)=w9 at *
  have e0:=hB9.cell 0
  have e1:=hB9.cell 1
  have e2:=hB9.cell 2
  have e3:=hB9.cell 3
  have e4:=hB9.cell 4
  have e5:=hB9.cell 5
  simp only[List.getElem?_toArray,List.getElem?_cons_zero,List.getElem?_cons_succ]at e0 e1 e2 e3 e4 e5
  refine bodyPost_ret (v:=.agg #[.int .i64 ms.now.what,.int .i64 ms.now.loc,.int .i64 ms.now.mode,.int .u64 ms.now.val,.bool ms.now.ex,.bool ms.now.one]) (by simp[results,Tryz.results215,go_sem,e0,e1,e2,e3,e4,e5]) rfl ?_
  exact⟨rfl,hM9,hk9⟩
 ·have hms2:ms=nextL 100000 { m with asked:=true }:=by rw[←HMS.out];unfold nextS;rw[if_neg hask]
  have HMS2:=Lib.hid hms2
  have hW0:MchW cells nl { m with asked:=true }:=⟨hok.hnl,hok.len,hok.lt,hok.at_,hok.alen,hok.acts,hok.old,hok.nval,hok.opn⟩
  clear hms2 HMS
  have hskip:m.asked=false∨m.now.what=6:=by
   cases hh:m.asked with
   | false=>exact .inl rfl
   | true=>right;exact Decidable.not_not.1 fun h6=>hask ⟨hh,h6⟩
  have mf:=fun i=>hM8.blk.frozen i
  have HX:∀(K:Prop),(m.asked=false→K)→(m.asked=true→m.now.what=6→K)→K:=fun K h1 h2=>by
   rcases hskip with h | h
   ·exact h1 h
   ·cases hh:m.asked with
    | false=>exact h1 hh
    | true=>exact h2 hh h
  go_cut [17] (fun s17 wz=>s17=.bool false∧wz=w0)
  case first =>
   refine HX _ (fun hf=>?_) (fun ht h6=>?_)
   ·rw[hf]at k10
    go_wp2_with fail
    go_meet
    exact⟨rfl,rfl⟩
   ·rw[ht]at k10
    rw[h6]at k4
    go_wp2_with fail
    go_meet
    exact⟨rfl,rfl⟩
  case rest =>
   obtain⟨rfl,rfl⟩:=hcut
   go_upto_region 4 with fail
   have hM2:=hM8.asked true
   have hK2:KeptS (MS g gl) w (wc.setCell ⟨g,10,none⟩ (.bool true)):=hK8.set (.inl rfl) 10 (.bool true)
   have hW2:=hW8.farN (b:=g) (o:=10) (by omega) (.bool true)
   generalize wc.setCell ⟨g,10,none⟩ (.bool true)=w2 at *
   clear hM8 hK8 hW8 k10 k4 mf
   have hL:=HL0.out
   have hacts:({ m with asked:=true }:Mch).acts=m.acts:=rfl
   generalize ({ m with asked:=true }:Mch)=m1 at *
   have hL2:m1.acts.length=L:=by rw[hacts];exact hL
   clear hok hask hskip HX hacts hL
   have HL2:=Lib.hid hL2
   clear hL2
   go_wp2_with fail
   go_loopg [25] 100000 (fun mm s25 wr=>NxRel w2 g gl tl (.slice A L c) nl cells m1 m1.acts mm s25 wr)
   case atStart=>exact⟨0,m1,rfl,by omega,rfl,hM2,hW0,rfl,KeptS.refl _ _,rfl⟩
   case round =>
    obtain⟨k,mk,rfl,hk,hmm,hMk,hWk,hmacts,hKk,hnext⟩:=hrel
    have HM:=Lib.hid hmm
    have HNX:=Lib.hid hnext
    have HAC:=Lib.hid hmacts
    clear hmm hnext hmacts
    have hRk:=hKk.blk hW2 (by unfold MS;omega)
    have hKw:=hK2.trans hKk
    have r1:wr.cell? ⟨g,1,none⟩=some (.slice A L c):=hMk.blk.cell 1
    have r2:wr.cell? ⟨g,2,none⟩=some (.int .i64 mk.at_):=hMk.blk.cell 2
    have rf:=fun i=>hMk.blk.frozen i
    have hLk:mk.acts.length=L:=by rw[HAC.out];exact HL2.out
    have hatL:mk.at_≤L:=by have:=hWk.at_;omega
    have HLK:=Lib.hid hLk
    clear hLk
    by_cases hke:k<100000
    ·have a1:(k:Int)<100000:=by omega
     by_cases hat:mk.at_=L
     ·have q:((mk.at_:Int) == (L:Int))=true:=by simp[hat]
      have hnone:mk.acts[mk.at_]?=none:=by rw[List.getElem?_eq_none];have:=HLK.out;omega
      have HMS3:Hid (ms = { mk with now:=⟨5,0,0,0,false,false⟩ }):=Lib.hid (by
       rw[HMS2.out,←HNX.out,show 100000-k=(99999-k)+1 by omega]
       unfold nextL
       rw[hnone])
      clear hat hnone
      have HQ:=Lib.hid q
      clear q
      go_upto_region 6 with fail
      have q:=HQ.out
      go_quiet (fail)
      have hMq:=hMk.dn nq
      have hKq:=hKw.dn nq
      have hRq:=hRk.drewN nq
      generalize wr.drewN nq=wq at *
      clear r1 r2 rf q
      have n4:wq.cell? ⟨g,4,none⟩=some (.int .i64 mk.now.what):=hMq.blk.cell 4
      have n5:wq.cell? ⟨g,5,none⟩=some (.int .i64 mk.now.loc):=hMq.blk.cell 5
      have n6:wq.cell? ⟨g,6,none⟩=some (.int .i64 mk.now.mode):=hMq.blk.cell 6
      have n7:wq.cell? ⟨g,7,none⟩=some (.int .u64 mk.now.val):=hMq.blk.cell 7
      have n8:wq.cell? ⟨g,8,none⟩=some (.bool mk.now.ex):=hMq.blk.cell 8
      have n9:wq.cell? ⟨g,9,none⟩=some (.bool mk.now.one):=hMq.blk.cell 9
      have nf:=fun i=>hMq.blk.frozen i
      go_upto_region 8 with fail
      have hM8:MachM ((((((wq.setCell ⟨g,4,none⟩ (.int .i64 5)).setCell ⟨g,5,none⟩ (.int .i64 0)).setCell ⟨g,6,none⟩ (.int .i64 0)).setCell ⟨g,7,none⟩ (.int .u64 0)).setCell ⟨g,8,none⟩ (.bool false)).setCell ⟨g,9,none⟩ (.bool false)) g gl tl (.slice A L c) nl { mk with now:=⟨5,0,0,0,false,false⟩ }:=hMq.now ⟨5,0,0,0,false,false⟩
      have hK8:=kept_now hKq (g:=g) (.inl rfl) (.int .i64 5) (.int .i64 0) (.int .i64 0) (.int .u64 0) (.bool false) (.bool false)
      have hW8:=far_now hRq (g:=g) (by omega) (.int .i64 5) (.int .i64 0) (.int .i64 0) (.int .u64 0) (.bool false) (.bool false)
      generalize ((((((wq.setCell ⟨g,4,none⟩ _).setCell ⟨g,5,none⟩ _).setCell ⟨g,6,none⟩ _).setCell ⟨g,7,none⟩ _).setCell ⟨g,8,none⟩ _).setCell ⟨g,9,none⟩ _)=w8 at *
      rw[←HMS3.out]at hM8
      clear n4 n5 n6 n7 n8 n9 nf
      have n4:w8.cell? ⟨g,4,none⟩=some (.int .i64 ms.now.what):=hM8.blk.cell 4
      have n5:w8.cell? ⟨g,5,none⟩=some (.int .i64 ms.now.loc):=hM8.blk.cell 5
      have n6:w8.cell? ⟨g,6,none⟩=some (.int .i64 ms.now.mode):=hM8.blk.cell 6
      have n7:w8.cell? ⟨g,7,none⟩=some (.int .u64 ms.now.val):=hM8.blk.cell 7
      have n8:w8.cell? ⟨g,8,none⟩=some (.bool ms.now.ex):=hM8.blk.cell 8
      have n9:w8.cell? ⟨g,9,none⟩=some (.bool ms.now.one):=hM8.blk.cell 9
      have hl8:=hW8.lt
      obtain⟨d0,d1,d2,d3,d4,d5⟩:=Kit.cells6 hW8
      have df:=fun i=>hW8.frozen i
      go_wp2_with fail
      have hB9:=blk_set6 hW8 (.int .i64 ms.now.what) (.int .i64 ms.now.loc) (.int .i64 ms.now.mode) (.int .u64 ms.now.val) (.bool ms.now.ex) (.bool ms.now.one)
      have hk9:=kept_set6 hK8 hgr (.int .i64 ms.now.what) (.int .i64 ms.now.loc) (.int .i64 ms.now.mode) (.int .u64 ms.now.val) (.bool ms.now.ex) (.bool ms.now.one)
      have hM9:=hM8.kept (keptW_set6 (g:=gr) (.int .i64 ms.now.what) (.int .i64 ms.now.loc) (.int .i64 ms.now.mode) (.int .u64 ms.now.val) (.bool ms.now.ex) (.bool ms.now.one)) (by omega) (by omega) (fun k hk=>⟨_,_,hk ▸ hW8,nTW⟩)
      generalize ((((((w8.setCell ⟨gr,0,none⟩ _).setCell ⟨gr,1,none⟩ _).setCell ⟨gr,2,none⟩ _).setCell ⟨gr,3,none⟩ _).setCell ⟨gr,4,none⟩ _).setCell ⟨gr,5,none⟩ _)=w9 at *
      have e0:=hB9.cell 0
      have e1:=hB9.cell 1
      have e2:=hB9.cell 2
      have e3:=hB9.cell 3
      have e4:=hB9.cell 4
      have e5:=hB9.cell 5
      simp only[List.getElem?_toArray,List.getElem?_cons_zero,List.getElem?_cons_succ]at e0 e1 e2 e3 e4 e5
      refine bodyPost_ret (v:=.agg #[.int .i64 ms.now.what,.int .i64 ms.now.loc,.int .i64 ms.now.mode,.int .u64 ms.now.val,.bool ms.now.ex,.bool ms.now.one]) (by simp[results,Tryz.results215,go_sem,e0,e1,e2,e3,e4,e5]) rfl ?_
      exact⟨rfl,hM9,hk9⟩
     ·have q:((mk.at_:Int) == (L:Int))=false:=by simp;omega
      have hlt:mk.at_<mk.acts.length:=by have:=HLK.out;omega
      obtain⟨a,ha⟩:∃a,mk.acts[mk.at_]?=some a:=⟨_,Kit.eG hlt⟩
      have haw:=hWk.well ha
      have hop:=haw.parts.1
      have HA:=Lib.hid ha
      have HQ:=Lib.hid q
      clear q hat
      go_upto_region 6 with fail
      have q:=HQ.out
      go_quiet (fail)
      have hMq:=hMk.dn nq
      have hKq:=hKw.dn nq
      have hKq2:=hKk.dn nq
      have hRq:=hRk.drewN nq
      generalize wr.drewN nq=wq at *
      clear r1 r2 rf q
      have HACT:=Lib.hid (act_any hMq (by have:=hWk.alen;exact this) a HA.out)
      unfold actC at HACT
      go_upto_region 10 with (go_at_call 216;refine HACT.out.mono ?_;rintro e w3 ⟨I,E,F,li,ci,le,ce,lf,cf,rfl,hav,hb3⟩)
      obtain⟨w4,hw4⟩:∃x,x=w3.alloc (.cells #[.int .i64 a.op,.int .i64 a.dst,.int .i64 a.base,.int .i64 a.size,.slice I li ci,.slice E le ce,.slice F lf cf,.int .i64 a.mode,.int .i64 a.to,.int .i64 a.line,.int .i64 a.col] 58):=⟨_,rfl⟩
      have hb4:Below wq.heap.size wq w4:=by rw[hw4];exact Kit.Below.al hb3 _
      have hb34:Below w3.heap.size w3 w4:=by rw[hw4];exact Kit.bl1
      have hA4:Blk w4 w3.heap.size 58 #[.int .i64 a.op,.int .i64 a.dst,.int .i64 a.base,.int .i64 a.size,.slice I li ci,.slice E le ce,.slice F lf cf,.int .i64 a.mode,.int .i64 a.to,.int .i64 a.line,.int .i64 a.col]:=by rw[hw4];exact Blk.new _ _ _
      have hM4:=hMq.below hb4
      have hK4:=hKq.trans (KeptS.of_below hb4)
      have hK42:=hKq2.trans (KeptS.of_below hb4)
      have hR4:=hRq.below' hb4
      have hav4:=hav.still (Still.below hb34)
      have hga:w.heap.size≤w3.heap.size:=Nat.le_trans hKq.size hb3.size
      have hgar:gr≠w3.heap.size:=by have h1:=hRq.lt;have h2:=hb3.size;omega
      rw[←hw4]
      generalize w3.heap.size=ga at *
      clear hw4 hb3 hav hb34 hMq hKq hKq2 hRq HACT hMk hKw hRk hKk
      have hix:=fun w=>works_ix a.op hop.1 hop.2 w
      have HWK:=fun w2 (hb:Below w4.heap.size w4 w2)=>Lib.hid (work_any hcells (hM4.below hb) hWk a haw (hav4.still (Still.below hb)))
      unfold actC at HWK
      have HCF:=fun args w=>Lib.hid (work_call a.op hop.1 hop.2 args w)
      generalize workOf a.op=wk at *
      generalize hst:stepW mk a=st at *
      simp only[wantC_len]at HWK
      unfold worksV at hix
      have HIX:=fun w=>Lib.hid (hix w)
      clear hix
      go_cut [4] (fun s4 wz=>∃gx,s4=.pointer (some ⟨gx,0,none⟩)∧Blk wz gx 100 #[.int .i64 st.1.what,.int .i64 st.1.loc,.int .i64 st.1.mode,.int .u64 st.1.val,.bool st.1.ex,.bool st.1.one]∧MachM wz g gl tl (.slice A L c) nl st.2∧KeptS (MS g gl) w4 wz∧w4.heap.size≤gx)
      case first =>
       have c0:∀p:Cls (Below w4.heap.size w4),p.w.cell? ⟨ga,0,none⟩=some (.int .i64 a.op):=fun p=>hA4.cls 0 p
       have c1:∀p:Cls (Below w4.heap.size w4),p.w.cell? ⟨ga,1,none⟩=some (.int .i64 a.dst):=fun p=>hA4.cls 1 p
       have c2:∀p:Cls (Below w4.heap.size w4),p.w.cell? ⟨ga,2,none⟩=some (.int .i64 a.base):=fun p=>hA4.cls 2 p
       have c3:∀p:Cls (Below w4.heap.size w4),p.w.cell? ⟨ga,3,none⟩=some (.int .i64 a.size):=fun p=>hA4.cls 3 p
       have c4:∀p:Cls (Below w4.heap.size w4),p.w.cell? ⟨ga,4,none⟩=some (.slice I li ci):=fun p=>hA4.cls 4 p
       have c5:∀p:Cls (Below w4.heap.size w4),p.w.cell? ⟨ga,5,none⟩=some (.slice E le ce):=fun p=>hA4.cls 5 p
       have c6:∀p:Cls (Below w4.heap.size w4),p.w.cell? ⟨ga,6,none⟩=some (.slice F lf cf):=fun p=>hA4.cls 6 p
       have c7:∀p:Cls (Below w4.heap.size w4),p.w.cell? ⟨ga,7,none⟩=some (.int .i64 a.mode):=fun p=>hA4.cls 7 p
       have c8:∀p:Cls (Below w4.heap.size w4),p.w.cell? ⟨ga,8,none⟩=some (.int .i64 a.to):=fun p=>hA4.cls 8 p
       have c9:∀p:Cls (Below w4.heap.size w4),p.w.cell? ⟨ga,9,none⟩=some (.int .i64 a.line):=fun p=>hA4.cls 9 p
       have c10:∀p:Cls (Below w4.heap.size w4),p.w.cell? ⟨ga,10,none⟩=some (.int .i64 a.col):=fun p=>hA4.cls 10 p
       refine wp_region_float (Below w4.heap.size w4) 8 4 [1,2,4,5] [6] (Below_drewN _ 1) (by kernel_rfl) (by kernel_rfl) ?_
       intro hne
       simp only[pickL,List.map_cons,List.map_nil,List.getElem?_cons_succ,List.getElem?_cons_zero,Option.getD_some]
       repeat (go_big_quiet_step (fail))
       refine wpQuiet_nil ?_
       intro w1 h1
       clear hne c0 c1 c2 c3 c4 c5 c6 c7 c8 c9 c10
       refine floatG_two (i:=0) (i':=7) (by kernel_rfl) (by decide) (by decide) rfl rfl ?_ ?_
       ·skip
        go_wp2_with (go_at_call 218;refine(works_any _).mono ?_;rintro e w5 ⟨rfl,hq⟩)
        have h5:=Kit.Below.then h1 hq
        skip
        refine Kit.oG h5 ?_
        unfold worksV
        refine floatG_two (i:=3) (i':=7) (by kernel_rfl) (by decide) (by decide) rfl rfl ?_ ?_
        ·skip
         have hx:=(HIX w5).out
         go_wp2_with fail
         refine Kit.oG h5 ?_
         clear hx
         refine floatG_two (i:=6) (i':=7) (by kernel_rfl) (by decide) (by decide) rfl rfl ?_ ?_
         ·skip
          have hcf:=fun args=>(HCF args w5).out
          go_wp2_with fail
          refine(HWK _ h5).out.mono ?_
          rintro e w6 ⟨rfl,hM6,hK6⟩
          go_wp2_with fail
          have hK46:=(KeptS.of_below (S:=MS g gl) h5).trans hK6
          skip
          refine onG_mk (fun hh=>absurd (by decide) hh.1) ?_
          clear hcf
          refine fG (i:=7) rfl ?_
          go_wp2_with fail
          have hz:=Blk.new w6 100 #[.int .i64 0,.int .i64 0,.int .i64 0,.int .u64 0,.bool false,.bool false]
          have hgx:w4.heap.size≤w6.heap.size:=hK46.size
          have hM7:=hM6.below (Kit.Below.al (Below.refl _ _) (.cells #[.int .i64 0,.int .i64 0,.int .i64 0,.int .u64 0,.bool false,.bool false] 100))
          have hK47:=hK46.al (.cells #[.int .i64 0,.int .i64 0,.int .i64 0,.int .u64 0,.bool false,.bool false] 100)
          generalize w6.heap.size=gx at *
          refine onG_mk (fun hh=>absurd (hh.2 6 (by decide)) (by decide +kernel)) ?_
          generalize w6.alloc (.cells #[.int .i64 0,.int .i64 0,.int .i64 0,.int .u64 0,.bool false,.bool false] 100)=w7 at *
          clear hM6 hK6 hK46
          obtain⟨hM6,hK46⟩:=And.intro hM7 hK47
          clear hM7 hK47
          refine(show tailG _ _ _ _ _ _ _ from⟨by kernel_rfl,?_⟩)
          simp only[List.drop_succ_cons,List.drop_zero]
          obtain⟨d0,d1,d2,d3,d4,d5⟩:=Kit.cells6 hz
          have df:=fun i=>hz.frozen i
          have hg4:=hM4.blk.lt
          have hgl4:=hM4.loc.lt
          have hMf:=hM6.kept (keptW_set6 (g:=gx) (.int .i64 st.1.what) (.int .i64 st.1.loc) (.int .i64 st.1.mode) (.int .u64 st.1.val) (.bool st.1.ex) (.bool st.1.one)) (by omega) (by omega) (fun k hk=>⟨_,_,hk ▸ hz,nTW⟩)
          go_wp2_with fail
          go_meet
          exact⟨gx,rfl,blk_set6 hz _ _ _ _ _ _,hMf,kept_set6 hK46 hgx _ _ _ _ _ _,hgx⟩
         ·skip
          go_wp2_with fail
          have h7:=Kit.Below.al h5 (.cells #[.int .i64 0,.int .i64 0,.int .i64 0,.int .u64 0,.bool false,.bool false] 100)
          have hz:=Blk.new w5 100 #[.int .i64 0,.int .i64 0,.int .i64 0,.int .u64 0,.bool false,.bool false]
          have hgx:w4.heap.size≤w5.heap.size:=h5.size
          generalize w5.heap.size=gx at *
          generalize w5.alloc (.cells #[.int .i64 0,.int .i64 0,.int .i64 0,.int .u64 0,.bool false,.bool false] 100)=w7 at *
          refine Kit.oG h7 ?_
          refine fG (i:=6) rfl ?_
          have hcf:=fun args=>(HCF args w7).out
          go_wp2_with fail
          refine(HWK _ h7).out.mono ?_
          rintro e w6 ⟨rfl,hM6,hK6⟩
          go_wp2_with fail
          have hK46:=(KeptS.of_below (S:=MS g gl) h7).trans hK6
          replace hz:=hK6.blk hz (by unfold MS;have h1:=hM4.blk.lt;have h2:=hM4.loc.lt;omega)
          refine onG_mk (fun hh=>absurd (by decide) hh.1) ?_
          clear hcf
          refine(show tailG _ _ _ _ _ _ _ from⟨by kernel_rfl,?_⟩)
          simp only[List.drop_succ_cons,List.drop_zero]
          obtain⟨d0,d1,d2,d3,d4,d5⟩:=Kit.cells6 hz
          have df:=fun i=>hz.frozen i
          have hg4:=hM4.blk.lt
          have hgl4:=hM4.loc.lt
          have hMf:=hM6.kept (keptW_set6 (g:=gx) (.int .i64 st.1.what) (.int .i64 st.1.loc) (.int .i64 st.1.mode) (.int .u64 st.1.val) (.bool st.1.ex) (.bool st.1.one)) (by omega) (by omega) (fun k hk=>⟨_,_,hk ▸ hz,nTW⟩)
          go_wp2_with fail
          go_meet
          exact⟨gx,rfl,blk_set6 hz _ _ _ _ _ _,hMf,kept_set6 hK46 hgx _ _ _ _ _ _,hgx⟩
        ·skip
         go_wp2_with fail
         have h7:=Kit.Below.al h5 (.cells #[.int .i64 0,.int .i64 0,.int .i64 0,.int .u64 0,.bool false,.bool false] 100)
         have hz:=Blk.new w5 100 #[.int .i64 0,.int .i64 0,.int .i64 0,.int .u64 0,.bool false,.bool false]
         have hgx:w4.heap.size≤w5.heap.size:=h5.size
         generalize w5.heap.size=gx at *
         generalize w5.alloc (.cells #[.int .i64 0,.int .i64 0,.int .i64 0,.int .u64 0,.bool false,.bool false] 100)=w7 at *
         refine Kit.oG h7 ?_
         refine fG (i:=3) rfl ?_
         have hx:=(HIX w7).out
         go_wp2_with fail
         refine Kit.oG h7 ?_
         clear hx
         refine fG (i:=6) rfl ?_
         have hcf:=fun args=>(HCF args w7).out
         go_wp2_with fail
         refine(HWK _ h7).out.mono ?_
         rintro e w6 ⟨rfl,hM6,hK6⟩
         go_wp2_with fail
         have hK46:=(KeptS.of_below (S:=MS g gl) h7).trans hK6
         replace hz:=hK6.blk hz (by unfold MS;have h1:=hM4.blk.lt;have h2:=hM4.loc.lt;omega)
         refine onG_mk (fun hh=>absurd (by decide) hh.1) ?_
         clear hcf
         refine(show tailG _ _ _ _ _ _ _ from⟨by kernel_rfl,?_⟩)
         simp only[List.drop_succ_cons,List.drop_zero]
         obtain⟨d0,d1,d2,d3,d4,d5⟩:=Kit.cells6 hz
         have df:=fun i=>hz.frozen i
         have hg4:=hM4.blk.lt
         have hgl4:=hM4.loc.lt
         have hMf:=hM6.kept (keptW_set6 (g:=gx) (.int .i64 st.1.what) (.int .i64 st.1.loc) (.int .i64 st.1.mode) (.int .u64 st.1.val) (.bool st.1.ex) (.bool st.1.one)) (by omega) (by omega) (fun k hk=>⟨_,_,hk ▸ hz,nTW⟩)
         go_wp2_with fail
         go_meet
         exact⟨gx,rfl,blk_set6 hz _ _ _ _ _ _,hMf,kept_set6 hK46 hgx _ _ _ _ _ _,hgx⟩
       ·skip
        go_wp2_with fail
        have h7:=Kit.Below.al h1 (.cells #[.int .i64 0,.int .i64 0,.int .i64 0,.int .u64 0,.bool false,.bool false] 100)
        have hz:=Blk.new w1 100 #[.int .i64 0,.int .i64 0,.int .i64 0,.int .u64 0,.bool false,.bool false]
        have hgx:w4.heap.size≤w1.heap.size:=h1.size
        generalize w1.heap.size=gx at *
        generalize w1.alloc (.cells #[.int .i64 0,.int .i64 0,.int .i64 0,.int .u64 0,.bool false,.bool false] 100)=w7 at *
        refine Kit.oG h7 ?_
        refine fG (i:=0) rfl ?_
        go_wp2_with (go_at_call 218;refine(works_any _).mono ?_;rintro e w8 ⟨rfl,hq⟩)
        have h8:=Kit.Below.then h7 hq
        replace hz:=hz.below' hq
        refine Kit.oG h8 ?_
        unfold worksV
        refine fG (i:=3) rfl ?_
        have hx:=(HIX w8).out
        go_wp2_with fail
        refine Kit.oG h8 ?_
        clear hx
        refine fG (i:=6) rfl ?_
        have hcf:=fun args=>(HCF args w8).out
        go_wp2_with fail
        refine(HWK _ h8).out.mono ?_
        rintro e w6 ⟨rfl,hM6,hK6⟩
        go_wp2_with fail
        have hK46:=(KeptS.of_below (S:=MS g gl) h8).trans hK6
        replace hz:=hK6.blk hz (by unfold MS;have h1:=hM4.blk.lt;have h2:=hM4.loc.lt;omega)
        refine onG_mk (fun hh=>absurd (by decide) hh.1) ?_
        clear hcf
        refine(show tailG _ _ _ _ _ _ _ from⟨by kernel_rfl,?_⟩)
        simp only[List.drop_succ_cons,List.drop_zero]
        obtain⟨d0,d1,d2,d3,d4,d5⟩:=Kit.cells6 hz
        have df:=fun i=>hz.frozen i
        have hg4:=hM4.blk.lt
        have hgl4:=hM4.loc.lt
        have hMf:=hM6.kept (keptW_set6 (g:=gx) (.int .i64 st.1.what) (.int .i64 st.1.loc) (.int .i64 st.1.mode) (.int .u64 st.1.val) (.bool st.1.ex) (.bool st.1.one)) (by omega) (by omega) (fun k hk=>⟨_,_,hk ▸ hz,nTW⟩)
        go_wp2_with fail
        go_meet
        exact⟨gx,rfl,blk_set6 hz _ _ _ _ _ _,hMf,kept_set6 hK46 hgx _ _ _ _ _ _,hgx⟩
      case rest =>
       obtain⟨gx,rfl,hX,hMc,hKc,hgx⟩:=hcut
       have hg4:=hM4.blk.lt
       have hgl4:=hM4.loc.lt
       have hA5:=hKc.blk hA4 (by unfold MS;omega)
       have hR5:=hKc.blk hR4 (by unfold MS;omega)
       have hK5:=hK4.trans hKc
       have hK52:=hK42.trans hKc
       clear hK4 hK42 hKc hA4 hR4 hM4 hav4 HWK HCF HIX
       obtain⟨c0,c1,c2,c3,c4,c5,c6,c7,c8,c9,c10⟩:=Kit.cells11 hA5
       have HOWN:=fun w=>Lib.hid (own_any a I E F li ci le ce lf cf w)
       unfold actC at HOWN
       generalize hbo:ownB a=bo at *
       have HBO:=Lib.hid hbo
       have HST:=Lib.hid hst
       clear hst hbo
       go_upto_region 11 with fail
       cases bo with
       | false =>
        go_upto_region 12 with (go_at_call 219;refine(HOWN _).out.mono ?_;rintro e w5 ⟨rfl,hb5⟩)
        clear c0 c1 c2 c3 c4 c5 c6 c7 c8 c9 c10
        obtain rfl:st=(wantS mk a,mk):=by rw[←HST.out];unfold stepW;rw[HBO.out];rfl
        have HMS3:Hid (ms = { mk with now:=wantS mk a }):=Lib.hid (by
         rw[HMS2.out,←HNX.out,show 100000-k=(99999-k)+1 by omega]
         unfold nextL
         rw[HA.out]
         simp only[HBO.out]
         rfl)
        simp only at hX hMc
        generalize wantS mk a=x at *
        have hMq:=hMc.below hb5
        have hKq:=hK5.trans (KeptS.of_below hb5)
        have hRq:=hR5.below' hb5
        have hXq:=hX.below' hb5
        clear hMc hK5 hR5 hX hK52 hA5
        obtain⟨x0,x1,x2,x3,x4,x5⟩:=Kit.cells6 hXq
        have n4:w5.cell? ⟨g,4,none⟩=some (.int .i64 mk.now.what):=hMq.blk.cell 4
        have n5:w5.cell? ⟨g,5,none⟩=some (.int .i64 mk.now.loc):=hMq.blk.cell 5
        have n6:w5.cell? ⟨g,6,none⟩=some (.int .i64 mk.now.mode):=hMq.blk.cell 6
        have n7:w5.cell? ⟨g,7,none⟩=some (.int .u64 mk.now.val):=hMq.blk.cell 7
        have n8:w5.cell? ⟨g,8,none⟩=some (.bool mk.now.ex):=hMq.blk.cell 8
        have n9:w5.cell? ⟨g,9,none⟩=some (.bool mk.now.one):=hMq.blk.cell 9
        have nf:=fun i=>hMq.blk.frozen i
        go_upto_region 13 with fail
        have hX8:=far_now hXq (g:=g) (by omega) (.int .i64 x.what) (.int .i64 x.loc) (.int .i64 x.mode) (.int .u64 x.val) (.bool x.ex) (.bool x.one)
        have hM8:MachM ((((((w5.setCell ⟨g,4,none⟩ (.int .i64 x.what)).setCell ⟨g,5,none⟩ (.int .i64 x.loc)).setCell ⟨g,6,none⟩ (.int .i64 x.mode)).setCell ⟨g,7,none⟩ (.int .u64 x.val)).setCell ⟨g,8,none⟩ (.bool x.ex)).setCell ⟨g,9,none⟩ (.bool x.one)) g gl tl (.slice A L c) nl { mk with now:=x }:=hMq.now x
        have hK8:=kept_now hKq (g:=g) (.inl rfl) (.int .i64 x.what) (.int .i64 x.loc) (.int .i64 x.mode) (.int .u64 x.val) (.bool x.ex) (.bool x.one)
        have hW8:=far_now hRq (g:=g) (by omega) (.int .i64 x.what) (.int .i64 x.loc) (.int .i64 x.mode) (.int .u64 x.val) (.bool x.ex) (.bool x.one)
        generalize ((((((w5.setCell ⟨g,4,none⟩ _).setCell ⟨g,5,none⟩ _).setCell ⟨g,6,none⟩ _).setCell ⟨g,7,none⟩ _).setCell ⟨g,8,none⟩ _).setCell ⟨g,9,none⟩ _)=w8 at *
        rw[←HMS3.out]at hM8
        have HNOW:=Lib.hid (show ms.now=x by rw[HMS3.out])
        clear x0 x1 x2 x3 x4 x5 n4 n5 n6 n7 n8 n9 nf
        obtain⟨x0,x1,x2,x3,x4,x5⟩:=Kit.cells6 hX8
        have hl8:=hW8.lt
        obtain⟨d0,d1,d2,d3,d4,d5⟩:=Kit.cells6 hW8
        have df:=fun i=>hW8.frozen i
        go_wp2_with fail
        have hB9:=blk_set6 hW8 (.int .i64 x.what) (.int .i64 x.loc) (.int .i64 x.mode) (.int .u64 x.val) (.bool x.ex) (.bool x.one)
        have hk9:=kept_set6 hK8 hgr (.int .i64 x.what) (.int .i64 x.loc) (.int .i64 x.mode) (.int .u64 x.val) (.bool x.ex) (.bool x.one)
        have hM9:=hM8.kept (keptW_set6 (g:=gr) (.int .i64 x.what) (.int .i64 x.loc) (.int .i64 x.mode) (.int .u64 x.val) (.bool x.ex) (.bool x.one)) (by omega) (by omega) (fun k hk=>⟨_,_,hk ▸ hW8,nTW⟩)
        generalize ((((((w8.setCell ⟨gr,0,none⟩ _).setCell ⟨gr,1,none⟩ _).setCell ⟨gr,2,none⟩ _).setCell ⟨gr,3,none⟩ _).setCell ⟨gr,4,none⟩ _).setCell ⟨gr,5,none⟩ _)=w9 at *
        have e0:=hB9.cell 0
        have e1:=hB9.cell 1
        have e2:=hB9.cell 2
        have e3:=hB9.cell 3
        have e4:=hB9.cell 4
        have e5:=hB9.cell 5
        simp only[List.getElem?_toArray,List.getElem?_cons_zero,List.getElem?_cons_succ]at e0 e1 e2 e3 e4 e5
        refine bodyPost_ret (v:=.agg #[.int .i64 x.what,.int .i64 x.loc,.int .i64 x.mode,.int .u64 x.val,.bool x.ex,.bool x.one]) (by simp[results,Tryz.results215,go_sem,e0,e1,e2,e3,e4,e5]) rfl ?_
        exact⟨by rw[HNOW.out];rfl,hM9,hk9⟩
       | true =>
        go_wp2_with (go_at_call 219;refine(HOWN _).out.mono ?_;rintro e w5 ⟨rfl,hb5⟩)
        obtain rfl:st=(Want.zero,ownS mk a):=by rw[←HST.out];unfold stepW;rw[HBO.out];rfl
        go_roundg (100000-(k+1))
        case measure=>have:=HM.out;omega
        case rel =>
         refine⟨k+1,ownS mk a,by push_cast;rfl,hke,rfl,hMc.below hb5,ownS_w hWk HA.out HBO.out,?_,hK52.trans (KeptS.of_below hb5),?_⟩
         ·rw[←HAC.out];exact ownS_acts mk a
         ·rw[←HNX.out,show 100000-k=(100000-(k+1))+1 by omega]
          conv=>rhs;unfold nextL
          rw[HA.out]
          simp only[HBO.out,if_true]
    ·have a1:¬((k:Int)<100000):=by omega
     have hk0:100000-k=0:=by omega
     have HMS4:Hid (ms=nextL 0 mk):=Lib.hid (by rw[HMS2.out,←HNX.out,hk0])
     have hMq:=hMk
     have hKq:=hKw
     have hRq:=hRk
     clear hMk hKw hRk r1 r2 rf hk0 HNX HMS2 hKk hM2 hK2
     have n4:wr.cell? ⟨g,4,none⟩=some (.int .i64 mk.now.what):=hMq.blk.cell 4
     have n5:wr.cell? ⟨g,5,none⟩=some (.int .i64 mk.now.loc):=hMq.blk.cell 5
     have n6:wr.cell? ⟨g,6,none⟩=some (.int .i64 mk.now.mode):=hMq.blk.cell 6
     have n7:wr.cell? ⟨g,7,none⟩=some (.int .u64 mk.now.val):=hMq.blk.cell 7
     have n8:wr.cell? ⟨g,8,none⟩=some (.bool mk.now.ex):=hMq.blk.cell 8
     have n9:wr.cell? ⟨g,9,none⟩=some (.bool mk.now.one):=hMq.blk.cell 9
     have nf:=fun i=>hMq.blk.frozen i
     go_upto_region 16 with fail
     have hM8:MachM ((((((wr.setCell ⟨g,4,none⟩ (.int .i64 6)).setCell ⟨g,5,none⟩ (.int .i64 0)).setCell ⟨g,6,none⟩ (.int .i64 0)).setCell ⟨g,7,none⟩ (.int .u64 0)).setCell ⟨g,8,none⟩ (.bool false)).setCell ⟨g,9,none⟩ (.bool false)) g gl tl (.slice A L c) nl { mk with now:=⟨6,0,0,0,false,false⟩ }:=hMq.now ⟨6,0,0,0,false,false⟩
     have hK8:=kept_now hKq (g:=g) (.inl rfl) (.int .i64 6) (.int .i64 0) (.int .i64 0) (.int .u64 0) (.bool false) (.bool false)
     have hW8:=far_now hRq (g:=g) (by omega) (.int .i64 6) (.int .i64 0) (.int .i64 0) (.int .u64 0) (.bool false) (.bool false)
     generalize ((((((wr.setCell ⟨g,4,none⟩ _).setCell ⟨g,5,none⟩ _).setCell ⟨g,6,none⟩ _).setCell ⟨g,7,none⟩ _).setCell ⟨g,8,none⟩ _).setCell ⟨g,9,none⟩ _)=w8 at *
     clear n4 n5 n6 n7 n8 n9 nf hMq hKq hRq
     have hW6:MchW cells nl ({ mk with now:=⟨6,0,0,0,false,false⟩ }:Mch):=setNow_w hWk _ (by decide)
     have r1:w8.cell? ⟨g,1,none⟩=some (.slice A L c):=hM8.blk.cell 1
     have r2:w8.cell? ⟨g,2,none⟩=some (.int .i64 mk.at_):=hM8.blk.cell 2
     by_cases hat:mk.at_=L
     ·have q:((mk.at_:Int) == (L:Int))=true:=by simp[hat]
      have hnone:mk.acts[mk.at_]?=none:=by rw[List.getElem?_eq_none];have:=HLK.out;omega
      have HMS3:Hid (ms = { mk with now:=⟨5,0,0,0,false,false⟩ }):=Lib.hid (by
       rw[HMS4.out]
       unfold nextL
       rw[hnone])
      clear hat hnone
      go_quiet (fail)
      have hMq:=hM8.dn nq
      have hKq:=hK8.dn nq
      have hRq:=hW8.drewN nq
      generalize w8.drewN nq=w7 at *
      clear r1 r2 q hM8 hK8 hW8
      have n4:w7.cell? ⟨g,4,none⟩=some (.int .i64 6):=hMq.blk.cell 4
      have nf:=fun i=>hMq.blk.frozen i
      go_upto_region 21 with fail
      have hM8:=hMq.setM (i:=4) (u:=.int .i64 5) (m':={ mk with now:=⟨5,0,0,0,false,false⟩ }) rfl rfl rfl
      have hK8:=hKq.set (g:=g) (.inl rfl) 4 (.int .i64 5)
      have hW8:=hRq.farN (b:=g) (o:=4) (by omega) (.int .i64 5)
      generalize w7.setCell ⟨g,4,none⟩ (.int .i64 5)=w6 at *
      rw[←HMS3.out]at hM8
      clear n4 nf
      have n4:w6.cell? ⟨g,4,none⟩=some (.int .i64 ms.now.what):=hM8.blk.cell 4
      have n5:w6.cell? ⟨g,5,none⟩=some (.int .i64 ms.now.loc):=hM8.blk.cell 5
      have n6:w6.cell? ⟨g,6,none⟩=some (.int .i64 ms.now.mode):=hM8.blk.cell 6
      have n7:w6.cell? ⟨g,7,none⟩=some (.int .u64 ms.now.val):=hM8.blk.cell 7
      have n8:w6.cell? ⟨g,8,none⟩=some (.bool ms.now.ex):=hM8.blk.cell 8
      have n9:w6.cell? ⟨g,9,none⟩=some (.bool ms.now.one):=hM8.blk.cell 9
      have hl8:=hW8.lt
      obtain⟨d0,d1,d2,d3,d4,d5⟩:=Kit.cells6 hW8
      have df:=fun i=>hW8.frozen i
      go_wp2_with fail
      have hB9:=blk_set6 hW8 (.int .i64 ms.now.what) (.int .i64 ms.now.loc) (.int .i64 ms.now.mode) (.int .u64 ms.now.val) (.bool ms.now.ex) (.bool ms.now.one)
      have hk9:=kept_set6 hK8 hgr (.int .i64 ms.now.what) (.int .i64 ms.now.loc) (.int .i64 ms.now.mode) (.int .u64 ms.now.val) (.bool ms.now.ex) (.bool ms.now.one)
      have hM9:=hM8.kept (keptW_set6 (g:=gr) (.int .i64 ms.now.what) (.int .i64 ms.now.loc) (.int .i64 ms.now.mode) (.int .u64 ms.now.val) (.bool ms.now.ex) (.bool ms.now.one)) (by omega) (by omega) (fun k hk=>⟨_,_,hk ▸ hW8,nTW⟩)
      generalize ((((((w6.setCell ⟨gr,0,none⟩ _).setCell ⟨gr,1,none⟩ _).setCell ⟨gr,2,none⟩ _).setCell ⟨gr,3,none⟩ _).setCell ⟨gr,4,none⟩ _).setCell ⟨gr,5,none⟩ _)=w9 at *
      have e0:=hB9.cell 0
      have e1:=hB9.cell 1
      have e2:=hB9.cell 2
      have e3:=hB9.cell 3
      have e4:=hB9.cell 4
      have e5:=hB9.cell 5
      simp only[List.getElem?_toArray,List.getElem?_cons_zero,List.getElem?_cons_succ]at e0 e1 e2 e3 e4 e5
      refine bodyPost_ret (v:=.agg #[.int .i64 ms.now.what,.int .i64 ms.now.loc,.int .i64 ms.now.mode,.int .u64 ms.now.val,.bool ms.now.ex,.bool ms.now.one]) (by simp[results,Tryz.results215,go_sem,e0,e1,e2,e3,e4,e5]) rfl ?_
      exact⟨rfl,hM9,hk9⟩
     ·have q:((mk.at_:Int) == (L:Int))=false:=by simp;omega
      have hlt:mk.at_<mk.acts.length:=by have:=HLK.out;omega
      obtain⟨a,ha⟩:∃a,mk.acts[mk.at_]?=some a:=⟨_,Kit.eG hlt⟩
      have haw:=hWk.well ha
      have hop:=haw.parts.1
      have HA:=Lib.hid ha
      clear hat
      go_quiet (fail)
      have hMq:=hM8.dn nq
      have hKq:=hK8.dn nq
      have hRq:=hW8.drewN nq
      generalize w8.drewN nq=wq at *
      clear r1 r2 q hM8 hK8 hW8
      generalize hm6:({ mk with now:=⟨6,0,0,0,false,false⟩ }:Mch)=m6 at *
      have HACT:=Lib.hid (act_any hMq (by have:=hW6.alen;exact this) a (by rw[←hm6];exact HA.out))
      have HM6:=Lib.hid hm6
      clear hm6
      unfold actC at HACT
      go_upto_region 19 with (go_at_call 216;refine HACT.out.mono ?_;rintro e w3 ⟨I,E,F,li,ci,le,ce,lf,cf,rfl,hav,hb3⟩)
      obtain⟨w4,hw4⟩:∃x,x=w3.alloc (.cells #[.int .i64 a.op,.int .i64 a.dst,.int .i64 a.base,.int .i64 a.size,.slice I li ci,.slice E le ce,.slice F lf cf,.int .i64 a.mode,.int .i64 a.to,.int .i64 a.line,.int .i64 a.col] 58):=⟨_,rfl⟩
      have hb4:Below wq.heap.size wq w4:=by rw[hw4];exact Kit.Below.al hb3 _
      have hb34:Below w3.heap.size w3 w4:=by rw[hw4];exact Kit.bl1
      have hA4:Blk w4 w3.heap.size 58 #[.int .i64 a.op,.int .i64 a.dst,.int .i64 a.base,.int .i64 a.size,.slice I li ci,.slice E le ce,.slice F lf cf,.int .i64 a.mode,.int .i64 a.to,.int .i64 a.line,.int .i64 a.col]:=by rw[hw4];exact Blk.new _ _ _
      have hM4:=hMq.below hb4
      have hK4:=hKq.trans (KeptS.of_below hb4)
      have hR4:=hRq.below' hb4
      have hav4:=hav.still (Still.below hb34)
      rw[←hw4]
      generalize w3.heap.size=ga at *
      clear hw4 hb3 hav hb34 hMq hKq hRq HACT
      obtain⟨c0,c1,c2,c3,c4,c5,c6,c7,c8,c9,c10⟩:=Kit.cells11 hA4
      have HOWN:=fun w=>Lib.hid (own_any a I E F li ci le ce lf cf w)
      have HAV4:=Lib.hid hav4
      have HWK0:=fun w2 (hb:Below w4.heap.size w4 w2)=>work_any (n:=mk.acts.length) hcells (hM4.below hb) hW6 a haw (HAV4.out.still (Still.below hb))
      have HWK:=Lib.hid HWK0
      clear HWK0 hav4
      unfold actC at HOWN HWK
      generalize hbo:ownB a=bo at *
      have HBO:=Lib.hid hbo
      clear hbo
      cases bo with
      | true =>
       have HMS3:Hid (ms=m6):=Lib.hid (by
        rw[HMS4.out,←HM6.out]
        unfold nextL
        rw[HA.out]
        simp only[HBO.out,if_true])
       go_upto_region 21 with (go_at_call 219;refine(HOWN _).out.mono ?_;rintro e w8 ⟨rfl,hb5⟩)
       clear c0 c1 c2 c3 c4 c5 c6 c7 c8 c9 c10
       have hM8:=hM4.below hb5
       have hK8:=hK4.trans (KeptS.of_below hb5)
       have hW8:=hR4.below' hb5
       rw[←HMS3.out]at hM8
       have n4:w8.cell? ⟨g,4,none⟩=some (.int .i64 ms.now.what):=hM8.blk.cell 4
       have n5:w8.cell? ⟨g,5,none⟩=some (.int .i64 ms.now.loc):=hM8.blk.cell 5
       have n6:w8.cell? ⟨g,6,none⟩=some (.int .i64 ms.now.mode):=hM8.blk.cell 6
       have n7:w8.cell? ⟨g,7,none⟩=some (.int .u64 ms.now.val):=hM8.blk.cell 7
       have n8:w8.cell? ⟨g,8,none⟩=some (.bool ms.now.ex):=hM8.blk.cell 8
       have n9:w8.cell? ⟨g,9,none⟩=some (.bool ms.now.one):=hM8.blk.cell 9
       have hl8:=hW8.lt
       obtain⟨d0,d1,d2,d3,d4,d5⟩:=Kit.cells6 hW8
       have df:=fun i=>hW8.frozen i
       go_wp2_with fail
       have hB9:=blk_set6 hW8 (.int .i64 ms.now.what) (.int .i64 ms.now.loc) (.int .i64 ms.now.mode) (.int .u64 ms.now.val) (.bool ms.now.ex) (.bool ms.now.one)
       have hk9:=kept_set6 hK8 hgr (.int .i64 ms.now.what) (.int .i64 ms.now.loc) (.int .i64 ms.now.mode) (.int .u64 ms.now.val) (.bool ms.now.ex) (.bool ms.now.one)
       have hM9:=hM8.kept (keptW_set6 (g:=gr) (.int .i64 ms.now.what) (.int .i64 ms.now.loc) (.int .i64 ms.now.mode) (.int .u64 ms.now.val) (.bool ms.now.ex) (.bool ms.now.one)) (by omega) (by omega) (fun k hk=>⟨_,_,hk ▸ hW8,nTW⟩)
       generalize ((((((w8.setCell ⟨gr,0,none⟩ _).setCell ⟨gr,1,none⟩ _).setCell ⟨gr,2,none⟩ _).setCell ⟨gr,3,none⟩ _).setCell ⟨gr,4,none⟩ _).setCell ⟨gr,5,none⟩ _)=w9 at *
       have e0:=hB9.cell 0
       have e1:=hB9.cell 1
       have e2:=hB9.cell 2
       have e3:=hB9.cell 3
       have e4:=hB9.cell 4
       have e5:=hB9.cell 5
       simp only[List.getElem?_toArray,List.getElem?_cons_zero,List.getElem?_cons_succ]at e0 e1 e2 e3 e4 e5
       refine bodyPost_ret (v:=.agg #[.int .i64 ms.now.what,.int .i64 ms.now.loc,.int .i64 ms.now.mode,.int .u64 ms.now.val,.bool ms.now.ex,.bool ms.now.one]) (by simp[results,Tryz.results215,go_sem,e0,e1,e2,e3,e4,e5]) rfl ?_
       exact⟨rfl,hM9,hk9⟩
      | false =>
       have hst:stepW m6 a=(wantS mk a,m6):=by
        unfold stepW
        rw[HBO.out,←HM6.out]
        rfl
       have HMS3:Hid (ms = { m6 with now:=wantS mk a }):=Lib.hid (by
        rw[HMS4.out,←HM6.out]
        unfold nextL
        rw[HA.out]
        simp only[HBO.out]
        rfl)
       rw[hst]at HWK
       simp only[wantC_len]at HWK
       generalize wantS mk a=x at *
       clear hst
       have hix:=fun w=>works_ix a.op hop.1 hop.2 w
       have HCF:=fun args w=>Lib.hid (work_call a.op hop.1 hop.2 args w)
       generalize workOf a.op=wk at *
       unfold worksV at hix
       have HIX:=fun w=>Lib.hid (hix w)
       clear hix
       go_upto_region 20 with (go_at_call 219;refine(HOWN _).out.mono ?_;rintro e w5 ⟨rfl,hb5⟩)
       clear c0 c1 c2 c3 c4 c5 c6 c7 c8 c9 c10
       have hA5:=hA4.below' hb5
       have hR5:=hR4.below' hb5
       have hK5:=hK4.trans (KeptS.of_below hb5)
       have c0:∀p:Cls (Below w5.heap.size w5),p.w.cell? ⟨ga,0,none⟩=some (.int .i64 a.op):=fun p=>hA5.cls 0 p
       have c1:∀p:Cls (Below w5.heap.size w5),p.w.cell? ⟨ga,1,none⟩=some (.int .i64 a.dst):=fun p=>hA5.cls 1 p
       have c2:∀p:Cls (Below w5.heap.size w5),p.w.cell? ⟨ga,2,none⟩=some (.int .i64 a.base):=fun p=>hA5.cls 2 p
       have c3:∀p:Cls (Below w5.heap.size w5),p.w.cell? ⟨ga,3,none⟩=some (.int .i64 a.size):=fun p=>hA5.cls 3 p
       have c4:∀p:Cls (Below w5.heap.size w5),p.w.cell? ⟨ga,4,none⟩=some (.slice I li ci):=fun p=>hA5.cls 4 p
       have c5:∀p:Cls (Below w5.heap.size w5),p.w.cell? ⟨ga,5,none⟩=some (.slice E le ce):=fun p=>hA5.cls 5 p
       have c6:∀p:Cls (Below w5.heap.size w5),p.w.cell? ⟨ga,6,none⟩=some (.slice F lf cf):=fun p=>hA5.cls 6 p
       have c7:∀p:Cls (Below w5.heap.size w5),p.w.cell? ⟨ga,7,none⟩=some (.int .i64 a.mode):=fun p=>hA5.cls 7 p
       have c8:∀p:Cls (Below w5.heap.size w5),p.w.cell? ⟨ga,8,none⟩=some (.int .i64 a.to):=fun p=>hA5.cls 8 p
       have c9:∀p:Cls (Below w5.heap.size w5),p.w.cell? ⟨ga,9,none⟩=some (.int .i64 a.line):=fun p=>hA5.cls 9 p
       have c10:∀p:Cls (Below w5.heap.size w5),p.w.cell? ⟨ga,10,none⟩=some (.int .i64 a.col):=fun p=>hA5.cls 10 p
       refine wp_region_float (Below w5.heap.size w5) 8 4 [2,3,5,6] [7] (Below_drewN _ 1) (by kernel_rfl) (by kernel_rfl) ?_
       intro hne
       simp only[pickL,List.map_cons,List.map_nil,List.getElem?_cons_succ,List.getElem?_cons_zero,Option.getD_some]
       repeat (go_big_quiet_step (fail))
       refine wpQuiet_nil ?_
       intro w1 h1
       clear hne c0 c1 c2 c3 c4 c5 c6 c7 c8 c9 c10
       refine floatG_two (i:=0) (i':=1) (by kernel_rfl) (by decide) (by decide) rfl rfl ?_ ?_
       ·skip
        go_wp2_with fail
        refine Kit.oG h1 ?_
        refine fG (i:=1) rfl ?_
        go_wp2_with (go_at_call 218;refine(works_any _).mono ?_;rintro e w2' ⟨rfl,hq⟩)
        have h2:=Kit.Below.then h1 hq
        refine Kit.oG h2 ?_
        unfold worksV
        refine fG (i:=4) rfl ?_
        have hx:=(HIX w2').out
        go_wp2_with fail
        refine Kit.oG h2 ?_
        clear hx
        refine fG (i:=7) rfl ?_
        have hcf:=fun args=>(HCF args w2').out
        go_wp2_with fail
        refine(HWK.out _ (Kit.Below.then hb5 h2)).mono ?_
        rintro e w6 ⟨rfl,hMq,hK6⟩
        go_wp2_with fail
        have hKq:=hK5.trans ((KeptS.of_below (S:=MS g gl) h2).trans hK6)
        have hRq:=((KeptS.of_below (S:=MS g gl) h2).trans hK6).blk hR5 (by unfold MS;omega)
        refine onG_mk (fun hh=>absurd (by decide) hh.1) ?_
        clear hcf
        refine(show tailG _ _ _ _ _ _ _ from⟨by kernel_rfl,?_⟩)
        simp only[List.drop_succ_cons,List.drop_zero]
        have n4:w6.cell? ⟨g,4,none⟩=some (.int .i64 m6.now.what):=hMq.blk.cell 4
        have n5:w6.cell? ⟨g,5,none⟩=some (.int .i64 m6.now.loc):=hMq.blk.cell 5
        have n6:w6.cell? ⟨g,6,none⟩=some (.int .i64 m6.now.mode):=hMq.blk.cell 6
        have n7:w6.cell? ⟨g,7,none⟩=some (.int .u64 m6.now.val):=hMq.blk.cell 7
        have n8:w6.cell? ⟨g,8,none⟩=some (.bool m6.now.ex):=hMq.blk.cell 8
        have n9:w6.cell? ⟨g,9,none⟩=some (.bool m6.now.one):=hMq.blk.cell 9
        have nf:=fun i=>hMq.blk.frozen i
        go_upto_region 21 with fail
        have hM8:MachM ((((((w6.setCell ⟨g,4,none⟩ (.int .i64 x.what)).setCell ⟨g,5,none⟩ (.int .i64 x.loc)).setCell ⟨g,6,none⟩ (.int .i64 x.mode)).setCell ⟨g,7,none⟩ (.int .u64 x.val)).setCell ⟨g,8,none⟩ (.bool x.ex)).setCell ⟨g,9,none⟩ (.bool x.one)) g gl tl (.slice A L c) nl { m6 with now:=x }:=hMq.now x
        have hK8:=kept_now hKq (g:=g) (.inl rfl) (.int .i64 x.what) (.int .i64 x.loc) (.int .i64 x.mode) (.int .u64 x.val) (.bool x.ex) (.bool x.one)
        have hW8:=far_now hRq (g:=g) (by omega) (.int .i64 x.what) (.int .i64 x.loc) (.int .i64 x.mode) (.int .u64 x.val) (.bool x.ex) (.bool x.one)
        generalize ((((((w6.setCell ⟨g,4,none⟩ _).setCell ⟨g,5,none⟩ _).setCell ⟨g,6,none⟩ _).setCell ⟨g,7,none⟩ _).setCell ⟨g,8,none⟩ _).setCell ⟨g,9,none⟩ _)=w8 at *
        rw[←HMS3.out]at hM8
        clear n4 n5 n6 n7 n8 n9 nf
        have n4:w8.cell? ⟨g,4,none⟩=some (.int .i64 ms.now.what):=hM8.blk.cell 4
        have n5:w8.cell? ⟨g,5,none⟩=some (.int .i64 ms.now.loc):=hM8.blk.cell 5
        have n6:w8.cell? ⟨g,6,none⟩=some (.int .i64 ms.now.mode):=hM8.blk.cell 6
        have n7:w8.cell? ⟨g,7,none⟩=some (.int .u64 ms.now.val):=hM8.blk.cell 7
        have n8:w8.cell? ⟨g,8,none⟩=some (.bool ms.now.ex):=hM8.blk.cell 8
        have n9:w8.cell? ⟨g,9,none⟩=some (.bool ms.now.one):=hM8.blk.cell 9
        have hl8:=hW8.lt
        obtain⟨d0,d1,d2,d3,d4,d5⟩:=Kit.cells6 hW8
        have df:=fun i=>hW8.frozen i
        go_wp2_with fail
        have hB9:=blk_set6 hW8 (.int .i64 ms.now.what) (.int .i64 ms.now.loc) (.int .i64 ms.now.mode) (.int .u64 ms.now.val) (.bool ms.now.ex) (.bool ms.now.one)
        have hk9:=kept_set6 hK8 hgr (.int .i64 ms.now.what) (.int .i64 ms.now.loc) (.int .i64 ms.now.mode) (.int .u64 ms.now.val) (.bool ms.now.ex) (.bool ms.now.one)
        have hM9:=hM8.kept (keptW_set6 (g:=gr) (.int .i64 ms.now.what) (.int .i64 ms.now.loc) (.int .i64 ms.now.mode) (.int .u64 ms.now.val) (.bool ms.now.ex) (.bool ms.now.one)) (by omega) (by omega) (fun k hk=>⟨_,_,hk ▸ hW8,nTW⟩)
        generalize ((((((w8.setCell ⟨gr,0,none⟩ _).setCell ⟨gr,1,none⟩ _).setCell ⟨gr,2,none⟩ _).setCell ⟨gr,3,none⟩ _).setCell ⟨gr,4,none⟩ _).setCell ⟨gr,5,none⟩ _)=w9 at *
        have e0:=hB9.cell 0
        have e1:=hB9.cell 1
        have e2:=hB9.cell 2
        have e3:=hB9.cell 3
        have e4:=hB9.cell 4
        have e5:=hB9.cell 5
        simp only[List.getElem?_toArray,List.getElem?_cons_zero,List.getElem?_cons_succ]at e0 e1 e2 e3 e4 e5
        refine bodyPost_ret (v:=.agg #[.int .i64 ms.now.what,.int .i64 ms.now.loc,.int .i64 ms.now.mode,.int .u64 ms.now.val,.bool ms.now.ex,.bool ms.now.one]) (by simp[results,Tryz.results215,go_sem,e0,e1,e2,e3,e4,e5]) rfl ?_
        exact⟨rfl,hM9,hk9⟩
       ·skip
        go_wp2_with (go_at_call 218;refine(works_any _).mono ?_;rintro e w2' ⟨rfl,hq⟩)
        have h2:=Kit.Below.then h1 hq
        refine Kit.oG h2 ?_
        unfold worksV
        refine floatG_two (i:=0) (i':=4) (by kernel_rfl) (by decide) (by decide) rfl rfl ?_ ?_
        ·skip
         go_wp2_with fail
         refine Kit.oG h2 ?_
         refine fG (i:=4) rfl ?_
         have hx:=(HIX w2').out
         go_wp2_with fail
         refine Kit.oG h2 ?_
         clear hx
         refine fG (i:=7) rfl ?_
         have hcf:=fun args=>(HCF args w2').out
         go_wp2_with fail
         refine(HWK.out _ (Kit.Below.then hb5 h2)).mono ?_
         rintro e w6 ⟨rfl,hMq,hK6⟩
         go_wp2_with fail
         have hKq:=hK5.trans ((KeptS.of_below (S:=MS g gl) h2).trans hK6)
         have hRq:=((KeptS.of_below (S:=MS g gl) h2).trans hK6).blk hR5 (by unfold MS;omega)
         refine onG_mk (fun hh=>absurd (by decide) hh.1) ?_
         clear hcf
         refine(show tailG _ _ _ _ _ _ _ from⟨by kernel_rfl,?_⟩)
         simp only[List.drop_succ_cons,List.drop_zero]
         have n4:w6.cell? ⟨g,4,none⟩=some (.int .i64 m6.now.what):=hMq.blk.cell 4
         have n5:w6.cell? ⟨g,5,none⟩=some (.int .i64 m6.now.loc):=hMq.blk.cell 5
         have n6:w6.cell? ⟨g,6,none⟩=some (.int .i64 m6.now.mode):=hMq.blk.cell 6
         have n7:w6.cell? ⟨g,7,none⟩=some (.int .u64 m6.now.val):=hMq.blk.cell 7
         have n8:w6.cell? ⟨g,8,none⟩=some (.bool m6.now.ex):=hMq.blk.cell 8
         have n9:w6.cell? ⟨g,9,none⟩=some (.bool m6.now.one):=hMq.blk.cell 9
         have nf:=fun i=>hMq.blk.frozen i
         go_upto_region 21 with fail
         have hM8:MachM ((((((w6.setCell ⟨g,4,none⟩ (.int .i64 x.what)).setCell ⟨g,5,none⟩ (.int .i64 x.loc)).setCell ⟨g,6,none⟩ (.int .i64 x.mode)).setCell ⟨g,7,none⟩ (.int .u64 x.val)).setCell ⟨g,8,none⟩ (.bool x.ex)).setCell ⟨g,9,none⟩ (.bool x.one)) g gl tl (.slice A L c) nl { m6 with now:=x }:=hMq.now x
         have hK8:=kept_now hKq (g:=g) (.inl rfl) (.int .i64 x.what) (.int .i64 x.loc) (.int .i64 x.mode) (.int .u64 x.val) (.bool x.ex) (.bool x.one)
         have hW8:=far_now hRq (g:=g) (by omega) (.int .i64 x.what) (.int .i64 x.loc) (.int .i64 x.mode) (.int .u64 x.val) (.bool x.ex) (.bool x.one)
         generalize ((((((w6.setCell ⟨g,4,none⟩ _).setCell ⟨g,5,none⟩ _).setCell ⟨g,6,none⟩ _).setCell ⟨g,7,none⟩ _).setCell ⟨g,8,none⟩ _).setCell ⟨g,9,none⟩ _)=w8 at *
         rw[←HMS3.out]at hM8
         clear n4 n5 n6 n7 n8 n9 nf
         have n4:w8.cell? ⟨g,4,none⟩=some (.int .i64 ms.now.what):=hM8.blk.cell 4
         have n5:w8.cell? ⟨g,5,none⟩=some (.int .i64 ms.now.loc):=hM8.blk.cell 5
         have n6:w8.cell? ⟨g,6,none⟩=some (.int .i64 ms.now.mode):=hM8.blk.cell 6
         have n7:w8.cell? ⟨g,7,none⟩=some (.int .u64 ms.now.val):=hM8.blk.cell 7
         have n8:w8.cell? ⟨g,8,none⟩=some (.bool ms.now.ex):=hM8.blk.cell 8
         have n9:w8.cell? ⟨g,9,none⟩=some (.bool ms.now.one):=hM8.blk.cell 9
         have hl8:=hW8.lt
         obtain⟨d0,d1,d2,d3,d4,d5⟩:=Kit.cells6 hW8
         have df:=fun i=>hW8.frozen i
         go_wp2_with fail
         have hB9:=blk_set6 hW8 (.int .i64 ms.now.what) (.int .i64 ms.now.loc) (.int .i64 ms.now.mode) (.int .u64 ms.now.val) (.bool ms.now.ex) (.bool ms.now.one)
         have hk9:=kept_set6 hK8 hgr (.int .i64 ms.now.what) (.int .i64 ms.now.loc) (.int .i64 ms.now.mode) (.int .u64 ms.now.val) (.bool ms.now.ex) (.bool ms.now.one)
         have hM9:=hM8.kept (keptW_set6 (g:=gr) (.int .i64 ms.now.what) (.int .i64 ms.now.loc) (.int .i64 ms.now.mode) (.int .u64 ms.now.val) (.bool ms.now.ex) (.bool ms.now.one)) (by omega) (by omega) (fun k hk=>⟨_,_,hk ▸ hW8,nTW⟩)
         generalize ((((((w8.setCell ⟨gr,0,none⟩ _).setCell ⟨gr,1,none⟩ _).setCell ⟨gr,2,none⟩ _).setCell ⟨gr,3,none⟩ _).setCell ⟨gr,4,none⟩ _).setCell ⟨gr,5,none⟩ _)=w9 at *
         have e0:=hB9.cell 0
         have e1:=hB9.cell 1
         have e2:=hB9.cell 2
         have e3:=hB9.cell 3
         have e4:=hB9.cell 4
         have e5:=hB9.cell 5
         simp only[List.getElem?_toArray,List.getElem?_cons_zero,List.getElem?_cons_succ]at e0 e1 e2 e3 e4 e5
         refine bodyPost_ret (v:=.agg #[.int .i64 ms.now.what,.int .i64 ms.now.loc,.int .i64 ms.now.mode,.int .u64 ms.now.val,.bool ms.now.ex,.bool ms.now.one]) (by simp[results,Tryz.results215,go_sem,e0,e1,e2,e3,e4,e5]) rfl ?_
         exact⟨rfl,hM9,hk9⟩
        ·skip
         have hx:=(HIX w2').out
         go_wp2_with fail
         refine Kit.oG h2 ?_
         clear hx
         refine floatG_two (i:=0) (i':=7) (by kernel_rfl) (by decide) (by decide) rfl rfl ?_ ?_
         ·skip
          go_wp2_with fail
          refine Kit.oG h2 ?_
          refine fG (i:=7) rfl ?_
          have hcf:=fun args=>(HCF args w2').out
          go_wp2_with fail
          refine(HWK.out _ (Kit.Below.then hb5 h2)).mono ?_
          rintro e w6 ⟨rfl,hMq,hK6⟩
          go_wp2_with fail
          have hKq:=hK5.trans ((KeptS.of_below (S:=MS g gl) h2).trans hK6)
          have hRq:=((KeptS.of_below (S:=MS g gl) h2).trans hK6).blk hR5 (by unfold MS;omega)
          refine onG_mk (fun hh=>absurd (by decide) hh.1) ?_
          clear hcf
          refine(show tailG _ _ _ _ _ _ _ from⟨by kernel_rfl,?_⟩)
          simp only[List.drop_succ_cons,List.drop_zero]
          have n4:w6.cell? ⟨g,4,none⟩=some (.int .i64 m6.now.what):=hMq.blk.cell 4
          have n5:w6.cell? ⟨g,5,none⟩=some (.int .i64 m6.now.loc):=hMq.blk.cell 5
          have n6:w6.cell? ⟨g,6,none⟩=some (.int .i64 m6.now.mode):=hMq.blk.cell 6
          have n7:w6.cell? ⟨g,7,none⟩=some (.int .u64 m6.now.val):=hMq.blk.cell 7
          have n8:w6.cell? ⟨g,8,none⟩=some (.bool m6.now.ex):=hMq.blk.cell 8
          have n9:w6.cell? ⟨g,9,none⟩=some (.bool m6.now.one):=hMq.blk.cell 9
          have nf:=fun i=>hMq.blk.frozen i
          go_upto_region 21 with fail
          have hM8:MachM ((((((w6.setCell ⟨g,4,none⟩ (.int .i64 x.what)).setCell ⟨g,5,none⟩ (.int .i64 x.loc)).setCell ⟨g,6,none⟩ (.int .i64 x.mode)).setCell ⟨g,7,none⟩ (.int .u64 x.val)).setCell ⟨g,8,none⟩ (.bool x.ex)).setCell ⟨g,9,none⟩ (.bool x.one)) g gl tl (.slice A L c) nl { m6 with now:=x }:=hMq.now x
          have hK8:=kept_now hKq (g:=g) (.inl rfl) (.int .i64 x.what) (.int .i64 x.loc) (.int .i64 x.mode) (.int .u64 x.val) (.bool x.ex) (.bool x.one)
          have hW8:=far_now hRq (g:=g) (by omega) (.int .i64 x.what) (.int .i64 x.loc) (.int .i64 x.mode) (.int .u64 x.val) (.bool x.ex) (.bool x.one)
          generalize ((((((w6.setCell ⟨g,4,none⟩ _).setCell ⟨g,5,none⟩ _).setCell ⟨g,6,none⟩ _).setCell ⟨g,7,none⟩ _).setCell ⟨g,8,none⟩ _).setCell ⟨g,9,none⟩ _)=w8 at *
          rw[←HMS3.out]at hM8
          clear n4 n5 n6 n7 n8 n9 nf
          have n4:w8.cell? ⟨g,4,none⟩=some (.int .i64 ms.now.what):=hM8.blk.cell 4
          have n5:w8.cell? ⟨g,5,none⟩=some (.int .i64 ms.now.loc):=hM8.blk.cell 5
          have n6:w8.cell? ⟨g,6,none⟩=some (.int .i64 ms.now.mode):=hM8.blk.cell 6
          have n7:w8.cell? ⟨g,7,none⟩=some (.int .u64 ms.now.val):=hM8.blk.cell 7
          have n8:w8.cell? ⟨g,8,none⟩=some (.bool ms.now.ex):=hM8.blk.cell 8
          have n9:w8.cell? ⟨g,9,none⟩=some (.bool ms.now.one):=hM8.blk.cell 9
          have hl8:=hW8.lt
          obtain⟨d0,d1,d2,d3,d4,d5⟩:=Kit.cells6 hW8
          have df:=fun i=>hW8.frozen i
          go_wp2_with fail
          have hB9:=blk_set6 hW8 (.int .i64 ms.now.what) (.int .i64 ms.now.loc) (.int .i64 ms.now.mode) (.int .u64 ms.now.val) (.bool ms.now.ex) (.bool ms.now.one)
          have hk9:=kept_set6 hK8 hgr (.int .i64 ms.now.what) (.int .i64 ms.now.loc) (.int .i64 ms.now.mode) (.int .u64 ms.now.val) (.bool ms.now.ex) (.bool ms.now.one)
          have hM9:=hM8.kept (keptW_set6 (g:=gr) (.int .i64 ms.now.what) (.int .i64 ms.now.loc) (.int .i64 ms.now.mode) (.int .u64 ms.now.val) (.bool ms.now.ex) (.bool ms.now.one)) (by omega) (by omega) (fun k hk=>⟨_,_,hk ▸ hW8,nTW⟩)
          generalize ((((((w8.setCell ⟨gr,0,none⟩ _).setCell ⟨gr,1,none⟩ _).setCell ⟨gr,2,none⟩ _).setCell ⟨gr,3,none⟩ _).setCell ⟨gr,4,none⟩ _).setCell ⟨gr,5,none⟩ _)=w9 at *
          have e0:=hB9.cell 0
          have e1:=hB9.cell 1
          have e2:=hB9.cell 2
          have e3:=hB9.cell 3
          have e4:=hB9.cell 4
          have e5:=hB9.cell 5
          simp only[List.getElem?_toArray,List.getElem?_cons_zero,List.getElem?_cons_succ]at e0 e1 e2 e3 e4 e5
          refine bodyPost_ret (v:=.agg #[.int .i64 ms.now.what,.int .i64 ms.now.loc,.int .i64 ms.now.mode,.int .u64 ms.now.val,.bool ms.now.ex,.bool ms.now.one]) (by simp[results,Tryz.results215,go_sem,e0,e1,e2,e3,e4,e5]) rfl ?_
          exact⟨rfl,hM9,hk9⟩
         ·skip
          have hcf:=fun args=>(HCF args w2').out
          go_wp2_with fail
          refine(HWK.out _ (Kit.Below.then hb5 h2)).mono ?_
          rintro e w6 ⟨rfl,hMq,hK6⟩
          go_wp2_with fail
          have hKq:=hK5.trans ((KeptS.of_below (S:=MS g gl) h2).trans hK6)
          have hRq:=((KeptS.of_below (S:=MS g gl) h2).trans hK6).blk hR5 (by unfold MS;omega)
          refine onG_mk (fun hh=>absurd (by decide) hh.1) ?_
          clear hcf
          refine fG (i:=0) rfl ?_
          go_wp2_with fail
          refine onG_mk (fun hh=>absurd (hh.2 7 (by decide)) (by decide +kernel)) ?_
          refine(show tailG _ _ _ _ _ _ _ from⟨by kernel_rfl,?_⟩)
          simp only[List.drop_succ_cons,List.drop_zero]
          have n4:w6.cell? ⟨g,4,none⟩=some (.int .i64 m6.now.what):=hMq.blk.cell 4
          have n5:w6.cell? ⟨g,5,none⟩=some (.int .i64 m6.now.loc):=hMq.blk.cell 5
          have n6:w6.cell? ⟨g,6,none⟩=some (.int .i64 m6.now.mode):=hMq.blk.cell 6
          have n7:w6.cell? ⟨g,7,none⟩=some (.int .u64 m6.now.val):=hMq.blk.cell 7
          have n8:w6.cell? ⟨g,8,none⟩=some (.bool m6.now.ex):=hMq.blk.cell 8
          have n9:w6.cell? ⟨g,9,none⟩=some (.bool m6.now.one):=hMq.blk.cell 9
          have nf:=fun i=>hMq.blk.frozen i
          go_upto_region 21 with fail
          have hM8:MachM ((((((w6.setCell ⟨g,4,none⟩ (.int .i64 x.what)).setCell ⟨g,5,none⟩ (.int .i64 x.loc)).setCell ⟨g,6,none⟩ (.int .i64 x.mode)).setCell ⟨g,7,none⟩ (.int .u64 x.val)).setCell ⟨g,8,none⟩ (.bool x.ex)).setCell ⟨g,9,none⟩ (.bool x.one)) g gl tl (.slice A L c) nl { m6 with now:=x }:=hMq.now x
          have hK8:=kept_now hKq (g:=g) (.inl rfl) (.int .i64 x.what) (.int .i64 x.loc) (.int .i64 x.mode) (.int .u64 x.val) (.bool x.ex) (.bool x.one)
          have hW8:=far_now hRq (g:=g) (by omega) (.int .i64 x.what) (.int .i64 x.loc) (.int .i64 x.mode) (.int .u64 x.val) (.bool x.ex) (.bool x.one)
          generalize ((((((w6.setCell ⟨g,4,none⟩ _).setCell ⟨g,5,none⟩ _).setCell ⟨g,6,none⟩ _).setCell ⟨g,7,none⟩ _).setCell ⟨g,8,none⟩ _).setCell ⟨g,9,none⟩ _)=w8 at *
          rw[←HMS3.out]at hM8
          clear n4 n5 n6 n7 n8 n9 nf
          have n4:w8.cell? ⟨g,4,none⟩=some (.int .i64 ms.now.what):=hM8.blk.cell 4
          have n5:w8.cell? ⟨g,5,none⟩=some (.int .i64 ms.now.loc):=hM8.blk.cell 5
          have n6:w8.cell? ⟨g,6,none⟩=some (.int .i64 ms.now.mode):=hM8.blk.cell 6
          have n7:w8.cell? ⟨g,7,none⟩=some (.int .u64 ms.now.val):=hM8.blk.cell 7
          have n8:w8.cell? ⟨g,8,none⟩=some (.bool ms.now.ex):=hM8.blk.cell 8
          have n9:w8.cell? ⟨g,9,none⟩=some (.bool ms.now.one):=hM8.blk.cell 9
          have hl8:=hW8.lt
          obtain⟨d0,d1,d2,d3,d4,d5⟩:=Kit.cells6 hW8
          have df:=fun i=>hW8.frozen i
          go_wp2_with fail
          have hB9:=blk_set6 hW8 (.int .i64 ms.now.what) (.int .i64 ms.now.loc) (.int .i64 ms.now.mode) (.int .u64 ms.now.val) (.bool ms.now.ex) (.bool ms.now.one)
          have hk9:=kept_set6 hK8 hgr (.int .i64 ms.now.what) (.int .i64 ms.now.loc) (.int .i64 ms.now.mode) (.int .u64 ms.now.val) (.bool ms.now.ex) (.bool ms.now.one)
          have hM9:=hM8.kept (keptW_set6 (g:=gr) (.int .i64 ms.now.what) (.int .i64 ms.now.loc) (.int .i64 ms.now.mode) (.int .u64 ms.now.val) (.bool ms.now.ex) (.bool ms.now.one)) (by omega) (by omega) (fun k hk=>⟨_,_,hk ▸ hW8,nTW⟩)
          generalize ((((((w8.setCell ⟨gr,0,none⟩ _).setCell ⟨gr,1,none⟩ _).setCell ⟨gr,2,none⟩ _).setCell ⟨gr,3,none⟩ _).setCell ⟨gr,4,none⟩ _).setCell ⟨gr,5,none⟩ _)=w9 at *
          have e0:=hB9.cell 0
          have e1:=hB9.cell 1
          have e2:=hB9.cell 2
          have e3:=hB9.cell 3
          have e4:=hB9.cell 4
          have e5:=hB9.cell 5
          simp only[List.getElem?_toArray,List.getElem?_cons_zero,List.getElem?_cons_succ]at e0 e1 e2 e3 e4 e5
          refine bodyPost_ret (v:=.agg #[.int .i64 ms.now.what,.int .i64 ms.now.loc,.int .i64 ms.now.mode,.int .u64 ms.now.val,.bool ms.now.ex,.bool ms.now.one]) (by simp[results,Tryz.results215,go_sem,e0,e1,e2,e3,e4,e5]) rfl ?_
          exact⟨rfl,hM9,hk9⟩
end Go.Proofs.YtmjilfamjlnigaaGreat.MchW
