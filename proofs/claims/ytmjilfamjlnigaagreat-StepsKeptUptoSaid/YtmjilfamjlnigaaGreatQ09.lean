/- WALKS: a thread's acts that want nothing. -/
import Derived.Test.YtmjilfamjlnigaaGreatQ08
import Derived.Test.YtmjilfamjlnigaaGreatQ05
import Derived.Test.YtmjilfamjlnigaaGreatQ01
import Derived.Test.YtmjilfamjlnigaaGreatQ07
namespace Go.Proofs.YtmjilfamjlnigaaGreat.MchW
open Go Go.RowKit Kit SrcP SrcW
section
variable {w w':World} {g gl nl:Nat} {tl:Int} {va:Value} {m:Mch}
theorem MachM.kept {S:Nat→Prop} (h:MachM w g gl tl va nl m) (hk:KeptS S w w') (h1:¬S g) (h2:¬S gl) (hs:∀k,S k→∃t cs,Blk w k t cs∧¬TA t):MachM w' g gl tl va nl m :=
 ⟨hk.blk h.blk h1,hk.blk h.loc h2,h.acts.still (hk.still hs)⟩
theorem nTM:¬TA 170:=by unfold TA;decide
theorem nTU:¬TA 40:=by unfold TA;decide
theorem nTW:¬TA 100:=by unfold TA;decide
theorem MachM.setM (h:MachM w g gl tl va nl m) {i:Nat} {u:Value} {m':Mch} (hc:(machC tl va gl nl m).setIfInBounds i u=machC tl va gl nl m') (hl:m'.locals=m.locals) (ha:m'.acts=m.acts):MachM (w.setCell ⟨g,i,none⟩ u) g gl tl va nl m':=by
 refine⟨?_,?_,?_⟩
 ·have:=h.blk.set i u
  rwa [hc]at this
 ·rw[hl];exact h.loc.farN (Ne.symm h.ne) u
 ·rw[ha];exact h.acts.still (Still.set h.blk nTM u)
theorem MachM.at_ (h:MachM w g gl tl va nl m) (n:Nat):MachM (w.setCell ⟨g,2,none⟩ (.int .i64 n)) g gl tl va nl { m with at_:=n }:=h.setM rfl rfl rfl
theorem MachM.asked (h:MachM w g gl tl va nl m) (b:Bool):MachM (w.setCell ⟨g,10,none⟩ (.bool b)) g gl tl va nl { m with asked:=b }:=h.setM rfl rfl rfl
theorem MachM.old (h:MachM w g gl tl va nl m) (n:Nat):MachM (w.setCell ⟨g,11,none⟩ (.int .u64 n)) g gl tl va nl { m with old:=n }:=h.setM rfl rfl rfl
theorem MachM.opn (h:MachM w g gl tl va nl m) (b:Bool):MachM (w.setCell ⟨g,12,none⟩ (.bool b)) g gl tl va nl { m with opn:=b }:=h.setM rfl rfl rfl
theorem MachM.now (h:MachM w g gl tl va nl m) (x:Want):MachM ((((((w.setCell ⟨g,4,none⟩ (.int .i64 x.what)).setCell ⟨g,5,none⟩ (.int .i64 x.loc)).setCell ⟨g,6,none⟩ (.int .i64 x.mode)).setCell ⟨g,7,none⟩ (.int .u64 x.val)).setCell ⟨g,8,none⟩ (.bool x.ex)).setCell ⟨g,9,none⟩ (.bool x.one)) g gl tl va nl { m with now:=x }:=by
 have h0:=h.setM (i:=4) (u:=.int .i64 x.what) (m':={ m with now:={ m.now with what:=x.what } }) rfl rfl rfl
 have h1:=h0.setM (i:=5) (u:=.int .i64 x.loc) (m':={ m with now:={ m.now with what:=x.what,loc:=x.loc } }) rfl rfl rfl
 have h2:=h1.setM (i:=6) (u:=.int .i64 x.mode) (m':={ m with now:={ m.now with what:=x.what,loc:=x.loc,mode:=x.mode } }) rfl rfl rfl
 have h3:=h2.setM (i:=7) (u:=.int .u64 x.val) (m':={ m with now:={ m.now with what:=x.what,loc:=x.loc,mode:=x.mode,val:=x.val } }) rfl rfl rfl
 have h4:=h3.setM (i:=8) (u:=.bool x.ex) (m':={ m with now:={ m.now with what:=x.what,loc:=x.loc,mode:=x.mode,val:=x.val,ex:=x.ex } }) rfl rfl rfl
 exact h4.setM (i:=9) (u:=.bool x.one) (m':={ m with now:=x }) rfl rfl rfl
theorem MachM.setL (h:MachM w g gl tl va nl m) (i x:Nat):MachM (w.setCell ⟨gl,i,none⟩ (u64V x)) g gl tl va nl { m with locals:=m.locals.set i x }:=by
 refine⟨h.blk.farN h.ne _,?_,h.acts.still (Still.set h.loc nTU _)⟩
 have:=h.loc.set i (u64V x)
 rw[show((m.locals.map u64V).toArray).setIfInBounds i (u64V x)=((m.locals.set i x).map u64V).toArray by simp[List.map_set]]at this
 exact this
end
def MS (g gl:Nat) (k:Nat):Prop:=k=g∨k=gl
theorem kept_set6 {S:Nat→Prop} {w w1:World} (h:KeptS S w w1) {g:Nat} (hg:w.heap.size≤g) (u0 u1 u2 u3 u4 u5:Value) :
  KeptS S w ((((((w1.setCell ⟨g,0,none⟩ u0).setCell ⟨g,1,none⟩ u1).setCell ⟨g,2,none⟩ u2).setCell ⟨g,3,none⟩ u3).setCell ⟨g,4,none⟩ u4).setCell ⟨g,5,none⟩ u5) :=
 (((((h.setN hg u0).setN hg u1).setN hg u2).setN hg u3).setN hg u4).setN hg u5
theorem keptW_set6 {w:World} {g:Nat} (u0 u1 u2 u3 u4 u5:Value) :
  KeptS (fun k=>k=g) w ((((((w.setCell ⟨g,0,none⟩ u0).setCell ⟨g,1,none⟩ u1).setCell ⟨g,2,none⟩ u2).setCell ⟨g,3,none⟩ u3).setCell ⟨g,4,none⟩ u4).setCell ⟨g,5,none⟩ u5) :=
 ((((((KeptS.refl (fun k=>k=g) w).set (g:=g) rfl 0 u0).set (g:=g) rfl 1 u1).set (g:=g) rfl 2 u2).set (g:=g) rfl 3 u3).set (g:=g) rfl 4 u4).set (g:=g) rfl 5 u5
def zeroW:Array Value:=#[.int .i64 0,.int .i64 0,.int .i64 0,.int .u64 0,.bool false,.bool false]
set_option maxRecDepth 100000 in
set_option maxHeartbeats 4000000 in
theorem jump_any {w:World} {g gl nl cells:Nat} {tl:Int} {va:Value} {m:Mch} (h:MachM w g gl tl va nl m) {n:Nat} (a:SrcP.Act) (ha:ActWell cells nl n a) (hop:a.op=9) {I E F:Option Addr} {li ci le ce lf cf:Nat} :
  Calls Tryz.prog 228 #[.pointer (some ⟨g,0,none⟩),.agg (actC a (.slice I li ci) (.slice E le ce) (.slice F lf cf))] w fun r w'=>r=.returned (.agg zeroW)∧MachM w' g gl tl va nl (ownS m a)∧KeptS (MS g gl) w w':=by
 have hto:=ha.to_ (by simp[hasTo,hop])
 obtain⟨t,ht⟩:=Int.eq_ofNat_of_zero_le hto.1
 have hws:ownS m a = { m with at_:=t }:=by simp[ownS,hop,ht]
 rw[hws]
 unfold actC zeroW
 rw[ht]
 clear hws ha hop hto ht
 have hg1:=h.blk.lt
 have hg2:=h.loc.lt
 go_enter Tryz.func228,Tryz.ntmps228
 go_upto_region 1 with fail
 obtain⟨w0,hw0⟩:∃y,y=(w.alloc (.cells #[.int .i64 a.op,.int .i64 a.dst,.int .i64 a.base,.int .i64 a.size,.slice I li ci,.slice E le ce,.slice F lf cf,.int .i64 a.mode,(.int .i64 t),.int .i64 a.line,.int .i64 a.col] 58)).alloc (.cells #[.int .i64 0,.int .i64 0,.int .i64 0,.int .u64 0,.bool false,.bool false] 100):=⟨_,rfl⟩
 have hb0:Below w.heap.size w w0:=by rw[hw0];exact Kit.bl2
 have hA0:Blk w0 w.heap.size 58 #[.int .i64 a.op,.int .i64 a.dst,.int .i64 a.base,.int .i64 a.size,.slice I li ci,.slice E le ce,.slice F lf cf,.int .i64 a.mode,(.int .i64 t),.int .i64 a.line,.int .i64 a.col]:=by rw[hw0];exact(Blk.new w _ _).alloc _
 have hW0:Blk w0 (w.heap.size+1) 100 #[.int .i64 0,.int .i64 0,.int .i64 0,.int .u64 0,.bool false,.bool false]:=by rw[hw0];exact Blk.newAt (sizeA w _) _ _
 rw[←hw0]
 clear hw0
 have hM0:=h.below hb0
 have k8:w0.cell? ⟨w.heap.size,8,none⟩=some (.int .i64 t):=hA0.cell 8
 have m2:w0.cell? ⟨g,2,none⟩=some (.int .i64 m.at_):=hM0.blk.cell 2
 have mf:=fun i=>hM0.blk.frozen i
 go_upto_region 2 with fail
 have hM8:=hM0.at_ t
 have hK8:KeptS (MS g gl) w (w0.setCell ⟨g,2,none⟩ (.int .i64 t)):=(KeptS.of_below hb0).set (.inl rfl) _ _
 have hW8:=hW0.farN (b:=g) (o:=2) (by omega) (.int .i64 t)
 generalize w0.setCell ⟨g,2,none⟩ (.int .i64 t)=w8 at *
 clear k8 m2 mf
 have hl8:=hW8.lt
 obtain⟨d0,d1,d2,d3,d4,d5⟩:=Kit.cells6 hW8
 have df:=fun i=>hW8.frozen i
 go_wp2_with fail
 have hB9:=blk_set6 hW8 (.int .i64 0) (.int .i64 0) (.int .i64 0) (.int .u64 0) (.bool false) (.bool false)
 have hk9:=kept_set6 hK8 (Nat.le_succ _) (.int .i64 0) (.int .i64 0) (.int .i64 0) (.int .u64 0) (.bool false) (.bool false)
 have hM9:=hM8.kept (keptW_set6 (g:=w.heap.size+1) (.int .i64 0) (.int .i64 0) (.int .i64 0) (.int .u64 0) (.bool false) (.bool false)) (by omega) (by omega) (fun k hk=>⟨_,_,hk ▸ hW8,nTW⟩)
 generalize ((((((w8.setCell ⟨w.heap.size+1,0,none⟩ _).setCell ⟨w.heap.size+1,1,none⟩ _).setCell ⟨w.heap.size+1,2,none⟩ _).setCell ⟨w.heap.size+1,3,none⟩ _).setCell ⟨w.heap.size+1,4,none⟩ _).setCell ⟨w.heap.size+1,5,none⟩ _)=w9 at *
 have e0:=hB9.cell 0
 have e1:=hB9.cell 1
 have e2:=hB9.cell 2
 have e3:=hB9.cell 3
 have e4:=hB9.cell 4
 have e5:=hB9.cell 5
 simp only[List.getElem?_toArray,List.getElem?_cons_zero,List.getElem?_cons_succ]at e0 e1 e2 e3 e4 e5
 exact bodyPost_ret (v:=.agg #[.int .i64 0,.int .i64 0,.int .i64 0,.int .u64 0,.bool false,.bool false]) (by simp[results,Tryz.results228,go_sem,e0,e1,e2,e3,e4,e5]) rfl ⟨rfl,hM9,hk9⟩
theorem val_anyL {w:World} {g gl nl:Nat} {tl:Int} {va:Value} {m:Mch} (h:MachM w g gl tl va nl m) (locals:List Nat) (hm:m.locals=locals) (hlt:∀x∈locals,x<M64) (hlen:locals.length=nl) {A:Option Addr} {c:Nat} (e:List SrcP.Node) (hv:NodesAt w (.slice A e.length c) e) (he:EvalsAll nl e) :
  Calls Tryz.prog 217 #[.slice A e.length c,.slice (some ⟨gl,0,none⟩) nl nl] w fun r w'=>r=.returned (.int .u64 (value e locals:Nat))∧Below w.heap.size w w':=by
 subst hm
 have hl:=h.locals hlt hlen
 have hh:=value_any A (some ⟨gl,0,none⟩) c nl e m.locals w hv hl (by rw[hlen];exact he)
 rw[hlen]at hh
 exact hh.mono fun _ _ ⟨e1,e2,_⟩=>⟨e1,e2⟩
set_option maxRecDepth 100000 in
set_option maxHeartbeats 4000000 in
theorem zero_any {w:World} {g gl nl cells:Nat} {tl:Int} {va:Value} {m:Mch} (h:MachM w g gl tl va nl m) (hw:MchW cells nl m) {n:Nat} (a:SrcP.Act) (ha:ActWell cells nl n a) (hop:a.op=10) {I E F:Option Addr} {li ci le ce lf cf:Nat} (hav:ActVS w (.slice I li ci) (.slice E le ce) (.slice F lf cf) a) :
  Calls Tryz.prog 229 #[.pointer (some ⟨g,0,none⟩),.agg (actC a (.slice I li ci) (.slice E le ce) (.slice F lf cf))] w fun r w'=>r=.returned (.agg zeroW)∧MachM w' g gl tl va nl (ownS m a)∧KeptS (MS g gl) w w':=by
 have hto:=ha.to_ (by simp[hasTo,hop])
 obtain⟨t,ht⟩:=Int.eq_ofNat_of_zero_le hto.1
 have hws:ownS m a=if value a.e m.locals=0 then { m with at_:=t }else { m with at_:=m.at_+1 }:=by simp[ownS,hop,ht]
 rw[hws]
 obtain⟨_,_,hle,_⟩:=hav.here.e
 obtain⟨rfl,rfl,rfl⟩:E=_∧le=a.e.length∧ce=_:=by simpa using hle
 have hat:m.at_≤65536:=Nat.le_trans hw.at_ hw.alen
 have hst:∀w2,Still TA w w2→∀m',MachM w2 g gl tl va nl m'→m'.locals=m.locals→Calls Tryz.prog 217 #[.slice E a.e.length ce,.slice (some ⟨gl,0,none⟩) nl nl] w2 fun r w'=>r=.returned (.int .u64 (value a.e m.locals:Nat))∧Below w2.heap.size w2 w' :=
  fun w2 hs m' h2 hm=>val_anyL h2 m.locals hm hw.lt hw.len a.e (hav w2 hs).e (ha.e (by simp[hasE,hop]))
 have HST:=Lib.hid hst
 clear hst hle
 clear hws hw hto hav ha hop
 generalize value a.e m.locals=x at *
 generalize a.e.length=le at *
 generalize hmm:(if x=0 then { m with at_:=t }else { m with at_:=m.at_+1 })=m' at *
 have HMM:=Lib.hid hmm
 clear hmm
 unfold actC zeroW
 rw[ht]
 clear ht
 have hg1:=h.blk.lt
 have hg2:=h.loc.lt
 have hgl:=h.ne
 go_enter Tryz.func229,Tryz.ntmps229
 go_upto_region 1 with fail
 obtain⟨w0,hw0⟩:∃y,y=(w.alloc (.cells #[.int .i64 a.op,.int .i64 a.dst,.int .i64 a.base,.int .i64 a.size,.slice I li ci,.slice E le ce,.slice F lf cf,.int .i64 a.mode,(.int .i64 t),.int .i64 a.line,.int .i64 a.col] 58)).alloc (.cells #[.int .i64 0,.int .i64 0,.int .i64 0,.int .u64 0,.bool false,.bool false] 100):=⟨_,rfl⟩
 have hb0:Below w.heap.size w w0:=by rw[hw0];exact Kit.bl2
 have hA0:Blk w0 w.heap.size 58 #[.int .i64 a.op,.int .i64 a.dst,.int .i64 a.base,.int .i64 a.size,.slice I li ci,.slice E le ce,.slice F lf cf,.int .i64 a.mode,(.int .i64 t),.int .i64 a.line,.int .i64 a.col]:=by rw[hw0];exact(Blk.new w _ _).alloc _
 have hW0:Blk w0 (w.heap.size+1) 100 #[.int .i64 0,.int .i64 0,.int .i64 0,.int .u64 0,.bool false,.bool false]:=by rw[hw0];exact Blk.newAt (sizeA w _) _ _
 rw[←hw0]
 clear hw0
 have hM0:=h.below hb0
 have m2:w0.cell? ⟨g,2,none⟩=some (.int .i64 m.at_):=hM0.blk.cell 2
 have mf:=fun i=>hM0.blk.frozen i
 go_upto_region 2 with fail
 have hM1:=hM0.at_ (m.at_+1)
 have hS1:=(Still.below (T:=TA) hb0).trans (Still.set hM0.blk nTM (o:=2) (.int .i64 ((m.at_+1:Nat):Int)))
 have hK1:KeptS (MS g gl) w (w0.setCell ⟨g,2,none⟩ (.int .i64 ((m.at_+1:Nat):Int))):=(KeptS.of_below hb0).set (.inl rfl) _ _
 have hA1:=hA0.farN (b:=g) (o:=2) (by omega) (.int .i64 ((m.at_+1:Nat):Int))
 have hW1:=hW0.farN (b:=g) (o:=2) (by omega) (.int .i64 ((m.at_+1:Nat):Int))
 rw[show((m.at_+1:Nat):Int)=(m.at_:Int)+1 by push_cast;rfl]at hM1 hS1 hK1 hA1 hW1
 generalize w0.setCell ⟨g,2,none⟩ (.int .i64 ((m.at_:Int)+1))=w1 at *
 clear hM0 m2 mf hA0 hW0
 have hval:∀p:Cls (Below w1.heap.size w1),Hid (Calls Tryz.prog 217 #[.slice E le ce,.slice (some ⟨gl,0,none⟩) nl nl] p.w fun e w'=>e=.returned (.int .u64 x)∧∃q:Cls (Below w1.heap.size w1),w'=q.w) :=
  fun p=>Calls.cls ((HST.out p.w (hS1.trans (Still.below p.h)) _ (hM1.below p.h) rfl).mono fun e w' ⟨h1,h2⟩=>⟨h1,Kit.Below.then p.h h2⟩)
 have c5:∀p:Cls (Below w1.heap.size w1),p.w.cell? ⟨w.heap.size,5,none⟩=some (.slice E le ce):=fun p=>hA1.cls 5 p
 have cl:∀p:Cls (Below w1.heap.size w1),p.w.cell? ⟨g,3,none⟩=some (.slice (some ⟨gl,0,none⟩) nl nl):=fun p=>hM1.blk.cls 3 p
 by_cases hx:x=0
 ·subst hx
  refine wp_region_cls (Below w1.heap.size w1) (Below_drewN _ 1) (by kernel_rfl) (by kernel_rfl) ?_
  intro hne
  repeat (go_big_quiet_step ((go_at_call 217;exact(hval _).out)))
  refine wpQuiet_nil ?_
  intro w7 h7
  clear hne
  clear c5 cl hval
  have hM7:=hM1.below h7
  have hA7:=hA1.below' h7
  have hW7:=hW1.below' h7
  have hK7:=hK1.trans (KeptS.of_below h7)
  have k8:w7.cell? ⟨w.heap.size,8,none⟩=some (.int .i64 t):=hA7.cell 8
  have m2:w7.cell? ⟨g,2,none⟩=some (.int .i64 ((m.at_+1:Nat):Int)):=hM7.blk.cell 2
  have mf:=fun i=>hM7.blk.frozen i
  go_upto_region 4 with fail
  have hM8:=hM7.at_ t
  have hK8:=hK7.set (g:=g) (.inl rfl) 2 (.int .i64 t)
  have hW8:=hW7.farN (b:=g) (o:=2) (by omega) (.int .i64 t)
  generalize w7.setCell ⟨g,2,none⟩ (.int .i64 t)=w8 at *
  clear k8 m2 mf
  rw[show({ m with at_:=t }:Mch)=m' by rw[←HMM.out,if_pos rfl]]at hM8
  have hl8:=hW8.lt
  obtain⟨d0,d1,d2,d3,d4,d5⟩:=Kit.cells6 hW8
  have df:=fun i=>hW8.frozen i
  go_wp2_with fail
  have hB9:=blk_set6 hW8 (.int .i64 0) (.int .i64 0) (.int .i64 0) (.int .u64 0) (.bool false) (.bool false)
  have hk9:=kept_set6 hK8 (Nat.le_succ _) (.int .i64 0) (.int .i64 0) (.int .i64 0) (.int .u64 0) (.bool false) (.bool false)
  have hM9:=hM8.kept (keptW_set6 (g:=w.heap.size+1) (.int .i64 0) (.int .i64 0) (.int .i64 0) (.int .u64 0) (.bool false) (.bool false)) (by omega) (by omega) (fun k hk=>⟨_,_,hk ▸ hW8,nTW⟩)
  generalize ((((((w8.setCell ⟨w.heap.size+1,0,none⟩ _).setCell ⟨w.heap.size+1,1,none⟩ _).setCell ⟨w.heap.size+1,2,none⟩ _).setCell ⟨w.heap.size+1,3,none⟩ _).setCell ⟨w.heap.size+1,4,none⟩ _).setCell ⟨w.heap.size+1,5,none⟩ _)=w9 at *
  have e0:=hB9.cell 0
  have e1:=hB9.cell 1
  have e2:=hB9.cell 2
  have e3:=hB9.cell 3
  have e4:=hB9.cell 4
  have e5:=hB9.cell 5
  simp only[List.getElem?_toArray,List.getElem?_cons_zero,List.getElem?_cons_succ]at e0 e1 e2 e3 e4 e5
  exact bodyPost_ret (v:=.agg #[.int .i64 0,.int .i64 0,.int .i64 0,.int .u64 0,.bool false,.bool false]) (by simp[results,Tryz.results229,go_sem,e0,e1,e2,e3,e4,e5]) rfl ⟨rfl,hM9,hk9⟩
 ·have hx2:((x:Int) == 0)=false:=by simp;omega
  refine wp_region_cls (Below w1.heap.size w1) (Below_drewN _ 1) (by kernel_rfl) (by kernel_rfl) ?_
  intro hne
  repeat (go_big_quiet_step ((go_at_call 217;exact(hval _).out)))
  refine wpQuiet_nil ?_
  intro w8 h8
  clear hne
  clear c5 cl hval
  have hM8:=hM1.below h8
  have hW8:=hW1.below' h8
  have hK8:=hK1.trans (KeptS.of_below h8)
  rw[show({ m with at_:=m.at_+1 }:Mch)=m' by rw[←HMM.out,if_neg hx]]at hM8
  have hl8:=hW8.lt
  obtain⟨d0,d1,d2,d3,d4,d5⟩:=Kit.cells6 hW8
  have df:=fun i=>hW8.frozen i
  go_wp2_with fail
  have hB9:=blk_set6 hW8 (.int .i64 0) (.int .i64 0) (.int .i64 0) (.int .u64 0) (.bool false) (.bool false)
  have hk9:=kept_set6 hK8 (Nat.le_succ _) (.int .i64 0) (.int .i64 0) (.int .i64 0) (.int .u64 0) (.bool false) (.bool false)
  have hM9:=hM8.kept (keptW_set6 (g:=w.heap.size+1) (.int .i64 0) (.int .i64 0) (.int .i64 0) (.int .u64 0) (.bool false) (.bool false)) (by omega) (by omega) (fun k hk=>⟨_,_,hk ▸ hW8,nTW⟩)
  generalize ((((((w8.setCell ⟨w.heap.size+1,0,none⟩ _).setCell ⟨w.heap.size+1,1,none⟩ _).setCell ⟨w.heap.size+1,2,none⟩ _).setCell ⟨w.heap.size+1,3,none⟩ _).setCell ⟨w.heap.size+1,4,none⟩ _).setCell ⟨w.heap.size+1,5,none⟩ _)=w9 at *
  have e0:=hB9.cell 0
  have e1:=hB9.cell 1
  have e2:=hB9.cell 2
  have e3:=hB9.cell 3
  have e4:=hB9.cell 4
  have e5:=hB9.cell 5
  simp only[List.getElem?_toArray,List.getElem?_cons_zero,List.getElem?_cons_succ]at e0 e1 e2 e3 e4 e5
  exact bodyPost_ret (v:=.agg #[.int .i64 0,.int .i64 0,.int .i64 0,.int .u64 0,.bool false,.bool false]) (by simp[results,Tryz.results229,go_sem,e0,e1,e2,e3,e4,e5]) rfl ⟨rfl,hM9,hk9⟩
set_option maxRecDepth 100000 in
set_option maxHeartbeats 4000000 in
theorem set_any {w:World} {g gl nl cells:Nat} {tl:Int} {va:Value} {m:Mch} (h:MachM w g gl tl va nl m) (hw:MchW cells nl m) {n:Nat} (a:SrcP.Act) (ha:ActWell cells nl n a) (hop:a.op=1) {I E F:Option Addr} {li ci le ce lf cf:Nat} (hav:ActVS w (.slice I li ci) (.slice E le ce) (.slice F lf cf) a) :
  Calls Tryz.prog 222 #[.pointer (some ⟨g,0,none⟩),.agg (actC a (.slice I li ci) (.slice E le ce) (.slice F lf cf))] w fun r w'=>r=.returned (.agg zeroW)∧MachM w' g gl tl va nl (ownS m a)∧KeptS (MS g gl) w w':=by
 have hds:=ha.dst (by simp[hasDst,hop])
 obtain⟨d,hd⟩:=Int.eq_ofNat_of_zero_le hds.1
 have hdn:d<nl:=by omega
 have hws:ownS m a = { m with locals:=m.locals.set d (value a.e m.locals),at_:=m.at_+1 }:=by simp[ownS,hop,hd]
 rw[hws]
 obtain⟨_,_,hle,_⟩:=hav.here.e
 obtain⟨rfl,rfl,rfl⟩:E=_∧le=a.e.length∧ce=_:=by simpa using hle
 have hat:m.at_≤65536:=Nat.le_trans hw.at_ hw.alen
 have hst:∀w2,Still TA w w2→∀m',MachM w2 g gl tl va nl m'→m'.locals=m.locals→Calls Tryz.prog 217 #[.slice E a.e.length ce,.slice (some ⟨gl,0,none⟩) nl nl] w2 fun r w'=>r=.returned (.int .u64 (value a.e m.locals:Nat))∧Below w2.heap.size w2 w' :=
  fun w2 hs m' h2 hm=>val_anyL h2 m.locals hm hw.lt hw.len a.e (hav w2 hs).e (ha.e (by simp[hasE,hop]))
 have HST:=Lib.hid hst
 clear hst hle
 have hdl:d<m.locals.length:=by have:=hw.len;omega
 have hnl24:=hw.hnl
 clear hws hw hds hav ha hop
 generalize value a.e m.locals=x at *
 generalize a.e.length=le at *
 generalize hmm:({ m with locals:=m.locals.set d x,at_:=m.at_+1 }:Mch)=m' at *
 have HMM:=Lib.hid hmm
 clear hmm
 unfold actC zeroW
 rw[hd]
 clear hd
 have hg1:=h.blk.lt
 have hg2:=h.loc.lt
 have hgl:=h.ne
 go_enter Tryz.func222,Tryz.ntmps222
 go_upto_region 1 with fail
 obtain⟨w0,hw0⟩:∃y,y=(w.alloc (.cells #[.int .i64 a.op,.int .i64 d,.int .i64 a.base,.int .i64 a.size,.slice I li ci,.slice E le ce,.slice F lf cf,.int .i64 a.mode,.int .i64 a.to,.int .i64 a.line,.int .i64 a.col] 58)).alloc (.cells #[.int .i64 0,.int .i64 0,.int .i64 0,.int .u64 0,.bool false,.bool false] 100):=⟨_,rfl⟩
 have hb0:Below w.heap.size w w0:=by rw[hw0];exact Kit.bl2
 have hA0:Blk w0 w.heap.size 58 #[.int .i64 a.op,.int .i64 d,.int .i64 a.base,.int .i64 a.size,.slice I li ci,.slice E le ce,.slice F lf cf,.int .i64 a.mode,.int .i64 a.to,.int .i64 a.line,.int .i64 a.col]:=by rw[hw0];exact(Blk.new w _ _).alloc _
 have hW0:Blk w0 (w.heap.size+1) 100 #[.int .i64 0,.int .i64 0,.int .i64 0,.int .u64 0,.bool false,.bool false]:=by rw[hw0];exact Blk.newAt (sizeA w _) _ _
 rw[←hw0]
 clear hw0
 have hM0:=h.below hb0
 have hval:∀p:Cls (Below w0.heap.size w0),Hid (Calls Tryz.prog 217 #[.slice E le ce,.slice (some ⟨gl,0,none⟩) nl nl] p.w fun e w'=>e=.returned (.int .u64 x)∧∃q:Cls (Below w0.heap.size w0),w'=q.w) :=
  fun p=>Calls.cls ((HST.out p.w ((Still.below hb0).trans (Still.below p.h)) _ (hM0.below p.h) rfl).mono fun e w' ⟨h1,h2⟩=>⟨h1,Kit.Below.then p.h h2⟩)
 have c1:∀p:Cls (Below w0.heap.size w0),p.w.cell? ⟨w.heap.size,1,none⟩=some (.int .i64 d):=fun p=>hA0.cls 1 p
 have c5:∀p:Cls (Below w0.heap.size w0),p.w.cell? ⟨w.heap.size,5,none⟩=some (.slice E le ce):=fun p=>hA0.cls 5 p
 have cl:∀p:Cls (Below w0.heap.size w0),p.w.cell? ⟨g,3,none⟩=some (.slice (some ⟨gl,0,none⟩) nl nl):=fun p=>hM0.blk.cls 3 p
 have b1:(0:Int)≤(d:Int):=by omega
 have b2:(d:Int)<(nl:Int):=by omega
 refine wp_region_cls_tail (Below w0.heap.size w0) 13 (Below_drewN _ 1) (by kernel_rfl) (by kernel_rfl) ?_
 intro hne
 simp only[List.take_succ_cons,List.take_zero,List.drop_succ_cons,List.drop_zero]
 repeat (go_big_quiet_step ((go_at_call 217;exact(hval _).out)))
 refine wpQuiet_nil ?_
 intro w7 h7
 clear hne
 clear c1 c5 cl hval
 have hM7:=hM0.below h7
 have hW7:=hW0.below' h7
 have hK7:=(KeptS.of_below (S:=MS g gl) hb0).trans (KeptS.of_below h7)
 have l7:w7.cell? ⟨gl,d,none⟩=some (u64V m.locals[d]):=by rw[hM7.loc.cell];simp[hdl]
 have lf7:w7.frozen? ⟨gl,d,none⟩=false:=hM7.loc.frozen d
 unfold u64V at l7
 go_upto_region 2 with fail
 have hM6:=hM7.setL d x
 have hK6:=hK7.set (g:=gl) (.inr rfl) d (u64V x)
 have hW6:=hW7.farN (b:=gl) (o:=d) (by omega) (u64V x)
 unfold u64V at hM6 hK6 hW6
 generalize w7.setCell ⟨gl,d,none⟩ (.int .u64 x)=w6 at *
 clear l7 lf7
 have m2:w6.cell? ⟨g,2,none⟩=some (.int .i64 m.at_):=hM6.blk.cell 2
 have mf:=fun i=>hM6.blk.frozen i
 go_upto_region 3 with fail
 have hM8:=hM6.at_ (m.at_+1)
 have hK8:=hK6.set (g:=g) (.inl rfl) 2 (.int .i64 ((m.at_+1:Nat):Int))
 have hW8:=hW6.farN (b:=g) (o:=2) (by omega) (.int .i64 ((m.at_+1:Nat):Int))
 rw[show((m.at_+1:Nat):Int)=(m.at_:Int)+1 by push_cast;rfl]at hM8 hK8 hW8
 generalize w6.setCell ⟨g,2,none⟩ (.int .i64 ((m.at_:Int)+1))=w8 at *
 rw[show({ m with locals:=m.locals.set d x,at_:=m.at_+1 }:Mch)=m' from HMM.out]at hM8
 clear m2 mf
 have hl8:=hW8.lt
 obtain⟨d0,d1,d2,d3,d4,d5⟩:=Kit.cells6 hW8
 have df:=fun i=>hW8.frozen i
 go_wp2_with fail
 have hB9:=blk_set6 hW8 (.int .i64 0) (.int .i64 0) (.int .i64 0) (.int .u64 0) (.bool false) (.bool false)
 have hk9:=kept_set6 hK8 (Nat.le_succ _) (.int .i64 0) (.int .i64 0) (.int .i64 0) (.int .u64 0) (.bool false) (.bool false)
 have hM9:=hM8.kept (keptW_set6 (g:=w.heap.size+1) (.int .i64 0) (.int .i64 0) (.int .i64 0) (.int .u64 0) (.bool false) (.bool false)) (by omega) (by omega) (fun k hk=>⟨_,_,hk ▸ hW8,nTW⟩)
 generalize ((((((w8.setCell ⟨w.heap.size+1,0,none⟩ _).setCell ⟨w.heap.size+1,1,none⟩ _).setCell ⟨w.heap.size+1,2,none⟩ _).setCell ⟨w.heap.size+1,3,none⟩ _).setCell ⟨w.heap.size+1,4,none⟩ _).setCell ⟨w.heap.size+1,5,none⟩ _)=w9 at *
 have e0:=hB9.cell 0
 have e1:=hB9.cell 1
 have e2:=hB9.cell 2
 have e3:=hB9.cell 3
 have e4:=hB9.cell 4
 have e5:=hB9.cell 5
 simp only[List.getElem?_toArray,List.getElem?_cons_zero,List.getElem?_cons_succ]at e0 e1 e2 e3 e4 e5
 exact bodyPost_ret (v:=.agg #[.int .i64 0,.int .i64 0,.int .i64 0,.int .u64 0,.bool false,.bool false]) (by simp[results,Tryz.results222,go_sem,e0,e1,e2,e3,e4,e5]) rfl ⟨rfl,hM9,hk9⟩
end Go.Proofs.YtmjilfamjlnigaaGreat.MchW
namespace Go.Proofs.YtmjilfamjlnigaaGreat.NewW
open Go Go.RowKit Kit SrcP SrcW MchW
theorem actsC_cons (a:SrcP.Act) (l:List SrcP.Act) (t:VVV) (vs:List VVV):actsC (a :: l) (t :: vs)=actP (a,t)++actsC l vs:=by
 unfold actsC
 rw[List.zip_cons_cons,List.flatMap_cons]
theorem set_over {A R:List Value} {n i:Nat} (h:A.length=n) (x:Value):(A++R).set (n+i) x=A++R.set i x:=by
 rw[List.set_append_right _ _ (by omega),h,Nat.add_sub_cancel_left]
theorem actsC_set (l:List SrcP.Act):∀(vs:List VVV) (k:Nat) (vi ve vf:Value),vs.length=l.length→k<l.length →
  (((actsC l vs).set (k*11+5) ve).set (k*11+6) vf).set (k*11+4) vi=actsC l (vs.set k (vi,ve,vf)):=by
 induction l with
 | nil=>intro vs k vi ve vf _ h;simp at h
 | cons a l ih =>
  intro vs k vi ve vf hv hk
  cases vs with
  | nil=>simp at hv
  | cons t vs =>
   cases k with
   | zero =>
    rw[List.set_cons_zero,actsC_cons,actsC_cons]
    rfl
   | succ k =>
    rw[List.set_cons_succ,actsC_cons,actsC_cons]
    have hl:(actP (a,t)).length=11:=rfl
    rw[show(k+1)*11+5=11+(k*11+5) by omega,show(k+1)*11+6=11+(k*11+6) by omega,show(k+1)*11+4=11+(k*11+4) by omega,set_over hl,set_over hl,set_over hl]
    rw[ih vs k vi ve vf (by simpa using hv) (by simpa using hk)]
theorem actsC_len (l:List SrcP.Act) (vs:List VVV) (h:vs.length=l.length):(actsC l vs).length=l.length*11:=by
 unfold actsC
 rw[flat_len actP 11 (fun _=>rfl),List.length_zip,h,Nat.min_self]
theorem actsC_get (l:List SrcP.Act) (vs:List VVV) (k:Nat) (a:SrcP.Act) (t:VVV) (ha:l[k]?=some a) (ht:vs[k]?=some t) (r:Nat) (hr:r<11):(actsC l vs)[k*11+r]?=(actC a t.1 t.2.1 t.2.2)[r]?:=by
 unfold actsC
 rw[flat_get actP 11 (fun _=>rfl) (l.zip vs) k r (a,t) (by rw[List.getElem?_zip_eq_some];exact⟨ha,ht⟩) hr]
 simp[actP]
end Go.Proofs.YtmjilfamjlnigaaGreat.NewW
namespace Go.Proofs.YtmjilfamjlnigaaGreat.SrcP
open Go
structure Ev where
 thread:Int
 kind:Int
 loc:Int
 val:Nat
 mode:Int
structure Th (M:Type) where
 m:M
 nums:List Nat
 ex:Int
structure Rn (M:Type) where
 cells:List Nat
 last:List Nat
 ths:List (Th M)
 events:List Ev
 co:List (List Nat)
 rf:List (Nat × Nat)
 rmw:List (Nat × Nat)
 outs:List (List Nat)
 log:List Nat
 used:Nat
structure Kd (M:Type) where
 words:Bool
 lse:Bool
 next:M→M
 now:M→Want
 feed:M→Nat→M
 dead:M
section
variable {M:Type}
def Kd.mode (K:Kd M):Int:=if K.words then 11 else 1
def Kd.beginR (K:Kd M) (n:Nat):Rn M where
 cells:=List.replicate n 0
 last:=List.range n
 ths:=[]
 events:=(List.range n).map fun (c:Nat)=>⟨-1,2,(c:Int),0,K.mode⟩
 co:=(List.range n).map fun c=>[c]
 rf:=[]
 rmw:=[]
 outs:=[]
 log:=[]
 used:=0
def Rn.add (r:Rn M) (m:M):Rn M:={ r with ths:=r.ths++[⟨m,[],-1⟩],outs:=r.outs++[[]] }
def Rn.th (r:Rn M) (K:Kd M) (t:Nat):Th M:=r.ths.getD t ⟨K.dead,[],-1⟩
def Rn.setT (r:Rn M) (t:Nat) (x:Th M):Rn M:={ r with ths:=r.ths.set t x }
def Rn.setM (r:Rn M) (K:Kd M) (t:Nat) (m:M):Rn M:=r.setT t { r.th K t with m:=m }
def Rn.event (r:Rn M) (K:Kd M) (t:Nat) (kind loc:Int) (val:Nat) (mode:Int):Rn M :=
 { r with events:=r.events++[⟨t,kind,loc,val,mode⟩],ths:=r.ths.set t { r.th K t with nums:=(r.th K t).nums++[r.events.length] } }
def Rn.feed (r:Rn M) (K:Kd M) (t:Nat) (v:Nat):Rn M:=r.setM K t (K.feed (r.th K t).m v)
def Rn.cell (r:Rn M) (w:Want):Nat:=r.cells.getD w.loc.toNat 0
def Rn.lastW (r:Rn M) (w:Want):Nat:=r.last.getD w.loc.toNat 0
def Rn.read (r:Rn M) (n:Nat) (w:Want):Rn M:={ r with rf:=r.rf++[(r.lastW w,n)] }
def Rn.exd (r:Rn M) (K:Kd M) (t:Nat) (w:Want):Rn M:=if w.ex then r.setT t { r.th K t with ex:=r.lastW w }else r
def Rn.load (r:Rn M) (K:Kd M) (t:Nat) (w:Want):Rn M :=
 (((r.event K t 1 w.loc (r.cell w) w.mode).read r.events.length w).exd K t w).feed K t (r.cell w)
def Rn.wrote (r:Rn M) (n:Nat) (w:Want):Rn M :=
 { r with co:=r.co.set w.loc.toNat (r.co.getD w.loc.toNat []++[n]),cells:=r.cells.set w.loc.toNat w.val,last:=r.last.set w.loc.toNat n }
def Rn.store (r:Rn M) (K:Kd M) (t:Nat) (w:Want):Rn M :=
 ((r.event K t 2 w.loc w.val w.mode).wrote r.events.length w).feed K t 1
def Rn.ask (r:Rn M) (K:Kd M) (t:Nat):Rn M:=r.setM K t (K.next (r.th K t).m)
def Rn.wants (r:Rn M) (K:Kd M) (t:Nat):Want:=K.now (r.th K t).m
def Rn.can (r:Rn M) (w:Want):Bool :=
 if w.what=1∨w.what=2 then decide (0≤w.loc∧w.loc<(r.cells.length:Int))else decide (w.what=3∨w.what=4∨w.what=6)
def Rn.second (r:Rn M) (K:Kd M) (t n:Nat):Rn M :=
 let s:=r.wants K t
 if s.what≠2∨s.ex=K.words∨s.one≠K.words then r
 else
  let r3:=r.store K t s
  if K.words then r3
  else
   let r4:={ r3 with rmw:=r3.rmw++[(n,r.events.length)] }
   if K.lse then r4 else { r4 with log:=r4.log++[t] }
def Rn.out (r:Rn M) (t:Nat) (v:Nat):Rn M:={ r with outs:=r.outs.set t (r.outs.getD t []++[v]) }
def Rn.doo (r:Rn M) (K:Kd M) (t:Nat) (w:Want):Rn M :=
 if w.what=1 then
  if (if K.words then w.one else w.ex)=false then r.load K t w
  else((r.load K t w).ask K t).second K t r.events.length
 else if w.what=2 then
  if K.words=true∧w.ex=true∧(r.lastW w:Int)≠(r.th K t).ex then r.feed K t 0 else r.store K t w
 else if w.what=3 then(r.event K t 3 (-1) 0 w.mode).feed K t 0
 else if w.what=4 then(r.out t w.val).feed K t 0
 else r
def Rn.did (r:Rn M) (t:Nat):Rn M:={ r with used:=r.used+1,log:=r.log++[t] }
def Rn.pick (r:Rn M) (K:Kd M) (t:Int):Rn M :=
 if t<0∨(r.ths.length:Int)≤t then r
 else
  let r1:=r.ask K t.toNat
  let w:=r1.wants K t.toNat
  if r1.can w then(r1.did t.toNat).doo K t.toNat w else r1
def Kd.play (K:Kd M) (fuel:Int):List Int→Rn M→Rn M × Bool
 | [],r=>(r,decide (256<r.events.length))
 | t :: l,r=>if 256<r.events.length then(r,true)else if fuel≤r.used then(r,false)else K.play fuel l (r.pick K t)
def Kd.start (K:Kd M) (n:Nat) (ms:List M):Rn M:=ms.foldl Rn.add (K.beginR n)
def Kd.run (K:Kd M) (n:Nat) (ms:List M) (picks:List Int) (fuel:Int):Option (Rn M) :=
 match K.play fuel picks (K.start n ms)with
 |(_,true)=>none
 |(r,false)=>some r
theorem Kd.start_snoc (K:Kd M) (n:Nat) (ms:List M) (m:M):K.start n (ms++[m])=(K.start n ms).add m:=by
 unfold Kd.start
 rw[List.foldl_append]
 rfl
theorem Kd.start_eq (K:Kd M) (n:Nat) (ms:List M):K.start n ms = { K.beginR n with ths:=ms.map fun m=>⟨m,[],-1⟩,outs:=ms.map fun _=>[] }:=by
 suffices ∀(r:Rn M),ms.foldl Rn.add r = { r with ths:=r.ths++ms.map fun m=>⟨m,[],-1⟩,outs:=r.outs++ms.map fun _=>[] } by
  unfold Kd.start
  rw[this]
  rfl
 induction ms with
 | nil=>intro r;simp
 | cons m l ih=>intro r;rw[List.foldl_cons,ih];simp[Rn.add]
end
/-! Of the source. -/
def newM (t:Thread):Mch:=⟨t.acts,0,List.replicate t.locals.toNat 0,Want.zero,false,0,false⟩
def noM:Mch:=⟨[],0,[],Want.zero,false,0,false⟩
def srcK (lse:Bool):Kd Mch:=⟨false,lse,nextS,Mch.now,feedS,noM⟩
def sourceS (p:Prog) (picks:List Int) (fuel:Int) (lse:Bool):Except Nat (Rn Mch) :=
 if fuel<0∨wholeP p=false then .error 1
 else match (srcK lse).run p.cells.toNat (p.threads.map newM) picks fuel with
  | none=>.error 2
  | some r=>.ok r
end Go.Proofs.YtmjilfamjlnigaaGreat.SrcP
namespace Go.Proofs.YtmjilfamjlnigaaGreat.Kit
open Go Go.RowKit
theorem floatG_lex_at {P:Program} {ops:Array Oper} {md:Region.Mode} {C:World→Prop} {late:List Nat} {n m:Nat} {T:Array Bool→Act→World→Prop} (hsel:Region.noSelect ops=true) (hs:Region.sinkB md ops n=true) (hc:Region.chainB md ops n=true) (hn:n<ops.size)
  (hT:∀listed a w,T listed a w→∀j∈Region.ready md ops listed,n≤j) (w:World) (hC:C w) (rd:List Nat) :
  ∀(listed:Array Bool) (a:Act),HeadInv md ops n listed→readsB md ops n late rd listed=true→∀(l:List Oper),l.length=rd.length→(∀j,j<l.length→l[j]?=(rd[j]?).bind fun k=>ops[k]?) →
   wpQuiet P ops C (fun a'=>floatG P md ops C late n T m (listedAll rd listed) a' w) l a→floatG P md ops C late n T (rd.length+m) listed a w:=by
 induction rd with
 | nil =>
  intro listed a inv hB l hlen hl h
  obtain rfl:l = []:=by simpa using hlen
  rw[List.length_nil,Nat.zero_add]
  exact h
 | cons k rd ih =>
  intro listed a inv hB l hlen hl h
  cases l with
  | nil=>simp at hlen
  | cons o l =>
   have h0:ops[k]?=some o:=by
    have:=hl 0 (by simp)
    simpa using this.symm
   simp only[readsB,Bool.and_eq_true,decide_eq_true_eq,h0,Option.map_some,Option.getD_some,List.all_eq_true]at hB
   obtain⟨⟨⟨⟨⟨hr,hf⟩,hk⟩,hrd⟩,hlt⟩,hB'⟩:=hB
   have hr':k∈Region.ready md ops listed:=by simpa using hr
   have hq:qOp P ops C k (wpQuiet P ops C (fun a'=>floatG P md ops C late n T m (listedAll rd (listed.setIfInBounds k true)) a' w) l) a:=by
    unfold qOp
    simp only[h0]
    exact h
   obtain⟨v,hy,hK⟩:=yieldsIn_of_qOp h0 hq
   rw[List.length_cons,show rd.length+1+m=(rd.length+m)+1 by omega]
   refine floatG_take h0 (Region.noSelect_spec hsel) hs hc hn hk hlt hT (rd.length+m) listed a w hC inv (Region.free_spec h0 hf) hr' (ReadsIn.of_yields hrd hy) ?_
   refine ih _ _ (inv.set hr' hk) hB' l (by simpa using hlen) (fun j hj=>?_) hK
   have:=hl (j+1) (by simp;omega)
   simpa using this
theorem wp_region_float_at (C:World→Prop) (n m:Nat) (rd late:List Nat) {P:Program} {id:Nat} {Q:Exit→Act→World→Prop} {a:Act} {w:World} {l:List Oper} (hC:C (w.drewN 1))
  (hm:P.follows .mixedOrders=true) (hB:floatB .any l.toArray n m rd late=true)
  (h:Nonempty (Cls C)→wpQuiet P l.toArray (fun w'=>∃p:Cls C,w'=p.w) (fun a'=>floatG P .any l.toArray (fun w'=>∃p:Cls C,w'=p.w) late n (tailG P Q l n) m (listedAll rd (Array.replicate l.toArray.size false)) a' (w.drewN 1)) (pickL rd l) a):(Code.region id l.toArray true).wp P Q a w:=by
 simp only[floatB,Bool.and_eq_true,decide_eq_true_eq]at hB
 obtain⟨⟨⟨⟨⟨hsel,hn⟩,hs⟩,hc⟩,hlen⟩,hlex⟩:=hB
 have hn':n<l.length:=by simpa using hn
 have hdl:(l.drop n).length=l.toArray.size-n:=by simp
 have inv0:HeadInv .any l.toArray n (Array.replicate l.toArray.size false):=by
  refine⟨by simp,fun j oj _ hl=>?_,fun t _ ht=>getD_in (by simpa using ht) (getD_replicate_false _ _)⟩
  rw[getD_replicate_false]at hl
  cases hl
 have H:=floatG_lex_at (P:=P) (C:=fun w'=>∃p:Cls C,w'=p.w) (md:=.any) (T:=tailG P Q l n) (m:=m) hsel hs hc hn (fun _ _ _ hT=>seqB_ready hT.1) (w.drewN 1) ⟨⟨_,hC⟩,rfl⟩ rd _ a inv0 hlex (pickL rd l) (by simp[pickL]) (fun j hj=>by
  have hj':j<rd.length:=by simpa [pickL]using hj
  have hk:=readsB_lt rd _ hlex rd[j] (List.getElem_mem hj')
  have hk':rd[j]<l.length:=by omega
  simp[pickL,hj',hk']) (h ⟨⟨_,hC⟩⟩)
 refine wp_region_any hm ?_
 have:=floatG_run (Q:=Q) (g:=l.toArray.size-n) (fun listed a' w' hT=>by
  have:=wpAny_of_seq (md:=.any) (Q':=Q) (l.drop n) n listed a' w' (fun j=>by simp[List.getElem?_drop]) (by rw[hdl];exact hT.1) hT.2
  rwa [hdl]at this) _ _ _ _ H
 rw[hlen,show n+(l.toArray.size-n)=l.toArray.size by omega]at this
 exact this
end Go.Proofs.YtmjilfamjlnigaaGreat.Kit
