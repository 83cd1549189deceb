/- WALKS: a thread's state, the document's own way: an act that wants nothing, an act done (chapter 13). -/
import Derived.Test.YtmjilfamjlnigaaGreatQ18
namespace Go.Proofs.YtmjilfamjlnigaaGreat.RefW
open Go Go.RowKit Kit SrcP SrcW
def StRet (lc:Int) (va:Value) (w:World) (s:RS) (e:Ending) (w':World):Prop :=
 ∃vl',e=.returned (.agg (stC lc va s vl'))∧U64O w' vl' s.locals∧Below w.heap.size w w'
theorem own_evals {nc nl n:Nat} {a:SrcP.Act} (h:ActWell nc nl n a) (ho:ownB a=true):(a.op≠9→EvalsAll nl a.e)∧(a.op=1→0≤a.dst∧a.dst<(nl:Int))∧(a.op≠1→0≤a.to∧a.to≤(n:Int)):=by
 have:=own_op ho
 refine⟨fun h9=>h.e ?_,fun h1=>h.dst ?_,fun h1=>h.to_ ?_⟩
 ·unfold hasE
  have:a.op=1∨a.op=10:=by omega
  rcases this with h | h <;> rw[h] <;> rfl
 ·rw[h1];rfl
 ·have:a.op=9∨a.op=10:=by omega
  unfold hasTo
  rcases this with h | h <;> rw[h] <;> rfl
set_option maxRecDepth 100000 in
set_option maxHeartbeats 4000000 in
theorem Alone_any {nc nl:Nat} (lc:Int) (A:Option Addr) (c:Nat) (vl:Value) (s:RS) (w:World) (h:StV nc nl w (.slice A s.acts.length c) vl s) (a:SrcP.Act) (ha:s.acts[s.at_]?=some a) (ho:ownB a=true) :
  Calls Tryz.prog 81 #[.agg (stC lc (.slice A s.acts.length c) s vl)] w fun r w'=>StRet lc (.slice A s.acts.length c) w (s.alone a) r w':=by
 obtain⟨ad,vi,ve,vf,hN⟩:=h.next ha
 have HN:=Lib.hid hN
 obtain⟨rfl,hC,hAV,hlt,hwell⟩:=hN
 obtain⟨B,d,rfl,_⟩:=h.u64
 have HS:=Lib.hid h
 have HW:=Lib.hid hwell
 have HAV:=Lib.hid hAV
 have HLEN:Hid (s.locals.length=nl):=Lib.hid h.ok.len
 have a1:(s.at_:Int)<(s.acts.length:Int):=by omega
 have a2:(0:Int)≤(s.at_:Int):=by omega
 have hatl:s.acts.length≤65536:=h.ok.alen
 obtain⟨E,ce,rfl,_⟩:=HAV.out.e
 obtain⟨F,cf,rfl,_⟩:=HAV.out.f
 obtain⟨I,ci,rfl,_⟩:=HAV.out.index
 clear hwell hAV
 obtain⟨hE,hD,hT⟩:=own_evals HW.out ho
 have HOf:Hid (a.op≠9→∀w2,Below w.heap.size w w2→Calls Tryz.prog 127 #[.slice E a.e.length ce,.slice B s.locals.length d] w2 fun r w'=>r=.returned (.int .u64 (value a.e s.locals:Nat))∧Below w2.heap.size w2 w') :=
  Lib.hid fun h9 w2 hb=>Of_any E B ce d a.e s.locals (by rw[HLEN.out];exact hE h9) w2 (HAV.out.e.below hb) (HS.out.u64.below hb)
 have hrv:value a.e s.locals<M64:=value_lt _ _ HS.out.ok.lt HW.out.le
 have HSet:Hid (a.op=1→∀w2,Below w.heap.size w w2→Calls Tryz.prog 128 #[.agg (stC lc (.slice (some ad) s.acts.length c) s (.slice B s.locals.length d)),.int .i64 a.dst,.int .u64 (value a.e s.locals:Nat)] w2 fun r w'=>∃g cap,r=.returned (.agg (stC lc (.slice (some ad) s.acts.length c) ⟨s.acts,s.at_+1,s.locals.set a.dst.toNat (value a.e s.locals)⟩ (.slice (some ⟨g,0,none⟩) s.locals.length cap)))∧U64O w' (.slice (some ⟨g,0,none⟩) s.locals.length cap) (s.locals.set a.dst.toNat (value a.e s.locals))∧w2.heap.size≤g∧Below w2.heap.size w2 w') :=
  Lib.hid fun h1 w2 hb=>by
   have hd:=hD h1
   have:=set_any lc (.slice (some ad) s.acts.length c) B d s w2 (HS.out.below hb) a.dst.toNat (value a.e s.locals) (by have:=HLEN.out;omega) hrv (by omega)
   rwa [show((a.dst.toNat:Nat):Int)=a.dst by omega]at this
 have hop:=own_op ho
 unfold stC
 unfold stC at HSet
 go_enter Tryz.func81,Tryz.ntmps81
 go_upto_region 1 with fail
 obtain⟨w1,hw1⟩:∃yy:World,yy=(w.alloc (.cells #[.int .i64 lc,.slice (some ad) s.acts.length c,.int .i64 s.at_,.slice B s.locals.length d] 82)).alloc (.cells #[.int .i64 0,.slice none 0 0,.int .i64 0,.slice none 0 0] 82):=⟨_,rfl⟩
 have hb1:Below w.heap.size w w1:=by rw[hw1];exact Kit.bl2
 have hS1:Blk w1 w.heap.size 82 #[.int .i64 lc,.slice (some ad) s.acts.length c,.int .i64 s.at_,.slice B s.locals.length d]:=by rw[hw1];exact(Blk.new _ _ _).alloc _
 have hR1:Blk w1 (w.heap.size+1) 82 #[.int .i64 0,.slice none 0 0,.int .i64 0,.slice none 0 0]:=by rw[hw1];exact Blk.newAt (sizeA _ _) _ _
 have hz1:w1.heap.size=w.heap.size+1+1:=by rw[hw1,sizeA,sizeA]
 rw[←hw1]
 clear hw1
 have hC1:=hC.below hb1
 have k1:w1.cell? ⟨w.heap.size,1,none⟩=some (.slice (some ad) s.acts.length c):=hS1.cell 1
 have k2:w1.cell? ⟨w.heap.size,2,none⟩=some (.int .i64 s.at_):=hS1.cell 2
 have r0:w1.cell? (ad.add (s.at_*11))=some (.int .i64 a.op):=hC1 0 _ rfl
 have r1:w1.cell? ⟨(ad.add (s.at_*11)).block,(ad.add (s.at_*11)).off+1,none⟩=some (.int .i64 a.dst):=hC1 1 _ rfl
 have r2:w1.cell? ⟨(ad.add (s.at_*11)).block,(ad.add (s.at_*11)).off+2,none⟩=some (.int .i64 a.base):=hC1 2 _ rfl
 have r3:w1.cell? ⟨(ad.add (s.at_*11)).block,(ad.add (s.at_*11)).off+3,none⟩=some (.int .i64 a.size):=hC1 3 _ rfl
 have r4:w1.cell? ⟨(ad.add (s.at_*11)).block,(ad.add (s.at_*11)).off+4,none⟩=some (.slice I a.index.length ci):=hC1 4 _ rfl
 have r5:w1.cell? ⟨(ad.add (s.at_*11)).block,(ad.add (s.at_*11)).off+5,none⟩=some (.slice E a.e.length ce):=hC1 5 _ rfl
 have r6:w1.cell? ⟨(ad.add (s.at_*11)).block,(ad.add (s.at_*11)).off+6,none⟩=some (.slice F a.f.length cf):=hC1 6 _ rfl
 have r7:w1.cell? ⟨(ad.add (s.at_*11)).block,(ad.add (s.at_*11)).off+7,none⟩=some (.int .i64 a.mode):=hC1 7 _ rfl
 have r8:w1.cell? ⟨(ad.add (s.at_*11)).block,(ad.add (s.at_*11)).off+8,none⟩=some (.int .i64 a.to):=hC1 8 _ rfl
 have r9:w1.cell? ⟨(ad.add (s.at_*11)).block,(ad.add (s.at_*11)).off+9,none⟩=some (.int .i64 a.line):=hC1 9 _ rfl
 have r10:w1.cell? ⟨(ad.add (s.at_*11)).block,(ad.add (s.at_*11)).off+10,none⟩=some (.int .i64 a.col):=hC1 10 _ rfl
 clear hC hC1
 go_upto_region 2 with fail
 obtain⟨wx,hwx⟩:∃yy:World,yy=w1.alloc (.cells #[.int .i64 a.op,.int .i64 a.dst,.int .i64 a.base,.int .i64 a.size,.slice I a.index.length ci,.slice E a.e.length ce,.slice F a.f.length cf,.int .i64 a.mode,.int .i64 a.to,.int .i64 a.line,.int .i64 a.col] 58):=⟨_,rfl⟩
 have hbx:Below w.heap.size w wx:=by rw[hwx];exact Kit.Below.al hb1 _
 have hSX:Blk wx w.heap.size 82 #[.int .i64 lc,.slice (some ad) s.acts.length c,.int .i64 s.at_,.slice B s.locals.length d]:=by rw[hwx];exact hS1.alloc _
 have hRX:Blk wx (w.heap.size+1) 82 #[.int .i64 0,.slice none 0 0,.int .i64 0,.slice none 0 0]:=by rw[hwx];exact hR1.alloc _
 have hAX:Blk wx (w.heap.size+1+1) 58 #[.int .i64 a.op,.int .i64 a.dst,.int .i64 a.base,.int .i64 a.size,.slice I a.index.length ci,.slice E a.e.length ce,.slice F a.f.length cf,.int .i64 a.mode,.int .i64 a.to,.int .i64 a.line,.int .i64 a.col]:=by rw[hwx];exact Blk.newAt hz1 _ _
 rw[hz1]at *
 rw[←hwx]
 clear hwx hS1 hR1 hz1 hb1 k1 k2 r0 r1 r2 r3 r4 r5 r6 r7 r8 r9 r10
 have hlt3:=hAX.lt
 generalize hgl:w.heap.size=gl at *
 have HGL:=Lib.hid hgl
 clear hgl
 generalize hga:gl+1+1=ga at *
 have HGA:=Lib.hid hga
 clear hga
 have n0:wx.cell? ⟨ga,0,none⟩=some (.int .i64 a.op):=hAX.cell 0
 have HZ:Hid (∀w2,Below wx.heap.size wx w2→Below gl w w2):=Lib.hid fun w2 hb=>hbx.trans (hb.mono (Nat.le_of_lt hSX.lt))
 by_cases h1:a.op=1
 ·have hs1:s.alone a=⟨s.acts,s.at_+1,s.locals.set a.dst.toNat (value a.e s.locals)⟩:=by unfold RS.alone ownS;rw[if_pos h1];rfl
  rw[h1]at n0
  have HC:∀p:Cls (Below wx.heap.size wx),Hid (Calls Tryz.prog 127 #[.slice E a.e.length ce,.slice B s.locals.length d] p.w fun r w'=>r=.returned (.int .u64 (value a.e s.locals:Nat))∧∃q:Cls (Below wx.heap.size wx),w'=q.w):=fun p =>
   Lib.hid (Calls.cls ((HOf.out (by omega) p.w (HZ.out _ p.h)).mono fun e w' h=>⟨h.1,Kit.Below.then p.h h.2⟩))
  have HS1:=HSet.out h1
  generalize value a.e s.locals=v at *
  obtain⟨ks0,ks1,ks2,ks3⟩:=Kit.cellsA4 fun p:Cls (Below wx.heap.size wx)=>(hSX.below' p.h)
  have ka1:∀p:Cls (Below wx.heap.size wx),p.w.cell? ⟨ga,1,none⟩=some (.int .i64 a.dst):=fun p=>(hAX.below' p.h).cell 1
  have ka5:∀p:Cls (Below wx.heap.size wx),p.w.cell? ⟨ga,5,none⟩=some (.slice E a.e.length ce):=fun p=>(hAX.below' p.h).cell 5
  have HR:Hid (∀w2,Below wx.heap.size wx w2→Blk w2 (gl+1) 82 #[.int .i64 0,.slice none 0 0,.int .i64 0,.slice none 0 0]):=Lib.hid fun w2 hb=>hRX.below' hb
  go_upto_region 3 with fail
  refine wp_region_cls_tail (Below wx.heap.size wx) 8 (Below_drewN _ 1) (by kernel_rfl) (by kernel_rfl) ?_
  intro hne
  simp only[List.take_succ_cons,List.take_zero,List.drop_succ_cons,List.drop_zero]
  repeat (go_big_quiet_step ((go_at_call 127;exact(HC _).out)))
  refine wpQuiet_nil ?_
  intro w8 h8
  clear hne
  clear ks0 ks1 ks2 ks3 ka1 ka5 HC
  have HS8:=Lib.hid (HS1 w8 (HZ.out w8 h8))
  clear HS1
  go_wp2_with (go_at_call 128;refine HS8.out.mono ?_;rintro e w9 ⟨g,cap,rfl,hU9,hg9,hb9⟩;have h9:=Kit.Below.then h8 hb9;obtain⟨kz0,kz1,kz2,kz3⟩:=Kit.cells4 (HR.out w9 h9);have kf:=fun i=>(HR.out w9 h9).frozen i)
  have hgg:gl+1<w9.heap.size:=(HR.out w9 h9).lt
  have hgx:gl+1<w8.heap.size:=(HR.out w8 h8).lt
  obtain⟨wf,hwf⟩:∃yy:World,yy=(((w9.setCell ⟨gl+1,0,none⟩ (.int .i64 lc)).setCell ⟨gl+1,1,none⟩ (.slice (some ad) s.acts.length c)).setCell ⟨gl+1,2,none⟩ (.int .i64 ((s.at_:Int)+1))).setCell ⟨gl+1,3,none⟩ (.slice (some ⟨g,0,none⟩) s.locals.length cap):=⟨_,rfl⟩
  have hBf:Blk wf (gl+1) 82 #[(.int .i64 lc),(.slice (some ad) s.acts.length c),(.int .i64 ((s.at_:Int)+1)),(.slice (some ⟨g,0,none⟩) s.locals.length cap)]:=by rw[hwf];exact((((HR.out w9 h9).set 0 _).set 1 _).set 2 _).set 3 _
  have hkf:∀k,k≠gl+1→wf.heap[k]?=w9.heap[k]?:=fun k hk=>by
   rw[hwf]
   iterate 4 rw[Below.heap_setCell _ _ _ _ (by exact hk)]
  have hbf:Below gl w wf:=by
   rw[hwf]
   have hq:=HZ.out w9 h9
   exact(((hq.setCell (p:=⟨gl+1,0,none⟩) (by simp) _).setCell (p:=⟨gl+1,1,none⟩) (by simp) _).setCell (p:=⟨gl+1,2,none⟩) (by simp) _).setCell (p:=⟨gl+1,3,none⟩) (by simp) _
  rw[←hwf]
  clear hwf
  obtain⟨e0,e1,e2,e3⟩:=Kit.cells4 hBf
  refine bodyPost_ret (v:=.agg #[(.int .i64 lc),(.slice (some ad) s.acts.length c),(.int .i64 ((s.at_:Int)+1)),(.slice (some ⟨g,0,none⟩) s.locals.length cap)]) (by simp[results,Tryz.results81,go_sem,e0,e1,e2,e3]) rfl ?_
  rw[hs1]
  have hle:(s.locals.set a.dst.toNat v).length=s.locals.length:=List.length_set
  exact⟨_,rfl,U64O.kept hU9 (HR.out w9 h9) (by decide) hkf,by rw[HGL.out];exact hbf⟩
 have q1:(a.op == 1)=false:=by simp[h1]
 have ks0:wx.cell? ⟨gl,2,none⟩=some (.int .i64 s.at_):=hSX.cell 2
 have kf0:=fun i=>hSX.frozen i
 go_upto_region 5 with fail
 obtain⟨wy,hwy⟩:∃y,y=wx.setCell ⟨gl,2,none⟩ (.int .i64 ((s.at_:Int)+1)):=⟨_,rfl⟩
 have hlg:gl+1<wx.heap.size:=hRX.lt
 have hSY:Blk wy gl 82 #[.int .i64 lc,.slice (some ad) s.acts.length c,.int .i64 ((s.at_:Int)+1),.slice B s.locals.length d]:=by rw[hwy];exact hSX.set 2 _
 have hRY:Blk wy (gl+1) 82 #[.int .i64 0,.slice none 0 0,.int .i64 0,.slice none 0 0]:=by rw[hwy];exact hRX.farN (by omega) _
 have hAY:Blk wy ga 58 #[.int .i64 a.op,.int .i64 a.dst,.int .i64 a.base,.int .i64 a.size,.slice I a.index.length ci,.slice E a.e.length ce,.slice F a.f.length cf,.int .i64 a.mode,.int .i64 a.to,.int .i64 a.line,.int .i64 a.col]:=by rw[hwy];exact hAX.farN (by have:=HGA.out;omega) _
 have hby:Below gl w wy:=by rw[hwy];exact hbx.setCell (p:=⟨gl,2,none⟩) (Nat.le_refl _) _
 rw[←hwy]
 clear hwy q1 ks0 kf0 n0 hSX hRX hAX hbx HZ HSet
 have hlt4:=hAY.lt
 have hlg:=hRY.lt
 have n0:wy.cell? ⟨ga,0,none⟩=some (.int .i64 a.op):=hAY.cell 0
 have HZ:Hid (∀w2,Below wy.heap.size wy w2→Below gl w w2):=Lib.hid fun w2 hb=>hby.trans (hb.mono (by omega))
 have HR:Hid (∀w2,Below wy.heap.size wy w2→Blk w2 (gl+1) 82 #[.int .i64 0,.slice none 0 0,.int .i64 0,.slice none 0 0]):=Lib.hid fun w2 hb=>hRY.below' hb
 have hal:∀b:Int,RS.alone s a=⟨s.acts,b.toNat,s.locals⟩→0≤b→Hid (stC lc (.slice (some ad) s.acts.length c) (s.alone a) (.slice B s.locals.length d)=#[.int .i64 lc,.slice (some ad) s.acts.length c,.int .i64 b,.slice B s.locals.length d]):=fun b hb h0=>Lib.hid (by
  rw[hb]
  unfold stC
  rw[show((b.toNat:Nat):Int)=b by omega])
 by_cases h9:a.op=9
 ·have hs9:s.alone a=⟨s.acts,a.to.toNat,s.locals⟩:=by unfold RS.alone ownS;rw[if_neg h1,if_pos h9];rfl
  have HL9:=hal a.to hs9 (hT h1).1
  rw[h9]at n0
  obtain⟨ks0,ks1,ks2,ks3⟩:=Kit.cells4 hSY
  have ksf:=fun i=>hSY.frozen i
  have ka8:wy.cell? ⟨ga,8,none⟩=some (.int .i64 a.to):=hAY.cell 8
  go_upto_region 7 with fail
  obtain⟨w6,hw6⟩:∃yy:World,yy=wy.setCell ⟨gl,2,none⟩ (.int .i64 a.to):=⟨_,rfl⟩
  have hS6:Blk w6 gl 82 #[.int .i64 lc,.slice (some ad) s.acts.length c,.int .i64 a.to,.slice B s.locals.length d]:=by rw[hw6];exact hSY.set 2 _
  have hR6:Blk w6 (gl+1) 82 #[.int .i64 0,.slice none 0 0,.int .i64 0,.slice none 0 0]:=by rw[hw6];exact(HR.out wy (Below.refl _ _)).farN (by omega) _
  have hb6:Below gl w w6:=by rw[hw6];exact(HZ.out wy (Below.refl _ _)).setCell (p:=⟨gl,2,none⟩) (Nat.le_refl _) _
  rw[←hw6]
  clear hw6 ks0 ks1 ks2 ks3 ksf ka8
  obtain⟨ks0,ks1,ks2,ks3⟩:=Kit.cells4 hS6
  have HR:Hid (∀w2,Below w6.heap.size w6 w2→Blk w2 (gl+1) 82 #[.int .i64 0,.slice none 0 0,.int .i64 0,.slice none 0 0]):=Lib.hid fun w2 hb=>hR6.below' hb
  have HZ:Hid (∀w2,Below w6.heap.size w6 w2→Below gl w w2):=Lib.hid fun w2 hb=>hb6.trans (hb.mono (by have:=hR6.lt;omega))
  obtain⟨kz0,kz1,kz2,kz3⟩:=Kit.cells4 (HR.out w6 (Below.refl _ _))
  have kf:=fun i=>(HR.out w6 (Below.refl _ _)).frozen i
  go_wp2_with fail
  obtain⟨wf,hwf⟩:∃yy:World,yy=(((w6.setCell ⟨gl+1,0,none⟩ (.int .i64 lc)).setCell ⟨gl+1,1,none⟩ (.slice (some ad) s.acts.length c)).setCell ⟨gl+1,2,none⟩ (.int .i64 a.to)).setCell ⟨gl+1,3,none⟩ (.slice B s.locals.length d):=⟨_,rfl⟩
  have hBf:Blk wf (gl+1) 82 #[(.int .i64 lc),(.slice (some ad) s.acts.length c),(.int .i64 a.to),(.slice B s.locals.length d)]:=by rw[hwf];exact((((HR.out w6 (Below.refl _ _)).set 0 _).set 1 _).set 2 _).set 3 _
  have hkf:∀k,k≠gl+1→wf.heap[k]?=w6.heap[k]?:=fun k hk=>by
   rw[hwf]
   iterate 4 rw[Below.heap_setCell _ _ _ _ (by exact hk)]
  have hbf:Below gl w wf:=by
   rw[hwf]
   have hq:=HZ.out w6 (Below.refl _ _)
   exact(((hq.setCell (p:=⟨gl+1,0,none⟩) (by simp) _).setCell (p:=⟨gl+1,1,none⟩) (by simp) _).setCell (p:=⟨gl+1,2,none⟩) (by simp) _).setCell (p:=⟨gl+1,3,none⟩) (by simp) _
  rw[←hwf]
  clear hwf
  obtain⟨e0,e1,e2,e3⟩:=Kit.cells4 hBf
  refine bodyPost_ret (v:=.agg #[(.int .i64 lc),(.slice (some ad) s.acts.length c),(.int .i64 a.to),(.slice B s.locals.length d)]) (by simp[results,Tryz.results81,go_sem,e0,e1,e2,e3]) rfl ?_
  refine⟨_,by rw[HL9.out],?_,by rw[HGL.out];exact hbf⟩
  rw[hs9]
  exact HS.out.locs.below (by rw[HGL.out];exact hbf)
 ·have q9:(a.op == 9)=false:=by simp[h9]
  have HO:=Lib.hid (HOf.out h9 wy hby)
  have hs0:value a.e s.locals=0→s.alone a=⟨s.acts,a.to.toNat,s.locals⟩:=fun hv=>by unfold RS.alone ownS;rw[if_neg h1,if_neg h9,if_pos (show value a.e s.m.locals=0 from hv)];rfl
  have hs2:value a.e s.locals≠0→s.alone a=⟨s.acts,s.at_+1,s.locals⟩:=fun hv=>by unfold RS.alone ownS;rw[if_neg h1,if_neg h9,if_neg (show ¬value a.e s.m.locals=0 from hv)];rfl
  have ka5:wy.cell? ⟨ga,5,none⟩=some (.slice E a.e.length ce):=hAY.cell 5
  have ks3:wy.cell? ⟨gl,3,none⟩=some (.slice B s.locals.length d):=hSY.cell 3
  generalize value a.e s.locals=v at *
  by_cases hv:v=0
  ·have hs9:=hs0 hv
   have HL9:=hal a.to hs9 (hT h1).1
   subst hv
   go_upto_region 6 with (go_at_call 127;refine HO.out.mono ?_;rintro e w5 ⟨rfl,hb5⟩)
   clear ks3 ka5
   have hS5:=hSY.below' hb5
   have hA5:=hAY.below' hb5
   obtain⟨ks0,ks1,ks2,ks3⟩:=Kit.cells4 hS5
   have ksf:=fun i=>hS5.frozen i
   have ka8:w5.cell? ⟨ga,8,none⟩=some (.int .i64 a.to):=hA5.cell 8
   go_upto_region 7 with fail
   obtain⟨w6,hw6⟩:∃yy:World,yy=w5.setCell ⟨gl,2,none⟩ (.int .i64 a.to):=⟨_,rfl⟩
   have hS6:Blk w6 gl 82 #[.int .i64 lc,.slice (some ad) s.acts.length c,.int .i64 a.to,.slice B s.locals.length d]:=by rw[hw6];exact hS5.set 2 _
   have hR6:Blk w6 (gl+1) 82 #[.int .i64 0,.slice none 0 0,.int .i64 0,.slice none 0 0]:=by rw[hw6];exact(HR.out w5 hb5).farN (by omega) _
   have hb6:Below gl w w6:=by rw[hw6];exact(HZ.out w5 hb5).setCell (p:=⟨gl,2,none⟩) (Nat.le_refl _) _
   rw[←hw6]
   clear hw6 ks0 ks1 ks2 ks3 ksf ka8
   obtain⟨ks0,ks1,ks2,ks3⟩:=Kit.cells4 hS6
   have HR:Hid (∀w2,Below w6.heap.size w6 w2→Blk w2 (gl+1) 82 #[.int .i64 0,.slice none 0 0,.int .i64 0,.slice none 0 0]):=Lib.hid fun w2 hb=>hR6.below' hb
   have HZ:Hid (∀w2,Below w6.heap.size w6 w2→Below gl w w2):=Lib.hid fun w2 hb=>hb6.trans (hb.mono (by have:=hR6.lt;omega))
   obtain⟨kz0,kz1,kz2,kz3⟩:=Kit.cells4 (HR.out w6 (Below.refl _ _))
   have kf:=fun i=>(HR.out w6 (Below.refl _ _)).frozen i
   go_wp2_with fail
   obtain⟨wf,hwf⟩:∃yy:World,yy=(((w6.setCell ⟨gl+1,0,none⟩ (.int .i64 lc)).setCell ⟨gl+1,1,none⟩ (.slice (some ad) s.acts.length c)).setCell ⟨gl+1,2,none⟩ (.int .i64 a.to)).setCell ⟨gl+1,3,none⟩ (.slice B s.locals.length d):=⟨_,rfl⟩
   have hBf:Blk wf (gl+1) 82 #[(.int .i64 lc),(.slice (some ad) s.acts.length c),(.int .i64 a.to),(.slice B s.locals.length d)]:=by rw[hwf];exact((((HR.out w6 (Below.refl _ _)).set 0 _).set 1 _).set 2 _).set 3 _
   have hkf:∀k,k≠gl+1→wf.heap[k]?=w6.heap[k]?:=fun k hk=>by
    rw[hwf]
    iterate 4 rw[Below.heap_setCell _ _ _ _ (by exact hk)]
   have hbf:Below gl w wf:=by
    rw[hwf]
    have hq:=HZ.out w6 (Below.refl _ _)
    exact(((hq.setCell (p:=⟨gl+1,0,none⟩) (by simp) _).setCell (p:=⟨gl+1,1,none⟩) (by simp) _).setCell (p:=⟨gl+1,2,none⟩) (by simp) _).setCell (p:=⟨gl+1,3,none⟩) (by simp) _
   rw[←hwf]
   clear hwf
   obtain⟨e0,e1,e2,e3⟩:=Kit.cells4 hBf
   refine bodyPost_ret (v:=.agg #[(.int .i64 lc),(.slice (some ad) s.acts.length c),(.int .i64 a.to),(.slice B s.locals.length d)]) (by simp[results,Tryz.results81,go_sem,e0,e1,e2,e3]) rfl ?_
   refine⟨_,by rw[HL9.out],?_,by rw[HGL.out];exact hbf⟩
   rw[hs9]
   exact HS.out.locs.below (by rw[HGL.out];exact hbf)
  ·have hs9:=hs2 hv
   have hvb:((v:Int) == 0)=false:=by simpa using hv
   go_upto_region 7 with (go_at_call 127;refine HO.out.mono ?_;rintro e w5 ⟨rfl,hb5⟩)
   clear ks3 ka5
   have hS5:=hSY.below' hb5
   have hR5:=hRY.below' hb5
   have hby5:=HZ.out w5 hb5
   obtain⟨ks0,ks1,ks2,ks3⟩:=Kit.cells4 hS5
   have HR:Hid (∀w2,Below w5.heap.size w5 w2→Blk w2 (gl+1) 82 #[.int .i64 0,.slice none 0 0,.int .i64 0,.slice none 0 0]):=Lib.hid fun w2 hb=>hR5.below' hb
   have HZ:Hid (∀w2,Below w5.heap.size w5 w2→Below gl w w2):=Lib.hid fun w2 hb=>hby5.trans (hb.mono (by have:=hR5.lt;omega))
   obtain⟨kz0,kz1,kz2,kz3⟩:=Kit.cells4 (HR.out w5 (Below.refl _ _))
   have kf:=fun i=>(HR.out w5 (Below.refl _ _)).frozen i
   go_wp2_with fail
   obtain⟨wf,hwf⟩:∃yy:World,yy=(((w5.setCell ⟨gl+1,0,none⟩ (.int .i64 lc)).setCell ⟨gl+1,1,none⟩ (.slice (some ad) s.acts.length c)).setCell ⟨gl+1,2,none⟩ (.int .i64 ((s.at_:Int)+1))).setCell ⟨gl+1,3,none⟩ (.slice B s.locals.length d):=⟨_,rfl⟩
   have hBf:Blk wf (gl+1) 82 #[(.int .i64 lc),(.slice (some ad) s.acts.length c),(.int .i64 ((s.at_:Int)+1)),(.slice B s.locals.length d)]:=by rw[hwf];exact((((HR.out w5 (Below.refl _ _)).set 0 _).set 1 _).set 2 _).set 3 _
   have hkf:∀k,k≠gl+1→wf.heap[k]?=w5.heap[k]?:=fun k hk=>by
    rw[hwf]
    iterate 4 rw[Below.heap_setCell _ _ _ _ (by exact hk)]
   have hbf:Below gl w wf:=by
    rw[hwf]
    have hq:=HZ.out w5 (Below.refl _ _)
    exact(((hq.setCell (p:=⟨gl+1,0,none⟩) (by simp) _).setCell (p:=⟨gl+1,1,none⟩) (by simp) _).setCell (p:=⟨gl+1,2,none⟩) (by simp) _).setCell (p:=⟨gl+1,3,none⟩) (by simp) _
   rw[←hwf]
   clear hwf
   obtain⟨e0,e1,e2,e3⟩:=Kit.cells4 hBf
   refine bodyPost_ret (v:=.agg #[(.int .i64 lc),(.slice (some ad) s.acts.length c),(.int .i64 ((s.at_:Int)+1)),(.slice B s.locals.length d)]) (by simp[results,Tryz.results81,go_sem,e0,e1,e2,e3]) rfl ?_
   refine⟨_,by rw[hs9];rfl,?_,by rw[HGL.out];exact hbf⟩
   rw[hs9]
   exact HS.out.locs.below (by rw[HGL.out];exact hbf)
theorem want_op {nc nl n:Nat} {a:SrcP.Act} (h:ActWell nc nl n a) (ho:ownB a=false):a.op=2∨a.op=3∨a.op=4∨a.op=5∨a.op=6∨a.op=7∨a.op=8:=by
 have hop:=h.parts.1
 unfold ownB at ho
 simp at ho
 omega
theorem done_dst {nc nl n:Nat} {a:SrcP.Act} (h:ActWell nc nl n a) (hop:a.op=2∨a.op=4∨a.op=5∨a.op=6):0≤a.dst∧a.dst<(nl:Int):=h.dst (by
 unfold hasDst
 rcases hop with h | h | h | h <;> rw[h] <;> rfl)
set_option maxRecDepth 100000 in
set_option maxHeartbeats 4000000 in
theorem Done_any {nc nl:Nat} (lc:Int) (A:Option Addr) (c:Nat) (vl:Value) (s:RS) (w:World) (h:StV nc nl w (.slice A s.acts.length c) vl s) (a:SrcP.Act) (ha:s.acts[s.at_]?=some a) (ho:ownB a=false) (v:Nat) (hv:v<M64) :
  Calls Tryz.prog 116 #[.agg (stC lc (.slice A s.acts.length c) s vl),.int .u64 (v:Int)] w fun r w'=>StRet lc (.slice A s.acts.length c) w (s.done a v) r w':=by
 obtain⟨ad,vi,ve,vf,hN⟩:=h.next ha
 have HN:=Lib.hid hN
 obtain⟨rfl,hC,hAV,hlt,hwell⟩:=hN
 obtain⟨B,d,rfl,_⟩:=h.u64
 have HS:=Lib.hid h
 have HW:=Lib.hid hwell
 have HAV:=Lib.hid hAV
 have HLEN:Hid (s.locals.length=nl):=Lib.hid h.ok.len
 have a1:(s.at_:Int)<(s.acts.length:Int):=by omega
 have a2:(0:Int)≤(s.at_:Int):=by omega
 have hatl:s.acts.length≤65536:=h.ok.alen
 obtain⟨E,ce,rfl,_⟩:=HAV.out.e
 obtain⟨F,cf,rfl,_⟩:=HAV.out.f
 obtain⟨I,ci,rfl,_⟩:=HAV.out.index
 clear hwell hAV
 have hop:=want_op HW.out ho
 have HSet:Hid (∀w2,Below w.heap.size w w2→a.op=2∨a.op=4∨a.op=5∨a.op=6→Calls Tryz.prog 128 #[.agg (stC lc (.slice (some ad) s.acts.length c) s (.slice B s.locals.length d)),.int .i64 a.dst,.int .u64 (v:Int)] w2 fun r w'=>∃g cap,r=.returned (.agg (stC lc (.slice (some ad) s.acts.length c) ⟨s.acts,s.at_+1,s.locals.set a.dst.toNat v⟩ (.slice (some ⟨g,0,none⟩) s.locals.length cap)))∧U64O w' (.slice (some ⟨g,0,none⟩) s.locals.length cap) (s.locals.set a.dst.toNat v)∧w2.heap.size≤g∧Below w2.heap.size w2 w') :=
  Lib.hid fun w2 hb hq=>by
   have hd:=done_dst HW.out hq
   have:=set_any lc (.slice (some ad) s.acts.length c) B d s w2 (HS.out.below hb) a.dst.toNat v (by have:=HLEN.out;omega) hv (by omega)
   rwa [show((a.dst.toNat:Nat):Int)=a.dst by omega]at this
 unfold stC
 unfold stC at HSet
 go_enter Tryz.func116,Tryz.ntmps116
 go_upto_region 1 with fail
 obtain⟨w1,hw1⟩:∃yy:World,yy=(w.alloc (.cells #[.int .i64 lc,.slice (some ad) s.acts.length c,.int .i64 s.at_,.slice B s.locals.length d] 82)).alloc (.cells #[.int .i64 0,.slice none 0 0,.int .i64 0,.slice none 0 0] 82):=⟨_,rfl⟩
 have hb1:Below w.heap.size w w1:=by rw[hw1];exact Kit.bl2
 have hS1:Blk w1 w.heap.size 82 #[.int .i64 lc,.slice (some ad) s.acts.length c,.int .i64 s.at_,.slice B s.locals.length d]:=by rw[hw1];exact(Blk.new _ _ _).alloc _
 have hR1:Blk w1 (w.heap.size+1) 82 #[.int .i64 0,.slice none 0 0,.int .i64 0,.slice none 0 0]:=by rw[hw1];exact Blk.newAt (sizeA _ _) _ _
 have hz1:w1.heap.size=w.heap.size+1+1:=by rw[hw1,sizeA,sizeA]
 rw[←hw1]
 clear hw1
 have hC1:=hC.below hb1
 have k1:w1.cell? ⟨w.heap.size,1,none⟩=some (.slice (some ad) s.acts.length c):=hS1.cell 1
 have k2:w1.cell? ⟨w.heap.size,2,none⟩=some (.int .i64 s.at_):=hS1.cell 2
 have r0:w1.cell? (ad.add (s.at_*11))=some (.int .i64 a.op):=hC1 0 _ rfl
 have r1:w1.cell? ⟨(ad.add (s.at_*11)).block,(ad.add (s.at_*11)).off+1,none⟩=some (.int .i64 a.dst):=hC1 1 _ rfl
 have r2:w1.cell? ⟨(ad.add (s.at_*11)).block,(ad.add (s.at_*11)).off+2,none⟩=some (.int .i64 a.base):=hC1 2 _ rfl
 have r3:w1.cell? ⟨(ad.add (s.at_*11)).block,(ad.add (s.at_*11)).off+3,none⟩=some (.int .i64 a.size):=hC1 3 _ rfl
 have r4:w1.cell? ⟨(ad.add (s.at_*11)).block,(ad.add (s.at_*11)).off+4,none⟩=some (.slice I a.index.length ci):=hC1 4 _ rfl
 have r5:w1.cell? ⟨(ad.add (s.at_*11)).block,(ad.add (s.at_*11)).off+5,none⟩=some (.slice E a.e.length ce):=hC1 5 _ rfl
 have r6:w1.cell? ⟨(ad.add (s.at_*11)).block,(ad.add (s.at_*11)).off+6,none⟩=some (.slice F a.f.length cf):=hC1 6 _ rfl
 have r7:w1.cell? ⟨(ad.add (s.at_*11)).block,(ad.add (s.at_*11)).off+7,none⟩=some (.int .i64 a.mode):=hC1 7 _ rfl
 have r8:w1.cell? ⟨(ad.add (s.at_*11)).block,(ad.add (s.at_*11)).off+8,none⟩=some (.int .i64 a.to):=hC1 8 _ rfl
 have r9:w1.cell? ⟨(ad.add (s.at_*11)).block,(ad.add (s.at_*11)).off+9,none⟩=some (.int .i64 a.line):=hC1 9 _ rfl
 have r10:w1.cell? ⟨(ad.add (s.at_*11)).block,(ad.add (s.at_*11)).off+10,none⟩=some (.int .i64 a.col):=hC1 10 _ rfl
 clear hC hC1
 go_upto_region 2 with fail
 obtain⟨wx,hwx⟩:∃yy:World,yy=w1.alloc (.cells #[.int .i64 a.op,.int .i64 a.dst,.int .i64 a.base,.int .i64 a.size,.slice I a.index.length ci,.slice E a.e.length ce,.slice F a.f.length cf,.int .i64 a.mode,.int .i64 a.to,.int .i64 a.line,.int .i64 a.col] 58):=⟨_,rfl⟩
 have hbx:Below w.heap.size w wx:=by rw[hwx];exact Kit.Below.al hb1 _
 have hSX:Blk wx w.heap.size 82 #[.int .i64 lc,.slice (some ad) s.acts.length c,.int .i64 s.at_,.slice B s.locals.length d]:=by rw[hwx];exact hS1.alloc _
 have hRX:Blk wx (w.heap.size+1) 82 #[.int .i64 0,.slice none 0 0,.int .i64 0,.slice none 0 0]:=by rw[hwx];exact hR1.alloc _
 have hAX:Blk wx (w.heap.size+1+1) 58 #[.int .i64 a.op,.int .i64 a.dst,.int .i64 a.base,.int .i64 a.size,.slice I a.index.length ci,.slice E a.e.length ce,.slice F a.f.length cf,.int .i64 a.mode,.int .i64 a.to,.int .i64 a.line,.int .i64 a.col]:=by rw[hwx];exact Blk.newAt hz1 _ _
 rw[hz1]at *
 rw[←hwx]
 clear hwx hS1 hR1 hz1 hb1 k1 k2 r0 r1 r2 r3 r4 r5 r6 r7 r8 r9 r10
 have hlt3:=hAX.lt
 generalize hgl:w.heap.size=gl at *
 have HGL:=Lib.hid hgl
 clear hgl
 generalize hga:gl+1+1=ga at *
 have HGA:=Lib.hid hga
 clear hga
 have n0:wx.cell? ⟨ga,0,none⟩=some (.int .i64 a.op):=hAX.cell 0
 have HZ:Hid (∀w2,Below wx.heap.size wx w2→Below gl w w2):=Lib.hid fun w2 hb=>hbx.trans (hb.mono (Nat.le_of_lt hSX.lt))
 have HR:Hid (∀w2,Below wx.heap.size wx w2→Blk w2 (gl+1) 82 #[.int .i64 0,.slice none 0 0,.int .i64 0,.slice none 0 0]):=Lib.hid fun w2 hb=>hRX.below' hb
 obtain⟨ks0,ks1,ks2,ks3⟩:=Kit.cells4 hSX
 by_cases h3:a.op=3∨a.op=7∨a.op=8
 ·have hs1:s.done a v=⟨s.acts,s.at_+1,s.locals⟩:=by unfold RS.done;rw[if_pos h3]
  have kf0:=fun i=>hSX.frozen i
  rcases h3 with h3 | h3 | h3
  all_goals
   rw[h3]at n0
   go_upto_region 4 with fail
   obtain⟨w6,hw6⟩:∃y,y=wx.setCell ⟨gl,2,none⟩ (.int .i64 ((s.at_:Int)+1)):=⟨_,rfl⟩
   have hS6:Blk w6 gl 82 #[.int .i64 lc,.slice (some ad) s.acts.length c,.int .i64 ((s.at_:Int)+1),.slice B s.locals.length d]:=by rw[hw6];exact hSX.set 2 _
   have hR6:Blk w6 (gl+1) 82 #[.int .i64 0,.slice none 0 0,.int .i64 0,.slice none 0 0]:=by rw[hw6];exact hRX.farN (by omega) _
   have hb6:Below gl w w6:=by rw[hw6];exact hbx.setCell (p:=⟨gl,2,none⟩) (Nat.le_refl _) _
   rw[←hw6]
   clear hw6 ks0 ks1 ks2 ks3 kf0
   obtain⟨ks0,ks1,ks2,ks3⟩:=Kit.cells4 hS6
   have HR:Hid (∀w2,Below w6.heap.size w6 w2→Blk w2 (gl+1) 82 #[.int .i64 0,.slice none 0 0,.int .i64 0,.slice none 0 0]):=Lib.hid fun w2 hb=>hR6.below' hb
   have HZ:Hid (∀w2,Below w6.heap.size w6 w2→Below gl w w2):=Lib.hid fun w2 hb=>hb6.trans (hb.mono (by have:=hR6.lt;omega))
   obtain⟨kz0,kz1,kz2,kz3⟩:=Kit.cells4 (HR.out w6 (Below.refl _ _))
   have kf:=fun i=>(HR.out w6 (Below.refl _ _)).frozen i
   go_wp2_with fail
   obtain⟨wf,hwf⟩:∃yy:World,yy=(((w6.setCell ⟨gl+1,0,none⟩ (.int .i64 lc)).setCell ⟨gl+1,1,none⟩ (.slice (some ad) s.acts.length c)).setCell ⟨gl+1,2,none⟩ (.int .i64 ((s.at_:Int)+1))).setCell ⟨gl+1,3,none⟩ (.slice B s.locals.length d):=⟨_,rfl⟩
   have hBf:Blk wf (gl+1) 82 #[(.int .i64 lc),(.slice (some ad) s.acts.length c),(.int .i64 ((s.at_:Int)+1)),(.slice B s.locals.length d)]:=by rw[hwf];exact((((HR.out w6 (Below.refl _ _)).set 0 _).set 1 _).set 2 _).set 3 _
   have hkf:∀k,k≠gl+1→wf.heap[k]?=w6.heap[k]?:=fun k hk=>by
    rw[hwf]
    iterate 4 rw[Below.heap_setCell _ _ _ _ (by exact hk)]
   have hbf:Below gl w wf:=by
    rw[hwf]
    have hq:=HZ.out w6 (Below.refl _ _)
    exact(((hq.setCell (p:=⟨gl+1,0,none⟩) (by simp) _).setCell (p:=⟨gl+1,1,none⟩) (by simp) _).setCell (p:=⟨gl+1,2,none⟩) (by simp) _).setCell (p:=⟨gl+1,3,none⟩) (by simp) _
   rw[←hwf]
   clear hwf
   obtain⟨e0,e1,e2,e3⟩:=Kit.cells4 hBf
   refine bodyPost_ret (v:=.agg #[(.int .i64 lc),(.slice (some ad) s.acts.length c),(.int .i64 ((s.at_:Int)+1)),(.slice B s.locals.length d)]) (by simp[results,Tryz.results116,go_sem,e0,e1,e2,e3]) rfl ?_
   refine⟨_,rfl,?_,by rw[HGL.out];exact hbf⟩
   exact HS.out.locs.below (by rw[HGL.out];exact hbf)
 ·have h4:a.op=2∨a.op=4∨a.op=5∨a.op=6:=by omega
  have hs1:s.done a v=⟨s.acts,s.at_+1,s.locals.set a.dst.toNat v⟩:=by unfold RS.done;rw[if_neg h3]
  have q3:(a.op == 3)=false:=by simp;omega
  have q7:(a.op == 7)=false:=by simp;omega
  have q8:(a.op == 8)=false:=by simp;omega
  have ka1:wx.cell? ⟨ga,1,none⟩=some (.int .i64 a.dst):=hAX.cell 1
  have HS8:=Lib.hid (HSet.out wx hbx h4)
  go_wp2_with (go_at_call 128;refine HS8.out.mono ?_;rintro e w9 ⟨g,cap,rfl,hU9,hg9,hb9⟩;obtain⟨kz0,kz1,kz2,kz3⟩:=Kit.cells4 (HR.out w9 hb9);have kf:=fun i=>(HR.out w9 hb9).frozen i)
  have hgx:gl+1<wx.heap.size:=hRX.lt
  obtain⟨wf,hwf⟩:∃yy:World,yy=(((w9.setCell ⟨gl+1,0,none⟩ (.int .i64 lc)).setCell ⟨gl+1,1,none⟩ (.slice (some ad) s.acts.length c)).setCell ⟨gl+1,2,none⟩ (.int .i64 ((s.at_:Int)+1))).setCell ⟨gl+1,3,none⟩ (.slice (some ⟨g,0,none⟩) s.locals.length cap):=⟨_,rfl⟩
  have hBf:Blk wf (gl+1) 82 #[(.int .i64 lc),(.slice (some ad) s.acts.length c),(.int .i64 ((s.at_:Int)+1)),(.slice (some ⟨g,0,none⟩) s.locals.length cap)]:=by rw[hwf];exact((((HR.out w9 hb9).set 0 _).set 1 _).set 2 _).set 3 _
  have hkf:∀k,k≠gl+1→wf.heap[k]?=w9.heap[k]?:=fun k hk=>by
   rw[hwf]
   iterate 4 rw[Below.heap_setCell _ _ _ _ (by exact hk)]
  have hbf:Below gl w wf:=by
   rw[hwf]
   have hq:=HZ.out w9 hb9
   exact(((hq.setCell (p:=⟨gl+1,0,none⟩) (by simp) _).setCell (p:=⟨gl+1,1,none⟩) (by simp) _).setCell (p:=⟨gl+1,2,none⟩) (by simp) _).setCell (p:=⟨gl+1,3,none⟩) (by simp) _
  rw[←hwf]
  clear hwf
  obtain⟨e0,e1,e2,e3⟩:=Kit.cells4 hBf
  refine bodyPost_ret (v:=.agg #[(.int .i64 lc),(.slice (some ad) s.acts.length c),(.int .i64 ((s.at_:Int)+1)),(.slice (some ⟨g,0,none⟩) s.locals.length cap)]) (by simp[results,Tryz.results116,go_sem,e0,e1,e2,e3]) rfl ?_
  rw[hs1]
  exact⟨_,rfl,U64O.kept hU9 (HR.out w9 hb9) (by decide) hkf,by rw[HGL.out];exact hbf⟩
end Go.Proofs.YtmjilfamjlnigaaGreat.RefW
