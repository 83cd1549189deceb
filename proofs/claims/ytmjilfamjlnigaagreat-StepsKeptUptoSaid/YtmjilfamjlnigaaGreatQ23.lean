/- WALKS: what a thread of the source wants, the document's own way (chapter 19). -/
import Derived.Test.YtmjilfamjlnigaaGreatQ22
import Derived.Test.YtmjilfamjlnigaaGreatQ21
namespace Go.Proofs.YtmjilfamjlnigaaGreat.RefW
open Go Go.RowKit Kit SrcP SrcW MchW
theorem MchW.rs {nc nl:Nat} {m:Mch} (h:SrcP.MchW nc nl m):SrcP.MchW nc nl (RS.of m).m:=⟨h.hnl,h.len,h.lt,h.at_,h.alen,h.acts,by show 0<M64;decide,by show 0<M64;decide,fun hh=>by cases hh⟩
theorem alone_w {nc nl:Nat} {s:RS} (h:SrcP.MchW nc nl s.m) {a:SrcP.Act} (ha:s.acts[s.at_]?=some a) (ho:ownB a=true):SrcP.MchW nc nl (s.alone a).m:=MchW.rs (ownS_w h ha ho)
theorem alone_acts (s:RS) (a:SrcP.Act):(s.alone a).acts=s.acts:=by
 unfold RS.alone ownS
 split
 ·rfl
 ·split
  ·rfl
  ·split <;> rfl
theorem blk_set4 {w:World} {g:Nat} {t:TypeId} {c0 c1 c2 c3:Value} (h:Blk w g t #[c0,c1,c2,c3]) (u0 u1 u2 u3:Value) :
  Blk ((((w.setCell ⟨g,0,none⟩ u0).setCell ⟨g,1,none⟩ u1).setCell ⟨g,2,none⟩ u2).setCell ⟨g,3,none⟩ u3) g t #[u0,u1,u2,u3]:=by
 have:=(((h.set 0 u0).set 1 u1).set 2 u2).set 3 u3
 simpa using this
theorem keep_set4 {w:World} {g k:Nat} (hk:k≠g) (u0 u1 u2 u3:Value) :
  ((((w.setCell ⟨g,0,none⟩ u0).setCell ⟨g,1,none⟩ u1).setCell ⟨g,2,none⟩ u2).setCell ⟨g,3,none⟩ u3).heap[k]?=w.heap[k]?:=by
 iterate 4 rw[Below.heap_setCell _ _ _ _ (by exact hk)]
theorem keep_set6 {w:World} {g k:Nat} (hk:k≠g) (u0 u1 u2 u3 u4 u5:Value) :
  ((((((w.setCell ⟨g,0,none⟩ u0).setCell ⟨g,1,none⟩ u1).setCell ⟨g,2,none⟩ u2).setCell ⟨g,3,none⟩ u3).setCell ⟨g,4,none⟩ u4).setCell ⟨g,5,none⟩ u5).heap[k]?=w.heap[k]?:=by
 iterate 6 rw[Below.heap_setCell _ _ _ _ (by exact hk)]
theorem below_set4 {w w1:World} {B g:Nat} (h:Below B w w1) (hg:B≤g) (u0 u1 u2 u3:Value):Below B w ((((w1.setCell ⟨g,0,none⟩ u0).setCell ⟨g,1,none⟩ u1).setCell ⟨g,2,none⟩ u2).setCell ⟨g,3,none⟩ u3) :=
 (((h.setCell (p:=⟨g,0,none⟩) hg u0).setCell (p:=⟨g,1,none⟩) hg u1).setCell (p:=⟨g,2,none⟩) hg u2).setCell (p:=⟨g,3,none⟩) hg u3
theorem below_setB6 {w w1:World} {B g:Nat} (h:Below B w w1) (hg:B≤g) (u0 u1 u2 u3 u4 u5:Value):Below B w ((((((w1.setCell ⟨g,0,none⟩ u0).setCell ⟨g,1,none⟩ u1).setCell ⟨g,2,none⟩ u2).setCell ⟨g,3,none⟩ u3).setCell ⟨g,4,none⟩ u4).setCell ⟨g,5,none⟩ u5) :=
 ((below_set4 h hg u0 u1 u2 u3).setCell (p:=⟨g,4,none⟩) hg u4).setCell (p:=⟨g,5,none⟩) hg u5
theorem U64O.mk_ {w:World} {v:Value} {l:List Nat} (h:U64O w v l):∃A c,v=.slice A l.length c∧l.length≤c:=OwnR.own_slice h
def AskRel (nc nl:Nat) (lc:Int) (va:Value) (w:World) (s:RS) (mm:Nat) (s4:Value) (wr:World):Prop :=
 ∃(k:Nat) (sk:RS) (vlk:Value),s4=.int .i64 k∧k≤100000∧mm=100000-k∧askedL (100000-k) sk=s.asked∧sk.acts=s.acts∧U64O wr vlk sk.locals∧SrcP.MchW nc nl sk.m ∧
  Blk wr w.heap.size 82 (stC lc va sk vlk)∧Blk wr (w.heap.size+1) 82 #[.int .i64 0,.slice none 0 0,.int .i64 0,.slice none 0 0]∧Blk wr (w.heap.size+1+1) 100 #[.int .i64 0,.int .i64 0,.int .i64 0,.int .u64 0,.bool false,.bool false]∧Below w.heap.size w wr
set_option maxRecDepth 100000 in
set_option maxHeartbeats 8000000 in
theorem asked_any {nc nl:Nat} (hnc:nc≤4096) (lc:Int) (A:Option Addr) (c:Nat) (vl:Value) (s:RS) (w:World) (h:StV nc nl w (.slice A s.acts.length c) vl s) :
  Calls Tryz.prog 53 #[.agg (stC lc (.slice A s.acts.length c) s vl)] w fun r w'=>∃vl',r=.returned (.tuple #[.agg (stC lc (.slice A s.acts.length c) s.asked.1 vl'),.agg (wantC s.asked.2)])∧U64O w' vl' s.asked.1.locals∧SrcP.MchW nc nl s.asked.1.m∧s.asked.1.acts=s.acts∧Below w.heap.size w w':=by
 have HS:=Lib.hid h
 obtain⟨B,d,rfl,_⟩:=h.u64
 go_enter Tryz.func53,Tryz.ntmps53
 unfold stC
 go_upto_region 2 with fail
 go_loopg [4] 100000 (fun m s4 wr=>AskRel nc nl lc (.slice A s.acts.length c) w s m s4 wr)
 case atStart =>
  refine⟨0,s,.slice B s.locals.length d,rfl,Nat.zero_le _,rfl,rfl,rfl,?_,HS.out.ok,?_,?_,?_,?_⟩
  ·exact HS.out.locs.below (Kit.Below.al (Kit.bl2) _)
  ·exact((Blk.new _ _ _).alloc _).alloc _
  ·exact(Blk.newAt (sizeA _ _) _ _).alloc _
  ·exact Blk.newAt (by rw[sizeA,sizeA]) _ _
  ·exact Kit.Below.al (Kit.bl2) _
 case round =>
  obtain⟨k,⟨acts,kat,kl⟩,vlk,rfl,hk,hm,hask,hacts,hU,hW,hG,hR1,hR2,hb⟩:=hrel
  simp only at hacts hU hG
  subst hacts
  have hU0:=Lib.hid hU
  obtain⟨Bk,dk,rfl,_⟩:=U64O.mk_ hU
  have hSt:StV nc nl wr (.slice A s.acts.length c) (.slice Bk kl.length dk) ⟨s.acts,kat,kl⟩:=⟨HS.out.acts.below hb,hU0.out,hW⟩
  have HST:=Lib.hid hSt
  have HASK:=Lib.hid hask
  have HW:=Lib.hid hW
  have HM:=Lib.hid hm
  clear hSt hask hW hm
  generalize hgl:w.heap.size=gl at *
  have HGL:=Lib.hid hgl
  clear hgl
  have hlt2:=hR2.lt
  generalize hg1:gl+1=g1 at *
  generalize hg2:g1+1=g2 at *
  unfold stC at hG
  simp only at hG
  have HZ:Hid (∀w2,Below wr.heap.size wr w2→Below gl w w2):=Lib.hid fun w2 h2=>hb.trans (h2.mono (by omega))
  have HR1:Hid (∀w2,Below wr.heap.size wr w2→Blk w2 g1 82 #[.int .i64 0,.slice none 0 0,.int .i64 0,.slice none 0 0]):=Lib.hid fun w2 h2=>hR1.below' h2
  have HR2:Hid (∀w2,Below wr.heap.size wr w2→Blk w2 g2 100 #[.int .i64 0,.int .i64 0,.int .i64 0,.int .u64 0,.bool false,.bool false]):=Lib.hid fun w2 h2=>hR2.below' h2
  obtain⟨n0,n1,n2,n3⟩:=Kit.cells4 hG
  cases ha:s.acts[kat]? with
  | none =>
   have hge:s.acts.length≤kat:=by rw[List.getElem?_eq_none_iff]at ha;exact ha
   have r1:¬((kat:Int)<(s.acts.length:Int)):=by omega
   have HASK:Hid ((⟨s.acts,kat,kl⟩,⟨5,0,0,0,false,false⟩)=s.asked):=Lib.hid (by
    rw[←HASK.out]
    cases 100000-k <;> simp[askedL,ha])
   clear ha
   obtain⟨kz0,kz1,kz2,kz3⟩:=Kit.cells4 (HR1.out wr (Below.refl _ _))
   have kzf:=fun i=>(HR1.out wr (Below.refl _ _)).frozen i
   obtain⟨ky0,ky1,ky2,ky3,ky4,ky5⟩:=Kit.cells6 (HR2.out wr (Below.refl _ _))
   have kyf:=fun i=>(HR2.out wr (Below.refl _ _)).frozen i
   go_wp2_with fail
   obtain⟨wf,hwf⟩:∃yy:World,yy=((((((((((wr.setCell ⟨g1,0,none⟩ (.int .i64 lc)).setCell ⟨g1,1,none⟩ (.slice A s.acts.length c)).setCell ⟨g1,2,none⟩ (.int .i64 kat)).setCell ⟨g1,3,none⟩ (.slice Bk kl.length dk)).setCell ⟨g2,0,none⟩ (.int .i64 5)).setCell ⟨g2,1,none⟩ (.int .i64 0)).setCell ⟨g2,2,none⟩ (.int .i64 0)).setCell ⟨g2,3,none⟩ (.int .u64 0)).setCell ⟨g2,4,none⟩ (.bool false)).setCell ⟨g2,5,none⟩ (.bool false)):=⟨_,rfl⟩
   have hh1:=HR1.out wr (Below.refl _ _)
   have hh2:=HR2.out wr (Below.refl _ _)
   have hne:g1≠g2:=by omega
   have hf1:Blk wf g1 82 #[.int .i64 lc,.slice A s.acts.length c,.int .i64 kat,.slice Bk kl.length dk]:=by
    rw[hwf]
    unfold Blk
    rw[keep_set6 hne]
    exact blk_set4 hh1 _ _ _ _
   have hf2:Blk wf g2 100 #[(.int .i64 5),(.int .i64 0),(.int .i64 0),(.int .u64 0),(.bool false),(.bool false)]:=by
    rw[hwf]
    refine blk_set6 (w:=(((wr.setCell ⟨g1,0,none⟩ (.int .i64 lc)).setCell ⟨g1,1,none⟩ (.slice A s.acts.length c)).setCell ⟨g1,2,none⟩ (.int .i64 kat)).setCell ⟨g1,3,none⟩ (.slice Bk kl.length dk)) (c0:=.int .i64 0) (c1:=.int .i64 0) (c2:=.int .i64 0) (c3:=.int .u64 0) (c4:=.bool false) (c5:=.bool false) ?_ _ _ _ _ _ _
    unfold Blk
    rw[keep_set4 hne.symm]
    exact hh2
   have hbf:Below gl w wf:=by
    rw[hwf]
    exact below_setB6 (below_set4 (HZ.out wr (Below.refl _ _)) (by omega) _ _ _ _) (by omega) _ _ _ _ _ _
   have hkf:∀k,k≠g1→k≠g2→wf.heap[k]?=wr.heap[k]?:=fun k hk1 hk2=>by
    rw[hwf,keep_set6 hk2,keep_set4 hk1]
   rw[←hwf]
   clear hwf
   obtain⟨e0,e1,e2,e3⟩:=Kit.cells4 hf1
   obtain⟨d0,d1,d2,d3,d4,d5⟩:=Kit.cells6 hf2
   refine bodyPost_ret (v:=.tuple #[.agg #[.int .i64 lc,.slice A s.acts.length c,.int .i64 kat,.slice Bk kl.length dk],.agg #[(.int .i64 5),(.int .i64 0),(.int .i64 0),(.int .u64 0),(.bool false),(.bool false)]]) (by simp[results,Tryz.results53,go_sem,e0,e1,e2,e3,d0,d1,d2,d3,d4,d5]) rfl ?_
   rw[←HASK.out]
   exact⟨.slice Bk kl.length dk,rfl,OwnR.own_stays hU0.out (fun q hq=>hkf q (fun e=>OwnR.own_type hU0.out hh1 (by decide) (by rw[hq,e])) (fun e=>OwnR.own_type hU0.out hh2 (by decide) (by rw[hq,e]))),HW.out,rfl,by rw[HGL.out];exact hbf⟩
  | some a =>
   have hlt:=(List.getElem?_eq_some_iff.1 ha).1
   have r1:(kat:Int)<(s.acts.length:Int):=by omega
   have HA:=Lib.hid ha
   have HOwn:=Lib.hid (Own_any lc A c (.slice Bk kl.length dk) ⟨s.acts,kat,kl⟩ wr HST.out a ha)
   unfold stC at HOwn
   simp only at HOwn
   cases hob:ownB a with
   | false =>
    have HASK:Hid ((⟨s.acts,kat,kl⟩,RS.wants ⟨s.acts,kat,kl⟩ a)=s.asked):=Lib.hid (by
     rw[←HASK.out]
     cases 100000-k <;> simp[askedL,ha,hob])
    have HWn:Hid (∀w2,Below wr.heap.size wr w2→Calls Tryz.prog 80 #[.agg #[.int .i64 lc,.slice A s.acts.length c,.int .i64 kat,.slice Bk kl.length dk]] w2 fun r w'=>r=.returned (.agg (wantC (RS.wants ⟨s.acts,kat,kl⟩ a)))∧Below w2.heap.size w2 w'):=Lib.hid fun w2 h2 =>
     Wants_any hnc lc A c (.slice Bk kl.length dk) ⟨s.acts,kat,kl⟩ w2 (HST.out.below h2) a ha hob
    rw[hob]at HOwn
    clear ha hob
    generalize RS.wants ⟨s.acts,kat,kl⟩ a=x at *
    unfold wantC at HWn
    go_upto_region 5 with (go_at_call 79;refine HOwn.out.mono ?_;rintro e w2 ⟨rfl,hb2⟩)
    have hG2:=hG.below' hb2
    clear n0 n1 n2 n3 HOwn
    obtain⟨ks0,ks1,ks2,ks3⟩:=Kit.cellsA4 fun p:Cls (Below w2.heap.size w2)=>(hG2.below' p.h)
    have HC:∀p:Cls (Below w2.heap.size w2),Hid (Calls Tryz.prog 80 #[.agg #[.int .i64 lc,.slice A s.acts.length c,.int .i64 kat,.slice Bk kl.length dk]] p.w fun r w'=>r=.returned (.agg #[.int .i64 x.what,.int .i64 x.loc,.int .i64 x.mode,.int .u64 (x.val:Int),.bool x.ex,.bool x.one])∧∃q:Cls (Below w2.heap.size w2),w'=q.w):=fun p =>
     Lib.hid (Calls.cls ((HWn.out p.w (Kit.Below.then hb2 p.h)).mono fun e w' h=>⟨h.1,Kit.Below.then p.h h.2⟩))
    refine wp_region_cls_tail (Below w2.heap.size w2) 3 (Below_drewN _ 1) (by kernel_rfl) (by kernel_rfl) ?_
    intro hne
    simp only[List.take_succ_cons,List.take_zero,List.drop_succ_cons,List.drop_zero]
    repeat (go_big_quiet_step ((go_at_call 80;exact(HC _).out)))
    refine wpQuiet_nil ?_
    intro w8 h8
    clear hne
    clear ks0 ks1 ks2 ks3 HC
    have h28:=Kit.Below.then hb2 h8
    obtain⟨kz0,kz1,kz2,kz3⟩:=Kit.cells4 (HR1.out w8 h28)
    have kzf:=fun i=>(HR1.out w8 h28).frozen i
    obtain⟨ky0,ky1,ky2,ky3,ky4,ky5⟩:=Kit.cells6 (HR2.out w8 h28)
    have kyf:=fun i=>(HR2.out w8 h28).frozen i
    go_wp2_with fail
    obtain⟨wf,hwf⟩:∃yy:World,yy=((((((((((w8.setCell ⟨g1,0,none⟩ (.int .i64 lc)).setCell ⟨g1,1,none⟩ (.slice A s.acts.length c)).setCell ⟨g1,2,none⟩ (.int .i64 kat)).setCell ⟨g1,3,none⟩ (.slice Bk kl.length dk)).setCell ⟨g2,0,none⟩ (.int .i64 x.what)).setCell ⟨g2,1,none⟩ (.int .i64 x.loc)).setCell ⟨g2,2,none⟩ (.int .i64 x.mode)).setCell ⟨g2,3,none⟩ (.int .u64 (x.val:Int))).setCell ⟨g2,4,none⟩ (.bool x.ex)).setCell ⟨g2,5,none⟩ (.bool x.one)):=⟨_,rfl⟩
    have hh1:=HR1.out w8 h28
    have hh2:=HR2.out w8 h28
    have hne:g1≠g2:=by omega
    have hf1:Blk wf g1 82 #[.int .i64 lc,.slice A s.acts.length c,.int .i64 kat,.slice Bk kl.length dk]:=by
     rw[hwf]
     unfold Blk
     rw[keep_set6 hne]
     exact blk_set4 hh1 _ _ _ _
    have hf2:Blk wf g2 100 #[(.int .i64 x.what),(.int .i64 x.loc),(.int .i64 x.mode),(.int .u64 (x.val:Int)),(.bool x.ex),(.bool x.one)]:=by
     rw[hwf]
     refine blk_set6 (w:=(((w8.setCell ⟨g1,0,none⟩ (.int .i64 lc)).setCell ⟨g1,1,none⟩ (.slice A s.acts.length c)).setCell ⟨g1,2,none⟩ (.int .i64 kat)).setCell ⟨g1,3,none⟩ (.slice Bk kl.length dk)) (c0:=.int .i64 0) (c1:=.int .i64 0) (c2:=.int .i64 0) (c3:=.int .u64 0) (c4:=.bool false) (c5:=.bool false) ?_ _ _ _ _ _ _
     unfold Blk
     rw[keep_set4 hne.symm]
     exact hh2
    have hbf:Below gl w wf:=by
     rw[hwf]
     exact below_setB6 (below_set4 (HZ.out w8 h28) (by omega) _ _ _ _) (by omega) _ _ _ _ _ _
    have hkf:∀k,k≠g1→k≠g2→wf.heap[k]?=w8.heap[k]?:=fun k hk1 hk2=>by
     rw[hwf,keep_set6 hk2,keep_set4 hk1]
    rw[←hwf]
    clear hwf
    obtain⟨e0,e1,e2,e3⟩:=Kit.cells4 hf1
    obtain⟨d0,d1,d2,d3,d4,d5⟩:=Kit.cells6 hf2
    refine bodyPost_ret (v:=.tuple #[.agg #[.int .i64 lc,.slice A s.acts.length c,.int .i64 kat,.slice Bk kl.length dk],.agg #[(.int .i64 x.what),(.int .i64 x.loc),(.int .i64 x.mode),(.int .u64 (x.val:Int)),(.bool x.ex),(.bool x.one)]]) (by simp[results,Tryz.results53,go_sem,e0,e1,e2,e3,d0,d1,d2,d3,d4,d5]) rfl ?_
    rw[←HASK.out]
    exact⟨.slice Bk kl.length dk,rfl,OwnR.own_stays (hU0.out.below h28) (fun q hq=>hkf q (fun e=>OwnR.own_type (hU0.out.below h28) hh1 (by decide) (by rw[hq,e])) (fun e=>OwnR.own_type (hU0.out.below h28) hh2 (by decide) (by rw[hq,e]))),HW.out,rfl,by rw[HGL.out];exact hbf⟩
   | true =>
    rw[hob]at HOwn
    by_cases hke:k=100000
    ·subst hke
     have HASK:Hid ((⟨s.acts,kat,kl⟩,⟨6,0,0,0,false,false⟩)=s.asked):=Lib.hid (by
      rw[←HASK.out]
      simp[askedL,ha,hob])
     clear ha hob
     go_upto_region 6 with (go_at_call 79;refine HOwn.out.mono ?_;rintro e w2 ⟨rfl,hb2⟩)
     have hG2:=hG.below' hb2
     clear n0 n1 n2 n3 HOwn
     obtain⟨n0,n1,n2,n3⟩:=Kit.cells4 hG2
     obtain⟨kz0,kz1,kz2,kz3⟩:=Kit.cells4 (HR1.out w2 hb2)
     have kzf:=fun i=>(HR1.out w2 hb2).frozen i
     obtain⟨ky0,ky1,ky2,ky3,ky4,ky5⟩:=Kit.cells6 (HR2.out w2 hb2)
     have kyf:=fun i=>(HR2.out w2 hb2).frozen i
     go_wp2_with fail
     obtain⟨wf,hwf⟩:∃yy:World,yy=((((((((((w2.setCell ⟨g1,0,none⟩ (.int .i64 lc)).setCell ⟨g1,1,none⟩ (.slice A s.acts.length c)).setCell ⟨g1,2,none⟩ (.int .i64 kat)).setCell ⟨g1,3,none⟩ (.slice Bk kl.length dk)).setCell ⟨g2,0,none⟩ (.int .i64 6)).setCell ⟨g2,1,none⟩ (.int .i64 0)).setCell ⟨g2,2,none⟩ (.int .i64 0)).setCell ⟨g2,3,none⟩ (.int .u64 0)).setCell ⟨g2,4,none⟩ (.bool false)).setCell ⟨g2,5,none⟩ (.bool false)):=⟨_,rfl⟩
     have hh1:=HR1.out w2 hb2
     have hh2:=HR2.out w2 hb2
     have hne:g1≠g2:=by omega
     have hf1:Blk wf g1 82 #[.int .i64 lc,.slice A s.acts.length c,.int .i64 kat,.slice Bk kl.length dk]:=by
      rw[hwf]
      unfold Blk
      rw[keep_set6 hne]
      exact blk_set4 hh1 _ _ _ _
     have hf2:Blk wf g2 100 #[(.int .i64 6),(.int .i64 0),(.int .i64 0),(.int .u64 0),(.bool false),(.bool false)]:=by
      rw[hwf]
      refine blk_set6 (w:=(((w2.setCell ⟨g1,0,none⟩ (.int .i64 lc)).setCell ⟨g1,1,none⟩ (.slice A s.acts.length c)).setCell ⟨g1,2,none⟩ (.int .i64 kat)).setCell ⟨g1,3,none⟩ (.slice Bk kl.length dk)) (c0:=.int .i64 0) (c1:=.int .i64 0) (c2:=.int .i64 0) (c3:=.int .u64 0) (c4:=.bool false) (c5:=.bool false) ?_ _ _ _ _ _ _
      unfold Blk
      rw[keep_set4 hne.symm]
      exact hh2
     have hbf:Below gl w wf:=by
      rw[hwf]
      exact below_setB6 (below_set4 (HZ.out w2 hb2) (by omega) _ _ _ _) (by omega) _ _ _ _ _ _
     have hkf:∀k,k≠g1→k≠g2→wf.heap[k]?=w2.heap[k]?:=fun k hk1 hk2=>by
      rw[hwf,keep_set6 hk2,keep_set4 hk1]
     rw[←hwf]
     clear hwf
     obtain⟨e0,e1,e2,e3⟩:=Kit.cells4 hf1
     obtain⟨d0,d1,d2,d3,d4,d5⟩:=Kit.cells6 hf2
     refine bodyPost_ret (v:=.tuple #[.agg #[.int .i64 lc,.slice A s.acts.length c,.int .i64 kat,.slice Bk kl.length dk],.agg #[(.int .i64 6),(.int .i64 0),(.int .i64 0),(.int .u64 0),(.bool false),(.bool false)]]) (by simp[results,Tryz.results53,go_sem,e0,e1,e2,e3,d0,d1,d2,d3,d4,d5]) rfl ?_
     rw[←HASK.out]
     exact⟨.slice Bk kl.length dk,rfl,OwnR.own_stays (hU0.out.below hb2) (fun q hq=>hkf q (fun e=>OwnR.own_type (hU0.out.below hb2) hh1 (by decide) (by rw[hq,e])) (fun e=>OwnR.own_type (hU0.out.below hb2) hh2 (by decide) (by rw[hq,e]))),HW.out,rfl,by rw[HGL.out];exact hbf⟩
    ·have q1:((k:Int) == 100000)=false:=by simp;omega
     have hask2:askedL (100000-(k+1)) (RS.alone ⟨s.acts,kat,kl⟩ a)=s.asked:=by
      rw[←HASK.out,show 100000-k=(100000-(k+1))+1 by omega]
      simp[askedL,ha,hob]
     have HASK:=Lib.hid hask2
     have HAl:Hid (∀w2,Below wr.heap.size wr w2→Calls Tryz.prog 81 #[.agg #[.int .i64 lc,.slice A s.acts.length c,.int .i64 kat,.slice Bk kl.length dk]] w2 fun r w'=>StRet lc (.slice A s.acts.length c) w2 (RS.alone ⟨s.acts,kat,kl⟩ a) r w'):=Lib.hid fun w2 h2 =>
      Alone_any lc A c (.slice Bk kl.length dk) ⟨s.acts,kat,kl⟩ w2 (HST.out.below h2) a ha hob
     have haw:=alone_w HW.out ha hob
     have haa:=alone_acts ⟨s.acts,kat,kl⟩ a
     clear ha hob hask2
     generalize RS.alone ⟨s.acts,kat,kl⟩ a=s2 at *
     obtain⟨acts2,at2,l2⟩:=s2
     simp only at haa
     subst haa
     go_upto_region 8 with (go_at_call 79;refine HOwn.out.mono ?_;rintro e w2 ⟨rfl,hb2⟩)
     have hG2:=hG.below' hb2
     clear n0 n1 n2 n3 HOwn
     obtain⟨n0,n1,n2,n3⟩:=Kit.cells4 hG2
     have HA2:=Lib.hid (HAl.out w2 hb2)
     have hsz2:=hb2.size
     unfold StRet stC at HA2
     simp only at HA2
     go_upto_region 3 with (go_at_call 81;refine HA2.out.mono ?_;rintro e w3 ⟨vl3,rfl,hU3,hb3⟩;obtain⟨m0,m1,m2,m3⟩:=Kit.cells4 (hG2.below' hb3);have mf:=fun i=>(hG2.below' hb3).frozen i;obtain⟨B3,d3,rfl,_⟩:=U64O.mk_ hU3)
     have hU6:U64O ((((w3.setCell ⟨gl,0,none⟩ (.int .i64 lc)).setCell ⟨gl,1,none⟩ (.slice A s.acts.length c)).setCell ⟨gl,2,none⟩ (.int .i64 at2)).setCell ⟨gl,3,none⟩ (.slice B3 l2.length d3)) (.slice B3 l2.length d3) l2:=U64O.kept hU3 (hG2.below' hb3) (by decide) (fun q hq=>keep_set4 hq _ _ _ _)
     have h23:=Kit.Below.then hb2 hb3
     have hG6:=blk_set4 (hG2.below' hb3) (.int .i64 lc) (.slice A s.acts.length c) (.int .i64 at2) (.slice B3 l2.length d3)
     have hb6:=below_set4 (HZ.out w3 h23) (Nat.le_refl gl) (.int .i64 lc) (.slice A s.acts.length c) (.int .i64 at2) (.slice B3 l2.length d3)
     have hR16:Blk ((((w3.setCell ⟨gl,0,none⟩ (.int .i64 lc)).setCell ⟨gl,1,none⟩ (.slice A s.acts.length c)).setCell ⟨gl,2,none⟩ (.int .i64 at2)).setCell ⟨gl,3,none⟩ (.slice B3 l2.length d3)) g1 82 #[.int .i64 0,.slice none 0 0,.int .i64 0,.slice none 0 0]:=by
      unfold Blk
      rw[keep_set4 (by omega)]
      exact HR1.out w3 h23
     have hR26:Blk ((((w3.setCell ⟨gl,0,none⟩ (.int .i64 lc)).setCell ⟨gl,1,none⟩ (.slice A s.acts.length c)).setCell ⟨gl,2,none⟩ (.int .i64 at2)).setCell ⟨gl,3,none⟩ (.slice B3 l2.length d3)) g2 100 #[.int .i64 0,.int .i64 0,.int .i64 0,.int .u64 0,.bool false,.bool false]:=by
      unfold Blk
      rw[keep_set4 (by omega)]
      exact HR2.out w3 h23
     generalize (((w3.setCell ⟨gl,0,none⟩ (.int .i64 lc)).setCell ⟨gl,1,none⟩ (.slice A s.acts.length c)).setCell ⟨gl,2,none⟩ (.int .i64 at2)).setCell ⟨gl,3,none⟩ (.slice B3 l2.length d3)=w6 at *
     go_wp2_with fail
     go_roundg (100000-(k+1))
     case measure=>have:=HM.out;omega
     case rel =>
      unfold AskRel stC
      rw[HGL.out,hg1,hg2]
      exact⟨k+1,⟨s.acts,at2,l2⟩,.slice B3 l2.length d3,by push_cast;rfl,by omega,rfl,HASK.out,rfl,hU6,haw,hG6,hR16,hR26,hb6⟩
end Go.Proofs.YtmjilfamjlnigaaGreat.RefW
namespace Go.Proofs.YtmjilfamjlnigaaGreat.SrcP
def stepW (m:Mch) (a:SrcP.Act):Want × Mch:=if ownB a=true then(Want.zero,ownS m a)else(wantS m a,m)
end Go.Proofs.YtmjilfamjlnigaaGreat.SrcP
namespace Go.Proofs.YtmjilfamjlnigaaGreat.MchW
open Go Go.RowKit Kit SrcP SrcW
theorem callFunc_enter {P:Program} {f:FuncId} {fn:Func} (hf:P.funcs[f]?=some fn) (hn:(fn.name == "runtime.NumGoroutine")=false) (hb:fn.body.isNone=false) (args:Array Value) (w:World):(callFunc f args).run P w=.ok (.enter f args) w:=by
 unfold callFunc
 have h1:¬(fn.name = "runtime.NumGoroutine"):=by simpa using hn
 have h2:¬(fn.body=none):=fun h=>by rw[h]at hb;cases hb
 simp[go_sem,hf,h1,h2]
theorem work_call (op:Int) (h1:1≤op) (h2:op≤10) (args:Array Value) (w:World):(callFunc (workOf op) args).run Tryz.prog w=.ok (.enter (workOf op) args) w:=by
 have cmset:(callFunc 222 args).run Tryz.prog w=.ok (.enter 222 args) w:=callFunc_enter Tryz.func222 (by kernel_rfl) (by kernel_rfl) args w
 have cmload:(callFunc 223 args).run Tryz.prog w=.ok (.enter 223 args) w:=callFunc_enter Tryz.func223 (by kernel_rfl) (by kernel_rfl) args w
 have cmstore:(callFunc 224 args).run Tryz.prog w=.ok (.enter 224 args) w:=callFunc_enter Tryz.func224 (by kernel_rfl) (by kernel_rfl) args w
 have cmpair:(callFunc 225 args).run Tryz.prog w=.ok (.enter 225 args) w:=callFunc_enter Tryz.func225 (by kernel_rfl) (by kernel_rfl) args w
 have cmfence:(callFunc 226 args).run Tryz.prog w=.ok (.enter 226 args) w:=callFunc_enter Tryz.func226 (by kernel_rfl) (by kernel_rfl) args w
 have cmprint:(callFunc 227 args).run Tryz.prog w=.ok (.enter 227 args) w:=callFunc_enter Tryz.func227 (by kernel_rfl) (by kernel_rfl) args w
 have cmjump:(callFunc 228 args).run Tryz.prog w=.ok (.enter 228 args) w:=callFunc_enter Tryz.func228 (by kernel_rfl) (by kernel_rfl) args w
 have cmzero:(callFunc 229 args).run Tryz.prog w=.ok (.enter 229 args) w:=callFunc_enter Tryz.func229 (by kernel_rfl) (by kernel_rfl) args w
 have h:op=1∨op=2∨op=3∨op=4∨op=5∨op=6∨op=7∨op=8∨op=9∨op=10:=by omega
 rcases h with rfl | rfl | rfl | rfl | rfl | rfl | rfl | rfl | rfl | rfl
 ·exact cmset
 ·exact cmload
 ·exact cmstore
 ·exact cmpair
 ·exact cmpair
 ·exact cmpair
 ·exact cmfence
 ·exact cmprint
 ·exact cmjump
 ·exact cmzero
theorem MS_kept {g gl:Nat} {w w':World} (h:Below w.heap.size w w'):KeptS (MS g gl) w w':=KeptS.of_below h
theorem work_any {w:World} {g gl nl cells:Nat} (hcells:cells≤4096) {tl:Int} {va:Value} {m:Mch} (h:MachM w g gl tl va nl m) (hw:MchW cells nl m) {n:Nat} (a:SrcP.Act) (ha:ActWell cells nl n a) {I E F:Option Addr} {li ci le ce lf cf:Nat} (hav:ActVS w (.slice I li ci) (.slice E le ce) (.slice F lf cf) a) :
  Calls Tryz.prog (workOf a.op) #[.pointer (some ⟨g,0,none⟩),.agg (actC a (.slice I li ci) (.slice E le ce) (.slice F lf cf))] w fun r w'=>r=.returned (.agg (wantC (stepW m a).1).toArray)∧MachM w' g gl tl va nl (stepW m a).2∧KeptS (MS g gl) w w':=by
 have hop:=ha.parts.1
 have own:∀(k:Nat),ownB a=true→workOf a.op=k→(Calls Tryz.prog k #[.pointer (some ⟨g,0,none⟩),.agg (actC a (.slice I li ci) (.slice E le ce) (.slice F lf cf))] w fun r w'=>r=.returned (.agg zeroW)∧MachM w' g gl tl va nl (ownS m a)∧KeptS (MS g gl) w w')→Calls Tryz.prog (workOf a.op) #[.pointer (some ⟨g,0,none⟩),.agg (actC a (.slice I li ci) (.slice E le ce) (.slice F lf cf))] w fun r w'=>r=.returned (.agg (wantC (stepW m a).1).toArray)∧MachM w' g gl tl va nl (stepW m a).2∧KeptS (MS g gl) w w':=by
  intro k ho hk hc
  rw[hk]
  unfold stepW
  rw[if_pos ho]
  exact hc
 have not:∀(k:Nat),ownB a=false→workOf a.op=k→(Calls Tryz.prog k #[.pointer (some ⟨g,0,none⟩),.agg (actC a (.slice I li ci) (.slice E le ce) (.slice F lf cf))] w fun r w'=>r=.returned (.agg (wantC (wantS m a)).toArray)∧Below w.heap.size w w')→Calls Tryz.prog (workOf a.op) #[.pointer (some ⟨g,0,none⟩),.agg (actC a (.slice I li ci) (.slice E le ce) (.slice F lf cf))] w fun r w'=>r=.returned (.agg (wantC (stepW m a).1).toArray)∧MachM w' g gl tl va nl (stepW m a).2∧KeptS (MS g gl) w w':=by
  intro k ho hk hc
  rw[hk]
  unfold stepW
  rw[if_neg (by rw[ho];exact Bool.false_ne_true)]
  exact hc.mono fun _ _ ⟨h1,h2⟩=>⟨h1,h.below h2,MS_kept h2⟩
 have hc:a.op=1∨a.op=2∨a.op=3∨(a.op=4∨a.op=5∨a.op=6)∨a.op=7∨a.op=8∨a.op=9∨a.op=10:=by omega
 rcases hc with e | e | e | e | e | e | e | e
 ·exact own _ (by simp[ownB,e]) (by simp[workOf,e]) (set_any h hw a ha e hav)
 ·exact not _ (by simp[ownB,e]) (by simp[workOf,e]) (load_any hcells h hw a ha e hav.here)
 ·exact not _ (by simp[ownB,e]) (by simp[workOf,e]) (store_any hcells h hw a ha e hav.here)
 ·exact not _ (by rcases e with e | e | e <;> simp[ownB,e]) (by rcases e with e | e | e <;> simp[workOf,e]) (pair_any hcells h hw a ha e hav.here)
 ·exact not _ (by simp[ownB,e]) (by simp[workOf,e]) (fence_any g m w a e)
 ·exact not _ (by simp[ownB,e]) (by simp[workOf,e]) (print_any h hw a ha e hav.here)
 ·exact own _ (by simp[ownB,e]) (by simp[workOf,e]) (jump_any h a ha e)
 ·exact own _ (by simp[ownB,e]) (by simp[workOf,e]) (zero_any h hw a ha e hav)
end Go.Proofs.YtmjilfamjlnigaaGreat.MchW
