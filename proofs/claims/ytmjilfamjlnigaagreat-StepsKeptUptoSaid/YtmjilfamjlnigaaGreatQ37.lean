/- WALKS: the document's own run is asked (chapter 19): a thread read and laid back. -/
import Derived.Test.YtmjilfamjlnigaaGreatQ36
import Derived.Deep.WholeRow
namespace Go.Proofs.YtmjilfamjlnigaaGreat.RefW
open Go Go.RowKit Kit SrcP SrcW Go.Proofs.YtmjilfamjlnigaaGreat.MchW
theorem setCells_blk {g:Nat} {t:TypeId}:∀(l:List Value) (w:World) (pre mid post:List Value),Blk w g t (pre++mid++post).toArray→mid.length=l.length→Blk (w.setCells g pre.length l) g t (pre++l++post).toArray
 | [],w,pre,mid,post,h,hl=>by
  obtain rfl:mid = []:=List.length_eq_zero_iff.1 hl
  exact h
 | v :: l,w,pre,mid,post,h,hl=>by
  cases mid with
  | nil=>simp at hl
  | cons m mid =>
   have h1:=h.set pre.length v
   have e:((pre++m :: mid++post).toArray).setIfInBounds pre.length v=((pre++[v])++mid++post).toArray:=by
    simp only[List.setIfInBounds_toArray,List.append_assoc]
    rw[List.set_append_right _ _ (Nat.le_refl _)]
    simp
   rw[e]at h1
   have ih:=setCells_blk l _ (pre++[v]) mid post h1 (by simpa using hl)
   rw[List.length_append,List.length_singleton]at ih
   rw[World.setCells]
   have e2:(pre++[v])++l++post=pre++v :: l++post:=by simp
   rwa [e2]at ih
theorem setCells_kept {g:Nat}:∀(l:List Value) (w:World) (o:Nat),KeptS (fun k=>k=g) w (w.setCells g o l)
 | [],w,_=>KeptS.refl _ w
 | v :: l,w,o=>by
  rw[World.setCells]
  exact(KeptS.set (S:=fun k=>k=g) (KeptS.refl (fun k=>k=g) w) rfl o v).trans (setCells_kept l _ (o+1))
theorem own_seg {α:Type} (f:α→List Value) {k:Nat} (hf:∀a,(f a).length=k) {w:World} {base e n g cap:Nat} {L:List α} (h:w.ownsRow base e k (.slice (some ⟨g,0,none⟩) n cap) n (L.flatMap f)) {t:Nat} (ht:t<L.length) (x:α) :
  (w.setCells g (t*k) (f x)).ownsRow base e k (.slice (some ⟨g,0,none⟩) n cap) n ((L.set t x).flatMap f):=by
 have hlen:∀l:List α,(l.flatMap f).length=l.length*k:=fun l=>by
  induction l with
  | nil=>simp
  | cons a l ih=>rw[List.flatMap_cons,List.length_append,hf,ih,List.length_cons,Nat.succ_mul];omega
 refine⟨by rw[hlen,List.length_set,←hlen];exact h.1,?_⟩
 rcases h.2 with⟨h0,_⟩ | ⟨g',cap',cur,h0,hb,hh,hc,hm,hs,htk⟩
 ·cases h0
 ·injection h0 with h0 _ h1
  injection h0 with h0
  injection h0 with h0
  subst h0 h1
  right
  have hcur:cur.toList=L.flatMap f++cur.toList.drop (n*k):=by rw[←htk,List.take_append_drop]
  have hL:L=L.take t++L[t] :: L.drop (t+1):=by rw[←List.drop_eq_getElem_cons ht,List.take_append_drop]
  have hset:L.set t x=L.take t++x :: L.drop (t+1):=by rw[List.set_eq_take_append_cons_drop,if_pos ht]
  have hpre:((L.take t).flatMap f).length=t*k:=by rw[hlen,List.length_take,Nat.min_eq_left (Nat.le_of_lt ht)]
  have hB:Blk w g e (((L.take t).flatMap f)++f L[t]++((L.drop (t+1)).flatMap f++cur.toList.drop (n*k))).toArray:=by
   have:cur=(((L.take t).flatMap f)++f L[t]++((L.drop (t+1)).flatMap f++cur.toList.drop (n*k))).toArray:=by
    apply Array.ext'
    rw[List.toList_toArray,←List.append_assoc,List.append_assoc ((L.take t).flatMap f)]
    have e2:f L[t]++(L.drop (t+1)).flatMap f=(L[t] :: L.drop (t+1)).flatMap f:=(List.flatMap_cons).symm
    rw[e2,←List.flatMap_append,←hL]
    exact hcur
   unfold Blk
   rw[←this]
   exact hh
  have h2:=setCells_blk (f x) w _ _ _ hB (by rw[hf,hf])
  rw[hpre]at h2
  refine⟨g,cap,_,rfl,hb,h2,hc,hm,?_,?_⟩
  ·rw[←hs]
   have:=congrArg List.length hcur
   simp only[List.length_append,Array.length_toList]at this
   rw[hlen]at this
   simp only[List.size_toArray,List.length_append,hpre,hf,hlen]
   rw[List.length_drop]
   have h3:L.length=t+(1+(L.length-(t+1))):=by omega
   have h4:L.length*k=t*k+(k+(L.length-(t+1))*k):=by
    conv=>lhs;rw[h3]
    rw[Nat.add_mul,Nat.add_mul,Nat.one_mul]
   omega
  ·rw[List.toList_toArray]
   have e3:((L.take t).flatMap f)++f x++((L.drop (t+1)).flatMap f++cur.toList.drop (n*k))=(L.set t x).flatMap f++cur.toList.drop (n*k):=by
    rw[hset,List.flatMap_append,List.flatMap_cons]
    simp
   rw[e3]
   have hxl:((L.set t x).flatMap f).length=n*k:=by
    rw[hlen,List.length_set,←hlen]
    exact h.1
   rw[←hxl]
   simp
section
variable {mz:List Value} {w0:World} {nc:Nat} {w w':World} {who who':Nat→Option Dq} {V V':DV} {r r':RR}
structure ThrAt (mz:List Value) (w:World) (V:DV) (g cap:Nat):Prop where
 val:V.thr=.slice (some ⟨g,0,none⟩) V.tcs.length cap
 lt:g<w.heap.size
 fr:∀o,w.frozen? ⟨g,o,none⟩=false
 at_:∀(t:Nat) (x:TC),V.tcs[t]?=some x→w.rangeAt g (t*101) (thC mz x)
theorem RunAt.thr (h:RunAt mz w0 nc w who V r) (hz:mz.length=95) (h0:0<V.tcs.length):∃g cap,ThrAt mz w V g cap:=by
 obtain⟨g,cap,h1,_,h2,_,h3,h4⟩:=OwnR.own_cells (h.own .thr) h0
 refine⟨g,cap,h1,h2,h3,fun t x hx j v hj=>?_⟩
 have hj2:j<101:=by
  have:=(List.getElem?_eq_some_iff.1 hj).1
  rwa [thC_len hz]at this
 refine h4 (t*101+j) v ?_
 have:=NewW.flat_get (thC mz) 101 (fun a=>thC_len hz a) V.tcs t j x hx hj2
 show(V.tcs.flatMap (thC mz))[t*101+j]?=some v
 rw[this]
 exact hj
theorem ThrAt.there {g cap:Nat} (h:ThrAt mz w V g cap) (hz:mz.length=95) {t:Nat} (ht:t<V.tcs.length):w.there g (t*101) 101:=fun j hj=>by
 have hx:V.tcs[t]?=some V.tcs[t]:=Kit.eG ht
 have hr:=h.at_ t _ hx
 have hj2:j<(thC mz V.tcs[t]).length:=by rw[thC_len hz];exact hj
 exact⟨by rw[hr j _ (Kit.eG hj2)];rfl,h.fr _⟩
end
theorem RunAt.setT {mz:List Value} (hz:mz.length=95) {w0:World} {nc:Nat} {w:World} {who:Nat→Option Dq} {V:DV} {r:RR} (h:RunAt mz w0 nc w who V r) {t:Nat} (hlt:t<V.tcs.length) {g cap:Nat} (hv:V.thr=.slice (some ⟨g,0,none⟩) V.tcs.length cap) {x':TC}
  (hac:ActsAt w0 x'.va x'.s.acts) (hok:SrcP.MchW nc x'.nl x'.s.m) (hU:U64O w x'.vl x'.s.locals) (hN:I64O w x'.vn x'.nums) (hfree:∀k,x'.vn.ownBlock=some k→who k=none) (hnil:x'.nums = []→x'.vn=.slice none 0 0) :
  ∃who',RunAt mz w0 nc (w.setCells g (t*101) (thC mz x')) who' { V with tcs:=V.tcs.set t x' } { r with ths:=r.ths.set t x'.rt }∧(∀k,k<w.heap.size→who' k=who k):=by
 have hk:=setCells_kept (g:=g) (thC mz x') w (t*101)
 have ho:=h.own .thr
 simp only[dT,dS,DV.val,dN,dX]at ho
 rw[hv]at ho
 have hown:=own_seg (thC mz) (thC_len hz) ho hlt x'
 obtain⟨cur,hcur⟩:∃cur,Blk w g 94 cur:=by
  rcases ho.2 with⟨h1,_⟩ | ⟨g',cap',cur,h1,_,h2,_⟩
  ·cases h1
  ·injection h1 with h1
   injection h1 with h1
   injection h1 with h1
   subst h1
   exact⟨cur,h2⟩
 refine h.turn (V':={ V with tcs:=V.tcs.set t x' }) (r':={ r with ths:=r.ths.set t x'.rt }) .thr (row:=some g) (by simp[DV.val,hv,Value.ownBlock]) (hk.mono fun k e=>by rw[e]) (fun p hp=>?_) ?_ (fun k hk2=>?_) ?_ (fun y hy=>?_) h.outl (fun t v l h1 h2=>.inl ⟨h1,h2⟩)
 ·cases p with
  | thr=>exact absurd rfl hp
  | _=>exact⟨rfl,rfl,rfl⟩
 ·show World.ownsRow _ _ _ _ V.thr (V.tcs.set t x').length _
  rw[List.length_set,hv]
  exact hown
 ·left
  have hk3:V.thr.ownBlock=some k:=hk2
  rw[hv]at hk3
  exact hk3
 ·show r.ths.set t x'.rt=(V.tcs.set t x').map TC.rt
  rw[List.map_set,h.ths]
 ·rcases List.mem_or_eq_of_mem_set hy with h1 | h1
  ·exact .inl h1
  ·right
   subst h1
   intro who' hw
   exact⟨hac,OwnR.own_stays hU fun k hk2=>hk.2.2.2.2 k (OwnR.own_lt hU hk2) (fun e=>OwnR.own_type hU hcur (by decide) (by rw[hk2,e])),hok,OwnR.own_stays hN fun k hk2=>hk.2.2.2.2 k (OwnR.own_lt hN hk2) (fun e=>OwnR.own_type hN hcur (by decide) (by rw[hk2,e])),fun k hk2=>by
    rw[hw k (OwnR.own_lt hN hk2)]
    exact hfree k hk2,hnil⟩
theorem thC_one {mz:List Value} (ho:mz.all (·.oneCell')=true) {w0:World} {nc:Nat} {w:World} {who:Nat→Option Dq} {x:TC} (h:TcOk w0 nc w who x):(thC mz x).toArray.all (·.oneCell')=true:=by
 obtain⟨A,c,hva,_⟩:=h.acts
 obtain⟨B,d,hvl,_⟩:=OwnR.own_slice h.locs
 obtain⟨N,e,hvn,_⟩:=OwnR.own_slice h.nums
 refine all_oneCell_toArray fun v hv=>?_
 simp only[thC,stC,hva,hvl,hvn,List.mem_append,List.mem_cons,List.not_mem_nil,or_false]at hv
 rcases hv with (rfl | rfl | rfl | rfl) | hv | rfl | rfl
 any_goals rfl
 exact List.all_eq_true.1 ho v hv
theorem XD_rt {x x':TC} {s':RS} {v:Value} (h:x' = { x with s:=s',vl:=v }):x'.rt=⟨s',x.rt.nums⟩:=by rw[h];rfl
theorem zc_size:(Tryz.zeroCells94).size=101:=by kernel_rfl
theorem thC_size {mz:List Value} (hz:mz.length=95) (x:TC):(thC mz x).toArray.size=101:=by rw[List.size_toArray,thC_len hz]
theorem thC_set (mz:List Value) (x:TC) (a b c d:Value):((((thC mz x).toArray.setIfInBounds 0 a).setIfInBounds 1 b).setIfInBounds 2 c).setIfInBounds 3 d=([a,b,c,d]++(mz++[x.vn,.int .i64 (-1)])).toArray:=by
 simp[thC,stC]
theorem blk_range {w:World} {g:Nat} {t:TypeId} {l:List Value} (h:Blk w g t l.toArray):w.rangeAt g 0 l:=fun j v hj=>by
 rw[Nat.zero_add,h.cell]
 simpa using hj
theorem size_th:(Tryz.prog.info? 94).map (·.size)=some 101:=by kernel_rfl
def DV.wT (V:DV) (l:List TC):DV:={ V with tcs:=l }
set_option maxRecDepth 100000 in
set_option maxHeartbeats 8000000 in
theorem Ask_keep {mz:List Value} (hz:mz.length=95) (ho:mz.all (·.oneCell')=true) {w0:World} {nc:Nat} (hnc:nc≤4096) {w:World} {who:Nat→Option Dq} {V:DV} {r:RR} (h:RunAt mz w0 nc w who V r) (t:Nat) (ht:t<r.ths.length) :
  Calls Tryz.prog 33 #[.agg (runD nc V r),.int .i64 (t:Int)] w fun e w'=>∃V',e=.returned (.tuple #[.agg (runD nc V' (r.ask t).1),.agg (wantC (r.ask t).2)])∧DRet mz w0 nc w who w' V' (r.ask t).1∧(∃l,V'=V.wT l):=by
 have hlt:t<V.tcs.length:=by have:=h.ths;rw[this]at ht;simpa using ht
 obtain⟨g,cap,hT⟩:=h.thr hz (by omega)
 have HT:=Lib.hid hT
 obtain⟨hv,hgl,hfr,hat⟩:=hT
 obtain⟨ae,ce,hve,_⟩:=OwnR.own_slice (h.own .ev)
 obtain⟨af,cf,hvf,_⟩:=OwnR.own_slice (h.own .rf)
 obtain⟨am,cm,hvm,_⟩:=OwnR.own_slice (h.own .rmw)
 obtain⟨ao,co,hvo,_⟩:=OwnR.own_slice (h.own .outs)
 obtain⟨al,cl,hvl,_⟩:=OwnR.own_slice (h.own .log)
 obtain⟨ap,cp,hvp,_⟩:=OwnR.own_slice (h.own .pks)
 simp only[DV.val,dN]at hve hvf hvm hvo hvl hvp
 unfold runD
 rw[hv,hve,hvf,hvm,hvo,hvl,hvp]
 have HV:=Lib.hid (And.intro hv (And.intro hve (And.intro hvf (And.intro hvm (And.intro hvo (And.intro hvl hvp))))))
 clear hv hve hvf hvm hvo hvl hvp
 have hx:V.tcs[t]?=some V.tcs[t]:=Kit.eG hlt
 have hrx:=hat t _ hx
 generalize hxx:V.tcs[t]=x at *
 have HXX:=Lib.hid hx
 clear hxx hx hat
 have HRT:Hid (∀w2,Below w.heap.size w w2→w2.rangeAt g (t*101) (thC mz x)):=Lib.hid fun w2 hb j v hj=>(hb.cell (p:=⟨g,t*101+j,none⟩) hgl).trans (hrx j v hj)
 clear hrx
 have a1:(t:Int)<(V.tcs.length:Int):=by omega
 have a2:(0:Int)≤(t:Int):=by omega
 go_enter Tryz.func33,Tryz.ntmps33
 go_upto_region 1 with fail
 obtain⟨w1,hw1⟩:∃yy:World,yy=((w.alloc (.cells #[.bool false,.int .i64 nc,.slice (some ⟨g,0,none⟩) V.tcs.length cap,.slice ae r.events.length ce,.slice af r.rf.length cf,.slice am r.rmw.length cm,.slice ao V.vo.length co,.slice al r.log.length cl,.slice ap r.picks.length cp,.int .i64 r.used] 47)).alloc (.cells #[.bool false,.int .i64 0,.slice none 0 0,.slice none 0 0,.slice none 0 0,.slice none 0 0,.slice none 0 0,.slice none 0 0,.slice none 0 0,.int .i64 0] 47)).alloc (.cells #[.int .i64 0,.int .i64 0,.int .i64 0,.int .u64 0,.bool false,.bool false] 100):=⟨_,rfl⟩
 have hb1:Below w.heap.size w w1:=by rw[hw1];exact Kit.Below.al (Kit.bl2) _
 have hD1:Blk w1 w.heap.size 47 #[.bool false,.int .i64 nc,.slice (some ⟨g,0,none⟩) V.tcs.length cap,.slice ae r.events.length ce,.slice af r.rf.length cf,.slice am r.rmw.length cm,.slice ao V.vo.length co,.slice al r.log.length cl,.slice ap r.picks.length cp,.int .i64 r.used]:=by rw[hw1];exact((Blk.new _ _ _).alloc _).alloc _
 have hE1:Blk w1 (w.heap.size+1) 47 #[.bool false,.int .i64 0,.slice none 0 0,.slice none 0 0,.slice none 0 0,.slice none 0 0,.slice none 0 0,.slice none 0 0,.slice none 0 0,.int .i64 0]:=by rw[hw1];exact(Blk.newAt (sizeA _ _) _ _).alloc _
 have hF1:Blk w1 (w.heap.size+1+1) 100 #[.int .i64 0,.int .i64 0,.int .i64 0,.int .u64 0,.bool false,.bool false]:=by rw[hw1];exact Blk.newAt (by rw[sizeA,sizeA]) _ _
 rw[←hw1]
 clear hw1
 have k2:w1.cell? ⟨w.heap.size,2,none⟩=some (.slice (some ⟨g,0,none⟩) V.tcs.length cap):=hD1.cell 2
 have HONE:=Lib.hid (thC_one ho (h.tc x (List.mem_of_getElem? HXX.out)))
 go_upto_region 2 with (first |(refine wpList_store_row rfl 94 (.tmp 6) (.tmp 16) rfl w1.heap.size (thC mz x).toArray rfl rfl 94 Tryz.zeroCells94 (heap_alloc_new w1 _) (by rw[List.size_toArray,thC_len hz];exact size_th) (zc_size.trans (thC_size hz x).symm) HONE.out ?_) |(refine wpList_load_mid rfl 94 (.tmp 15) rfl g (t*101) rfl (thC mz x) _ (HRT.out _ hb1) Tryz.underlying94 rfl (by rw[thC_len hz];exact size_th) ?_))
 obtain⟨w2,hw2⟩:∃yy:World,yy=(w1.alloc (.cells Tryz.zeroCells94 94)).setRow w1.heap.size (thC mz x).toArray:=⟨_,rfl⟩
 rw[←hw2]
 rw[World.setRow_alloc_new]at hw2
 have hX2:Blk w2 w1.heap.size 94 (thC mz x).toArray:=by rw[hw2];exact Blk.new _ _ _
 have hb12:Below w1.heap.size w1 w2:=by rw[hw2];exact Kit.bl1
 clear hw2 k2
 have hlf:=hF1.lt
 generalize hgx:w1.heap.size=gx at *
 have HGX:=Lib.hid hgx
 clear hgx
 generalize hgl0:w.heap.size=gl at *
 have HGL:=Lib.hid hgl0
 clear hgl0
 have hD2:=hD1.below hb12 (by omega)
 have hE2:=hE1.below hb12 (by omega)
 have hF2:=hF1.below hb12 (by omega)
 have hb2:Below gl w w2:=hb1.trans (hb12.mono (by omega))
 clear hD1 hE1 hF1 hb1 hb12
 go_upto_region 3 with fail
 obtain⟨w3,hw3⟩:∃yy:World,yy=w2.alloc (.cells #[.int .i64 0,.int .i64 0,.int .i64 0,.int .u64 0,.bool false,.bool false] 100):=⟨_,rfl⟩
 have hb23:Below w2.heap.size w2 w3:=by rw[hw3];exact Kit.bl1
 have hW3:Blk w3 w2.heap.size 100 #[.int .i64 0,.int .i64 0,.int .i64 0,.int .u64 0,.bool false,.bool false]:=by rw[hw3];exact Blk.new _ _ _
 rw[←hw3]
 clear hw3
 have hlx:=hX2.lt
 have hX3:=hX2.below' hb23
 have hD3:=hD2.below' hb23
 have hE3:=hE2.below' hb23
 have hF3:=hF2.below' hb23
 have hlw:w2.heap.size<w3.heap.size:=hW3.lt
 generalize hgw:w2.heap.size=gw at *
 have hb3:Below gl w w3:=hb2.trans (hb23.mono (by omega))
 clear hX2 hD2 hE2 hF2 hb2 hb23 hgw
 have k0:w3.cell? ⟨gl,0,none⟩=some (.bool false):=hD3.cell 0
 have hok:=h.tc x (List.mem_of_getElem? HXX.out)
 obtain⟨A,c,hva,_⟩:=hok.acts
 obtain⟨B,d,hvl2,_⟩:=OwnR.own_slice hok.locs
 have HOK:=Lib.hid hok
 clear hok
 have x0:w3.cell? ⟨gx,0,none⟩=some (.int .i64 x.lc):=hX3.cell 0
 have x1:w3.cell? ⟨gx,1,none⟩=some (.slice A x.s.acts.length c):=by rw[←hva];exact hX3.cell 1
 have x2:w3.cell? ⟨gx,2,none⟩=some (.int .i64 x.s.at_):=hX3.cell 2
 have x3:w3.cell? ⟨gx,3,none⟩=some (.slice B x.s.locals.length d):=by rw[←hvl2];exact hX3.cell 3
 have HAS:Hid (∀w5,Below gl w w5→Calls Tryz.prog 53 #[.agg #[.int .i64 x.lc,.slice A x.s.acts.length c,.int .i64 x.s.at_,.slice B x.s.locals.length d]] w5 fun e w'=>∃vl',e=.returned (.tuple #[.agg (stC x.lc (.slice A x.s.acts.length c) x.s.asked.1 vl'),.agg (wantC x.s.asked.2)])∧U64O w' vl' x.s.asked.1.locals∧SrcP.MchW nc x.nl x.s.asked.1.m∧x.s.asked.1.acts=x.s.acts∧Below w5.heap.size w5 w'):=Lib.hid fun w5 hb=>by
  have hS:StV nc x.nl w5 (.slice A x.s.acts.length c) (.slice B x.s.locals.length d) x.s:=by
   rw[←hva,←hvl2]
   have hb0:Below w0.heap.size w0 w5:=h.start.trans (by rw[←HGL.out]at hb;exact hb.mono h.start.size)
   exact⟨HOK.out.acts.below hb0,HOK.out.locs.below (by rw[HGL.out];exact hb),HOK.out.ok⟩
  exact asked_any hnc x.lc A c _ x.s w5 hS
 have HVA:=Lib.hid hva
 clear hva hvl2
 go_upto_region 7 with fail
 have HA3:=Lib.hid (HAS.out w3 hb3)
 clear HAS
 generalize hs2:x.s.asked=s2 at *
 obtain⟨s',q⟩:=s2
 simp only[wantC,stC]at HA3
 go_upto_region 8 with (go_at_call 53;refine HA3.out.mono ?_;rintro e w5 ⟨vl',rfl,hU5,hm5,hac5,hb5⟩;obtain⟨B2,d2,rfl,_⟩:=U64O.mk_ hU5)
 clear x0 x1 x2 x3 k0 HA3
 obtain⟨w6,hw6⟩:∃yy:World,yy=(w5.alloc (.cells #[.int .i64 x.lc,.slice A x.s.acts.length c,.int .i64 s'.at_,.slice B2 s'.locals.length d2] 82)).alloc (.cells #[.int .i64 q.what,.int .i64 q.loc,.int .i64 q.mode,.int .u64 (q.val:Int),.bool q.ex,.bool q.one] 100):=⟨_,rfl⟩
 have hb56:Below w5.heap.size w5 w6:=by rw[hw6];exact Kit.bl2
 have hP6:Blk w6 w5.heap.size 82 #[.int .i64 x.lc,.slice A x.s.acts.length c,.int .i64 s'.at_,.slice B2 s'.locals.length d2]:=by rw[hw6];exact(Blk.new _ _ _).alloc _
 have hQ6:Blk w6 (w5.heap.size+1) 100 #[.int .i64 q.what,.int .i64 q.loc,.int .i64 q.mode,.int .u64 (q.val:Int),.bool q.ex,.bool q.one]:=by rw[hw6];exact Blk.newAt (sizeA _ _) _ _
 rw[←hw6]
 clear hw6
 have hb36:=Kit.Below.then hb5 hb56
 have hX6:=hX3.below' hb36
 have hD6:=hD3.below' hb36
 have hE6:=hE3.below' hb36
 have hF6:=hF3.below' hb36
 have hW6:=hW3.below' hb36
 have hb6:Below gl w w6:=hb3.trans (hb36.mono (by omega))
 have hU6:=hU5.below hb56
 have hl5:=hb5.size
 have hlq:=hQ6.lt
 generalize hgp:w5.heap.size=gp at *
 generalize hgq:gp+1=gq at *
 clear hX3 hD3 hE3 hF3 hW3 hb3 hb36 hb56 hU5 hb5 hgp
 obtain⟨p0,p1,p2,p3⟩:=Kit.cells4 hP6
 have x0:w6.cell? ⟨gx,0,none⟩=some (.int .i64 x.lc):=hX6.cell 0
 have x1:w6.cell? ⟨gx,1,none⟩=some (.slice A x.s.acts.length c):=by rw[←HVA.out];exact hX6.cell 1
 have x2:w6.cell? ⟨gx,2,none⟩=some (.int .i64 x.s.at_):=hX6.cell 2
 have x3:∃v,w6.cell? ⟨gx,3,none⟩=some v:=⟨_,hX6.cell 3⟩
 obtain⟨v3,x3⟩:=x3
 have xf:=fun i=>hX6.frozen i
 go_upto_region 9 with fail
 obtain⟨w7,hw7⟩:∃yy:World,yy=(((w6.setCell ⟨gx,0,none⟩ (.int .i64 x.lc)).setCell ⟨gx,1,none⟩ (.slice A x.s.acts.length c)).setCell ⟨gx,2,none⟩ (.int .i64 s'.at_)).setCell ⟨gx,3,none⟩ (.slice B2 s'.locals.length d2):=⟨_,rfl⟩
 obtain⟨x',hx'⟩:∃y:TC,y = { x with s:=s',vl:=.slice B2 s'.locals.length d2 }:=⟨_,rfl⟩
 have hthx:thC mz x' = [.int .i64 x.lc,.slice A x.s.acts.length c,.int .i64 s'.at_,.slice B2 s'.locals.length d2]++(mz++[x.vn,.int .i64 (-1)]):=by rw[hx',←HVA.out];rfl
 have HTHX:=Lib.hid hthx
 have HXD:=Lib.hid hx'
 clear hx'
 have hX7:Blk w7 gx 94 (thC mz x').toArray:=by
  rw[hw7,HTHX.out,←thC_set]
  exact(((hX6.set 0 _).set 1 _).set 2 _).set 3 _
 have hk67:∀k,k≠gx→w7.heap[k]?=w6.heap[k]?:=fun k hk=>by rw[hw7,keep_set4 hk]
 have hb7:Below gl w w7:=by rw[hw7];exact below_set4 hb6 (by omega) _ _ _ _
 have hD7:Blk w7 gl 47 #[.bool false,.int .i64 nc,.slice (some ⟨g,0,none⟩) V.tcs.length cap,.slice ae r.events.length ce,.slice af r.rf.length cf,.slice am r.rmw.length cm,.slice ao V.vo.length co,.slice al r.log.length cl,.slice ap r.picks.length cp,.int .i64 r.used]:=(hk67 gl (by omega)).trans hD6
 have hE7:Blk w7 (gl+1) 47 #[.bool false,.int .i64 0,.slice none 0 0,.slice none 0 0,.slice none 0 0,.slice none 0 0,.slice none 0 0,.slice none 0 0,.slice none 0 0,.int .i64 0]:=(hk67 _ (by omega)).trans hE6
 have hF7:Blk w7 (gl+1+1) 100 #[.int .i64 0,.int .i64 0,.int .i64 0,.int .u64 0,.bool false,.bool false]:=(hk67 _ (by omega)).trans hF6
 have hW7:Blk w7 gw 100 #[.int .i64 0,.int .i64 0,.int .i64 0,.int .u64 0,.bool false,.bool false]:=(hk67 _ (by omega)).trans hW6
 have hQ7:Blk w7 gq 100 #[.int .i64 q.what,.int .i64 q.loc,.int .i64 q.mode,.int .u64 (q.val:Int),.bool q.ex,.bool q.one]:=(hk67 _ (by omega)).trans hQ6
 have hU7:U64O w7 (.slice B2 s'.locals.length d2) s'.locals:=hU6.kept hX6 (by decide) hk67
 rw[←hw7]
 clear hw7 hX6 hD6 hE6 hF6 hW6 hQ6 hP6 hb6 hU6 hk67 p0 p1 p2 p3 x0 x1 x2 x3 xf hthx
 obtain⟨q0,q1,q2,q3,q4,q5⟩:=Kit.cells6 hQ7
 obtain⟨y0,y1,y2,y3,y4,y5⟩:=Kit.cells6 hW7
 have yf:=fun i=>hW7.frozen i
 go_upto_region 10 with fail
 obtain⟨w8,hw8⟩:∃yy:World,yy=(((((w7.setCell ⟨gw,0,none⟩ (.int .i64 q.what)).setCell ⟨gw,1,none⟩ (.int .i64 q.loc)).setCell ⟨gw,2,none⟩ (.int .i64 q.mode)).setCell ⟨gw,3,none⟩ (.int .u64 (q.val:Int))).setCell ⟨gw,4,none⟩ (.bool q.ex)).setCell ⟨gw,5,none⟩ (.bool q.one):=⟨_,rfl⟩
 have hW8:Blk w8 gw 100 #[.int .i64 q.what,.int .i64 q.loc,.int .i64 q.mode,.int .u64 (q.val:Int),.bool q.ex,.bool q.one]:=by rw[hw8];exact blk_set6 hW7 _ _ _ _ _ _
 have hk78:∀k,k≠gw→w8.heap[k]?=w7.heap[k]?:=fun k hk=>by rw[hw8,keep_set6 hk]
 have hb8:Below gl w w8:=by rw[hw8];exact below_setB6 hb7 (by omega) _ _ _ _ _ _
 have hX8:Blk w8 gx 94 (thC mz x').toArray:=(hk78 _ (by omega)).trans hX7
 have hD8:=(hk78 gl (by omega)).trans hD7
 have hE8:Blk w8 (gl+1) 47 #[.bool false,.int .i64 0,.slice none 0 0,.slice none 0 0,.slice none 0 0,.slice none 0 0,.slice none 0 0,.slice none 0 0,.slice none 0 0,.int .i64 0]:=(hk78 _ (by omega)).trans hE7
 have hF8:Blk w8 (gl+1+1) 100 #[.int .i64 0,.int .i64 0,.int .i64 0,.int .u64 0,.bool false,.bool false]:=(hk78 _ (by omega)).trans hF7
 have hU8:U64O w8 (.slice B2 s'.locals.length d2) s'.locals:=hU7.kept hW7 (by decide) hk78
 rw[←hw8]
 clear hw8 hX7 hD7 hE7 hF7 hW7 hQ7 hb7 hU7 hk78 q0 q1 q2 q3 q4 q5 y0 y1 y2 y3 y4 y5 yf
 have k2:w8.cell? ⟨gl,2,none⟩=some (.slice (some ⟨g,0,none⟩) V.tcs.length cap):=Blk.cell hD8 2
 have HTR:Hid (w8.there g (t*101) (thC mz x').toArray.size):=Lib.hid (by
  rw[thC_size hz]
  intro j hj
  have h2:=HT.out.there hz hlt j hj
  have hgl2:g<gl:=by rw[←HGL.out];exact HT.out.lt
  exact⟨by rw[hb8.cell (p:=⟨g,t*101+j,none⟩) hgl2];exact h2.1,by rw[hb8.frozen (p:=⟨g,t*101+j,none⟩) hgl2];exact h2.2⟩)
 have HRX:Hid (w8.rangeAt gx 0 (thC mz x')):=Lib.hid (blk_range hX8)
 have HON':Hid ((thC mz x').toArray.all (·.oneCell')=true):=Lib.hid (by
  have h1:=thC_one ho HOK.out
  rw[HTHX.out]
  refine all_oneCell_toArray fun v hv=>?_
  have h2:=fun v (hv:v∈thC mz x)=>(Array.all_eq_true_iff_forall_mem.1 h1) v (by simpa using hv)
  simp only[List.mem_append,List.mem_cons,List.not_mem_nil,or_false]at hv
  rcases hv with (rfl | rfl | rfl | rfl) | hv | rfl | rfl
  any_goals rfl
  ·exact List.all_eq_true.1 ho v hv
  ·exact h2 _ (by simp[thC]))
 go_upto_region 11 with (first |(refine wpList_store_mid rfl 94 (.tmp 53) (.tmp 52) rfl g (t*101) (thC mz x').toArray rfl rfl HTR.out (by rw[thC_size hz];exact size_th) HON'.out ?_) |(refine wpList_load_mid rfl 94 (.tmp 6) rfl gx 0 rfl (thC mz x') _ HRX.out Tryz.underlying94 rfl (by rw[thC_len hz];exact size_th) ?_))
 clear k2
 obtain⟨w9,hw9⟩:∃yy:World,yy=w8.setCells g (t*101) (thC mz x').toArray.toList:=⟨_,rfl⟩
 rw[←hw9]
 have hk89:KeptS (fun k=>k=g) w8 w9:=by rw[hw9];exact setCells_kept _ _ _
 have hgl2:g<gl:=by rw[←HGL.out];exact HT.out.lt
 have hD9:=hk89.blk hD8 (by omega)
 have hE9:=hk89.blk hE8 (by omega)
 have hF9:=hk89.blk hF8 (by omega)
 have hW9:=hk89.blk hW8 (by omega)
 have HW9:=Lib.hid hw9
 clear hw9 hX8 hD8 hE8 hF8 hW8 HTR HRX HON'
 obtain⟨S,hS⟩:∃S:Nat→Prop,∀k,S k↔(k=gl+1∨k=gl+1+1):=⟨_,fun _=>Iff.rfl⟩
 have HSS:=Lib.hid hS
 clear hS
 obtain⟨kd0,kd1,kd2,kd3,kd4,kd5,kd6,kd7,kd8,kd9⟩:=Kit.cellsA10 fun p:Cls (KeptS S w9)=>(p.h.blk hD9 (by rw[HSS.out];omega))
 obtain⟨kw0,kw1,kw2,kw3,kw4,kw5⟩:=Kit.cellsA6 fun p:Cls (KeptS S w9)=>(p.h.blk hW9 (by rw[HSS.out];omega))
 simp only[Act.put]
 have hne:Nonempty (Cls (KeptS S w9)):=⟨⟨w9,KeptS.refl _ _⟩⟩
 have hkd:KeptS S w9 (w9.drewN 1):=(KeptS.refl _ w9).dn 1
 refine wp_region_float_go (fun w'=>∃p:Cls (KeptS S w9),w'=p.w) 4 (by kernel_rfl) rfl ?_
 refine floatG_reads 2 [0,1] ⟨⟨_,hkd⟩,rfl⟩ rfl (by kernel_rfl) ?_
 simp only[pickL,List.map_cons,List.map_nil,List.getElem?_cons_succ,List.getElem?_cons_zero,Option.getD_some]
 repeat (go_big_quiet_step (fail))
 refine wpQuiet_nil ?_
 clear hne kd0 kd1 kd2 kd3 kd4 kd5 kd6 kd7 kd8 kd9 kw0 kw1 kw2 kw3 kw4 kw5
 obtain⟨w10,hw10⟩:∃yy:World,yy=w9.drewN 1:=⟨_,rfl⟩
 have hE10:Blk w10 (gl+1) 47 #[.bool false,.int .i64 0,.slice none 0 0,.slice none 0 0,.slice none 0 0,.slice none 0 0,.slice none 0 0,.slice none 0 0,.slice none 0 0,.int .i64 0]:=by rw[hw10];exact hE9.drewN 1
 have hF10:Blk w10 (gl+1+1) 100 #[.int .i64 0,.int .i64 0,.int .i64 0,.int .u64 0,.bool false,.bool false]:=by rw[hw10];exact hF9.drewN 1
 have hb910:Below w9.heap.size w9 w10:=by rw[hw10];exact Below_drewN _ 1
 rw[←hw10]at hkd ⊢
 clear hw10
 obtain⟨z0,z1,z2,z3,z4,z5,z6,z7,z8,z9⟩:=Kit.cells10 hE10
 have zf:=fun i=>hE10.frozen i
 refine fG (i:=2) rfl ?_
 go_wp2_with fail
 clear zf z0 z1 z2 z3 z4 z5 z6 z7 z8 z9
 refine(show onG _ _ _ _ _ (RunW.putL w10 (gl+1) 0 [.bool false,.int .i64 nc,.slice (some ⟨g,0,none⟩) V.tcs.length cap,.slice ae r.events.length ce,.slice af r.rf.length cf,.slice am r.rmw.length cm,.slice ao V.vo.length co,.slice al r.log.length cl,.slice ap r.picks.length cp,.int .i64 r.used])from RunW.putL_go hE10 rfl fun w11 hE11 hk11=>?_)
 have hF11:=hk11.blk hF10 (by omega)
 have hkd11:KeptS S w9 w11:=hkd.trans (hk11.mono (fun k hk=>(HSS.out k).2 (.inl hk)))
 clear hE10 hF10 hkd
 refine Kit.oG hkd11 ?_
 obtain⟨y0,y1,y2,y3,y4,y5⟩:=Kit.cells6 hF11
 have yf:=fun i=>hF11.frozen i
 refine fG (i:=3) rfl ?_
 go_wp2_with fail
 obtain⟨wf,hwf⟩:∃yy:World,yy=((((((w11.setCell ⟨gl+1+1,0,none⟩ (.int .i64 q.what)).setCell ⟨gl+1+1,1,none⟩ (.int .i64 q.loc)).setCell ⟨gl+1+1,2,none⟩ (.int .i64 q.mode)).setCell ⟨gl+1+1,3,none⟩ (.int .u64 (q.val:Int))).setCell ⟨gl+1+1,4,none⟩ (.bool q.ex)).setCell ⟨gl+1+1,5,none⟩ (.bool q.one)):=⟨_,rfl⟩
 have hFf:Blk wf (gl+1+1) 100 #[.int .i64 q.what,.int .i64 q.loc,.int .i64 q.mode,.int .u64 (q.val:Int),.bool q.ex,.bool q.one]:=by rw[hwf];exact blk_set6 hF11 _ _ _ _ _ _
 have hk1f:KeptS (fun k=>k=gl+1+1) w11 wf:=by rw[hwf];exact((((((KeptS.refl (fun k=>k=gl+1+1) w11).set rfl 0 _).set rfl 1 _).set rfl 2 _).set rfl 3 _).set rfl 4 _).set rfl 5 _
 have hEf:=hk1f.blk hE11 (by omega)
 have hkdf:KeptS S w9 wf:=hkd11.trans (hk1f.mono (fun k hk=>(HSS.out k).2 (.inr hk)))
 rw[←hwf]
 clear hwf y0 y1 y2 y3 y4 y5 yf
 refine Kit.oG hkdf ?_
 refine(show tailG _ _ _ _ _ _ _ from⟨by kernel_rfl,?_⟩)
 simp only[List.drop_succ_cons,List.drop_nil]
 go_wp2_with fail
 obtain⟨e0,e1,e2,e3,e4,e5,e6,e7,e8,e9⟩:=Kit.cells10 hEf
 obtain⟨d0,d1,d2,d3,d4,d5⟩:=Kit.cells6 hFf
 refine bodyPost_ret (v:=.tuple #[.agg #[.bool false,.int .i64 nc,.slice (some ⟨g,0,none⟩) V.tcs.length cap,.slice ae r.events.length ce,.slice af r.rf.length cf,.slice am r.rmw.length cm,.slice ao V.vo.length co,.slice al r.log.length cl,.slice ap r.picks.length cp,.int .i64 r.used],.agg #[.int .i64 q.what,.int .i64 q.loc,.int .i64 q.mode,.int .u64 (q.val:Int),.bool q.ex,.bool q.one]]) (by simp[results,Tryz.results33,go_sem,e0,e1,e2,e3,e4,e5,e6,e7,e8,e9,d0,d1,d2,d3,d4,d5]) rfl ?_
 obtain⟨hv,hve,hvf,hvm,hvo,hvl,hvp⟩:=HV.out
 have hth:r.th t=x.rt:=by
  unfold RR.th
  rw[h.ths,Kit.gD,List.getElem?_map,HXX.out]
  rfl
 have hask:r.ask t=(r.setS t s',q):=by
  unfold RR.ask
  rw[hth]
  show(r.setS t x.s.asked.1,x.s.asked.2)=_
  rw[hs2]
 have hrs:r.setS t s' = { r with ths:=r.ths.set t x'.rt }:=by
  unfold RR.setS
  rw[hth,XD_rt HXD.out]
 have hR8:=h.below (w':=w8) (by rw[HGL.out];exact hb8)
 obtain⟨who',hR9,hw9'⟩:=hR8.setT hz hlt hv (x':=x') (by
   rw[HXD.out]
   show ActsAt w0 x.va s'.acts
   rw[hac5]
   exact HOK.out.acts) (by rw[HXD.out];exact hm5) (by rw[HXD.out];exact hU8) (by
   rw[HXD.out]
   exact OwnR.own_stays HOK.out.nums fun k hk=>hb8.block k (by rw[←HGL.out];exact OwnR.own_lt HOK.out.nums hk)) (by rw[HXD.out];exact HOK.out.free) (by rw[HXD.out];exact HOK.out.nilN)
 have e9:=HW9.out
 rw[←e9]at hR9
 have hlow:w0.heap.size≤gl:=by rw[←HGL.out];exact h.start.size
 have hR11:=hR9.other hE9 (fun q=>by cases q <;> decide) (by decide) (by omega) (w':=w11) ((KeptS.of_below hb910).trans hk11)
 have hRf:=hR11.other hF11 (fun q=>by cases q <;> decide) (by decide) (by omega) hk1f
 rw[hask,hrs]
 refine⟨{ V with tcs:=V.tcs.set t x' },?_,⟨⟨who',hRf,fun k hk=>?_⟩,?_⟩,⟨V.tcs.set t x',rfl⟩⟩
 ·show Ending.returned (.tuple #[.agg _,.agg _])=Ending.returned (.tuple #[.agg #[.bool false,.int .i64 (nc:Int),V.thr,V.ev,V.rf,V.rmw,V.outs,V.log,V.pks,.int .i64 (r.used:Int)],.agg (wantC q)])
  rw[hv,hve,hvf,hvm,hvo,hvl,hvp]
  rfl
 ·exact hw9' k (Nat.lt_of_lt_of_le hk hb8.size)
 ·have hkk:KeptS (fun k=>who k≠none) w w8:=KeptS.of_below (by rw[HGL.out];exact hb8)
  have hk9:KeptS (fun k=>who k≠none) w w9:=hkk.trans (hk89.mono fun k hk=>by
   rw[hk,h.mine .thr g (by simp[DV.val,hv,Value.ownBlock])]
   simp)
  exact⟨hkdf.1.trans hk9.1,hkdf.2.1.trans hk9.2.1,hkdf.2.2.1.trans hk9.2.2.1,Nat.le_trans hk9.size hkdf.size,fun k hk hn=>(hkdf.2.2.2.2 k (Nat.lt_of_lt_of_le hk hk9.size) (by rw[HSS.out];have:=HGL.out;omega)).trans (hk9.2.2.2.2 k hk hn)⟩
theorem Ask_any {mz:List Value} (hz:mz.length=95) (ho:mz.all (·.oneCell')=true) {w0:World} {nc:Nat} (hnc:nc≤4096) {w:World} {who:Nat→Option Dq} {V:DV} {r:RR} (h:RunAt mz w0 nc w who V r) (t:Nat) (ht:t<r.ths.length) :
  Calls Tryz.prog 33 #[.agg (runD nc V r),.int .i64 (t:Int)] w fun e w'=>∃V',e=.returned (.tuple #[.agg (runD nc V' (r.ask t).1),.agg (wantC (r.ask t).2)])∧DRet mz w0 nc w who w' V' (r.ask t).1 :=
 (Ask_keep hz ho hnc h t ht).mono fun _ _ ⟨V',h1,h2,_⟩=>⟨V',h1,h2⟩
end Go.Proofs.YtmjilfamjlnigaaGreat.RefW
