/- MEMORY: a run of threads: what its steps turn, one by one. -/
import Derived.Test.YtmjilfamjlnigaaGreatQ11
namespace Go.Proofs.YtmjilfamjlnigaaGreat.RunW
open Go Go.RowKit Kit SrcP SrcW MchW OwnR
section
variable {M:Type} {X:Mk M} {K:Kd M} {base gr nc:Nat} {w w' w1:World} {who who':Nat→Option Pt} {V V':RV} {r r':Rn M}
def Step (X:Mk M) (K:Kd M) (base gr nc:Nat) (w:World) (who:Nat→Option Pt) (V:RV) (w':World) (r':Rn M):Prop :=
 ∃who' V',RunW X K base gr nc w' who' V' r'∧Moves who who' w w'∧V'.gt=V.gt∧V'.gm=V.gm
theorem Step.refl (h:RunW X K base gr nc w who V r):Step X K base gr nc w who V w r:=⟨who,V,h,Moves.refl who w,rfl,rfl⟩
theorem RunW.run (h:RunW X K base gr nc w who V r):who gr=some .run∧Blk w gr 115 (runC K nc V r):=h.part .run
theorem RunW.own (h:RunW X K base gr nc w who V r) (q:Rw):w.ownsRow base (rowT q) (rowS q) (V.val q) (rowN V r q) (rowX V r q):=(h.part (.row q)).1
theorem RunW.ownW (h:RunW X K base gr nc w who V r) (q:Rw):∀k,(V.val q).ownBlock=some k→who k=some (.row q):=(h.part (.row q)).2
theorem RunW.rowRun (hX:MkM X) (h:RunW X K base gr nc w who V r) (q:Rw) (i g n cap:Nat) (hg:w.grownBy w1 (V.val q).ownBlock) (hat:(V.val q).ownBlock=some g∨g=w.heap.size) (hgl:g<w1.heap.size)
  (hrun:(runC K nc V r).setIfInBounds i (.slice (some ⟨g,0,none⟩) n cap)=runC K nc V' r') (hval:V'.val q=.slice (some ⟨g,0,none⟩) n cap) (ho:w1.ownsRow base (rowT q) (rowS q) (.slice (some ⟨g,0,none⟩) n cap) (rowN V' r' q) (rowX V' r' q))
  (ha:∀p,p≠.run→p≠.row q→Agree K nc V r V' r' p) (e1:V'.gt=V.gt) (e2:V'.gm=V.gm)
  (l1:V'.gt.length=r'.ths.length) (l2:V'.gm.length=r'.ths.length) (l3:V'.num.length=r'.ths.length) (l4:V'.outi.length=r'.outs.length) (l5:V'.coi.length=r'.co.length) :
  Step X K base gr nc w who V (w1.setCell ⟨gr,i,none⟩ (.slice (some ⟨g,0,none⟩) n cap)) r':=by
 obtain⟨r1,r2⟩:=h.run
 obtain⟨who',h1,h2⟩:=h.rowAt hX q (fun p=>p=.run) .run gr i g rfl hg hat hgl (fun e=>by cases e) rfl r1 ⟨_,_,r2,hX.run⟩ hval ho (fun p hp hk who2 hw=>by
  subst hp
  refine⟨(hw gr).2 r1,?_⟩
  have hb1:Blk w1 gr 115 (runC K nc V r):=(hk gr r1).trans r2
  have:=hb1.set i (.slice (some ⟨g,0,none⟩) n cap)
  rw[hrun]at this
  exact this) (fun p hp hq=>ha p hp hq) l1 l2 l3 l4 l5
 exact⟨who',V',h1,h2,e1,e2⟩
theorem flat_snoc {α:Type} (f:α→List Value) (l:List α) (a:α):(l++[a]).flatMap f=l.flatMap f++f a:=by rw[List.flatMap_append];simp
theorem RunW.evs (hX:MkM X) (h:RunW X K base gr nc w who V r) (a:Ev) {g cap:Nat} (hg:w.grownBy w1 V.ev.ownBlock) (hat:V.ev.ownBlock=some g∨g=w.heap.size) (hgl:g<w1.heap.size)
  (ho:w1.ownsRow base (rowT .ev) (rowS .ev) (.slice (some ⟨g,0,none⟩) (r.events.length+1) cap) (r.events.length+1) (r.events.flatMap evC++evC a)) :
  Step X K base gr nc w who V (w1.setCell ⟨gr,6,none⟩ (.slice (some ⟨g,0,none⟩) (r.events.length+1) cap)) { r with events:=r.events++[a] }:=by
 have ho':w1.ownsRow base (rowT .ev) (rowS .ev) (.slice (some ⟨g,0,none⟩) (r.events.length+1) cap) (r.events++[a]).length ((r.events++[a]).flatMap evC):=by
  rw[flat_snoc,List.length_append,List.length_singleton];exact ho
 refine h.rowRun hX .ev 6 g _ cap (V':={ V with ev:=.slice (some ⟨g,0,none⟩) (r.events.length+1) cap }) (r':={ r with events:=r.events++[a] }) hg hat hgl rfl rfl ho'
  (fun p hp1 hp2=>by
    cases p with
    | run=>exact absurd rfl hp1
    | th u=>exact⟨⟨rfl,rfl,rfl⟩,rfl⟩
    | mach u=>exact⟨rfl,rfl⟩
    | row q=>cases q <;> first | exact absurd rfl hp2 | exact⟨rfl,rfl,rfl⟩) rfl rfl h.gtl h.gml h.numl h.outl h.col
theorem RunW.rfs (hX:MkM X) (h:RunW X K base gr nc w who V r) (a:Nat × Nat) {g cap:Nat} (hg:w.grownBy w1 V.rf.ownBlock) (hat:V.rf.ownBlock=some g∨g=w.heap.size) (hgl:g<w1.heap.size)
  (ho:w1.ownsRow base (rowT .rf) (rowS .rf) (.slice (some ⟨g,0,none⟩) (r.rf.length+1) cap) (r.rf.length+1) (r.rf.flatMap pairC++pairC a)) :
  Step X K base gr nc w who V (w1.setCell ⟨gr,7,none⟩ (.slice (some ⟨g,0,none⟩) (r.rf.length+1) cap)) { r with rf:=r.rf++[a] }:=by
 have ho':w1.ownsRow base (rowT .rf) (rowS .rf) (.slice (some ⟨g,0,none⟩) (r.rf.length+1) cap) (r.rf++[a]).length ((r.rf++[a]).flatMap pairC):=by
  rw[flat_snoc,List.length_append,List.length_singleton];exact ho
 refine h.rowRun hX .rf 7 g _ cap (V':={ V with rf:=.slice (some ⟨g,0,none⟩) (r.rf.length+1) cap }) (r':={ r with rf:=r.rf++[a] }) hg hat hgl rfl rfl ho'
  (fun p hp1 hp2=>by
    cases p with
    | run=>exact absurd rfl hp1
    | th u=>exact⟨⟨rfl,rfl,rfl⟩,rfl⟩
    | mach u=>exact⟨rfl,rfl⟩
    | row q=>cases q <;> first | exact absurd rfl hp2 | exact⟨rfl,rfl,rfl⟩) rfl rfl h.gtl h.gml h.numl h.outl h.col
theorem RunW.rmws (hX:MkM X) (h:RunW X K base gr nc w who V r) (a:Nat × Nat) {g cap:Nat} (hg:w.grownBy w1 V.rmw.ownBlock) (hat:V.rmw.ownBlock=some g∨g=w.heap.size) (hgl:g<w1.heap.size)
  (ho:w1.ownsRow base (rowT .rmw) (rowS .rmw) (.slice (some ⟨g,0,none⟩) (r.rmw.length+1) cap) (r.rmw.length+1) (r.rmw.flatMap pairC++pairC a)) :
  Step X K base gr nc w who V (w1.setCell ⟨gr,9,none⟩ (.slice (some ⟨g,0,none⟩) (r.rmw.length+1) cap)) { r with rmw:=r.rmw++[a] }:=by
 have ho':w1.ownsRow base (rowT .rmw) (rowS .rmw) (.slice (some ⟨g,0,none⟩) (r.rmw.length+1) cap) (r.rmw++[a]).length ((r.rmw++[a]).flatMap pairC):=by
  rw[flat_snoc,List.length_append,List.length_singleton];exact ho
 refine h.rowRun hX .rmw 9 g _ cap (V':={ V with rmw:=.slice (some ⟨g,0,none⟩) (r.rmw.length+1) cap }) (r':={ r with rmw:=r.rmw++[a] }) hg hat hgl rfl rfl ho'
  (fun p hp1 hp2=>by
    cases p with
    | run=>exact absurd rfl hp1
    | th u=>exact⟨⟨rfl,rfl,rfl⟩,rfl⟩
    | mach u=>exact⟨rfl,rfl⟩
    | row q=>cases q <;> first | exact absurd rfl hp2 | exact⟨rfl,rfl,rfl⟩) rfl rfl h.gtl h.gml h.numl h.outl h.col
theorem RunW.logs (hX:MkM X) (h:RunW X K base gr nc w who V r) (a:Nat) {g cap:Nat} (hg:w.grownBy w1 V.log.ownBlock) (hat:V.log.ownBlock=some g∨g=w.heap.size) (hgl:g<w1.heap.size)
  (ho:w1.ownsRow base (rowT .log) (rowS .log) (.slice (some ⟨g,0,none⟩) (r.log.length+1) cap) (r.log.length+1) (r.log.map i64V++[i64V a])) :
  Step X K base gr nc w who V (w1.setCell ⟨gr,14,none⟩ (.slice (some ⟨g,0,none⟩) (r.log.length+1) cap)) { r with log:=r.log++[a] }:=by
 have ho':w1.ownsRow base (rowT .log) (rowS .log) (.slice (some ⟨g,0,none⟩) (r.log.length+1) cap) (r.log++[a]).length ((r.log++[a]).map i64V):=by
  rw[List.map_append,List.length_append,List.length_singleton];exact ho
 refine h.rowRun hX .log 14 g _ cap (V':={ V with log:=.slice (some ⟨g,0,none⟩) (r.log.length+1) cap }) (r':={ r with log:=r.log++[a] }) hg hat hgl rfl rfl ho'
  (fun p hp1 hp2=>by
    cases p with
    | run=>exact absurd rfl hp1
    | th u=>exact⟨⟨rfl,rfl,rfl⟩,rfl⟩
    | mach u=>exact⟨rfl,rfl⟩
    | row q=>cases q <;> first | exact absurd rfl hp2 | exact⟨rfl,rfl,rfl⟩) rfl rfl h.gtl h.gml h.numl h.outl h.col
theorem RunW.lasts (hX:MkM X) (h:RunW X K base gr nc w who V r) (a:Nat) {g cap:Nat} (hg:w.grownBy w1 V.last.ownBlock) (hat:V.last.ownBlock=some g∨g=w.heap.size) (hgl:g<w1.heap.size)
  (ho:w1.ownsRow base (rowT .last) (rowS .last) (.slice (some ⟨g,0,none⟩) (r.last.length+1) cap) (r.last.length+1) (r.last.map i64V++[i64V a])) :
  Step X K base gr nc w who V (w1.setCell ⟨gr,4,none⟩ (.slice (some ⟨g,0,none⟩) (r.last.length+1) cap)) { r with last:=r.last++[a] }:=by
 have ho':w1.ownsRow base (rowT .last) (rowS .last) (.slice (some ⟨g,0,none⟩) (r.last.length+1) cap) (r.last++[a]).length ((r.last++[a]).map i64V):=by
  rw[List.map_append,List.length_append,List.length_singleton];exact ho
 refine h.rowRun hX .last 4 g _ cap (V':={ V with last:=.slice (some ⟨g,0,none⟩) (r.last.length+1) cap }) (r':={ r with last:=r.last++[a] }) hg hat hgl rfl rfl ho'
  (fun p hp1 hp2=>by
    cases p with
    | run=>exact absurd rfl hp1
    | th u=>exact⟨⟨rfl,rfl,rfl⟩,rfl⟩
    | mach u=>exact⟨rfl,rfl⟩
    | row q=>cases q <;> first | exact absurd rfl hp2 | exact⟨rfl,rfl,rfl⟩) rfl rfl h.gtl h.gml h.numl h.outl h.col
theorem getD_snoc {α:Type} (l:List α) (d:α) (i:Nat):(l++[d]).getD i d=l.getD i d:=by
 simp only[List.getD_eq_getElem?_getD]
 rcases Nat.lt_trichotomy i l.length with h | h | h
 ·rw[List.getElem?_append_left h]
 ·subst h;simp
 ·rw[List.getElem?_eq_none (by simp;omega),List.getElem?_eq_none (by omega)]
theorem RunW.outsAdd (hX:MkM X) (h:RunW X K base gr nc w who V r) {g cap:Nat} (hg:w.grownBy w1 V.outs.ownBlock) (hat:V.outs.ownBlock=some g∨g=w.heap.size) (hgl:g<w1.heap.size)
  (ho:w1.ownsRow base (rowT .outs) (rowS .outs) (.slice (some ⟨g,0,none⟩) (V.outi.length+1) cap) (V.outi.length+1) (V.outi++[nilV])) :
  Step X K base gr nc w who V (w1.setCell ⟨gr,13,none⟩ (.slice (some ⟨g,0,none⟩) (V.outi.length+1) cap)) { r with outs:=r.outs++[[]] }:=by
 have ho':w1.ownsRow base (rowT .outs) (rowS .outs) (.slice (some ⟨g,0,none⟩) (V.outi.length+1) cap) (V.outi++[nilV]).length (V.outi++[nilV]):=by
  rw[List.length_append,List.length_singleton];exact ho
 refine h.rowRun hX .outs 13 g _ cap (V':={ V with outs:=.slice (some ⟨g,0,none⟩) (V.outi.length+1) cap,outi:=V.outi++[nilV] }) (r':={ r with outs:=r.outs++[[]] }) hg hat hgl rfl rfl ho' (fun p hp1 hp2=>?_) rfl rfl h.gtl h.gml h.numl (by simpa using h.outl) h.col
 cases p with
 | run=>exact absurd rfl hp1
 | th u=>exact⟨⟨rfl,rfl,rfl⟩,rfl⟩
 | mach u=>exact⟨rfl,rfl⟩
 | row q =>
  cases q with
  | outs=>exact absurd rfl hp2
  | outi u=>exact⟨getD_snoc _ _ _,by simp only[rowN,getD_snoc],by simp only[rowX,getD_snoc]⟩
  | _=>exact⟨rfl,rfl,rfl⟩
theorem agree_t {t:Nat} {x y:Th M} {v':Value} (hx:r.ths[t]?=some x) (hm:y.m=x.m) (hl:t<V.num.length) (p:Pt) (hp:p≠.th t) (hq:p≠.row (.nums t)):Agree K nc V r { V with num:=V.num.set t v' } { r with ths:=r.ths.set t y } p:=by
 cases p with
 | run=>rfl
 | th u =>
  have hu:u≠t:=fun e=>hp (by rw[e])
  refine⟨⟨rfl,rfl,?_⟩,?_⟩
  ·simp only[List.getD_eq_getElem?_getD]
   rw[List.getElem?_set_ne (Ne.symm hu)]
  ·simp only[ths_set hx]
   rw[if_neg hu]
 | mach u =>
  refine⟨rfl,?_⟩
  simp only[ths_set hx]
  split
  ·rename_i e;subst e;rw[hx];simp[hm]
  ·rfl
 | row q =>
  cases q with
  | nums u =>
   have hu:u≠t:=fun e=>hq (by rw[e])
   have e:numsOf { r with ths:=r.ths.set t y } u=numsOf r u:=by
    rw[nums_set hx,if_neg hu]
   refine⟨?_,by simp only[rowN,e],by simp only[rowX,e]⟩
   simp only[RV.val,List.getD_eq_getElem?_getD]
   rw[List.getElem?_set_ne (Ne.symm hu)]
  | _=>exact⟨rfl,rfl,rfl⟩
theorem RunW.thOf (h:RunW X K base gr nc w who V r) {t:Nat} {x:Th M} (hx:r.ths[t]?=some x):∃gt gm,V.gt[t]?=some gt∧V.gm[t]?=some gm∧who gt=some (.th t)∧Blk w gt 127 (thC X V t gm x)∧X.Rep w (fun k=>who k=some (.mach t)) gm x.m:=by
 have hl:=(List.getElem?_eq_some_iff.1 hx).1
 have h1:V.gt[t]?=some (V.gt[t]'(by rw[h.gtl];exact hl)):=Kit.eG _
 have h2:V.gm[t]?=some (V.gm[t]'(by rw[h.gml];exact hl)):=Kit.eG _
 obtain⟨h3,h4⟩:=h.part (.th t) x _ _ hx h1 h2
 exact⟨_,_,h1,h2,h3,h4,h.part (.mach t) x _ hx h2⟩
theorem numsOf_eq {t:Nat} {x:Th M} (hx:r.ths[t]?=some x):numsOf r t=x.nums:=by unfold numsOf;rw[hx]
theorem RunW.nums (hX:MkM X) (h:RunW X K base gr nc w who V r) {t:Nat} {x:Th M} (hx:r.ths[t]?=some x) {gt:Nat} (hgt:V.gt[t]?=some gt) (a:Nat) {g cap:Nat} (hg:w.grownBy w1 (V.num.getD t nilV).ownBlock) (hat:(V.num.getD t nilV).ownBlock=some g∨g=w.heap.size) (hgl:g<w1.heap.size)
  (ho:w1.ownsRow base (rowT (.nums t)) (rowS (.nums t)) (.slice (some ⟨g,0,none⟩) (x.nums.length+1) cap) (x.nums.length+1) (x.nums.map i64V++[i64V a])) :
  Step X K base gr nc w who V (w1.setCell ⟨gt,1,none⟩ (.slice (some ⟨g,0,none⟩) (x.nums.length+1) cap)) { r with ths:=r.ths.set t { x with nums:=x.nums++[a] } }:=by
 have hl:=(List.getElem?_eq_some_iff.1 hx).1
 have hl2:t<V.num.length:=by rw[h.numl];exact hl
 obtain⟨gt',gm,e1,hgm,hw,hb,_⟩:=h.thOf hx
 rw[hgt]at e1
 obtain rfl:=Option.some.inj e1
 have hnum:numsOf { r with ths:=r.ths.set t { x with nums:=x.nums++[a] } } t=x.nums++[a]:=by rw[nums_set hx,if_pos rfl]
 have hget:(V.num.set t (.slice (some ⟨g,0,none⟩) (x.nums.length+1) cap)).getD t nilV=.slice (some ⟨g,0,none⟩) (x.nums.length+1) cap:=by
  rw[Kit.gD,List.getElem?_set_self hl2];rfl
 obtain⟨who',h1,h2⟩:=h.rowAt hX (.nums t) (fun p=>p=.th t) (.th t) gt 1 g (V':={ V with num:=V.num.set t (.slice (some ⟨g,0,none⟩) (x.nums.length+1) cap) }) (r':={ r with ths:=r.ths.set t { x with nums:=x.nums++[a] } }) rfl hg hat hgl (fun e=>by cases e) rfl hw ⟨_,_,hb,hX.th⟩ hget
  (by
   show w1.ownsRow base _ _ _ (numsOf _ t).length ((numsOf _ t).map i64V)
   rw[hnum,List.map_append,List.length_append,List.length_singleton];exact ho)
  (fun p hp hk who2 hw2=>by
   subst hp
   intro y gt' gm' h1 h2 h3
   simp only[ths_set hx,if_true]at h1
   obtain rfl:=Option.some.inj h1
   rw[hgt]at h2
   obtain rfl:=Option.some.inj h2
   rw[hgm]at h3
   obtain rfl:=Option.some.inj h3
   refine⟨(hw2 _).2 hw,?_⟩
   have hb1:Blk w1 gt 127 (thC X V t gm x):=(hk gt hw).trans hb
   have:=hb1.set 1 (.slice (some ⟨g,0,none⟩) (x.nums.length+1) cap)
   unfold thC at this ⊢
   rw[hget]
   exact this)
  (fun p hp hq=>agree_t (y:={ x with nums:=x.nums++[a] }) hx rfl hl2 p hp hq) (by simpa using h.gtl) (by simpa using h.gml) (by simpa using h.numl) h.outl h.col
 exact⟨who',_,h1,h2,rfl,rfl⟩
theorem RunW.exs (hX:MkM X) (h:RunW X K base gr nc w who V r) {t:Nat} {x:Th M} (hx:r.ths[t]?=some x) {gt:Nat} (hgt:V.gt[t]?=some gt) (a:Int) :
  Step X K base gr nc w who V (w.setCell ⟨gt,2,none⟩ (.int .i64 a)) { r with ths:=r.ths.set t { x with ex:=a } }:=by
 have hl:=(List.getElem?_eq_some_iff.1 hx).1
 have hl2:t<V.num.length:=by rw[h.numl];exact hl
 obtain⟨gt',gm,e1,hgm,hw,hb,_⟩:=h.thOf hx
 rw[hgt]at e1
 obtain rfl:=Option.some.inj e1
 have hset:V.num.set t (V.num.getD t nilV)=V.num:=by
  rw[Kit.gD,Kit.eG hl2]
  exact List.set_getElem_self hl2
 have hag:=agree_t (K:=K) (nc:=nc) (V:=V) (v':=V.num.getD t nilV) hx (y:={ x with ex:=a }) rfl hl2
 rw[hset]at hag
 obtain⟨h1,h2⟩:=h.setAt hX (.th t) gt 2 (.int .i64 a) (V':=V) (r':={ r with ths:=r.ths.set t { x with ex:=a } }) hw ⟨_,_,hb,hX.th⟩
  (by
   intro y gt' gm' h1 h2 h3
   simp only[ths_set hx,if_true]at h1
   obtain rfl:=Option.some.inj h1
   rw[hgt]at h2
   obtain rfl:=Option.some.inj h2
   rw[hgm]at h3
   obtain rfl:=Option.some.inj h3
   exact⟨hw,hb.set 2 (.int .i64 a)⟩)
  (fun p hp=>by
   by_cases hq:p=.row (.nums t)
   ·subst hq
    have e:numsOf { r with ths:=r.ths.set t { x with ex:=a } } t=numsOf r t:=by rw[nums_set hx,if_pos rfl,numsOf_eq hx]
    exact⟨rfl,by simp only[rowN,e],by simp only[rowX,e]⟩
   ·exact hag p hp hq) (by simpa using h.gtl) (by simpa using h.gml) (by simpa using h.numl) h.outl h.col
 exact⟨who,_,h1,h2,rfl,rfl⟩
theorem RunW.useds (hX:MkM X) (h:RunW X K base gr nc w who V r) (n:Nat):Step X K base gr nc w who V (w.setCell ⟨gr,15,none⟩ (.int .i64 (n:Int))) { r with used:=n }:=by
 obtain⟨r1,r2⟩:=h.run
 obtain⟨h1,h2⟩:=h.setAt hX .run gr 15 (.int .i64 (n:Int)) (V':=V) (r':={ r with used:=n }) r1 ⟨_,_,r2,hX.run⟩ ⟨r1,r2.set 15 (.int .i64 (n:Int))⟩ (fun p hp1=>by
  cases p with
  | run=>exact absurd rfl hp1
  | th u=>exact⟨⟨rfl,rfl,rfl⟩,rfl⟩
  | mach u=>exact⟨rfl,rfl⟩
  | row q=>cases q <;> exact⟨rfl,rfl,rfl⟩) h.gtl h.gml h.numl h.outl h.col
 exact⟨who,_,h1,h2,rfl,rfl⟩
theorem RunW.slice (h:RunW X K base gr nc w who V r) (q:Rw) (hn:0<rowN V r q):∃g cap,V.val q=.slice (some ⟨g,0,none⟩) (rowN V r q) cap∧who g=some (.row q)∧(∃cs,Blk w g (rowT q) cs)∧(∀o,w.frozen? ⟨g,o,none⟩=false)∧∀(j:Nat) (u:Value),(rowX V r q)[j]?=some u→w.cell? ⟨g,j,none⟩=some u:=by
 obtain⟨g,cap,hv,_,_,_,hf,hc⟩:=own_cells (h.own q) hn
 have hk:(V.val q).ownBlock=some g:=by rw[hv];rfl
 exact⟨g,cap,hv,h.ownW q g hk,row_type h q hk,hf,hc⟩
theorem RunW.cellS (hX:MkM X) (h:RunW X K base gr nc w who V r) {g cap i:Nat} (hv:V.cells=.slice (some ⟨g,0,none⟩) r.cells.length cap) (hi:i<r.cells.length) (a:Nat) :
  RunW X K base gr nc (w.setCell ⟨g,i,none⟩ (u64V a)) who V { r with cells:=r.cells.set i a }∧Moves who who w (w.setCell ⟨g,i,none⟩ (u64V a)):=by
 have hk:(V.val .cells).ownBlock=some g:=by show V.cells.ownBlock=_;rw[hv];rfl
 have hw:=h.ownW .cells g hk
 obtain⟨cs,hb⟩:=row_type h .cells hk
 have ho:=h.own .cells
 simp only[RV.val,rowN,rowX]at ho
 rw[hv]at ho
 have ho2:=own_set ho (j:=i) (by simpa using hi) (u64V a)
 obtain⟨h1,h2⟩:=h.setAt hX (.row .cells) g i (u64V a) (V':=V) (r':={ r with cells:=r.cells.set i a }) hw ⟨_,_,hb,hX.rows _⟩
  ⟨by
   simp only[RV.val,rowN,rowX]
   rw[hv,List.map_set,List.length_set]
   exact ho2,fun k hk=>h.ownW .cells k hk⟩
  (fun p hp1=>by
   cases p with
   | run=>rfl
   | th u=>exact⟨⟨rfl,rfl,rfl⟩,rfl⟩
   | mach u=>exact⟨rfl,rfl⟩
   | row q=>cases q <;> first | exact absurd rfl hp1 | exact⟨rfl,rfl,rfl⟩) h.gtl h.gml h.numl h.outl h.col
 exact⟨h1,h2⟩
theorem RunW.lastS (hX:MkM X) (h:RunW X K base gr nc w who V r) {g cap i:Nat} (hv:V.last=.slice (some ⟨g,0,none⟩) r.last.length cap) (hi:i<r.last.length) (a:Nat) :
  RunW X K base gr nc (w.setCell ⟨g,i,none⟩ (i64V a)) who V { r with last:=r.last.set i a }∧Moves who who w (w.setCell ⟨g,i,none⟩ (i64V a)):=by
 have hk:(V.val .last).ownBlock=some g:=by show V.last.ownBlock=_;rw[hv];rfl
 have hw:=h.ownW .last g hk
 obtain⟨cs,hb⟩:=row_type h .last hk
 have ho:=h.own .last
 simp only[RV.val,rowN,rowX]at ho
 rw[hv]at ho
 have ho2:=own_set ho (j:=i) (by simpa using hi) (i64V a)
 obtain⟨h1,h2⟩:=h.setAt hX (.row .last) g i (i64V a) (V':=V) (r':={ r with last:=r.last.set i a }) hw ⟨_,_,hb,hX.rows _⟩
  ⟨by
   simp only[RV.val,rowN,rowX]
   rw[hv,List.map_set,List.length_set]
   exact ho2,fun k hk=>h.ownW .last k hk⟩
  (fun p hp1=>by
   cases p with
   | run=>rfl
   | th u=>exact⟨⟨rfl,rfl,rfl⟩,rfl⟩
   | mach u=>exact⟨rfl,rfl⟩
   | row q=>cases q <;> first | exact absurd rfl hp1 | exact⟨rfl,rfl,rfl⟩) h.gtl h.gml h.numl h.outl h.col
 exact⟨h1,h2⟩
theorem RunW.coiS (hX:MkM X) (h:RunW X K base gr nc w who V r) {gb capb c:Nat} (hvb:V.co=.slice (some ⟨gb,0,none⟩) V.coi.length capb) (hc:c<r.co.length) (a:Nat) {g cap:Nat} (hg:w.grownBy w1 (V.coi.getD c nilV).ownBlock) (hat:(V.coi.getD c nilV).ownBlock=some g∨g=w.heap.size) (hgl:g<w1.heap.size)
  (ho:w1.ownsRow base (rowT (.coi c)) (rowS (.coi c)) (.slice (some ⟨g,0,none⟩) ((r.co.getD c []).length+1) cap) ((r.co.getD c []).length+1) ((r.co.getD c []).map i64V++[i64V a])) :
  Step X K base gr nc w who V (w1.setCell ⟨gb,c,none⟩ (.slice (some ⟨g,0,none⟩) ((r.co.getD c []).length+1) cap)) { r with co:=r.co.set c (r.co.getD c []++[a]) }:=by
 have hl2:c<V.coi.length:=by first |(rw[h.col];exact hc) |(rw[h.outl];exact hc)
 have hk:(V.val .co).ownBlock=some gb:=by show V.co.ownBlock=_;rw[hvb];rfl
 have hw:=h.ownW .co gb hk
 obtain⟨cs,hb⟩:=row_type h .co hk
 have hob:=h.own .co
 simp only[RV.val,rowN,rowX]at hob
 have hnew:(r.co.set c (r.co.getD c []++[a])).getD c []=r.co.getD c []++[a]:=by
  rw[Kit.gD,List.getElem?_set_self hc];rfl
 have hget:(V.coi.set c (.slice (some ⟨g,0,none⟩) ((r.co.getD c []).length+1) cap)).getD c nilV=.slice (some ⟨g,0,none⟩) ((r.co.getD c []).length+1) cap:=by
  rw[Kit.gD,List.getElem?_set_self hl2];rfl
 obtain⟨who',h1,h2⟩:=h.rowAt hX (.coi c) (fun p=>p=.row .co) (.row .co) gb c g (V':={ V with coi:=V.coi.set c (.slice (some ⟨g,0,none⟩) ((r.co.getD c []).length+1) cap) }) (r':={ r with co:=r.co.set c (r.co.getD c []++[a]) }) rfl hg hat hgl (fun e=>by cases e) rfl hw ⟨_,_,hb,hX.rows _⟩ hget
  (by
   simp only[rowN,rowX]
   rw[hnew,List.map_append,List.length_append,List.length_singleton];exact ho)
  (fun p hp hkp who2 hw2=>by
   subst hp
   refine⟨?_,fun k hk'=>(hw2 k).2 (h.ownW .co k hk')⟩
   simp only[RV.val,rowN,rowX]
   rw[hvb]at hob ⊢
   have hob1:=own_stays (w':=w1) hob (fun k hk'=>hkp k (h.ownW .co k (by simp only[RV.val];rw[hvb];exact hk')))
   have:=own_set hob1 (j:=c) hl2 (.slice (some ⟨g,0,none⟩) ((r.co.getD c []).length+1) cap)
   rw[List.length_set]
   exact this)
  (fun p hp hq=>by
   cases p with
   | run=>rfl
   | th u=>exact⟨⟨rfl,rfl,rfl⟩,rfl⟩
   | mach u=>exact⟨rfl,rfl⟩
   | row q =>
    cases q with
    | co=>exact absurd rfl hp
    | coi u =>
     have hu:u≠c:=fun e=>hq (by rw[e])
     have e1:(r.co.set c (r.co.getD c []++[a])).getD u []=r.co.getD u []:=by
      rw[Kit.gD,List.getElem?_set_ne (Ne.symm hu),Kit.gD]
     refine⟨?_,by simp only[rowN,e1],by simp only[rowX,e1]⟩
     simp only[RV.val]
     rw[Kit.gD,List.getElem?_set_ne (Ne.symm hu),Kit.gD]
    | _=>exact⟨rfl,rfl,rfl⟩) h.gtl h.gml h.numl (by first | exact h.outl | simpa using h.outl) (by first | exact h.col | simpa using h.col)
 exact⟨who',_,h1,h2,rfl,rfl⟩
theorem RunW.outiS (hX:MkM X) (h:RunW X K base gr nc w who V r) {gb capb c:Nat} (hvb:V.outs=.slice (some ⟨gb,0,none⟩) V.outi.length capb) (hc:c<r.outs.length) (a:Nat) {g cap:Nat} (hg:w.grownBy w1 (V.outi.getD c nilV).ownBlock) (hat:(V.outi.getD c nilV).ownBlock=some g∨g=w.heap.size) (hgl:g<w1.heap.size)
  (ho:w1.ownsRow base (rowT (.outi c)) (rowS (.outi c)) (.slice (some ⟨g,0,none⟩) ((r.outs.getD c []).length+1) cap) ((r.outs.getD c []).length+1) ((r.outs.getD c []).map u64V++[u64V a])) :
  Step X K base gr nc w who V (w1.setCell ⟨gb,c,none⟩ (.slice (some ⟨g,0,none⟩) ((r.outs.getD c []).length+1) cap)) { r with outs:=r.outs.set c (r.outs.getD c []++[a]) }:=by
 have hl2:c<V.outi.length:=by first |(rw[h.col];exact hc) |(rw[h.outl];exact hc)
 have hk:(V.val .outs).ownBlock=some gb:=by show V.outs.ownBlock=_;rw[hvb];rfl
 have hw:=h.ownW .outs gb hk
 obtain⟨cs,hb⟩:=row_type h .outs hk
 have hob:=h.own .outs
 simp only[RV.val,rowN,rowX]at hob
 have hnew:(r.outs.set c (r.outs.getD c []++[a])).getD c []=r.outs.getD c []++[a]:=by
  rw[Kit.gD,List.getElem?_set_self hc];rfl
 have hget:(V.outi.set c (.slice (some ⟨g,0,none⟩) ((r.outs.getD c []).length+1) cap)).getD c nilV=.slice (some ⟨g,0,none⟩) ((r.outs.getD c []).length+1) cap:=by
  rw[Kit.gD,List.getElem?_set_self hl2];rfl
 obtain⟨who',h1,h2⟩:=h.rowAt hX (.outi c) (fun p=>p=.row .outs) (.row .outs) gb c g (V':={ V with outi:=V.outi.set c (.slice (some ⟨g,0,none⟩) ((r.outs.getD c []).length+1) cap) }) (r':={ r with outs:=r.outs.set c (r.outs.getD c []++[a]) }) rfl hg hat hgl (fun e=>by cases e) rfl hw ⟨_,_,hb,hX.rows _⟩ hget
  (by
   simp only[rowN,rowX]
   rw[hnew,List.map_append,List.length_append,List.length_singleton];exact ho)
  (fun p hp hkp who2 hw2=>by
   subst hp
   refine⟨?_,fun k hk'=>(hw2 k).2 (h.ownW .outs k hk')⟩
   simp only[RV.val,rowN,rowX]
   rw[hvb]at hob ⊢
   have hob1:=own_stays (w':=w1) hob (fun k hk'=>hkp k (h.ownW .outs k (by simp only[RV.val];rw[hvb];exact hk')))
   have:=own_set hob1 (j:=c) hl2 (.slice (some ⟨g,0,none⟩) ((r.outs.getD c []).length+1) cap)
   rw[List.length_set]
   exact this)
  (fun p hp hq=>by
   cases p with
   | run=>rfl
   | th u=>exact⟨⟨rfl,rfl,rfl⟩,rfl⟩
   | mach u=>exact⟨rfl,rfl⟩
   | row q =>
    cases q with
    | outs=>exact absurd rfl hp
    | outi u =>
     have hu:u≠c:=fun e=>hq (by rw[e])
     have e1:(r.outs.set c (r.outs.getD c []++[a])).getD u []=r.outs.getD u []:=by
      rw[Kit.gD,List.getElem?_set_ne (Ne.symm hu),Kit.gD]
     refine⟨?_,by simp only[rowN,e1],by simp only[rowX,e1]⟩
     simp only[RV.val]
     rw[Kit.gD,List.getElem?_set_ne (Ne.symm hu),Kit.gD]
    | _=>exact⟨rfl,rfl,rfl⟩) h.gtl h.gml h.numl (by first | exact h.outl | simpa using h.outl) (by first | exact h.col | simpa using h.col)
 exact⟨who',_,h1,h2,rfl,rfl⟩
end
end Go.Proofs.YtmjilfamjlnigaaGreat.RunW
