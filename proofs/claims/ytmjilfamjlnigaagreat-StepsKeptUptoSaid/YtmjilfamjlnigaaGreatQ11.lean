/- MEMORY: a run of threads, as it lies: each block belongs to one part. -/
import Derived.Test.YtmjilfamjlnigaaGreatQ10
import Derived.Test.YtmjilfamjlnigaaGreatQ09
import Derived.Test.YtmjilfamjlnigaaGreatQ04
namespace Go.Proofs.YtmjilfamjlnigaaGreat.RunW
open Go Go.RowKit Kit SrcP SrcW MchW OwnR
abbrev nilV:Value:=.slice none 0 0
def i64V (x:Nat):Value:=.int .i64 (x:Int)
def evC (e:Ev):List Value:=[.int .i64 e.thread,.int .i64 e.kind,.int .i64 e.loc,.int .u64 e.val,.int .i64 e.mode]
def pairC (p:Nat × Nat):List Value:=[i64V p.1,i64V p.2]
def ptrV (g:Nat):Value:=.pointer (some ⟨g,0,none⟩)
inductive Rw where
 | thr
 | cells
 | last
 | ev
 | rf
 | co
 | coi (c:Nat)
 | rmw
 | outs
 | outi (t:Nat)
 | log
 | nums (t:Nat)
inductive Pt where
 | run
 | th (t:Nat)
 | mach (t:Nat)
 | row (q:Rw)
structure RV where
 thr:Value
 cells:Value
 last:Value
 ev:Value
 rf:Value
 co:Value
 rmw:Value
 outs:Value
 log:Value
 coi:List Value
 outi:List Value
 num:List Value
 gt:List Nat
 gm:List Nat
def RV.val (V:RV):Rw→Value
 | .thr=>V.thr
 | .cells=>V.cells
 | .last=>V.last
 | .ev=>V.ev
 | .rf=>V.rf
 | .co=>V.co
 | .coi c=>V.coi.getD c nilV
 | .rmw=>V.rmw
 | .outs=>V.outs
 | .outi t=>V.outi.getD t nilV
 | .log=>V.log
 | .nums t=>V.num.getD t nilV
def rowT:Rw→TypeId
 | .thr=>122
 | .cells=>40
 | .last=>3
 | .ev=>42
 | .rf=>51
 | .co=>25
 | .coi _=>3
 | .rmw=>51
 | .outs=>32
 | .outi _=>40
 | .log=>3
 | .nums _=>3
def rowS:Rw→Nat
 | .ev=>5
 | .rf=>2
 | .rmw=>2
 | _=>1
section
variable {M:Type}
def numsOf (r:Rn M) (t:Nat):List Nat:=match r.ths[t]? with
 | some x=>x.nums
 | none=>[]
def rowN (V:RV) (r:Rn M):Rw→Nat
 | .thr=>V.gt.length
 | .cells=>r.cells.length
 | .last=>r.last.length
 | .ev=>r.events.length
 | .rf=>r.rf.length
 | .co=>V.coi.length
 | .coi c=>(r.co.getD c []).length
 | .rmw=>r.rmw.length
 | .outs=>V.outi.length
 | .outi t=>(r.outs.getD t []).length
 | .log=>r.log.length
 | .nums t=>(numsOf r t).length
def rowX (V:RV) (r:Rn M):Rw→List Value
 | .thr=>V.gt.map ptrV
 | .cells=>r.cells.map u64V
 | .last=>r.last.map i64V
 | .ev=>r.events.flatMap evC
 | .rf=>r.rf.flatMap pairC
 | .co=>V.coi
 | .coi c=>(r.co.getD c []).map i64V
 | .rmw=>r.rmw.flatMap pairC
 | .outs=>V.outi
 | .outi t=>(r.outs.getD t []).map u64V
 | .log=>r.log.map i64V
 | .nums t=>(numsOf r t).map i64V
def runC (K:Kd M) (nc:Nat) (V:RV) (r:Rn M):Array Value :=
 #[.bool K.words,.bool K.lse,V.thr,V.cells,V.last,.int .i64 nc,V.ev,V.rf,V.co,V.rmw,nilV,nilV,nilV,V.outs,V.log,.int .i64 r.used]
structure Mk (M:Type) where
 T:TypeId
 nextF:Nat
 feedF:Nat
 Rep:World→(Nat→Prop)→Nat→M→Prop
 asked:M→Prop
 TM:TypeId→Prop
def thC (X:Mk M) (V:RV) (t gm:Nat) (x:Th M):Array Value:=#[.iface X.T (ptrV gm),V.num.getD t nilV,.int .i64 x.ex]
structure MkM (X:Mk M):Prop where
 frame:∀{w w':World} {S:Nat→Prop} {g:Nat} {m:M},X.Rep w S g m→(∀k,S k→w'.heap[k]?=w.heap[k]?)→Still X.TM w w'→X.Rep w' S g m
 rows:∀q,¬X.TM (rowT q)
 run:¬X.TM 115
 th:¬X.TM 127
def PartOk (X:Mk M) (K:Kd M) (base gr nc:Nat) (w:World) (who:Nat→Option Pt) (V:RV) (r:Rn M):Pt→Prop
 | .run=>who gr=some .run∧Blk w gr 115 (runC K nc V r)
 | .row q=>w.ownsRow base (rowT q) (rowS q) (V.val q) (rowN V r q) (rowX V r q)∧∀k,(V.val q).ownBlock=some k→who k=some (.row q)
 | .th t=>∀x gt gm,r.ths[t]?=some x→V.gt[t]?=some gt→V.gm[t]?=some gm→who gt=some (.th t)∧Blk w gt 127 (thC X V t gm x)
 | .mach t=>∀x gm,r.ths[t]?=some x→V.gm[t]?=some gm→X.Rep w (fun k=>who k=some (.mach t)) gm x.m
def Agree (K:Kd M) (nc:Nat) (V:RV) (r:Rn M) (V':RV) (r':Rn M):Pt→Prop
 | .run=>runC K nc V' r'=runC K nc V r
 | .row q=>V'.val q=V.val q∧rowN V' r' q=rowN V r q∧rowX V' r' q=rowX V r q
 | .th t=>(V'.gt[t]?=V.gt[t]?∧V'.gm[t]?=V.gm[t]?∧V'.num.getD t nilV=V.num.getD t nilV)∧(r'.ths[t]?).map Th.ex=(r.ths[t]?).map Th.ex
 | .mach t=>V'.gm[t]?=V.gm[t]?∧(r'.ths[t]?).map Th.m=(r.ths[t]?).map Th.m
structure RunW (X:Mk M) (K:Kd M) (base gr nc:Nat) (w:World) (who:Nat→Option Pt) (V:RV) (r:Rn M):Prop where
 part:∀p,PartOk X K base gr nc w who V r p
 lt:∀k p,who k=some p→base≤k∧k<w.heap.size
 gtl:V.gt.length=r.ths.length
 gml:V.gm.length=r.ths.length
 numl:V.num.length=r.ths.length
 outl:V.outi.length=r.outs.length
 col:V.coi.length=r.co.length
variable {X:Mk M} {K:Kd M} {base gr nc:Nat} {w w' w1:World} {who who':Nat→Option Pt} {V V':RV} {r r':Rn M}
theorem PartOk.frame (hX:MkM X) {p:Pt} (h:PartOk X K base gr nc w who V r p) (hb:∀k,who k=some p→w'.heap[k]?=w.heap[k]?) (hs:Still X.TM w w') (hw:∀k,who' k=some p↔who k=some p):PartOk X K base gr nc w' who' V r p:=by
 cases p with
 | run=>exact⟨(hw gr).2 h.1,(hb gr h.1).trans h.2⟩
 | row q=>exact⟨own_stays h.1 fun k hk=>hb k (h.2 k hk),fun k hk=>(hw k).2 (h.2 k hk)⟩
 | th t =>
  intro x gt gm h1 h2 h3
  obtain⟨e1,e2⟩:=h x gt gm h1 h2 h3
  exact⟨(hw gt).2 e1,(hb gt e1).trans e2⟩
 | mach t =>
  intro x gm h1 h2
  have e:(fun k=>who' k=some (.mach t))=(fun k=>who k=some (.mach t)):=by
   funext k
   exact propext (hw k)
  rw[e]
  exact hX.frame (h x gm h1 h2) hb hs
theorem PartOk.same {p:Pt} (h:PartOk X K base gr nc w who V r p) (ha:Agree K nc V r V' r' p):PartOk X K base gr nc w who V' r' p:=by
 cases p with
 | run=>exact⟨h.1,by rw[ha];exact h.2⟩
 | row q=>exact⟨by rw[ha.1,ha.2.1,ha.2.2];exact h.1,by rw[ha.1];exact h.2⟩
 | th t =>
  intro x gt gm h1 h2 h3
  obtain⟨⟨a1,a2,a3⟩,a4⟩:=ha
  rw[h1]at a4
  cases hx:r.ths[t]? with
  | none=>rw[hx]at a4;cases a4
  | some y =>
   rw[hx]at a4
   simp only[Option.map_some,Option.some.injEq]at a4
   have:=h y gt gm hx (by rw[←a1];exact h2) (by rw[←a2];exact h3)
   unfold thC at this ⊢
   rw[a3,a4]
   exact this
 | mach t =>
  intro x gm h1 h2
  obtain⟨a1,a2⟩:=ha
  rw[h1]at a2
  cases hx:r.ths[t]? with
  | none=>rw[hx]at a2;cases a2
  | some y =>
   rw[hx]at a2
   simp only[Option.map_some,Option.some.injEq]at a2
   rw[a2]
   exact h y gm hx (by rw[←a1];exact h2)
theorem RunW.turn (hX:MkM X) (h:RunW X K base gr nc w who V r) (ps:Pt→Prop)
  (hk:∀k p,who k=some p→¬ps p→w'.heap[k]?=w.heap[k]?) (hsz:w.heap.size≤w'.heap.size) (hs:Still X.TM w w')
  (hw:∀k p,¬ps p→(who' k=some p↔who k=some p)) (ha:∀p,¬ps p→Agree K nc V r V' r' p)
  (hn:∀p,ps p→PartOk X K base gr nc w' who' V' r' p) (hl:∀k p,ps p→who' k=some p→base≤k∧k<w'.heap.size)
  (l1:V'.gt.length=r'.ths.length) (l2:V'.gm.length=r'.ths.length) (l3:V'.num.length=r'.ths.length) (l4:V'.outi.length=r'.outs.length) (l5:V'.coi.length=r'.co.length) :
  RunW X K base gr nc w' who' V' r':=by
 refine⟨fun p=>?_,fun k p hp=>?_,l1,l2,l3,l4,l5⟩
 ·by_cases hp:ps p
  ·exact hn p hp
  ·exact((h.part p).frame hX (fun k hk'=>hk k p hk' hp) hs (fun k=>hw k p hp)).same (ha p hp)
 ·by_cases hps:ps p
  ·exact hl k p hps hp
  ·have:=h.lt k p ((hw k p hps).1 hp)
   exact⟨this.1,Nat.lt_of_lt_of_le this.2 hsz⟩
noncomputable def own1 (who:Nat→Option Pt) (S:Nat→Prop) (p:Pt):Nat→Option Pt:=fun k=>open Classical in if S k then some p else if who k=some p then none else who k
theorem own1_p {S:Nat→Prop} {p:Pt} (k:Nat):own1 who S p k=some p↔S k:=by
 unfold own1
 split
 ·rename_i h;exact⟨fun _=>h,fun _=>rfl⟩
 ·rename_i h
  split
  ·exact⟨fun h=>(by cases h),fun h'=>absurd h' h⟩
  ·rename_i h2;exact⟨fun h'=>absurd h' h2,fun h'=>absurd h' h⟩
theorem own1_ne {S:Nat→Prop} {p p':Pt} (hS:∀k,S k→who k=none∨who k=some p) (hne:p'≠p) (k:Nat):own1 who S p k=some p'↔who k=some p':=by
 unfold own1
 split
 ·rename_i h
  constructor
  ·intro h';injection h' with h';exact absurd h'.symm hne
  ·intro h'
   rcases hS k h with h1 | h1
   ·rw[h1]at h';cases h'
   ·rw[h1]at h';injection h' with h';exact absurd h'.symm hne
 ·split
  ·rename_i h2
   constructor
   ·intro h';cases h'
   ·intro h';rw[h2]at h';injection h' with h';exact absurd h'.symm hne
  ·exact Iff.rfl
structure Moves (who who':Nat→Option Pt) (w w':World):Prop where
 keep:KeptS (fun k=>who k≠Option.none) w w'
 own:∀k,who' k≠Option.none→who k≠Option.none∨w.heap.size≤k
theorem Moves.refl (who:Nat→Option Pt) (w:World):Moves who who w w:=⟨KeptS.refl _ w,fun _ h=>.inl h⟩
theorem Moves.trans {who'':Nat→Option Pt} {w2:World} (h:Moves who who' w w1) (h':Moves who' who'' w1 w2):Moves who who'' w w2:=by
 refine⟨⟨h'.keep.1.trans h.keep.1,h'.keep.2.1.trans h.keep.2.1,h'.keep.2.2.1.trans h.keep.2.2.1,Nat.le_trans h.keep.size h'.keep.size,fun k hk hn=>?_⟩,fun k hk=>?_⟩
 ·have hn':¬who' k≠Option.none:=fun h2=>by
   rcases h.own k h2 with h3 | h3
   ·exact hn h3
   ·omega
  exact(h'.keep.2.2.2.2 k (Nat.lt_of_lt_of_le hk h.keep.size) hn').trans (h.keep.2.2.2.2 k hk hn)
 ·rcases h'.own k hk with h1 | h1
  ·exact h.own k h1
  ·exact .inr (Nat.le_trans h.keep.size h1)
theorem Moves.below (who:Nat→Option Pt) (hb:Below w.heap.size w w'):Moves who who w w':=⟨KeptS.of_below hb,fun _ h=>.inl h⟩
theorem Moves.still {_who'':Nat→Option Pt} {w2:World} (h:Moves who who' w w1) (hb:Below w1.heap.size w1 w2):Moves who who' w w2:=h.trans (Moves.below who' hb)
theorem Moves.blk (h:Moves who who' w w') {g:Nat} {t:TypeId} {cs:Array Value} (hb:Blk w g t cs) (hn:who g=Option.none):Blk w' g t cs∧who' g=Option.none:=by
 refine⟨h.keep.blk hb (fun h=>h hn),?_⟩
 cases hw:who' g with
 | none=>rfl
 | some p =>
  rcases h.own g (by rw[hw];exact fun e=>by cases e)with h1 | h1
  ·exact absurd hn h1
  ·have:=hb.lt;omega
theorem RunW.lt2 (h:RunW X K base gr nc w who V r):∀k p,who k=some p→k<w.heap.size:=fun k p hk=>(h.lt k p hk).2
theorem RunW.noOne (h:RunW X K base gr nc w who V r) {k:Nat} (hk:w.heap.size≤k):who k=none:=by
 cases hw:who k with
 | none=>rfl
 | some p=>have:=h.lt2 k p hw;omega
theorem agree_refl (p:Pt):Agree K nc V r V r p:=by
 cases p
 ·rfl
 ·exact⟨⟨rfl,rfl,rfl⟩,rfl⟩
 ·exact⟨rfl,rfl⟩
 ·exact⟨rfl,rfl,rfl⟩
theorem RunW.below (hX:MkM X) (h:RunW X K base gr nc w who V r) (hb:Below w.heap.size w w'):RunW X K base gr nc w' who V r :=
 h.turn hX (fun _=>False) (fun k p hk _=>hb.block k (h.lt2 k p hk)) hb.size (Still.below hb) (fun _ _ _=>Iff.rfl)
  (fun p _=>agree_refl p) (fun _ h=>h.elim) (fun _ _ h=>h.elim) h.gtl h.gml h.numl h.outl h.col
theorem RunW.claim (hX:MkM X) (h:RunW X K base gr nc w who V r) (S:Nat→Prop) (p:Pt) (hS:∀k,S k→who k=Option.none∧base≤k∧k<w.heap.size) (hp:∀who2,PartOk X K base gr nc w who2 V r p):RunW X K base gr nc w (own1 who S p) V r :=
 h.turn hX (fun q=>q=p) (fun k q hk _=>rfl) (Nat.le_refl _) (Still.refl w) (fun k q hq=>own1_ne (fun k hk=>.inl (hS k hk).1) hq k)
  (fun q _=>agree_refl q) (fun q hq=>by rw[hq];exact hp _) (fun k q hq hk=>by rw[hq]at hk;exact(hS k ((own1_p k).1 hk)).2) h.gtl h.gml h.numl h.outl h.col
theorem row_type (h:RunW X K base gr nc w who V r) (q:Rw) {k:Nat} (hk:(V.val q).ownBlock=some k):∃cs,Blk w k (rowT q) cs:=by
 have h1:=(h.part (.row q)).1
 rcases h1.2 with⟨h0,_⟩ | ⟨g,cap,cur,h0,_,hh,_⟩
 ·rw[h0]at hk;cases hk
 ·rw[h0]at hk
  obtain rfl:g=k:=by simpa [Value.ownBlock]using hk
  exact⟨cur,hh⟩
theorem blk_ne {g g':Nat} {t t':TypeId} {cs cs':Array Value} (h:Blk w g t cs) (h':Blk w g' t' cs') (hne:t≠t'):g≠g':=by
 rintro rfl
 unfold Blk at h h'
 rw[h]at h'
 injection h' with h'
 injection h' with _ h'
 exact hne h'
theorem still_row (hX:MkM X) (h:RunW X K base gr nc w who V r) (q:Rw) (hg:w.grownBy w1 (V.val q).ownBlock):Still X.TM w w1 :=
 Still.grown hg fun k hk cs t fr hb=>by
  obtain⟨cs',hb'⟩:=row_type h q hk
  unfold Blk at hb'
  rw[hb']at hb
  injection hb with hb
  injection hb with _ hb
  rw[←hb]
  exact hX.rows q
theorem RunW.rowAt (hX:MkM X) (h:RunW X K base gr nc w who V r) (q:Rw) (pe:Pt→Prop) (p0:Pt) (gb i g:Nat) {v':Value} (hv:v'.ownBlock=some g) (hg:w.grownBy w1 (V.val q).ownBlock) (hat:(V.val q).ownBlock=some g∨g=w.heap.size) (hgl:g<w1.heap.size)
  (hpq:¬pe (.row q)) (hp0:pe p0) (hgb:who gb=some p0) (hgbT:∃t cs,Blk w gb t cs∧¬X.TM t) (hval:V'.val q=v') (ho:w1.ownsRow base (rowT q) (rowS q) v' (rowN V' r' q) (rowX V' r' q))
  (hpe:∀p,pe p→(∀k,who k=some p→w1.heap[k]?=w.heap[k]?)→∀who2,(∀k,who2 k=some p↔who k=some p)→PartOk X K base gr nc (w1.setCell ⟨gb,i,none⟩ v') who2 V' r' p)
  (ha:∀p,¬pe p→p≠.row q→Agree K nc V r V' r' p)
  (l1:V'.gt.length=r'.ths.length) (l2:V'.gm.length=r'.ths.length) (l3:V'.num.length=r'.ths.length) (l4:V'.outi.length=r'.outs.length) (l5:V'.coi.length=r'.co.length) :
  ∃who',RunW X K base gr nc (w1.setCell ⟨gb,i,none⟩ v') who' V' r'∧Moves who who' w (w1.setCell ⟨gb,i,none⟩ v'):=by
 have hq0:p0≠.row q:=fun e=>hpq (e ▸ hp0)
 have hgr:=h.lt gb _ hgb
 have hs1:=still_row hX h q hg
 have hngb:(V.val q).ownBlock≠some gb:=fun e=>by
  have:=(h.part (.row q)).2 gb e
  rw[hgb]at this
  injection this with this
  exact hq0 this
 obtain⟨t,cs,hb,hnt⟩:=hgbT
 have hb1:Blk w1 gb t cs:=(hg.block gb hgr.2 (fun e=>hngb e.symm)).trans hb
 have hs2:Still X.TM w1 (w1.setCell ⟨gb,i,none⟩ v'):=Still.set hb1 hnt v'
 have hsz:(w1.setCell ⟨gb,i,none⟩ v').heap.size=w1.heap.size:=by simp[World.setCell]
 have hggb:g≠gb:=by
  rcases hat with h1 | h1
  ·rintro rfl;exact hngb h1
  ·omega
 have hkeep:∀k p,who k=some p→p≠.row q→w1.heap[k]?=w.heap[k]?:=fun k p hk hp=>by
  have n2:(V.val q).ownBlock≠some k:=fun e=>by
   have:=(h.part (.row q)).2 k e
   rw[hk]at this
   injection this with this
   exact hp this
  exact hg.block k (h.lt2 k p hk) (fun e=>n2 e.symm)
 have hS:∀k,k=g→who k=Option.none∨who k=some (.row q):=fun k e=>by
  subst e
  rcases hat with h1 | h1
  ·exact .inr ((h.part (.row q)).2 _ h1)
  ·exact .inl (h.noOne (by omega))
 refine⟨own1 who (fun k=>k=g) (.row q),h.turn hX (fun p=>pe p∨p=.row q) (fun k p hk hp=>?_) (by rw[hsz];exact hg.size) (hs1.trans hs2) (fun k p hp=>own1_ne hS (fun e=>hp (.inr e)) k) (fun p hp=>ha p (fun e=>hp (.inl e)) (fun e=>hp (.inr e))) (fun p hp=>?_) (fun k p hp hk=>?_) l1 l2 l3 l4 l5,
  ⟨⟨hg.os,hg.tape,hg.output,by rw[hsz];exact hg.size,fun k hk hn=>?_⟩,fun k hk=>?_⟩⟩
 ·have n1:k≠gb:=fun e=>by
   rw[e,hgb]at hk
   injection hk with hk
   exact hp (.inl (hk ▸ hp0))
  exact(Below.heap_setCell w1 ⟨gb,i,none⟩ v' k n1).trans (hkeep k p hk (fun e=>hp (.inr e)))
 ·rcases hp with hp | rfl
  ·have hpr:p≠.row q:=fun e=>hpq (e ▸ hp)
   exact hpe p hp (fun k hk=>hkeep k p hk hpr) _ (fun k=>own1_ne hS hpr k)
  ·refine⟨?_,?_⟩
   ·rw[hval]
    refine own_stays ho fun k hk=>?_
    rw[hv]at hk
    injection hk with hk
    subst hk
    exact Below.heap_setCell w1 ⟨gb,i,none⟩ v' g hggb
   ·rw[hval]
    intro k hk
    rw[hv]at hk
    injection hk with hk
    exact(own1_p k).2 hk.symm
 ·rw[hsz]
  rcases hp with hp | rfl
  ·have hpr:p≠.row q:=fun e=>hpq (e ▸ hp)
   have:=h.lt k p ((own1_ne hS hpr k).1 hk)
   exact⟨this.1,Nat.lt_of_lt_of_le this.2 hg.size⟩
  ·obtain rfl:=(own1_p k).1 hk
   refine⟨?_,hgl⟩
   rcases hat with h1 | h1
   ·exact(h.lt _ _ ((h.part (.row q)).2 _ h1)).1
   ·omega
 ·have n1:k≠gb:=fun e=>hn (show who k≠Option.none by rw[e,hgb];exact fun e=>by cases e)
  have n2:(V.val q).ownBlock≠some k:=fun e=>hn (show who k≠Option.none by rw[(h.part (.row q)).2 k e];exact fun e=>by cases e)
  exact(Below.heap_setCell w1 ⟨gb,i,none⟩ v' k n1).trans (hg.block k hk (fun e=>n2 e.symm))
 ·by_cases hw:who k=Option.none
  ·right
   by_cases e:k=g
   ·subst e
    rcases hat with h1 | h1
    ·rw[(h.part (.row q)).2 _ h1]at hw;cases hw
    ·omega
   ·exfalso
    apply hk
    unfold own1
    rw[if_neg e]
    split
    ·rfl
    ·exact hw
  ·exact .inl hw
theorem RunW.setAt (hX:MkM X) (h:RunW X K base gr nc w who V r) (p0:Pt) (gb i:Nat) (u:Value) (hgb:who gb=some p0) (hgbT:∃t cs,Blk w gb t cs∧¬X.TM t)
  (hp0:PartOk X K base gr nc (w.setCell ⟨gb,i,none⟩ u) who V' r' p0) (ha:∀p,p≠p0→Agree K nc V r V' r' p)
  (l1:V'.gt.length=r'.ths.length) (l2:V'.gm.length=r'.ths.length) (l3:V'.num.length=r'.ths.length) (l4:V'.outi.length=r'.outs.length) (l5:V'.coi.length=r'.co.length) :
  RunW X K base gr nc (w.setCell ⟨gb,i,none⟩ u) who V' r'∧Moves who who w (w.setCell ⟨gb,i,none⟩ u):=by
 obtain⟨t,cs,hb,hnt⟩:=hgbT
 have hsz:(w.setCell ⟨gb,i,none⟩ u).heap.size=w.heap.size:=by simp[World.setCell]
 refine⟨h.turn hX (fun p=>p=p0) (fun k p hk hp=>?_) (by rw[hsz];exact Nat.le_refl _) (Still.set hb hnt u) (fun _ _ _=>Iff.rfl) ha (fun p hp=>by rw[hp];exact hp0) (fun k p hp hk=>by rw[hsz];exact h.lt k p hk) l1 l2 l3 l4 l5,
  (KeptS.refl _ w).set (by rw[hgb];exact fun e=>by cases e) i u,fun _ h=>.inl h⟩
 have n1:k≠gb:=fun e=>by
  rw[e,hgb]at hk
  injection hk with hk
  exact hp hk.symm
 exact Below.heap_setCell w ⟨gb,i,none⟩ u k n1
theorem ths_set {l:List (Th M)} {t:Nat} {x y:Th M} (hx:l[t]?=some x) (u:Nat):(l.set t y)[u]?=if u=t then some y else l[u]?:=by
 have hl:=(List.getElem?_eq_some_iff.1 hx).1
 by_cases e:u=t
 ·subst e;rw[if_pos rfl,List.getElem?_set_self hl]
 ·rw[if_neg e,List.getElem?_set_ne (Ne.symm e)]
theorem nums_set {r:Rn M} {t:Nat} {x y:Th M} (hx:r.ths[t]?=some x) (u:Nat):numsOf { r with ths:=r.ths.set t y } u=if u=t then y.nums else numsOf r u:=by
 unfold numsOf
 simp only[ths_set hx]
 by_cases e:u=t
 ·simp[e]
 ·simp[e]
theorem agree_m {t:Nat} {x:Th M} {m':M} (hx:r.ths[t]?=some x) (p:Pt) (hp:p≠.mach t):Agree K nc V r V { r with ths:=r.ths.set t { x with m:=m' } } p:=by
 cases p with
 | run=>rfl
 | th u =>
  refine⟨⟨rfl,rfl,rfl⟩,?_⟩
  simp only[ths_set hx]
  split
  ·rename_i e;subst e;rw[hx];rfl
  ·rfl
 | mach u =>
  refine⟨rfl,?_⟩
  simp only[ths_set hx]
  rw[if_neg (fun e=>hp (by rw[e]))]
 | row q =>
  cases q with
  | nums u =>
   have e:numsOf { r with ths:=r.ths.set t { x with m:=m' } } u=numsOf r u:=by
    rw[nums_set hx]
    split
    ·rename_i e;subst e;unfold numsOf;rw[hx]
    ·rfl
   exact⟨rfl,by simp only[rowN,e],by simp only[rowX,e]⟩
  | _=>exact⟨rfl,rfl,rfl⟩
theorem RunW.machOp (hX:MkM X) (h:RunW X K base gr nc w who V r) {t gm:Nat} {x:Th M} (hx:r.ths[t]?=some x) (hgm:V.gm[t]?=some gm) {m':M} {S':Nat→Prop}
  (hS:∀k,S' k→who k=some (.mach t)∨(w.heap.size≤k∧k<w'.heap.size)) (hrep:X.Rep w' S' gm m') (hk:KeptS (fun k=>who k=some (.mach t)) w w') (hst:Still X.TM w w') :
  ∃who',RunW X K base gr nc w' who' V { r with ths:=r.ths.set t { x with m:=m' } }∧Moves who who' w w':=by
 have hS2:∀k,S' k→who k=Option.none∨who k=some (.mach t):=fun k hk=>by
  rcases hS k hk with h1 | h1
  ·exact .inr h1
  ·exact .inl (h.noOne h1.1)
 have hbr:=(h.lt gr _ (h.part .run).1).1
 have hgr2:=(h.lt gr _ (h.part .run).1).2
 refine⟨own1 who S' (.mach t),h.turn hX (fun p=>p=.mach t) (fun k p hw hp=>?_) hk.size hst (fun k p hp=>own1_ne hS2 hp k) (fun p hp=>agree_m hx p hp) (fun p hp=>?_) (fun k p hp hw=>?_) ?_ ?_ ?_ h.outl h.col,hk.mono (fun k e=>by rw[e];exact fun e=>by cases e),fun k hw=>?_⟩
 ·exact hk.2.2.2.2 k (h.lt2 k p hw) (fun e=>hp (by rw[e]at hw;injection hw with hw;exact hw.symm))
 ·subst hp
  intro y gm' h1 h2
  simp only[ths_set hx,if_true]at h1
  obtain rfl:_=y:=Option.some.inj h1
  rw[hgm]at h2
  obtain rfl:=Option.some.inj h2
  have e:(fun k=>own1 who S' (.mach t) k=some (.mach t))=S':=by
   funext k
   exact propext (own1_p k)
  rw[e]
  exact hrep
 ·subst hp
  rcases hS k ((own1_p k).1 hw)with h1 | h1
  ·have:=h.lt k _ h1
   exact⟨this.1,Nat.lt_of_lt_of_le this.2 hk.size⟩
  ·exact⟨by omega,h1.2⟩
 ·simpa using h.gtl
 ·simpa using h.gml
 ·simpa using h.numl
 ·by_cases hn:who k=Option.none
  ·right
   by_cases e:S' k
   ·rcases hS k e with h1 | h1
    ·rw[h1]at hn;cases hn
    ·exact h1.1
   ·exfalso
    apply hw
    unfold own1
    rw[if_neg e]
    split
    ·rfl
    ·exact hn
  ·exact .inl hn
end
end Go.Proofs.YtmjilfamjlnigaaGreat.RunW
