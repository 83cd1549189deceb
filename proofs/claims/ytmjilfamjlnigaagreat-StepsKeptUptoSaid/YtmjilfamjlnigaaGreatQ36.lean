/- MEMORY: the document's own run, as it lies: seven rows, each in a block of its own. -/
import Derived.Test.YtmjilfamjlnigaaGreatQ23
import Derived.Test.YtmjilfamjlnigaaGreatQ35
import Derived.Deep.MidRow
import Derived.Test.YtmjilfamjlnigaaGreatQ33
namespace Go.Proofs.YtmjilfamjlnigaaGreat.RefW
open Go Go.RowKit Kit SrcP SrcW Go.Proofs.YtmjilfamjlnigaaGreat.MchW
inductive Dq where
 | thr
 | ev
 | rf
 | rmw
 | outs
 | log
 | pks
structure TC where
 lc:Int
 va:Value
 s:RS
 vl:Value
 nums:List Nat
 vn:Value
 nl:Nat
def TC.rt (x:TC):RT:=⟨x.s,x.nums⟩
def thC (mz:List Value) (x:TC):List Value:=(stC x.lc x.va x.s x.vl).toList++(mz++[x.vn,.int .i64 (-1)])
structure DV where
 thr:Value
 ev:Value
 rf:Value
 rmw:Value
 outs:Value
 log:Value
 pks:Value
 tcs:List TC
 vo:List Value
def DV.val (V:DV):Dq→Value
 | .thr=>V.thr
 | .ev=>V.ev
 | .rf=>V.rf
 | .rmw=>V.rmw
 | .outs=>V.outs
 | .log=>V.log
 | .pks=>V.pks
def dT:Dq→TypeId
 | .thr=>94
 | .ev=>42
 | .rf=>51
 | .rmw=>51
 | .outs=>32
 | .log=>3
 | .pks=>3
def dS:Dq→Nat
 | .thr=>101
 | .ev=>5
 | .rf=>2
 | .rmw=>2
 | _=>1
def dN (V:DV) (r:RR):Dq→Nat
 | .thr=>V.tcs.length
 | .ev=>r.events.length
 | .rf=>r.rf.length
 | .rmw=>r.rmw.length
 | .outs=>V.vo.length
 | .log=>r.log.length
 | .pks=>r.picks.length
def dX (mz:List Value) (V:DV) (r:RR):Dq→List Value
 | .thr=>V.tcs.flatMap (thC mz)
 | .ev=>r.events.flatMap RunW.evC
 | .rf=>r.rf.flatMap RunW.pairC
 | .rmw=>r.rmw.flatMap RunW.pairC
 | .outs=>V.vo
 | .log=>r.log.map RunW.i64V
 | .pks=>r.picks.map RunW.i64V
def runD (nc:Nat) (V:DV) (r:RR):Array Value:=#[.bool false,.int .i64 (nc:Int),V.thr,V.ev,V.rf,V.rmw,V.outs,V.log,V.pks,.int .i64 (r.used:Int)]
def I64O (w:World) (v:Value) (l:List Nat):Prop:=w.ownsRow 0 3 1 v l.length (l.map RunW.i64V)
structure TcOk (w0:World) (nc:Nat) (w:World) (who:Nat→Option Dq) (x:TC):Prop where
 acts:ActsAt w0 x.va x.s.acts
 locs:U64O w x.vl x.s.locals
 ok:SrcP.MchW nc x.nl x.s.m
 nums:I64O w x.vn x.nums
 free:∀k,x.vn.ownBlock=some k→who k=none
 nilN:x.nums = []→x.vn=.slice none 0 0
structure RunAt (mz:List Value) (w0:World) (nc:Nat) (w:World) (who:Nat→Option Dq) (V:DV) (r:RR):Prop where
 own:∀q,w.ownsRow w0.heap.size (dT q) (dS q) (V.val q) (dN V r q) (dX mz V r q)
 mine:∀q k,(V.val q).ownBlock=some k→who k=some q
 lt:∀k q,who k=some q→w0.heap.size≤k∧k<w.heap.size
 ths:r.ths=V.tcs.map TC.rt
 tc:∀x∈V.tcs,TcOk w0 nc w who x
 outl:V.vo.length=r.outs.length
 outi:∀(t:Nat) (v:Value) (l:List Nat),V.vo[t]?=some v→r.outs[t]?=some l→U64O w v l
 start:Below w0.heap.size w0 w
theorem thC_len {mz:List Value} (hz:mz.length=95) (x:TC):(thC mz x).length=101:=by simp[thC,stC,hz]
section
variable {mz:List Value} {w0:World} {nc:Nat} {w w':World} {who who':Nat→Option Dq} {V V':DV} {r r':RR}
theorem TcOk.frame {x:TC} (h:TcOk w0 nc w who x) (h1:∀k,x.vl.ownBlock=some k→w'.heap[k]?=w.heap[k]?) (h2:∀k,x.vn.ownBlock=some k→w'.heap[k]?=w.heap[k]?) (h3:∀k,x.vn.ownBlock=some k→who' k=none):TcOk w0 nc w' who' x :=
 ⟨h.acts,OwnR.own_stays h.locs h1,h.ok,OwnR.own_stays h.nums h2,h3,h.nilN⟩
theorem RunAt.below (h:RunAt mz w0 nc w who V r) (hb:Below w.heap.size w w'):RunAt mz w0 nc w' who V r:=by
 have hk:∀{e size n:Nat} {base:Nat} {v:Value} {xs:List Value},w.ownsRow base e size v n xs→∀k,v.ownBlock=some k→w'.heap[k]?=w.heap[k]?:=fun ho k hk=>hb.block k (OwnR.own_lt ho hk)
 exact⟨fun q=>OwnR.own_stays (h.own q) (hk (h.own q)),h.mine,fun k q hq=>⟨(h.lt k q hq).1,Nat.lt_of_lt_of_le (h.lt k q hq).2 hb.size⟩,h.ths,
  fun x hx=>(h.tc x hx).frame (hk (h.tc x hx).locs) (hk (h.tc x hx).nums) (h.tc x hx).free,h.outl,fun t v l h1 h2=>OwnR.own_stays (h.outi t v l h1 h2) (hk (h.outi t v l h1 h2)),h.start.trans (hb.mono h.start.size)⟩
theorem RunAt.other (h:RunAt mz w0 nc w who V r) {g:Nat} {t:TypeId} {cs:Array Value} (hg:Blk w g t cs) (ht:∀q,dT q≠t) (ht2:40≠t) (hlo:w0.heap.size≤g) (hk:KeptS (fun k=>k=g) w w'):RunAt mz w0 nc w' who V r:=by
 have hk2:∀{e size n:Nat} {base:Nat} {v:Value} {xs:List Value},e≠t→w.ownsRow base e size v n xs→∀k,v.ownBlock=some k→w'.heap[k]?=w.heap[k]?:=fun he ho k hb =>
  hk.2.2.2.2 k (OwnR.own_lt ho hb) (fun e=>OwnR.own_type ho hg he (by rw[hb,e]))
 exact⟨fun q=>OwnR.own_stays (h.own q) (hk2 (ht q) (h.own q)),h.mine,fun k q hq=>⟨(h.lt k q hq).1,Nat.lt_of_lt_of_le (h.lt k q hq).2 hk.size⟩,h.ths,
  fun x hx=>(h.tc x hx).frame (hk2 ht2 (h.tc x hx).locs) (hk2 (ht .log) (h.tc x hx).nums) (h.tc x hx).free,h.outl,fun t v l h1 h2=>OwnR.own_stays (h.outi t v l h1 h2) (hk2 ht2 (h.outi t v l h1 h2)),
  ⟨hk.1.trans h.start.os,hk.2.1.trans h.start.tape,hk.2.2.1.trans h.start.output,Nat.le_trans h.start.size hk.size,fun k hk3=>(hk.2.2.2.2 k (Nat.lt_of_lt_of_le hk3 h.start.size) (fun e=>by omega)).trans (h.start.block k hk3)⟩⟩
theorem RunAt.turn (h:RunAt mz w0 nc w who V r) (q:Dq) {row:Option Nat} (hrow:row=(V.val q).ownBlock) (hk:KeptS (fun k=>row=some k) w w')
  (hV:∀p,p≠q→V'.val p=V.val p∧dN V' r' p=dN V r p∧dX mz V' r' p=dX mz V r p)
  (hown:w'.ownsRow w0.heap.size (dT q) (dS q) (V'.val q) (dN V' r' q) (dX mz V' r' q))
  (hat:∀k,(V'.val q).ownBlock=some k→row=some k∨w.heap.size≤k)
  (hths:r'.ths=V'.tcs.map TC.rt) (htc:∀x∈V'.tcs,x∈V.tcs∨∀who',(∀k,k<w.heap.size→who' k=who k)→TcOk w0 nc w' who' x)
  (houtl:V'.vo.length=r'.outs.length) (houti:∀(t:Nat) (v:Value) (l:List Nat),V'.vo[t]?=some v→r'.outs[t]?=some l→(V.vo[t]?=some v∧r.outs[t]?=some l)∨U64O w' v l) :
  ∃who',RunAt mz w0 nc w' who' V' r'∧(∀k,k<w.heap.size→who' k=who k):=by
 have hwr:∀k,row=some k→who k=some q:=fun k hk2=>h.mine q k (by rw[←hrow];exact hk2)
 have hrt:∀k,row=some k→∃cs,Blk w k (dT q) cs:=fun k hk2=>by
  rcases (h.own q).2 with⟨h1,_⟩ | ⟨g,cap,cur,h1,_,h2,_⟩
  ·rw[hrow,h1]at hk2;cases hk2
  ·rw[hrow,h1]at hk2
   obtain rfl:g=k:=by simpa [Value.ownBlock]using hk2
   exact⟨cur,h2⟩
 have hq64:dT q≠40:=by cases q <;> decide
 have hkeep:∀k,k<w.heap.size→row≠some k→w'.heap[k]?=w.heap[k]?:=fun k h1 h2=>hk.2.2.2.2 k h1 h2
 have hkU:∀{size n:Nat} {base:Nat} {v:Value} {xs:List Value},w.ownsRow base 40 size v n xs→∀k,v.ownBlock=some k→w'.heap[k]?=w.heap[k]?:=fun ho k hb =>
  hkeep k (OwnR.own_lt ho hb) (fun e=>by
   obtain⟨cs,hc⟩:=hrt k e
   exact OwnR.own_type ho hc (Ne.symm hq64) hb)
 refine⟨fun k=>if k<w.heap.size then who k else if (V'.val q).ownBlock=some k then some q else none,⟨fun p=>?_,fun p k hp=>?_,fun k p hp=>?_,hths,fun x hx=>?_,houtl,fun t v l h1 h2=>?_,?_⟩,fun k hk2=>if_pos hk2⟩
 ·by_cases hpq:p=q
  ·subst hpq;exact hown
  ·obtain⟨e1,e2,e3⟩:=hV p hpq
   rw[e1,e2,e3]
   refine OwnR.own_stays (h.own p) fun k hk2=>hkeep k (OwnR.own_lt (h.own p) hk2) (fun e=>?_)
   have h1:=hwr k e
   have h2:=h.mine p k hk2
   rw[h1]at h2
   injection h2 with h2
   exact hpq h2.symm
 ·by_cases hpq:p=q
  ·subst hpq
   split
   ·rename_i hlt
    rcases hat k hp with h1 | h1
    ·exact hwr k h1
    ·omega
   ·rfl
  ·rw[(hV p hpq).1]at hp
   rw[if_pos (OwnR.own_lt (h.own p) hp)]
   exact h.mine p k hp
 ·split at hp
  ·exact⟨(h.lt k p hp).1,Nat.lt_of_lt_of_le (h.lt k p hp).2 hk.size⟩
  ·split at hp
   ·rename_i h1 h2
    exact⟨OwnR.own_base hown h2,OwnR.own_lt hown h2⟩
   ·cases hp
 ·rcases htc x hx with h1 | h1
  ·have hx0:=h.tc x h1
   refine hx0.frame (hkU hx0.locs) (fun k hk2=>hkeep k (OwnR.own_lt hx0.nums hk2) (fun e=>?_)) (fun k hk2=>?_)
   ·have:=hx0.free k hk2
    rw[hwr k e]at this
    cases this
   ·rw[if_pos (OwnR.own_lt hx0.nums hk2)]
    exact hx0.free k hk2
  ·exact h1 _ (fun k hk2=>if_pos hk2)
 ·rcases houti t v l h1 h2 with⟨h3,h4⟩ | h3
  ·exact OwnR.own_stays (h.outi t v l h3 h4) (hkU (h.outi t v l h3 h4))
  ·exact h3
 ·exact⟨hk.1.trans h.start.os,hk.2.1.trans h.start.tape,hk.2.2.1.trans h.start.output,Nat.le_trans h.start.size hk.size,fun k hk3=>(hkeep k (Nat.lt_of_lt_of_le hk3 h.start.size) (fun e=>by
   have:=(h.lt k q (hwr k e)).1
   omega)).trans (h.start.block k hk3)⟩
structure DRet (mz:List Value) (w0:World) (nc:Nat) (w:World) (who:Nat→Option Dq) (w':World) (V':DV) (r':RR):Prop where
 run:∃who',RunAt mz w0 nc w' who' V' r'∧∀k,k<w.heap.size→who' k=who k
 kept:KeptS (fun k=>who k≠none) w w'
end
end Go.Proofs.YtmjilfamjlnigaaGreat.RefW
namespace Go.Proofs.YtmjilfamjlnigaaGreat.Kit
open Go Go.RowKit
def readB2 (o:Oper):Bool:=match o.op with
 | .slice _ _ _ _ _=>true
 | _=>readB o
theorem read_no_enter2 {P:Program} {o:Oper} (h:readB2 o=true) {ρ:Operand→Value} {w w':World} {f:FuncId} {args:Array Value}:(execOp ρ o).run P w≠.ok (.enter f args) w':=by
 unfold readB2 at h
 split at h
 ·rename_i heq
  unfold execOp
  rw[heq]
  exact bind_value
 ·exact read_no_enter h
section
variable {P:Program} {ops:Array Oper} {md:Region.Mode} {C:World→Prop}
theorem reads_of_yields2 {o:Oper} {v:Value} {a:Act} (hr:readB2 o=true) (hy:YieldsIn P ops C o v a):ReadsIn P ops C o v a:=by
 rcases hy with⟨hw,h⟩ | h
 ·refine .inl ⟨hw,fun w hC=>?_⟩
  have:=h w hC
  unfold Oper.quietAt at this
  cases hx:(execOp a.eval o).run P w with
  | halt x w'=>rw[hx]at this;exact this.elim
  | ok n w' =>
   rw[hx]at this
   cases n with
   | value u=>obtain⟨rfl,rfl⟩:=this;exact .inl rfl
   | skip=>obtain⟨rfl,rfl⟩:=this;exact .inr ⟨rfl,rfl⟩
   | enter f args=>exact absurd hx (read_no_enter2 hr)
   | _=>exact this.elim
 ·exact .inr h
def readsB2 (md:Region.Mode) (ops:Array Oper) (n:Nat):List Nat→Array Bool→Bool
 | [],_=>true
 | k :: l,listed=>(Region.ready md ops listed).contains k&&Region.free md ops listed k&&decide (k<n)&&((ops[k]?).map readB2).getD false&&readsB2 md ops n l (listed.setIfInBounds k true)
def standB (md:Region.Mode) (ops:Array Oper) (n:Nat) (listed:Array Bool):Bool :=
 decide (listed.size=ops.size)&&((List.range ops.size).all fun j=>!listed.getD j false ||(((ops[j]?).map fun o=>o.after.toList.all fun e=>!Region.binds md e || listed.getD e.on false).getD true))&&((List.range ops.size).all fun j=>decide (j<n) || !listed.getD j true)
theorem stand_inv {n:Nat} {listed:Array Bool} (h:standB md ops n listed=true):HeadInv md ops n listed:=by
 simp only[standB,Bool.and_eq_true,decide_eq_true_eq,List.all_eq_true,List.mem_range,Bool.or_eq_true,Bool.not_eq_true']at h
 obtain⟨⟨h1,h2⟩,h3⟩:=h
 refine⟨h1,fun j oj ho hl e he hb=>?_,fun t ht1 ht2=>?_⟩
 ·have hj:j<ops.size:=(Array.getElem?_eq_some_iff.1 ho).1
  rcases h2 j hj with h | h
  ·rw[hl]at h;cases h
  ·rw[ho]at h
   simp only[Option.map_some,Option.getD_some,List.all_eq_true,Bool.or_eq_true,Bool.not_eq_true']at h
   rcases h e (by simpa using he)with h4 | h4
   ·rw[hb]at h4;cases h4
   ·exact h4
 ·rcases h3 t ht2 with h | h
  ·omega
  ·exact h
theorem floatG_lex2 {n m:Nat} {T:Array Bool→Act→World→Prop} (hsel:Region.noSelect ops=true) (hn:n=ops.size)
  (hT:∀listed a w,T listed a w→∀j∈Region.ready md ops listed,n≤j) (w:World) (hC:C w) (rd:List Nat) :
  ∀(listed:Array Bool) (a:Act),HeadInv md ops n listed→readsB2 md ops n rd listed=true→∀(l:List Oper),l.length=rd.length→(∀j,j<l.length→l[j]?=(rd[j]?).bind fun k=>ops[k]?) →
   wpQuiet P ops C (fun a'=>floatG P md ops C [] n T m (listedAll rd listed) a' w) l a→floatG P md ops C [] n T (rd.length+m) listed a w:=by
 induction rd with
 | nil =>
  intro listed a inv hB l hlen hl h
  obtain rfl:l = []:=by simpa using hlen
  rw[List.length_nil,Nat.zero_add]
  exact h
 | cons k rd ih =>
  intro listed a inv hB l hlen hl h
  cases l with
  | nil=>simp at hlen
  | cons o l =>
   have h0:ops[k]?=some o:=by
    have:=hl 0 (by simp)
    simpa using this.symm
   simp only[readsB2,Bool.and_eq_true,decide_eq_true_eq,h0,Option.map_some,Option.getD_some]at hB
   obtain⟨⟨⟨⟨hr,hf⟩,hk⟩,hrd⟩,hB'⟩:=hB
   have hr':k∈Region.ready md ops listed:=by simpa using hr
   have hq:qOp P ops C k (wpQuiet P ops C (fun a'=>floatG P md ops C [] n T m (listedAll rd (listed.setIfInBounds k true)) a' w) l) a:=by
    unfold qOp
    simp only[h0]
    exact h
   obtain⟨v,hy,hK⟩:=yieldsIn_of_qOp h0 hq
   rw[List.length_cons,show rd.length+1+m=(rd.length+m)+1 by omega]
   refine floatG_takeA h0 (Region.noSelect_spec hsel) hn hk (fun j hj=>by cases hj) hT (rd.length+m) listed a w hC inv (Region.free_spec h0 hf) hr' (reads_of_yields2 hrd hy) ?_
   refine ih _ _ (inv.set hr' hk) hB' l (by simpa using hlen) (fun j hj=>?_) hK
   have:=hl (j+1) (by simp;omega)
   simpa using this
end
theorem reads2_lt {md:Region.Mode} {ops:Array Oper} {n:Nat} (rd:List Nat):∀listed,readsB2 md ops n rd listed=true→∀k∈rd,k<n:=by
 induction rd with
 | nil=>intro _ _ k hk;cases hk
 | cons k0 rd ih =>
  intro listed h k hk
  simp only[readsB2,Bool.and_eq_true,decide_eq_true_eq]at h
  rcases List.mem_cons.1 hk with rfl | hk
  ·exact h.1.1.2
  ·exact ih _ h.2 k hk
theorem floatG_reads {P:Program} {C:World→Prop} {Q:Exit→Act→World→Prop} {l:List Oper} {n f:Nat} (m:Nat) (rd:List Nat) {listed:Array Bool} {a:Act} {w:World} (hC:C w) (hf:rd.length+m=f)
  (hB:(Region.noSelect l.toArray&&decide (n=l.length)&&standB .any l.toArray n listed&&readsB2 .any l.toArray n rd listed)=true)
  (h:wpQuiet P l.toArray C (fun a'=>floatG P .any l.toArray C [] n (tailG P Q l n) m (listedAll rd listed) a' w) (pickL rd l) a) :
  floatG P .any l.toArray C [] n (tailG P Q l n) f listed a w:=by
 subst hf
 simp only[Bool.and_eq_true,decide_eq_true_eq]at hB
 obtain⟨⟨⟨hsel,hn⟩,hst⟩,hrd⟩:=hB
 refine floatG_lex2 hsel (by simpa using hn) (fun _ _ _ hT=>seqB_ready hT.1) w hC rd listed a (stand_inv hst) hrd (pickL rd l) (by simp[pickL]) (fun j hj=>?_) h
 have hj':j<rd.length:=by simpa [pickL]using hj
 have hk:=reads2_lt rd _ hrd rd[j] (List.getElem_mem hj')
 have hk':rd[j]<l.length:=by omega
 simp[pickL,hj',hk']
theorem wp_region_float_go (C:World→Prop) (n:Nat) {P:Program} {id:Nat} {Q:Exit→Act→World→Prop} {a:Act} {w:World} {l:List Oper} (hm:P.follows .mixedOrders=true) (hn:l.length=n)
  (h:floatG P .any l.toArray C [] n (tailG P Q l n) n (Array.replicate l.toArray.size false) a (w.drewN 1)):(Code.region id l.toArray true).wp P Q a w:=by
 subst hn
 have hdl:(l.drop l.length).length=l.toArray.size-l.length:=by simp
 refine wp_region_any hm ?_
 have:=floatG_run (Q:=Q) (g:=l.toArray.size-l.length) (fun listed a' w' hT=>by
  have:=wpAny_of_seq (md:=.any) (Q':=Q) (l.drop l.length) l.length listed a' w' (fun j=>by simp) (by rw[hdl];exact hT.1) hT.2
  rwa [hdl]at this) _ _ _ _ h
 rw[show l.length+(l.toArray.size-l.length)=l.toArray.size by simp]at this
 exact this
end Go.Proofs.YtmjilfamjlnigaaGreat.Kit
