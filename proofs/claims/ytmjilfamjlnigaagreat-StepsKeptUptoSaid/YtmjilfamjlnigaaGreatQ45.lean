/- WALKS: the document's own run of a program (chapter 19): its rows grow by a thread. -/
import Derived.Test.YtmjilfamjlnigaaGreatQ40
import Derived.Test.YtmjilfamjlnigaaGreatQ44
namespace Go.Proofs.YtmjilfamjlnigaaGreat.RefW
open Go Go.RowKit Kit SrcP SrcW Go.Proofs.YtmjilfamjlnigaaGreat.MchW
section
variable {mz:List Value} {w0:World} {nc:Nat} {w w':World} {who:Nat→Option Dq} {V:DV} {r:RR}
theorem RunAt.app_thr (h:RunAt mz w0 nc w who V r) (x:TC) {g8 cap8:Nat}
  (hown:w'.ownsRow w0.heap.size 94 101 (.slice (some ⟨g8,0,none⟩) (V.tcs.length+1) cap8) (V.tcs.length+1) (V.tcs.flatMap (thC mz)++thC mz x)) (hg:w.grownBy w' V.thr.ownBlock) (hat:V.thr.ownBlock=some g8∨w.heap.size≤g8)
  (hac:ActsAt w0 x.va x.s.acts) (hU:U64O w x.vl x.s.locals) (hok:SrcP.MchW nc x.nl x.s.m) (hnum:x.nums = []) (hvn:x.vn=.slice none 0 0) :
  ∃who',RunAt mz w0 nc w' who' { V with thr:=.slice (some ⟨g8,0,none⟩) (V.tcs.length+1) cap8,tcs:=V.tcs++[x] } { r with ths:=r.ths++[x.rt] }∧(∀k,k<w.heap.size→who' k=who k):=by
 have hrt:∀k,V.thr.ownBlock=some k→∃cs,Blk w k 94 cs:=fun k hk2=>by
  rcases (h.own .thr).2 with⟨h1,_⟩ | ⟨g,cap,cur,h1,_,h2,_⟩
  ·have h3:V.thr=.slice none 0 0:=h1
   rw[h3]at hk2;cases hk2
  ·have h3:V.thr=.slice (some ⟨g,0,none⟩) _ cap:=h1
   rw[h3]at hk2
   obtain rfl:g=k:=by simpa [Value.ownBlock]using hk2
   exact⟨cur,h2⟩
 refine h.turn (V':={ V with thr:=.slice (some ⟨g8,0,none⟩) (V.tcs.length+1) cap8,tcs:=V.tcs++[x] }) (r':={ r with ths:=r.ths++[x.rt] }) .thr (row:=V.thr.ownBlock) rfl ⟨hg.os,hg.tape,hg.output,hg.size,fun k hk hn=>hg.block k hk (fun e=>hn e.symm)⟩ (fun p hp=>?_) ?_ (fun k hk2=>?_) (by rw[h.ths];simp) (fun y hy=>?_) h.outl (fun t v l h1 h2=>.inl ⟨h1,h2⟩)
 ·cases p with
  | thr=>exact absurd rfl hp
  | _=>exact⟨rfl,rfl,rfl⟩
 ·show World.ownsRow _ _ _ _ (.slice (some ⟨g8,0,none⟩) (V.tcs.length+1) cap8) (V.tcs++[x]).length ((V.tcs++[x]).flatMap (thC mz))
  rw[List.length_append,List.flatMap_append]
  simpa [dT,dS]using hown
 ·have:g8=k:=by simpa [DV.val,Value.ownBlock]using hk2
  subst this
  exact hat
 ·rw[List.mem_append,List.mem_singleton]at hy
  rcases hy with hy | rfl
  ·exact .inl hy
  ·refine .inr fun who' _=>⟨hac,?_,hok,?_,fun k hk=>?_,fun _=>hvn⟩
   ·refine OwnR.own_stays hU fun k hk=>hg.block k (OwnR.own_lt hU hk) (fun e=>?_)
    obtain⟨cs,hc⟩:=hrt k e.symm
    exact OwnR.own_type hU hc (by decide) hk
   ·rw[hnum,hvn];exact⟨rfl,.inl ⟨rfl,rfl⟩⟩
   ·rw[hvn]at hk;cases hk
theorem RunAt.app_outs (h:RunAt mz w0 nc w who V r) {g8 cap8:Nat}
  (hown:w'.ownsRow w0.heap.size 32 1 (.slice (some ⟨g8,0,none⟩) (V.vo.length+1) cap8) (V.vo.length+1) (V.vo++[.slice none 0 0])) (hg:w.grownBy w' V.outs.ownBlock) (hat:V.outs.ownBlock=some g8∨w.heap.size≤g8) :
  ∃who',RunAt mz w0 nc w' who' { V with outs:=.slice (some ⟨g8,0,none⟩) (V.vo.length+1) cap8,vo:=V.vo++[.slice none 0 0] } { r with outs:=r.outs++[[]] }∧(∀k,k<w.heap.size→who' k=who k):=by
 refine h.turn (V':={ V with outs:=.slice (some ⟨g8,0,none⟩) (V.vo.length+1) cap8,vo:=V.vo++[.slice none 0 0] }) (r':={ r with outs:=r.outs++[[]] }) .outs (row:=V.outs.ownBlock) rfl ⟨hg.os,hg.tape,hg.output,hg.size,fun k hk hn=>hg.block k hk (fun e=>hn e.symm)⟩ (fun p hp=>?_) ?_ (fun k hk2=>?_) h.ths (fun y hy=>.inl hy) (by rw[List.length_append,List.length_append,h.outl];rfl) (fun t v l h1 h2=>?_)
 ·cases p with
  | outs=>exact absurd rfl hp
  | _=>exact⟨rfl,rfl,rfl⟩
 ·show World.ownsRow _ _ _ _ (Value.slice (some ⟨g8,0,none⟩) (V.vo.length+1) cap8) (V.vo++[Value.slice none 0 0]).length (V.vo++[Value.slice none 0 0])
  rw[List.length_append]
  simpa [dT,dS]using hown
 ·have:g8=k:=by simpa [DV.val,Value.ownBlock]using hk2
  subst this
  exact hat
 ·have hol:=h.outl
  rw[List.getElem?_append]at h1 h2
  by_cases ht:t<V.vo.length
  ·rw[if_pos ht]at h1
   rw[if_pos (by omega)]at h2
   exact .inl ⟨h1,h2⟩
  ·rw[if_neg ht]at h1
   rw[if_neg (by omega)]at h2
   have h3:=(List.getElem?_eq_some_iff.1 h1).1
   simp only[List.length_singleton]at h3
   have e1:t-V.vo.length=0:=by omega
   have e2:t-r.outs.length=0:=by omega
   rw[e1]at h1
   rw[e2]at h2
   injection h1 with h1
   injection h2 with h2
   subst h1 h2
   exact .inr ⟨rfl,.inl ⟨rfl,rfl⟩⟩
end
def V0 (v:Value):DV:=⟨.slice none 0 0,v,.slice none 0 0,.slice none 0 0,.slice none 0 0,.slice none 0 0,.slice none 0 0,[],[]⟩
theorem start_snoc (nc:Nat) (l:List SrcP.Thread) (t:SrcP.Thread):RR.start nc (l++[t]) = { RR.start nc l with ths:=(RR.start nc l).ths++[⟨⟨t.acts,0,List.replicate t.locals.toNat 0⟩,[]⟩],outs:=(RR.start nc l).outs++[[]] }:=by
 unfold RR.start
 simp
theorem RunAt.start0 (mz:List Value) {w0 w:World} {nc ce lo:Nat} {ae:Option Addr} (hown:w.ownsRow lo 42 5 (.slice ae nc ce) nc ((evs0 nc).flatMap RunW.evC)) (hlo:w0.heap.size≤lo) (hb:Below w0.heap.size w0 w) :
  ∃who,RunAt mz w0 nc w who (V0 (.slice ae nc ce)) (RR.start nc [])∧∀k,k<lo→who k=none:=by
 have ho:=OwnR.own_mono hown hlo
 refine⟨fun k=>if (Value.slice ae nc ce).ownBlock=some k then some .ev else none,⟨fun q=>?_,fun q k hk=>?_,fun k q hk=>?_,rfl,fun x hx=>(by cases hx),rfl,fun t v l h1=>(by simp[V0]at h1),hb⟩,fun k hk=>if_neg fun e=>by have:=OwnR.own_base hown e;omega⟩
 ·cases q with
  | ev =>
   show w.ownsRow _ _ _ (.slice ae nc ce) (evs0 nc).length _
   rw[evs0_len]
   exact ho
  | _=>exact⟨rfl,.inl ⟨rfl,rfl⟩⟩
 ·cases q with
  | ev=>exact if_pos hk
  | _=>exact absurd hk (by simp[DV.val,V0,Value.ownBlock])
 ·split at hk
  ·rename_i h1
   exact⟨OwnR.own_base ho h1,OwnR.own_lt ho h1⟩
  ·cases hk
end Go.Proofs.YtmjilfamjlnigaaGreat.RefW
