/- A region that draws its order: memory, whatever the order. -/
import Derived.Test.YtkcdehffcddciaaGreatDoorQ08
import Derived.OrdersIn
namespace Go.Proofs.YtkcdehffcddciaaGreatDoor.Vm
open Go Go.RowKit
structure Dw where
 P:Program
 Er:Nat→Dr→Tr V→H→V→H→Prop
 ops:Array Oper
 N:Nat
 far:Nat
 l:List Dr
 t:Tr V
 h:H
 outs:List Out
 T:Nat→Tr V
 S:Nat→Vm.H
 M:Nat→Vm.H
 v:Nat→V
 stf:List (Option Nat × Vm.H)
 rsf:List Re
 hE:∀(i:Nat) (o:Oper) (d:Dr),ops[i]?=some o→l[i]?=some d→isE o.op=true→∀(ts:Tr V) (m:Vm.H) (v:V) (m':Vm.H),Er i d ts m v m'→∀(A:Sub) (w:World) (a:Act),Mt A m w→TRel A m.next N ts a.tmps→Does P o a w (Post A m w v m')
 df:DrawFacts ops
 len:l.length=ops.size
 dr:∀(i:Nat) (o:Oper),ops[i]?=some o→∃d,l[i]?=some d∧DrOk P ops N i o d
 cn:Canon Er far l 0 t h h [(none,h)] [] [] outs T S M v stf rsf
namespace Dw
variable (D:Dw)
def E (i:Nat):Prop:=∃o,D.ops[i]?=some o∧isE o.op=true
def Soft (i:Nat):Prop:=∃o,D.ops[i]?=some o∧isSoft o.op=true
def W (i:Nat):Prop:=∃d,D.l[i]?=some d∧wantK (smalls (D.T i) d.us .e) d.s.g=true
def Pd (L:Array Bool) (c s:Nat):Prop:=D.Soft s∧D.W s∧L.getD s false=true∧c≤s
def K (L:Array Bool) (c b:Nat):Prop:=b<(D.M c).next∨∃s,D.Pd L c s∧b=(D.M s).next
def Blk (s:Nat) (o:Obj):Prop:=∃O,D.M (s+1)=⟨(D.M s).next+1,(D.M s).t.set (D.M s).next (some O)⟩∧∀A n i kk,ORel A n i (kk,0) O o
end Dw
def AgreeP (A B:Sub) (K:Nat→Prop):Prop:=∀b,K b→B.ι b=A.ι b∧B.κ b=A.κ b
theorem AgreeP.refl (A:Sub) (K:Nat→Prop):AgreeP A A K:=fun _ _=>⟨rfl,rfl⟩
namespace Dw
variable {D:Dw}
theorem lt_of {i:Nat} {o:Oper} (ho:D.ops[i]?=some o):i<D.ops.size:=(Array.getElem?_eq_some_iff.1 ho).1
theorem op_of {i:Nat} (h:i<D.ops.size):∃o,D.ops[i]?=some o:=⟨_,Array.getElem?_eq_getElem h⟩
theorem step {i:Nat} {o:Oper} (ho:D.ops[i]?=some o):∃d,D.l[i]?=some d∧DrOk D.P D.ops D.N i o d∧CStep D.Er D.far i d (D.T i) (D.S i) (D.M i) (D.v i) (D.T (i+1)) (D.S (i+1)) (D.M (i+1)):=by
 obtain⟨d,h1,h2⟩:=D.dr i o ho
 have:=D.cn.step i d h1
 rw[Nat.zero_add]at this
 exact⟨d,h1,h2,this⟩
theorem notE {i:Nat} {o:Oper} (ho:D.ops[i]?=some o) (h:isE o.op=false):¬D.E i:=fun ⟨o',h1,h2⟩=>by
 rw[ho]at h1
 injection h1 with h1
 subst h1
 rw[h]at h2
 cases h2
theorem notSoft {i:Nat} {o:Oper} (ho:D.ops[i]?=some o) (h:isSoft o.op=false):¬D.Soft i:=fun ⟨o',h1,h2⟩=>by
 rw[ho]at h1
 injection h1 with h1
 subst h1
 rw[h]at h2
 cases h2
theorem notW {i:Nat} {d:Dr} (hd:D.l[i]?=some d) (h:wantK (smalls (D.T i) d.us .e) d.s.g=false):¬D.W i:=fun ⟨d',h1,h2⟩=>by
 rw[hd]at h1
 injection h1 with h1
 subst h1
 rw[h]at h2
 cases h2
theorem E_soft {i:Nat} (h:D.E i):¬D.Soft i:=by
 obtain⟨o,h1,h2⟩:=h
 exact notSoft h1 (isE_soft h2)
theorem M_same {i:Nat} (hi:i<D.ops.size) (hE:¬D.E i) (hS:¬(D.Soft i∧D.W i)):D.M (i+1)=D.M i:=by
 obtain⟨o,ho⟩:=op_of hi
 obtain⟨d,hd,hk,hc⟩:=step ho
 obtain⟨_,⟨_,_,h1,_⟩ | ⟨hw,hc⟩⟩:=hc
 ·exact h1
 ·rcases hk.k with⟨h1,_⟩ | ⟨g,h1,h2,h3⟩ | ⟨h1,h2,h3⟩
  ·exact absurd ⟨o,ho,h1⟩ hE
  ·exact absurd ⟨⟨o,ho,h1⟩,⟨d,hd,hw⟩⟩ hS
  ·rw[h3]at hc
   exact hc.2.1
theorem M_soft {i:Nat} (hS:D.Soft i) (hW:D.W i):∃o d g x,D.ops[i]?=some o∧D.l[i]?=some d∧d.us=usesT D.ops o∧SoftOk D.P o.op g∧g (smalls (D.T i) d.us .e)=some x∧D.v i=x.2.2 (D.M i).next ∧
  D.M (i+1)=⟨(D.M i).next+1,(D.M i).t.set (D.M i).next (some (.cells x.1 x.2.1.length false (Tr.putsL x.2.1 .e 0)))⟩:=by
 obtain⟨o,ho,hs⟩:=hS
 obtain⟨d,hd,hk,hc⟩:=step ho
 obtain⟨_,⟨h1,_⟩ | ⟨hw,hc⟩⟩:=hc
 ·exact absurd hW (notW hd h1)
 ·rcases hk.k with⟨h1,_⟩ | ⟨g,h1,h2,h3⟩ | ⟨h1,h2,h3⟩
  ·rw[isE_soft h1]at hs;cases hs
  ·rw[h3]at hc
   obtain⟨x,hx,hc⟩:=hc
   exact⟨o,d,g,x,ho,hd,hk.us,h2,hx,hc.1,hc.2.1⟩
  ·rw[h2.1]at hs;cases hs
theorem M_snext {i:Nat} (hS:D.Soft i) (hW:D.W i):(D.M (i+1)).next=(D.M i).next+1:=by
 obtain⟨o,d,g,x,_,_,_,_,_,_,h6⟩:=M_soft hS hW
 rw[h6]
theorem M_le {i:Nat} (hi:i<D.ops.size):(D.M i).next≤(D.M (i+1)).next:=by
 by_cases hE:D.E i
 ·obtain⟨o,ho,he⟩:=hE
  obtain⟨d,hd,hk,hc⟩:=step ho
  obtain⟨_,⟨_,_,h1,_⟩ | ⟨hw,hc⟩⟩:=hc
  ·rw[h1];exact Nat.le_refl _
  ·rcases hk.k with⟨h1,h2⟩ | ⟨g,h1,h2,h3⟩ | ⟨h1,h2,h3⟩
   ·rw[h2]at hc
    exact hc.2.2.1
   ·rw[isE_soft he]at h1;cases h1
   ·rw[h1]at he;cases he
 ·by_cases hS:D.Soft i∧D.W i
  ·rw[M_snext hS.1 hS.2]
   exact Nat.le_succ _
  ·rw[M_same hi hE hS]
   exact Nat.le_refl _
theorem M_mono {i j:Nat} (h:i≤j) (hj:j≤D.ops.size):(D.M i).next≤(D.M j).next:=by
 induction j with
 | zero=>rw[Nat.le_zero.1 h];exact Nat.le_refl _
 | succ j ih =>
  rcases Nat.lt_or_eq_of_le h with h1 | h1
  ·exact Nat.le_trans (ih (by omega) (by omega)) (M_le (by omega))
  ·rw[h1];exact Nat.le_refl _
theorem M_zero:D.M 0=D.h:=D.cn.h0
theorem M_far {i:Nat} (hi:i≤D.ops.size):(D.M i).next≤D.far:=by
 have:=D.cn.farle
 rw[D.len]at this
 exact Nat.le_trans (M_mono hi (Nat.le_refl _)) this
theorem M_E {i:Nat} (h:D.E i):D.S (i+1)=D.M (i+1)∧(some i,D.M (i+1))∈D.stf:=by
 obtain⟨o,ho,he⟩:=h
 obtain⟨d,hd,hk,hc⟩:=step ho
 have hdk:d.k=.e:=by
  rcases hk.k with⟨h1,h2⟩ | ⟨g,h1,h2,h3⟩ | ⟨h1,h2,h3⟩
  ·exact h2
  ·rw[isE_soft he]at h1;cases h1
  ·rw[h1]at he;cases he
 have h1:D.S (i+1)=D.M (i+1):=by
  obtain⟨_,⟨_,_,h1,h2⟩ | ⟨hw,hc⟩⟩:=hc
  ·rw[hdk]at h2
   rw[h2,h1]
  ·rw[hdk]at hc
   exact hc.2.2.2
 refine⟨h1,?_⟩
 rw[←h1]
 have:=D.cn.stE i d hd hdk
 rw[Nat.zero_add]at this
 exact this
/-! ### Temporaries of the canonical way -/
theorem T_succ {i:Nat} {o:Oper} (ho:D.ops[i]?=some o):D.T (i+1)=setT (D.T i) o.dst (D.v i):=by
 obtain⟨d,hd,hk,hc⟩:=step ho
 rw[hc.1,(dstB_some hk.d).1]
theorem T_no {k:Nat}:∀{i:Nat},i≤D.ops.size→(∀j o,j<i→D.ops[j]?=some o→o.dst≠some k)→(D.T i).get k=D.t.get k
 | 0,_,_=>by rw[D.cn.t0]
 | i+1,hi,h=>by
  obtain⟨o,ho⟩:=op_of (D:=D) (show i<D.ops.size by omega)
  rw[T_succ ho,←T_no (i:=i) (by omega) (fun j o' hj=>h j o' (by omega))]
  have:=h i o (by omega) ho
  cases hd:o.dst with
  | none=>rfl
  | some d =>
   show((D.T i).set d (some (D.v i))).get k=_
   rw[Tr.get_set,if_neg (fun e=>this (by rw[hd,e]))]
theorem T_yes {j k:Nat} {oj:Oper} (hj:D.ops[j]?=some oj) (hd:oj.dst=some k):∀{i:Nat},j<i→i≤D.ops.size→(D.T i).get k=some (D.v j)
 | 0,h,_=>by omega
 | i+1,h,hi=>by
  obtain⟨o,ho⟩:=op_of (D:=D) (show i<D.ops.size by omega)
  rw[T_succ ho]
  by_cases hij:j=i
  ·subst hij
   rw[hj]at ho
   injection ho with ho
   subst ho
   rw[hd]
   show((D.T j).set k (some (D.v j))).get k=_
   rw[Tr.get_set,if_pos rfl]
  ·rw[←T_yes hj hd (i:=i) (by omega) (by omega)]
   cases hd':o.dst with
   | none=>rfl
   | some d =>
    show((D.T i).set d (some (D.v i))).get k=_
    rw[Tr.get_set,if_neg (fun e=>hij (D.df.uniq j i oj o k hj ho hd (by rw[hd',e])))]
end Dw
/-! ### Memory, whatever the order -/
theorem Ev.adopt {A0 A:Sub} {h0 m:H} {w0 w:World} (e:Ev A0 h0 w0 A m w) {O:Vm.O} {o:Obj} (h1:w.heap[A.ι m.next]?=some o) (h2:∀A n i kk,ORel A n i (kk,0) O o) (hz:(A.κ m.next).2=0) (h3:w0.heap.size≤A.ι m.next)
  (h4:∀b U,m.t.get b=some U→A.ι b≠A.ι m.next):Ev A0 h0 w0 A ⟨m.next+1,m.t.set m.next (some O)⟩ w:=by
 have hg:∀b U,(m.t.set m.next (some O)).get b=some U→(b=m.next∧U=O)∨(b≠m.next∧m.t.get b=some U):=fun b U hb=>by
  rw[Tr.get_set]at hb
  split at hb
  ·rename_i e;injection hb with hb;exact .inl ⟨e,hb.symm⟩
  ·rename_i e;exact .inr ⟨e,hb⟩
 refine⟨⟨fun b U hb=>?_,fun b U hb=>?_,fun b b' U U' hb hb' he=>?_⟩,Nat.le_succ_of_le e.next,e.old,fun b U hb=>?_,e.fr,e.size,e.os,e.tape,e.output,fun b U g hb hp=>?_⟩
 ·rcases hg b U hb with⟨rfl,_⟩ | ⟨_,h5⟩
  ·exact Nat.lt_succ_self _
  ·exact Nat.lt_succ_of_lt (e.mt.lt b U h5)
 ·rcases hg b U hb with⟨rfl,rfl⟩ | ⟨_,h5⟩
  ·refine⟨o,h1,?_⟩
   rw[show A.κ m.next=((A.κ m.next).1,0) by rw[←hz]]
   exact h2 _ _ _ _
  ·obtain⟨x,hx,hr⟩:=e.mt.obj b U h5
   exact⟨x,hx,hr.mono (fun _ _=>⟨rfl,rfl⟩) (Nat.le_succ _)⟩
 ·rcases hg b U hb with⟨rfl,_⟩ | ⟨_,h5⟩ <;> rcases hg b' U' hb' with⟨rfl,_⟩ | ⟨_,h5'⟩
  ·rfl
  ·exact absurd he.symm (h4 b' U' h5')
  ·exact absurd he (h4 b U h5)
  ·exact e.mt.inj b b' U U' h5 h5' he
 ·rcases hg b U hb with⟨rfl,_⟩ | ⟨_,h5⟩
  ·exact .inl h3
  ·exact e.src b U h5
 ·obtain⟨h5,⟨U',h6,h7⟩,h8⟩:=e.pin b U g hb hp
  exact⟨h5,⟨U',by rw[Tr.get_set,if_neg (fun he=>by have:=e.mt.lt b U' h6;omega)];exact h6,h7⟩,h8⟩
theorem set_get {L:Array Bool} {i:Nat} (hi:i<L.size) (j:Nat):(L.setIfInBounds i true).getD j false=if j=i then true else L.getD j false:=by
 by_cases h:j=i
 ·subst h
  simp[hi]
 ·rw[if_neg h,getD_set_ne false (Ne.symm h)]
structure MemI (D:Dw) (A0:Sub) (w0:World) (L:Array Bool) (w:World) (c:Nat) (A:Sub):Prop where
 size:L.size=D.ops.size
 closed:Closed D.ops L
 hard:∀e,D.E e→(L.getD e false=true↔e<c)
 soft:∀s,D.Soft s→s<c→L.getD s false=true
 cle:c≤D.ops.size
 ev:Ev A0 D.h w0 A (D.M c) w
 pend:∀s,D.Pd L c s→∃o,w.heap[A.ι (D.M s).next]?=some o∧D.Blk s o∧(A.κ (D.M s).next).2=0
 pnew:∀s,D.Pd L c s→w0.heap.size≤A.ι (D.M s).next
 pfar:∀s,D.Pd L c s→∀b O,(D.M c).t.get b=some O→A.ι b≠A.ι (D.M s).next
 pinj:∀s s',D.Pd L c s→D.Pd L c s'→A.ι (D.M s).next=A.ι (D.M s').next→s=s'
structure TmpI (D:Dw) (a0:Act) (L:Array Bool) (a:Act) (c:Nat) (A:Sub):Prop where
 ts:a.tmps.size=D.N
 df:a.defers=a0.defers
 got:∀i o k,D.ops[i]?=some o→L.getD i false=true→o.dst=some k→∀B,AgreeP A B (D.K L c)→Rel B D.far (D.v i) (a.tmps.getD k undef)
 not:∀k,(∀i o,D.ops[i]?=some o→L.getD i false=true→o.dst≠some k)→a.tmps.getD k undef=a0.tmps.getD k undef
section
variable {D:Dw} {A0 A A':Sub} {w0 w w':World} {a0 a:Act} {L:Array Bool} {c i:Nat}
theorem K_adopt (hc:c<D.ops.size) {b:Nat} (h:D.K L c b):D.K L (c+1) b:=by
 rcases h with h | ⟨s,h,rfl⟩
 ·exact .inl (Nat.lt_of_lt_of_le h (Dw.M_le hc))
 ·by_cases hs:s=c
  ·subst hs
   have h6:=Dw.M_snext h.1 h.2.1
   left
   rw[h6]
   exact Nat.lt_succ_self _
  ·exact .inr ⟨s,⟨h.1,h.2.1,h.2.2.1,by have:=h.2.2.2;omega⟩,rfl⟩
theorem TmpI.adopt (ht:TmpI D a0 L a c A) (hc:c<D.ops.size):TmpI D a0 L a (c+1) A :=
 ⟨ht.ts,ht.df,fun i o k hi hl hd B hB=>ht.got i o k hi hl hd B (fun b hb=>hB b (K_adopt hc hb)),ht.not⟩
theorem MemI.adopt (hm:MemI D A0 w0 L w c A) (hc:c<D.ops.size) (hE:¬D.E c) (hS:D.Soft c→L.getD c false=true):MemI D A0 w0 L w (c+1) A:=by
 have hp:∀s,D.Pd L (c+1) s→D.Pd L c s:=fun s h=>⟨h.1,h.2.1,h.2.2.1,by have:=h.2.2.2;omega⟩
 have hsoft:∀s,D.Soft s→s<c+1→L.getD s false=true:=fun s hs hlt=>by
  by_cases h:s=c
  ·subst h;exact hS hs
  ·exact hm.soft s hs (by omega)
 have hhard:∀e,D.E e→(L.getD e false=true↔e<c+1):=fun e he=>by
  rw[hm.hard e he]
  have:e≠c:=fun h=>hE (h ▸ he)
  omega
 by_cases hb:D.Soft c∧D.W c
 ·have hpd:D.Pd L c c:=⟨hb.1,hb.2,hS hb.1,Nat.le_refl _⟩
  obtain⟨o,h1,⟨O,h2,h3⟩,hz⟩:=hm.pend c hpd
  refine⟨hm.size,hm.closed,hhard,hsoft,hc,?_,fun s hs=>hm.pend s (hp s hs),fun s hs=>hm.pnew s (hp s hs),fun s hs b U hU=>?_,fun s s' hs hs'=>hm.pinj s s' (hp s hs) (hp s' hs')⟩
  ·rw[h2]
   exact hm.ev.adopt h1 h3 hz (hm.pnew c hpd) (hm.pfar c hpd)
  ·rw[h2]at hU
   have hU:((D.M c).t.set (D.M c).next (some O)).get b=some U:=hU
   rw[Tr.get_set]at hU
   split at hU
   ·rename_i e
    subst e
    intro he
    have:=hm.pinj c s hpd (hp s hs) he
    have:=hs.2.2.2
    omega
   ·exact hm.pfar s (hp s hs) b U hU
 ·have h2:=Dw.M_same hc hE hb
  refine⟨hm.size,hm.closed,hhard,hsoft,hc,by rw[h2];exact hm.ev,fun s hs=>hm.pend s (hp s hs),fun s hs=>hm.pnew s (hp s hs),fun s hs b U hU=>hm.pfar s (hp s hs) b U (by rw[←h2];exact hU),fun s s' hs hs'=>hm.pinj s s' (hp s hs) (hp s' hs')⟩
theorem adopts {i:Nat}:∀(n:Nat) {c:Nat},c+n=i→i≤D.ops.size→MemI D A0 w0 L w c A→TmpI D a0 L a c A→(∀j,c≤j→j<i→¬D.E j∧(D.Soft j→L.getD j false=true))→MemI D A0 w0 L w i A∧TmpI D a0 L a i A
 | 0,c,h,_,hm,ht,_=>by
  obtain rfl:c=i:=by omega
  exact⟨hm,ht⟩
 | n+1,c,h,hi,hm,ht,hj=>by
  have h1:=hj c (Nat.le_refl _) (by omega)
  exact adopts n (c:=c+1) (by omega) hi (hm.adopt (by omega) h1.1 h1.2) (ht.adopt (by omega)) (fun j h2 h3=>hj j (by omega) h3)
theorem closed_set (hm:MemI D A0 w0 L w c A) {o:Oper} (ho:D.ops[i]?=some o) (hr:∀e∈o.after,Region.binds .any e=true→L.getD e.on false=true):Closed D.ops (L.setIfInBounds i true):=by
 have hi:i<L.size:=by rw[hm.size];exact Dw.lt_of ho
 intro j oj e hl hj he hb
 rw[set_get hi]at hl
 by_cases h:j=i
 ·subst h
  rw[ho]at hj
  injection hj with hj
  subst hj
  exact getD_set_true (hr e he hb)
 ·rw[if_neg h]at hl
  exact getD_set_true (hm.closed j oj e hl hj he hb)
theorem MemI.quiet (hm:MemI D A0 w0 L w c A) {o:Oper} (ho:D.ops[i]?=some o) (hr:∀e∈o.after,Region.binds .any e=true→L.getD e.on false=true) (hE:¬D.E i) (hS:¬(D.Soft i∧D.W i)) :
  MemI D A0 w0 (L.setIfInBounds i true) w c A∧∀b,D.K L c b→D.K (L.setIfInBounds i true) c b:=by
 have hi:i<L.size:=by rw[hm.size];exact Dw.lt_of ho
 have hp:∀s,D.Pd (L.setIfInBounds i true) c s↔D.Pd L c s:=fun s=>by
  unfold Dw.Pd
  rw[set_get hi]
  by_cases h:s=i
  ·subst h
   exact⟨fun h=>absurd ⟨h.1,h.2.1⟩ hS,fun h=>absurd ⟨h.1,h.2.1⟩ hS⟩
  ·rw[if_neg h]
 refine⟨⟨by simp[hm.size],closed_set hm ho hr,fun e he=>?_,fun s hs hlt=>?_,hm.cle,hm.ev,fun s hs=>hm.pend s ((hp s).1 hs),fun s hs=>hm.pnew s ((hp s).1 hs),fun s hs=>hm.pfar s ((hp s).1 hs),fun s s' hs hs'=>hm.pinj s s' ((hp s).1 hs) ((hp s').1 hs')⟩,fun b hb=>?_⟩
 ·rw[set_get hi,if_neg (fun h:e=i=>hE (h ▸ he))]
  exact hm.hard e he
 ·exact getD_set_true (hm.soft s hs hlt)
 ·rcases hb with h | ⟨s,h,rfl⟩
  ·exact .inl h
  ·exact .inr ⟨s,(hp s).2 h,rfl⟩
end
end Go.Proofs.YtkcdehffcddciaaGreatDoor.Vm
namespace Go.Proofs.YtkcdehffcddciaaGreatDoor.Vm
open Go Go.RowKit
section
variable {D:Dw} {A0 A A':Sub} {w0 w w':World} {a0 a:Act} {L:Array Bool} {c i:Nat}
theorem MemI.softly (hm:MemI D A0 w0 L w c A) {o:Oper} (ho:D.ops[i]?=some o) (hr:∀e∈o.after,Region.binds .any e=true→L.getD e.on false=true) (hu:L.getD i false=false) (hS:D.Soft i) (hW:D.W i) {ob:Obj} (hb:D.Blk i ob) :
  MemI D A0 w0 (L.setIfInBounds i true) (w.alloc ob) c (A.ext (D.M i).next w.heap.size (0,0))∧c≤i ∧
  ∀b,D.K L c b→D.K (L.setIfInBounds i true) c b∧(A.ext (D.M i).next w.heap.size (0,0)).ι b=A.ι b∧(A.ext (D.M i).next w.heap.size (0,0)).κ b=A.κ b:=by
 have hi:i<L.size:=by rw[hm.size];exact Dw.lt_of ho
 have hin:i<D.ops.size:=Dw.lt_of ho
 have hci:c≤i:=by
  rcases Nat.lt_or_ge i c with h | h
  ·rw[hm.soft i hS h]at hu;cases hu
  ·exact h
 have hMi:(D.M (i+1)).next=(D.M i).next+1:=by
  rw[Dw.M_snext hS hW]
 have hne:∀s,D.Pd L c s→(D.M s).next≠(D.M i).next:=fun s hs he=>by
  have hsi:s≠i:=fun h=>by rw[←h,hs.2.2.1]at hu;cases hu
  have hsn:s<D.ops.size:=by obtain⟨o',h1,_⟩:=hs.1;exact Dw.lt_of h1
  have hMs:(D.M (s+1)).next=(D.M s).next+1:=by
   rw[Dw.M_snext hs.1 hs.2.1]
  rcases Nat.lt_or_gt_of_ne hsi with h | h
  ·have:=Dw.M_mono (D:=D) (show s+1≤i from h) (by omega)
   omega
  ·have:=Dw.M_mono (D:=D) (show i+1≤s from h) (by omega)
   omega
 have hbelow:∀b,b<(D.M c).next→b≠(D.M i).next:=fun b hb=>by
  have:=Dw.M_mono (D:=D) hci (by omega)
  omega
 have ha:∀b,b≠(D.M i).next→(A.ext (D.M i).next w.heap.size (0,0)).ι b=A.ι b∧(A.ext (D.M i).next w.heap.size (0,0)).κ b=A.κ b:=fun b hb=>by simp[Sub.ext,hb]
 have hself:(A.ext (D.M i).next w.heap.size (0,0)).ι (D.M i).next=w.heap.size:=by simp[Sub.ext]
 have hp:∀s,D.Pd (L.setIfInBounds i true) c s→s=i∨(s≠i∧D.Pd L c s):=fun s hs=>by
  by_cases h:s=i
  ·exact .inl h
  ·refine .inr ⟨h,hs.1,hs.2.1,?_,hs.2.2.2⟩
   have:=hs.2.2.1
   rw[set_get hi,if_neg h]at this
   exact this
 have hlt:∀s,D.Pd L c s→A.ι (D.M s).next<w.heap.size:=fun s hs=>by
  obtain⟨o',h1,_⟩:=hm.pend s hs
  exact(Array.getElem?_eq_some_iff.1 h1).1
 have hev:Ev A0 D.h w0 (A.ext (D.M i).next w.heap.size (0,0)) (D.M c) (w.alloc ob):=by
  have h1:Ev A (D.M c) w A (D.M c) (w.alloc ob):=by
   refine⟨⟨hm.ev.mt.lt,fun b O hb=>?_,hm.ev.mt.inj⟩,Nat.le_refl _,fun _ _=>⟨rfl,rfl⟩,fun b O hb=>.inr ⟨b,O,hb,rfl⟩,fun j hj _=>Below.heap_alloc w ob j hj,by simp,rfl,rfl,rfl,fun b O g hb hp=>⟨rfl,⟨O,hb,hp⟩,Below.heap_alloc w ob _ (hm.ev.mt.ilt hb)⟩⟩
   obtain⟨x,hx,hr⟩:=hm.ev.mt.obj b O hb
   exact⟨x,(Below.heap_alloc w ob _ (hm.ev.mt.ilt hb)).trans hx,hr⟩
  exact(hm.ev.trans h1).cong fun b hb=>ha b (hbelow b hb)
 refine⟨⟨by simp[hm.size],closed_set hm ho hr,fun e he=>?_,fun s hs hlt=>getD_set_true (hm.soft s hs hlt),hm.cle,hev,fun s hs=>?_,fun s hs=>?_,fun s hs b O hbO=>?_,fun s s' hs hs' he=>?_⟩,hci,fun b hb=>?_⟩
 ·rw[set_get hi,if_neg (fun h:e=i=>Dw.E_soft he (h ▸ hS))]
  exact hm.hard e he
 ·rcases hp s hs with rfl | ⟨_,hs'⟩
  ·exact⟨ob,by rw[hself];exact heap_alloc_new w ob,hb,by simp[Sub.ext]⟩
  ·obtain⟨o',h1,h2,h3⟩:=hm.pend s hs'
   exact⟨o',by rw[(ha _ (hne s hs')).1];exact(Below.heap_alloc w ob _ (hlt s hs')).trans h1,h2,by rw[(ha _ (hne s hs')).2];exact h3⟩
 ·rcases hp s hs with rfl | ⟨_,hs'⟩
  ·rw[hself];exact hm.ev.size
  ·rw[(ha _ (hne s hs')).1];exact hm.pnew s hs'
 ·have hbl:=hm.ev.mt.lt b O hbO
  rw[(ha b (hbelow b hbl)).1]
  rcases hp s hs with rfl | ⟨_,hs'⟩
  ·rw[hself]
   have:=hm.ev.mt.ilt hbO
   omega
  ·rw[(ha _ (hne s hs')).1];exact hm.pfar s hs' b O hbO
 ·rcases hp s hs with rfl | ⟨_,h1⟩ <;> rcases hp s' hs' with rfl | ⟨_,h2⟩
  ·rfl
  ·rw[hself,(ha _ (hne s' h2)).1]at he
   have:=hlt s' h2
   omega
  ·rw[hself,(ha _ (hne s h1)).1]at he
   have:=hlt s h1
   omega
  ·rw[(ha _ (hne s h1)).1,(ha _ (hne s' h2)).1]at he
   exact hm.pinj s s' h1 h2 he
 ·rcases hb with h | ⟨s,h,rfl⟩
  ·exact⟨.inl h,ha b (hbelow b h)⟩
  ·exact⟨.inr ⟨s,⟨h.1,h.2.1,getD_set_true h.2.2.1,h.2.2.2⟩,rfl⟩,ha _ (hne s h)⟩
def Sub.glue (A A':Sub) (m:Nat):Sub:=⟨fun b=>if b<m then A'.ι b else A.ι b,fun b=>if b<m then A'.κ b else A.κ b⟩
theorem Sub.glue_lt (A A':Sub) (m:Nat):Agree A' (A.glue A' m) m:=fun b hb=>by simp[Sub.glue,hb]
theorem Sub.glue_ge (A A':Sub) {m b:Nat} (hb:m≤b):(A.glue A' m).ι b=A.ι b∧(A.glue A' m).κ b=A.κ b:=by simp[Sub.glue,Nat.not_lt.2 hb]
theorem MemI.hardly (hm:MemI D A0 w0 L w i A) {o:Oper} (ho:D.ops[i]?=some o) (hr:∀e∈o.after,Region.binds .any e=true→L.getD e.on false=true) (hE:D.E i) (he:Ev A (D.M i) w A' (D.M (i+1)) w') :
  MemI D A0 w0 (L.setIfInBounds i true) w' (i+1) (A.glue A' (D.M (i+1)).next) ∧
  ∀b,D.K L i b→D.K (L.setIfInBounds i true) (i+1) b∧(A.glue A' (D.M (i+1)).next).ι b=A.ι b∧(A.glue A' (D.M (i+1)).next).κ b=A.κ b:=by
 have hi:i<L.size:=by rw[hm.size];exact Dw.lt_of ho
 have hin:i<D.ops.size:=Dw.lt_of ho
 have h1:Ev A (D.M i) w (A.glue A' (D.M (i+1)).next) (D.M (i+1)) w':=he.cong (Sub.glue_lt A A' _)
 have hp:∀s,D.Pd (L.setIfInBounds i true) (i+1) s→D.Pd L i s∧i+1≤s:=fun s hs=>by
  have h2:=hs.2.2.2
  refine⟨⟨hs.1,hs.2.1,?_,by omega⟩,h2⟩
  have:=hs.2.2.1
  rw[set_get hi,if_neg (by omega)]at this
  exact this
 have hge:∀s,D.Pd L i s→i+1≤s→(A.glue A' (D.M (i+1)).next).ι (D.M s).next=A.ι (D.M s).next∧(A.glue A' (D.M (i+1)).next).κ (D.M s).next=A.κ (D.M s).next:=fun s hs h=>by
  have hsn:s<D.ops.size:=by obtain⟨o',h1,_⟩:=hs.1;exact Dw.lt_of h1
  exact Sub.glue_ge A A' (Dw.M_mono h (by omega))
 have hlt:∀s,D.Pd L i s→A.ι (D.M s).next<w.heap.size:=fun s hs=>by
  obtain⟨o',h1,_⟩:=hm.pend s hs
  exact(Array.getElem?_eq_some_iff.1 h1).1
 refine⟨⟨by simp[hm.size],closed_set hm ho hr,fun e he=>?_,fun s hs hlt=>?_,hin,hm.ev.trans h1,fun s hs=>?_,fun s hs=>?_,fun s hs b O hbO=>?_,fun s s' hs hs' he=>?_⟩,fun b hb=>?_⟩
 ·rw[set_get hi]
  by_cases h:e=i
  ·simp[h]
  ·rw[if_neg h,hm.hard e he]
   omega
 ·rw[set_get hi]
  by_cases h:s=i
  ·simp[h]
  ·rw[if_neg h]
   exact hm.soft s hs (by omega)
 ·obtain⟨h2,h3⟩:=hp s hs
  obtain⟨o',h4,h5,h6⟩:=hm.pend s h2
  exact⟨o',by rw[(hge s h2 h3).1,h1.fr _ (hlt s h2) (hm.pfar s h2)];exact h4,h5,by rw[(hge s h2 h3).2];exact h6⟩
 ·obtain⟨h2,h3⟩:=hp s hs
  rw[(hge s h2 h3).1]
  exact hm.pnew s h2
 ·obtain⟨h2,h3⟩:=hp s hs
  rw[(hge s h2 h3).1]
  rcases h1.src b O hbO with h4 | ⟨b0,O0,h4,h5⟩
  ·have:=hlt s h2
   omega
  ·rw[←h5]
   exact hm.pfar s h2 b0 O0 h4
 ·obtain⟨h2,h3⟩:=hp s hs
  obtain⟨h4,h5⟩:=hp s' hs'
  rw[(hge s h2 h3).1,(hge s' h4 h5).1]at he
  exact hm.pinj s s' h2 h4 he
 ·rcases hb with h | ⟨s,h,rfl⟩
  ·exact⟨.inl (Nat.lt_of_lt_of_le h (Dw.M_le hin)),h1.old b h⟩
  ·have h2:i+1≤s:=by
    have:=h.2.2.2
    have:s≠i:=fun h'=>Dw.E_soft hE (h' ▸ h.1)
    omega
   exact⟨.inr ⟨s,⟨h.1,h.2.1,getD_set_true h.2.2.1,h2⟩,rfl⟩,hge s h h2⟩
theorem TmpI.put {L':Array Bool} {c':Nat} (ht:TmpI D a0 L a c A) {o:Oper} (ho:D.ops[i]?=some o) (hi:i<L.size) (hL:L'=L.setIfInBounds i true) (hu:L.getD i false=false) (hd:∀k,o.dst=some k→k<D.N)
  (hK:∀b,D.K L c b→D.K L' c' b∧A'.ι b=A.ι b∧A'.κ b=A.κ b) {x:Value} (hx:∀B,AgreeP A' B (D.K L' c')→Rel B D.far (D.v i) x):TmpI D a0 L' (a.put o.dst x) c' A':=by
 subst hL
 have hne:∀j oj k,D.ops[j]?=some oj→j≠i→oj.dst=some k→o.dst≠some k:=fun j oj k hj hji h1 h2=>hji (D.df.uniq j i oj o k hj ho h1 h2)
 have hget:∀k,o.dst≠some k→(a.put o.dst x).tmps.getD k undef=a.tmps.getD k undef:=fun k h=>by
  cases hd':o.dst with
  | none=>rfl
  | some d =>
   show(a.tmps.setIfInBounds d x).getD k undef=_
   have:d≠k:=fun e=>h (by rw[hd',e])
   simp[Array.getElem?_setIfInBounds_ne this]
 refine⟨?_,by rw[put_defers];exact ht.df,fun j oj k hj hl hk B hB=>?_,fun k hk=>?_⟩
 ·cases o.dst with
  | none=>exact ht.ts
  | some d=>simpa [Act.put]using ht.ts
 ·rw[set_get hi]at hl
  by_cases h:j=i
  ·subst h
   rw[ho]at hj
   injection hj with hj
   subst hj
   have h2:k<a.tmps.size:=by rw[ht.ts];exact hd k hk
   rw[hk]
   show Rel B D.far (D.v j) ((a.tmps.setIfInBounds k x).getD k undef)
   simpa [h2]using hx B hB
  ·rw[if_neg h]at hl
   rw[hget k (hne j oj k hj h hk)]
   exact ht.got j oj k hj hl hk B fun b hb=>by
    obtain⟨h1,h2,h3⟩:=hK b hb
    have h4:=hB b h1
    exact⟨h4.1.trans h2,h4.2.trans h3⟩
 ·rw[hget k (hk i o ho (by rw[set_get hi,if_pos rfl]))]
  exact ht.not k fun j oj hj hl=>hk j oj hj (getD_set_true hl)
end
section
variable {D:Dw} {A0 A A':Sub} {w0 w w':World} {a0 a:Act} {L:Array Bool} {c i:Nat}
theorem ready_ahead (hm:MemI D A0 w0 L w c A) {o:Oper} (ho:D.ops[i]?=some o) (hr:∀e∈o.after,Region.binds .any e=true→L.getD e.on false=true) {j:Nat} (h:Ahead D.ops j i):L.getD j false=true :=
 ahead_listed hm.closed (i+1) j i (Nat.lt_succ_self _) h (fun o' e ho' he hb=>by
  rw[ho]at ho'
  injection ho' with ho'
  subst ho'
  exact hr e he hb)
theorem listed_ahead (hm:MemI D A0 w0 L w c A) {j k:Nat} (hk:L.getD k false=true) (h:Ahead D.ops j k):L.getD j false=true :=
 ahead_listed hm.closed (k+1) j k (Nat.lt_succ_self _) h (fun o' e ho' he hb=>hm.closed k o' e hk ho' he hb)
theorem opnd (hm:MemI D A0 w0 L w c A) (ht:TmpI D a0 L a c A) (ht0:TRel A0 D.h.next D.N D.t a0.tmps) {o:Oper} (ho:D.ops[i]?=some o) (hr:∀e∈o.after,Region.binds .any e=true→L.getD e.on false=true) (hu:L.getD i false=false) {B:Sub} (hB:AgreeP A B (D.K L c)) :
  TRel B D.far D.N (smalls (D.T i) (usesT D.ops o) .e) (cutA (usesT D.ops o) D.N a).tmps:=by
 have hin:=Dw.lt_of ho
 refine⟨by simp[cutA,cutT],fun k=>?_⟩
 rw[smalls_get,show(cutA (usesT D.ops o) D.N a).tmps=cutT (usesT D.ops o) D.N a.tmps from rfl,cutT_get ht.ts]
 by_cases hk:k∈usesT D.ops o
 ·rw[if_pos hk,if_pos hk]
  by_cases hj:∃j oj,D.ops[j]?=some oj∧oj.dst=some k∧L.getD j false=true
  ·obtain⟨j,oj,h1,h2,h3⟩:=hj
   have hji:j<i:=by
    rcases D.df.uses j i oj o k h1 ho h2 hk with h | ⟨h,_⟩ | ⟨_,h⟩
    ·rw[h,hu]at h3;cases h3
    ·exact h
    ·rw[listed_ahead hm h3 h]at hu;cases hu
   rw[Dw.T_yes h1 h2 hji (by omega)]
   exact ht.got j oj k h1 h3 h2 B hB
  ·rw[ht.not k fun j oj h1 h2 h3=>hj ⟨j,oj,h1,h3,h2⟩,Dw.T_no (by omega) (fun j oj hji h1 h2=>hj ⟨j,oj,h1,h2,by
    rcases D.df.uses j i oj o k h1 ho h2 hk with h | ⟨_,h⟩ | ⟨h,_⟩
    ·omega
    ·exact ready_ahead hm ho hr h
    ·omega⟩)]
   refine(ht0.2 k).mono (fun b hb=>?_) ?_
   ·have h1:=hB b (.inl (Nat.lt_of_lt_of_le hb hm.ev.next))
    have h2:=hm.ev.old b hb
    exact⟨h1.1.trans h2.1,h1.2.trans h2.2⟩
   ·rw[←Dw.M_zero]
    exact Dw.M_far (Nat.zero_le _)
 ·rw[if_neg hk,if_neg hk]
  exact .u
def Tight (D:Dw) (c:Nat):Prop:=c=0∨∃e,c=e+1∧D.E e
theorem stands (hm:MemI D A0 w0 L w c A) (hc:Tight D c) {o:Oper} (ho:D.ops[i]?=some o) (hr:∀e∈o.after,Region.binds .any e=true→L.getD e.on false=true) (hu:L.getD i false=false) :
  ∃x,(x,D.M c)∈D.stf∧x∈(none :: (idxs isE D.ops.toList).map some).filter (mayStand (bef D.ops.toList []) (idxs isE D.ops.toList) i):=by
 have hh:∀e',e'∈idxs isE D.ops.toList→Ahead D.ops e' i→e'<c:=fun e' h1 h2=>by
  obtain⟨o',h3,h4⟩:=idxs_mem.1 h1
  exact(hm.hard e' ⟨o',by simpa using h3,h4⟩).1 (ready_ahead hm ho hr h2)
 rcases hc with rfl | ⟨e,rfl,hE⟩
 ·refine⟨none,?_,List.mem_filter.2 ⟨by simp,?_⟩⟩
  ·rw[Dw.M_zero]
   exact D.cn.st _ (by simp)
  ·simp only[mayStand,List.all_eq_true]
   intro e' he'
   cases hb:((bef D.ops.toList []).getD i 0).testBit e' with
   | false=>rfl
   | true=>exact absurd (hh e' he' hb) (Nat.not_lt_zero _)
 ·obtain⟨oe,hoe,hie⟩:=hE
  refine⟨some e,(Dw.M_E ⟨oe,hoe,hie⟩).2,List.mem_filter.2 ⟨?_,?_⟩⟩
  ·have:e∈idxs isE D.ops.toList:=idxs_mem.2 ⟨oe,by simpa using hoe,hie⟩
   simp[this]
  ·simp only[mayStand,Bool.and_eq_true,List.all_eq_true]
   refine⟨?_,fun e' he'=>?_⟩
   ·cases hb:((bef D.ops.toList []).getD e 0).testBit i with
    | false=>rfl
    | true =>
     rw[listed_ahead hm ((hm.hard e ⟨oe,hoe,hie⟩).2 (Nat.lt_succ_self _)) hb]at hu
     cases hu
   ·cases hb:((bef D.ops.toList []).getD i 0).testBit e' with
    | false=>simp
    | true =>
     have:=hh e' he' hb
     simp only[Bool.not_true,Bool.or_false]
     exact Nat.ble_eq_true_of_le (by omega)
theorem readsOk_mem {far:Nat} {st:List (Option Nat × H)} {rs:List Re} (h:readsOk far st rs=true) {r:Re} (hr:r∈rs) {x:Option Nat × H} (hx:x∈st) (hk:x.1∈r.ks):∃q,one (r.f.f noC r.t ⟨far,x.2.t⟩ tell)=some (r.v,q):=by
 unfold readsOk at h
 have h1:=List.all_eq_true.1 (List.all_eq_true.1 h r hr) x hx
 rw[show r.ks.contains x.1=true by simpa using hk,br_t]at h1
 split at h1
 ·rename_i p hp
  refine⟨p.2,?_⟩
  rw[hp,←same_eq _ _ h1]
 ·cases h1
theorem underT_get {t:Tr V} {n:Nat} {us:List Nat} (h:underT t n us=true) {k:Nat} (hk:k∈us):(orU (t.get k)).under n=true:=by
 have:=List.all_eq_true.1 h k hk
 cases hg:t.get k with
 | none=>rfl
 | some v=>rw[hg]at this;exact this
structure Mid (D:Dw) (A0:Sub) (w0:World) (a0:Act) (L:Array Bool) (a:Act) (w:World):Prop where
 is:∃c A,Tight D c∧MemI D A0 w0 L w c A∧TmpI D a0 L a c A
theorem stepped {r:Option Nat} {n:Nat} (hs:Mid D A0 w0 a0 L a w) (ht0:TRel A0 D.h.next D.N D.t a0.tmps) {Q:Exit→Act→World→Prop} (hi:i∈Region.ready .any D.ops L):wpOpIn (Wide r) n D.P D.ops Q i (fun a' w'=>Mid D A0 w0 a0 (L.setIfInBounds i true) a' w') a w:=by
 obtain⟨c,A,hc,hm,ht⟩:=hs.is
 obtain⟨hu',o,ho,hr⟩:=mem_ready.1 hi
 have hin:=Dw.lt_of ho
 have hiL:i<L.size:=by rw[hm.size];exact hin
 have hu:L.getD i false=false:=by
  rw[Array.getD_eq_getD_getElem?]at hu' ⊢
  simpa [hiL]using hu'
 obtain⟨d,hd,hk,hst⟩:=Dw.step ho
 have hdst:∀k,o.dst=some k→k<D.N:=(dstB_some hk.d).2
 have hT:=fun B (hB:AgreeP A B (D.K L c))=>opnd hm ht ht0 ho hr hu hB
 have hw:=(cut_wanted (ops:=D.ops) (o:=o) ht.ts).trans (want_eq (hT A (.refl _ _)) hk.g)
 rw[←hk.us]at hw
 have hex:=cut_exec (ops:=D.ops) ht.ts (D.df.sel i o ho)
 unfold wpOpIn
 simp only[ho]
 rw[hw]
 have hE_c:D.E i→c≤i∧∀j,c≤j→j<i→¬D.E j∧(D.Soft j→L.getD j false=true):=fun hE=>by
  obtain⟨o',ho',hie⟩:=hE
  rw[ho]at ho'
  injection ho' with ho'
  subst ho'
  refine⟨?_,fun j h1 h2=>⟨fun hj=>?_,fun hj=>?_⟩⟩
  ·rcases Nat.lt_or_ge i c with h | h
   ·rw[(hm.hard i ⟨o,ho,hie⟩).2 h]at hu;cases hu
   ·exact h
  ·obtain⟨oj,hoj,hje⟩:=hj
   have:=(hm.hard j ⟨oj,hoj,hje⟩).1 (ready_ahead hm ho hr (D.df.hd j i oj o hoj ho hje hie h2))
   omega
  ·obtain⟨oj,hoj,hje⟩:=hj
   exact ready_ahead hm ho hr (D.df.sf j i oj o hoj ho hje hie h2)
 obtain⟨_,⟨hwf,hv,hM,_⟩ | ⟨hwt,hst⟩⟩:=hst
 ·
  rw[hwf]
  simp only[Bool.false_eq_true,if_false]
  refine⟨fun _ _=>trivial,?_⟩
  by_cases hE:D.E i
  ·obtain⟨h1,h2⟩:=hE_c hE
   obtain⟨hm1,ht1⟩:=adopts (i-c) (by omega) (by omega) hm ht h2
   obtain⟨hm2,hK⟩:=hm1.hardly ho hr hE (by rw[hM];exact Ev.refl hm1.ev.mt)
   exact⟨_,_,.inr ⟨i,rfl,hE⟩,hm2,ht1.put ho hiL rfl hu hdst hK (fun B _=>by rw[hv];exact .u)⟩
  ·obtain⟨hm2,hK⟩:=hm.quiet ho hr hE (fun h=>Dw.notW hd hwf h.2)
   exact⟨c,A,hc,hm2,ht.put ho hiL rfl hu hdst (fun b hb=>⟨hK b hb,rfl,rfl⟩) (fun B _=>by rw[hv];exact .u)⟩
 ·rw[hwt]
  simp only[if_true]
  rcases hk.k with⟨hie,hkk⟩ | ⟨g,hsf,hgk,hkk⟩ | ⟨hie,⟨his,hqu⟩,hkk⟩
  ·
   have hE:D.E i:=⟨o,ho,hie⟩
   obtain⟨h1,h2⟩:=hE_c hE
   obtain⟨hm1,ht1⟩:=adopts (i-c) (by omega) (by omega) hm ht h2
   rw[hkk]at hst
   obtain⟨hun,hone,_,_⟩:=hst
   have hT1:TRel A (D.M i).next D.N (smalls (D.T i) (usesT D.ops o) .e) (cutA (usesT D.ops o) D.N a).tmps:=by
    have h3:=hT A (.refl _ _)
    refine⟨h3.1,fun k=>(h3.2 k).lo ?_⟩
    by_cases hk':k∈usesT D.ops o
    ·rw[hk.us]at hun
     exact underT_get hun hk'
    ·rw[smalls_get,if_neg hk']
     rfl
   rw[hk.us]at hone
   have h4:=D.hE i o d ho hd hie _ _ _ _ hone A w _ hm1.ev.mt hT1
   refine(h4.moved hex).wpIn (opB_defer hk.f) fun x w' hp=>?_
   obtain⟨A',hev,hrel⟩:=hp
   obtain⟨hm2,hK⟩:=hm1.hardly ho hr hE hev
   refine⟨_,_,.inr ⟨i,rfl,hE⟩,hm2,ht1.put ho hiL rfl hu hdst hK (fun B hB=>hrel.mono (fun b hb=>?_) (Dw.M_far hin))⟩
   have h5:=hB b (.inl hb)
   have h6:=Sub.glue_lt A A' _ b hb
   exact⟨h5.1.trans h6.1,h5.2.trans h6.2⟩
  ·
   have hS:D.Soft i:=⟨o,ho,hsf⟩
   have hW:D.W i:=⟨d,hd,hwt⟩
   obtain⟨o',d',g',x,ho',hd',hus,hsok,hgx,hv,hM⟩:=Dw.M_soft hS hW
   rw[ho]at ho'
   injection ho' with ho'
   subst ho'
   rw[hd]at hd'
   injection hd' with hd'
   subst hd'
   rw[hus]at hgx
   obtain⟨ys,hor,hrun⟩:=hsok o rfl _ x hgx
   have hb:D.Blk i (.cells ys x.1 (0,0)):=⟨_,hM,hor⟩
   obtain⟨hm2,hci,hK⟩:=hm.softly ho hr hu hS hW hb
   obtain⟨y,hy,hrel⟩:=hrun A D.far D.N (cutA (usesT D.ops o) D.N a) w (hT A (.refl _ _))
   refine(Does.value (R:=fun y' w'=>y'=y∧w'=w.alloc (.cells ys x.1 (0,0))) (by rw[hex];exact hy) ⟨rfl,rfl⟩).wpIn (opB_defer hk.f) fun y' w' hyw=>?_
   obtain⟨rfl,rfl⟩:=hyw
   refine⟨c,_,hc,hm2,ht.put ho hiL rfl hu hdst hK (fun B hB=>?_)⟩
   have h5:=hB (D.M i).next (.inr ⟨i,⟨hS,hW,by rw[set_get hiL,if_pos rfl],hci⟩,rfl⟩)
   rw[hv]
   have h6:B.ι (D.M i).next=w.heap.size:=by rw[h5.1];simp[Sub.ext]
   refine hrel B _ _ h6 (by rw[h5.2];simp[Sub.ext]) ?_
   have:=Dw.M_far (D:=D) (show i+1≤_ from hin)
   rw[Dw.M_snext hS hW]at this
   exact this
  ·
   rw[hkk]at hst
   have hre:=D.cn.rsQ i d _ hd hkk hwt
   obtain⟨x,hx1,hx2⟩:=stands hm hc ho hr hu
   obtain⟨q,hone⟩:=readsOk_mem D.cn.ok hre hx1 hx2
   simp only at hone
   obtain⟨e',l',r',hf⟩:=one_some hone
   rw[hk.us]at hf
   have key:∀B,AgreeP A B (D.K L c)→∃y,(execOp a.eval o).run D.P w=.ok (.value y) w∧Rel B D.far (D.v i) y:=fun B hB=>by
    have hMt:Mt B ⟨D.far,(D.M c).t⟩ w:=hm.ev.mt.cong (fun b hb=>hB b (.inl hb)) (Dw.M_far hm.cle)
    obtain⟨v',h3,y,h4,h5⟩:=opB_quiet hk.f hie his hqu o rfl B ⟨D.far,(D.M c).t⟩ w D.N _ (cutA (usesT D.ops o) D.N a) _ _ hMt (hT B hB) hf
    obtain⟨rfl,_⟩:=tell_inj h3
    exact⟨y,by rw[hex];exact h4,h5⟩
   obtain⟨y,hrun,_⟩:=key A (.refl _ _)
   refine(Does.value (R:=fun z w'=>z=y∧w'=w) hrun ⟨rfl,rfl⟩).wpIn (opB_defer hk.f) fun z w' hyw=>?_
   obtain⟨rfl,rfl⟩:=hyw
   obtain⟨hm2,hK⟩:=hm.quiet ho hr (Dw.notE ho hie) (fun h=>Dw.notSoft ho his h.1)
   refine⟨c,A,hc,hm2,ht.put ho hiL rfl hu hdst (fun b hb=>⟨hK b hb,rfl,rfl⟩) (fun B hB=>?_)⟩
   obtain⟨y',hrun',hrel⟩:=key B (fun b hb=>hB b (hK b hb))
   rw[hrun]at hrun'
   injection hrun' with hrun' _
   injection hrun' with hrun'
   subst hrun'
   exact hrel
/-! ### How many are left -/
def left:List Bool→Nat
 | []=>0
 | b :: l=>(bif b then 0 else 1)+left l
theorem left_set:∀(l:List Bool) (i:Nat),l[i]?=some false→left (l.set i true)+1=left l
 | [],i,h=>by simp at h
 | b :: l,0,h=>by
  simp only[List.getElem?_cons_zero,Option.some.injEq]at h
  subst h
  simp[left]
  omega
 | b :: l,i+1,h=>by
  have:=left_set l i (by simpa using h)
  simp only[List.set_cons_succ,left]
  omega
theorem left_zero:∀(l:List Bool),left l=0→∀(i:Nat),l[i]?≠some false
 | [],_,i,h=>by simp at h
 | b :: l,h,i,hi=>by
  simp only[left]at h
  cases b with
  | false=>simp at h
  | true =>
   cases i with
   | zero=>simp at hi
   | succ i=>exact left_zero l (by omega) i (by simpa using hi)
theorem all_ready (hL:L.size=D.ops.size) (h:Region.ready .any D.ops L = []):∀(n i:Nat),i<n→i<D.ops.size→L.getD i false=true
 | 0,i,h1,_=>absurd h1 (Nat.not_lt_zero _)
 | n+1,i,h1,h2=>by
  cases hl:L.getD i false with
  | true=>rfl
  | false =>
   obtain⟨o,ho⟩:=Dw.op_of h2
   have:i∈Region.ready .any D.ops L:=mem_ready.2 ⟨by
    have h3:i<L.size:=by omega
    rw[Array.getD_eq_getD_getElem?]at hl ⊢
    simpa [h3]using hl,o,ho,fun e he hb=>all_ready hL h n e.on (by have:=D.df.edge i o ho e he hb;omega) (by have:=D.df.edge i o ho e he hb;omega)⟩
   rw[h]at this
   cases this
theorem any_ok {r:Option Nat} {n:Nat} (ht0:TRel A0 D.h.next D.N D.t a0.tmps) {Q:Exit→Act→World→Prop} (hQ:∀L a w,Mid D A0 w0 a0 L a w→(∀i,i<D.ops.size→L.getD i false=true)→Q .normal a w) :
  ∀(fuel:Nat) (L:Array Bool) (a:Act) (w:World),left L.toList≤fuel→Mid D A0 w0 a0 L a w→wpAnyIn (Wide r) n D.P .any D.ops Q fuel L a w
 | 0,L,a,w,hf,hs=>by
  have hsz:L.size=D.ops.size:=by obtain⟨c,A,_,hm,_⟩:=hs.is;exact hm.size
  have hall:∀i,i<D.ops.size→L.getD i false=true:=fun i hi=>by
   have:=left_zero L.toList (by omega) i
   have h1:i<L.size:=by omega
   rw[Array.getD_eq_getD_getElem?]
   simpa [h1]using this
  refine⟨?_,hQ L a w hs hall⟩
  cases hr:Region.ready .any D.ops L with
  | nil=>rfl
  | cons i r =>
   have h1:i∈Region.ready .any D.ops L:=by rw[hr];simp
   obtain⟨h2,o,ho,_⟩:=mem_ready.1 h1
   have h3:=hall i (Dw.lt_of ho)
   have h4:i<L.size:=by rw[hsz];exact Dw.lt_of ho
   rw[Array.getD_eq_getD_getElem?]at h2 h3
   simp[h4]at h2 h3
   rw[h2]at h3
   cases h3
 | fuel+1,L,a,w,hf,hs=>by
  have hsz:L.size=D.ops.size:=by obtain⟨c,A,_,hm,_⟩:=hs.is;exact hm.size
  refine⟨fun h=>hQ L a w hs (fun i hi=>all_ready hsz h (i+1) i (Nat.lt_succ_self _) hi),fun i hi=>wpOpIn_mono (fun a' w' hs'=>?_) (stepped hs ht0 hi)⟩
  refine any_ok ht0 hQ fuel _ a' w' ?_ hs'
  obtain⟨h2,o,ho,_⟩:=mem_ready.1 hi
  have h4:i<L.size:=by rw[hsz];exact Dw.lt_of ho
  have h5:L.toList[i]?=some false:=by
   rw[Array.getD_eq_getD_getElem?]at h2
   simpa [h4]using h2
  have:=left_set L.toList i h5
  rw[Array.toList_setIfInBounds]
  omega
theorem Mid.last {lo:Nat} (hs:Mid D A0 w0 a0 L a w) (ht0:TRel A0 D.h.next D.N D.t a0.tmps) (hd:Marks lo A0 D.h w0 a0.defers) (hall:∀i,i<D.ops.size→L.getD i false=true):Res lo A0 D.h w0 D.N ⟨.normal,D.T D.l.length,D.M D.l.length⟩ a w:=by
 obtain⟨c,A,hc,hm,ht⟩:=hs.is
 have hn:D.l.length=D.ops.size:=D.len
 obtain⟨hm1,ht1⟩:=adopts (i:=D.ops.size) (D.ops.size-c) (by have:=hm.cle;omega) (Nat.le_refl _) hm ht (fun j h1 h2=>⟨fun hE=>by
  have:=(hm.hard j hE).1 (hall j h2)
  omega,fun _=>hall j h2⟩)
 rw[hn]
 refine⟨A,hm1.ev,⟨ht1.ts,fun k=>?_⟩,by rw[ht1.df];exact hd.ev hm1.ev⟩
 by_cases hj:∃(j:Nat) (oj:Oper),D.ops[j]?=some oj∧oj.dst=some k
 ·obtain⟨j,oj,h1,h2⟩:=hj
  have hlt:=Dw.lt_of h1
  rw[Dw.T_yes h1 h2 hlt (Nat.le_refl _)]
  refine(ht1.got j oj k h1 (hall j hlt) h2 A (.refl _ _)).lo ?_
  have:=D.cn.und j (by omega)
  rw[hn]at this
  exact this
 ·rw[Dw.T_no (Nat.le_refl _) (fun j oj _ h1 h2=>hj ⟨j,oj,h1,h2⟩),ht1.not k (fun j oj h1 _ h2=>hj ⟨j,oj,h1,h2⟩)]
  exact(ht0.2 k).mono hm1.ev.old hm1.ev.next
end
theorem draw_of {lo:Nat} {r:Option Nat} {n:Nat} {P:Program} {Er:Nat→Dr→Tr V→H→V→H→Prop} {ops:Array Oper} {N far id:Nat} {Q:Exit→Act→World→Prop} {l:List Dr} {A:Sub} {h:H} {w:World} {t:Tr V} {a:Act} {outs:List Out} {T:Nat→Tr V} {S M:Nat→H} {v:Nat→V} {stf:List (Option Nat × H)} {rsf:List Re}
  (hE:∀(i:Nat) (o:Oper) (d:Dr),ops[i]?=some o→l[i]?=some d→isE o.op=true→∀(ts:Tr V) (m:H) (v:V) (m':H),Er i d ts m v m'→∀(A:Sub) (w:World) (a:Act),Mt A m w→TRel A m.next N ts a.tmps→Does P o a w (Post A m w v m'))
  (hmx:P.follows .mixedOrders=true) (hok:drawOk ops=true) (hlen:l.length=ops.size) (hdr:∀(i:Nat) (o:Oper),ops[i]?=some o→∃d,l[i]?=some d∧DrOk P ops N i o d) (hcn:Canon Er far l 0 t h h [(none,h)] [] [] outs T S M v stf rsf) (hm:Mt A h w) (ht:TRel A h.next N t a.tmps) (hd:Marks lo A h w a.defers)
  (hQ:∀o∈outs,∀a' w',o.x=.normal→Res lo A h w N o a' w'→Q .normal a' w'):(Code.region id ops true).wpIn (Wide r) n P Q a w:=by
 let D:Dw:=⟨P,Er,ops,N,far,l,t,h,outs,T,S,M,v,stf,rsf,hE,drawOk_facts hok,hlen,hdr,hcn⟩
 refine wpIn_region_any hmx (any_ok (D:=D) (A0:=A) (w0:=w) (a0:=a) ht (fun L a' w' hs hall=>?_) ops.size _ a _ ?_ ⟨0,A,.inl rfl,?_,?_⟩)
 ·have hres:=hs.last (lo:=lo) ht hd hall
  refine hQ ⟨.normal,T l.length,M l.length⟩ ?_ a' w' rfl hres
  rw[hcn.outs]
  simp
 ·have:∀n,left (List.replicate n false)≤n:=fun n=>by
   induction n with
   | zero=>simp[left]
   | succ n ih=>rw[List.replicate_succ];simp only[left,cond_false];omega
  rw[Array.toList_replicate]
  exact this _
 ·have hno:∀j,(Array.replicate ops.size false).getD j false=false:=fun j=>by
   rw[Array.getD_eq_getD_getElem?,Array.getElem?_replicate]
   split <;> rfl
  refine⟨by simp[D],fun j o e hj=>(by rw[hno j]at hj;cases hj),fun e he=>⟨fun h=>(by rw[hno e]at h;cases h),fun h=>absurd h (Nat.not_lt_zero _)⟩,fun s _ h=>absurd h (Nat.not_lt_zero _),Nat.zero_le _,?_,fun s hs=>?_,fun s hs=>?_,fun s hs=>?_,fun s s' hs=>?_⟩
  ·show Ev A h w A (M 0) _
   rw[hcn.h0]
   exact Ev.same hm rfl rfl rfl rfl
  all_goals
   have:=hs.2.2.1
   rw[hno s]at this
   cases this
 ·refine⟨ht.1,rfl,fun i o k hi hl=>?_,fun k _=>rfl⟩
  have:(Array.replicate ops.size false).getD i false=false:=by
   rw[Array.getD_eq_getD_getElem?,Array.getElem?_replicate]
   split <;> rfl
  rw[this]at hl
  cases hl
theorem draw_ok {lo:Nat} {r:Option Nat} {n:Nat} {P:Program} {C:CallF} (hC:CallOk P C) (hmx:P.follows .mixedOrders=true) {ops:Array Oper} {N far id:Nat} {Q:Exit→Act→World→Prop} {l:List Dr} {A:Sub} {h:H} {w:World} {t:Tr V} {a:Act} {outs:List Out}
  (hok:drawOk ops=true) (hl:drB P ops N=some l) (hr:runD C far l 0 t h h [(none,h)] [] []=some outs) (hm:Mt A h w) (ht:TRel A h.next N t a.tmps) (hd:Marks lo A h w a.defers)
  (hQ:∀o∈outs,∀a' w',o.x=.normal→Res lo A h w N o a' w'→Q .normal a' w'):(Code.region id ops true).wpIn (Wide r) n P Q a w:=by
 obtain⟨T,S,M,v,stf,rsf,hcn⟩:=canon l 0 t h h _ _ _ outs hr
 obtain⟨hlen,hdr⟩:=drB_get hl
 have hE:∀(i:Nat) (o:Oper) (d:Dr),ops[i]?=some o→l[i]?=some d→isE o.op=true→∀(ts:Tr V) (m:H) (v:V) (m':H),ErC C i d ts m v m'→∀(A:Sub) (w:World) (a:Act),Mt A m w→TRel A m.next N ts a.tmps→Does P o a w (Post A m w v m'):=fun i o d ho hd _ ts m v m' he A w a hm ht=>by
  obtain⟨d',hd',hk⟩:=hdr i o ho
  rw[hd]at hd'
  injection hd' with hd'
  subst hd'
  obtain⟨e',l',r',hf⟩:=one_some he
  obtain⟨v',h',h3,h4⟩:=opB_ok hC hk.f o rfl A m w N _ _ _ _ hm ht hf
  obtain⟨rfl,rfl⟩:=tell_inj h3
  exact h4
 exact draw_of hE hmx hok hlen hdr hcn hm ht hd hQ
end Go.Proofs.YtkcdehffcddciaaGreatDoor.Vm
