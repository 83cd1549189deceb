/- MEMORY: the small machine's values and memory, held against the model's. -/
import Derived.Test.YtkcdehffcddciaaGreatDoorQ02
import Derived.WalkKit
import Derived.Below
import Derived.Laws.Rows
import Derived.Laws.Tables
import Derived.Laws.CopyRow
import Derived.Deep.Draws
import Derived.Laws.Cells
import Derived.CallsIn
import Derived.Laws.StructEq
namespace Go.Proofs.YtkcdehffcddciaaGreatDoor.Vm
open Go Go.RowKit
structure Sub where
 ι:Nat→Nat
 κ:Nat→Nat × Nat
mutual
inductive Rel (A:Sub) (n:Nat):V→Value→Prop
 | u:Rel A n .u undef
 | b (x:Bool):Rel A n (.b x) (.bool x)
 | i (k:IntKind) (m:Int):Rel A n (.i k m) (.int k m)
 | s (x:ByteArray):Rel A n (.s x) (.string x)
 | p (b o:Nat):b<n→Rel A n (.p b o) (.pointer (some ⟨A.ι b,(A.κ b).2+o,none⟩))
 | np:Rel A n .np (.pointer none)
 | slk (b o len cap sz:Nat) (ad:Addr):b<n→(ad=⟨A.ι b,(A.κ b).2+o,none⟩∨(len=0∧cap=0))→Rel A n (.sl b o len cap true sz) (.slice (some ad) len cap)
 | slu (b o len cap sz c:Nat) (ad:Addr):b<n→len≤cap→cap≤c→(A.κ b).2+o+c*sz=(A.κ b).1→(ad=⟨A.ι b,(A.κ b).2+o,none⟩∨c=0)→Rel A n (.sl b o len cap false sz) (.slice (some ad) len c)
 | ns:Rel A n .ns (.slice none 0 0)
 | m (r:Nat):r<n→Rel A n (.m r) (.map (some (A.ι r)))
 | nm:Rel A n .nm (.map none)
 | fn (f:Fn) (l r:List V) (xs ys:Array Value):RelL A n l xs.toList→RelL A n r ys.toList→Rel A n (.fn f l r) (.func f xs ys)
 | nf:Rel A n .nf .nilFunc
 | iface (t:TypeId) (v:V) (x:Value):Rel A n v x→Rel A n (.iface t v) (.iface t x)
 | ni:Rel A n .ni .nilIface
 | agg (l:List V) (xs:Array Value):RelL A n l xs.toList→Rel A n (.agg l) (.agg xs)
 | tup (l:List V) (xs:Array Value):RelL A n l xs.toList→Rel A n (.tup l) (.tuple xs)
 | y (b:Nat):b<n→Rel A n (.y b) (.func (.yield (A.ι b)) #[] #[])
 | se (ad:Addr) (c:Nat):Rel A n .se (.slice (some ad) 0 c)
inductive RelL (A:Sub) (n:Nat):List V→List Value→Prop
 | nil:RelL A n [] []
 | cons (v:V) (x:Value) (l:List V) (xs:List Value):Rel A n v x→RelL A n l xs→RelL A n (v :: l) (x :: xs)
end
def Agree (A A':Sub) (n:Nat):Prop:=∀b,b<n→A'.ι b=A.ι b∧A'.κ b=A.κ b
section
variable {A A':Sub} {n n':Nat}
mutual
theorem Rel.mono (ha:Agree A A' n) (hn:n≤n'):∀{v:V} {x:Value},Rel A n v x→Rel A' n' v x
 | _,_,.u=>.u
 | _,_,.b x=>.b x
 | _,_,.i k m=>.i k m
 | _,_,.s x=>.s x
 | _,_,.p b o h=>by rw[←(ha b h).1,←(ha b h).2];exact .p b o (Nat.lt_of_lt_of_le h hn)
 | _,_,.np=>.np
 | _,_,.slk b o len cap sz ad h h1=>.slk b o len cap sz ad (Nat.lt_of_lt_of_le h hn) (by rw[(ha b h).1,(ha b h).2];exact h1)
 | _,_,.slu b o len cap sz c ad h h1 h2 h3 h4=>.slu b o len cap sz c ad (Nat.lt_of_lt_of_le h hn) h1 h2 (by rw[(ha b h).2];exact h3) (by rw[(ha b h).1,(ha b h).2];exact h4)
 | _,_,.ns=>.ns
 | _,_,.m r h=>by rw[←(ha r h).1];exact .m r (Nat.lt_of_lt_of_le h hn)
 | _,_,.nm=>.nm
 | _,_,.fn f l r xs ys h1 h2=>.fn f l r xs ys (RelL.mono ha hn h1) (RelL.mono ha hn h2)
 | _,_,.nf=>.nf
 | _,_,.iface t v x h=>.iface t v x (Rel.mono ha hn h)
 | _,_,.ni=>.ni
 | _,_,.agg l xs h=>.agg l xs (RelL.mono ha hn h)
 | _,_,.tup l xs h=>.tup l xs (RelL.mono ha hn h)
 | _,_,.y b h=>by rw[←(ha b h).1];exact .y b (Nat.lt_of_lt_of_le h hn)
 | _,_,.se ad c=>.se ad c
theorem RelL.mono (ha:Agree A A' n) (hn:n≤n'):∀{l:List V} {xs:List Value},RelL A n l xs→RelL A' n' l xs
 | _,_,.nil=>.nil
 | _,_,.cons v x l xs h h'=>.cons v x l xs (Rel.mono ha hn h) (RelL.mono ha hn h')
end
mutual
theorem Rel.of_flat:∀{v:V} {x:Value},Rel A n v x→v.flat=true→Rel A' n' v x
 | _,_,.u,_=>.u
 | _,_,.b x,_=>.b x
 | _,_,.i k m,_=>.i k m
 | _,_,.s x,_=>.s x
 | _,_,.p _ _ _,h=>by simp[V.flat]at h
 | _,_,.np,_=>.np
 | _,_,.slk _ _ _ _ _ _ _ _,h=>by simp[V.flat]at h
 | _,_,.slu _ _ _ _ _ _ _ _ _ _ _ _,h=>by simp[V.flat]at h
 | _,_,.ns,_=>.ns
 | _,_,.m _ _,h=>by simp[V.flat]at h
 | _,_,.nm,_=>.nm
 | _,_,.fn f l r xs ys h1 h2,h=>by
  simp only[V.flat,Bool.and_eq_true]at h
  exact .fn f l r xs ys (RelL.of_flat h1 h.1) (RelL.of_flat h2 h.2)
 | _,_,.nf,_=>.nf
 | _,_,.iface t v x h1,h=>.iface t v x (Rel.of_flat h1 (by simpa [V.flat]using h))
 | _,_,.ni,_=>.ni
 | _,_,.agg l xs h1,h=>.agg l xs (RelL.of_flat h1 (by simpa [V.flat]using h))
 | _,_,.tup l xs h1,h=>.tup l xs (RelL.of_flat h1 (by simpa [V.flat]using h))
 | _,_,.y _ _,h=>by simp[V.flat]at h
 | _,_,.se ad c,_=>.se ad c
theorem RelL.of_flat:∀{l:List V} {xs:List Value},RelL A n l xs→flatL l=true→RelL A' n' l xs
 | _,_,.nil,_=>.nil
 | _,_,.cons v x l xs h h',hf=>by
  simp only[flatL,Bool.and_eq_true]at hf
  exact .cons v x l xs (Rel.of_flat h hf.1) (RelL.of_flat h' hf.2)
end
theorem RelL.length:∀{l:List V} {xs:List Value},RelL A n l xs→xs.length=l.length
 | _,_,.nil=>rfl
 | _,_,.cons v x l xs _ h=>by simp[RelL.length h]
theorem RelL.get:∀{l:List V} {xs:List Value},RelL A n l xs→∀{j:Nat} {v:V},l[j]?=some v→∃x,xs[j]?=some x∧Rel A n v x
 | _,_,.nil,_,_,h=>by simp at h
 | _,_,.cons v x l xs h1 _,0,_,h=>by
  simp only[List.getElem?_cons_zero,Option.some.injEq]at h
  subst h
  exact⟨x,rfl,h1⟩
 | _,_,.cons v x l xs _ h2,j+1,u9,h=>by
  simp only[List.getElem?_cons_succ]at h
  obtain⟨y,hy,hr⟩:=RelL.get h2 h
  exact⟨y,by simpa using hy,hr⟩
theorem RelL.append:∀{l r:List V} {xs ys:List Value},RelL A n l xs→RelL A n r ys→RelL A n (l++r) (xs++ys)
 | _,_,_,_,.nil,h=>h
 | _,_,_,_,.cons v x l xs h1 h2,h=>.cons v x _ _ h1 (RelL.append h2 h)
theorem RelL.drop:∀{l:List V} {xs:List Value} (k:Nat),RelL A n l xs→RelL A n (l.drop k) (xs.drop k)
 | _,_,0,h=>h
 | _,_,_+1,.nil=>.nil
 | _,_,k+1,.cons v x l xs _ h=>RelL.drop k h
theorem RelL.take:∀{l:List V} {xs:List Value} (k:Nat),RelL A n l xs→RelL A n (l.take k) (xs.take k)
 | _,_,0,_=>by simpa using RelL.nil
 | _,_,_+1,.nil=>.nil
 | _,_,k+1,.cons v x l xs h1 h=>.cons v x _ _ h1 (RelL.take k h)
theorem Rel.cells {v:V} {x:Value} (h:Rel A n v x):RelL A n v.cells x.cells.toList:=by
 cases h <;> first
  |(simp only[V.cells,Value.cells];assumption)
  | exact .cons _ _ _ _ (by constructor <;> assumption) .nil
  | skip
theorem Rel.one {v:V} {x:Value} (h:Rel A n v x) (ho:v.one=true):x.oneCell'=true:=by
 cases h <;> first | rfl |(simp[V.one]at ho)
theorem RelL.one:∀{l:List V} {xs:List Value},RelL A n l xs→allOne l=true→∀x∈xs,x.oneCell'=true
 | _,_,.nil,_,_,h=>by cases h
 | _,_,.cons v x l xs h1 h2,ho,y,hy=>by
  simp only[allOne,Bool.and_eq_true]at ho
  rcases List.mem_cons.1 hy with rfl | hy
  ·exact h1.one ho.1
  ·exact RelL.one h2 ho.2 y hy
end
theorem allOne_get:∀{l:List V},allOne l=true→∀{j:Nat} {v:V},l[j]?=some v→v.one=true
 | [],_,_,_,h=>by simp at h
 | v :: l,ho,0,u9,h=>by
  simp only[List.getElem?_cons_zero,Option.some.injEq]at h
  subst h
  simp only[allOne,Bool.and_eq_true]at ho
  exact ho.1
 | v :: l,ho,j+1,u9,h=>by
  simp only[allOne,Bool.and_eq_true]at ho
  exact allOne_get ho.2 (by simpa using h)
theorem allOne_append:∀{l r:List V},allOne l=true→allOne r=true→allOne (l++r)=true
 | [],_,_,h=>h
 | v :: l,r,h1,h2=>by
  simp only[allOne,Bool.and_eq_true,List.cons_append]at h1 ⊢
  exact⟨h1.1,allOne_append h1.2 h2⟩
def TRel (A:Sub) (n N:Nat) (t:Tr V) (a:Array Value):Prop:=a.size=N∧∀k,Rel A n (orU (t.get k)) (a.getD k undef)
theorem TRel.mono {A A':Sub} {n n' N:Nat} {t:Tr V} {a:Array Value} (h:TRel A n N t a) (ha:Agree A A' n) (hn:n≤n'):TRel A' n' N t a:=⟨h.1,fun k=>(h.2 k).mono ha hn⟩
def StRel:Ls→LoopState→Option Code→Prop
 | .ready,s,p=>s=.ready∧p=none
 | .busy,s,_=>s=.busy
 | .done .ret,s,p=>s=.done∧p=some .ret
 | .done (.exit n),s,p=>s=.done∧p=some (.exit n)
 | .done .normal,_,_=>False
def EnRel (A:Sub) (n:Nat) (e:En) (x:MapEntry):Prop:=x.key=.int e.k e.n∧Rel A n e.v x.val∧x.born=e.born
def ORel (A:Sub) (n i:Nat) (kk:Nat × Nat):O→Obj→Prop
 | .cells e hi opn c,x=>∃cs:Array Value,x=.cells cs e (0,0)∧(opn=true→cs.size=kk.1)∧kk.2+hi≤cs.size∧∀o,o<hi→∃v y,c.get o=some v∧cs[kk.2+o]?=some y∧Rel A n v y∧v.one=true
 | .map es clock,x=>∃xs:Array MapEntry,x=.map xs clock∧xs.size=es.length∧∀(j:Nat) (e:En),es[j]?=some e→∃y,xs[j]?=some y∧EnRel A n e y
 | .iter m since seen stepped,x=>kk.2=0∧m<n∧x=.mapIter (some (A.ι m)) since seen.toArray stepped
 | .loop st t N ps as bd,x=>∃r:Loop,x=.loop r∧StRel st r.state r.pending∧TRel A n N t r.tmps∧r.params=ps.toArray∧r.assign=as∧r.body=bd∧(∀p∈ps,p<N)∧dokC 0 as=true∧dokC 0 bd=true
 | .ro pin _ hi c,x=>(∀g,pin=some g→i=g∧kk.2=0)∧∃(cs:Array Value) (e':TypeId) (fr:Nat × Nat),x=.cells cs e' fr∧∀o v,o<hi→c.get o=some v→∃y,cs[kk.2+o]?=some y∧Rel A n v y∧v.one=true
theorem ORel.mono {A A':Sub} {n n' i:Nat} {kk:Nat × Nat} (ha:Agree A A' n) (hn:n≤n') {O:O} {x:Obj} (h:ORel A n i kk O x):ORel A' n' i kk O x:=by
 cases O with
 | cells e hi opn c =>
  obtain⟨cs,h1,h2,hz,h3⟩:=h
  refine⟨cs,h1,h2,hz,fun o ho=>?_⟩
  obtain⟨v,y,h4,h5,h6,h7⟩:=h3 o ho
  exact⟨v,y,h4,h5,h6.mono ha hn,h7⟩
 | map es clock =>
  obtain⟨xs,h1,h2,h3⟩:=h
  refine⟨xs,h1,h2,fun j e he=>?_⟩
  obtain⟨y,h4,h5,h6,h7⟩:=h3 j e he
  exact⟨y,h4,h5,h6.mono ha hn,h7⟩
 | iter m since seen stepped=>exact⟨h.1,Nat.lt_of_lt_of_le h.2.1 hn,by rw[(ha m h.2.1).1];exact h.2.2⟩
 | loop st t N ps as bd =>
  obtain⟨r,h1,h2,h3,h4⟩:=h
  exact⟨r,h1,h2,h3.mono ha hn,h4⟩
 | ro pin e hi c =>
  obtain⟨h0,cs,e',fr,h1,h3⟩:=h
  refine⟨h0,cs,e',fr,h1,fun o v ho hv=>?_⟩
  obtain⟨y,h5,h6,h7⟩:=h3 o v ho hv
  exact⟨y,h5,h6.mono ha hn,h7⟩
structure Mt (A:Sub) (h:H) (w:World):Prop where
 lt:∀b O,h.t.get b=some O→b<h.next
 obj:∀b O,h.t.get b=some O→∃x,w.heap[A.ι b]?=some x∧ORel A h.next (A.ι b) (A.κ b) O x
 inj:∀b b' O O',h.t.get b=some O→h.t.get b'=some O'→A.ι b=A.ι b'→b=b'
def O.pin:O→Option Nat
 | .ro pin _ _ _=>pin
 | _=>none
structure Ev (A:Sub) (h:H) (w:World) (A':Sub) (h':H) (w':World):Prop where
 mt:Mt A' h' w'
 next:h.next≤h'.next
 old:Agree A A' h.next
 src:∀b O,h'.t.get b=some O→w.heap.size≤A'.ι b∨∃b0 O0,h.t.get b0=some O0∧A.ι b0=A'.ι b
 fr:∀k,k<w.heap.size→(∀b O,h.t.get b=some O→A.ι b≠k)→w'.heap[k]?=w.heap[k]?
 size:w.heap.size≤w'.heap.size
 os:w'.os=w.os
 tape:w'.tape=w.tape
 output:w'.output=w.output
 pin:∀b O g,h.t.get b=some O→O.pin=some g→A'.ι b=A.ι b∧(∃O',h'.t.get b=some O'∧O'.pin=some g)∧w'.heap[A.ι b]?=w.heap[A.ι b]?
section
variable {A A' A2:Sub} {h h' h2:H} {w w' w2:World}
theorem Mt.same (hm:Mt A h w) (hw:w'.heap=w.heap):Mt A h w':=⟨hm.lt,fun b O hb=>by rw[hw];exact hm.obj b O hb,hm.inj⟩
theorem Ev.same (hm:Mt A h w) (hw:w'.heap=w.heap) (h1:w'.os=w.os) (h2:w'.tape=w.tape) (h3:w'.output=w.output):Ev A h w A h w' :=
 ⟨hm.same hw,Nat.le_refl _,fun _ _=>⟨rfl,rfl⟩,fun b O hb=>.inr ⟨b,O,hb,rfl⟩,fun _ _ _=>by rw[hw],by rw[hw];exact Nat.le_refl _,h1,h2,h3,fun b O g hb hp=>⟨rfl,⟨O,hb,hp⟩,by rw[hw]⟩⟩
theorem Ev.refl (hm:Mt A h w):Ev A h w A h w:=Ev.same hm rfl rfl rfl rfl
theorem Ev.trans (e1:Ev A h w A' h' w') (e2:Ev A' h' w' A2 h2 w2):Ev A h w A2 h2 w2:=by
 refine⟨e2.mt,Nat.le_trans e1.next e2.next,fun b hb=>?_,fun b O hb=>?_,fun k hk hn=>?_,Nat.le_trans e1.size e2.size,e2.os.trans e1.os,e2.tape.trans e1.tape,e2.output.trans e1.output,fun b O g hb hp=>?_⟩
 ·have h1:=e1.old b hb
  have h2:=e2.old b (Nat.lt_of_lt_of_le hb e1.next)
  exact⟨h2.1.trans h1.1,h2.2.trans h1.2⟩
 ·rcases e2.src b O hb with h1 | ⟨b0,O0,h1,h2⟩
  ·exact .inl (Nat.le_trans e1.size h1)
  ·rcases e1.src b0 O0 h1 with h3 | ⟨b1,O1,h3,h4⟩
   ·exact .inl (by omega)
   ·exact .inr ⟨b1,O1,h3,h4.trans h2⟩
 ·rw[e2.fr k (Nat.lt_of_lt_of_le hk e1.size) (fun b O hb he=>?_),e1.fr k hk hn]
  rcases e1.src b O hb with h1 | ⟨b0,O0,h1,h2⟩
  ·omega
  ·exact hn b0 O0 h1 (h2.trans he)
 ·obtain⟨h1,⟨O',h2,h3⟩,h4⟩:=e1.pin b O g hb hp
  obtain⟨h5,h6,h7⟩:=e2.pin b O' g h2 h3
  rw[h1]at h7
  exact⟨h5.trans h1,h6,h7.trans h4⟩
theorem Ev.below {hn:H} (e:Ev A ⟨h.next,.e⟩ w A' hn w'):Below w.heap.size w w':=⟨e.os,e.tape,e.output,e.size,fun k hk=>e.fr k hk (fun b O hb=>by simp[Tr.get_e]at hb)⟩
theorem Mt.empty (A:Sub) (n:Nat) (w:World):Mt A ⟨n,.e⟩ w:=⟨fun b O hb=>by simp[Tr.get_e]at hb,fun b O hb=>by simp[Tr.get_e]at hb,fun b b' O O' hb=>by simp[Tr.get_e]at hb⟩
theorem Ev.of_below (hm:Mt A h w) (hb:Below w.heap.size w w'):Ev A h w A h w':=by
 have hlt:∀b O,h.t.get b=some O→A.ι b<w.heap.size:=fun b O hb=>by
  obtain⟨x,hx,_⟩:=hm.obj b O hb
  exact(Array.getElem?_eq_some_iff.1 hx).1
 refine⟨⟨hm.lt,fun b O h1=>?_,hm.inj⟩,Nat.le_refl _,fun _ _=>⟨rfl,rfl⟩,fun b O h1=>.inr ⟨b,O,h1,rfl⟩,fun k hk _=>hb.block k hk,hb.size,hb.os,hb.tape,hb.output,fun b O g h1 hp=>⟨rfl,⟨O,h1,hp⟩,hb.block _ (hlt b O h1)⟩⟩
 obtain⟨x,hx,hr⟩:=hm.obj b O h1
 exact⟨x,(hb.block _ (hlt b O h1)).trans hx,hr⟩
theorem Mt.ilt (hm:Mt A h w) {b:Nat} {O:O} (hb:h.t.get b=some O):A.ι b<w.heap.size:=by
 obtain⟨x,hx,_⟩:=hm.obj b O hb
 exact(Array.getElem?_eq_some_iff.1 hx).1
def Sub.ext (A:Sub) (n g:Nat) (k:Nat × Nat):Sub:=⟨fun b=>if b=n then g else A.ι b,fun b=>if b=n then k else A.κ b⟩
theorem Sub.agree (A:Sub) (n g:Nat) (k:Nat × Nat):Agree A (A.ext n g k) n:=fun b hb=>by
 have:b≠n:=by omega
 simp[Sub.ext,this]
theorem Ev.new (hm:Mt A h w) {x:O} {o:Obj} {k:Nat × Nat} (hx:ORel A h.next w.heap.size k x o):Ev A h w (A.ext h.next w.heap.size k) ⟨h.next+1,h.t.set h.next (some x)⟩ (w.alloc o):=by
 have ha:=Sub.agree A h.next w.heap.size k
 have hself:(A.ext h.next w.heap.size k).ι h.next=w.heap.size:=by simp[Sub.ext]
 have hself':(A.ext h.next w.heap.size k).κ h.next=k:=by simp[Sub.ext]
 refine⟨⟨fun b O hb=>?_,fun b O hb=>?_,fun b b' O O' hb hb' he=>?_⟩,Nat.le_succ _,ha,fun b O hb=>?_,fun j hj _=>Below.heap_alloc w o j hj,by simp,rfl,rfl,rfl,fun b O g hb hp=>⟨(ha b (hm.lt b O hb)).1,⟨O,by rw[Tr.get_set,if_neg (fun e=>by have:=hm.lt b O hb;omega)];exact hb,hp⟩,Below.heap_alloc w o _ (hm.ilt hb)⟩⟩
 ·rw[Tr.get_set]at hb
  split at hb
  ·rename_i e;subst e;exact Nat.lt_succ_self _
  ·exact Nat.lt_succ_of_lt (hm.lt b O hb)
 ·rw[Tr.get_set]at hb
  split at hb
  ·rename_i e
   subst e
   injection hb with hb
   subst hb
   rw[hself,hself']
   exact⟨o,heap_alloc_new w o,hx.mono ha (Nat.le_succ _)⟩
  ·have hl:=hm.lt b O hb
   rw[(ha b hl).1,(ha b hl).2]
   obtain⟨y,hy,hr⟩:=hm.obj b O hb
   exact⟨y,(Below.heap_alloc w o _ (hm.ilt hb)).trans hy,hr.mono ha (Nat.le_succ _)⟩
 ·rw[Tr.get_set]at hb hb'
  split at hb <;> split at hb'
  ·rename_i e e';rw[e,e']
  ·rename_i e e'
   subst e
   rw[hself,(ha b' (hm.lt b' O' hb')).1]at he
   have:=hm.ilt hb'
   omega
  ·rename_i e e'
   subst e'
   rw[hself,(ha b (hm.lt b O hb)).1]at he
   have:=hm.ilt hb
   omega
  ·rw[(ha b (hm.lt b O hb)).1,(ha b' (hm.lt b' O' hb')).1]at he
   exact hm.inj b b' O O' hb hb' he
 ·rw[Tr.get_set]at hb
  split at hb
  ·rename_i e;subst e;exact .inl (by rw[hself];exact Nat.le_refl _)
  ·exact .inr ⟨b,O,hb,((ha b (hm.lt b O hb)).1).symm⟩
theorem Ev.upd (hm:Mt A h w) {b:Nat} {O O':Vm.O} {o':Obj} (hb:h.t.get b=some O) (hnp:O.pin=none) (hr:ORel A h.next (A.ι b) (A.κ b) O' o') (h1:w'.heap[A.ι b]?=some o') (h2:∀k,k≠A.ι b→w'.heap[k]?=w.heap[k]?)
  (hs:w'.heap.size=w.heap.size) (ho:w'.os=w.os) (ht:w'.tape=w.tape) (hu:w'.output=w.output):Ev A h w A ⟨h.next,h.t.set b (some O')⟩ w':=by
 have hg:∀c U,(h.t.set b (some O')).get c=some U→∃U0,h.t.get c=some U0:=fun c U hc=>by
  rw[Tr.get_set]at hc
  split at hc
  ·rename_i e;subst e;exact⟨O,hb⟩
  ·exact⟨U,hc⟩
 have hpc:∀c U g,h.t.get c=some U→U.pin=some g→c≠b:=fun c U g hc hp e=>by
  subst e
  rw[hb]at hc
  injection hc with hc
  subst hc
  rw[hnp]at hp
  cases hp
 refine⟨⟨fun c U hc=>?_,fun c U hc=>?_,fun c c' U U' hc hc' he=>?_⟩,Nat.le_refl _,fun _ _=>⟨rfl,rfl⟩,fun c U hc=>?_,fun k hk hn=>h2 k (fun e=>hn b O hb e.symm),by omega,ho,ht,hu,fun c U g hc hp=>⟨rfl,⟨U,by rw[Tr.get_set,if_neg (hpc c U g hc hp)];exact hc,hp⟩,h2 _ (fun e=>hpc c U g hc hp (hm.inj c b U O hc hb e))⟩⟩
 ·obtain⟨U0,h0⟩:=hg c U hc
  exact hm.lt c U0 h0
 ·have hc':=hc
  rw[Tr.get_set]at hc
  split at hc
  ·rename_i e
   subst e
   injection hc with hc
   subst hc
   exact⟨o',h1,hr⟩
  ·rename_i e
   obtain⟨y,hy,hr'⟩:=hm.obj c U hc
   exact⟨y,(h2 _ (fun e'=>e (hm.inj c b U O hc hb e'))).trans hy,hr'⟩
 ·obtain⟨U0,h0⟩:=hg c U hc
  obtain⟨U0',h0'⟩:=hg c' U' hc'
  exact hm.inj c c' U0 U0' h0 h0' he
 ·obtain⟨U0,h0⟩:=hg c U hc
  exact .inr ⟨c,U0,h0,rfl⟩
theorem Ev.kill (hm:Mt A h w) (b:Nat) (hnp:∀O,h.t.get b=some O→O.pin=none):Ev A h w A ⟨h.next,h.t.set b none⟩ w:=by
 have hg:∀c U,(h.t.set b none).get c=some U→h.t.get c=some U:=fun c U hc=>by
  rw[Tr.get_set]at hc
  split at hc
  ·cases hc
  ·exact hc
 exact⟨⟨fun c U hc=>hm.lt c U (hg c U hc),fun c U hc=>hm.obj c U (hg c U hc),fun c c' U U' hc hc'=>hm.inj c c' U U' (hg c U hc) (hg c' U' hc')⟩,Nat.le_refl _,fun _ _=>⟨rfl,rfl⟩,
  fun c U hc=>.inr ⟨c,U,hg c U hc,rfl⟩,fun _ _ _=>rfl,Nat.le_refl _,rfl,rfl,rfl,fun c U g hc hp=>⟨rfl,⟨U,by
   rw[Tr.get_set,if_neg (fun e=>by subst e;rw[hnp U hc]at hp;cases hp)];exact hc,hp⟩,rfl⟩⟩
theorem Ev.turn (hm:Mt A h w) {b:Nat} {kk:Nat × Nat} {O O':Vm.O} {o':Obj} (hb:h.t.get b=some O) (hnp:O.pin=none) (hr:ORel A h.next (A.ι b) kk O' o') (h1:w'.heap[A.ι b]?=some o') (h2:∀k,k≠A.ι b→w'.heap[k]?=w.heap[k]?)
  (hs:w'.heap.size=w.heap.size) (ho:w'.os=w.os) (ht:w'.tape=w.tape) (hu:w'.output=w.output) :
  Ev A h w (A.ext h.next (A.ι b) kk) ⟨h.next+1,(h.t.set b none).set h.next (some O')⟩ w':=by
 have ha:=Sub.agree A h.next (A.ι b) kk
 have hself:(A.ext h.next (A.ι b) kk).ι h.next=A.ι b:=by simp[Sub.ext]
 have hself':(A.ext h.next (A.ι b) kk).κ h.next=kk:=by simp[Sub.ext]
 have hg:∀c U,((h.t.set b none).set h.next (some O')).get c=some U→(c=h.next∧U=O')∨(c≠h.next∧c≠b∧h.t.get c=some U):=fun c U hc=>by
  rw[Tr.get_set]at hc
  split at hc
  ·rename_i e;injection hc with hc;exact .inl ⟨e,hc.symm⟩
  ·rename_i e
   rw[Tr.get_set]at hc
   split at hc
   ·cases hc
   ·rename_i e';exact .inr ⟨e,e',hc⟩
 have hpc:∀c U g,h.t.get c=some U→U.pin=some g→c≠b:=fun c U g hc hp e=>by
  subst e
  rw[hb]at hc
  injection hc with hc
  subst hc
  rw[hnp]at hp
  cases hp
 refine⟨⟨fun c U hc=>?_,fun c U hc=>?_,fun c c' U U' hc hc' he=>?_⟩,Nat.le_succ _,ha,fun c U hc=>?_,fun k hk hn=>h2 k (fun e=>hn b O hb e.symm),by omega,ho,ht,hu,fun c U g hc hp=>⟨(ha c (hm.lt c U hc)).1,⟨U,by rw[Tr.get_set,if_neg (fun e=>by have:=hm.lt c U hc;omega),Tr.get_set,if_neg (hpc c U g hc hp)];exact hc,hp⟩,h2 _ (fun e=>hpc c U g hc hp (hm.inj c b U O hc hb e))⟩⟩
 ·rcases hg c U hc with⟨rfl,_⟩ | ⟨_,_,h3⟩
  ·exact Nat.lt_succ_self _
  ·exact Nat.lt_succ_of_lt (hm.lt c U h3)
 ·rcases hg c U hc with⟨rfl,rfl⟩ | ⟨_,h4,h3⟩
  ·rw[hself,hself']
   exact⟨o',h1,hr.mono ha (Nat.le_succ _)⟩
  ·have hl:=hm.lt c U h3
   rw[(ha c hl).1,(ha c hl).2]
   obtain⟨y,hy,hr'⟩:=hm.obj c U h3
   exact⟨y,(h2 _ (fun e'=>h4 (hm.inj c b U O h3 hb e'))).trans hy,hr'.mono ha (Nat.le_succ _)⟩
 ·rcases hg c U hc with⟨rfl,_⟩ | ⟨_,h4,h3⟩ <;> rcases hg c' U' hc' with⟨rfl,_⟩ | ⟨_,h4',h3'⟩
  ·rfl
  ·rw[hself,(ha c' (hm.lt c' U' h3')).1]at he
   exact absurd (hm.inj b c' O U' hb h3' he).symm h4'
  ·rw[hself,(ha c (hm.lt c U h3)).1]at he
   exact absurd (hm.inj c b U O h3 hb he) h4
  ·rw[(ha c (hm.lt c U h3)).1,(ha c' (hm.lt c' U' h3')).1]at he
   exact hm.inj c c' U U' h3 h3' he
 ·rcases hg c U hc with⟨rfl,_⟩ | ⟨_,_,h3⟩
  ·exact .inr ⟨b,O,hb,hself.symm⟩
  ·exact .inr ⟨c,U,h3,((ha c (hm.lt c U h3)).1).symm⟩
end
theorem TRel.put {A:Sub} {n N:Nat} {t:Tr V} {a:Array Value} (h:TRel A n N t a) {v:V} {x:Value} (hv:Rel A n v x) {d:Nat} (hd:d<N):TRel A n N (t.set d (some v)) (a.setIfInBounds d x):=by
 refine⟨by simp[h.1],fun k=>?_⟩
 rw[Tr.get_set]
 by_cases e:k=d
 ·subst e
  have:k<a.size:=by rw[h.1];exact hd
  simpa [orU,this]using hv
 ·rw[if_neg e]
  have:=h.2 k
  rw[Array.getD_eq_getD_getElem?]at this ⊢
  rw[Array.getElem?_setIfInBounds_ne (Ne.symm e)]
  exact this
def Wide (r:Option Nat):Fence:={ Fence.wide with round:=r }
def Does (P:Program) (o:Oper) (a:Act) (w:World) (R:Value→World→Prop):Prop:=(∃x w',(execOp a.eval o).run P w=.ok (.value x) w'∧R x w')∨(∃w',(execOp a.eval o).run P w=.ok .skip w'∧R undef w') ∨
 (∃f args w',(execOp a.eval o).run P w=.ok (.enter f args) w'∧Calls P f args w' fun e w''=>∃x,e=.returned x∧R x w'') ∨
 ∃l f tmps assign body w',(execOp a.eval o).run P w=.ok (.round l f tmps assign body) w'∧∀(r:Option Nat) (n:Nat),RoundIn (Wide r) n P l f tmps assign body w' fun e w''=>∃x,e=.returned x∧R x w''
theorem Does.value {P:Program} {o:Oper} {a:Act} {w w':World} {x:Value} {R:Value→World→Prop} (h:(execOp a.eval o).run P w=.ok (.value x) w') (hR:R x w'):Does P o a w R:=.inl ⟨x,w',h,hR⟩
theorem Does.skip {P:Program} {o:Oper} {a:Act} {w w':World} {R:Value→World→Prop} (h:(execOp a.eval o).run P w=.ok .skip w') (hR:R undef w'):Does P o a w R:=.inr (.inl ⟨w',h,hR⟩)
theorem Does.enter {P:Program} {o:Oper} {a:Act} {w w':World} {f:FuncId} {args:Array Value} {R:Value→World→Prop} (h:(execOp a.eval o).run P w=.ok (.enter f args) w')
  (hC:Calls P f args w' fun e w''=>∃x,e=.returned x∧R x w''):Does P o a w R:=.inr (.inr (.inl ⟨f,args,w',h,hC⟩))
theorem Does.round {P:Program} {o:Oper} {a:Act} {w w':World} {l:Nat} {f:FuncId} {tmps:Array Value} {assign body:Code} {R:Value→World→Prop} (h:(execOp a.eval o).run P w=.ok (.round l f tmps assign body) w')
  (hC:∀(r:Option Nat) (n:Nat),RoundIn (Wide r) n P l f tmps assign body w' fun e w''=>∃x,e=.returned x∧R x w''):Does P o a w R:=.inr (.inr (.inr ⟨l,f,tmps,assign,body,w',h,hC⟩))
theorem Does.mono {P:Program} {o:Oper} {a:Act} {w:World} {R R':Value→World→Prop} (h:Does P o a w R) (hR:∀x w',R x w'→R' x w'):Does P o a w R':=by
 rcases h with⟨x,w',h1,h2⟩ | ⟨w',h1,h2⟩ | ⟨f,args,w',h1,h2⟩ | ⟨l,f,tmps,assign,body,w',h1,h2⟩
 ·exact .value h1 (hR _ _ h2)
 ·exact .skip h1 (hR _ _ h2)
 ·exact .enter h1 (h2.mono fun e w'' ⟨x,he,hr⟩=>⟨x,he,hR _ _ hr⟩)
 ·exact .round h1 fun r n=>(h2 r n).mono fun e w'' ⟨x,he,hr⟩=>⟨x,he,hR _ _ hr⟩
def Post (A:Sub) (h:H) (w:World) (v:V) (h':H) (x:Value) (w':World):Prop:=∃A',Ev A h w A' h' w'∧Rel A' h'.next v x
def OpOk (P:Program) (C:CallF) (op:Op) (f:Fx):Prop:=∀(o:Oper),o.op=op→∀(A:Sub) (h:H) (w:World) (N:Nat) (t:Tr V) (a:Act) (K:V→H→Option (List Out)) (r:List Out),Mt A h w→TRel A h.next N t a.tmps→f.f C t h K=some r →
 ∃v h',K v h'=some r∧Does P o a w (Post A h w v h')
def OpQ (P:Program) (C:CallF) (op:Op) (f:Fx):Prop:=∀(o:Oper),o.op=op→∀(A:Sub) (h:H) (w:World) (N:Nat) (t:Tr V) (a:Act) (K:V→H→Option (List Out)) (r:List Out),Mt A h w→TRel A h.next N t a.tmps→f.f C t h K=some r →
 ∃v,K v h=some r∧∃x,(execOp a.eval o).run P w=.ok (.value x) w∧Rel A h.next v x
theorem Post.same {A:Sub} {h:H} {w:World} {v:V} {x:Value} (hm:Mt A h w) (hr:Rel A h.next v x):Post A h w v h x w:=⟨A,.refl hm,hr⟩
theorem OpQ.ok {P:Program} {C:CallF} {op:Op} {f:Fx} (hq:OpQ P C op f):OpOk P C op f:=by
 intro o ho A h w N t a K r hm ht hk
 obtain⟨v,h1,x,h2,h3⟩:=hq o ho A h w N t a K r hm ht hk
 exact⟨v,h,h1,.value h2 (.same hm h3)⟩
section
variable {α β:Type}
theorem mapO_c (f:α→Option β) (x:α) (l:List α):mapO f (x :: l)=ob (f x) fun y=>ob (mapO f l) fun r=>some (y :: r):=rfl
theorem mapO_cons {f:α→Option β} {x:α} {l:List α} {r:List β} (h:mapO f (x :: l)=some r):∃y q,f x=some y∧mapO f l=some q∧r=y :: q:=by
 rw[mapO_c]at h
 obtain⟨y,hy,h⟩:=ob_some h
 obtain⟨q,hq,h⟩:=ob_some h
 injection h with h
 exact⟨y,q,hy,hq,h.symm⟩
theorem mapO_nil {f:α→Option β} {r:List β} (h:mapO f []=some r):r = []:=by injection h with h;exact h.symm
end
theorem ofV1_rel {A:Sub} {n:Nat} {x:Value} {v:V} (h:ofV1 x=some v):Rel A n v x:=by
 unfold ofV1 at h
 split at h <;> first
  |(injection h with h;subst h;constructor;done)
  | cases h
theorem ofV1L_rel {A:Sub} {n:Nat}:∀{xs:List Value} {l:List V},mapO ofV1 xs=some l→RelL A n l xs
 | [],_,h=>by rw[mapO_nil h];exact .nil
 | x :: xs,_,h=>by
  obtain⟨y,q,h1,h2,rfl⟩:=mapO_cons h
  exact .cons _ _ _ _ (ofV1_rel h1) (ofV1L_rel h2)
theorem ofVal_rel {A:Sub} {n:Nat} {x:Value} {v:V} (h:ofVal x=some v):Rel A n v x:=by
 unfold ofVal at h
 split at h
 ·obtain⟨l,hl,h⟩:=ob_some h
  injection h with h
  subst h
  exact .agg _ _ (ofV1L_rel hl)
 ·exact ofV1_rel h
theorem rd_rel {A:Sub} {n N:Nat} {t:Tr V} {a:Act} (ht:TRel A n N t a.tmps) {x:Operand} {r:Rd} (h:rdB x=some r):Rel A n (r.val t) (a.eval x):=by
 cases x with
 | tmp k =>
  injection h with h
  subst h
  exact ht.2 k
 | const v =>
  obtain⟨u9,hu,h⟩:=ob_some h
  injection h with h
  subst h
  exact ofVal_rel hu
 | global g=>cases h
 | func f =>
  injection h with h
  subst h
  exact .fn _ _ _ _ _ .nil .nil
section
variable {β:Type}
theorem asB_some {v:V} {K:Bool→Option β} {r:β} (h:asB v K=some r):∃x,v=.b x∧K x=some r:=by
 unfold asB at h
 split at h
 ·exact⟨_,rfl,h⟩
 ·cases h
theorem asI_some {v:V} {K:IntKind→Int→Option β} {r:β} (h:asI v K=some r):∃k n,v=.i k n∧K k n=some r:=by
 unfold asI at h
 split at h
 ·exact⟨_,_,rfl,h⟩
 ·cases h
theorem asN_some {v:V} {K:Nat→Option β} {r:β} (h:asN v K=some r):∃k n,v=.i k (.ofNat n)∧K n=some r:=by
 unfold asN at h
 split at h
 ·exact⟨_,_,rfl,h⟩
 ·cases h
theorem asP_some {v:V} {K:Nat→Nat→Option β} {r:β} (h:asP v K=some r):∃b o,v=.p b o∧K b o=some r:=by
 unfold asP at h
 split at h
 ·exact⟨_,_,rfl,h⟩
 ·cases h
theorem asAgg_some {v:V} {K:List V→Option β} {r:β} (h:asAgg v K=some r):∃l,v=.agg l∧K l=some r:=by
 unfold asAgg at h
 split at h
 ·exact⟨_,rfl,h⟩
 ·cases h
theorem asTup_some {v:V} {K:List V→Option β} {r:β} (h:asTup v K=some r):∃l,v=.tup l∧K l=some r:=by
 unfold asTup at h
 split at h
 ·exact⟨_,rfl,h⟩
 ·cases h
theorem rowK_some {h:H} {b:Nat} {K:TypeId→Nat→Bool→Tr V→Option β} {r:β} (hh:rowK h b K=some r):∃e hi p c,h.t.get b=some (.cells e hi p c)∧K e hi p c=some r:=by
 unfold rowK at hh
 obtain⟨x,hx,hh⟩:=ob_some hh
 split at hh
 ·exact⟨_,_,_,_,hx,hh⟩
 ·cases hh
theorem rowR_some {h:H} {b:Nat} {K:TypeId→Nat→Tr V→Option β} {r:β} (hh:rowR h b K=some r):∃e hi c,((∃p,h.t.get b=some (.cells e hi p c))∨∃pin,h.t.get b=some (.ro pin e hi c))∧K e hi c=some r:=by
 unfold rowR at hh
 obtain⟨x,hx,hh⟩:=ob_some hh
 split at hh
 ·exact⟨_,_,_,.inl ⟨_,hx⟩,hh⟩
 ·exact⟨_,_,_,.inr ⟨_,hx⟩,hh⟩
 ·cases hh
end
section
variable {A:Sub} {n:Nat} {x:Value}
theorem Rel.of_b {y:Bool} (h:Rel A n (.b y) x):x=.bool y:=by cases h;rfl
theorem Rel.of_i {k:IntKind} {m:Int} (h:Rel A n (.i k m) x):x=.int k m:=by cases h;rfl
theorem Rel.of_s {y:ByteArray} (h:Rel A n (.s y) x):x=.string y:=by cases h;rfl
theorem Rel.of_p {b o:Nat} (h:Rel A n (.p b o) x):x=.pointer (some ⟨A.ι b,(A.κ b).2+o,none⟩)∧b<n:=by cases h;exact⟨rfl,by assumption⟩
theorem Rel.of_np (h:Rel A n .np x):x=.pointer none:=by cases h;rfl
theorem Rel.of_se (h:Rel A n .se x):∃ad c,x=.slice (some ad) 0 c:=by cases h;exact⟨_,_,rfl⟩
theorem Rel.of_ns (h:Rel A n .ns x):x=.slice none 0 0:=by cases h;rfl
theorem Rel.of_sl {b o len cap sz:Nat} {k:Bool} (h:Rel A n (.sl b o len cap k sz) x):∃c ad,x=.slice (some ad) len c∧b<n∧(k=true→c=cap)∧(k=false→len≤cap∧cap≤c∧(A.κ b).2+o+c*sz=(A.κ b).1)∧(ad=⟨A.ι b,(A.κ b).2+o,none⟩∨(len=0∧c=0)):=by
 cases h with
 | slk _ _ _ _ _ off h1 h2=>exact⟨cap,off,rfl,h1,fun _=>rfl,(fun h=>by cases h),h2⟩
 | slu _ _ _ _ _ c off h1 h2 h3 h4 h5=>exact⟨c,_,rfl,h1,(fun h=>by cases h),fun _=>⟨h2,h3,h4⟩,h5.imp id (fun h=>by omega)⟩
theorem Rel.of_agg {l:List V} (h:Rel A n (.agg l) x):∃xs:Array Value,x=.agg xs∧RelL A n l xs.toList:=by
 cases h with
 | agg _ xs h=>exact⟨xs,rfl,h⟩
theorem Rel.of_tup {l:List V} (h:Rel A n (.tup l) x):∃xs:Array Value,x=.tuple xs∧RelL A n l xs.toList:=by
 cases h with
 | tup _ xs h=>exact⟨xs,rfl,h⟩
theorem Rel.of_m {r:Nat} (h:Rel A n (.m r) x):x=.map (some (A.ι r))∧r<n:=by cases h;exact⟨rfl,by assumption⟩
theorem Rel.of_y {b:Nat} (h:Rel A n (.y b) x):x=.func (.yield (A.ι b)) #[] #[]∧b<n:=by cases h;exact⟨rfl,by assumption⟩
theorem Rel.of_nm (h:Rel A n .nm x):x=.map none:=by cases h;rfl
theorem Rel.of_iface {t:TypeId} {v:V} (h:Rel A n (.iface t v) x):∃y,x=.iface t y∧Rel A n v y:=by
 cases h with
 | iface _ _ y h=>exact⟨y,rfl,h⟩
theorem Rel.of_fn {f:Fn} {l r:List V} (h:Rel A n (.fn f l r) x):∃xs ys:Array Value,x=.func f xs ys∧RelL A n l xs.toList∧RelL A n r ys.toList:=by
 cases h with
 | fn _ _ _ xs ys h1 h2=>exact⟨xs,ys,rfl,h1,h2⟩
end
/-! ### Cells -/
section
variable {A:Sub} {h:H} {w:World} {P:Program}
theorem Mt.row (hm:Mt A h w) {b:Nat} {e:TypeId} {hi:Nat} {p:Bool} {c:Tr V} (hb:h.t.get b=some (.cells e hi p c)):∃cs:Array Value,w.heap[A.ι b]?=some (.cells cs e (0,0))∧(p=true→cs.size=(A.κ b).1) ∧
  (∀o,o<hi→∃v y,c.get o=some v∧cs[(A.κ b).2+o]?=some y∧Rel A h.next v y∧v.one=true)∧(A.κ b).2+hi≤cs.size:=by
 obtain⟨x,hx,cs,rfl,h1,hz,h2⟩:=hm.obj b _ hb
 exact⟨cs,hx,h1,h2,hz⟩
theorem weak_of {n hi d:Nat} {c:Tr V} {cs:Array Value} (hc:∀o,o<hi→∃v y,c.get o=some v∧cs[d+o]?=some y∧Rel A n v y∧v.one=true):∀o v,o<hi→c.get o=some v→∃y,cs[d+o]?=some y∧Rel A n v y∧v.one=true:=fun o v ho hv=>by
 obtain⟨v',y,h1,h2,h3,h4⟩:=hc o ho
 rw[hv]at h1
 injection h1 with h1
 subst h1
 exact⟨y,h2,h3,h4⟩
theorem Mt.rowR (hm:Mt A h w) {b:Nat} {e:TypeId} {hi:Nat} {c:Tr V} (hb:(∃p,h.t.get b=some (.cells e hi p c))∨∃pin,h.t.get b=some (.ro pin e hi c)):∃(cs:Array Value) (e':TypeId) (fr:Nat × Nat),w.heap[A.ι b]?=some (.cells cs e' fr) ∧
  (∀o v,o<hi→c.get o=some v→∃y,cs[(A.κ b).2+o]?=some y∧Rel A h.next v y∧v.one=true):=by
 rcases hb with⟨p,hb⟩ | ⟨pin,hb⟩
 ·obtain⟨x,hx,cs,rfl,_,_,h2⟩:=hm.obj b _ hb
  exact⟨cs,_,_,hx,weak_of h2⟩
 ·obtain⟨x,hx,_,cs,e',fr,rfl,h2⟩:=hm.obj b _ hb
  exact⟨cs,e',fr,hx,h2⟩
theorem cell_of {n:Nat} {cs:Array Value} {e:TypeId} {fr:Nat × Nat} (hb:w.heap[n]?=some (.cells cs e fr)) (o:Nat):w.cell? ⟨n,o,none⟩=cs[o]?:=by simp[World.cell?,hb]
theorem frozen_of {n:Nat} {cs:Array Value} {e:TypeId} (hb:w.heap[n]?=some (.cells cs e (0,0))) (o:Nat):w.frozen? ⟨n,o,none⟩=false:=by simp[World.frozen?,hb]
theorem add_lit (b o j:Nat):(⟨b,o,none⟩:Addr).add j=⟨b,o+j,none⟩:=by unfold Addr.add;split <;> simp_all
theorem run_und {t:TypeId} {d:TypeDesc} (hu:P.underlying t=some d):(underlying t).run P w=.ok d w:=by simp[underlying,hu]
theorem run_size {t:TypeId} {n:Nat} (hs:sizeB P t=some n):(sizeOf t).run P w=.ok n w:=by
 unfold sizeB at hs
 obtain⟨i,hi,hs⟩:=ob_some hs
 rw[fN_eq]at hs
 injection hs with hs
 simp[sizeOf,typeInfo,hi,hs]
theorem run_zero {t:TypeId} {v:V} (hz:zeroB P t=some v):∃x,(zeroValue t).run P w=.ok x w∧ofVal x=some v:=by
 unfold zeroB at hz
 obtain⟨i,hi,hz⟩:=ob_some hz
 obtain⟨x,hx,hz⟩:=ob_some hz
 exact⟨x,by simp[zeroValue,typeInfo,hi,hx],hz⟩
theorem run_agg {t:TypeId} {g:Bool} (hg:aggB P t=some g):(isAgg t).run P w=.ok g w:=by
 unfold aggB at hg
 split at hg <;> first | cases hg | skip
 all_goals
  rename_i hu
  simp[isAgg,underlying,hu]
 all_goals
  split <;> first | rfl |(exfalso;simp_all)
theorem loadN_c (c:Tr V) (n o:Nat):loadN c (n+1) o=ob (c.get o) fun v=>ob (loadN c n (o+1)) fun l=>some (v :: l):=rfl
theorem cells_rel {n d:Nat} {c:Tr V} {cs:Array Value} {hi:Nat} (hc:∀o v,o<hi→c.get o=some v→∃y,cs[d+o]?=some y∧Rel A n v y∧v.one=true):∀(k o:Nat) (l:List V),o+k≤hi→loadN c k o=some l →
  ∃ys:List Value,RelL A n l ys∧ys.length=k∧allOne l=true∧∀(j:Nat) (y:Value),ys[j]?=some y→cs[d+o+j]?=some y
 | 0,_,l,_,h=>by
  injection h with h
  subst h
  exact⟨[],.nil,rfl,rfl,fun j y hy=>by simp at hy⟩
 | k+1,o,l,hk,h=>by
  rw[loadN_c]at h
  obtain⟨v,hv,h⟩:=ob_some h
  obtain⟨q,hq,h⟩:=ob_some h
  injection h with h
  subst h
  obtain⟨y,h2,h3,h4⟩:=hc o v (by omega) hv
  obtain⟨ys,h5,h6,h7,h8⟩:=cells_rel hc k (o+1) q (by omega) hq
  refine⟨y :: ys,.cons _ _ _ _ h3 h5,by simp[h6],by simp[allOne,h4,h7],fun j z hz=>?_⟩
  cases j with
  | zero=>simpa using (by simpa using hz:y=z) ▸ h2
  | succ j=>rw[show d+o+(j+1)=d+(o+1)+j by omega];exact h8 j z (by simpa using hz)
theorem loadRow_some {β:Type} {b o n:Nat} {K:List V→Option β} {r:β} (hm:Mt A h w) (hh:loadRow h b o n K=some r):∃l ys,RelL A h.next l ys∧ys.length=n∧allOne l=true∧(∀(j:Nat) (y:Value),ys[j]?=some y→w.cell? ((⟨A.ι b,(A.κ b).2+o,none⟩:Addr).add j)=some y)∧K l=some r:=by
 unfold loadRow at hh
 obtain⟨e,hi,c,hb,hh⟩:=rowR_some hh
 obtain⟨hl,hh⟩:=bb_some hh
 obtain⟨l,hl2,hh⟩:=ob_some hh
 obtain⟨cs,e',fr,h1,h2⟩:=hm.rowR hb
 have hle:o+n≤hi:=Nat.le_of_ble_eq_true hl
 obtain⟨ys,h3,h4,h5,h6⟩:=cells_rel h2 n o l hle hl2
 exact⟨l,ys,h3,h4,h5,fun j y hy=>by rw[add_lit,cell_of h1];exact h6 j y hy,hh⟩
theorem move_ok {x:Operand} {r:Rd} {C:CallF} (h:rdB x=some r):OpQ P C (.move x) ⟨fun _ t h K=>rdK t r fun v=>K v h⟩:=by
 intro o ho A h w N t a K q hm ht hf
 simp only[rdK_eq]at hf
 exact⟨_,hf,_,(by simp only[execOp,ho];rfl),rd_rel ht ‹_›⟩
theorem assign_ok {x:Operand} {r:Rd} {C:CallF} (h:rdB x=some r):OpQ P C (.assign x) ⟨fun _ t h K=>rdK t r fun v=>K v h⟩:=by
 intro o ho A h w N t a K q hm ht hf
 simp only[rdK_eq]at hf
 exact⟨_,hf,_,(by simp only[execOp,ho];rfl),rd_rel ht ‹_›⟩
theorem load_ok {ty:TypeId} {x:Operand} {r:Rd} {f:Fx} {C:CallF} (hx:rdB x=some r) (hf:loadB P ty r=some f):OpQ P C (.load ty x) f:=by
 intro o ho A h w N t a K q hm ht hk
 unfold loadB at hf
 obtain⟨g,hg,hf⟩:=ob_some hf
 have hr:=rd_rel ht hx
 cases g with
 | false =>
  injection hf with hf
  subst hf
  simp only[rdK_eq]at hk
  obtain⟨b,o',hv,hk⟩:=asP_some hk
  obtain⟨e,hi,c,hb,hk⟩:=rowR_some hk
  obtain⟨hl,hk⟩:=bb_some hk
  obtain⟨v,hv2,hk⟩:=ob_some hk
  rw[hv]at hr
  obtain⟨h1,_⟩:=hr.of_p
  obtain⟨cs,e',fr,h2,h3⟩:=hm.rowR hb
  obtain⟨y,h5,h6,_⟩:=h3 o' v (Nat.le_of_ble_eq_true hl) hv2
  refine⟨_,hk,y,?_,h6⟩
  simp only[execOp,ho,h1,Instr.loadAt,Instr.sureAddr,loadVar,Sem.run_bind,Sem.run_pure,Result.andThen_ok,run_agg hg,Bool.false_eq_true,if_false,run_load,cell_of h2,h5]
 | true =>
  obtain⟨n,hn,hf⟩:=ob_some hf
  injection hf with hf
  subst hf
  simp only[rdK_eq]at hk
  obtain⟨b,o',hv,hk⟩:=asP_some hk
  rw[hv]at hr
  obtain⟨h1,_⟩:=hr.of_p
  obtain⟨l,ys,h2,h3,_,h4,hk⟩:=loadRow_some hm hk
  refine⟨_,hk,.agg ys.toArray,?_,(.agg _ _ h2)⟩
  have hl:=run_loadCells_list (P:=P) (w:=w) ⟨A.ι b,(A.κ b).2+o',none⟩ ys h4
  rw[h3]at hl
  simp only[execOp,ho,h1,Instr.loadAt,Instr.sureAddr,loadVar,Sem.run_bind,Sem.run_pure,Result.andThen_ok,run_agg hg,if_true,run_size hn,hl]
end
end Go.Proofs.YtkcdehffcddciaaGreatDoor.Vm
