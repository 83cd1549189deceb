/- FROM A ROW's CELLS TO WHAT THE WALKS ASK: a program of the source, read. -/
import Derived.Test.YtmjilfamjlnigaaGreatRows
import Derived.Test.YtmjilfamjlnigaaGreatQ13
import Derived.ProofKit
import Derived.OpenShut
import Derived.Deep.Slices
import Derived.Deep.Fields
import Derived.ChangeSame
import Derived.Lib.SmallJoins
import Derived.Carry
import Derived.Test.YtmjilfamjlnigaaGreatQ01
namespace Go.Proofs.YtmjilfamjlnigaaGreat.Open
open Go Go.ChangeShapes Go.WideShapes Go.RowKit SrcP SrcW RunW
section
variable {H:Type} {enc:TypeId × Value→H} {P:Program} {w:World} {base:Nat} {spare:Nat→Bool} {held:Bool}
theorem open_fields {t e:TypeId} {fs:Array Field} {fuel:Nat} {v:Value} {x:DataW H × List MemPlace} (ht:P.underlying t=some (.slice e)) (he:P.underlying e=some (.struct fs))
  (hone:Deep.oneCellFields P fs=true) (hC:P.cellsOf e=fs.size) (h:DataW.trod enc P w base spare held fuel t [v]=some x) :
  (v=.slice none 0 0∧x.1=.nil) ∨
  ∃(a:Addr) (len cap:Nat) (D:Nat→DataW H) (sp:List (DataW H)),v=.slice (some a) len cap∧len≤cap∧x.1=.slice ((List.range len).map D) sp ∧
   ∀i,i<len→∃(ys:List (DataW H × List MemPlace)) (n:Nat),D i=.agg (ys.map (·.1))∧ys.length=fs.size ∧
    ∀(j:Nat) (f:Field),fs[j]?=some f→∃(u:Value) (y:DataW H × List MemPlace),w.cell? (a.add (i*fs.size+j))=some u∧ys[j]?=some y∧DataW.trod enc P w base spare held n f.type [u]=some y:=by
 rcases Deep.open_slice ht h with⟨hcs,rfl⟩ | ⟨a,len,cap,m,n,D,Pl,hcs,_,hl,_,hmm,rfl,hi⟩
 ·exact .inl ⟨by simpa using hcs,rfl⟩
 ·have hm:len≤m:=by rw[hmm];split <;> omega
  refine .inr ⟨a,len,cap,D,_,by simpa using hcs,hl,rfl,fun i hil=>?_⟩
  obtain⟨cs',hc,ht'⟩:=hi i (by omega)
  rw[hC]at hc
  obtain⟨ys,n',hn',hy,hlen,hyl,hf⟩:=DataW.trod_struct he ht'
  obtain⟨_,hcl,hat⟩:=World.cells?_some hc
  simp only[Prod.mk.injEq]at hy
  refine⟨ys,n',hy.1,hyl,fun j f hj=>?_⟩
  obtain⟨ho,hk⟩:=Deep.hone_of hone j f hj
  have hjl:j<fs.size:=(Array.getElem?_eq_some_iff.1 hj).1
  have hcell:=hat j hjl
  have hv:cs'[j]?=some (cs'[j]'(by omega)):=Kit.eG (by omega)
  have h1:=hf j f hj
  rw[ho,hk]at h1
  have hone':(cs'.drop j).take 1 = [cs'[j]'(by omega)]:=by
   rw[List.drop_eq_getElem_cons (by omega)]
   rfl
  rw[hone']at h1
  have hys:ys[j]?=some (ys[j]'(by omega)):=Kit.eG (by omega)
  refine⟨_,_,?_,hys,h1.trans hys⟩
  rw[←Deep.add_add,hcell,hv]
theorem one_le {H:Type} (d:DataW H):1≤Rows.uptoBulk d:=by
 cases d with
 | lit l=>cases l <;> simp[Rows.uptoBulk]
 | nil=>simp[Rows.uptoBulk]
 | ptr d=>simp[Rows.uptoBulk]
 | slice elems spare=>simp[Rows.uptoBulk]
 | agg parts=>simp[Rows.uptoBulk]
 | iface t d=>simp[Rows.uptoBulk]
 | map entries=>simp[Rows.uptoBulk]
 | held h=>simp[Rows.uptoBulk]
theorem part_le {H:Type} {d:DataW H} {l:List (DataW H)} (h:d∈l):Rows.uptoBulk d≤Rows.uptoBulkAll l:=by
 induction l with
 | nil=>cases h
 | cons x r ih =>
  simp only[Rows.uptoBulkAll]
  cases List.mem_cons.1 h with
  | inl e=>subst e;omega
  | inr e=>have:=ih e;omega
theorem length_le {H:Type} (l:List (DataW H)):l.length≤Rows.uptoBulkAll l:=by
 induction l with
 | nil=>simp[Rows.uptoBulkAll]
 | cons x r ih=>have:=one_le x;simp only[Rows.uptoBulkAll,List.length_cons];omega
theorem slice_len {H:Type} (n:Nat) (D:Nat→DataW H) (sp:List (DataW H)):n≤Rows.uptoBulk (.slice ((List.range n).map D) sp):=by
 have h1:=length_le ((List.range n).map D)
 rw[List.length_map,List.length_range]at h1
 simp only[Rows.uptoBulk]
 omega
theorem slice_part {H:Type} {n:Nat} (D:Nat→DataW H) (sp:List (DataW H)) {i:Nat} (hi:i<n):Rows.uptoBulk (D i)≤Rows.uptoBulk (.slice ((List.range n).map D) sp):=by
 have h1:D i∈(List.range n).map D:=List.mem_map.2 ⟨i,List.mem_range.2 hi,rfl⟩
 have h2:=part_le h1
 simp only[Rows.uptoBulk]
 omega
theorem agg_part {H:Type} {ys:List (DataW H × List MemPlace)} {j:Nat} {y:DataW H × List MemPlace} (h:ys[j]?=some y):Rows.uptoBulk y.1≤Rows.uptoBulk (.agg (ys.map (·.1)):DataW H):=by
 have h1:y.1∈ys.map (·.1):=List.mem_map.2 ⟨y,List.mem_of_getElem? h,rfl⟩
 have h2:=part_le h1
 simp only[Rows.uptoBulk]
 omega
theorem choose_list {α:Type} [Inhabited α] {n:Nat} {p:Nat→α→Prop} (h:∀i,i<n→∃x,p i x):∃l:List α,l.length=n∧∀i x,l[i]?=some x→p i x:=by
 refine⟨(List.range n).map fun i=>if hi:i<n then Classical.choose (h i hi)else default,by simp,fun i x hx=>?_⟩
 rw[List.getElem?_map]at hx
 rcases Nat.lt_or_ge i n with hi | hi
 ·rw[List.getElem?_range hi]at hx
  simp only[Option.map_some,Option.some.injEq,dif_pos hi]at hx
  rw[←hx]
  exact Classical.choose_spec (h i hi)
 ·rw[List.getElem?_eq_none (by simpa using hi)]at hx
  cases hx
end
instance:Inhabited SrcP.Node:=⟨⟨0,0,0,0⟩⟩
instance:Inhabited SrcP.Act:=⟨⟨0,0,0,0,[],[],[],0,0,0,0⟩⟩
instance:Inhabited SrcP.Thread:=⟨⟨0,[]⟩⟩
section
variable {H:Type} {enc:TypeId × Value→H} {w:World} {base:Nat} {spare:Nat→Bool} {held:Bool} {n:Nat} {v:Value} {y:DataW H × List MemPlace}
theorem int_of (h:DataW.trod enc Tryz.prog w base spare held n 3 [v]=some y):∃z:Int,v=.int .i64 z:=by
 obtain⟨z,hz,_⟩:=DataW.trod_int Tryz.underlying3 h
 exact⟨z,by simpa using hz⟩
theorem u64_of (h:DataW.trod enc Tryz.prog w base spare held n 40 [v]=some y):∃z:Nat,v=.int .u64 (z:Int)∧z<M64:=by
 obtain⟨z,hz,_,hw⟩:=DataW.trod_int Tryz.underlying40 h
 have hx:0≤z∧z≤18446744073709551615:=by simpa [Lit.wf,IntKind.min,IntKind.max,IntKind.signed,IntKind.bits]using hw
 refine⟨z.toNat,?_,by unfold M64;omega⟩
 obtain rfl:v=.int .u64 z:=by simpa using hz
 congr 1
 omega
theorem nil_ok:NilOk nilV:=fun n c h=>by injection h with _ _ h;exact h.symm
theorem some_ok (a:Addr) (n c:Nat):NilOk (.slice (some a) n c):=fun n' c' h=>by injection h with h;cases h
theorem cells_at {a:Addr} {k:Nat} {cs:List Value} (h:∀j u,cs[j]?=some u→w.cell? (a.add (k+j))=some u):CellsAt w (a.add k) cs:=fun j u hj=>by
 rw[Deep.add_add]
 exact h j u hj
theorem nodes_of (h:DataW.trod enc Tryz.prog w base spare held n 56 [v]=some y):∃l:List SrcP.Node,NodesAt w v l∧l.length≤Rows.uptoBulk y.1∧NilOk v∧∀x∈l,x.val<M64:=by
 rcases open_fields Tryz.underlying56 Tryz.underlying112 (by kernel_rfl) (by kernel_rfl) h with⟨rfl,_⟩ | ⟨a,len,cap,D,sp,rfl,_,hy,hi⟩
 ·exact⟨[],⟨none,0,rfl,fun i x hx=>by simp at hx⟩,Nat.zero_le _,nil_ok,fun x hx=>by cases hx⟩
 ·have hex:∀i,i<len→∃x:SrcP.Node,CellsAt w (a.add (i*4)) (nodeC x)∧x.val<M64:=fun i hil=>by
   obtain⟨ys,m,_,_,hf⟩:=hi i hil
   obtain⟨u0,y0,c0,_,t0⟩:=hf 0 _ rfl
   obtain⟨u1,y1,c1,_,t1⟩:=hf 1 _ rfl
   obtain⟨u2,y2,c2,_,t2⟩:=hf 2 _ rfl
   obtain⟨u3,y3,c3,_,t3⟩:=hf 3 _ rfl
   obtain⟨z0,rfl⟩:=int_of t0
   obtain⟨z1,rfl,hz1⟩:=u64_of t1
   obtain⟨z2,rfl⟩:=int_of t2
   obtain⟨z3,rfl⟩:=int_of t3
   refine⟨⟨z0,z1,z2,z3⟩,cells_at fun j u hj=>?_,hz1⟩
   match j,hj with
   | 0,hj=>cases hj;exact c0
   | 1,hj=>cases hj;exact c1
   | 2,hj=>cases hj;exact c2
   | 3,hj=>cases hj;exact c3
   | j+4,hj=>simp[nodeC]at hj
  obtain⟨l,hl,hp⟩:=choose_list hex
  refine⟨l,⟨some a,cap,by rw[hl],fun i x hx=>⟨(hp i x hx).2,a,rfl,(hp i x hx).1⟩⟩,?_,some_ok _ _ _,fun x hx=>?_⟩
  ·rw[hl,hy];exact slice_len _ _ _
  ·obtain⟨i,hi⟩:=List.getElem?_of_mem hx
   exact(hp i x hi).2
theorem acts_of (h:DataW.trod enc Tryz.prog w base spare held n 55 [v]=some y) (hbk:Rows.uptoBulk y.1≤1048576) :
  ∃l:List SrcP.Act,ActsAt w v l∧l.length≤Rows.uptoBulk y.1∧NilOk v∧∀a∈l,(∀x∈a.index,x.val<M64)∧(∀x∈a.e,x.val<M64)∧(∀x∈a.f,x.val<M64):=by
 rcases open_fields Tryz.underlying55 Tryz.underlying58 (by kernel_rfl) (by kernel_rfl) h with⟨rfl,_⟩ | ⟨ad,len,cap,D,sp,rfl,_,hy,hi⟩
 ·exact⟨[],⟨none,0,rfl,fun i x hx=>by simp at hx⟩,Nat.zero_le _,nil_ok,fun x hx=>by cases hx⟩
 ·have hex:∀i,i<len→∃a:SrcP.Act,(∃vi ve vf,CellsAt w (ad.add (i*11)) (actC a vi ve vf).toList∧ActV w vi ve vf a)∧(∀x∈a.index,x.val<M64)∧(∀x∈a.e,x.val<M64)∧(∀x∈a.f,x.val<M64):=fun i hil=>by
   obtain⟨ys,m,hD,_,hf⟩:=hi i hil
   have hDi:Rows.uptoBulk (D i)≤1048576:=by have h1:=slice_part D sp hil;rw[hy]at hbk;omega
   rw[hD]at hDi
   obtain⟨u0,y0,c0,hy0,t0⟩:=hf 0 _ rfl
   obtain⟨u1,y1,c1,hy1,t1⟩:=hf 1 _ rfl
   obtain⟨u2,y2,c2,hy2,t2⟩:=hf 2 _ rfl
   obtain⟨u3,y3,c3,hy3,t3⟩:=hf 3 _ rfl
   obtain⟨u4,y4,c4,hy4,t4⟩:=hf 4 _ rfl
   obtain⟨u5,y5,c5,hy5,t5⟩:=hf 5 _ rfl
   obtain⟨u6,y6,c6,hy6,t6⟩:=hf 6 _ rfl
   obtain⟨u7,y7,c7,hy7,t7⟩:=hf 7 _ rfl
   obtain⟨u8,y8,c8,hy8,t8⟩:=hf 8 _ rfl
   obtain⟨u9,y9,c9,hy9,t9⟩:=hf 9 _ rfl
   obtain⟨u10,y10,c10,hy10,t10⟩:=hf 10 _ rfl
   obtain⟨z0,rfl⟩:=int_of t0
   obtain⟨z1,rfl⟩:=int_of t1
   obtain⟨z2,rfl⟩:=int_of t2
   obtain⟨z3,rfl⟩:=int_of t3
   obtain⟨l4,n4,b4,o4,v4⟩:=nodes_of t4
   have e4:=agg_part hy4
   obtain⟨l5,n5,b5,o5,v5⟩:=nodes_of t5
   have e5:=agg_part hy5
   obtain⟨l6,n6,b6,o6,v6⟩:=nodes_of t6
   have e6:=agg_part hy6
   obtain⟨z7,rfl⟩:=int_of t7
   obtain⟨z8,rfl⟩:=int_of t8
   obtain⟨z9,rfl⟩:=int_of t9
   obtain⟨z10,rfl⟩:=int_of t10
   refine⟨⟨z0,z1,z2,z3,l4,l5,l6,z7,z8,z9,z10⟩,⟨u4,u5,u6,cells_at fun j u hj=>?_,⟨n4,n5,n6,show l4.length≤1048576 by omega,show l5.length≤1048576 by omega,show l6.length≤1048576 by omega,o4,o5,o6⟩⟩,v4,v5,v6⟩
   match j,hj with
   | 0,hj=>cases hj;exact c0
   | 1,hj=>cases hj;exact c1
   | 2,hj=>cases hj;exact c2
   | 3,hj=>cases hj;exact c3
   | 4,hj=>cases hj;exact c4
   | 5,hj=>cases hj;exact c5
   | 6,hj=>cases hj;exact c6
   | 7,hj=>cases hj;exact c7
   | 8,hj=>cases hj;exact c8
   | 9,hj=>cases hj;exact c9
   | 10,hj=>cases hj;exact c10
   | j+11,hj=>simp[actC]at hj
  obtain⟨l,hl,hp⟩:=choose_list hex
  refine⟨l,⟨some ad,cap,by rw[hl],fun i a ha=>?_⟩,?_,some_ok _ _ _,fun a ha=>?_⟩
  ·obtain⟨⟨vi,ve,vf,h1,h2⟩,_⟩:=hp i a ha
   exact⟨ad,vi,ve,vf,rfl,h1,h2⟩
  ·rw[hl,hy];exact slice_len _ _ _
  ·obtain⟨i,hi⟩:=List.getElem?_of_mem ha
   exact(hp i a hi).2
theorem threads_of (h:DataW.trod enc Tryz.prog w base spare held n 22 [v]=some y) (hbk:Rows.uptoBulk y.1≤1048576) :
  ∃l:List SrcP.Thread,ThreadsAt w v l∧l.length≤Rows.uptoBulk y.1∧∀th∈l,∀a∈th.acts,(∀x∈a.index,x.val<M64)∧(∀x∈a.e,x.val<M64)∧(∀x∈a.f,x.val<M64):=by
 rcases open_fields Tryz.underlying22 Tryz.underlying60 (by kernel_rfl) (by kernel_rfl) h with⟨rfl,_⟩ | ⟨ad,len,cap,D,sp,rfl,_,hy,hi⟩
 ·exact⟨[],⟨none,0,rfl,fun i x hx=>by simp at hx⟩,Nat.zero_le _,fun x hx=>by cases hx⟩
 ·have hex:∀i,i<len→∃th:SrcP.Thread,(∃va,CellsAt w (ad.add (i*2)) [.int .i64 th.locals,va]∧ActsAt w va th.acts∧(th.acts.length≤1048576∧NilOk va))∧∀a∈th.acts,(∀x∈a.index,x.val<M64)∧(∀x∈a.e,x.val<M64)∧(∀x∈a.f,x.val<M64):=fun i hil=>by
   obtain⟨ys,m,hD,_,hf⟩:=hi i hil
   have hDi:Rows.uptoBulk (D i)≤1048576:=by have h1:=slice_part D sp hil;rw[hy]at hbk;omega
   rw[hD]at hDi
   obtain⟨u0,y0,c0,_,t0⟩:=hf 0 _ rfl
   obtain⟨u1,y1,c1,hy1,t1⟩:=hf 1 _ rfl
   obtain⟨z0,rfl⟩:=int_of t0
   have e1:=agg_part hy1
   obtain⟨l1,n1,b1,o1,v1⟩:=acts_of t1 (by omega)
   refine⟨⟨z0,l1⟩,⟨u1,cells_at fun j u hj=>?_,n1,show l1.length≤1048576 by omega,o1⟩,v1⟩
   match j,hj with
   | 0,hj=>cases hj;exact c0
   | 1,hj=>cases hj;exact c1
   | j+2,hj=>simp at hj
  obtain⟨l,hl,hp⟩:=choose_list hex
  refine⟨l,⟨some ad,cap,by rw[hl],fun i th hth=>?_⟩,?_,fun th hth=>?_⟩
  ·obtain⟨⟨va,h1,h2,h3⟩,_⟩:=hp i th hth
   exact⟨ad,va,rfl,h1,h2,h3⟩
  ·rw[hl,hy];exact slice_len _ _ _
  ·obtain⟨i,hi⟩:=List.getElem?_of_mem hth
   exact(hp i th hi).2
end
end Go.Proofs.YtmjilfamjlnigaaGreat.Open
namespace Go.Proofs.YtmjilfamjlnigaaGreat.SrcP
open Go
def stepN (locals:Int) (i:Nat) (n:SrcP.Node) (used:List Bool):Option (List Bool) :=
 if n.op=1∨n.op=2 then(if n.a≠0∨n.b≠0∨(n.op=2∧locals≤(n.val:Int))then none else some used)
 else if n.op<1∨19<n.op∨n.val≠0∨n.a<0∨(i:Int)≤n.a∨used.getD n.a.toNat true=true then none
 else if n.op≤5 then(if n.b≠0 then none else some (used.set n.a.toNat true))
 else if n.b<0∨(i:Int)≤n.b∨(used.set n.a.toNat true).getD n.b.toNat true=true then none
 else some ((used.set n.a.toNat true).set n.b.toNat true)
def goN (locals:Int):Nat→List SrcP.Node→List Bool→Option (List Bool)
 | _,[],used=>some used
 | i,n :: l,used=>match stepN locals i n used with
  | none=>none
  | some u=>goN locals (i+1) l u
def exprR (l:List SrcP.Node) (locals:Int):Bool :=
 decide (0<l.length∧l.length≤65536)&&(match goN locals 0 l (List.replicate l.length false)with
  | none=>false
  | some u=>(List.range (l.length-1)).all fun i=>u.getD i false)
theorem usesR_snoc (l:List SrcP.Node) (n:SrcP.Node) (j:Nat):uses (l++[n]) j=uses l j+((if 3≤n.op∧n.a=(j:Int)then 1 else 0)+(if 6≤n.op∧n.b=(j:Int)then 1 else 0)):=by
 unfold uses
 rw[List.countP_append,List.countP_append,List.countP_singleton,List.countP_singleton]
 simp only[Bool.and_eq_true,decide_eq_true_eq]
 omega
structure Marks (pre:List SrcP.Node) (N:Nat) (used:List Bool):Prop where
 len:used.length=N
 mark:∀j,j<N→used.getD j false=decide (uses pre j=1)
 le:∀j,uses pre j≤1
theorem getD_either {l:List Bool} {j:Nat} (h:j<l.length) (a b:Bool):l.getD j a=l.getD j b:=by
 simp[List.getD_eq_getElem?_getD,List.getElem?_eq_getElem h]
theorem step_some {locals:Int} {pre:List SrcP.Node} {n:SrcP.Node} {used:List Bool} {N:Nat} (hm:Marks pre N used) (hi:pre.length<N) (hok:nodeOk locals pre.length n=true) (hle:∀j,uses (pre++[n]) j≤1) :
  ∃u,stepN locals pre.length n used=some u∧Marks (pre++[n]) N u:=by
 have hs:=fun j=>usesR_snoc pre n j
 unfold nodeOk at hok
 unfold stepN
 by_cases h1:n.op=1
 ·rw[if_pos h1]at hok
  simp only[Bool.and_eq_true,beq_iff_eq]at hok
  rw[if_pos (.inl h1),if_neg (by omega)]
  refine⟨_,rfl,hm.len,fun j hj=>?_,hle⟩
  rw[hm.mark j hj,hs,if_neg (by omega),if_neg (by omega)]
  rfl
 ·rw[if_neg h1]at hok
  by_cases h2:n.op=2
  ·rw[if_pos h2]at hok
   simp only[Bool.and_eq_true,beq_iff_eq,decide_eq_true_eq]at hok
   rw[if_pos (.inr h2),if_neg (by omega)]
   refine⟨_,rfl,hm.len,fun j hj=>?_,hle⟩
   rw[hm.mark j hj,hs,if_neg (by omega),if_neg (by omega)]
   rfl
  ·rw[if_neg h2]at hok
   rw[if_neg (by omega)]
   by_cases h3:3≤n.op∧n.op≤5
   ·rw[if_pos h3]at hok
    simp only[Bool.and_eq_true,beq_iff_eq,decide_eq_true_eq]at hok
    obtain⟨ha,hb,hv⟩:=hok
    have haN:n.a.toNat<N:=by omega
    have hu:used.getD n.a.toNat true=false:=by
     rw[getD_either (by rw[hm.len];exact haN) true false,hm.mark _ haN]
     have h4:=hle n.a.toNat
     rw[hs,if_pos (by omega)]at h4
     simp;omega
    rw[if_neg (by rw[hu];simp;omega),if_pos h3.2,if_neg (by omega)]
    refine⟨_,rfl,by rw[List.length_set];exact hm.len,fun j hj=>?_,hle⟩
    by_cases hja:n.a.toNat=j
    ·subst hja
     rw[Kit.gD,List.getElem?_set_self (by rw[hm.len];exact hj)]
     have h4:=hle n.a.toNat
     rw[hs,if_pos (by omega)]at h4 ⊢
     exact(decide_eq_true (by omega)).symm
    ·rw[Kit.gD,List.getElem?_set_ne hja,←Kit.gD,hm.mark j hj,hs,if_neg (by omega),if_neg (by omega)]
     rfl
   ·rw[if_neg h3]at hok
    simp only[Bool.and_eq_true,beq_iff_eq,decide_eq_true_eq]at hok
    obtain⟨ha,hb,hop,hv⟩:=hok
    have haN:n.a.toNat<N:=by omega
    have hbN:n.b.toNat<N:=by omega
    have hab:n.a.toNat≠n.b.toNat:=fun e=>by
     have h4:=hle n.a.toNat
     rw[hs,if_pos (by omega),if_pos (by omega)]at h4
     omega
    have hu:used.getD n.a.toNat true=false:=by
     rw[getD_either (by rw[hm.len];exact haN) true false,hm.mark _ haN]
     have h4:=hle n.a.toNat
     rw[hs,if_pos (by omega)]at h4
     simp;omega
    have hu2:(used.set n.a.toNat true).getD n.b.toNat true=false:=by
     rw[Kit.gD,List.getElem?_set_ne hab,←Kit.gD,getD_either (by rw[hm.len];exact hbN) true false,hm.mark _ hbN]
     have h4:=hle n.b.toNat
     rw[hs,if_pos (show 6≤n.op∧n.b=(n.b.toNat:Int) by omega)]at h4
     simp;omega
    rw[if_neg (by rw[hu];simp;omega),if_neg (by omega),if_neg (by rw[hu2];simp;omega)]
    refine⟨_,rfl,by rw[List.length_set,List.length_set];exact hm.len,fun j hj=>?_,hle⟩
    by_cases hjb:n.b.toNat=j
    ·subst hjb
     rw[Kit.gD,List.getElem?_set_self (by rw[List.length_set,hm.len];exact hj)]
     have h4:=hle n.b.toNat
     rw[hs,if_pos (show 6≤n.op∧n.b=(n.b.toNat:Int) by omega)]at h4 ⊢
     exact(decide_eq_true (by omega)).symm
    ·rw[Kit.gD,List.getElem?_set_ne hjb]
     by_cases hja:n.a.toNat=j
     ·subst hja
      rw[List.getElem?_set_self (by rw[hm.len];exact hj)]
      have h4:=hle n.a.toNat
      rw[hs,if_pos (by omega)]at h4 ⊢
      exact(decide_eq_true (by omega)).symm
     ·rw[List.getElem?_set_ne hja,←Kit.gD,hm.mark j hj,hs,if_neg (by omega),if_neg (by omega)]
      rfl
theorem step_none {locals:Int} {pre:List SrcP.Node} {n:SrcP.Node} {used:List Bool} {N:Nat} (hm:Marks pre N used) (hi:pre.length<N) {u:List Bool} (h:stepN locals pre.length n used=some u):nodeOk locals pre.length n=true∧∀j,uses (pre++[n]) j≤1:=by
 have hs:=fun j=>usesR_snoc pre n j
 have hz:∀j,j<N→used.getD j false=false→uses pre j=0:=fun j hj hf=>by
  rw[hm.mark j hj]at hf
  have:=hm.le j
  simp at hf
  omega
 unfold stepN at h
 unfold nodeOk
 by_cases h1:n.op=1∨n.op=2
 ·rw[if_pos h1]at h
  split at h
  ·cases h
  ·rename_i h2
   refine⟨?_,fun j=>by rw[hs,if_neg (by omega),if_neg (by omega)];exact hm.le j⟩
   rcases h1 with h1 | h1
   ·rw[if_pos h1];simp;omega
   ·rw[if_neg (by omega),if_pos h1];simp;omega
 ·rw[if_neg h1]at h
  split at h
  ·cases h
  ·rename_i h2
   simp only[not_or,Bool.not_eq_true,Int.not_lt,Int.not_le,ne_eq,Decidable.not_not]at h2
   obtain⟨g1,g2,g3,g4,g5,g6⟩:=h2
   have haN:n.a.toNat<N:=by omega
   rw[getD_either (by rw[hm.len];exact haN) true false]at g6
   have ga:=hz _ haN g6
   split at h
   ·rename_i h5
    split at h
    ·cases h
    ·rename_i hb
     refine⟨?_,fun j=>?_⟩
     ·rw[if_neg (by omega),if_neg (by omega),if_pos (by omega)]
      simp;omega
     ·rw[hs,if_neg (show ¬(6≤n.op∧n.b=(j:Int)) by omega)]
      split
      ·rename_i hj
       obtain rfl:n.a.toNat=j:=by omega
       omega
      ·have:=hm.le j;omega
   ·rename_i h5
    split at h
    ·cases h
    ·rename_i h6
     simp only[not_or,Bool.not_eq_true,Int.not_lt,Int.not_le]at h6
     obtain⟨e1,e2,e3⟩:=h6
     have hbN:n.b.toNat<N:=by omega
     have hab:n.a.toNat≠n.b.toNat:=fun e=>by
      rw[←e,Kit.gD,List.getElem?_set_self (by rw[hm.len];exact haN)]at e3
      cases e3
     rw[Kit.gD,List.getElem?_set_ne hab,←Kit.gD,getD_either (by rw[hm.len];exact hbN) true false]at e3
     have gb:=hz _ hbN e3
     refine⟨?_,fun j=>?_⟩
     ·rw[if_neg (by omega),if_neg (by omega),if_neg (by omega)]
      simp;omega
     ·rw[hs]
      by_cases hj:n.a.toNat=j
      ·subst hj
       rw[if_pos (by omega),if_neg (by omega)]
       omega
      ·by_cases hj2:n.b.toNat=j
       ·subst hj2
        rw[if_neg (by omega),if_pos (by omega)]
        omega
       ·rw[if_neg (by omega),if_neg (by omega)]
        exact hm.le j
theorem goN_spec (locals:Int):∀(l pre:List SrcP.Node) (used:List Bool) (N:Nat),Marks pre N used→pre.length+l.length≤N →
  (match goN locals pre.length l used with
   | none=>¬(nodesOk locals pre.length l=true∧∀j,uses (pre++l) j≤1)
   | some u=>nodesOk locals pre.length l=true∧Marks (pre++l) N u)
 | [],pre,used,N,hm,_=>by
  simp only[goN,nodesOk,List.append_nil]
  exact⟨trivial,hm⟩
 | n :: l,pre,used,N,hm,hN=>by
  rw[List.length_cons]at hN
  have hmono:∀j,uses (pre++[n]) j≤uses (pre++n :: l) j:=fun j=>by
   have:pre++n :: l=(pre++[n])++l:=by simp
   rw[this]
   unfold uses
   rw[List.countP_append (l₁:=pre++[n]),List.countP_append (l₁:=pre++[n])]
   omega
  have hlen:(pre++[n]).length=pre.length+1:=by simp
  cases hst:stepN locals pre.length n used with
  | none =>
   simp only[goN,hst]
   rintro⟨h1,h2⟩
   simp only[nodesOk,Bool.and_eq_true]at h1
   obtain⟨u,hu,_⟩:=step_some hm (by omega) h1.1 (fun j=>Nat.le_trans (hmono j) (h2 j))
   rw[hst]at hu
   cases hu
  | some u =>
   obtain⟨h1,h2⟩:=step_none hm (by omega) hst
   obtain⟨u',hu',hm'⟩:=step_some hm (by omega) h1 h2
   rw[hst]at hu'
   obtain rfl:u=u':=Option.some.inj hu'
   have ih:=goN_spec locals l (pre++[n]) u N hm' (by rw[hlen];omega)
   rw[hlen,List.append_assoc,List.singleton_append]at ih
   simp only[goN,hst]
   cases hg:goN locals (pre.length+1) l u with
   | none =>
    rw[hg]at ih
    simp only at ih ⊢
    simp only[nodesOk,h1,Bool.true_and]
    exact ih
   | some x =>
    rw[hg]at ih
    simp only at ih ⊢
    simp only[nodesOk,h1,Bool.true_and]
    exact ih
theorem usesR_last {locals:Int}:∀(l:List SrcP.Node) (i:Nat),nodesOk locals i l=true→∀j,i+l.length≤j+1→uses l j=0
 | [],_,_,_,_=>rfl
 | n :: l,i,h,j,hj=>by
  simp only[nodesOk,Bool.and_eq_true]at h
  rw[List.length_cons]at hj
  have ih:=usesR_last l (i+1) h.2 j (by omega)
  have h1:=h.1
  unfold uses at ih ⊢
  rw[List.countP_cons,List.countP_cons]
  have e1:¬(3≤n.op∧n.a=(j:Int)):=fun hh=>by
   unfold nodeOk at h1
   rw[if_neg (by omega),if_neg (by omega)]at h1
   split at h1 <;> simp at h1 <;> omega
  have e2:¬(6≤n.op∧n.b=(j:Int)):=fun hh=>by
   unfold nodeOk at h1
   rw[if_neg (by omega),if_neg (by omega),if_neg (by omega)]at h1
   simp at h1
   omega
  simp only[Bool.and_eq_true,decide_eq_true_eq]
  rw[if_neg e1,if_neg e2]
  omega
theorem exprR_eq (l:List SrcP.Node) (locals:Int):exprR l locals=exprOk l locals:=by
 have hm:Marks [] l.length (List.replicate l.length false):=⟨by simp,fun j hj=>by simp[List.getD_eq_getElem?_getD,hj,uses],fun j=>by simp[uses]⟩
 have hg:=goN_spec locals l [] _ l.length hm (by simp)
 rw[Bool.eq_iff_iff]
 unfold exprR exprOk
 cases h:goN locals 0 l (List.replicate l.length false)with
 | none =>
  rw[show goN locals ([]:List SrcP.Node).length l (List.replicate l.length false)=none from h]at hg
  simp only[Bool.and_false,Bool.false_eq_true,false_iff,Bool.and_eq_true,not_and]
  intro h1 h2 h3
  refine hg ⟨h1,fun j=>?_⟩
  simp only[onceB,List.all_eq_true,List.mem_range,beq_iff_eq]at h3
  rcases Nat.lt_or_ge j l.length with hj | hj
  ·rw[List.nil_append,h3 j hj];split <;> omega
  ·rw[List.nil_append,usesR_last l 0 h1 j (by omega)];omega
 | some u =>
  rw[show goN locals ([]:List SrcP.Node).length l (List.replicate l.length false)=some u from h]at hg
  obtain⟨h1,h2⟩:=hg
  rw[List.nil_append]at h2
  have h1':nodesOk locals 0 l=true:=h1
  simp only[h1',Bool.true_and,Bool.and_eq_true,List.all_eq_true,List.mem_range,onceB,beq_iff_eq]
  constructor
  ·rintro⟨h3,h4⟩
   refine⟨h3,fun j hj=>?_⟩
   split
   ·rename_i hj2
    have h5:=h4 j (by omega)
    rw[h2.mark j hj]at h5
    simpa using h5
   ·exact usesR_last l 0 h1' j (by omega)
  ·rintro⟨h3,h4⟩
   refine⟨h3,fun j hj=>?_⟩
   have h5:=h4 j (by omega)
   rw[if_pos (by omega)]at h5
   rw[h2.mark j (by omega),h5]
   rfl
end Go.Proofs.YtmjilfamjlnigaaGreat.SrcP
