/- THE LIFT: a world's memory as a memory of the small machine. -/
import Derived.Test.YtkcdehffcddciaaGreatDoorQ52
import Derived.Test.YtkcdehffcddciaaGreatDoorQ25
import Derived.ProofKit
import Derived.OpenShut
import Derived.Deep.Slices
import Derived.Deep.Fields
import Derived.ChangeSame
import Derived.Carry
import Derived.Test.YtkcdehffcddciaaGreatDoorRows
import Derived.Test.YtkcdehffcddciaaGreatDoorQ37
import Derived.Test.YtkcdehffcddciaaGreatDoorCards
import Derived.Test.YtkcdehffcddciaaGreatDoorTie
import Derived.Test.YtkcdehffcddciaaGreatDoorQ41
import Derived.Deep.DeepHandedRow
import Derived.Lib.LaidTab
import Derived.JoinedCond
namespace Go.Proofs.YtkcdehffcddciaaGreatDoor.Vm
open Go Go.RowKit Go.ChangeShapes Go.WideShapes
noncomputable section
def trL {β:Type}:List (Option β)→Nat→Tr β
 | [],_=>.e
 | x :: l,n=>(trL l (n+1)).set n x
theorem trL_get {β:Type}:∀(l:List (Option β)) (n b:Nat),(trL l n).get b=if n≤b then(l[b-n]?).join else none
 | [],n,b=>by
  show Tr.get .e b=_
  rw[Tr.get_e]
  split <;> rfl
 | x :: l,n,b=>by
  rw[trL,Tr.get_set,trL_get l (n+1) b]
  by_cases h:b=n
  ·subst h
   rw[if_pos rfl,if_pos (Nat.le_refl _),Nat.sub_self]
   rfl
  ·rw[if_neg h]
   by_cases h2:n≤b
   ·rw[if_pos (by omega),if_pos h2,show b-n=(b-(n+1))+1 by omega]
    rfl
   ·rw[if_neg (by omega),if_neg h2]
def absV (N sz:Nat):Value→Option V
 | .int k m=>some (.i k m)
 | .slice none 0 0=>some .ns
 | .slice (some a) len cap=>if len=0∧cap=0 then some (.sl 0 0 0 0 true sz)else if a.spot=none∧a.block<N then some (.sl a.block a.off len cap true sz)else none
 | _=>none
def idS:Sub:=⟨fun b=>b,fun _=>(0,0)⟩
theorem absV_rel {N sz:Nat} {x:Value} {v:V} (h0:0<N) (h:absV N sz x=some v):Rel idS N v x∧v.one=true:=by
 unfold absV at h
 split at h
 ·cases h
  exact⟨.i _ _,rfl⟩
 ·cases h
  exact⟨.ns,rfl⟩
 ·rename_i a len cap
  split at h
  ·rename_i hz
   obtain⟨rfl,rfl⟩:=hz
   cases h
   exact⟨.slk _ _ _ _ _ _ h0 (.inr ⟨rfl,rfl⟩),rfl⟩
  ·split at h
   ·rename_i hz
    cases h
    refine⟨.slk _ _ _ _ _ _ hz.2 (.inl ?_),rfl⟩
    obtain⟨b,o,s⟩:=a
    obtain rfl:s=none:=hz.1
    show(⟨b,o,none⟩:Addr)=⟨b,0+o,none⟩
    rw[Nat.zero_add]
   ·cases h
 ·cases h
def absO (N b:Nat):Option Obj→Option O
 | some (.cells cs _ _)=>some (.ro (some b) 0 cs.size (trL (cs.toList.map (absV N 1)) 0))
 | _=>none
def hW (W:World):H:=⟨W.heap.size,trL ((List.range W.heap.size).map fun b=>absO W.heap.size b W.heap[b]?) 0⟩
section
variable {W:World}
theorem hW_get (b:Nat):(hW W).t.get b=if b<W.heap.size then absO W.heap.size b W.heap[b]? else none:=by
 show(trL _ 0).get b=_
 rw[trL_get,if_pos (Nat.zero_le _),Nat.sub_zero,List.getElem?_map]
 split
 ·rename_i h
  rw[List.getElem?_range h]
  rfl
 ·rename_i h
  rw[List.getElem?_eq_none (by simpa using h)]
  rfl
theorem hW_some {b:Nat} {U:O} (h:(hW W).t.get b=some U):b<W.heap.size∧∃cs e fr,W.heap[b]?=some (.cells cs e fr)∧U=.ro (some b) 0 cs.size (trL (cs.toList.map (absV W.heap.size 1)) 0):=by
 rw[hW_get]at h
 split at h
 ·rename_i hb
  unfold absO at h
  split at h
  ·rename_i cs e fr hx
   exact⟨hb,cs,e,fr,hx,(Option.some.inj h).symm⟩
  ·cases h
 ·cases h
theorem hW_row {b:Nat} {cs:Array Value} {e:TypeId} {fr:Nat × Nat} (h:W.heap[b]?=some (.cells cs e fr)):(hW W).t.get b=some (.ro (some b) 0 cs.size (trL (cs.toList.map (absV W.heap.size 1)) 0)):=by
 rw[hW_get,if_pos (Array.getElem?_eq_some_iff.1 h).1,h]
 rfl
theorem hW_cells {cs:Array Value} {o:Nat}:(trL (cs.toList.map (absV W.heap.size 1)) 0).get o=(cs[o]?).bind (absV W.heap.size 1):=by
 rw[trL_get,if_pos (Nat.zero_le _),Nat.sub_zero,List.getElem?_map,Array.getElem?_toList]
 cases cs[o]? <;> rfl
theorem hW_wf:Wf (hW W):=fun _b _ h=>(hW_some h).1
theorem hW_mt (h0:0<W.heap.size):Mt idS (hW W) W:=by
 refine⟨hW_wf,fun b U hb=>?_,fun b b' _ _ _ _ h=>h⟩
 obtain⟨_,cs,e,fr,hx,rfl⟩:=hW_some hb
 refine⟨_,hx,fun g hg=>⟨Option.some.inj hg,rfl⟩,cs,e,fr,rfl,fun o v _ hv=>?_⟩
 rw[hW_cells]at hv
 cases hc:cs[o]? with
 | none=>rw[hc]at hv;cases hv
 | some x =>
  rw[hc]at hv
  obtain⟨h1,h2⟩:=absV_rel h0 hv
  exact⟨x,by show cs[0+o]?=_;rw[Nat.zero_add];exact hc,h1,h2⟩
theorem lift_calls {f:FuncId} {args:List V} {xs:List Value} (h0:0<W.heap.size) (hf:FX false Tryz.prog f args (hW W) fun v _=>v=.b true) (hx:RelL idS W.heap.size args xs) :
  Calls Tryz.prog f xs.toArray W fun e w'=>e=.returned (.bool true)∧Below W.heap.size W w':=by
 refine(hf.2 idS W xs (hW_mt h0) hx).mono fun e w' ⟨x,he,v,h',⟨A',hev,hr⟩,hv⟩=>?_
 rw[hv]at hr
 rw[he,hr.of_b]
 refine⟨rfl,hev.os,hev.tape,hev.output,hev.size,fun k hk=>?_⟩
 cases hg:(hW W).t.get k with
 | some U =>
  obtain⟨_,cs,e,fr,_,rfl⟩:=hW_some hg
  exact(hev.pin k _ k hg rfl).2.2
 | none =>
  refine hev.fr k hk fun b U hb e=>?_
  have e:b=k:=e
  subst e
  rw[hg]at hb
  cases hb
/-! ### What lies there -/
theorem ce_of {a:Addr} {x:Value} {v:V} (hc:W.cell? a=some x) (hv:absV W.heap.size 1 x=some v):Ce (hW W) a.block a.off v:=by
 unfold World.cell? at hc
 split at hc
 ·rename_i cs e fr hx
  split at hc
  ·cases hc
  ·have hlt:=(Array.getElem?_eq_some_iff.1 hc).1
   refine⟨?_⟩
   unfold H.cell
   rw[hW_row hx]
   simp only
   rw[if_pos hlt,hW_cells,hc]
   exact hv
 ·cases hc
theorem at_of {a:Addr} {x:Value} (hc:W.cell? a=some x):a.spot=none∧a.block<W.heap.size∧∃e hi c,(hW W).t.get a.block=some (.ro (some a.block) e hi c)∧a.off≤hi:=by
 unfold World.cell? at hc
 split at hc
 ·rename_i cs e fr hx
  split at hc
  ·cases hc
  ·rename_i hs
   refine⟨by simpa using hs,(Array.getElem?_eq_some_iff.1 hx).1,_,_,_,hW_row hx,Nat.le_of_lt (Array.getElem?_eq_some_iff.1 hc).1⟩
 ·cases hc
theorem row_of {α:Type} [Inhabited α] {sz:Nat} {c:α→Nat→V} {a:Addr} {len cap:Nat} {l:List α} (hb0:∃e hi c,(hW W).t.get 0=some (.ro (some 0) e hi c)) (hl:l.length=len) (hcap:len≤cap) (hfull:cap=0∨∃x,W.cell? a=some x)
  (h:∀i,i<len→∀k,k<sz→∃x,W.cell? (a.add (i*sz+k))=some x∧absV W.heap.size 1 x=some (c (gt l i) k)) :
  ∃uu,absV W.heap.size sz (.slice (some a) len cap)=some uu∧Ro (hW W) uu sz c l∧Th (hW W) uu:=by
 by_cases hz:cap=0
 ·have hl0:len=0:=by omega
  subst hz hl0
  obtain⟨e,hi,c0,hb0⟩:=hb0
  refine⟨.sl 0 0 0 0 true sz,rfl,⟨?_,⟨fun i k hi=>absurd hi (by omega)⟩⟩,⟨fun b o n cp kn s e=>?_⟩⟩
  ·rw[hl]
   exact .sl (Nat.le_refl _)
  ·injection e with e1 e2
   subst e1 e2
   exact .inr ⟨_,_,_,_,hb0,Nat.zero_le _⟩
 ·obtain⟨x,hx⟩:∃x,W.cell? a=some x:=hfull.resolve_left hz
  obtain⟨hs,hblt,e,hi,c0,hg,ho⟩:=at_of hx
  refine⟨.sl a.block a.off len cap true sz,?_,⟨?_,⟨fun i k hi hk=>?_⟩⟩,⟨fun b o n cp kn s e=>?_⟩⟩
  ·show(if len=0∧cap=0 then _ else if a.spot=none∧a.block<W.heap.size then _ else _)=_
   rw[if_neg (fun h=>hz h.2),if_pos ⟨hs,hblt⟩]
  ·rw[hl]
   exact .sl hcap
  ·obtain⟨y,h1,h2⟩:=h i (by omega) k hk
   have h3:=ce_of h1 h2
   obtain⟨ab,ao,asp⟩:=a
   obtain rfl:asp=none:=hs
   rw[add_lit,←Nat.add_assoc]at h3
   exact h3
  ·injection e with e1 e2
   subst e1 e2
   exact .inr ⟨_,_,_,_,hg,ho⟩
end
end
section
variable {H:Type} {enc:TypeId × Value→H} {P:Program} {w:World} {base:Nat} {held:Bool}
theorem open_rows {t e:TypeId} {fs:Array Field} {fuel:Nat} {v:Value} {x:DataW H × List MemPlace} (ht:P.underlying t=some (.slice e)) (he:P.underlying e=some (.struct fs))
  (hone:Deep.oneCellFields P fs=true) (hC:P.cellsOf e=fs.size) (hpos:0<fs.size) (h:DataW.trod enc P w base (fun _=>true) held fuel t [v]=some x) :
  (v=.slice none 0 0∧x.1=.nil) ∨
  ∃(a:Addr) (len cap:Nat) (D:Nat→DataW H) (sp:List (DataW H)),v=.slice (some a) len cap∧len≤cap∧x.1=.slice ((List.range len).map D) sp∧(cap=0∨∃x,w.cell? a=some x) ∧
   ∀i,i<len→∃(ys:List (DataW H × List MemPlace)) (n:Nat),D i=.agg (ys.map (·.1))∧ys.length=fs.size ∧
    ∀(j:Nat) (f:Field),fs[j]?=some f→∃(uu:Value) (y:DataW H × List MemPlace),w.cell? (a.add (i*fs.size+j))=some uu∧ys[j]?=some y∧DataW.trod enc P w base (fun _=>true) held n f.type [uu]=some y:=by
 rcases Deep.open_slice ht h with⟨hcs,rfl⟩ | ⟨a,len,cap,m,n,D,Pl,hcs,_,hl,_,hmm,rfl,hi⟩
 ·exact .inl ⟨by simpa using hcs,rfl⟩
 ·have hmm:m=cap:=hmm
  subst hmm
  refine .inr ⟨a,len,m,D,_,by simpa using hcs,hl,rfl,?_,fun i hil=>?_⟩
  ·by_cases h0:m=0
   ·exact .inl h0
   ·obtain⟨cs',hc,_⟩:=hi 0 (by omega)
    rw[hC]at hc
    obtain⟨_,hcl,hat⟩:=World.cells?_some hc
    have hcell:=hat 0 hpos
    rw[List.getElem?_eq_getElem (by omega)]at hcell
    have hz:(a.add (0*fs.size)).add 0=a:=by rw[Nat.zero_mul];rfl
    rw[hz]at hcell
    exact .inr ⟨_,hcell⟩
  ·obtain⟨cs',hc,ht'⟩:=hi i (by omega)
   rw[hC]at hc
   obtain⟨ys,n',hn',hy,hlen,hyl,hf⟩:=DataW.trod_struct he ht'
   obtain⟨_,hcl,hat⟩:=World.cells?_some hc
   simp only[Prod.mk.injEq]at hy
   refine⟨ys,n',hy.1,hyl,fun j f hj=>?_⟩
   obtain⟨ho,hk⟩:=Deep.hone_of hone j f hj
   have hjl:j<fs.size:=(Array.getElem?_eq_some_iff.1 hj).1
   have hcell:=hat j hjl
   have hv:cs'[j]?=some (cs'[j]'(by omega)):=List.getElem?_eq_getElem (by omega)
   have h1:=hf j f hj
   rw[ho,hk]at h1
   have hone':(cs'.drop j).take 1 = [cs'[j]'(by omega)]:=by
    rw[List.drop_eq_getElem_cons (by omega)]
    rfl
   rw[hone']at h1
   have hys:ys[j]?=some (ys[j]'(by omega)):=List.getElem?_eq_getElem (by omega)
   refine⟨_,_,?_,hys,h1.trans hys⟩
   rw[←Deep.add_add,hcell,hv]
theorem open_parts {r:Reach} {b0:Nat} {t:TypeId} {fs:Array Field} {v:Value} {d:DataW H} {p:List MemPlace} (hs:P.underlying t=some (.struct fs)) (hone:Deep.oneCellFields P fs=true) (hC:P.cellsOf t=fs.size)
  (hv:Value.okWide P w r b0 t v) (h:DataW.Trod enc P w base (fun _=>true) held t v d p) :
  ∃(cs:Array Value) (ys:List (DataW H × List MemPlace)) (n:Nat),v=.agg cs∧cs.size=fs.size∧d=.agg (ys.map (·.1)) ∧
   ∀(j:Nat) (f:Field),fs[j]?=some f→∃(uu:Value) (y:DataW H × List MemPlace),cs[j]?=some uu∧ys[j]?=some y∧DataW.trod enc P w base (fun _=>true) held n f.type [uu]=some y:=by
 obtain⟨cs,rfl,hsz⟩:=okWide_struct hs hv
 obtain⟨fuel,hf⟩:=h
 obtain⟨ys,n',hn',hy,hlen,hyl,hf⟩:=DataW.trod_struct hs hf
 simp only[Prod.mk.injEq]at hy
 refine⟨cs,ys,n',rfl,by omega,hy.1,fun j f hj=>?_⟩
 obtain⟨ho,hk⟩:=Deep.hone_of hone j f hj
 have hjl:j<fs.size:=(Array.getElem?_eq_some_iff.1 hj).1
 have h1:=hf j f hj
 rw[ho,hk]at h1
 have hcl:cs.toList.length=fs.size:=by rw[Array.length_toList];omega
 have hone':(cs.toList.drop j).take 1 = [cs[j]'(by omega)]:=by
  rw[List.drop_eq_getElem_cons (by omega)]
  rfl
 have h1:DataW.trod enc P w base (fun _=>true) held n' f.type ((cs.toList.drop j).take 1)=ys[j]?:=h1
 rw[hone']at h1
 have hys:ys[j]?=some (ys[j]'(by omega)):=List.getElem?_eq_getElem (by omega)
 exact⟨_,_,Array.getElem?_eq_getElem (by omega),hys,h1.trans hys⟩
theorem one_le {H:Type} (d:DataW H):1≤Rows.uptoBulk d:=by
 cases d with
 | lit l=>cases l <;> simp[Rows.uptoBulk]
 | nil=>simp[Rows.uptoBulk]
 | ptr d=>simp[Rows.uptoBulk]
 | slice elems spare=>simp[Rows.uptoBulk]
 | agg parts=>simp[Rows.uptoBulk]
 | iface t d=>simp[Rows.uptoBulk]
 | map entries=>simp[Rows.uptoBulk]
 | held h=>simp[Rows.uptoBulk]
theorem part_le {H:Type} {d:DataW H} {l:List (DataW H)} (h:d∈l):Rows.uptoBulk d≤Rows.uptoBulkAll l:=by
 induction l with
 | nil=>cases h
 | cons x r ih =>
  simp only[Rows.uptoBulkAll]
  cases List.mem_cons.1 h with
  | inl e=>subst e;omega
  | inr e=>have:=ih e;omega
theorem length_le {H:Type} (l:List (DataW H)):l.length≤Rows.uptoBulkAll l:=by
 induction l with
 | nil=>simp[Rows.uptoBulkAll]
 | cons x r ih=>have:=one_le x;simp only[Rows.uptoBulkAll,List.length_cons];omega
theorem slice_len {H:Type} (n:Nat) (D:Nat→DataW H) (sp:List (DataW H)):n≤Rows.uptoBulk (.slice ((List.range n).map D) sp):=by
 have h1:=length_le ((List.range n).map D)
 rw[List.length_map,List.length_range]at h1
 simp only[Rows.uptoBulk]
 omega
theorem slice_part {H:Type} {n:Nat} (D:Nat→DataW H) (sp:List (DataW H)) {i:Nat} (hi:i<n):Rows.uptoBulk (D i)≤Rows.uptoBulk (.slice ((List.range n).map D) sp):=by
 have h1:D i∈(List.range n).map D:=List.mem_map.2 ⟨i,List.mem_range.2 hi,rfl⟩
 have h2:=part_le h1
 simp only[Rows.uptoBulk]
 omega
theorem agg_part {H:Type} {ys:List (DataW H × List MemPlace)} {j:Nat} {y:DataW H × List MemPlace} (h:ys[j]?=some y):Rows.uptoBulk y.1≤Rows.uptoBulk (.agg (ys.map (·.1)):DataW H):=by
 have h1:y.1∈ys.map (·.1):=List.mem_map.2 ⟨y,List.mem_of_getElem? h,rfl⟩
 have h2:=part_le h1
 simp only[Rows.uptoBulk]
 omega
theorem choose_list {α:Type} [Inhabited α] {n:Nat} {p:Nat→α→Prop} (h:∀i,i<n→∃x,p i x):∃l:List α,l.length=n∧∀i x,l[i]?=some x→p i x:=by
 refine⟨(List.range n).map fun i=>if hi:i<n then Classical.choose (h i hi)else default,by simp,fun i x hx=>?_⟩
 rw[List.getElem?_map]at hx
 rcases Nat.lt_or_ge i n with hi | hi
 ·rw[List.getElem?_range hi]at hx
  simp only[Option.map_some,Option.some.injEq,dif_pos hi]at hx
  rw[←hx]
  exact Classical.choose_spec (h i hi)
 ·rw[List.getElem?_eq_none (by simpa using hi)]at hx
  cases hx
end
section
variable {H:Type} {enc:TypeId × Value→H} {W:World} {base:Nat} {held:Bool} {n:Nat} {v:Value} {y:DataW H × List MemPlace}
theorem int_at (h:DataW.trod enc Tryz.prog W base (fun _=>true) held n 3 [v]=some y):∃z:Int,v=.int .i64 z:=by
 obtain⟨z,hz,_⟩:=DataW.trod_int Tryz.underlying3 h
 exact⟨z,by simpa using hz⟩
theorem u64_at (h:DataW.trod enc Tryz.prog W base (fun _=>true) held n 35 [v]=some y):∃z:Int,v=.int .u64 z:=by
 obtain⟨z,hz,_⟩:=DataW.trod_int Tryz.underlying35 h
 exact⟨z,by simpa using hz⟩
structure SlR (W:World) {α:Type} [Inhabited α] (v:Value) (sz:Nat) (c:α→Nat→V) (b:Nat) (uu:V) (l:List α):Prop where
 ab:absV W.heap.size sz v=some uu
 ro:Ro (hW W) uu sz c l
 th:Th (hW W) uu
 le:l.length≤b
theorem getq {α:Type} [Inhabited α] {l:List α} {i:Nat} (hi:i<l.length):l[i]?=some (gt l i):=by rw[gt_lt hi,List.getElem?_eq_getElem hi]
theorem pairs_at (hb0:∃e hi c,(hW W).t.get 0=some (.ro (some 0) e hi c)) (h:DataW.trod enc Tryz.prog W base (fun _=>true) held n 23 [v]=some y):∃uu l,SlR W v 2 pcell (Rows.uptoBulk y.1) uu l:=by
 rcases open_rows Tryz.underlying23 Tryz.underlying39 (by kernel_rfl) (by kernel_rfl) (by decide) h with⟨rfl,_⟩ | ⟨a,len,cap,D,sp,rfl,hcap,hy,hfull,hi⟩
 ·exact⟨.ns,[],rfl,.nil,.ns,Nat.zero_le _⟩
 ·have hex:∀i,i<len→∃x:Int × Int,W.cell? (a.add (i*2+0))=some (.int .i64 x.1)∧W.cell? (a.add (i*2+1))=some (.int .i64 x.2):=fun i hil=>by
   obtain⟨ys,m,_,_,hf⟩:=hi i hil
   obtain⟨u0,y0,c0,_,t0⟩:=hf 0 _ rfl
   obtain⟨u1,y1,c1,_,t1⟩:=hf 1 _ rfl
   obtain⟨z0,rfl⟩:=int_at t0
   obtain⟨z1,rfl⟩:=int_at t1
   exact⟨(z0,z1),c0,c1⟩
  obtain⟨l,hl,hp⟩:=choose_list hex
  obtain⟨uu,h1,h2,h3⟩:=row_of (sz:=2) (c:=pcell) hb0 hl hcap hfull fun i hil k hk=>by
   have:=hp i _ (getq (by omega))
   match k,hk with
   | 0,_=>exact⟨_,this.1,rfl⟩
   | 1,_=>exact⟨_,this.2,rfl⟩
  exact⟨uu,l,h1,h2,h3,by rw[hl,hy];exact slice_len _ _ _⟩
instance:Inhabited Ev_:=⟨⟨0,0,0,0,0⟩⟩
theorem events_at (hb0:∃e hi c,(hW W).t.get 0=some (.ro (some 0) e hi c)) (h:DataW.trod enc Tryz.prog W base (fun _=>true) held n 22 [v]=some y):∃uu l,SlR W v 5 ecell (Rows.uptoBulk y.1) uu l:=by
 rcases open_rows Tryz.underlying22 Tryz.underlying37 (by kernel_rfl) (by kernel_rfl) (by decide) h with⟨rfl,_⟩ | ⟨a,len,cap,D,sp,rfl,hcap,hy,hfull,hi⟩
 ·exact⟨.ns,[],rfl,.nil,.ns,Nat.zero_le _⟩
 ·have hex:∀i,i<len→∃x:Ev_,∀k,k<5→∃uu,W.cell? (a.add (i*5+k))=some uu∧absV W.heap.size 1 uu=some (ecell x k):=fun i hil=>by
   obtain⟨ys,m,_,_,hf⟩:=hi i hil
   obtain⟨u0,y0,c0,_,t0⟩:=hf 0 _ rfl
   obtain⟨u1,y1,c1,_,t1⟩:=hf 1 _ rfl
   obtain⟨u2,y2,c2,_,t2⟩:=hf 2 _ rfl
   obtain⟨u3,y3,c3,_,t3⟩:=hf 3 _ rfl
   obtain⟨u4,y4,c4,_,t4⟩:=hf 4 _ rfl
   obtain⟨z0,rfl⟩:=int_at t0
   obtain⟨z1,rfl⟩:=int_at t1
   obtain⟨z2,rfl⟩:=int_at t2
   obtain⟨z3,rfl⟩:=u64_at t3
   obtain⟨z4,rfl⟩:=int_at t4
   refine⟨⟨z0,z1,z2,z3,z4⟩,fun k hk=>?_⟩
   match k,hk with
   | 0,_=>exact⟨_,c0,rfl⟩
   | 1,_=>exact⟨_,c1,rfl⟩
   | 2,_=>exact⟨_,c2,rfl⟩
   | 3,_=>exact⟨_,c3,rfl⟩
   | 4,_=>exact⟨_,c4,rfl⟩
  obtain⟨l,hl,hp⟩:=choose_list hex
  obtain⟨uu,h1,h2,h3⟩:=row_of (sz:=5) (c:=ecell) hb0 hl hcap hfull fun i hil k hk=>hp i _ (getq (by omega)) k hk
  exact⟨uu,l,h1,h2,h3,by rw[hl,hy];exact slice_len _ _ _⟩
set_option maxRecDepth 100000 in
theorem cells_i:Tryz.prog.cellsOf 3=1:=by kernel_rfl
set_option maxRecDepth 100000 in
theorem cells_is:Tryz.prog.cellsOf 27=1:=by kernel_rfl
theorem full_of {a:Addr} {cap:Nat} {X:Nat→Value} (h:∀i,i<cap→W.cell? (a.add i)=some (X i)):cap=0∨∃x,W.cell? a=some x:=by
 by_cases h0:cap=0
 ·exact .inl h0
 ·exact .inr ⟨_,h 0 (by omega)⟩
theorem rowI_at (hb0:∃e hi c,(hW W).t.get 0=some (.ro (some 0) e hi c)) (h:DataW.trod enc Tryz.prog W base (fun _=>true) held n 27 [v]=some y):∃uu l,SlR W v 1 icell (Rows.uptoBulk y.1) uu l:=by
 rcases Deep.open_slice1 Tryz.underlying27 cells_i h with⟨hcs,rfl⟩ | ⟨a,len,cap,m,n',X,D,Pl,hcs,_,hl,_,hmm,rfl,hi⟩
 ·obtain rfl:v=.slice none 0 0:=by simpa using hcs
  exact⟨.ns,[],rfl,.nil,.ns,Nat.zero_le _⟩
 ·have hmm:m=cap:=hmm
  subst hmm
  obtain rfl:v=.slice (some a) len m:=by simpa using hcs
  have hex:∀i,i<len→∃x:Int,W.cell? (a.add i)=some (.int .i64 x):=fun i hil=>by
   obtain⟨c0,t0⟩:=hi i (by omega)
   obtain⟨z0,hz⟩:=int_at t0
   exact⟨z0,by rw[c0,hz]⟩
  obtain⟨l,hll,hp⟩:=choose_list hex
  obtain⟨uu,h1,h2,h3⟩:=row_of (sz:=1) (c:=icell) hb0 hll hl (full_of fun i hi'=>(hi i hi').1) fun i hil k hk=>by
   have:=hp i _ (getq (by omega))
   obtain rfl:k=0:=by omega
   exact⟨_,by rw[Nat.mul_one];exact this,rfl⟩
  exact⟨uu,l,h1,h2,h3,by rw[hll];exact slice_len _ _ _⟩
theorem intss_at (hb0:∃e hi c,(hW W).t.get 0=some (.ro (some 0) e hi c)) (h:DataW.trod enc Tryz.prog W base (fun _=>true) held n 24 [v]=some y) :
  ∃uu vs ll,SlR W v 1 vcell (Rows.uptoBulk y.1) uu vs∧vs.length=ll.length∧∀i,i<ll.length→Ro (hW W) (gt vs i) 1 icell (gt ll i)∧(gt ll i).length≤Rows.uptoBulk y.1:=by
 rcases Deep.open_slice1 Tryz.underlying24 cells_is h with⟨hcs,rfl⟩ | ⟨a,len,cap,m,n',X,D,Pl,hcs,_,hl,_,hmm,rfl,hi⟩
 ·obtain rfl:v=.slice none 0 0:=by simpa using hcs
  exact⟨.ns,[],[],⟨rfl,.nil,.ns,Nat.zero_le _⟩,rfl,fun i hi=>absurd hi (Nat.not_lt_zero _)⟩
 ·have hmm:m=cap:=hmm
  subst hmm
  obtain rfl:v=.slice (some a) len m:=by simpa using hcs
  have hex:∀i,i<len→∃x:V × List Int,W.cell? (a.add i)=some (X i)∧absV W.heap.size 1 (X i)=some x.1∧Ro (hW W) x.1 1 icell x.2∧x.2.length≤Rows.uptoBulk (D i):=fun i hil=>by
   obtain⟨c0,t0⟩:=hi i (by omega)
   obtain⟨uu,l,hr⟩:=rowI_at hb0 t0
   exact⟨(uu,l),c0,hr.ab,hr.ro,hr.le⟩
  obtain⟨l,hll,hp⟩:=choose_list hex
  have hgt:∀i,i<l.length→gt (l.map (·.1)) i=(gt l i).1∧gt (l.map (·.2)) i=(gt l i).2:=fun i hi=>by
   constructor
   ·rw[gt_lt (by simpa using hi),gt_lt hi]
    simp
   ·rw[gt_lt (by simpa using hi),gt_lt hi]
    simp
  obtain⟨uu,h1,h2,h3⟩:=row_of (l:=l.map (·.1)) (sz:=1) (c:=vcell) hb0 (by simpa using hll) hl (full_of fun i hi'=>(hi i hi').1) fun i hil k hk=>by
   have:=hp i _ (getq (by omega))
   obtain rfl:k=0:=by omega
   exact⟨_,by rw[Nat.mul_one];exact this.1,by rw[(hgt i (by omega)).1];exact this.2.1⟩
  refine⟨uu,l.map (·.1),l.map (·.2),⟨h1,h2,h3,by rw[List.length_map,hll];exact slice_len _ _ _⟩,by simp,fun i hil=>?_⟩
  have hil:i<l.length:=by simpa using hil
  have:=hp i _ (getq hil)
  rw[(hgt i hil).1,(hgt i hil).2]
  exact⟨this.2.2.1,Nat.le_trans this.2.2.2 (slice_part _ _ (by omega))⟩
end
end Go.Proofs.YtkcdehffcddciaaGreatDoor.Vm
namespace Go.Proofs.YtkcdehffcddciaaGreatDoor.BuffersAllowed
open Go Go.ChangeShapes Go.WideShapes Go.ChangeAt Go.RowKit Vm
theorem own:ownKnob Tryz.prog.godebug=none:=by kernel_rfl
def laidL:List (String × DataW Unit):=[("math/bits.deBruijn64tab",Rows.laid_math_bits_deBruijn64tab)]
theorem tab_data:(Rows.laid_math_bits_deBruijn64tab:DataW Unit)=Lib.tabData .u8 Vm.tabZ:=by kernel_rfl
theorem tab_of {W:World} (hL:laidMetH Tryz.prog laidL W):Vm.TabW W:=by
 have hL':laidMet Tryz.prog (("math/bits.deBruijn64tab",Lib.tabData .u8 Vm.tabZ) :: []) W:=by
  rw[←tab_data]
  exact hL
 have hg:Tryz.prog.globalNamed "math/bits.deBruijn64tab" = some 0:=by kernel_rfl
 have h:=Lib.tabIs_of_head hg (t:=387) (e:=5) (n:=64) (by kernel_rfl) (by kernel_rfl) (by kernel_rfl) (by kernel_rfl) (by kernel_rfl) hL'
 exact fun j hj=>h.cell hg j (by rw[Vm.tab_len];exact hj)
noncomputable def laidWorld (os : Os) : World :=
  let w0 := World.holding Tryz.prog os ⟨#[], #[], []⟩
  { w0 with heap := w0.heap.modify 0 fun
    | .cells _ t frozen => .cells (Vm.tabZ.map fun z => Value.int .u8 z).toArray t frozen
    | o => o }
theorem laid_met (os:Os) (args:Array Value):laidMet Tryz.prog laidL ((laidWorld os).forCall (fun _ _=>0) ⟨#[],args,[]⟩).memory :=
 laidMet_of_run' 8 (by kernel_rfl) (by kernel_rfl)
theorem tab_h {W:World} (hT:Vm.TabW W):TabH (hW W)∧(∃e hi c,(hW W).t.get 0=some (.ro (some 0) e hi c))∧0<W.heap.size:=by
 have key:∀o,o<64→∃cs e fr,W.heap[0]?=some (.cells cs e fr)∧cs[o]?=some (.int .u8 (tabZ.getD o 0)):=fun o ho=>by
  have h0:=hT o ho
  unfold World.cell? at h0
  split at h0
  ·rename_i cs e fr hx
   exact⟨cs,e,fr,hx,by simpa using h0⟩
  ·cases h0
 obtain⟨cs,e,fr,hx,h63⟩:=key 63 (by omega)
 have hr:=hW_row hx
 refine⟨⟨_,_,hr,(Array.getElem?_eq_some_iff.1 h63).1,fun o ho=>?_⟩,⟨_,_,_,hr⟩,(Array.getElem?_eq_some_iff.1 hx).1⟩
 obtain⟨cs',e',fr',hx',h2⟩:=key o ho
 rw[hx]at hx'
 cases hx'
 rw[hW_cells,h2]
 rfl
set_option maxRecDepth 1000000 in
theorem laidOut:laidOutB Tryz.prog=true:=by kernel_rfl
theorem list8 {α:Type} {l:List α} (h:l.length=8):∃a b c d e f g i,l = [a,b,c,d,e,f,g,i]:=by
 match l,h with
 | [a,b,c,d,e,f,g,i],_=>exact⟨a,b,c,d,e,f,g,i,rfl⟩
set_option maxRecDepth 1000000 in
theorem contract (H:Type) (enc:TypeId × Value→H) (W:World) (base:Nat) (args:Array Value) (ds gs:List (DataW H)) (before:List MemPlace)
  (hval:∀(j:Nat) t v,Tryz.f6.params[j]?=some t→args[j]?=some v→Value.okWide Tryz.prog W .any base t v)
  (hcond:Rows.uptoSmall H (ds++gs)=true)
  (hW':DataW.Whole enc Tryz.prog Tryz.f6.params.toList Rows.buffersAllowedSpec.vars false W args.toList ds gs before) (hL:laidMetH Tryz.prog laidL W) :
  Calls Tryz.prog 6 args W fun e W'=>∃v,e=.returned v∧Rows.buffersAllowedSpec.post enc Tryz.prog Tryz.f6 false true false false W args v W':=by
 have hW2:=hW'
 obtain⟨p,q,hA0,hV,rfl,hfz,hnd⟩:=hW'
 have hA:DataW.TrodAll enc Tryz.prog W 0 (fun _=>true) true Tryz.f6.params.toList args.toList ds p:=hA0
 rw[Tryz.params6]at hA hval
 obtain⟨v0,v1,d0,d1,p0,p1,rfl,rfl,rfl,h0,h1⟩:=trodAll_two hA
 obtain⟨rfl,rfl⟩:=trodVars_none hV
 obtain⟨hT,hb0,hpos⟩:=tab_h (tab_of hL)
 have hb:Rows.uptoBulkAll ([d0,d1]++([]:List (DataW H)))≤1048576:=of_decide_eq_true hcond
 simp only[List.append_nil,Rows.uptoBulkAll]at hb
 have h0k:=h0
 have h1k:=h1
 obtain⟨cs,ys,n,rfl,hcs,hd0,hf⟩:=open_parts Tryz.underlying26 (by kernel_rfl) (by kernel_rfl) (hval 0 26 v0 rfl rfl) h0
 obtain⟨x0,y0,c0,q0,t0⟩:=hf 0 _ rfl
 obtain⟨x1,y1,c1,q1,t1⟩:=hf 1 _ rfl
 obtain⟨x2,y2,c2,q2,t2⟩:=hf 2 _ rfl
 obtain⟨x3,y3,c3,q3,t3⟩:=hf 3 _ rfl
 obtain⟨x4,y4,c4,q4,t4⟩:=hf 4 _ rfl
 obtain⟨x5,y5,c5,q5,t5⟩:=hf 5 _ rfl
 obtain⟨x6,y6,c6,q6,t6⟩:=hf 6 _ rfl
 obtain⟨x7,y7,c7,q7,t7⟩:=hf 7 _ rfl
 obtain⟨z0,rfl⟩:=int_at t0
 obtain⟨u1,l1,r1⟩:=events_at hb0 t1
 obtain⟨u2,l2,r2⟩:=pairs_at hb0 t2
 obtain⟨u3,vs3,l3,r3,hl3,hi3⟩:=intss_at hb0 t3
 obtain⟨u4,l4,r4⟩:=pairs_at hb0 t4
 obtain⟨u5,l5,r5⟩:=pairs_at hb0 t5
 obtain⟨u6,l6,r6⟩:=pairs_at hb0 t6
 obtain⟨u7,l7,r7⟩:=pairs_at hb0 t7
 obtain⟨n1,h1'⟩:=h1
 obtain⟨a1,len1,cap1,rfl⟩:=okWide_slice Tryz.underlying27 (hval 1 27 v1 rfl rfl)
 obtain⟨u8,l8,r8⟩:=rowI_at hb0 h1'
 have e1:=agg_part q1
 have e2:=agg_part q2
 have e3:=agg_part q3
 have e4:=agg_part q4
 have e5:=agg_part q5
 have e6:=agg_part q6
 have e7:=agg_part q7
 rw[←hd0]at e1 e2 e3 e4 e5 e6 e7
 have b1:=r1.le
 have b2:=r2.le
 have b3:=r3.le
 have b4:=r4.le
 have b5:=r5.le
 have b6:=r6.le
 have b7:=r7.le
 have b8:l8.length≤Rows.uptoBulk d1:=r8.le
 have hG:GrAt (hW W) [.i .i64 z0,u1,u2,u3,u4,u5,u6,u7] ⟨z0,l1,l2,l3,l4,l5,l6,l7⟩ :=
  ⟨u1,u2,u3,u4,u5,u6,u7,rfl,r1.ro,r2.ro,⟨vs3,r3.ro,hl3,fun i hi=>(hi3 i hi).1⟩,r4.ro,r5.ro,r6.ro,r7.ro⟩
 have hth:∀v∈([.i .i64 z0,u1,u2,u3,u4,u5,u6,u7]:List V),Th (hW W) v:=fun v hv=>by
  simp only[List.mem_cons,List.not_mem_nil,or_false]at hv
  rcases hv with rfl | rfl | rfl | rfl | rfl | rfl | rfl | rfl
  ·exact .i
  ·exact r1.th
  ·exact r2.th
  ·exact r3.th
  ·exact r4.th
  ·exact r5.th
  ·exact r6.th
  ·exact r7.th
 have hrow:∀c,c<l3.length→(gt l3 c).length≤10000000:=fun c hc=>by have:=(hi3 c hc).2;omega
 have hTP:TabP (hW W):=by
  obtain⟨hi,c,g1,g2,g3⟩:=hT
  exact⟨⟨hi,c,g1,g2,g3⟩,hpos⟩
 have hlaw:=allowed_law hW_wf hTP hG hth ⟨show l1.length≤_ by omega,show l2.length≤_ by omega,show l3.length≤_ by omega,hrow,show l4.length≤_ by omega,show l5.length≤_ by omega,show l6.length≤_ by omega,show l7.length≤_ by omega⟩
  r8.ro (by omega) fun h' k=>lives_fx (by
   obtain⟨hi,c,g1,g2,g3⟩:=hT
   exact⟨hi,c,by rw[k.old.get 0 hpos];exact g1,g2,g3⟩)
 obtain⟨w0,w1,w2,w3,w4,w5,w6,w7,hcl⟩:=list8 (l:=cs.toList) (by rw[Array.length_toList,hcs];rfl)
 have hget:∀(j:Nat) (x:Value),cs[j]?=some x→[w0,w1,w2,w3,w4,w5,w6,w7][j]?=some x:=fun j x hx=>by rw[←hcl,Array.getElem?_toList];exact hx
 obtain rfl:w0=.int .i64 z0:=Option.some.inj (hget 0 _ c0)
 obtain rfl:w1=x1:=Option.some.inj (hget 1 _ c1)
 obtain rfl:w2=x2:=Option.some.inj (hget 2 _ c2)
 obtain rfl:w3=x3:=Option.some.inj (hget 3 _ c3)
 obtain rfl:w4=x4:=Option.some.inj (hget 4 _ c4)
 obtain rfl:w5=x5:=Option.some.inj (hget 5 _ c5)
 obtain rfl:w6=x6:=Option.some.inj (hget 6 _ c6)
 obtain rfl:w7=x7:=Option.some.inj (hget 7 _ c7)
 have hrel:RelL idS W.heap.size [.agg [.i .i64 z0,u1,u2,u3,u4,u5,u6,u7],u8] [.agg cs,.slice a1 len1 cap1]:=by
  refine .cons _ _ _ _ (.agg _ _ ?_) (.cons _ _ _ _ (absV_rel hpos r8.ab).1 .nil)
  rw[hcl]
  exact .cons _ _ _ _ (.i _ _) (.cons _ _ _ _ (absV_rel hpos r1.ab).1 (.cons _ _ _ _ (absV_rel hpos r2.ab).1 (.cons _ _ _ _ (absV_rel hpos r3.ab).1 (.cons _ _ _ _ (absV_rel hpos r4.ab).1
   (.cons _ _ _ _ (absV_rel hpos r5.ab).1 (.cons _ _ _ _ (absV_rel hpos r6.ab).1 (.cons _ _ _ _ (absV_rel hpos r7.ab).1 .nil)))))))
 have hlt:∀x∈p0++p1++[],x.block<W.heap.size:=fun x hx=>by simpa using hW2.lt x (by simpa using hx)
 refine(lift_calls hpos hlaw hrel).mono fun e W' ⟨he,hg⟩=>?_
 subst he
 have t0':=Below.trod laidOut (by kernel_rfl) (of_decide_eq_true (by kernel_rfl)) h0k hg (fun x hx=>hlt x (by simp[hx]))
 have t1':=Below.trod laidOut (by kernel_rfl) (of_decide_eq_true (by kernel_rfl)) h1k hg (fun x hx=>hlt x (by simp[hx]))
 simp only[List.append_nil]at hW2
 exact⟨_,rfl,_,_,_,[],_,[],hW2,trodAll_cons_mk (shut_bool Tryz.underlying4 _) trodAll_mk0,trodAll_mk2 t0' t1',rfl,hg.frame _,fun h=>by cases h⟩
def arg0:Array Value:=#[.agg #[.int .i64 0,.slice none 0 0,.slice none 0 0,.slice none 0 0,.slice none 0 0,.slice none 0 0,.slice none 0 0,.slice none 0 0],.slice none 0 0]
theorem reads (os:Os) {H:Type} (enc:TypeId × Value→H):∃places,DataW.whole enc Tryz.prog ((laidWorld os).forCall (fun _ _=>0) ⟨#[],arg0,[]⟩).memory Tryz.f6.params.toList Rows.buffersAllowedSpec.vars false arg0.toList 8=some ([.agg [.lit (.int .i64 0),.nil,.nil,.nil,.nil,.nil,.nil,.nil],.nil],[],places) :=
 ⟨[],by kernel_rfl⟩
set_option maxRecDepth 100000 in
theorem lifted (os:Os) (started:os.Started) (H:Type) (enc:TypeId × Value→H) (F:Stop.Interp) :
  ReturnsInHanded {} Tryz.checked os 6 .any ((Rows.OpenSpec.upto Rows.buffersAllowedSpec).preRow enc Tryz.prog Tryz.f6 Rows.buffersAllowedUptoRow.domain false Rows.buffersAllowedUptoRow.laid) (((Rows.OpenSpec.upto Rows.buffersAllowedSpec).at F).post enc Tryz.prog Tryz.f6 false true false false):=by
 obtain⟨places,hx⟩:=reads os enc
 refine returnsInHanded_of_row (C:=Tryz.checked) (s:=Rows.OpenSpec.upto Rows.buffersAllowedSpec) own started (by kernel_rfl) Tryz.func6
  (witness_row_at (enc:=enc) (C:=Tryz.checked) false (laidWorld os) arg0 rfl (by kernel_rfl) (by kernel_rfl) (by kernel_rfl)
   (OpenSpec.preRow_of_cond 8 hx (by kernel_rfl) (fun k hk=>by cases hk;kernel_rfl) (by kernel_rfl) (laid_met os arg0))) ?_
 intro W base args ds gs before hval hW _ hk _ hL _ _
 exact contract H enc W base args ds gs before hval (hk _ rfl) hW hL
theorem plain (f:FuncId) (fn:Func) (hf:Tryz.pinned.checked.prog.funcNamed "sextant/sextantlaw30.BuffersAllowed" = some f) (hfn:Tryz.pinned.checked.prog.funcs[f]?=some fn) :
  false=Tryz.pinned.checked.prog.looks []∧∀(j:Nat) t,fn.params[j]?=some t→Tryz.pinned.checked.prog.wantsStandIn t=false:=by
 obtain rfl:f=6:=Option.some.inj ((show Tryz.prog.funcNamed "sextant/sextantlaw30.BuffersAllowed" = some 6 by kernel_rfl).symm.trans hf) |>.symm
 obtain rfl:fn=Tryz.f6:=(Option.some.inj (Tryz.func6.symm.trans hfn)).symm
 refine⟨by kernel_rfl,fun j t ht=>?_⟩
 rw[Tryz.params6]at ht
 match j,ht with
 | 0,ht =>
  obtain rfl:t=26:=(Option.some.inj ht).symm
  exact(show Tryz.prog.wantsStandIn 26=false by kernel_rfl)
 | 1,ht =>
  obtain rfl:t=27:=(Option.some.inj ht).symm
  exact(show Tryz.prog.wantsStandIn 27=false by kernel_rfl)
 | j+2,ht=>simp at ht
end Go.Proofs.YtkcdehffcddciaaGreatDoor.BuffersAllowed
