/- The small machine's operations do what the model's do: memory that is written, made. -/
import Derived.Test.YtkcdehffcddciaaGreatDoorQ03
import Derived.Deep.AppendSrc
import Derived.Laws.IdiomCopy
namespace Go.Proofs.YtkcdehffcddciaaGreatDoor.Vm
open Go Go.RowKit
section
variable {A:Sub} {h:H} {w:World} {P:Program}
def splice (cs:Array Value) (o:Nat) (ys:List Value):Array Value:=(cs.toList.take o++ys++cs.toList.drop (o+ys.length)).toArray
theorem splice_size {cs:Array Value} {o:Nat} {ys:List Value} (hl:o+ys.length≤cs.size):(splice cs o ys).size=cs.size:=by
 simp[splice];omega
theorem splice_get {cs:Array Value} {o:Nat} {ys:List Value} (hl:o+ys.length≤cs.size) (j:Nat):(splice cs o ys)[j]?=if o≤j∧j<o+ys.length then ys[j-o]? else cs[j]?:=by
 have hlen:(cs.toList.take o).length=o:=by simp;omega
 unfold splice
 rw[List.getElem?_toArray]
 by_cases h1:j<o
 ·rw[if_neg (by omega),List.append_assoc,List.getElem?_append_left (by omega),List.getElem?_take_of_lt h1]
  simp
 ·by_cases h2:j<o+ys.length
  ·rw[if_pos ⟨by omega,h2⟩,List.getElem?_append_left (by rw[List.length_append,hlen];omega),List.getElem?_append_right (by omega),hlen]
  ·rw[if_neg (by omega),List.getElem?_append_right (by rw[List.length_append,hlen];omega),List.length_append,hlen,List.getElem?_drop]
   rw[show o+ys.length+(j-(o+ys.length))=j by omega]
   simp
theorem setCells_row {g o:Nat} {cs:Array Value} {e:TypeId} (hb:w.heap[g]?=some (.cells cs e (0,0))) (ys:List Value) (hl:o+ys.length≤cs.size) (h1:∀v∈ys,v.oneCell'=true):w.setCells g o ys=w.setRow g (splice cs o ys):=by
 have e1:=run_storeCells_cells (P:=default) g o ys 0 w (fun j hj=>by rw[cell_of hb,Array.getElem?_eq_getElem (by omega)];rfl) (fun j hj=>frozen_of hb _) h1
 have e2:=run_storeCells_at (P:=default) g o e ys 0 cs w hb (by omega) h1
 have e3:=e1.symm.trans e2
 simpa [splice]using e3
theorem cells_splice {n hi hi' i o:Nat} {kk:Nat × Nat} {e:TypeId} {p:Bool} {c:Tr V} {cs:Array Value} {l:List V} {ys:List Value} (hc:∀o,o<hi→∃v y,c.get o=some v∧cs[kk.2+o]?=some y∧Rel A n v y∧v.one=true)
  (hk:p=true→cs.size=kk.1) (hl:RelL A n l ys) (ho:allOne l=true) (hsz:kk.2+o+ys.length≤cs.size) (hz:kk.2+hi'≤cs.size) (hhi:∀j,j<hi'→j<hi∨(o≤j∧j<o+l.length)):ORel A n i kk (.cells e hi' p (Tr.putsL l c o)) (.cells (splice cs (kk.2+o) ys) e (0,0)):=by
 refine⟨_,rfl,fun hp=>by rw[splice_size hsz];exact hk hp,by rw[splice_size hsz];exact hz,fun j hj=>?_⟩
 rw[Tr.get_putsL,splice_get hsz,hl.length]
 by_cases hin:o≤j∧j<o+l.length
 ·rw[if_pos hin,if_pos (by omega),show kk.2+j-(kk.2+o)=j-o by omega]
  have h1:l[j-o]?=some l[j-o]:=List.getElem?_eq_getElem (by omega)
  obtain⟨y,hy,hr⟩:=hl.get h1
  exact⟨_,y,h1,hy,hr,allOne_get ho h1⟩
 ·rw[if_neg hin,if_neg (by omega)]
  rcases hhi j hj with h1 | h1
  ·exact hc j h1
  ·exact absurd h1 hin
theorem storeL_some {β:Type} {b o:Nat} {l:List V} {ys:List Value} {K:H→Option β} {r:β} (hm:Mt A h w) (hl:RelL A h.next l ys) (hh:storeL h b o l K=some r):∃h' w',K h'=some r∧h'.next=h.next∧Ev A h w A h' w' ∧
  (storeCells ⟨A.ι b,(A.κ b).2+o,none⟩ ys).run P w=.ok () w'∧(∀j,j<ys.length→(w.cell? ⟨A.ι b,(A.κ b).2+o+j,none⟩).isSome=true)∧(∀j,j<ys.length→w.frozen? ⟨A.ι b,(A.κ b).2+o+j,none⟩=false)∧(∀v∈ys,v.oneCell'=true)∧w'=w.setCells (A.ι b) ((A.κ b).2+o) ys:=by
 unfold storeL at hh
 obtain⟨e,hi,p,c,hb,hh⟩:=rowK_some hh
 obtain⟨hle,hh⟩:=bb_some hh
 obtain⟨hone,hh⟩:=bb_some hh
 rw[Tr.putL_eq,Tr.put_set]at hh
 obtain⟨cs,h1,h2,h3,h4⟩:=hm.row hb
 have hle:o+l.length≤hi:=Nat.le_of_ble_eq_true hle
 have hsz:(A.κ b).2+o+ys.length≤cs.size:=by rw[hl.length];omega
 have h1c:=hl.one hone
 have hrow:=setCells_row h1 ys hsz h1c
 refine⟨_,_,hh,rfl,Ev.upd hm hb rfl (cells_splice h3 h2 hl hone hsz h4 (fun j hj=>.inl hj)) (setRow_heap w _ cs _ _ _ h1) (fun k hk=>setRow_other w _ k _ hk) (by simp) rfl rfl rfl,?_,fun j hj=>?_,fun j _=>frozen_of h1 _,h1c,hrow.symm⟩
 ·have:=run_storeCells_at (P:=P) (A.ι b) ((A.κ b).2+o) e ys 0 cs w h1 (by omega) h1c
  simpa [splice]using this
 ·rw[cell_of h1,Array.getElem?_eq_getElem (by omega)];rfl
theorem store_ok {ty:TypeId} {x y:Operand} {rx ry:Rd} {n:Nat} {C:CallF} (hx:rdB x=some rx) (hy:rdB y=some ry) (hn:sizeB P ty=some n) :
  OpOk P C (.store ty x y) ⟨fun _ t h K=>rdK t rx fun a=>rdK t ry fun x=>asP a fun pt o=>bb (Nat.beq x.cells.length n) (storeL h pt o x.cells fun h=>K .u h)⟩:=by
 intro o ho A h w N t a K q hm ht hk
 simp only[rdK_eq]at hk
 obtain⟨b,o',hv,hk⟩:=asP_some hk
 obtain⟨hlen,hk⟩:=bb_some hk
 have hr:=rd_rel ht hx
 rw[hv]at hr
 obtain⟨h1,_⟩:=hr.of_p
 have hcl:=(rd_rel ht hy).cells
 obtain⟨h',w',h2,h3,h4,h5,_⟩:=storeL_some (P:=P) hm hcl hk
 refine⟨_,_,h2,.skip (w':=w') ?_ ⟨A,h4,.u⟩⟩
 have hsz:(a.eval y).cells.size=n:=by
  have:=hcl.length
  rw[Array.length_toList]at this
  rw[this]
  exact Nat.eq_of_beq_eq_true hlen
 simp only[execOp,ho,h1,Instr.storeAt,Instr.sureAddr,storeVar,Sem.run_bind,Sem.run_pure,Result.andThen_ok,run_size hn,hsz,ne_eq,not_true,if_false,h5]
/-! ### New blocks -/
theorem newO_some {β:Type} {x:O} {K:Nat→H→Option β} {r:β} (hh:newO h x K=some r):K h.next ⟨h.next+1,h.t.set h.next (some x)⟩=some r:=by
 unfold newO at hh
 rw[Tr.put_set,fN_eq]at hh
 exact hh
theorem newRow_some {β:Type} {e:TypeId} {l:List V} {p:Bool} {K:Nat→H→Option β} {r:β} (hh:newRow h e l p K=some r):allOne l=true∧K h.next ⟨h.next+1,h.t.set h.next (some (.cells e l.length p (Tr.putsL l .e 0)))⟩=some r:=by
 unfold newRow at hh
 obtain⟨h1,hh⟩:=bb_some hh
 rw[Tr.putL_eq,fN_eq]at hh
 exact⟨h1,newO_some hh⟩
theorem row_new {n i kk:Nat} {e:TypeId} {l:List V} {ys zs:List Value} {p:Bool} (hl:RelL A n l ys) (ho:allOne l=true) (hk:p=true→(ys++zs).length=kk):ORel A n i (kk,0) (.cells e l.length p (Tr.putsL l .e 0)) (.cells (ys++zs).toArray e (0,0)):=by
 refine⟨_,rfl,fun hp=>by simpa using hk hp,by simp[hl.length],fun j hj=>?_⟩
 have h1:l[j]?=some l[j]:=List.getElem?_eq_getElem hj
 obtain⟨y,hy,hr⟩:=hl.get h1
 refine⟨l[j],y,?_,?_,hr,allOne_get ho h1⟩
 ·rw[Tr.get_putsL,if_pos ⟨Nat.zero_le _,by omega⟩]
  exact h1
 ·rw[Nat.zero_add,List.getElem?_toArray,List.getElem?_append_left (by rw[hl.length];exact hj)]
  exact hy
theorem row_new0 {n i kk:Nat} {e:TypeId} {l:List V} {ys:Array Value} (hl:RelL A n l ys.toList) (ho:allOne l=true):ORel A n i (kk,0) (.cells e l.length false (Tr.putsL l .e 0)) (.cells ys e (0,0)):=by
 have:=row_new (i:=i) (kk:=kk) (e:=e) (p:=false) (zs:=[]) hl ho (fun h=>by cases h)
 simpa using this
theorem run_newVar (e:TypeId) (x:Value):(newVar e x).run P w=.ok ⟨w.heap.size,0,none⟩ (w.alloc (.cells x.cells e)):=by
 rfl
theorem ptr_new (A:Sub) (n g k:Nat):Rel (A.ext n g (k,0)) (n+1) (.p n 0) (.pointer (some ⟨g,0,none⟩)):=by
 have:Rel (A.ext n g (k,0)) (n+1) (.p n 0) (.pointer (some ⟨(A.ext n g (k,0)).ι n,((A.ext n g (k,0)).κ n).2+0,none⟩)):=.p n 0 (Nat.lt_succ_self _)
 simpa [Sub.ext]using this
theorem sl_new (A:Sub) (n g k len cap sz:Nat):Rel (A.ext n g (k,0)) (n+1) (.sl n 0 len cap true sz) (.slice (some ⟨g,0,none⟩) len cap):=by
 have:Rel (A.ext n g (k,0)) (n+1) (.sl n 0 len cap true sz) (.slice (some ⟨(A.ext n g (k,0)).ι n,0,none⟩) len cap):=.slk n 0 len cap sz _ (Nat.lt_succ_self _) (.inl (by simp[Sub.ext]))
 simpa [Sub.ext]using this
theorem alloc_ok {e:TypeId} {z:V} {C:CallF} (hz:zeroB P e=some z):OpOk P C (.alloc e) ⟨fun _ _ h K=>newRow h e z.cells false fun b h=>K (.p b 0) h⟩:=by
 intro o ho A h w N t a K q hm ht hk
 obtain⟨x,h1,h2⟩:=run_zero (w:=w) hz
 obtain⟨h3,hk⟩:=newRow_some hk
 have hr:Rel A h.next z x:=ofVal_rel h2
 refine⟨_,_,hk,.value (x:=.pointer (some ⟨w.heap.size,0,none⟩)) (w':=w.alloc (.cells x.cells e)) ?_ ⟨_,Ev.new (k:=(0,0)) hm (row_new0 hr.cells h3),ptr_new A h.next w.heap.size 0⟩⟩
 simp only[execOp,ho,Instr.alloc,Sem.run_bind,Sem.run_pure,Result.andThen_ok,h1,run_newVar]
theorem box_ok {e:TypeId} {x:Operand} {r:Rd} {C:CallF} (hx:rdB x=some r):OpOk P C (.box e x) ⟨fun _ t h K=>rdK t r fun x=>newRow h e x.cells false fun b h=>K (.p b 0) h⟩:=by
 intro o ho A h w N t a K q hm ht hk
 simp only[rdK_eq]at hk
 obtain⟨h3,hk⟩:=newRow_some hk
 have hr:=rd_rel ht hx
 refine⟨_,_,hk,.value (x:=.pointer (some ⟨w.heap.size,0,none⟩)) (w':=w.alloc (.cells (a.eval x).cells e)) ?_ ⟨_,Ev.new (k:=(0,0)) hm (row_new0 hr.cells h3),ptr_new A h.next w.heap.size 0⟩⟩
 simp only[execOp,ho,Instr.box,Sem.run_bind,Sem.run_pure,Result.andThen_ok,run_newVar]
/-! ### Parts -/
theorem elem_und {t e:TypeId} (he:elemB P t=some e):P.underlying t=some (.slice e):=by
 unfold elemB at he
 split at he
 ·injection he with he;subst he;assumption
 ·cases he
theorem cells_set {n:Nat}:∀(v:List V) (x:List Value) (l:List V) (xs:List Value) (off:Nat),RelL A n v x→RelL A n l xs→RelL A n (l.take off++(v++l.drop (off+v.length))) (xs.take off++(x++xs.drop (off+x.length))):=fun v x l xs off h1 h2=>by
 rw[h1.length]
 exact(h2.take off).append (h1.append (h2.drop _))
theorem foldl_set:∀(x:List Value) (k:Nat) (off:Nat) (cs:Array Value),off+k+x.length≤cs.size→(x.zipIdx k).foldl (fun cs (p:Value × Nat)=>cs.setIfInBounds (off+p.2) p.1) cs=(cs.toList.take (off+k)++(x++cs.toList.drop (off+k+x.length))).toArray
 | [],k,off,cs,_=>by simp
 | y :: x,k,off,cs,h=>by
  simp only[List.length_cons]at h
  rw[List.zipIdx_cons,List.foldl_cons,foldl_set x (k+1) off _ (by simp;omega)]
  simp only[Array.toList_setIfInBounds]
  congr 1
  rw[show off+(k+1)=off+k+1 by omega,List.take_set,List.drop_set_of_lt (by omega)]
  have hlt:off+k<cs.toList.length:=by simp;omega
  rw[List.take_add_one,List.getElem?_eq_getElem hlt]
  simp only[Option.toList_some,List.length_cons]
  rw[List.set_append_right _ _ (by simp;omega)]
  have e0:off+k-(cs.toList.take (off+k)).length=0:=by simp;omega
  rw[e0]
  simp only[List.set_cons_zero,List.append_assoc,List.cons_append,List.nil_append]
  rw[show off+k+1+x.length=off+k+(x.length+1) by omega]
theorem fill_rel {n:Nat}:∀(ps:List (Nat × Nat × V)) (qs:List (Nat × Value)) (place:Nat→Option (Nat × Nat)) (l:List V) (xs:List Value) (r:List V),RelL A n l xs→fillL l ps=some r →
  (List.length qs=ps.length∧∀(j:Nat) (p:Nat × Nat × V),ps[j]?=some p→∃q:Nat × Value,qs[j]?=some q∧place q.1=some (p.1,p.2.1)∧Rel A n p.2.2 q.2)→∃ys:List Value,Instr.fill place xs.toArray qs=some ys.toArray∧RelL A n r ys
 | [],qs,place,l,xs,r,hl,h,hq=>by
  injection h with h
  subst h
  have:qs = []:=List.eq_nil_of_length_eq_zero hq.1
  subst this
  exact⟨xs,rfl,hl⟩
 |(off,sz,v) :: ps,[],place,l,xs,r,hl,h,hq=>by simp at hq
 |(off,sz,v) :: ps,(i,x) :: qs,place,l,xs,r,hl,h,hq=>by
  simp only[fillL]at h
  obtain⟨hc,h⟩:=bb_some h
  simp only[Bool.and_eq_true]at hc
  have h1:v.cells.length=sz:=Nat.eq_of_beq_eq_true hc.1
  have h2:off+sz≤l.length:=Nat.le_of_ble_eq_true hc.2
  obtain⟨q,hq0,hq1,hq2⟩:=hq.2 0 (off,sz,v) rfl
  simp only[List.getElem?_cons_zero,Option.some.injEq]at hq0
  subst hq0
  have hvc:=Rel.cells hq2
  have hxl:x.cells.size=sz:=by have:=hvc.length;rw[Array.length_toList]at this;rw[this,h1]
  have hxs:=hl.length
  obtain⟨ys,hy1,hy2⟩:=fill_rel ps qs place _ _ r (cells_set v.cells x.cells.toList l xs off hvc hl) (by rw[h1];exact h) ⟨by simpa using hq.1,fun j p hp=>by
   obtain⟨q,hq3,hq4⟩:=hq.2 (j+1) p (by simpa using hp)
   exact⟨q,by simpa using hq3,hq4⟩⟩
  refine⟨ys,?_,hy2⟩
  simp only[Instr.fill,hq1]
  rw[if_neg (by rw[hxl];simp;omega)]
  have hz:x.cells.zipIdx.foldl (fun cs (p:Value × Nat)=>cs.setIfInBounds (off+p.2) p.1) xs.toArray=(x.cells.toList.zipIdx 0).foldl (fun cs (p:Value × Nat)=>cs.setIfInBounds (off+p.2) p.1) xs.toArray:=by
   rw[←Array.foldl_toList,Array.toList_zipIdx]
  have hf:=foldl_set x.cells.toList 0 off xs.toArray (by simp[hxl];omega)
  simp only[Nat.add_zero]at hf
  rw[show(fun cs (x:Value × Nat)=>match x with |(c,j)=>cs.setIfInBounds (off+j) c)=(fun (cs:Array Value) (p:Value × Nat)=>cs.setIfInBounds (off+p.2) p.1)from rfl,hz,hf]
  exact hy1
theorem parts_rel {n N:Nat} {t:Tr V} {a:Act} (ht:TRel A n N t a.tmps) {place:Nat→Option (Nat × Nat)}:∀(l:List (Nat × Operand)) (ps:List (Nat × Nat × Rd)) (vs:List (Nat × Nat × V)),partsB place l=some ps→rdP t ps=some vs →
  (l.map fun x=>(x.1,a.eval x.2)).length=vs.length∧∀(j:Nat) (p:Nat × Nat × V),vs[j]?=some p→∃q:Nat × Value,(l.map fun x=>(x.1,a.eval x.2))[j]?=some q∧place q.1=some (p.1,p.2.1)∧Rel A n p.2.2 q.2
 | [],ps,vs,h1,h2=>by
  unfold partsB at h1
  rw[mapO_nil h1]at h2
  unfold rdP at h2
  rw[mapO_nil h2]
  exact⟨rfl,fun j p hp=>by simp at hp⟩
 | x :: l,ps,vs,h1,h2=>by
  unfold partsB at h1
  obtain⟨y,q,h3,h4,rfl⟩:=mapO_cons h1
  obtain⟨p,hp,h3⟩:=ob_some h3
  obtain⟨r,hr,h3⟩:=ob_some h3
  injection h3 with h3
  subst h3
  unfold rdP at h2
  obtain⟨z,s,h5,h6,rfl⟩:=mapO_cons h2
  rw[rdK_eq]at h5
  injection h5 with h5
  subst h5
  obtain⟨h7,h8⟩:=parts_rel ht l q s h4 h6
  refine⟨by simpa using h7,fun j u9 hu=>?_⟩
  cases j with
  | zero =>
   simp only[List.getElem?_cons_zero,Option.some.injEq]at hu
   subst hu
   exact⟨_,rfl,hp,rd_rel ht hr⟩
  | succ j =>
   obtain⟨v,h9,h10⟩:=h8 j u9 (by simpa using hu)
   exact⟨v,by simpa using h9,h10⟩
theorem rep_rel {n:Nat} {l:List V} {xs:List Value} (h:RelL A n l xs):∀k,RelL A n (rep l k) (List.flatten (List.replicate k xs))
 | 0=>.nil
 | k+1=>by
  rw[List.replicate_succ,List.flatten_cons]
  exact h.append (rep_rel h k)
theorem flat_get {α:Type} (xs:List α) (hx:0<xs.length):∀(k j:Nat),j<k*xs.length→(List.flatten (List.replicate k xs))[j]?=xs[j % xs.length]?
 | 0,j,h=>by simp at h
 | k+1,j,h=>by
  rw[List.replicate_succ,List.flatten_cons]
  by_cases hj:j<xs.length
  ·rw[List.getElem?_append_left hj,Nat.mod_eq_of_lt hj]
  ·have h':=Nat.succ_mul k xs.length
   rw[Nat.succ_eq_add_one]at h'
   rw[List.getElem?_append_right (by omega),flat_get xs hx k (j-xs.length) (by omega),←Nat.mod_eq_sub_mod (by omega)]
theorem zero_rep (z:Array Value) (k sz:Nat) (hz:z.size=sz) (hs:0<sz):((Array.range (k*sz)).map fun i=>z[i % z.size]!)=(List.flatten (List.replicate k z.toList)).toArray:=by
 apply Array.ext'
 apply List.ext_getElem?
 intro j
 have hlen:(List.flatten (List.replicate k z.toList)).length=k*sz:=by simp[List.length_flatten,hz]
 rcases Nat.lt_or_ge j (k*sz)with hj | hj
 ·have hm:j % sz<z.size:=by rw[hz];exact Nat.mod_lt _ hs
  rw[show(List.flatten (List.replicate k z.toList)).toArray.toList=List.flatten (List.replicate k z.toList)from rfl,flat_get z.toList (by simp[hz];exact hs) k j (by simpa [hz]using hj)]
  simp[hz,hj]
  rw[getElem!_pos z (j % sz) hm,Array.getElem?_eq_getElem hm]
 ·rw[List.getElem?_eq_none (by simp;omega),List.getElem?_eq_none (by simp only[hlen];exact hj)]
end
section
variable {A:Sub} {h:H} {w:World} {P:Program} {β:Type}
theorem mkI_eq (k:IntKind) (n:Int) (K:V→Option β):mkI k n K=K (.i k n):=fI_eq n _
theorem mkB_eq (b:Bool) (K:V→Option β):mkB b K=K (.b b):=fB_eq b _
theorem arith_some {op : BinOp} {k : IntKind} {a c : Int} {K : V → Option β} {r : β} {n : Nat} (t : TypeId) (hop : op ≠ .shl ∧ op ≠ .shr) (h : arith op k a c K = some r) : ∃ v x, K v = some r ∧ Rel A n v x ∧ (binOp op t (.int k a) (.int k c)).run P w = .ok x w := by
  cases op <;> simp only [arith] at h <;> first
    | (rw [mkI_eq] at h; exact ⟨_, _, h, .i _ _, by simp [binOp, Op.intArith, Op.intBits]⟩)
    | (rw [mkB_eq] at h; exact ⟨_, _, h, .b _, by simp [binOp, Op.intCmp]⟩)
    | (obtain ⟨h0, h⟩ := bb_some h
       rw [mkI_eq] at h
       have h1 : c ≠ 0 := by simpa using h0
       exact ⟨_, _, h, .i _ _, by simp [binOp, Op.intDiv, h1]⟩)
    | (exact absurd rfl hop.1)
    | (exact absurd rfl hop.2)
    | cases h
theorem shift_some {op:BinOp} {k j:IntKind} {a c:Int} {K:V→Option β} {r:β} {n:Nat} (t:TypeId) (hop:op=.shl∨op=.shr) (h:shiftK op k a c K=some r):∃v x,K v=some r∧Rel A n v x∧(binOp op t (.int k a) (.int j c)).run P w=.ok x w:=by
 obtain⟨h0,h⟩:=bb_some h
 have h1:¬c<0:=by simpa using h0
 rcases hop with rfl | rfl
 ·simp only at h
  rw[mkI_eq]at h
  exact⟨_,_,h,.i _ _,by simp[binOp,Op.shift,h1]⟩
 ·simp only at h
  rw[mkI_eq]at h
  exact⟨_,_,h,.i _ _,by simp[binOp,Op.shift,h1]⟩
theorem guard_int (op:BinOp) (t:TypeId) (x y:Operand) (k j:IntKind) (a c:Int):(eqGuard op t x y (.int k a) (.int j c)).run P w=.ok () w:=by
 unfold eqGuard
 cases op <;> simp
theorem bin_exec {o:Oper} {op:BinOp} {t u9:TypeId} {x y:Operand} (ho:o.op=.binOp op t x y u9) {a:Act} {v:Value} (hg:(eqGuard op t x y (a.eval x) (a.eval y)).run P w=.ok () w) (hb:(binOp op t (a.eval x) (a.eval y)).run P w=.ok v w) :
  (execOp a.eval o).run P w=.ok (.value v) w:=by
 simp only[execOp,ho,Sem.run_bind,hg,Result.andThen_ok,hb,Sem.run_pure]
/-! ### == -/
theorem eqField_some {f:Field} {j:Nat} {q:Bool} (h:eqField P (f,j)=some q):f.name≠"_"∧f.offset=j∧(q=false→P.underlying f.type=some .bool)∧(q=true→∃k,P.underlying f.type=some (.int k)):=by
 unfold eqField at h
 obtain⟨h1,h⟩:=bb_some h
 obtain⟨h2,h⟩:=bb_some h
 refine⟨by simpa using h1,Nat.eq_of_beq_eq_true h2,?_,?_⟩
 ·rintro rfl
  split at h <;> first | assumption | cases h
 ·rintro rfl
  split at h <;> first | exact⟨_,by assumption⟩ | cases h
theorem eqFields_run {n:Nat} {xs ys:Array Value} (d:Nat):∀(fs:List Field) (k:Nat) (ks:List Bool) (l r:List V) (b:Bool),mapO (eqField P) (fs.zipIdx k)=some ks →
  RelL A n l (xs.toList.drop k)→RelL A n r (ys.toList.drop k)→eqCells ks l r=some b→(Op.eqFields (d+1) xs ys fs).run P w=.ok b w
 | [],k,ks,l,r,b,h0,_,_,h5=>by
  rw[mapO_nil h0]at h5
  cases l <;> cases r <;> simp only[eqCells]at h5 <;> first | cases h5 | skip
  rfl
 | f :: fs,k,ks,l,r,b,h0,h1,h2,h5=>by
  rw[List.zipIdx_cons]at h0
  obtain⟨q,ks',h6,h7,rfl⟩:=mapO_cons h0
  obtain⟨hn,hoff,hk0,hk1⟩:=eqField_some h6
  cases l with
  | nil=>cases q <;> simp[eqCells]at h5
  | cons v l =>
  cases r with
  | nil=>cases q <;> cases v <;> simp[eqCells]at h5
  | cons u9 r =>
  obtain⟨x,hx,hvx⟩:=h1.get (j:=0) (v:=v) rfl
  obtain⟨y,hy,huy⟩:=h2.get (j:=0) (v:=u9) rfl
  rw[List.getElem?_drop,Nat.add_zero]at hx hy
  have h1':RelL A n l (xs.toList.drop (k+1)):=by
   have:=h1.drop 1
   simpa [List.drop_drop]using this
  have h2':RelL A n r (ys.toList.drop (k+1)):=by
   have:=h2.drop 1
   simpa [List.drop_drop]using this
  have hag:(isAgg f.type).run P w=.ok false w:=by
   cases q with
   | false=>simp[isAgg,underlying,hk0 rfl]
   | true =>
    obtain⟨q,hq⟩:=hk1 rfl
    simp[isAgg,underlying,hq]
  have p1:(part f.type xs f.offset).run P w=.ok x w:=by
   rw[hoff]
   have:xs[k]?=some x:=by simpa using hx
   simp only[part,Sem.run_bind,hag,Result.andThen_ok,Bool.false_eq_true,if_false,this,Sem.run_pure]
  have p2:(part f.type ys f.offset).run P w=.ok y w:=by
   rw[hoff]
   have:ys[k]?=some y:=by simpa using hy
   simp only[part,Sem.run_bind,hag,Result.andThen_ok,Bool.false_eq_true,if_false,this,Sem.run_pure]
  have step:∀(c:Bool),(Op.equalIn (d+1) f.type x y).run P w=.ok c w→br c (eqCells ks' l r) (some false)=some b→(Op.eqFields (d+1) xs ys (f :: fs)).run P w=.ok b w:=by
   intro c hc h8
   simp only[Op.eqFields,if_pos hn,Sem.run_bind,p1,p2,hc,Result.andThen_ok]
   cases c with
   | false =>
    rw[br_f]at h8
    injection h8 with h8
    simp[←h8]
   | true =>
    rw[br_t]at h8
    simp only[Bool.not_true,Bool.false_eq_true,if_false]
    exact eqFields_run d fs (k+1) ks' l r b h7 h1' h2' h8
  cases q with
  | false =>
   cases v <;> cases u9 <;> simp only[eqCells]at h5 <;> first | cases h5 | skip
   obtain rfl:=hvx.of_b
   obtain rfl:=huy.of_b
   exact step _ (run_equalIn_bool w d f.type _ _ (hk0 rfl)) h5
  | true =>
   cases v <;> cases u9 <;> simp only[eqCells]at h5 <;> first | cases h5 | skip
   obtain⟨h8,h9⟩:=bb_some h5
   have h8:=of_decide_eq_true h8
   subst h8
   obtain rfl:=hvx.of_i
   obtain rfl:=huy.of_i
   obtain⟨q,hq⟩:=hk1 rfl
   exact step _ (run_equalIn_int w d f.type _ q _ _ hq) h9
theorem eq_of {t:TypeId} {x y:Value} {b:Bool} (h1:(binOp .eql t x y)=(do pure (.bool (←Op.equal t x y)))) (h2:(binOp .neq t x y)=(do pure (.bool (!(←Op.equal t x y))))) (h:(Op.equalIn (9999+1) t x y).run P w=.ok b w) :
  (binOp .eql t x y).run P w=.ok (.bool b) w∧(binOp .neq t x y).run P w=.ok (.bool (!b)) w:=by
 have e:(Op.equal t x y).run P w=.ok b w:=h
 rw[h1,h2]
 exact⟨by simp only[Sem.run_bind,e,Result.andThen_ok,Sem.run_pure],by simp only[Sem.run_bind,e,Result.andThen_ok,Sem.run_pure]⟩
section
variable (d:Nat) {t:TypeId}
theorem eqIn_ptr0 {e:TypeId} (ht:P.underlying t=some (.pointer e)) (b:Option Addr):(Op.equalIn (d+1) t (.pointer none) (.pointer b)).run P w=.ok b.isNone w:=by
 simp only[Op.equalIn,Sem.run_bind,run_und ht,Result.andThen_ok,Sem.run_pure]
theorem eqIn_ptr1 {e:TypeId} (ht:P.underlying t=some (.pointer e)) (x:Addr):(Op.equalIn (d+1) t (.pointer (some x)) (.pointer none)).run P w=.ok false w:=by
 simp only[Op.equalIn,Sem.run_bind,run_und ht,Result.andThen_ok,Sem.run_pure]
theorem eqIn_sl0 {e:TypeId} (ht:P.underlying t=some (.slice e)) (b:Option Addr) (n c:Nat):(Op.equalIn (d+1) t (.slice none 0 0) (.slice b n c)).run P w=.ok b.isNone w:=by
 simp only[Op.equalIn,Sem.run_bind,run_und ht,Result.andThen_ok,Sem.run_pure]
theorem eqIn_sl1 {e:TypeId} (ht:P.underlying t=some (.slice e)) (x:Addr) (n c:Nat):(Op.equalIn (d+1) t (.slice (some x) n c) (.slice none 0 0)).run P w=.ok false w:=by
 simp only[Op.equalIn,Sem.run_bind,run_und ht,Result.andThen_ok,Sem.run_pure]
theorem eqIn_map0 {k e:TypeId} (ht:P.underlying t=some (.map k e)) (b:Option Nat):(Op.equalIn (d+1) t (.map none) (.map b)).run P w=.ok b.isNone w:=by
 simp only[Op.equalIn,Sem.run_bind,run_und ht,Result.andThen_ok,Sem.run_pure]
theorem eqIn_map1 {k e:TypeId} (ht:P.underlying t=some (.map k e)) (x:Nat):(Op.equalIn (d+1) t (.map (some x)) (.map none)).run P w=.ok false w:=by
 simp only[Op.equalIn,Sem.run_bind,run_und ht,Result.andThen_ok,Sem.run_pure]
theorem eqIn_fn0 {a b:Array TypeId} {c:Bool} (ht:P.underlying t=some (.func a b c)):(Op.equalIn (d+1) t .nilFunc .nilFunc).run P w=.ok true w:=by
 simp only[Op.equalIn,Sem.run_bind,run_und ht,Result.andThen_ok,Sem.run_pure]
theorem eqIn_fn1 {a b:Array TypeId} {c:Bool} (ht:P.underlying t=some (.func a b c)) (f:Fn) (x y:Array Value):(Op.equalIn (d+1) t .nilFunc (.func f x y)).run P w=.ok false w:=by
 simp only[Op.equalIn,Sem.run_bind,run_und ht,Result.andThen_ok,Sem.run_pure]
theorem eqIn_fn2 {a b:Array TypeId} {c:Bool} (ht:P.underlying t=some (.func a b c)) (f:Fn) (x y:Array Value):(Op.equalIn (d+1) t (.func f x y) .nilFunc).run P w=.ok false w:=by
 simp only[Op.equalIn,Sem.run_bind,run_und ht,Result.andThen_ok,Sem.run_pure]
theorem eqIn_if1 {m:Array (String × TypeId)} (ht:P.underlying t=some (.interface m)) (u9:TypeId) (x:Value):(Op.equalIn (d+1) t .nilIface (.iface u9 x)).run P w=.ok false w:=by
 simp only[Op.equalIn,Sem.run_bind,run_und ht,Result.andThen_ok,Sem.run_pure]
theorem eqIn_if2 {m:Array (String × TypeId)} (ht:P.underlying t=some (.interface m)) (u9:TypeId) (x:Value):(Op.equalIn (d+1) t (.iface u9 x) .nilIface).run P w=.ok false w:=by
 simp only[Op.equalIn,Sem.run_bind,run_und ht,Result.andThen_ok,Sem.run_pure]
end
theorem eqV_some {t:TypeId} {e:EqK} {v u9:V} {b:Bool} {n:Nat} {x y:Value} {ox oy:Operand} (he:eqKind P t=some e) (h:eqV e v u9=some b) (hv:Rel A n v x) (hu:Rel A n u9 y) :
  (∀op,(eqGuard op t ox oy x y).run P w=.ok () w)∧(binOp .eql t x y).run P w=.ok (.bool b) w∧(binOp .neq t x y).run P w=.ok (.bool (!b)) w:=by
 unfold eqKind at he
 split at he
 ·rename_i ht
  injection he with he
  subst he
  cases v <;> cases u9 <;> simp only[eqV]at h <;> first |(injection h with h;subst h) | cases h | skip
  obtain rfl:=hv.of_b
  obtain rfl:=hu.of_b
  exact⟨fun op=>by cases op <;> rfl,eq_of rfl rfl (run_equalIn_bool w 9999 t _ _ ht)⟩
 ·injection he with he
  subst he
  cases v <;> cases u9 <;> simp only[eqV]at h <;> first |(injection h with h;subst h) | cases h | skip
  obtain⟨h1,h2⟩:=bb_some h
  have h1:=of_decide_eq_true h1
  subst h1
  injection h2 with h2
  subst h2
  obtain rfl:=hv.of_i
  obtain rfl:=hu.of_i
  exact⟨fun op=>by cases op <;> rfl,by simp[binOp,Op.intCmp],by simp[binOp,Op.intCmp,bne]⟩
 ·injection he with he
  subst he
  cases v <;> cases u9 <;> simp only[eqV]at h <;> first |(injection h with h;subst h) | cases h | skip
  obtain rfl:=hv.of_s
  obtain rfl:=hu.of_s
  exact⟨fun op=>by cases op <;> rfl,by simp[binOp,Op.stringOp,beq_toListBytes],by simp[binOp,Op.stringOp,beq_toListBytes]⟩
 ·rename_i ht
  injection he with he
  subst he
  cases v <;> cases u9 <;> simp only[eqV]at h <;> first |(injection h with h;subst h) | cases h | skip
  ·obtain⟨rfl,_⟩:=hv.of_p
   obtain rfl:=hu.of_np
   exact⟨fun op=>by cases op <;> rfl,eq_of rfl rfl (eqIn_ptr1 9999 ht _)⟩
  ·obtain rfl:=hv.of_np
   obtain⟨rfl,_⟩:=hu.of_p
   exact⟨fun op=>by cases op <;> rfl,eq_of rfl rfl (eqIn_ptr0 9999 ht _)⟩
  ·obtain rfl:=hv.of_np
   obtain rfl:=hu.of_np
   exact⟨fun op=>by cases op <;> rfl,eq_of rfl rfl (eqIn_ptr0 9999 ht _)⟩
 ·rename_i ht
  injection he with he
  subst he
  cases v <;> cases u9 <;> simp only[eqV]at h <;> first |(injection h with h;subst h) | cases h | skip
  ·obtain⟨_,_,rfl,_⟩:=hv.of_sl
   obtain rfl:=hu.of_ns
   exact⟨fun op=>by cases op <;> rfl,eq_of rfl rfl (eqIn_sl1 9999 ht _ _ _)⟩
  ·obtain rfl:=hv.of_ns
   obtain⟨_,_,rfl,_⟩:=hu.of_sl
   exact⟨fun op=>by cases op <;> rfl,eq_of rfl rfl (eqIn_sl0 9999 ht _ _ _)⟩
  ·obtain rfl:=hv.of_ns
   obtain rfl:=hu.of_ns
   exact⟨fun op=>by cases op <;> rfl,eq_of rfl rfl (eqIn_sl0 9999 ht _ _ _)⟩
 ·rename_i ht
  injection he with he
  subst he
  cases v <;> cases u9 <;> simp only[eqV]at h <;> first |(injection h with h;subst h) | cases h | skip
  ·obtain⟨rfl,_⟩:=hv.of_m
   obtain rfl:=hu.of_nm
   exact⟨fun op=>by cases op <;> rfl,eq_of rfl rfl (eqIn_map1 9999 ht _)⟩
  ·obtain rfl:=hv.of_nm
   obtain⟨rfl,_⟩:=hu.of_m
   exact⟨fun op=>by cases op <;> rfl,eq_of rfl rfl (eqIn_map0 9999 ht _)⟩
  ·obtain rfl:=hv.of_nm
   obtain rfl:=hu.of_nm
   exact⟨fun op=>by cases op <;> rfl,eq_of rfl rfl (eqIn_map0 9999 ht _)⟩
 ·rename_i ht
  injection he with he
  subst he
  cases v <;> cases u9 <;> simp only[eqV]at h <;> first |(injection h with h;subst h) | cases h | skip
  ·obtain⟨_,_,rfl,_⟩:=hv.of_fn
   cases hu
   exact⟨fun op=>by cases op <;> rfl,eq_of rfl rfl (eqIn_fn2 9999 ht _ _ _)⟩
  ·cases hv
   obtain⟨_,_,rfl,_⟩:=hu.of_fn
   exact⟨fun op=>by cases op <;> rfl,eq_of rfl rfl (eqIn_fn1 9999 ht _ _ _)⟩
  ·cases hv
   cases hu
   exact⟨fun op=>by cases op <;> rfl,eq_of rfl rfl (eqIn_fn0 9999 ht)⟩
 ·rename_i ht
  injection he with he
  subst he
  cases v <;> cases u9 <;> simp only[eqV]at h <;> first |(injection h with h;subst h) | cases h | skip
  ·obtain⟨_,rfl,_⟩:=hv.of_iface
   cases hu
   exact⟨fun op=>by cases op <;> rfl,eq_of rfl rfl (eqIn_if2 9999 ht _ _)⟩
  ·cases hv
   obtain⟨_,rfl,_⟩:=hu.of_iface
   exact⟨fun op=>by cases op <;> rfl,eq_of rfl rfl (eqIn_if1 9999 ht _ _)⟩
 ·rename_i fs ht
  obtain⟨h1,he⟩:=bb_some he
  obtain⟨h2,he⟩:=bb_some he
  obtain⟨ks,h3,he⟩:=ob_some he
  injection he with he
  subst he
  cases v <;> cases u9 <;> simp only[eqV]at h <;> first |(injection h with h;subst h) | cases h | skip
  obtain⟨xs,rfl,hxs⟩:=hv.of_agg
  obtain⟨ys,rfl,hys⟩:=hu.of_agg
  have hf:P.fieldsOf t=fs:=by simp[Program.fieldsOf,ht]
  have hst:P.stoodInHeld t=false:=by simpa using h1
  have hg:P.eqGuardType P.depth t=false:=by simpa using h2
  refine⟨fun op=>?_,eq_of rfl rfl ?_⟩
  ·cases op <;> first | rfl | simp[eqGuard,hg]
  ·rw[run_equalIn_struct w 9999 t xs ys (by rw[hf];exact ht) hst,hf]
   exact eqFields_run 9998 fs.toList 0 ks _ _ b (by simpa using h3) (by simpa using hxs) (by simpa using hys) h
 ·cases he
theorem bin_ok {op:BinOp} {ty u9:TypeId} {x y:Operand} {rx ry:Rd} {f:Fx} {C:CallF} (hx:rdB x=some rx) (hy:rdB y=some ry) (hf:binB P op ty rx ry=some f):OpQ P C (.binOp op ty x y u9) f:=by
 intro o ho A h w N t a K q hm ht hk
 have hrx:=rd_rel ht hx
 have hry:=rd_rel ht hy
 have plain:∀(op':BinOp),op'=op→op≠.shl∧op≠.shr→f=⟨fun _ t h K=>rdK t rx fun x=>rdK t ry fun y=>asI x fun k a=>asI y fun j c=>bb (decide (k=j)) (arith op' k a c fun v=>K v h)⟩→∃v,K v h=some q∧∃x,(execOp a.eval o).run P w=.ok (.value x) w∧Rel A h.next v x:=by
  intro op' hop hns hff
  subst hop
  rw[hff]at hk
  simp only[rdK_eq]at hk
  obtain⟨k,m,h1,hk⟩:=asI_some hk
  obtain⟨j,c,h2,hk⟩:=asI_some hk
  obtain⟨h3,hk2⟩:=bb_some hk
  have h3:=of_decide_eq_true h3
  subst h3
  rw[h1]at hrx
  rw[h2]at hry
  obtain⟨v,z,h4,h5,h6⟩:=arith_some (P:=P) (A:=A) (w:=w) (n:=h.next) ty hns hk2
  refine⟨_,h4,z,(bin_exec ho ?_ ?_),h5⟩
  ·rw[hrx.of_i,hry.of_i];exact guard_int _ _ _ _ _ _ _ _
  ·rw[hrx.of_i,hry.of_i];exact h6
 have shf:∀(op':BinOp),op'=op→op=.shl∨op=.shr→f=⟨fun _ t h K=>rdK t rx fun x=>rdK t ry fun y=>asI x fun k a=>asI y fun _ c=>shiftK op' k a c fun v=>K v h⟩→∃v,K v h=some q∧∃x,(execOp a.eval o).run P w=.ok (.value x) w∧Rel A h.next v x:=by
  intro op' hop hns hff
  subst hop
  rw[hff]at hk
  simp only[rdK_eq]at hk
  obtain⟨k,m,h1,hk⟩:=asI_some hk
  obtain⟨j,c,h2,hk⟩:=asI_some hk
  rw[h1]at hrx
  rw[h2]at hry
  obtain⟨v,z,h4,h5,h6⟩:=shift_some (P:=P) (A:=A) (w:=w) (n:=h.next) (j:=j) ty hns hk
  refine⟨_,h4,z,(bin_exec ho ?_ ?_),h5⟩
  ·rw[hrx.of_i,hry.of_i];exact guard_int _ _ _ _ _ _ _ _
  ·rw[hrx.of_i,hry.of_i];exact h6
 cases op <;> simp only[binB]at hf
 case eql =>
  obtain⟨e,he,hf⟩:=ob_some hf
  injection hf with hf
  subst hf
  simp only[rdK_eq]at hk
  obtain⟨b,hb,hk⟩:=ob_some hk
  rw[mkB_eq]at hk
  obtain⟨h1,h2,_⟩:=eqV_some (w:=w) (ox:=x) (oy:=y) he hb hrx hry
  exact⟨_,hk,_,(bin_exec ho (h1 _) h2),(.b _)⟩
 case neq =>
  obtain⟨e,he,hf⟩:=ob_some hf
  injection hf with hf
  subst hf
  simp only[rdK_eq]at hk
  obtain⟨b,hb,hk⟩:=ob_some hk
  rw[mkB_eq]at hk
  obtain⟨h1,_,h2⟩:=eqV_some (w:=w) (ox:=x) (oy:=y) he hb hrx hry
  exact⟨_,hk,_,(bin_exec ho (h1 _) h2),(.b _)⟩
 case shl=>injection hf with hf;exact shf _ rfl (.inl rfl) hf.symm
 case shr=>injection hf with hf;exact shf _ rfl (.inr rfl) hf.symm
 all_goals
  injection hf with hf
  exact plain _ rfl ⟨by decide,by decide⟩ hf.symm
end
section
variable {A:Sub} {h:H} {w:World} {P:Program}
theorem fieldB_some {s:TypeId} {f:Nat} {p:Nat × TypeId} (h:fieldB P s f=some p):∃fs fd,P.underlying s=some (.struct fs)∧fs[f]?=some fd∧fd.offset=p.1∧fd.type=p.2:=by
 unfold fieldB at h
 split at h
 ·rename_i fs hu
  obtain⟨fd,hfd,h⟩:=ob_some h
  rw[fN_eq]at h
  injection h with h
  subst h
  exact⟨fs,fd,hu,hfd,rfl,rfl⟩
 ·cases h
theorem fieldAddr_ok {s:TypeId} {x:Operand} {f:Nat} {rx:Rd} {p:Nat × TypeId} {n:Nat} {C:CallF} (hx:rdB x=some rx) (hp:fieldB P s f=some p) (hn:sizeB P p.2=some n) (h0:0<n) :
  OpQ P C (.fieldAddr s x f) ⟨fun _ t h K=>rdK t rx fun x=>asP x fun pt o=>fN (Nat.add o p.1) fun o=>K (.p pt o) h⟩:=by
 intro o ho A h w N t a K q hm ht hk
 simp only[rdK_eq]at hk
 obtain⟨b,o',hv,hk⟩:=asP_some hk
 rw[fN_eq]at hk
 have hr:=rd_rel ht hx
 rw[hv]at hr
 obtain⟨h1,h2⟩:=hr.of_p
 obtain⟨fs,fd,hu,hfd,h3,h4⟩:=fieldB_some hp
 rw[←h4]at hn
 have hn0:n≠0:=by omega
 refine⟨_,hk,_,?_,(.p b _ h2)⟩
 simp only[execOp,ho,h1,Instr.fieldAt,Sem.run_bind,run_und hu,Result.andThen_ok,hfd,Instr.sureAddr,Sem.run_pure,fieldPlace,run_size hn,if_neg hn0]
 rw[add_lit,h3,Nat.add_assoc]
 rfl
theorem indexAddr_ok {ty:TypeId} {x i:Operand} {rx ri:Rd} {f:Fx} {C:CallF} (hx:rdB x=some rx) (hi:rdB i=some ri) (hf:indexAddrB P ty rx ri=some f):OpQ P C (.indexAddr ty x i) f:=by
 intro o ho A h w N t a K q hm ht hk
 have hrx:=rd_rel ht hx
 have hri:=rd_rel ht hi
 unfold indexAddrB at hf
 split at hf
 ·rename_i e hu
  obtain⟨sz,hsz,hf⟩:=ob_some hf
  injection hf with hf
  subst hf
  simp only[rdK_eq]at hk
  obtain⟨k,m,h1,hk⟩:=asN_some hk
  split at hk
  ·rename_i b o' len cap kn z hv
   obtain⟨hlt,hk⟩:=bb_some hk
   rw[fN_eq]at hk
   rw[hv]at hrx
   rw[h1]at hri
   obtain⟨c,ad,h2,h3,_,_,hoff⟩:=hrx.of_sl
   have h4:=hri.of_i
   have hlt:m<len:=Nat.le_of_ble_eq_true hlt
   obtain rfl:ad=⟨A.ι b,(A.κ b).2+o',none⟩:=by rcases hoff with h | h <;> first | exact h | omega
   refine⟨_,hk,_,?_,(.p b _ h3)⟩
   simp only[execOp,ho,h2,h4,Instr.indexAt,asIntOf,Sem.run_bind,run_und hu,Result.andThen_ok,Sem.run_pure]
   have hb:(0:Int)≤Int.ofNat m∧Int.ofNat m<(len:Int):=⟨Int.natCast_nonneg m,by exact Int.ofNat_lt.2 hlt⟩
   simp only[hb,and_self,if_true,Sem.run_bind,run_size hsz,Result.andThen_ok,Sem.run_pure]
   rw[add_lit,Nat.add_assoc]
   rfl
  ·cases hk
 ·rename_i len e hu
  obtain⟨sz,hsz,hf⟩:=ob_some hf
  injection hf with hf
  subst hf
  simp only[rdK_eq]at hk
  obtain⟨k,m,h1,hk⟩:=asN_some hk
  obtain⟨b,o',hv,hk⟩:=asP_some hk
  obtain⟨hlt,hk⟩:=bb_some hk
  rw[fN_eq]at hk
  rw[hv]at hrx
  rw[h1]at hri
  obtain⟨h2,h3⟩:=hrx.of_p
  have h4:=hri.of_i
  have hlt:m<len:=Nat.le_of_ble_eq_true hlt
  refine⟨_,hk,_,?_,(.p b _ h3)⟩
  simp only[execOp,ho,h2,h4,Instr.indexAt,asIntOf,Sem.run_bind,run_und hu,Result.andThen_ok,Sem.run_pure,Instr.sureAddr]
  have hb:(0:Int)≤Int.ofNat m∧Int.ofNat m<(len:Int):=⟨Int.natCast_nonneg m,by exact Int.ofNat_lt.2 hlt⟩
  simp only[hb,and_self,if_true,Sem.run_bind,run_size hsz,Result.andThen_ok,Sem.run_pure]
  rw[add_lit,Nat.add_assoc]
  rfl
 ·cases hf
theorem nilCheck_ok {x:Operand} {rx:Rd} {C:CallF} (hx:rdB x=some rx):OpQ P C (.nilCheck x) ⟨fun _ t h K=>rdK t rx fun x=>match x with
  | .p pt o=>K (.p pt o) h
  | .fn (.func f) a b=>K (.fn (.func f) a b) h
  | .iface ty v=>K (.iface ty v) h
  | _=>none⟩:=by
 intro o ho A h w N t a K q hm ht hk
 have hrx:=rd_rel ht hx
 simp only[rdK_eq]at hk
 split at hk
 ·rename_i b o' hv
  rw[hv]at hrx
  obtain⟨h1,h2⟩:=hrx.of_p
  exact⟨_,hk,_,(by simp only[execOp,ho,h1];rfl),(.p _ _ h2)⟩
 ·rename_i f l r hv
  rw[hv]at hrx
  obtain⟨xs,ys,h1,h2,h3⟩:=hrx.of_fn
  exact⟨_,hk,_,(by simp only[execOp,ho,h1];rfl),(.fn _ _ _ _ _ h2 h3)⟩
 ·rename_i ty v hv
  rw[hv]at hrx
  obtain⟨y,h1,h2⟩:=hrx.of_iface
  exact⟨_,hk,_,(by simp only[execOp,ho,h1];rfl),(.iface _ _ _ h2)⟩
 ·cases hk
theorem extract_ok {x:Operand} {i:Nat} {rx:Rd} {C:CallF} (hx:rdB x=some rx):OpQ P C (.extract x i) ⟨fun _ t h K=>rdK t rx fun x=>asTup x fun l=>ob l[i]? fun v=>K v h⟩:=by
 intro o ho A h w N t a K q hm ht hk
 have hrx:=rd_rel ht hx
 simp only[rdK_eq]at hk
 obtain⟨l,hv,hk⟩:=asTup_some hk
 obtain⟨v,hl,hk⟩:=ob_some hk
 rw[hv]at hrx
 obtain⟨xs,h1,h2⟩:=hrx.of_tup
 obtain⟨y,h3,h4⟩:=h2.get hl
 refine⟨_,hk,y,?_,h4⟩
 have h3:xs[i]?=some y:=by simpa using h3
 simp only[execOp,ho,h1,Instr.extract,h3,Sem.run_bind,Sem.run_pure,Result.andThen_ok]
theorem pick_ok {c x y:Operand} {rc rx ry:Rd} {C:CallF} (hc:rdB c=some rc) (hx:rdB x=some rx) (hy:rdB y=some ry) :
  OpQ P C (.pick c x y) ⟨fun _ t h K=>rdK t rc fun c=>asB c fun c=>br c (rdK t rx fun v=>K v h) (rdK t ry fun v=>K v h)⟩:=by
 intro o ho A h w N t a K q hm ht hk
 have hrc:=rd_rel ht hc
 simp only[rdK_eq]at hk
 obtain⟨b,hv,hk⟩:=asB_some hk
 rw[hv]at hrc
 have h1:=hrc.of_b
 cases b with
 | true=>exact⟨_,hk,_,(by simp[execOp,ho,h1,asBool]),(rd_rel ht hx)⟩
 | false=>exact⟨_,hk,_,(by simp[execOp,ho,h1,asBool]),(rd_rel ht hy)⟩
theorem unary_arith {op:BinOp} {k:IntKind} {a c:Int} {β:Type} {K:V→Option β} {r:β} {n:Nat} (hop:op=.sub∨op=.xor) (h:arith op k a c K=some r):∃v x,K v=some r∧Rel A n v x∧((if op=.sub then Op.intArith op k a c else Op.intBits op k a c)).run P w=.ok x w:=by
 rcases hop with rfl | rfl
 ·simp only[arith,mkI_eq]at h
  exact⟨_,_,h,.i _ _,by simp[Op.intArith]⟩
 ·simp only[arith,mkI_eq]at h
  exact⟨_,_,h,.i _ _,by simp[Op.intBits]⟩
theorem not_ok {ty:TypeId} {x:Operand} {rx:Rd} {C:CallF} (hx:rdB x=some rx):OpQ P C (.unOp .not ty x) ⟨fun _ t h K=>rdK t rx fun x=>asB x fun x=>mkB (!x) fun v=>K v h⟩:=by
 intro o ho A h w N t a K q hm ht hk
 have hrx:=rd_rel ht hx
 simp only[rdK_eq]at hk
 obtain⟨b,hv,hk⟩:=asB_some hk
 rw[mkB_eq]at hk
 rw[hv]at hrx
 exact⟨_,hk,_,(by simp[execOp,ho,hrx.of_b,Op.unary]),(.b _)⟩
theorem neg_ok {ty:TypeId} {x:Operand} {rx:Rd} {C:CallF} (hx:rdB x=some rx):OpQ P C (.unOp .neg ty x) ⟨fun _ t h K=>rdK t rx fun x=>asI x fun k n=>arith .sub k 0 n fun v=>K v h⟩:=by
 intro o ho A h w N t a K q hm ht hk
 have hrx:=rd_rel ht hx
 simp only[rdK_eq]at hk
 obtain⟨k,n,hv,hk⟩:=asI_some hk
 rw[hv]at hrx
 obtain⟨v,y,h1,h2,h3⟩:=unary_arith (P:=P) (A:=A) (w:=w) (n:=h.next) (.inl rfl) hk
 rw[if_pos rfl]at h3
 exact⟨_,h1,_,(by simp only[execOp,ho,hrx.of_i,Op.unary,Sem.run_bind,h3,Result.andThen_ok,Sem.run_pure]),h2⟩
theorem xor_ok {ty:TypeId} {x:Operand} {rx:Rd} {C:CallF} (hx:rdB x=some rx):OpQ P C (.unOp .xor ty x) ⟨fun _ t h K=>rdK t rx fun x=>asI x fun k n=>arith .xor k (if k.signed then -1 else k.max) n fun v=>K v h⟩:=by
 intro o ho A h w N t a K q hm ht hk
 have hrx:=rd_rel ht hx
 simp only[rdK_eq]at hk
 obtain⟨k,n,hv,hk⟩:=asI_some hk
 rw[hv]at hrx
 obtain⟨v,y,h1,h2,h3⟩:=unary_arith (P:=P) (A:=A) (w:=w) (n:=h.next) (.inr rfl) hk
 rw[if_neg (by decide)]at h3
 exact⟨_,h1,_,(by simp only[execOp,ho,hrx.of_i,Op.unary,Sem.run_bind,h3,Result.andThen_ok,Sem.run_pure]),h2⟩
/-! ### Aggregates -/
theorem placesB_some:∀(fs:List Field) (pl:List (Nat × Nat)),mapO (fun f:Field=>ob (sizeB P f.type) fun n=>fN f.offset fun o=>some (o,n)) fs=some pl →
  (fs.mapM (m:=Sem) fun f=>do pure (f.offset,←sizeOf f.type)).run P w=.ok pl w
 | [],pl,h=>by rw[mapO_nil h];rfl
 | f :: fs,pl,h=>by
  obtain⟨y,q,h1,h2,rfl⟩:=mapO_cons h
  obtain⟨n,hn,h1⟩:=ob_some h1
  rw[fN_eq]at h1
  injection h1 with h1
  subst h1
  have ih:=placesB_some fs q h2
  rw[List.mapM_cons]
  simp only[Sem.run_bind,run_size hn,Result.andThen_ok,Sem.run_pure,ih]
theorem build_ok {ty:TypeId} {parts:Array (Nat × Operand)} {z:V} {f:Fx} {C:CallF} (hz:zeroB P ty=some z) (hf:(match P.underlying ty with
   | some (.struct _)=>ob (placesB P ty) fun pl=>ob (partsB (pl[·]?) parts.toList) fun ps=>some ⟨fun _ t h K=>ob (rdP t ps) fun ps=>ob (fillL z.cells ps) fun l=>K (.agg l) h⟩
   | some (.array _ e)=>ob (sizeB P e) fun sz=>ob (partsB (fun i=>some (i*sz,sz)) parts.toList) fun ps=>some ⟨fun _ t h K=>ob (rdP t ps) fun ps=>ob (fillL z.cells ps) fun l=>K (.agg l) h⟩
   | _=>none)=some f):OpQ P C (.build ty parts) f:=by
 intro o ho A h w N t a K q hm ht hk
 obtain⟨x,hx1,hx2⟩:=run_zero (w:=w) hz
 have hzr:RelL A h.next z.cells x.cells.toList:=(ofVal_rel hx2).cells
 split at hf
 ·rename_i fs hu
  obtain⟨pl,hpl,hf⟩:=ob_some hf
  obtain⟨ps,hps,hf⟩:=ob_some hf
  injection hf with hf
  subst hf
  obtain⟨vs,hvs,hk⟩:=ob_some hk
  obtain⟨l,hl,hk⟩:=ob_some hk
  unfold placesB at hpl
  rw[hu]at hpl
  have hplr:=placesB_some (w:=w) fs.toList pl hpl
  have hparts:=parts_rel ht _ ps vs hps hvs
  obtain⟨ys,h1,h2⟩:=fill_rel vs _ (fun i=>pl[i]?) z.cells x.cells.toList l hzr hl hparts
  refine⟨_,hk,.agg ys.toArray,?_,(.agg _ _ h2)⟩
  have hmap:(fs.mapM (m:=Sem) fun f=>do pure (f.offset,←sizeOf f.type)).run P w=.ok pl.toArray w:=by
   rw[Array.mapM_eq_mapM_toList,Sem.run_map,hplr]
   rfl
  simp only[execOp,ho,Instr.build,Sem.run_bind,hx1,Result.andThen_ok,Sem.run_pure,run_und hu,hmap]
  have e:Instr.fill (fun i=>pl.toArray[i]?) x.cells (parts.map fun (i,x)=>(i,a.eval x)).toList=some ys.toArray:=by
   rw[Array.toList_map]
   simpa using h1
  simp only[e,Sem.run_pure,Result.andThen_ok]
 ·rename_i n e hu
  obtain⟨sz,hsz,hf⟩:=ob_some hf
  obtain⟨ps,hps,hf⟩:=ob_some hf
  injection hf with hf
  subst hf
  obtain⟨vs,hvs,hk⟩:=ob_some hk
  obtain⟨l,hl,hk⟩:=ob_some hk
  have hparts:=parts_rel ht _ ps vs hps hvs
  obtain⟨ys,h1,h2⟩:=fill_rel vs _ (fun i=>some (i*sz,sz)) z.cells x.cells.toList l hzr hl hparts
  refine⟨_,hk,.agg ys.toArray,?_,(.agg _ _ h2)⟩
  simp only[execOp,ho,Instr.build,Sem.run_bind,hx1,Result.andThen_ok,Sem.run_pure,run_und hu,run_size hsz]
  have e:Instr.fill (fun i=>some (i*sz,sz)) x.cells (parts.map fun (i,x)=>(i,a.eval x)).toList=some ys.toArray:=by
   rw[Array.toList_map]
   simpa using h1
  simp only[e,Sem.run_pure,Result.andThen_ok]
 ·cases hf
theorem run_newRow (e:TypeId) (cs:Array Value):(Go.newRow e cs).run P w=.ok ⟨w.heap.size,0,none⟩ (w.alloc (.cells cs e)):=rfl
theorem buildSlice_ok {ty e:TypeId} {len sz:Nat} {parts:Array (Nat × Operand)} {z:V} {ps:List (Nat × Nat × Rd)} {C:CallF} (he:elemB P ty=some e) (hsz:sizeB P e=some sz) (hz:zeroB P e=some z) (h0:0<sz) (hzl:z.cells.length=sz)
  (hb:len*sz≤65536) (hps:partsB (fun i=>some (i*sz,sz)) parts.toList=some ps) :
  OpOk P C (.buildSlice ty len parts) ⟨fun _ t h K=>ob (rdP t ps) fun ps=>ob (fillL (rep z.cells len) ps) fun l=>Vm.newRow h e l false fun b h=>K (.sl b 0 len len true sz) h⟩:=by
 intro o ho A h w N t a K q hm ht hk
 obtain⟨x,hx1,hx2⟩:=run_zero (w:=w) hz
 have hzr:RelL A h.next z.cells x.cells.toList:=(ofVal_rel hx2).cells
 have hxs:x.cells.size=sz:=by have:=hzr.length;rw[Array.length_toList]at this;omega
 obtain⟨vs,hvs,hk⟩:=ob_some hk
 obtain⟨l,hl,hk⟩:=ob_some hk
 obtain⟨h3,hk⟩:=newRow_some hk
 have hparts:=parts_rel ht _ ps vs hps hvs
 obtain⟨ys,h1,h2⟩:=fill_rel vs _ (fun i=>some (i*sz,sz)) (rep z.cells len) _ l (rep_rel hzr len) hl hparts
 refine⟨_,_,hk,.value (x:=.slice (some ⟨w.heap.size,0,none⟩) len len) (w':=w.alloc (.cells ys.toArray e)) ?_ ⟨_,Ev.new (k:=(0,0)) hm (row_new0 (by simpa using h2) h3),sl_new A h.next w.heap.size 0 len len sz⟩⟩
 have hu:=elem_und he
 have hbig:¬(len*sz > 2 ^ 24):=by omega
 have e1:Instr.fill (fun i=>some (i*sz,sz)) (List.flatten (List.replicate len x.cells.toList)).toArray (parts.map fun (i,x)=>(i,a.eval x)).toList=some ys.toArray:=by
  rw[Array.toList_map]
  simpa using h1
 by_cases hl0:len*sz=0
 ·have hlen:len=0:=by
   rcases Nat.mul_eq_zero.1 hl0 with h | h
   ·exact h
   ·omega
  subst hlen
  have e2:Instr.fill (fun i=>some (i*sz,sz)) #[] (parts.map fun (i,x)=>(i,a.eval x)).toList=some ys.toArray:=by simpa using e1
  have e3:(Array.map (fun _=>(default:Value)) (Array.range 0))=#[]:=by apply Array.ext';simp
  simp at e2
  simp[execOp,ho,Instr.buildSlice,run_und hu,run_size hsz,e3,e2,run_newRow]
 ·have e3:=zero_rep x.cells len sz hxs h0
  simp only[execOp,ho,Instr.buildSlice,Sem.run_bind,run_und hu,Result.andThen_ok,run_size hsz,if_neg hbig,if_neg hl0,hx1,Sem.run_pure]
  rw[e3,e1]
  simp only[Sem.run_bind,run_newRow,Result.andThen_ok,Sem.run_pure]
theorem bytesB_some {e:TypeId} {n:Nat} (h:bytesB P e=some n):∃i,P.info? e=some i∧i.bytes=n:=by
 unfold bytesB at h
 obtain⟨i,hi,h⟩:=ob_some h
 rw[fN_eq]at h
 injection h with h
 exact⟨i,hi,h⟩
end
end Go.Proofs.YtkcdehffcddciaaGreatDoor.Vm
