/- A region that draws its order, all of it: reads, and others in whatever order they come. -/
import Derived.Test.YtmjilfamjlnigaaGreatQ09
namespace Go.Proofs.YtmjilfamjlnigaaGreat.Kit
open Go Go.RowKit
section
variable {P:Program} {ops:Array Oper} {md:Region.Mode} {C:World→Prop}
theorem ready_size {n j:Nat} {listed:Array Bool} (hn:n=ops.size) (hj:j∈Region.ready md ops listed):j<n:=by
 obtain⟨_,oj,hoj,_⟩:=mem_ready.1 hj
 rw[hn]
 exact(Array.getElem?_eq_some_iff.1 hoj).1
def floatBA (md:Region.Mode) (ops:Array Oper) (n m:Nat) (rd late:List Nat):Bool :=
 Region.noSelect ops&&decide (n=ops.size)&&decide (rd.length+m=n)&&readsB md ops n late rd (Array.replicate ops.size false)
theorem floatG_takeA {late:List Nat} {n i:Nat} {oi:Oper} {v:Value} {T:Array Bool→Act→World→Prop} (hi:ops[i]?=some oi) (hsel:∀(j:Nat) (o:Oper) cs b,ops[j]?=some o→o.op≠.select cs b)
  (hn:n=ops.size) (hin:i<n) (hlate:∀j∈late,needsB md ops ops.size j i=true) (hT:∀listed a w,T listed a w→∀j∈Region.ready md ops listed,n≤j) (f:Nat) :
  ∀(listed:Array Bool) (a:Act) (w:World),C w→HeadInv md ops n listed →
   (∀j oj,ops[j]?=some oj→j≠i→listed.getD j true=false→(∀e∈oj.after,Region.binds md e=true→e.on≠i)→oi.apart ops oj=true) →
   i∈Region.ready md ops listed→ReadsIn P ops C oi v a→floatG P md ops C late n T f (listed.setIfInBounds i true) (a.put oi.dst v) w→floatG P md ops C late n T (f+1) listed a w:=by
 induction f with
 | zero =>
  intro listed a w hC inv _ hr hy H
  refine⟨List.ne_nil_of_mem hr,fun j hj=>?_⟩
  have hjn:=ready_size hn hj
  by_cases hji:j=i
  ·subst hji;exact⟨hjn,hy.step hi hC ⟨fun _=>hC,H⟩⟩
  ·have:=hT _ _ _ H j (ready_mono hj hji)
   omega
 | succ f ih =>
  intro listed a w hC inv hap hr hy H
  refine⟨List.ne_nil_of_mem hr,fun j hj=>?_⟩
  have hjn:=ready_size hn hj
  refine⟨hjn,?_⟩
  by_cases hji:j=i
  ·subst hji;exact hy.step hi hC ⟨fun _=>hC,H⟩
  ·obtain⟨hun,oj,hoj,hall⟩:=mem_ready.1 hj
   have hiun:=getD_both (mem_ready.1 hr).1
   have hwait:∀e∈oj.after,Region.binds md e=true→e.on≠i:=by
    intro e he hb heq
    have h1:=hall e he hb
    rw[heq,hiun]at h1
    cases h1
   have hnl:j ∉ late:=fun hl=>by
    have:=needs_listed inv i ops.size j (hlate j hl) (fun o ho e he hb=>by rw[hoj]at ho;cases ho;exact hall e he hb)
    rw[hiun]at this
    cases this
   have hun2:∀l∈late,(listed.setIfInBounds i true).getD l false=false:=fun l hl=>by
    by_cases hli:i=l
    ·subst hli
     obtain⟨_,oi',hoi',hall'⟩:=mem_ready.1 hr
     have:=needs_listed inv i ops.size i (hlate i hl) (fun o ho e he hb=>by rw[hoi']at ho;cases ho;exact hall' e he hb)
     rw[hiun]at this
     cases this
    ·rw[getD_set_ne false hli]
     cases hg:listed.getD l false with
     | false=>rfl
     | true =>
      have:=needs_listed inv i ops.size l (hlate l hl) (fun o ho e he hb=>inv.closed l o ho hg e he hb)
      rw[hiun]at this
      cases this
   have step:=stepG_put hoj (hap j oj hoj hji hun hwait) (fun cs b=>hsel i oi cs b hi) (fun cs b=>hsel j oj cs b hoj) hy ((H.2 j (ready_mono hj hji)).2)
   refine stepG_mono (fun a' w' h3=>?_) step
   have hC':=h3.2.1 ⟨hnl,hun2⟩
   refine⟨fun _=>hC',ih (listed.setIfInBounds j true) a' w' hC' (inv.set hj hjn) (fun k ok hk hki hkun hno=>?_) (ready_mono hr (Ne.symm hji)) h3.1 ?_⟩
   ·refine hap k ok hk hki ?_ hno
    by_cases hjk:j=k
    ·subst hjk;exact hun
    ·rwa [getD_set_ne true hjk]at hkun
   ·rw[Array.setIfInBounds_comm _ _ hji]
    exact h3.2.2
end
theorem floatG_lexA {P:Program} {ops:Array Oper} {md:Region.Mode} {C:World→Prop} {late:List Nat} {n m:Nat} {T:Array Bool→Act→World→Prop} (hsel:Region.noSelect ops=true) (hn:n=ops.size)
  (hT:∀listed a w,T listed a w→∀j∈Region.ready md ops listed,n≤j) (w:World) (hC:C w) (rd:List Nat) :
  ∀(listed:Array Bool) (a:Act),HeadInv md ops n listed→readsB md ops n late rd listed=true→∀(l:List Oper),l.length=rd.length→(∀j,j<l.length→l[j]?=(rd[j]?).bind fun k=>ops[k]?) →
   wpQuiet P ops C (fun a'=>floatG P md ops C late n T m (listedAll rd listed) a' w) l a→floatG P md ops C late n T (rd.length+m) listed a w:=by
 induction rd with
 | nil =>
  intro listed a inv hB l hlen hl h
  obtain rfl:l = []:=by simpa using hlen
  rw[List.length_nil,Nat.zero_add]
  exact h
 | cons k rd ih =>
  intro listed a inv hB l hlen hl h
  cases l with
  | nil=>simp at hlen
  | cons o l =>
   have h0:ops[k]?=some o:=by
    have:=hl 0 (by simp)
    simpa using this.symm
   simp only[readsB,Bool.and_eq_true,decide_eq_true_eq,h0,Option.map_some,Option.getD_some,List.all_eq_true]at hB
   obtain⟨⟨⟨⟨⟨hr,hf⟩,hk⟩,hrd⟩,hlt⟩,hB'⟩:=hB
   have hr':k∈Region.ready md ops listed:=by simpa using hr
   have hq:qOp P ops C k (wpQuiet P ops C (fun a'=>floatG P md ops C late n T m (listedAll rd (listed.setIfInBounds k true)) a' w) l) a:=by
    unfold qOp
    simp only[h0]
    exact h
   obtain⟨v,hy,hK⟩:=yieldsIn_of_qOp h0 hq
   rw[List.length_cons,show rd.length+1+m=(rd.length+m)+1 by omega]
   refine floatG_takeA h0 (Region.noSelect_spec hsel) hn hk hlt hT (rd.length+m) listed a w hC inv (Region.free_spec h0 hf) hr' (ReadsIn.of_yields hrd hy) ?_
   refine ih _ _ (inv.set hr' hk) hB' l (by simpa using hlen) (fun j hj=>?_) hK
   have:=hl (j+1) (by simp;omega)
   simpa using this
theorem wp_region_float_all (C:World→Prop) (n m:Nat) (rd late:List Nat) {P:Program} {id:Nat} {Q:Exit→Act→World→Prop} {a:Act} {w:World} {l:List Oper} (hC:C (w.drewN 1))
  (hm:P.follows .mixedOrders=true) (hB:floatBA .any l.toArray n m rd late=true)
  (h:Nonempty (Cls C)→wpQuiet P l.toArray (fun w'=>∃p:Cls C,w'=p.w) (fun a'=>floatG P .any l.toArray (fun w'=>∃p:Cls C,w'=p.w) late n (tailG P Q l n) m (listedAll rd (Array.replicate l.toArray.size false)) a' (w.drewN 1)) (pickL rd l) a):(Code.region id l.toArray true).wp P Q a w:=by
 simp only[floatBA,Bool.and_eq_true,decide_eq_true_eq]at hB
 obtain⟨⟨⟨hsel,hn⟩,hlen⟩,hlex⟩:=hB
 have hn':n=l.length:=by simpa using hn
 have hdl:(l.drop n).length=l.toArray.size-n:=by simp
 have inv0:HeadInv .any l.toArray n (Array.replicate l.toArray.size false):=by
  refine⟨by simp,fun j oj _ hl=>?_,fun t _ ht=>getD_in (by simpa using ht) (getD_replicate_false _ _)⟩
  rw[getD_replicate_false]at hl
  cases hl
 have H:=floatG_lexA (P:=P) (C:=fun w'=>∃p:Cls C,w'=p.w) (md:=.any) (T:=tailG P Q l n) (m:=m) hsel hn (fun _ _ _ hT=>seqB_ready hT.1) (w.drewN 1) ⟨⟨_,hC⟩,rfl⟩ rd _ a inv0 hlex (pickL rd l) (by simp[pickL]) (fun j hj=>by
  have hj':j<rd.length:=by simpa [pickL]using hj
  have hk:=readsB_lt rd _ hlex rd[j] (List.getElem_mem hj')
  have hk':rd[j]<l.length:=by omega
  simp[pickL,hj',hk']) (h ⟨⟨_,hC⟩⟩)
 refine wp_region_any hm ?_
 have:=floatG_run (Q:=Q) (g:=l.toArray.size-n) (fun listed a' w' hT=>by
  have:=wpAny_of_seq (md:=.any) (Q':=Q) (l.drop n) n listed a' w' (fun j=>by simp[List.getElem?_drop]) (by rw[hdl];exact hT.1) hT.2
  rwa [hdl]at this) _ _ _ _ H
 rw[hlen,show n+(l.toArray.size-n)=l.toArray.size by omega]at this
 exact this
end Go.Proofs.YtmjilfamjlnigaaGreat.Kit
