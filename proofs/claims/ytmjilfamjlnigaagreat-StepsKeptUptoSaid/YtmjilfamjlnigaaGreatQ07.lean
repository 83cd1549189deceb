/- A region that draws its order: reads, in any order; what calls or makes memory, in whatever order it comes, each step of it leaving a world of a class as long as a read is left; then a tail whose order is forced. -/
import Derived.Test.YtmjilfamjlnigaaGreatQ02
import Derived.Test.YtmjilfamjlnigaaGreatQ05
import Derived.Test.YtmjilfamjlnigaaGreatQ06
import Derived.Laws.EntriesVeiled
namespace Go.Proofs.YtmjilfamjlnigaaGreat.Kit
open Go Go.RowKit
section
variable {P:Program} {ops:Array Oper} {md:Region.Mode} {C:World→Prop}
def readB (o:Oper):Bool:=match o.op with
 | .move _ | .assign _ | .load _ _ | .fieldAddr _ _ _ | .indexAddr _ _ _ | .binOp _ _ _ _ _ | .unOp _ _ _ | .field _ _ _ | .index _ _ _ | .extract _ _ | .nilCheck _ | .pick _ _ _ | .build _ _=>true
 | _=>false
theorem bind_value {s:Sem Value} {w w':World} {f:FuncId} {args:Array Value}:(do pure (Next.value (←s)):Sem Next).run P w≠.ok (.enter f args) w':=by
 rw[Sem.run_bind]
 cases s.run P w with
 | ok v w1=>intro h;cases h
 | halt x w1=>intro h;cases h
theorem bind_pick {s:Sem Bool} {x y:Value} {w w':World} {f:FuncId} {args:Array Value}:(do pure (Next.value (if ←s then x else y)):Sem Next).run P w≠.ok (.enter f args) w':=by
 rw[Sem.run_bind]
 cases s.run P w with
 | ok v w1=>intro h;cases h
 | halt x w1=>intro h;cases h
theorem panic_value {w w':World} {f:FuncId} {args:Array Value}:(runtimePanic .nilDeref:Sem Next).run P w≠.ok (.enter f args) w':=by
 intro h
 simp[runtimePanic,goPanic,go_sem]at h
theorem read_no_enter {o:Oper} (h:readB o=true) {ρ:Operand→Value} {w w':World} {f:FuncId} {args:Array Value}:(execOp ρ o).run P w≠.ok (.enter f args) w':=by
 unfold readB at h
 unfold execOp
 split at h
 all_goals first | cases h | skip
 all_goals rename_i heq;rw[heq]
 all_goals first | exact bind_value | exact bind_pick |(intro h;cases h;done) | skip
 all_goals
  simp only
  split
  ·exact panic_value
  ·exact panic_value
  ·exact panic_value
  ·split
   ·exact panic_value
   ·intro h
    rw[Sem.run_bind]at h
    cases h1:program.run P w with
    | halt x w1=>rw[h1]at h;cases h
    | ok p w1 =>
     rw[h1]at h
     simp only[Result.andThen_ok]at h
     rw[Sem.run_bind]at h
     generalize (nilAhead _ _ _ _).run P w1=q at h
     cases q with
     | halt x w2=>cases h
     | ok b w2 =>
      simp only[Result.andThen_ok]at h
      split at h
      ·rw[Sem.run_bind]at h
       simp only[unsupported]at h
       cases h
      ·cases h
   ·intro h;cases h
  ·intro h;cases h
def stepG (P:Program) (ops:Array Oper) (j:Nat) (K:Act→World→Prop) (a:Act) (w:World):Prop:=wpOp P ops (fun _ _ _=>False) j K a w
theorem noOut:¬LetsOut (fun _ _ _=>False):=fun ⟨_,_,h⟩=>h
theorem stepG_mono {j:Nat} {a:Act} {w:World} {K K':Act→World→Prop} (h:∀a w,K a w→K' a w) (hh:stepG P ops j K a w):stepG P ops j K' a w:=wpOp_mono h hh
theorem wp_monoQ {Q Q':Exit→Act→World→Prop} {o:Oper} {a:Act} {w:World} {K K':Act→World→Prop} (hK:∀a w,K a w→K' a w) (hQ:∀x a w,x≠.normal→Q x a w→Q' x a w) (hh:o.wp P a w K Q):o.wp P a w K' Q':=by
 have hout:LetsOut Q→LetsOut Q':=fun ⟨a,w,h⟩=>⟨a,w,hQ _ _ _ (by simp) h⟩
 unfold Oper.wp at *
 generalize (execOp a.eval o).run P w=r at *
 cases r with
 | ok n w' =>
  cases n <;> simp only[Oper.upon]at hh ⊢ <;>
   first
    | exact hK _ _ hh
    | exact Calls.mono hh (fun e w'' he=>by cases e <;> first | exact hK _ _ he | exact hQ _ _ _ (by simp) he | exact hout he)
    | exact Rows.mono hh (fun _ _ he=>hK _ _ he)
 | halt x w'=>cases x <;> simp only[Oper.upon]at hh ⊢ <;> exact hQ _ _ _ (by simp) hh
theorem wpOp_monoQ {Q Q':Exit→Act→World→Prop} {j:Nat} {a:Act} {w:World} {K K':Act→World→Prop} (hK:∀a w,K a w→K' a w) (hQ:∀x a w,x≠.normal→Q x a w→Q' x a w) (hh:wpOp P ops Q j K a w):wpOp P ops Q' j K' a w:=by
 have hout:LetsOut Q→LetsOut Q':=fun ⟨a,w,h⟩=>⟨a,w,hQ _ _ _ (by simp) h⟩
 unfold wpOp at *
 split
 ·exact hK _ _ (by simpa [*]using hh)
 ·rename_i o ho
  simp only[ho]at hh
  split
  ·rename_i hw
   simp only[hw,if_true]at hh
   exact hh.imp (wp_monoQ hK hQ) (fun h=>⟨h.1,hout h.2⟩)
  ·rename_i hw;simp only[hw]at hh;exact hK _ _ hh
theorem wpOp_of_stepG {Q:Exit→Act→World→Prop} {j:Nat} {a:Act} {w:World} {K:Act→World→Prop} (hh:stepG P ops j K a w):wpOp P ops Q j K a w :=
 wpOp_monoQ (fun _ _ h=>h) (fun _ _ _ _ h=>h.elim) hh
theorem stepG_list {j:Nat} {o:Oper} {a:Act} {w:World} {K:Act→World→Prop} (hj:ops[j]?=some o) (h:wpList P ops (fun x a w=>x=.normal∧K a w) [o] a w):stepG P ops j K a w:=by
 have h1:wpOp P ops (fun x a w=>x=.normal∧K a w) j (wpList P ops (fun x a w=>x=.normal∧K a w) []) a w:=by
  unfold wpOp
  simp only[hj]
  exact h
 exact wpOp_monoQ (fun a w h=>h.2) (fun x a w hx h=>absurd h.1 hx) h1
def ReadsIn (P:Program) (ops:Array Oper) (C:World→Prop) (o:Oper) (v:Value) (a:Act):Prop :=
 (Region.wanted o (yielded ops a.tmps)=true∧∀w,C w→(execOp a.eval o).run P w=.ok (.value v) w∨((execOp a.eval o).run P w=.ok .skip w∧v=undef)) ∨
 (Region.wanted o (yielded ops a.tmps)=false∧v=undef)
theorem ReadsIn.of_yields {o:Oper} {v:Value} {a:Act} (hr:readB o=true) (hy:YieldsIn P ops C o v a):ReadsIn P ops C o v a:=by
 rcases hy with⟨hw,h⟩ | h
 ·refine .inl ⟨hw,fun w hC=>?_⟩
  have:=h w hC
  unfold Oper.quietAt at this
  cases hx:(execOp a.eval o).run P w with
  | halt x w'=>rw[hx]at this;exact this.elim
  | ok n w' =>
   rw[hx]at this
   cases n with
   | value u=>obtain⟨rfl,rfl⟩:=this;exact .inl rfl
   | skip=>obtain⟨rfl,rfl⟩:=this;exact .inr ⟨rfl,rfl⟩
   | enter f args=>exact absurd hx (read_no_enter hr)
   | _=>exact this.elim
 ·exact .inr h
theorem ReadsIn.of_same {o:Oper} {v:Value} {a a':Act} (hy:ReadsIn P ops C o v a) (he:execOp a'.eval o=execOp a.eval o)
  (hw:Region.wanted o (yielded ops a'.tmps)=Region.wanted o (yielded ops a.tmps)):ReadsIn P ops C o v a':=by
 unfold ReadsIn at *
 rw[he,hw]
 exact hy
theorem ReadsIn.step {i:Nat} {o:Oper} {v:Value} {a:Act} {w:World} (hi:ops[i]?=some o) (hy:ReadsIn P ops C o v a) (hC:C w) {K:Act→World→Prop} (h:K (a.put o.dst v) w):stepG P ops i K a w:=by
 unfold stepG wpOp
 simp only[hi]
 rcases hy with⟨hw,hv⟩ | ⟨hw,rfl⟩
 ·rw[if_pos hw]
  left
  unfold Oper.wp
  rcases hv w hC with h1 | ⟨h1,rfl⟩
  ·rw[h1];exact h
  ·rw[h1];exact h
 ·rw[if_neg (by rw[hw];exact Bool.false_ne_true)]
  exact h
theorem stepG_put {j:Nat} {oi oj:Oper} {v:Value} (hj:ops[j]?=some oj) (hap:oi.apart ops oj=true)
  (hsi:∀cs b,oi.op≠.select cs b) (hsj:∀cs b,oj.op≠.select cs b) {K:Act→World→Prop} {a:Act} {w:World}
  (hy:ReadsIn P ops C oi v a) (h:stepG P ops j K (a.put oi.dst v) w) :
  stepG P ops j (fun a' w'=>ReadsIn P ops C oi v a'∧K (a'.put oi.dst v) w') a w:=by
 obtain⟨h1,h2,h3⟩:=Oper.apart_spec hap
 have keep:∀(a:Act),ReadsIn P ops C oi v a→∀u,ReadsIn P ops C oi v (a.put oj.dst u):=fun a hy u=>hy.of_same (execOp_put oi hsi a oj.dst u h3) (wanted_put oi a oj.dst u h3)
 unfold stepG wpOp at *
 simp only[hj]at *
 rw[wanted_put oj a oi.dst v h1]at h
 split
 ·rename_i hw
  simp only[hw,if_true]at h
  rcases h with h | h
  ·left
   unfold Oper.wp at *
   rw[execOp_put oj hsj a oi.dst v h1]at h
   generalize (execOp a.eval oj).run P w=r at *
   cases r with
   | halt x w'=>cases x <;> simp only[Oper.upon]at h ⊢
   | ok n w' =>
    cases n <;> simp only[Oper.upon]at h ⊢
    case value u=>exact⟨keep a hy _,by rw[←Act.put_comm a v _ h2];exact h⟩
    case skip=>exact⟨keep a hy _,by rw[←Act.put_comm a v _ h2];exact h⟩
    case defer d =>
     refine⟨keep { a with defers:=d :: a.defers } (hy.of_same rfl rfl) _,?_⟩
     rw[←Act.put_comm _ v _ h2,←Act.put_defers]
     exact h
    case enter f args =>
     refine Calls.mono h fun e w'' he=>?_
     cases e with
     | returned u=>exact⟨keep a hy u,by rw[←Act.put_comm a v _ h2];exact he⟩
     | panicked c=>exact he.elim
     | outgrown=>exact(noOut he).elim
    case row r args=>exact Rows.mono h fun u w'' he=>⟨keep a hy u,by rw[←Act.put_comm a v _ h2];exact he⟩
  ·exact(noOut h.2).elim
 ·rename_i hw
  simp only[hw]at h
  exact⟨keep a hy _,by rw[←Act.put_comm a v _ h2];exact h⟩
def needsB (md:Region.Mode) (ops:Array Oper):Nat→Nat→Nat→Bool
 | 0,_,_=>false
 | f+1,j,r=>((ops[j]?).map fun o=>o.after.any fun e=>Region.binds md e&&(e.on == r || needsB md ops f e.on r)).getD false
theorem needs_listed {n:Nat} {listed:Array Bool} (inv:HeadInv md ops n listed) (r:Nat) (f:Nat):∀j,needsB md ops f j r=true→(∀o,ops[j]?=some o→∀e∈o.after,Region.binds md e=true→listed.getD e.on false=true)→listed.getD r false=true:=by
 induction f with
 | zero=>intro j h _;cases h
 | succ f ih =>
  intro j h hl
  unfold needsB at h
  cases ho:ops[j]? with
  | none=>rw[ho]at h;cases h
  | some o =>
   rw[ho]at h
   simp only[Option.map_some,Option.getD_some,Array.any_eq_true',Bool.and_eq_true,Bool.or_eq_true,beq_iff_eq]at h
   obtain⟨e,he,hb,h⟩:=h
   have h1:=hl o ho e he hb
   rcases h with rfl | h
   ·exact h1
   ·exact ih e.on h (fun o' ho'=>inv.closed e.on o' ho' h1)
def early (late:List Nat) (i:Nat) (listed:Array Bool):Prop:=i ∉ late∧∀l∈late,listed.getD l false=false
def floatG (P:Program) (md:Region.Mode) (ops:Array Oper) (C:World→Prop) (late:List Nat) (n:Nat) (T:Array Bool→Act→World→Prop):Nat→Array Bool→Act→World→Prop
 | 0,listed,a,w=>T listed a w
 | f+1,listed,a,w=>Region.ready md ops listed≠[]∧∀i,i∈Region.ready md ops listed→i<n ∧
   stepG P ops i (fun a' w'=>(early late i listed→C w')∧floatG P md ops C late n T f (listed.setIfInBounds i true) a' w') a w
theorem floatG_run {late:List Nat} {n g:Nat} {T:Array Bool→Act→World→Prop} {Q:Exit→Act→World→Prop} (hT:∀listed a w,T listed a w→wpAny P md ops Q g listed a w) (f:Nat) :
  ∀(listed:Array Bool) (a:Act) (w:World),floatG P md ops C late n T f listed a w→wpAny P md ops Q (f+g) listed a w:=by
 induction f with
 | zero=>intro listed a w h;rw[Nat.zero_add];exact hT _ _ _ h
 | succ f ih =>
  intro listed a w h
  have e:f+1+g=(f+g)+1:=by omega
  rw[e]
  refine⟨fun h0=>absurd h0 h.1,fun i hi=>?_⟩
  exact wpOp_mono (fun a' w' h'=>ih _ a' w' h'.2) (wpOp_of_stepG (h.2 i hi).2)
theorem floatG_take {late:List Nat} {n i:Nat} {oi:Oper} {v:Value} {T:Array Bool→Act→World→Prop} (hi:ops[i]?=some oi) (hsel:∀(j:Nat) (o:Oper) cs b,ops[j]?=some o→o.op≠.select cs b)
  (hs:Region.sinkB md ops n=true) (hc:Region.chainB md ops n=true) (hn:n<ops.size) (hin:i<n) (hlate:∀j∈late,needsB md ops ops.size j i=true) (hT:∀listed a w,T listed a w→∀j∈Region.ready md ops listed,n≤j) (f:Nat) :
  ∀(listed:Array Bool) (a:Act) (w:World),C w→HeadInv md ops n listed →
   (∀j oj,ops[j]?=some oj→j≠i→listed.getD j true=false→(∀e∈oj.after,Region.binds md e=true→e.on≠i)→oi.apart ops oj=true) →
   i∈Region.ready md ops listed→ReadsIn P ops C oi v a→floatG P md ops C late n T f (listed.setIfInBounds i true) (a.put oi.dst v) w→floatG P md ops C late n T (f+1) listed a w:=by
 induction f with
 | zero =>
  intro listed a w hC inv _ hr hy H
  refine⟨List.ne_nil_of_mem hr,fun j hj=>?_⟩
  have hjn:=head_first hs hc hn inv hin hr hj
  by_cases hji:j=i
  ·subst hji;exact⟨hjn,hy.step hi hC ⟨fun _=>hC,H⟩⟩
  ·have:=hT _ _ _ H j (ready_mono hj hji)
   omega
 | succ f ih =>
  intro listed a w hC inv hap hr hy H
  refine⟨List.ne_nil_of_mem hr,fun j hj=>?_⟩
  have hjn:=head_first hs hc hn inv hin hr hj
  refine⟨hjn,?_⟩
  by_cases hji:j=i
  ·subst hji;exact hy.step hi hC ⟨fun _=>hC,H⟩
  ·obtain⟨hun,oj,hoj,hall⟩:=mem_ready.1 hj
   have hiun:=getD_both (mem_ready.1 hr).1
   have hwait:∀e∈oj.after,Region.binds md e=true→e.on≠i:=by
    intro e he hb heq
    have h1:=hall e he hb
    rw[heq,hiun]at h1
    cases h1
   have hnl:j ∉ late:=fun hl=>by
    have:=needs_listed inv i ops.size j (hlate j hl) (fun o ho e he hb=>by rw[hoj]at ho;cases ho;exact hall e he hb)
    rw[hiun]at this
    cases this
   have hun2:∀l∈late,(listed.setIfInBounds i true).getD l false=false:=fun l hl=>by
    by_cases hli:i=l
    ·subst hli
     obtain⟨_,oi',hoi',hall'⟩:=mem_ready.1 hr
     have:=needs_listed inv i ops.size i (hlate i hl) (fun o ho e he hb=>by rw[hoi']at ho;cases ho;exact hall' e he hb)
     rw[hiun]at this
     cases this
    ·rw[getD_set_ne false hli]
     cases hg:listed.getD l false with
     | false=>rfl
     | true =>
      have:=needs_listed inv i ops.size l (hlate l hl) (fun o ho e he hb=>inv.closed l o ho hg e he hb)
      rw[hiun]at this
      cases this
   have step:=stepG_put hoj (hap j oj hoj hji hun hwait) (fun cs b=>hsel i oi cs b hi) (fun cs b=>hsel j oj cs b hoj) hy ((H.2 j (ready_mono hj hji)).2)
   refine stepG_mono (fun a' w' h3=>?_) step
   have hC':=h3.2.1 ⟨hnl,hun2⟩
   refine⟨fun _=>hC',ih (listed.setIfInBounds j true) a' w' hC' (inv.set hj hjn) (fun k ok hk hki hkun hno=>?_) (ready_mono hr (Ne.symm hji)) h3.1 ?_⟩
   ·refine hap k ok hk hki ?_ hno
    by_cases hjk:j=k
    ·subst hjk;exact hun
    ·rwa [getD_set_ne true hjk]at hkun
   ·rw[Array.setIfInBounds_comm _ _ hji]
    exact h3.2.2
def readsB (md:Region.Mode) (ops:Array Oper) (n:Nat) (late:List Nat):List Nat→Array Bool→Bool
 | [],_=>true
 | k :: l,listed=>(Region.ready md ops listed).contains k&&Region.free md ops listed k&&decide (k<n)&&((ops[k]?).map readB).getD false&&late.all (fun j=>needsB md ops ops.size j k)&&readsB md ops n late l (listed.setIfInBounds k true)
theorem readsB_lt {late:List Nat} {n:Nat} (rd:List Nat):∀listed,readsB md ops n late rd listed=true→∀k∈rd,k<n:=by
 induction rd with
 | nil=>intro _ _ k hk;cases hk
 | cons k0 rd ih =>
  intro listed h k hk
  simp only[readsB,Bool.and_eq_true,decide_eq_true_eq]at h
  rcases List.mem_cons.1 hk with rfl | hk
  ·exact h.1.1.1.2
  ·exact ih _ h.2 k hk
def listedAll:List Nat→Array Bool→Array Bool
 | [],listed=>listed
 | k :: l,listed=>listedAll l (listed.setIfInBounds k true)
theorem floatG_lex {late:List Nat} {n m:Nat} {T:Array Bool→Act→World→Prop} (hsel:Region.noSelect ops=true) (hs:Region.sinkB md ops n=true) (hc:Region.chainB md ops n=true) (hn:n<ops.size)
  (hT:∀listed a w,T listed a w→∀j∈Region.ready md ops listed,n≤j) (rd:List Nat) :
  ∀(listed:Array Bool) (a:Act),HeadInv md ops n listed→readsB md ops n late rd listed=true→∀(l:List Oper),l.length=rd.length→(∀j,j<l.length→l[j]?=(rd[j]?).bind fun k=>ops[k]?) →
   wpQuiet P ops C (fun a'=>∀w',C w'→floatG P md ops C late n T m (listedAll rd listed) a' w') l a→∀w,C w→floatG P md ops C late n T (rd.length+m) listed a w:=by
 induction rd with
 | nil =>
  intro listed a inv hB l hlen hl h w hC
  obtain rfl:l = []:=by simpa using hlen
  rw[List.length_nil,Nat.zero_add]
  exact h w hC
 | cons k rd ih =>
  intro listed a inv hB l hlen hl h w hC
  cases l with
  | nil=>simp at hlen
  | cons o l =>
   have h0:ops[k]?=some o:=by
    have:=hl 0 (by simp)
    simpa using this.symm
   simp only[readsB,Bool.and_eq_true,decide_eq_true_eq,h0,Option.map_some,Option.getD_some,List.all_eq_true]at hB
   obtain⟨⟨⟨⟨⟨hr,hf⟩,hk⟩,hrd⟩,hlt⟩,hB'⟩:=hB
   have hr':k∈Region.ready md ops listed:=by simpa using hr
   have hq:qOp P ops C k (wpQuiet P ops C (fun a'=>∀w',C w'→floatG P md ops C late n T m (listedAll rd (listed.setIfInBounds k true)) a' w') l) a:=by
    unfold qOp
    simp only[h0]
    exact h
   obtain⟨v,hy,hK⟩:=yieldsIn_of_qOp h0 hq
   rw[List.length_cons,show rd.length+1+m=(rd.length+m)+1 by omega]
   refine floatG_take h0 (Region.noSelect_spec hsel) hs hc hn hk hlt hT (rd.length+m) listed a w hC inv (Region.free_spec h0 hf) hr' (ReadsIn.of_yields hrd hy) ?_
   refine ih _ _ (inv.set hr' hk) hB' l (by simpa using hlen) (fun j hj=>?_) hK w hC
   have:=hl (j+1) (by simp;omega)
   simpa using this
def onG (C:World→Prop) (b:Prop) (F:Act→World→Prop):Exit→Act→World→Prop:=fun x a w=>x=.normal∧(b→C w)∧F a w
theorem onG_mk {C:World→Prop} {b:Prop} {F:Act→World→Prop} {a:Act} {w:World} (h:b→C w) (h':F a w):onG C b F .normal a w:=⟨rfl,h,h'⟩
theorem floatG_one {late:List Nat} {n i f:Nat} {T:Array Bool→Act→World→Prop} {listed:Array Bool} {a:Act} {w:World} (hr:Region.ready md ops listed = [i]) (hi:i<n) {o:Oper} (ho:ops[i]?=some o)
  (h:wpList P ops (onG C (early late i listed) (floatG P md ops C late n T f (listed.setIfInBounds i true))) [o] a w):floatG P md ops C late n T (f+1) listed a w:=by
 refine⟨by rw[hr];simp,fun j hj=>?_⟩
 rw[hr]at hj
 obtain rfl:j=i:=by simpa using hj
 exact⟨hi,stepG_list ho h⟩
theorem oG{C0:World→Prop}{b:Prop}{F:Act→World→Prop}{a:Act}{w:World}(h:C0 w)(h':F a w):onG (fun w'=>∃p:Cls C0,w'=p.w) b F .normal a w:=onG_mk (fun _=>⟨⟨_,h⟩,rfl⟩) h'
theorem fG {late:List Nat} {n i f:Nat} {T:Array Bool→Act→World→Prop} {listed:Array Bool} {a:Act} {w:World} {o:Oper} (ho:ops[i]?=some o) (h:wpList P ops (onG C (early late i listed) (floatG P md ops C late n T f (listed.setIfInBounds i true))) [o] a w)(hr:Region.ready md ops listed=[i]:=by kernel_rfl)(hi:i<n:=by decide):floatG P md ops C late n T (f+1) listed a w:=floatG_one hr hi ho h
theorem floatG_two {late:List Nat} {n i i' f:Nat} {T:Array Bool→Act→World→Prop} {listed:Array Bool} {a:Act} {w:World} (hr:Region.ready md ops listed = [i,i']) (hi:i<n) (hi':i'<n) {o o':Oper} (ho:ops[i]?=some o) (ho':ops[i']?=some o')
  (h:wpList P ops (onG C (early late i listed) (floatG P md ops C late n T f (listed.setIfInBounds i true))) [o] a w)
  (h':wpList P ops (onG C (early late i' listed) (floatG P md ops C late n T f (listed.setIfInBounds i' true))) [o'] a w):floatG P md ops C late n T (f+1) listed a w:=by
 refine⟨by rw[hr];simp,fun j hj=>?_⟩
 rw[hr]at hj
 simp only[List.mem_cons,List.not_mem_nil,or_false]at hj
 rcases hj with rfl | rfl
 ·exact⟨hi,stepG_list ho h⟩
 ·exact⟨hi',stepG_list ho' h'⟩
end
def tailG (P:Program) (Q:Exit→Act→World→Prop) (l:List Oper) (n:Nat) (listed:Array Bool) (a:Act) (w:World):Prop:=Region.seqB .any l.toArray (l.toArray.size-n) n listed=true∧wpList P l.toArray Q (l.drop n) a w
def floatB (md:Region.Mode) (ops:Array Oper) (n m:Nat) (rd late:List Nat):Bool :=
 Region.noSelect ops&&decide (n<ops.size)&&Region.sinkB md ops n&&Region.chainB md ops n&&decide (rd.length+m=n)&&readsB md ops n late rd (Array.replicate ops.size false)
def noOper:Oper:=⟨none,.move (.const undef),0, "",#[],none⟩
def pickL (rd:List Nat) (l:List Oper):List Oper:=rd.map fun k=>(l[k]?).getD noOper
theorem wp_region_float (C:World→Prop) (n m:Nat) (rd late:List Nat) {P:Program} {id:Nat} {Q:Exit→Act→World→Prop} {a:Act} {w:World} {l:List Oper} (hC:C { w with drawn:=w.drawn+1 })
  (hm:P.follows .mixedOrders=true) (hB:floatB .any l.toArray n m rd late=true)
  (h:Nonempty (Cls C)→wpQuiet P l.toArray (fun w'=>∃p:Cls C,w'=p.w) (fun a'=>∀w',C w'→floatG P .any l.toArray (fun w'=>∃p:Cls C,w'=p.w) late n (tailG P Q l n) m (listedAll rd (Array.replicate l.toArray.size false)) a' w') (pickL rd l) a):(Code.region id l.toArray true).wp P Q a w:=by
 simp only[floatB,Bool.and_eq_true,decide_eq_true_eq]at hB
 obtain⟨⟨⟨⟨⟨hsel,hn⟩,hs⟩,hc⟩,hlen⟩,hlex⟩:=hB
 have hn':n<l.length:=by simpa using hn
 have hdl:(l.drop n).length=l.toArray.size-n:=by simp
 have inv0:HeadInv .any l.toArray n (Array.replicate l.toArray.size false):=by
  refine⟨by simp,fun j oj _ hl=>?_,fun t _ ht=>getD_in (by simpa using ht) (getD_replicate_false _ _)⟩
  rw[getD_replicate_false]at hl
  cases hl
 have H:=floatG_lex (P:=P) (C:=fun w'=>∃p:Cls C,w'=p.w) (md:=.any) (T:=tailG P Q l n) (m:=m) hsel hs hc hn (fun _ _ _ hT=>seqB_ready hT.1) rd _ a inv0 hlex (pickL rd l) (by simp[pickL]) (fun j hj=>by
  have hj':j<rd.length:=by simpa [pickL]using hj
  have hk:=readsB_lt rd _ hlex rd[j] (List.getElem_mem hj')
  have hk':rd[j]<l.length:=by omega
  simp[pickL,hj',hk']) (by
  have e:(fun a'=>∀w',(∃p:Cls C,w'=p.w)→floatG P .any l.toArray (fun w'=>∃p:Cls C,w'=p.w) late n (tailG P Q l n) m (listedAll rd (Array.replicate l.toArray.size false)) a' w')=(fun a'=>∀w',C w'→floatG P .any l.toArray (fun w'=>∃p:Cls C,w'=p.w) late n (tailG P Q l n) m (listedAll rd (Array.replicate l.toArray.size false)) a' w'):=by
   funext a'
   apply propext
   constructor
   ·intro h w' hw
    exact h w' ⟨⟨w',hw⟩,rfl⟩
   ·rintro h w' ⟨p,rfl⟩
    exact h p.w p.h
  rw[e]
  exact h ⟨⟨_,hC⟩⟩) _ ⟨⟨_,hC⟩,rfl⟩
 refine wp_region_any hm ?_
 have:=floatG_run (Q:=Q) (g:=l.toArray.size-n) (fun listed a' w' hT=>by
  have:=wpAny_of_seq (md:=.any) (Q':=Q) (l.drop n) n listed a' w' (fun j=>by simp[List.getElem?_drop]) (by rw[hdl];exact hT.1) hT.2
  rwa [hdl]at this) _ _ _ _ H
 rw[hlen,show n+(l.toArray.size-n)=l.toArray.size by omega]at this
 exact this
end Go.Proofs.YtmjilfamjlnigaaGreat.Kit
namespace Go.Proofs.YtmjilfamjlnigaaGreat.MchW
open Go Go.RowKit Kit SrcP SrcW
def KeptS (S:Nat→Prop) (w w':World):Prop :=
 w'.os=w.os∧w'.tape=w.tape∧w'.output=w.output∧w.heap.size≤w'.heap.size∧∀k,k<w.heap.size→¬S k→w'.heap[k]?=w.heap[k]?
section
variable {S:Nat→Prop} {w w1 w2:World}
theorem KeptS.refl (S:Nat→Prop) (w:World):KeptS S w w:=⟨rfl,rfl,rfl,Nat.le_refl _,fun _ _ _=>rfl⟩
theorem KeptS.trans (h:KeptS S w w1) (k:KeptS S w1 w2):KeptS S w w2 :=
 ⟨k.1.trans h.1,k.2.1.trans h.2.1,k.2.2.1.trans h.2.2.1,Nat.le_trans h.2.2.2.1 k.2.2.2.1,fun i hi hg=>(k.2.2.2.2 i (Nat.lt_of_lt_of_le hi h.2.2.2.1) hg).trans (h.2.2.2.2 i hi hg)⟩
theorem KeptS.mono {S':Nat→Prop} (h:KeptS S w w1) (hs:∀k,S k→S' k):KeptS S' w w1:=⟨h.1,h.2.1,h.2.2.1,h.2.2.2.1,fun k hk hn=>h.2.2.2.2 k hk (fun h=>hn (hs k h))⟩
theorem KeptS.of_below (h:Below w.heap.size w w1):KeptS S w w1:=⟨h.os,h.tape,h.output,h.size,fun k hk _=>h.block k hk⟩
theorem KeptS.dn (h:KeptS S w w1) (n:Nat):KeptS S w (w1.drewN n):=h
theorem KeptS.al (h:KeptS S w w1) (o:Obj):KeptS S w (w1.alloc o):=h.trans (KeptS.of_below (Kit.Below.al (Below.refl _ _) o))
theorem KeptS.set (h:KeptS S w w1) {g:Nat} (hg:S g) (i:Nat) (u:Value):KeptS S w (w1.setCell ⟨g,i,none⟩ u) :=
 h.trans ⟨rfl,rfl,rfl,by simp[World.setCell],fun k _ hn=>Below.heap_setCell _ _ _ _ (fun e=>hn (by rw[e];exact hg))⟩
theorem KeptS.setN (h:KeptS S w w1) {g i:Nat} (hg:w.heap.size≤g) (u:Value):KeptS S w (w1.setCell ⟨g,i,none⟩ u) :=
 ⟨h.1,h.2.1,h.2.2.1,by simp[World.setCell];exact h.2.2.2.1,fun k hk hn=>(Below.heap_setCell _ ⟨g,i,none⟩ _ _ (by simp only;omega)).trans (h.2.2.2.2 k hk hn)⟩
theorem KeptS.blk (h:KeptS S w w1) {g:Nat} {t:TypeId} {cs:Array Value} (hb:Blk w g t cs) (hg:¬S g):Blk w1 g t cs:=(h.2.2.2.2 g hb.lt hg).trans hb
theorem KeptS.size (h:KeptS S w w1):w.heap.size≤w1.heap.size:=h.2.2.2.1
theorem KeptS.still {T:TypeId→Prop} (h:KeptS S w w1) (hs:∀k,S k→∃t cs,Blk w k t cs∧¬T t):Still T w w1:=fun k cs t fr hk hh=>by
 rw[h.2.2.2.2 k]
 ·exact hk
 ·rcases Nat.lt_or_ge k w.heap.size with h | h
  ·exact h
  ·rw[Array.getElem?_eq_none h]at hk;cases hk
 ·intro hS
  obtain⟨t',cs',hb,hn⟩:=hs k hS
  unfold Blk at hb
  rw[hb]at hk
  injection hk with hk
  injection hk with _ hk
  subst hk
  exact hn hh
end
def wantC (x:Want):List Value:=[.int .i64 x.what,.int .i64 x.loc,.int .i64 x.mode,.int .u64 x.val,.bool x.ex,.bool x.one]
def machC (tl:Int) (va:Value) (gl nl:Nat) (m:Mch):Array Value :=
 #[.int .i64 tl,va,.int .i64 m.at_,.slice (some ⟨gl,0,none⟩) nl nl,.int .i64 m.now.what,.int .i64 m.now.loc,.int .i64 m.now.mode,.int .u64 m.now.val,.bool m.now.ex,.bool m.now.one,.bool m.asked,.int .u64 m.old,.bool m.opn]
structure MachM (w:World) (g gl:Nat) (tl:Int) (va:Value) (nl:Nat) (m:Mch):Prop where
 blk:Blk w g 170 (machC tl va gl nl m)
 loc:Blk w gl 40 (m.locals.map u64V).toArray
 acts:ActsS w va m.acts
theorem MachM.below {w w':World} {g gl nl:Nat} {tl:Int} {va:Value} {m:Mch} (h:MachM w g gl tl va nl m) (hb:Below w.heap.size w w'):MachM w' g gl tl va nl m :=
 ⟨h.blk.below' hb,h.loc.below' hb,h.acts.still (Still.below hb)⟩
theorem MachM.ne {w:World} {g gl nl:Nat} {tl:Int} {va:Value} {m:Mch} (h:MachM w g gl tl va nl m):g≠gl:=by
 rintro rfl
 have h1:=h.blk
 have h2:=h.loc
 unfold Blk at h1 h2
 rw[h1]at h2
 injection h2 with h2
 injection h2 with _ h2
 cases h2
theorem MachM.locals {w:World} {g gl nl:Nat} {tl:Int} {va:Value} {m:Mch} (h:MachM w g gl tl va nl m) (hl:∀x∈m.locals,x<M64) (_hlen:m.locals.length=nl):U64At w (.slice (some ⟨gl,0,none⟩) m.locals.length nl) m.locals:=by
 refine⟨_,_,rfl,fun i x hi=>⟨hl x (List.mem_of_getElem? hi),⟨gl,0,none⟩,rfl,?_⟩⟩
 rw[show(Addr.add ⟨gl,0,none⟩ i)=⟨gl,i,none⟩ by simp[Addr.add];exact fun h=>h.symm,h.loc.cell]
 simp[hi,u64V]
set_option maxRecDepth 100000 in
set_option maxHeartbeats 4000000 in
theorem own_any (a:SrcP.Act) (I E F:Option Addr) (li ci le ce lf cf:Nat) (w:World):Calls Tryz.prog 219 #[.agg (actC a (.slice I li ci) (.slice E le ce) (.slice F lf cf))] w fun r w'=>r=.returned (.bool (ownB a))∧Below w.heap.size w w':=by
 obtain⟨op,dst,base,size,index,e,f,mode,to_,line,col⟩:=a
 unfold actC ownB
 simp only
 by_cases h1:op=1
 ·subst h1
  go_enter Tryz.func219,Tryz.ntmps219
  go_wp2_with fail
  go_ret
  refine⟨Kit.cB ?_,Kit.bl1⟩
  rfl
 have q1:(op == 1)=false:=by simp[h1]
 by_cases h9:op=9
 ·subst h9
  go_enter Tryz.func219,Tryz.ntmps219
  go_wp2_with fail
  go_ret
  refine⟨Kit.cB ?_,Kit.bl1⟩
  rfl
 have q9:(op == 9)=false:=by simp[h9]
 by_cases h10:op=10
 ·subst h10
  go_enter Tryz.func219,Tryz.ntmps219
  go_wp2_with fail
  go_ret
  refine⟨Kit.cB ?_,Kit.bl1⟩
  rfl
 have q10:(op == 10)=false:=by simp[h10]
 go_enter Tryz.func219,Tryz.ntmps219
 go_wp2_with fail
 go_ret
 refine⟨Kit.cB ?_,Kit.bl1⟩
 simp[q1,q9,q10]
theorem reading_ix (mode:Int) (h1:1≤mode) (h2:mode≤5) (w:World):(Instr.index 330 (.agg (#[0,1,2,1,2,5].map fun x:Int=>Value.int .i64 x)) (.int .i64 mode)).run Tryz.prog w=.ok (.int .i64 (reading mode)) w:=by
 have t1:(Instr.index 330 (.agg (#[0,1,2,1,2,5].map fun x:Int=>Value.int .i64 x)) (.int .i64 1)).run Tryz.prog w=.ok (.int .i64 (reading 1)) w:=by kernel_rfl
 have t2:(Instr.index 330 (.agg (#[0,1,2,1,2,5].map fun x:Int=>Value.int .i64 x)) (.int .i64 2)).run Tryz.prog w=.ok (.int .i64 (reading 2)) w:=by kernel_rfl
 have t3:(Instr.index 330 (.agg (#[0,1,2,1,2,5].map fun x:Int=>Value.int .i64 x)) (.int .i64 3)).run Tryz.prog w=.ok (.int .i64 (reading 3)) w:=by kernel_rfl
 have t4:(Instr.index 330 (.agg (#[0,1,2,1,2,5].map fun x:Int=>Value.int .i64 x)) (.int .i64 4)).run Tryz.prog w=.ok (.int .i64 (reading 4)) w:=by kernel_rfl
 have t5:(Instr.index 330 (.agg (#[0,1,2,1,2,5].map fun x:Int=>Value.int .i64 x)) (.int .i64 5)).run Tryz.prog w=.ok (.int .i64 (reading 5)) w:=by kernel_rfl
 have h:mode=1∨mode=2∨mode=3∨mode=4∨mode=5:=by omega
 rcases h with rfl | rfl | rfl | rfl | rfl
 ·exact t1
 ·exact t2
 ·exact t3
 ·exact t4
 ·exact t5
set_option maxRecDepth 100000 in
theorem reading_any (mode:Int) (h1:1≤mode) (h2:mode≤5) (w:World):Calls Tryz.prog 232 #[.int .i64 mode] w fun r w'=>r=.returned (.int .i64 (reading mode))∧w'=w:=by
 have hix:=fun w=>reading_ix mode h1 h2 w
 simp only[List.map_toArray,List.map_cons,List.map_nil]at hix
 generalize reading mode=x at *
 go_enter Tryz.func232,Tryz.ntmps232
 go_wp2_with fail
 go_ret
 exact⟨rfl,rfl⟩
theorem writing_ix (mode:Int) (h1:1≤mode) (h2:mode≤5) (w:World):(Instr.index 330 (.agg (#[0,1,1,3,3,5].map fun x:Int=>Value.int .i64 x)) (.int .i64 mode)).run Tryz.prog w=.ok (.int .i64 (writing mode)) w:=by
 have t1:(Instr.index 330 (.agg (#[0,1,1,3,3,5].map fun x:Int=>Value.int .i64 x)) (.int .i64 1)).run Tryz.prog w=.ok (.int .i64 (writing 1)) w:=by kernel_rfl
 have t2:(Instr.index 330 (.agg (#[0,1,1,3,3,5].map fun x:Int=>Value.int .i64 x)) (.int .i64 2)).run Tryz.prog w=.ok (.int .i64 (writing 2)) w:=by kernel_rfl
 have t3:(Instr.index 330 (.agg (#[0,1,1,3,3,5].map fun x:Int=>Value.int .i64 x)) (.int .i64 3)).run Tryz.prog w=.ok (.int .i64 (writing 3)) w:=by kernel_rfl
 have t4:(Instr.index 330 (.agg (#[0,1,1,3,3,5].map fun x:Int=>Value.int .i64 x)) (.int .i64 4)).run Tryz.prog w=.ok (.int .i64 (writing 4)) w:=by kernel_rfl
 have t5:(Instr.index 330 (.agg (#[0,1,1,3,3,5].map fun x:Int=>Value.int .i64 x)) (.int .i64 5)).run Tryz.prog w=.ok (.int .i64 (writing 5)) w:=by kernel_rfl
 have h:mode=1∨mode=2∨mode=3∨mode=4∨mode=5:=by omega
 rcases h with rfl | rfl | rfl | rfl | rfl
 ·exact t1
 ·exact t2
 ·exact t3
 ·exact t4
 ·exact t5
set_option maxRecDepth 100000 in
theorem writing_any (mode:Int) (h1:1≤mode) (h2:mode≤5) (w:World):Calls Tryz.prog 233 #[.int .i64 mode] w fun r w'=>r=.returned (.int .i64 (writing mode))∧w'=w:=by
 have hix:=fun w=>writing_ix mode h1 h2 w
 simp only[List.map_toArray,List.map_cons,List.map_nil]at hix
 generalize writing mode=x at *
 go_enter Tryz.func233,Tryz.ntmps233
 go_wp2_with fail
 go_ret
 exact⟨rfl,rfl⟩
def worksV:Array Value:=#[.nilFunc,.func (.func 222) #[] #[],.func (.func 223) #[] #[],.func (.func 224) #[] #[],.func (.func 225) #[] #[],.func (.func 225) #[] #[],.func (.func 225) #[] #[],.func (.func 226) #[] #[],.func (.func 227) #[] #[],.func (.func 228) #[] #[],.func (.func 229) #[] #[]]
def workOf (op:Int):Nat:=if op=1 then 222 else if op=2 then 223 else if op=3 then 224 else if op=7 then 226 else if op=8 then 227 else if op=9 then 228 else if op=10 then 229 else 225
theorem works_ix (op:Int) (h1:1≤op) (h2:op≤10) (w:World):(Instr.index 323 (.agg worksV) (.int .i64 op)).run Tryz.prog w=.ok (.func (.func (workOf op)) #[] #[]) w:=by
 have t1:(Instr.index 323 (.agg worksV) (.int .i64 1)).run Tryz.prog w=.ok (.func (.func (workOf 1)) #[] #[]) w:=by kernel_rfl
 have t2:(Instr.index 323 (.agg worksV) (.int .i64 2)).run Tryz.prog w=.ok (.func (.func (workOf 2)) #[] #[]) w:=by kernel_rfl
 have t3:(Instr.index 323 (.agg worksV) (.int .i64 3)).run Tryz.prog w=.ok (.func (.func (workOf 3)) #[] #[]) w:=by kernel_rfl
 have t4:(Instr.index 323 (.agg worksV) (.int .i64 4)).run Tryz.prog w=.ok (.func (.func (workOf 4)) #[] #[]) w:=by kernel_rfl
 have t5:(Instr.index 323 (.agg worksV) (.int .i64 5)).run Tryz.prog w=.ok (.func (.func (workOf 5)) #[] #[]) w:=by kernel_rfl
 have t6:(Instr.index 323 (.agg worksV) (.int .i64 6)).run Tryz.prog w=.ok (.func (.func (workOf 6)) #[] #[]) w:=by kernel_rfl
 have t7:(Instr.index 323 (.agg worksV) (.int .i64 7)).run Tryz.prog w=.ok (.func (.func (workOf 7)) #[] #[]) w:=by kernel_rfl
 have t8:(Instr.index 323 (.agg worksV) (.int .i64 8)).run Tryz.prog w=.ok (.func (.func (workOf 8)) #[] #[]) w:=by kernel_rfl
 have t9:(Instr.index 323 (.agg worksV) (.int .i64 9)).run Tryz.prog w=.ok (.func (.func (workOf 9)) #[] #[]) w:=by kernel_rfl
 have t10:(Instr.index 323 (.agg worksV) (.int .i64 10)).run Tryz.prog w=.ok (.func (.func (workOf 10)) #[] #[]) w:=by kernel_rfl
 have h:op=1∨op=2∨op=3∨op=4∨op=5∨op=6∨op=7∨op=8∨op=9∨op=10:=by omega
 rcases h with rfl | rfl | rfl | rfl | rfl | rfl | rfl | rfl | rfl | rfl
 ·exact t1
 ·exact t2
 ·exact t3
 ·exact t4
 ·exact t5
 ·exact t6
 ·exact t7
 ·exact t8
 ·exact t9
 ·exact t10
theorem works_any (w:World):Calls Tryz.prog 218 #[] w fun r w'=>r=.returned (.agg worksV)∧Below w.heap.size w w':=by
 unfold worksV
 go_enter Tryz.func218,Tryz.ntmps218
 go_wp2_with fail
 exact bodyPost_ret (v:=.agg worksV) (by simp[results,Tryz.results218,go_sem,worksV]) rfl ⟨rfl,Kit.bl1⟩
end Go.Proofs.YtmjilfamjlnigaaGreat.MchW
