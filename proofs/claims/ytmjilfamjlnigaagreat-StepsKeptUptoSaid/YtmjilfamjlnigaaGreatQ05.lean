/- WALKS: nodes are copied. -/
import Derived.Test.YtmjilfamjlnigaaGreatQ04
import Derived.Deep.AppendLies
namespace Go.Proofs.YtmjilfamjlnigaaGreat.NewW
open Go Go.RowKit Kit SrcP SrcW
theorem nilOk_some (ad:Addr) (n c:Nat):NilOk (.slice (some ad) n c):=fun n' c' h=>by
 injection h with h
 cases h
theorem nilOk_none (n:Nat):NilOk (.slice none n 0):=fun n' c' h=>by
 injection h with _ _ h
 exact h.symm
theorem flat_get {α:Type} (f:α→List Value) (k:Nat) (hf:∀a,(f a).length=k) (l:List α):∀(i r:Nat) (a:α),l[i]?=some a→r<k→(l.flatMap f)[i*k+r]?=(f a)[r]?:=by
 induction l with
 | nil=>intro i r a h;simp at h
 | cons b l ih =>
  intro i r a h hr
  rw[List.flatMap_cons]
  cases i with
  | zero =>
   simp only[List.getElem?_cons_zero,Option.some.injEq]at h
   subst h
   rw[Nat.zero_mul,Nat.zero_add,List.getElem?_append_left (by rw[hf];exact hr)]
  | succ i =>
   simp only[List.getElem?_cons_succ]at h
   rw[List.getElem?_append_right (by rw[hf,Nat.succ_mul];omega),hf]
   rw[show(i+1)*k+r-k=i*k+r by rw[Nat.succ_mul];omega]
   exact ih i r a h hr
theorem flat_len {α:Type} (f:α→List Value) (k:Nat) (hf:∀a,(f a).length=k) (l:List α):(l.flatMap f).length=l.length*k:=by
 induction l with
 | nil=>simp
 | cons b l ih=>rw[List.flatMap_cons,List.length_append,hf,ih,List.length_cons,Nat.succ_mul];omega
theorem flat_some {α:Type} (f:α→List Value) (k:Nat) (hk:0<k) (hf:∀a,(f a).length=k) (l:List α) (j:Nat) (u:Value) (h:(l.flatMap f)[j]?=some u):∃i r a,j=i*k+r∧r<k∧l[i]?=some a∧(f a)[r]?=some u:=by
 have hj:j<l.length*k:=by
  have:=(List.getElem?_eq_some_iff.1 h).1
  rwa [flat_len f k hf]at this
 have hi:j / k<l.length:=by rw[Nat.div_lt_iff_lt_mul hk];exact hj
 have hr:j % k<k:=Nat.mod_lt _ hk
 have e:j / k*k+j % k=j:=by rw[Nat.mul_comm];exact Nat.div_add_mod j k
 refine⟨j / k,j % k,l[j / k],e.symm,hr,by simp[hi],?_⟩
 rw[←flat_get f k hf l (j / k) (j % k) l[j / k] (by simp[hi]) hr,e]
 exact h
theorem add_add (a:Addr) (n m:Nat):(a.add n).add m=a.add (n+m):=by
 unfold Addr.add
 split <;> split <;> simp_all <;> omega
theorem nodes_own {w:World} {base n:Nat} {v:Value} {l:List SrcP.Node} (h:w.ownsRow base 112 4 v n (l.flatMap nodeC)) (hn:n=l.length) (hlt:∀x∈l,x.val<M64):NodesS w v l:=by
 subst hn
 intro w' hs
 rcases h.2 with⟨rfl,h0⟩ | ⟨g,cap,cur,rfl,_,hb,hc,_,_,ht⟩
 ·refine⟨none,0,by rw[h0],fun i a hi=>?_⟩
  have:=(List.getElem?_eq_some_iff.1 hi).1
  omega
 ·refine⟨some ⟨g,0,none⟩,cap,rfl,fun i a hi=>⟨hlt a (List.mem_of_getElem? hi),_,rfl,fun j u hj=>?_⟩⟩
  have hb':=hs g cur 112 (0,0) hb rfl
  have hj4:j<4:=(List.getElem?_eq_some_iff.1 hj).1
  have hget:=flat_get nodeC 4 (fun _=>rfl) l i j a hi hj4
  rw[hj,←ht,List.getElem?_take]at hget
  split at hget
  ·rw[add_add,show Addr.add ⟨g,0,none⟩ (i*4+j)=⟨g,i*4+j,none⟩ by unfold Addr.add;split <;> simp_all]
   rw[World.cell?,hb']
   simpa using hget
  ·cases hget
theorem info_node:(Tryz.prog.info? 112).map (fun i=>(i.zero,i.size,i.bytes))=some (some (.agg #[.int .i64 0,.int .u64 0,.int .i64 0,.int .i64 0]),4,32):=by kernel_rfl
theorem nil_nodes (w:World):(binOp .eql 56 (.slice none 0 0) (.slice none 0 0)).run Tryz.prog w=.ok (.bool true) w:=by kernel_rfl
theorem some_nodes (ad:Addr) (n c:Nat) (w:World):(binOp .eql 56 (.slice (some ad) n c) (.slice none 0 0)).run Tryz.prog w=.ok (.bool false) w:=by kernel_rfl
theorem nil_acts (w:World):(binOp .eql 55 (.slice none 0 0) (.slice none 0 0)).run Tryz.prog w=.ok (.bool true) w:=by kernel_rfl
theorem some_acts (ad:Addr) (n c:Nat) (w:World):(binOp .eql 55 (.slice (some ad) n c) (.slice none 0 0)).run Tryz.prog w=.ok (.bool false) w:=by kernel_rfl
set_option maxRecDepth 100000 in
set_option maxHeartbeats 4000000 in
theorem cloneNode_any (w:World) (v:Value) (l:List SrcP.Node) (hl:NodesAt w v l) (hnil:NilOk v) (hlen:l.length≤1048576) :
  Calls Tryz.prog 61 #[v] w fun r w'=>∃B d,r=.returned (.slice B l.length d)∧NodesS w' (.slice B l.length d) l∧NilOk (.slice B l.length d)∧Below w.heap.size w w':=by
 obtain⟨A,c,rfl,hE⟩:=hl
 cases A with
 | none =>
  cases l with
  | cons n l=>obtain⟨_,ad,h,_⟩:=hE 0 n rfl;cases h
  | nil =>
   obtain rfl:c=0:=hnil _ _ rfl
   clear hnil
   simp only[List.length_nil]
   have hnn:=nil_nodes w
   go_enter Tryz.func61,Tryz.ntmps61
   go_wp2_with fail
   go_ret
   exact⟨none,0,rfl,fun w' _=>⟨none,0,rfl,fun i n h=>by simp at h⟩,nilOk_none _,Below.refl _ _⟩
 | some ad =>
  have hE2:∀i n,l[i]?=some n→n.val<M64∧CellsAt w (ad.add (i*4)) (nodeC n):=fun i n hi=>by
   obtain⟨h1,ad',h3,h2⟩:=hE i n hi
   injection h3 with h3
   subst h3
   exact⟨h1,h2⟩
  clear hE hnil
  have hsn:=fun n c w=>some_nodes ad n c w
  obtain⟨i0,hi0,hz0,hz1,hz2⟩:=info_parts info_node
  have hlt:∀x∈l,x.val<M64:=fun x hx=>by
   obtain⟨i,hi⟩:=List.getElem?_of_mem hx
   exact(hE2 i x hi).1
  by_cases hl0:l = []
  ·subst hl0
   simp only[List.length_nil]
   go_enter Tryz.func61,Tryz.ntmps61
   go_wp2_with fail
   go_ret
   exact⟨some ⟨w.heap.size,0,none⟩,0,rfl,fun w' _=>⟨_,_,rfl,fun i n h=>by simp at h⟩,nilOk_some _ _ _,Kit.bl1⟩
  ·have hpos:0<l.length:=List.length_pos_iff.2 hl0
   have HO:(w.alloc (.cells #[] 112)).ownsRow w.heap.size 112 4 (.slice (some ⟨w.heap.size,0,none⟩) 0 0) 0 [] :=
    ⟨rfl,.inr ⟨w.heap.size,0,#[],rfl,Nat.le_refl _,heap_alloc_new w _,Nat.le_refl _,by decide,rfl,rfl⟩⟩
   have HN:∀j u,(l.flatMap nodeC)[j]?=some u→(w.alloc (.cells #[] 112)).cell? (ad.add j)=some u:=fun j u h=>by
    obtain⟨i,r,a,rfl,hr,hi,hu⟩:=flat_some nodeC 4 (by omega) (fun _=>rfl) l j u h
    rw[←add_add]
    exact cellA1 ((hE2 i a hi).2 r u hu) _
   have H1:∀u∈l.flatMap nodeC,u.oneCell'=true:=fun u hu=>by
    rw[List.mem_flatMap]at hu
    obtain⟨a,_,hu⟩:=hu
    simp only[nodeC,List.mem_cons,List.not_mem_nil,or_false]at hu
    rcases hu with rfl | rfl | rfl | rfl <;> rfl
   have hml:(1048576:Nat)≤maxLen:=by decide
   have HL:=flat_len nodeC 4 (fun _=>rfl) l
   have HO:=Lib.hid HO
   have HN:=Lib.hid HN
   have HLN:=Lib.hid HL
   have H1:=Lib.hid H1
   clear HL
   go_enter Tryz.func61,Tryz.ntmps61
   go_wp2_with (at_builtin;refine wpList_append_lies _ (by rfl) _ _ _ (by rfl) w.heap.size 112 i0 _ 4 32 Tryz.underlying56 hi0 hz0 hz1 hz2 rfl (by omega) (.slice (some ⟨w.heap.size,0,none⟩) 0 0) 0 [] (by rfl) HO.out ad l.length c (l.flatMap nodeC) (by rfl) HLN.out HN.out H1.out (by omega) (by omega) (by omega) (by simp) _ rfl ?_;intro g' cap w6 hown6 hgrow hat hlt6)
   rw[Nat.zero_add,List.nil_append]at hown6
   go_ret
   exact⟨_,cap,rfl,nodes_own hown6 rfl hlt,nilOk_some _ _ _,(Kit.Below.al (Below.refl w.heap.size w) _).grown hgrow (by simp) (fun j hj=>OwnR.own_base HO.out hj)⟩
theorem choose_list {α β:Type} (l:List α):∀(P:Nat→α→β→Prop),(∀i a,l[i]?=some a→∃b,P i a b)→∃vs:List β,vs.length=l.length∧∀i a b,l[i]?=some a→vs[i]?=some b→P i a b:=by
 induction l with
 | nil=>intro P _;exact⟨[],rfl,fun i a b h=>by simp at h⟩
 | cons x l ih =>
  intro P h
  obtain⟨b,hb⟩:=h 0 x rfl
  obtain⟨vs,h1,h2⟩:=ih (fun i=>P (i+1)) (fun i a hi=>h (i+1) a (by simpa using hi))
  refine⟨b :: vs,by simp[h1],fun i a c hi hc=>?_⟩
  cases i with
  | zero =>
   simp only[List.getElem?_cons_zero,Option.some.injEq]at hi hc
   subst hi hc
   exact hb
  | succ i =>
   simp only[List.getElem?_cons_succ]at hi hc
   exact h2 i a c hi hc
abbrev VVV:=Value × Value × Value
def actP (p:SrcP.Act × VVV):List Value:=(actC p.1 p.2.1 p.2.2.1 p.2.2.2).toList
def actsC (l:List SrcP.Act) (vs:List VVV):List Value:=(l.zip vs).flatMap actP
theorem info_act:(Tryz.prog.info? 58).map (fun i=>(i.zero,i.size,i.bytes))=some (some (.agg #[.int .i64 0,.int .i64 0,.int .i64 0,.int .i64 0,.slice none 0 0,.slice none 0 0,.slice none 0 0,.int .i64 0,.int .i64 0,.int .i64 0,.int .i64 0]),11,136):=by kernel_rfl
theorem actP_one {w:World} {a:SrcP.Act} {t:VVV} (h:ActV w t.1 t.2.1 t.2.2 a):∀u∈actP (a,t),u.oneCell'=true:=by
 obtain⟨vi,ve,vf⟩:=t
 obtain⟨I,ci,h1,_⟩:=h.index
 obtain⟨E,ce,h2,_⟩:=h.e
 obtain⟨F,cf,h3,_⟩:=h.f
 simp only at h1 h2 h3
 subst h1 h2 h3
 intro u hu
 simp only[actP,actC,List.mem_cons,List.not_mem_nil,or_false]at hu
 rcases hu with rfl | rfl | rfl | rfl | rfl | rfl | rfl | rfl | rfl | rfl | rfl <;> rfl
set_option maxRecDepth 100000 in
set_option maxHeartbeats 4000000 in
theorem cloneAct_any (w0 w:World) (hbw:Below w0.heap.size w0 w) (v:Value) (l:List SrcP.Act) (hl:ActsAt w0 v l) (hnil:NilOk v) (hlen:l.length≤1048576) :
  Calls Tryz.prog 60 #[v] w fun r w'=>∃B d vs,r=.returned (.slice B l.length d)∧vs.length=l.length∧w'.ownsRow w.heap.size 58 11 (.slice B l.length d) l.length (actsC l vs)∧(∀(i:Nat) (a:SrcP.Act) (t:VVV),l[i]?=some a→vs[i]?=some t→ActV w0 t.1 t.2.1 t.2.2 a)∧NilOk (.slice B l.length d)∧Below w.heap.size w w':=by
 obtain⟨A,c,rfl,hE⟩:=hl
 cases A with
 | none =>
  cases l with
  | cons n l=>obtain⟨ad,_,_,_,h,_⟩:=hE 0 n rfl;cases h
  | nil =>
   obtain rfl:c=0:=hnil _ _ rfl
   clear hnil
   simp only[List.length_nil]
   have hnn:=nil_acts w
   go_enter Tryz.func60,Tryz.ntmps60
   go_wp2_with fail
   go_ret
   exact⟨none,0,[],rfl,rfl,⟨rfl,.inl ⟨rfl,rfl⟩⟩,fun i a t h=>by simp at h,nilOk_none _,Below.refl _ _⟩
 | some ad =>
  obtain⟨vs,hvl,hvs⟩:=choose_list (β:=VVV) l (fun i a t=>CellsAt w0 (ad.add (i*11)) (actC a t.1 t.2.1 t.2.2).toList∧ActV w0 t.1 t.2.1 t.2.2 a) (fun i a hi=>by
   obtain⟨ad',vi,ve,vf,h3,h1,h2⟩:=hE i a hi
   injection h3 with h3
   subst h3
   exact⟨(vi,ve,vf),h1,h2⟩)
  clear hE hnil
  have hsn:=fun n c w=>some_acts ad n c w
  obtain⟨i0,hi0,hz0,hz1,hz2⟩:=info_parts info_act
  have HVS:=Lib.hid hvs
  clear hvs
  by_cases hl0:l = []
  ·subst hl0
   simp only[List.length_nil]
   go_enter Tryz.func60,Tryz.ntmps60
   go_wp2_with fail
   go_ret
   exact⟨some ⟨w.heap.size,0,none⟩,0,[],rfl,rfl,⟨rfl,.inr ⟨w.heap.size,0,#[],rfl,Nat.le_refl _,heap_alloc_new w _,Nat.le_refl _,by decide,rfl,rfl⟩⟩,fun i a t h=>by simp at h,nilOk_some _ _ _,Kit.bl1⟩
  ·have hpos:0<l.length:=List.length_pos_iff.2 hl0
   have hzl:(l.zip vs).length=l.length:=by rw[List.length_zip,hvl,Nat.min_self]
   have HO:(w.alloc (.cells #[] 58)).ownsRow w.heap.size 58 11 (.slice (some ⟨w.heap.size,0,none⟩) 0 0) 0 [] :=
    ⟨rfl,.inr ⟨w.heap.size,0,#[],rfl,Nat.le_refl _,heap_alloc_new w _,Nat.le_refl _,by decide,rfl,rfl⟩⟩
   have hz:∀i (p:SrcP.Act × VVV),(l.zip vs)[i]?=some p→l[i]?=some p.1∧vs[i]?=some p.2:=fun i p hp=>by
    rw[List.getElem?_zip_eq_some]at hp
    exact hp
   have HN:∀j u,(actsC l vs)[j]?=some u→(w.alloc (.cells #[] 58)).cell? (ad.add j)=some u:=fun j u h=>by
    obtain⟨i,r,p,rfl,hr,hi,hu⟩:=flat_some actP 11 (by omega) (fun _=>rfl) (l.zip vs) j u h
    rw[←add_add]
    obtain⟨h1,h2⟩:=hz i p hi
    exact cellA1 (((HVS.out i p.1 p.2 h1 h2).1.below hbw) r u hu) _
   have H1:∀u∈actsC l vs,u.oneCell'=true:=fun u hu=>by
    unfold actsC at hu
    rw[List.mem_flatMap]at hu
    obtain⟨p,hp,hu⟩:=hu
    obtain⟨i,hi⟩:=List.getElem?_of_mem hp
    obtain⟨h1,h2⟩:=hz i p hi
    exact actP_one (HVS.out i p.1 p.2 h1 h2).2 u hu
   have hml:(1048576:Nat)≤maxLen:=by decide
   have HL:(actsC l vs).length=l.length*11:=by unfold actsC;rw[flat_len actP 11 (fun _=>rfl),hzl]
   have HO:=Lib.hid HO
   have HN:=Lib.hid HN
   have HLN:=Lib.hid HL
   have H1:=Lib.hid H1
   clear HL hz hzl
   go_enter Tryz.func60,Tryz.ntmps60
   go_wp2_with (at_builtin;refine wpList_append_lies _ (by rfl) _ _ _ (by rfl) w.heap.size 58 i0 _ 11 136 Tryz.underlying55 hi0 hz0 hz1 hz2 rfl (by omega) (.slice (some ⟨w.heap.size,0,none⟩) 0 0) 0 [] (by rfl) HO.out ad l.length c (actsC l vs) (by rfl) HLN.out HN.out H1.out (by omega) (by omega) (by omega) (by simp) _ rfl ?_;intro g' cap w6 hown6 hgrow hat hlt6)
   rw[Nat.zero_add,List.nil_append]at hown6
   go_ret
   exact⟨_,cap,vs,rfl,hvl,hown6,fun i a t h1 h2=>(HVS.out i a t h1 h2).2,nilOk_some _ _ _,(Kit.Below.al (Below.refl w.heap.size w) _).grown hgrow (by simp) (fun j hj=>OwnR.own_base HO.out hj)⟩
end Go.Proofs.YtmjilfamjlnigaaGreat.NewW
namespace Go.Proofs.YtmjilfamjlnigaaGreat.SrcP
open Go SrcW
theorem nodeV_lt (locals v:List Nat) (n:SrcP.Node) (hl:∀x∈locals,x<M64) (hv:∀x∈v,x<M64) (hn:n.val<M64):nodeV locals v n<M64:=by
 have hg:∀(l:List Nat) (i:Nat),(∀x∈l,x<M64)→l.getD i 0<M64:=fun l i h=>by
  rw[List.getD]
  cases hi:l[i]? with
  | none=>decide
  | some x=>exact h x (List.mem_of_getElem? hi)
 unfold nodeV
 split
 ·exact hn
 ·split
  ·exact hg _ _ hl
  ·split
   ·exact one_lt _ _ (hg _ _ hv)
   ·exact two_lt _ _ _ (hg _ _ hv) (hg _ _ hv)
theorem evalL_lt (locals:List Nat) (hl:∀x∈locals,x<M64) (e:List SrcP.Node):∀v:List Nat,(∀x∈v,x<M64)→(∀n∈e,n.val<M64)→∀x∈evalL locals e v,x<M64:=by
 induction e with
 | nil=>intro v hv _;exact hv
 | cons n e ih =>
  intro v hv hn
  unfold evalL
  refine ih _ ?_ (fun m hm=>hn m (by simp[hm]))
  intro x hx
  rw[List.mem_append,List.mem_singleton]at hx
  rcases hx with hx | rfl
  ·exact hv x hx
  ·exact nodeV_lt _ _ _ hl hv (hn n (by simp))
theorem value_lt (e:List SrcP.Node) (locals:List Nat) (hl:∀x∈locals,x<M64) (hn:∀n∈e,n.val<M64):value e locals<M64:=by
 unfold value
 have h:=evalL_lt locals hl e [] (by simp) hn
 rw[List.getLastD_eq_getLast?]
 cases hx:(evalL locals e []).getLast? with
 | none=>decide
 | some x=>exact h x (List.mem_of_getLast? hx)
theorem pow_size:∀n:Nat,n<1025→n &&& (n-1)=0→n=0∨n=2 ^ n.log2:=by decide +kernel
theorem and_size (n x:Nat) (h1:0<n) (h2:n≤1024) (h3:n &&& (n-1)=0):x &&& (n-1)=x % n:=by
 rcases pow_size n (by omega) h3 with h | h
 ·omega
 ·rw[h]
  exact Nat.and_two_pow_sub_one_eq_mod x _
structure ActWell (cells nl n:Nat) (a:SrcP.Act):Prop where
 ok:actOk cells nl n a=true
 li:∀x∈a.index,x.val<M64
 le:∀x∈a.e,x.val<M64
 lf:∀x∈a.f,x.val<M64
structure MchW (cells nl:Nat) (m:Mch):Prop where
 hnl:nl≤24
 len:m.locals.length=nl
 lt:∀x∈m.locals,x<M64
 at_:m.at_≤m.acts.length
 alen:m.acts.length≤65536
 acts:∀a∈m.acts,ActWell cells nl m.acts.length a
 old:m.old<M64
 nval:m.now.val<M64
 opn:m.opn=true→∃a,m.acts[m.at_]?=some a∧(a.op=4∨a.op=5∨a.op=6)
def NowOk (m:Mch):Prop:=m.now.what≠5→m.now.what≠6→∃a,m.acts[m.at_]?=some a∧ownB a=false∧m.now=wantS m a
structure MchOk (cells nl:Nat) (m:Mch):Prop extends MchW cells nl m where
 now:m.asked=true→NowOk m
section
variable {cells nl n:Nat} {a:SrcP.Act}
theorem ActWell.parts (h:ActWell cells nl n a):(1≤a.op∧a.op≤10)∧mayB a.op a.mode=true∧(if hasDst a.op=true then decide (0≤a.dst∧a.dst<(nl:Int))else a.dst == 0)=true
 ∧(if hasPlace a.op=true then placeOk cells nl a else a.base == 0&&a.size == 0&&a.index.isEmpty)=true
 ∧(hasE a.op=true→exprOk a.e nl=true)∧(hasF a.op=true→exprOk a.f nl=true)∧(if hasTo a.op=true then decide (0≤a.to∧a.to≤(n:Int))else a.to == 0)=true:=by
 have h1:=h.ok
 simp only[actOk,Bool.and_eq_true,decide_eq_true_eq,Bool.or_eq_true,Bool.not_eq_true']at h1
 obtain⟨⟨⟨⟨⟨⟨⟨⟨h1,h2⟩,h3⟩,h4⟩,h5⟩,h6⟩,h7⟩,h8⟩,h9⟩:=h1
 exact⟨h1,h2,h3,h4,fun he=>by rw[he]at h7;simpa using h7,fun he=>by rw[he]at h8;simpa using h8,h9⟩
theorem ActWell.e (h:ActWell cells nl n a) (he:hasE a.op=true):EvalsAll nl a.e:=exprOk_evals _ _ (h.parts.2.2.2.2.1 he)
theorem ActWell.f (h:ActWell cells nl n a) (he:hasF a.op=true):EvalsAll nl a.f:=exprOk_evals _ _ (h.parts.2.2.2.2.2.1 he)
theorem ActWell.dst (h:ActWell cells nl n a) (he:hasDst a.op=true):0≤a.dst∧a.dst<(nl:Int):=by have:=h.parts.2.2.1;rw[if_pos he]at this;simpa using this
theorem ActWell.to_ (h:ActWell cells nl n a) (he:hasTo a.op=true):0≤a.to∧a.to≤(n:Int):=by have:=h.parts.2.2.2.2.2.2;rw[if_pos he]at this;simpa using this
theorem ActWell.place (h:ActWell cells nl n a) (he:hasPlace a.op=true):placeOk cells nl a=true:=by have:=h.parts.2.2.2.1;rwa [if_pos he]at this
end
theorem place_parts {cells nl:Nat} {a:SrcP.Act} (h:placeOk cells nl a=true):(0≤a.size∧a.size≤1024)∧(a.size.toNat &&& (a.size.toNat-1))=0∧0≤a.base∧a.base+max 1 a.size≤(cells:Int)∧(a.size≠0→EvalsAll nl a.index):=by
 unfold placeOk at h
 split at h
 ·cases h
 ·rename_i h1
  simp only[not_or,Int.not_lt,ne_eq,Decidable.not_not]at h1
  obtain⟨h1,h2,h3,h4,h5⟩:=h1
  have e:(a.size-1).toNat=a.size.toNat-1:=by omega
  rw[e]at h3
  refine⟨⟨h1,h2⟩,h3,h4,by omega,fun hs=>?_⟩
  simp only[Bool.or_eq_true,Bool.and_eq_true,beq_iff_eq,decide_eq_true_eq]at h
  rcases h with h | h
  ·exact absurd h.1 hs
  ·exact exprOk_evals _ _ h.2
theorem locS_range {cells nl:Nat} {a:SrcP.Act} (h:placeOk cells nl a=true) (locals:List Nat):0≤locS a locals∧locS a locals<(cells:Int):=by
 obtain⟨⟨h1,h2⟩,_,h3,h4,_⟩:=place_parts h
 unfold locS
 split
 ·rename_i hs;rw[hs]at h4;omega
 ·rename_i hs
  have:value a.index locals % a.size.toNat<a.size.toNat:=Nat.mod_lt _ (by omega)
  have:max 1 a.size=a.size:=by omega
  omega
theorem wantS_what (m:Mch) (a:SrcP.Act):1≤(wantS m a).what∧(wantS m a).what≤4:=by
 unfold wantS
 repeat' split
 all_goals exact⟨by simp,by simp⟩
theorem wantS_val {cells nl n:Nat} (m:Mch) (a:SrcP.Act) (hl:∀x∈m.locals,x<M64) (ha:ActWell cells nl n a):(wantS m a).val<M64:=by
 have he:=value_lt a.e m.locals hl ha.le
 have hf:=value_lt a.f m.locals hl ha.lf
 have h0:0<M64:=by decide
 unfold wantS
 repeat' split
 all_goals first | exact he | exact hf | exact h0 | exact Nat.mod_lt _ h0
theorem set_lt {l:List Nat} {i x:Nat} (hl:∀y∈l,y<M64) (hx:x<M64):∀y∈l.set i x,y<M64:=fun y hy=>by
 rcases List.mem_or_eq_of_mem_set hy with h | rfl
 ·exact hl y h
 ·exact hx
theorem at_lt {m:Mch} {a:SrcP.Act} (h:m.acts[m.at_]?=some a):m.at_<m.acts.length:=(List.getElem?_eq_some_iff.1 h).1
theorem MchW.well {cells nl:Nat} {m:Mch} (h:MchW cells nl m) {a:SrcP.Act} (ha:m.acts[m.at_]?=some a):ActWell cells nl m.acts.length a:=h.acts a (List.mem_of_getElem? ha)
theorem MchW.notOpen {cells nl:Nat} {m:Mch} (h:MchW cells nl m) {a:SrcP.Act} (ha:m.acts[m.at_]?=some a) (ho:¬(a.op=4∨a.op=5∨a.op=6)):m.opn=false:=by
 cases hh:m.opn with
 | false=>rfl
 | true =>
  obtain⟨b,hb,h2⟩:=h.opn hh
  rw[ha]at hb
  cases hb
  exact absurd h2 ho
theorem own_op {a:SrcP.Act} (h:ownB a=true):a.op=1∨a.op=9∨a.op=10:=by
 simp only[ownB,Bool.or_eq_true,beq_iff_eq]at h
 omega
theorem ownS_w {cells nl:Nat} {m:Mch} (h:MchW cells nl m) {a:SrcP.Act} (ha:m.acts[m.at_]?=some a) (ho:ownB a=true):MchW cells nl (ownS m a):=by
 have hw:=h.well ha
 have hop:=own_op ho
 have hn:=h.notOpen ha (by omega)
 have hlt:=at_lt ha
 unfold ownS
 split
 ·exact⟨h.hnl,by simpa using h.len,set_lt h.lt (value_lt _ _ h.lt hw.le),hlt,h.alen,h.acts,h.old,h.nval,fun h2=>by simp[hn]at h2⟩
 ·rename_i h1
  have ht:0≤a.to∧a.to≤(m.acts.length:Int):=hw.to_ (by unfold hasTo;simp;omega)
  split
  ·exact⟨h.hnl,h.len,h.lt,by simp only;omega,h.alen,h.acts,h.old,h.nval,fun h2=>by simp[hn]at h2⟩
  ·split
   ·exact⟨h.hnl,h.len,h.lt,by simp only;omega,h.alen,h.acts,h.old,h.nval,fun h2=>by simp[hn]at h2⟩
   ·exact⟨h.hnl,h.len,h.lt,hlt,h.alen,h.acts,h.old,h.nval,fun h2=>by simp[hn]at h2⟩
theorem setNow_w {cells nl:Nat} {m:Mch} (h:MchW cells nl m) (x:Want) (hx:x.val<M64):MchW cells nl { m with now:=x }:=⟨h.hnl,h.len,h.lt,h.at_,h.alen,h.acts,h.old,hx,h.opn⟩
theorem nextL_ok {cells nl:Nat}:∀(k:Nat) {m:Mch},MchW cells nl m→MchW cells nl (nextL k m)∧NowOk (nextL k m):=by
 have h0:0<M64:=by decide
 intro k
 induction k with
 | zero =>
  intro m h
  unfold nextL
  cases ha:m.acts[m.at_]? with
  | none=>exact⟨setNow_w h _ h0,fun h5=>by simp at h5⟩
  | some a =>
   simp only
   split
   ·exact⟨setNow_w h _ h0,fun _ h6=>by simp at h6⟩
   ·rename_i ho
    exact⟨setNow_w h _ (wantS_val m a h.lt (h.well ha)),fun _ _=>⟨a,ha,by simpa using ho,rfl⟩⟩
 | succ k ih =>
  intro m h
  unfold nextL
  cases ha:m.acts[m.at_]? with
  | none=>exact⟨setNow_w h _ h0,fun h5=>by simp at h5⟩
  | some a =>
   simp only
   split
   ·rename_i ho
    exact ih (ownS_w h ha ho)
   ·rename_i ho
    exact⟨setNow_w h _ (wantS_val m a h.lt (h.well ha)),fun _ _=>⟨a,ha,by simpa using ho,rfl⟩⟩
theorem nextS_ok {cells nl:Nat} {m:Mch} (h:MchOk cells nl m):MchOk cells nl (nextS m):=by
 unfold nextS
 split
 ·exact h
 ·have hw:MchW cells nl { m with asked:=true }:=⟨h.hnl,h.len,h.lt,h.at_,h.alen,h.acts,h.old,h.nval,h.opn⟩
  obtain⟨h1,h2⟩:=nextL_ok 100000 hw
  exact⟨h1,fun _=>h2⟩
theorem wants_op {m:Mch} {a:SrcP.Act}:(wantS m a).ex=true→a.op≠2∧a.op≠3∧a.op≠7∧a.op≠8:=by
 unfold wantS
 intro h
 split at h
 ·cases h
 ·split at h
  ·cases h
  ·split at h
   ·cases h
   ·split at h
    ·cases h
    ·exact⟨by assumption,by assumption,by assumption,by assumption⟩
theorem wants_pair {m:Mch} {a:SrcP.Act} (h:a.op=4∨a.op=5∨a.op=6):(wantS m a).ex=true∧(wantS m a).what=if m.opn=true then 2 else 1:=by
 unfold wantS
 rw[if_neg (by omega),if_neg (by omega),if_neg (by omega),if_neg (by omega)]
 cases m.opn <;> exact⟨rfl,rfl⟩
theorem feedS_ok {cells nl:Nat} {m:Mch} (h:MchOk cells nl m) (hasked:m.asked=true) (h5:m.now.what≠5) (h6:m.now.what≠6) (v:Nat) (hv:v<M64):MchOk cells nl (feedS m v):=by
 obtain⟨a,ha,ho,hnow⟩:=h.now hasked h5 h6
 have hw:=h.well ha
 have hlt:=at_lt ha
 have hop:=hw.parts.1
 have hown:¬(a.op=1∨a.op=9∨a.op=10):=by
  simp only[ownB,Bool.or_eq_false_iff,beq_eq_false_iff_ne]at ho
  omega
 unfold feedS
 rw[ha]
 simp only
 split
 ·rename_i hc
  have hex:=wants_op (hnow ▸ hc.2.1)
  exact⟨⟨h.hnl,h.len,h.lt,h.at_,h.alen,h.acts,hv,h.nval,fun _=>⟨a,ha,by omega⟩⟩,fun h=>by simp at h⟩
 ·have hold:(if m.now.what=1∧m.now.ex=true then v else m.old)<M64:=by split;exact hv;exact h.old
  split
  ·exact⟨⟨h.hnl,by simpa using h.len,set_lt h.lt hold,hlt,h.alen,h.acts,hold,h.nval,fun h=>by simp at h⟩,fun h=>by simp at h⟩
  ·rename_i hc
   have hno:m.opn=false:=by
    cases hh:m.opn with
    | false=>rfl
    | true =>
     obtain⟨b,hb,h2⟩:=h.opn hh
     rw[ha]at hb
     cases hb
     exact absurd ⟨by rw[hnow];exact(wants_pair h2).1,hh⟩ hc
   split
   ·exact⟨⟨h.hnl,by simpa using h.len,set_lt h.lt hv,hlt,h.alen,h.acts,hold,h.nval,fun h=>by simp[hno]at h⟩,fun h=>by simp at h⟩
   ·exact⟨⟨h.hnl,h.len,h.lt,hlt,h.alen,h.acts,hold,h.nval,fun h=>by simp[hno]at h⟩,fun h=>by simp at h⟩
end Go.Proofs.YtmjilfamjlnigaaGreat.SrcP
