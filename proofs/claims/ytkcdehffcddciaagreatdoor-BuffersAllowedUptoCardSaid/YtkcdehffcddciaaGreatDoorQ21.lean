/- Maps of counts; loops over them. -/
import Derived.Test.YtkcdehffcddciaaGreatDoorQ19
import Derived.Test.YtkcdehffcddciaaGreatDoorQ20
namespace Go.Proofs.YtkcdehffcddciaaGreatDoor.Vm
open Go Go.RowKit
structure Mp (h:H) (n0 b:Nat) (k:IntKind) (ml:List (Int × V)):Prop where
 lo:n0≤b
 hi:b<h.next
 at_:MapAt h b k ml
theorem Mp.kp {h h':H} {n0 b:Nat} {k:IntKind} {ml:List (Int × V)} (kp:Kp h h') (hm:Mp h n0 b k ml):Mp h' n0 b k ml:=⟨hm.lo,Nat.lt_of_lt_of_le hm.hi kp.le,by
 have:=hm.at_
 unfold MapAt at this ⊢
 rw[kp.old.get b hm.hi]
 exact this⟩
theorem Mp.mo {h h':H} {n0 b:Nat} {k:IntKind} {ml:List (Int × V)} {b':Option Nat} (m:Mo h h' b') (hm:Mp h n0 b k ml) (hb:b'≠some b):Mp h' n0 b k ml:=⟨hm.lo,Nat.lt_of_lt_of_le hm.hi m.le,by
 have:=hm.at_
 unfold MapAt at this ⊢
 rw[m.get b hm.hi hb]
 exact this⟩
theorem wf_set {h:H} {b n:Nat} {o:O} (hw:Wf h) (hb:b<n) (hn:h.next≤n):Wf ⟨n,h.t.set b (some o)⟩:=fun k O hk=>by
 have hk:(h.t.set b (some o)).get k=some O:=hk
 rw[Tr.get_set]at hk
 show k<n
 by_cases e:k=b
 ·omega
 ·rw[if_neg e]at hk
  have:=hw k O hk
  omega
theorem kp_set {h:H} {o:O}:Kp h ⟨h.next+1,h.t.set h.next (some o)⟩:=⟨⟨Nat.le_succ _,fun k hk=>by
 show(h.t.set h.next (some o)).get k=_
 rw[Tr.get_set,if_neg (by omega)]⟩,fun hw=>wf_set hw (Nat.lt_succ_self _) (Nat.le_succ _)⟩
theorem mo_set {h:H} {b:Nat} {o:O} (hb:b<h.next):Mo h ⟨h.next,h.t.set b (some o)⟩ (some b):=⟨Nat.le_refl _,fun k _ hne=>by
 show(h.t.set b (some o)).get k=_
 rw[Tr.get_set,if_neg (fun e=>hne (by rw[e]))],fun hw=>wf_set hw hb (Nat.le_refl _)⟩
section
variable {C:Cx} {d b n0:Nat} {us:List Nat} {l:List So} {e:Env} {h:H} {x y z:Rd} {Q:Env→H→Prop} {k:IntKind} {ml:List (Int × V)} {p:Int} {vz:V}
theorem ew_mm (k:IntKind) (hr:∀b h1,Mp h1 h.next b k []→Kp h h1→Ew C l ((d,.m b) :: e) h1 Q):Ew C (⟨none,some d,.mm,us⟩ :: l) e h Q :=
 ew_s .n od_mm (hr _ _ ⟨Nat.le_refl _,Nat.lt_succ_self _,mm_at k⟩ kp_set)
theorem ew_mu (hm:Mp h n0 b k ml) (hr:∀h1,Mp h1 n0 b k (mIns p vz ml)→Mo h h1 (some b)→Ew C l e h1 Q) (hx:x.lk e=some (.m b):=by exact rfl) (hy:y.lk e=some (.i k p):=by exact rfl) (hz:z.lk e=some vz:=by exact rfl):Ew C (⟨none,none,.mu x y z,us⟩ :: l) e h Q :=
 ew_u .n (od_mu hm.at_ hx hy hz) (hr _ ⟨hm.lo,hm.hi,setM_at⟩ (mo_set hm.hi))
end
structure MF (ml:List (Int × V)) (F:Int→Int):Prop where
 val:∀q∈ml,q.2=.i .i64 (F q.1)
 has:∀c,F c≠0→∃q∈ml,q.1=c
 nd:(ml.map fun q=>q.1).Nodup
theorem MF.nil:MF [] fun _=>0:=⟨fun _q hq=>absurd hq List.not_mem_nil,fun _c hc=>absurd rfl hc,List.nodup_nil⟩
theorem mGet_mem {c:Int} {v:V}:∀{ml:List (Int × V)},mGet c ml=some v→(c,v)∈ml
 | [],h=>by cases h
 | q :: l,h=>by
  unfold mGet at h
  by_cases e:c=q.1
  ·rw[if_pos e]at h
   injection h with h
   subst h
   subst e
   exact List.mem_cons_self
  ·rw[if_neg e]at h
   exact List.mem_cons_of_mem _ (mGet_mem h)
theorem mGet_no {c:Int}:∀{ml:List (Int × V)},mGet c ml=none→∀q∈ml,q.1≠c
 | [],_,q,hq=>by cases hq
 | r :: l,h,q,hq=>by
  unfold mGet at h
  by_cases e:c=r.1
  ·rw[if_pos e]at h;cases h
  ·rw[if_neg e]at h
   rcases List.mem_cons.1 hq with rfl | hq
   ·exact fun h=>e h.symm
   ·exact mGet_no h q hq
theorem MF.get {ml:List (Int × V)} {F:Int→Int} (hm:MF ml F) (c:Int):(mGet c ml).getD (.i .i64 0)=.i .i64 (F c):=by
 cases hg:mGet c ml with
 | some v=>exact hm.val _ (mGet_mem hg)
 | none =>
  by_cases hc:F c=0
  ·rw[hc];rfl
  ·obtain⟨q,hq,e⟩:=hm.has c hc
   exact absurd e (mGet_no hg q hq)
theorem ins_keys (p:Int) (v:V):∀ml:List (Int × V),(mIns p v ml).map (fun q=>q.1)=(ml.map fun q=>q.1)∨(p ∉ (ml.map fun q=>q.1)∧(mIns p v ml).map (fun q=>q.1)=(ml.map fun q=>q.1)++[p])
 | []=>.inr ⟨List.not_mem_nil,rfl⟩
 | q :: l=>by
  unfold mIns
  by_cases e:p=q.1
  ·rw[if_pos e];exact .inl rfl
  ·rw[if_neg e]
   rcases ins_keys p v l with h | ⟨h1,h2⟩
   ·exact .inl (by rw[List.map_cons,h,List.map_cons])
   ·exact .inr ⟨fun hm=>by
     rw[List.map_cons]at hm
     rcases List.mem_cons.1 hm with h | h
     ·exact e h
     ·exact h1 h,by rw[List.map_cons,h2,List.map_cons,List.cons_append]⟩
theorem ins_self (p:Int) (v:V):∀ml:List (Int × V),(p,v)∈mIns p v ml
 | []=>List.mem_cons_self
 | q :: l=>by
  unfold mIns
  by_cases e:p=q.1
  ·rw[if_pos e,←e];exact List.mem_cons_self
  ·rw[if_neg e];exact List.mem_cons_of_mem _ (ins_self p v l)
theorem ins_other (p:Int) (v:V):∀(ml:List (Int × V)) (q:Int × V),q∈ml→q.1≠p→q∈mIns p v ml
 | r :: l,q,hq,hne=>by
  unfold mIns
  by_cases e:p=r.1
  ·rw[if_pos e]
   rcases List.mem_cons.1 hq with rfl | hq
   ·exact absurd e.symm hne
   ·exact List.mem_cons_of_mem _ hq
  ·rw[if_neg e]
   rcases List.mem_cons.1 hq with rfl | hq
   ·exact List.mem_cons_self
   ·exact List.mem_cons_of_mem _ (ins_other p v l q hq hne)
theorem ins_mem (p:Int) (v:V):∀(ml:List (Int × V)) (q:Int × V),(ml.map fun q=>q.1).Nodup→q∈mIns p v ml→q=(p,v)∨(q∈ml∧q.1≠p)
 | [],q,_,hq=>.inl (List.mem_singleton.1 hq)
 | r :: l,q,hn,hq=>by
  rw[List.map_cons,List.nodup_cons]at hn
  unfold mIns at hq
  by_cases e:p=r.1
  ·rw[if_pos e]at hq
   rcases List.mem_cons.1 hq with rfl | hq
   ·exact .inl (by rw[e])
   ·exact .inr ⟨List.mem_cons_of_mem _ hq,fun h=>hn.1 (by rw[←e,←h];exact List.mem_map_of_mem (f:=fun q:Int × V=>q.1) hq)⟩
  ·rw[if_neg e]at hq
   rcases List.mem_cons.1 hq with rfl | hq
   ·exact .inr ⟨List.mem_cons_self,fun h=>e h.symm⟩
   ·rcases ins_mem p v l q hn.2 hq with h | ⟨h1,h2⟩
    ·exact .inl h
    ·exact .inr ⟨List.mem_cons_of_mem _ h1,h2⟩
theorem MF.ins {ml:List (Int × V)} {F:Int→Int} (hm:MF ml F) (p z:Int):MF (mIns p (.i .i64 z) ml) fun c=>if c=p then z else F c:=⟨fun q hq=>by
 rcases ins_mem p _ ml q hm.nd hq with rfl | ⟨h1,h2⟩
 ·simp only[if_pos]
 ·rw[if_neg h2];exact hm.val q h1,fun c hc=>by
 by_cases e:c=p
 ·exact⟨_,ins_self p _ ml,e.symm⟩
 ·rw[if_neg e]at hc
  obtain⟨q,hq,e2⟩:=hm.has c hc
  exact⟨q,ins_other p _ ml q hq (by rw[e2];exact e),e2⟩,by
 rcases ins_keys p (.i .i64 z) ml with h | ⟨h1,h2⟩
 ·rw[h];exact hm.nd
 ·rw[h2]
  rw[List.nodup_append]
  refine⟨hm.nd,by simp,fun a ha b hb=>?_⟩
  rw[List.mem_singleton.1 hb]
  exact fun e=>h1 (e ▸ ha)⟩
structure It (h:H) (n0 b m n:Nat) (seen:List Nat):Prop where
 lo:n0≤b
 hi:b<h.next
 at_:IterAt h b m n seen
theorem It.kp {h h':H} {n0 b m n:Nat} {seen:List Nat} (kp:Kp h h') (hm:It h n0 b m n seen):It h' n0 b m n seen:=⟨hm.lo,Nat.lt_of_lt_of_le hm.hi kp.le,by
 have:=hm.at_
 unfold IterAt at this ⊢
 rw[kp.old.get b hm.hi]
 exact this⟩
def toCome (n:Nat) (seen:List Nat):Nat:=((List.range n).filter fun i=>!seen.contains i).length
theorem filter_len {p q:Nat→Bool} (hpq:∀i,q i=true→p i=true):∀(l:List Nat),(l.filter q).length≤(l.filter p).length
 | []=>Nat.le_refl _
 | a :: l=>by
  have ih:=filter_len hpq l
  rw[List.filter_cons,List.filter_cons]
  by_cases h1:q a=true
  ·rw[if_pos h1,if_pos (hpq a h1)]
   simp only[List.length_cons]
   omega
  ·rw[if_neg h1]
   split
   ·simp only[List.length_cons];omega
   ·exact ih
theorem filter_lt {p q:Nat→Bool} (hpq:∀i,q i=true→p i=true) {i:Nat} (h1:p i=true) (h2:q i=false):∀(l:List Nat),i∈l→(l.filter q).length<(l.filter p).length
 | [],h=>by cases h
 | a :: l,h=>by
  rw[List.filter_cons,List.filter_cons]
  have hl:=filter_len hpq l
  rcases List.mem_cons.1 h with rfl | h
  ·rw[if_pos h1,if_neg (by rw[h2];exact fun h=>by cases h)]
   simp only[List.length_cons]
   omega
  ·have ih:=filter_lt hpq h1 h2 l h
   by_cases h3:q a=true
   ·rw[if_pos h3,if_pos (hpq a h3)]
    simp only[List.length_cons]
    omega
   ·rw[if_neg h3]
    split
    ·simp only[List.length_cons];omega
    ·exact ih
theorem toCome_lt {n i:Nat} {seen:List Nat} (hi:i<n) (hs:i ∉ seen):toCome n (seen++[i])<toCome n seen:=by
 unfold toCome
 refine filter_lt (i:=i) (fun j hj=>?_) ?_ ?_ _ (List.mem_range.2 hi)
 ·simp only[Bool.not_eq_true',List.contains_eq_mem,decide_eq_false_iff_not]at hj ⊢
  exact fun h=>hj (List.mem_append_left _ h)
 ·simp only[Bool.not_eq_true',List.contains_eq_mem,decide_eq_false_iff_not]
  exact hs
 ·simp
section
variable {C:Cx} {d b n0 m1 m:Nat} {us:List Nat} {l:List So} {e:Env} {h:H} {x:Rd} {Q:Env→H→Prop} {k:IntKind} {ml:List (Int × V)} {seen:List Nat}
theorem ew_rg (hm:Mp h n0 m k ml) (hr:∀b h1,It h1 h.next b m ml.length []→Kp h h1→Ew C l ((d,.p b 0) :: e) h1 Q) (hx:x.lk e=some (.m m):=by exact rfl):Ew C (⟨none,some d,.rg x,us⟩ :: l) e h Q :=
 ew_s .n (od_rg hx hm.at_) (hr _ _ ⟨Nat.le_refl _,Nat.lt_succ_self _,by
  show(h.t.set h.next _).get h.next=_
  rw[Tr.get_set,if_pos rfl]⟩ kp_set)
theorem ew_next (hC:C.m=false) (hm:Mp h n0 m k ml) (hi:It h m1 b m ml.length seen)
  (h0:(∀i,i<ml.length→i∈seen)→Ew C l ((d,.tup [.b false]) :: e) h Q)
  (h1:∀i (hl:i<ml.length) h1,i ∉ seen→It h1 m1 b m ml.length (seen++[i])→Mo h h1 (some b)→Ew C l ((d,.tup [.b true,.i k (ml[i]).1,(ml[i]).2]) :: e) h1 Q)
  (hx:x.lk e=some (.p b 0):=by exact rfl):Ew C (⟨none,some d,.nx x,us⟩ :: l) e h Q:=by
 obtain⟨cs,hn,hall⟩:=nx_cases hm.at_ hi.at_
 refine ew_nx hC hx hn fun c hc=>?_
 rcases hall c hc with⟨rfl,hs⟩ | ⟨i,hl,hs,rfl⟩
 ·exact h0 hs
 ·exact h1 i hl _ hs ⟨hi.lo,hi.hi,setI_at⟩ (mo_set hi.hi)
theorem find_ens (k:IntKind):∀(j:Nat) (l:List (Int × V)) (i:Nat) (hi:i<l.length),(ens k j l).find? (fun e=>Nat.beq e.born (j+i))=some ⟨k,(l[i]).1,(l[i]).2,j+i⟩
 | _,[],i,hi=>absurd hi (Nat.not_lt_zero _)
 | j,p :: l,0,_=>by
  show List.find? _ (⟨k,p.1,p.2,j⟩ :: ens k (j+1) l)=_
  rw[List.find?_cons_of_pos]
  ·rfl
  ·exact Nat.beq_refl j
 | j,p :: l,i+1,hi=>by
  have:=find_ens k (j+1) l i (Nat.lt_of_succ_lt_succ hi)
  rw[show j+1+i=j+(i+1) by omega]at this
  show List.find? _ (⟨k,p.1,p.2,j⟩ :: ens k (j+1) l)=_
  rw[List.find?_cons_of_neg]
  ·exact this
  ·intro h
   have:=Nat.eq_of_beq_eq_true h
   have:j=j+(i+1):=this
   omega
theorem ew_en {i:Nat} (hm:Mp h n0 m k ml) (hi:It h m1 b m ml.length (seen++[i])) (hl:i<ml.length) (hr:Ew C l ((d,.tup [.i k (ml[i]).1,(ml[i]).2]) :: e) h Q) (hx:x.lk e=some (.p b 0):=by exact rfl):Ew C (⟨none,some d,.en x,us⟩ :: l) e h Q:=by
 refine ew_s .n (⟨fun t ht=>⟨?_⟩⟩:Od (.en x) e h (.tup [.i k (ml[i]).1,(ml[i]).2]) h) hr
 have h1:=hi.at_
 have h2:=hm.at_
 unfold IterAt at h1
 unfold MapAt at h2
 have h3:=find_ens k 0 ml i hl
 rw[Nat.zero_add]at h3
 simp only[tdo,Rd.lk_val hx ht,asP]
 show bb (Nat.beq 0 0) (entryK h b fun v=>some (v,h))=_
 rw[show Nat.beq 0 0=true from rfl,bb_t]
 unfold entryK mapK
 rw[h1,ob_s]
 simp only
 rw[h2,ob_s]
 simp only
 rw[Nat.beq_refl,bb_t,List.getLast?_append,List.getLast?_singleton]
 simp only[Option.some_or,ob_s]
 rw[h3,ob_s]
end
theorem ew_ar {α:Type} [Inhabited α] {C:Cx} {n0 sz i:Nat} {us:List Nat} {ll:List So} {e:Env} {h:H} {Q:Env→H→Prop} {v w:V} {ty:TypeId} {c:α→Nat→V} {l:List α} {a xr:Rd} {vs:List V} {g:Option (Nat × Bool)} (x:α) (ho:Ar h n0 v sz ty c l) (hi:i<l.length) (hr:∀h1,Ar h1 n0 v sz ty c (l.set i x)→Mo h h1 (some v.ba)→Ew C ll e h1 Q)
  (hw:Gd e g true:=by first | exact .n | exact .tt rfl | exact .ff rfl) (ha:a.lk e=some (.p v.ba (v.of+i*sz)):=by exact rfl) (hx:xr.lk e=some w:=by exact rfl) (hv:w.cells=vs:=by exact rfl) (hu:vs=upto (c x) sz 0:=by exact rfl) (h1:allOne vs=true:=by exact rfl):Ew C (⟨g,none,.st a xr sz,us⟩ :: ll) e h Q:=by
 have h3:=ho.st (x:=x) hi hu
 obtain⟨b,p,hb,h4,h5,h6⟩:=ho.own
 have hle:v.of+i*sz+sz≤l.length*sz:=by
  have:(i+1)*sz≤l.length*sz:=Nat.mul_le_mul_right _ hi
  rw[Nat.add_mul]at this
  rw[hb]
  show 0+i*sz+sz≤_
  omega
 have h7:h.row v.ba=some (ty,l.length*sz,p):=by rw[hb];exact h6
 exact ew_u hw (od_st ha hx hv (by rw[hu,upto_len]) h1 h7 hle) (hr _ h3.1 h3.2)
def cutV (v:V) (m:Nat):V:=match v with
 | .sl b o _ cap kn sz=>.sl b o m cap kn sz
 | v=>v
theorem cut_ln {v:V} {sz n m:Nat} (hl:Ln v sz n) (hm:m≤n):Ln (cutV v m) sz m∧(cutV v m).ba=v.ba∧(cutV v m).of=v.of:=by
 rcases hl.is with⟨rfl,rfl⟩ | ⟨b,o,cap,kn,rfl,h⟩
 ·obtain rfl:m=0:=by omega
  exact⟨.ns,rfl,rfl⟩
 ·exact⟨.sl (by omega),rfl,rfl⟩
theorem cut_cs {h:H} {v:V} {sz n m:Nat} {F:Nat→Nat→V} (hl:Ln v sz n) (hm:m≤n) (hc:Cs h v sz n F):Cs h (cutV v m) sz m F:=by
 obtain⟨-,h1,h2⟩:=cut_ln hl hm
 exact⟨fun i k hi hk=>by rw[h1,h2];exact hc.eq i k (by omega) hk⟩
theorem ew_cut {C:Cx} {d sz n m:Nat} {us:List Nat} {l:List So} {e:Env} {h:H} {Q:Env→H→Prop} {v:V} {x y:Rd} (hl:Ln v sz n) (hm:m≤n) (hr:Ew C l ((d,cutV v m) :: e) h Q) (hx:x.lk e=some v:=by exact rfl) (hy:y.lk e=some (.i .i64 (m:Int)):=by exact rfl):Ew C (⟨none,some d,.s2 sz x none (some y),us⟩ :: l) e h Q:=by
 rcases hl.is with⟨rfl,rfl⟩ | ⟨b,o,cap,kn,rfl,h1⟩
 ·obtain rfl:m=0:=by omega
  exact ew_s .n (od_s2n hx .no (.at hy)) hr
 ·have h2:=od_s2 (h:=h) (lo:=none) (hi:=some y) hx .no (.at hy) (Nat.zero_le m) (by omega:m≤cap)
  rw[Nat.zero_mul,Nat.add_zero,ite_self,Nat.sub_zero,Nat.sub_zero]at h2
  exact ew_s .n h2 hr
theorem Ew.to {C:Cx} {l:List So} {e:Env} {h:H} {Q:Env→H→Prop} {X:Type} (env:X→Env) (φ:X→H→Prop) (hs:Ew C l e h fun e h=>∃x,Cov e (env x)∧φ x h) (hb:∀x h,φ x h→Q (env x) h):Ew C l e h Q :=
 ⟨fun t ht=>wpX_mono (fun _ h ⟨_,ht,x,hc,hp⟩=>⟨env x,ht.cov hc,hb x h hp⟩) _ _ _ (hs.run t ht)⟩
def LF (g:Gr) (i:Nat) (ml:List (Int × V)):Prop:=∀t:Int,(mGet t ml=none∧∀j,i≤j→j<g.ev.length→(gt g.ev j).thread≠t)∨∃k:Nat,mGet t ml=some (.i .i64 (k:Int))∧i≤k∧k<g.ev.length∧(gt g.ev k).thread=t∧∀j,i≤j→j<k→(gt g.ev j).thread≠t
theorem LF.nil (g:Gr):LF g g.ev.length []:=fun t=>.inl ⟨rfl,fun j h1 h2=>by omega⟩
theorem LF.step {g:Gr} {i:Nat} {ml:List (Int × V)} (hl:LF g (i+1) ml) (hi:i<g.ev.length):LF g i (mIns (gt g.ev i).thread (.i .i64 (i:Int)) ml):=fun t=>by
 rw[mGet_ins]
 by_cases e:t=(gt g.ev i).thread
 ·rw[if_pos e]
  exact .inr ⟨i,rfl,Nat.le_refl _,hi,e.symm,fun j h1 h2=>by omega⟩
 ·rw[if_neg e]
  rcases hl t with⟨h1,h2⟩ | ⟨k,h1,h2,h3,h4,h5⟩
  ·exact .inl ⟨h1,fun j h3 h4 h5=>by
    by_cases e2:j=i
    ·subst e2;exact e h5.symm
    ·exact h2 j (by omega) h4 h5⟩
  ·exact .inr ⟨k,h1,by omega,h3,h4,fun j h6 h7 h8=>by
    by_cases e2:j=i
    ·subst e2;exact e h8.symm
    ·exact h5 j (by omega) h7 h8⟩
def NxV (g:Gr) (nx:List Int) (i:Nat):Prop:=∀j:Nat,i≤j→j<g.ev.length→∀k:Int,0≤k→(gt nx j=k↔Nxt g j k)
theorem NxV.step {g:Gr} {nx:List Int} {i:Nat} {x:Int} (hn:NxV g nx (i+1)) (hl:i<nx.length) (hx:∀k:Int,0≤k→(x=k↔Nxt g i k)):NxV g (nx.set i x) i:=fun j h1 h2 k hk=>by
 rw[gt_set hl]
 by_cases e:j=i
 ·rw[if_pos e,e];exact hx k hk
 ·rw[if_neg e];exact hn j (by omega) h2 k hk
theorem nxt_no {g:Gr} {i:Nat} {ml:List (Int × V)} (hl:LF g (i+1) ml) (h:mGet (gt g.ev i).thread ml=none∨(gt g.ev i).thread<0) (k:Int) (hk:0≤k):(-1=k↔Nxt g i k):=⟨fun h=>by omega,fun hx=>by
 obtain⟨⟨h1,h2,h3,h4,h5⟩,-⟩:=hx
 rw[Int.toNat_natCast]at h4 h5
 rcases h with h | h
 ·rcases hl (gt g.ev i).thread with⟨-,h6⟩ | ⟨k',h6,-⟩
  ·exact absurd h5.symm (h6 k.toNat (by omega) (by omega))
  ·rw[h]at h6;cases h6
 ·omega⟩
theorem nxt_yes {g:Gr} {i k':Nat} {ml:List (Int × V)} (hl:LF g (i+1) ml) (h:mGet (gt g.ev i).thread ml=some (.i .i64 (k':Int))) (h0:0≤(gt g.ev i).thread) (k:Int) (hk:0≤k):((k':Int)=k↔Nxt g i k):=by
 rcases hl (gt g.ev i).thread with⟨h6,-⟩ | ⟨k2,h6,h7,h8,h9,h10⟩
 ·rw[h]at h6;cases h6
 rw[h]at h6
 injection h6 with h6
 injection h6 with _ h6
 obtain rfl:k'=k2:=by omega
 constructor
 ·rintro rfl
  refine⟨⟨by omega,by omega,by omega,by rw[Int.toNat_natCast];exact h0,by rw[Int.toNat_natCast,Int.toNat_natCast];exact h9.symm⟩,fun j h1 h2=>?_⟩
  rw[Int.toNat_natCast]
  exact h10 j (by omega) (by omega)
 ·intro hx
  obtain⟨⟨h1,h2,h3,h4,h5⟩,h11⟩:=hx
  rw[Int.toNat_natCast]at h4 h5
  have h12:¬(k':Int)<k:=fun h=>by
   have:=h11 k' (by omega) h
   rw[Int.toNat_natCast]at this
   exact this h9
  have h13:¬k<(k':Int):=fun h=>h10 k.toNat (by omega) (by omega) h5.symm
  omega
theorem kind3 {g:Gr} {w:Bool} (_h0:0≤g.cells) (hi:∀c:Nat,(c:Int)<g.cells→gt g.ev c=first_ w c) (he:EvsOk g w) (i:Nat) (hl:i<g.ev.length):(gt g.ev i).kind=1∨(gt g.ev i).kind=2∨(gt g.ev i).kind=3:=by
 by_cases h:(i:Int)<g.cells
 ·rw[hi i h];exact .inr (.inl rfl)
 ·have h1:=(he i (by omega) hl).2.2.1
  unfold ModeOk at h1
  omega
theorem dep_k {g:Gr} {w:Bool} {l:List (Int × Int)} {ks:List Int} {n:Int} (h3:∀i,i<g.ev.length→(gt g.ev i).kind=1∨(gt g.ev i).kind=2∨(gt g.ev i).kind=3)
  (hk:∀k:Int,k=1∨k=2∨k=3→(k∈ks↔(n=7→k≠3)∧(n=8→k=2))):DepOkK g l w ks↔DepOk g l n∧(w=false→l = []):=by
 constructor
 ·intro h
  refine⟨fun i hi=>?_,fun hw=>?_⟩
  ·obtain⟨h1,-,h2,h4,h5⟩:=h i hi
   have h6:=(hk _ (h3 _ (by unfold Bef at h4;omega))).1 h5
   exact⟨h1,h2,h4,h6.1,h6.2⟩
  ·cases l with
   | nil=>rfl
   | cons a l=>exact absurd (h 0 (Nat.zero_lt_succ _)).2.1 (by rw[hw];decide)
 ·rintro⟨h,hw⟩ i hi
  obtain⟨h1,h2,h4,h5,h6⟩:=h i hi
  refine⟨h1,?_,h2,h4,(hk _ (h3 _ (by unfold Bef at h4;omega))).2 ⟨h5,h6⟩⟩
  cases w with
  | true=>rfl
  | false=>rw[hw rfl]at hi;exact absurd hi (Nat.not_lt_zero _)
theorem dep_7 {g:Gr} {w:Bool} {l:List (Int × Int)} (h3:∀i,i<g.ev.length→(gt g.ev i).kind=1∨(gt g.ev i).kind=2∨(gt g.ev i).kind=3):DepOkK g l w [1,2]↔DepOk g l 7∧(w=false→l = []):=dep_k h3 fun k hk=>by simp;omega
theorem dep_8 {g:Gr} {w:Bool} {l:List (Int × Int)} (h3:∀i,i<g.ev.length→(gt g.ev i).kind=1∨(gt g.ev i).kind=2∨(gt g.ev i).kind=3):DepOkK g l w [2]↔DepOk g l 8∧(w=false→l = []):=dep_k h3 fun k hk=>by simp
theorem dep_9 {g:Gr} {w:Bool} {l:List (Int × Int)} (h3:∀i,i<g.ev.length→(gt g.ev i).kind=1∨(gt g.ev i).kind=2∨(gt g.ev i).kind=3):DepOkK g l w [1,2,3]↔DepOk g l 9∧(w=false→l = []):=dep_k h3 fun k hk=>by simp;omega
structure Sb (h h':H) (b1 b2:Nat):Prop where
 le:h.next≤h'.next
 get:∀k,k<h.next→k≠b1→k≠b2→h'.t.get k=h.t.get k
 wf:Wf h→Wf h'
theorem Sb.refl (h:H) (b1 b2:Nat):Sb h h b1 b2:=⟨Nat.le_refl _,fun _ _ _ _=>rfl,id⟩
theorem Sb.mo {h h' h2:H} {b1 b2:Nat} {b:Option Nat} (s:Sb h h' b1 b2) (m:Mo h' h2 b) (hb:∀k,b=some k→k=b1∨k=b2∨h.next≤k):Sb h h2 b1 b2:=⟨Nat.le_trans s.le m.le,fun k hk h1 h2=>(m.get k (Nat.lt_of_lt_of_le hk s.le) fun e=>by
 rcases hb k e with h | h | h <;> omega).trans (s.get k hk h1 h2),fun hw=>m.wf (s.wf hw)⟩
theorem Sb.bx {h h':H} {b1 b2 b:Nat} {l:List V} (s:Sb h h' b1 b2) (hb:Bx h b l) (hl:b<h.next) (h1:b≠b1) (h2:b≠b2):Bx h' b l:=⟨fun k v hk=>⟨by
 have:=(hb.eq k v hk).eq
 unfold H.cell at this ⊢
 rw[s.get b hl h1 h2]
 exact this⟩⟩
theorem Sb.kp {h0 h h':H} {b1 b2:Nat} (s:Sb h h' b1 b2) (k:Kp h0 h) (h1:h0.next≤b1) (h2:h0.next≤b2):Kp h0 h':=⟨⟨Nat.le_trans k.le s.le,fun j hj=>(s.get j (Nat.lt_of_lt_of_le hj k.le) (by omega) (by omega)).trans (k.old.get j hj)⟩,fun hw=>s.wf (k.wf hw)⟩
end Go.Proofs.YtkcdehffcddciaaGreatDoor.Vm
