/- A region that draws its order: by rules. -/
import Derived.Test.YtkcdehffcddciaaGreatDoorQ12
namespace Go.Proofs.YtkcdehffcddciaaGreatDoor.Vm
open Go Go.RowKit
mutual
theorem same_refl:∀v:V,v.same v=true
 | .u=>rfl
 | .b x=>by simp[V.same]
 | .i k n=>by simp[V.same]
 | .s x=>by
  show(x.data == x.data)=true
  simp
 | .p a o=>by simp[V.same]
 | .np=>rfl
 | .sl e o a c k z=>by simp[V.same]
 | .ns=>rfl
 | .m a=>by simp[V.same]
 | .nm=>rfl
 | .fn f a c=>by simp[V.same,sameL_refl a,sameL_refl c]
 | .nf=>rfl
 | .iface t v=>by simp[V.same,same_refl v]
 | .ni=>rfl
 | .agg l=>by simp[V.same,sameL_refl l]
 | .tup l=>by simp[V.same,sameL_refl l]
 | .y b=>by simp[V.same]
 | .se=>rfl
theorem sameL_refl:∀l:List V,sameL l l=true
 | []=>rfl
 | v :: l=>by simp[sameL,same_refl v,sameL_refl l]
end
section
variable {A:Sub} {n:Nat}
mutual
theorem Rel.under:∀{v:V} {x:Value},Rel A n v x→v.under n=true
 | _,_,.u=>rfl
 | _,_,.b _=>rfl
 | _,_,.i _ _=>rfl
 | _,_,.s _=>rfl
 | _,_,.p b o h=>by simp only[V.under];exact blt_iff.2 h
 | _,_,.np=>rfl
 | _,_,.slk b o len cap sz _ h _=>by simp only[V.under];exact blt_iff.2 h
 | _,_,.slu b o len cap sz c _ h _ _ _ _=>by simp only[V.under];exact blt_iff.2 h
 | _,_,.ns=>rfl
 | _,_,.m r h=>by simp only[V.under];exact blt_iff.2 h
 | _,_,.nm=>rfl
 | _,_,.fn f l r xs ys h1 h2=>by simp only[V.under,RelL.under h1,RelL.under h2,Bool.and_self]
 | _,_,.nf=>rfl
 | _,_,.iface t v x h=>by simp only[V.under];exact Rel.under h
 | _,_,.ni=>rfl
 | _,_,.agg l xs h=>by simp only[V.under];exact RelL.under h
 | _,_,.tup l xs h=>by simp only[V.under];exact RelL.under h
 | _,_,.y b h=>by simp only[V.under];exact blt_iff.2 h
 | _,_,.se _ _=>rfl
theorem RelL.under:∀{l:List V} {xs:List Value},RelL A n l xs→underL n l=true
 | _,_,.nil=>rfl
 | _,_,.cons v x l xs h h'=>by simp only[underL,Rel.under h,RelL.under h',Bool.and_self]
end
theorem trel_smalls {N:Nat} {t:Tr V} {a:Array Value} (ht:TRel A n N t a) (us:List Nat):∃b:Array Value,TRel A n N (smalls t us .e) b:=by
 refine⟨(Array.range N).map fun i=>if i∈us then a.getD i undef else undef,by simp,fun k=>?_⟩
 have h1:orU ((smalls t us .e).get k)=if k∈us then orU (t.get k)else .u:=smalls_get t us k
 rw[h1]
 have h2:=ht.2 k
 by_cases hk:k<N
 ·rw[Array.getD_eq_getD_getElem?]
  simp only[Array.getElem?_map,Array.getElem?_range,hk,if_true,Option.map_some,Option.getD_some]
  split
  ·exact h2
  ·exact .u
 ·have h3:a.getD k undef=undef:=by
   rw[Array.getD_eq_getD_getElem?,Array.getElem?_eq_none (by rw[ht.1];omega)]
   rfl
  have h4:((Array.range N).map fun i=>if i∈us then a.getD i undef else undef).getD k undef=undef:=by
   rw[Array.getD_eq_getD_getElem?,Array.getElem?_eq_none (by simp;omega)]
   rfl
  rw[h4]
  split
  ·rw[h3]at h2;exact h2
  ·exact .u
end
/-! ### A region that draws its order and turns memory -/
theorem Does.some {P:Program} {o:Oper} {a:Act} {w:World} {R:Value→World→Prop} (h:Does P o a w R):∃x w',R x w':=by
 rcases h with⟨x,w',_,h2⟩ | ⟨w',_,h2⟩ | ⟨f,args,w',_,h2⟩ | ⟨l,f,tmps,assign,body,w',_,h2⟩
 ·exact⟨x,w',h2⟩
 ·exact⟨_,w',h2⟩
 ·obtain⟨e,w2,fr,⟨x,_,hr⟩,_⟩:=h2 []
  exact⟨x,w2,hr⟩
 ·obtain⟨_,h3⟩:=h2 none 0
  obtain⟨e,w2,⟨x,_,hr⟩,_⟩:=h3 (Frame.enter P f #[] .normal) [] (room_wide _)
  exact⟨x,w2,hr⟩
structure Rq where
 ks:List (Option Nat)
 op:Top
 t:Tr V
 v:V
noncomputable section
def Rq.stays (r:Rq) (m:Tr O):Prop:=∀n,tdo noC r.op r.t ⟨n,m⟩=some (r.v,⟨n,m⟩)
def later (j:Nat) (ks:List (Option Nat)):Bool:=ks.any fun | none=>false | some i=>Nat.ble j i
def wpE (C:CallF):List (So × Kd)→Nat→Tr V→H→H→List (Option Nat × H)→List Rq→(Tr V→H→Prop)→Prop
 | [],_,t,_,h,_,_,Q=>Q t h
 |(s,.e) :: l,j,t,_,h,st,rs,Q=>if wantK t s.g=true then ∃v h',tdo C s.op t h=some (v,h')∧(∀r∈rs,some j∈r.ks→r.stays h'.t)∧wpE C l (j+1) (setT t s.d v) h' h' ((some j,h') :: st) rs Q
  else(∀r∈rs,some j∈r.ks→r.stays h.t)∧wpE C l (j+1) (setT t s.d .u) h h ((some j,h) :: st) rs Q
 |(s,.soft) :: l,j,t,hs,h,st,rs,Q=>if wantK t s.g=true then ∃v h',tdo noC s.op t h=some (v,h')∧wpE C l (j+1) (setT t s.d v) hs h' st rs Q else wpE C l (j+1) (setT t s.d .u) hs h st rs Q
 |(s,.q ks) :: l,j,t,hs,h,st,rs,Q=>if wantK t s.g=true then ∃v,(Rq.mk ks s.op t v).stays hs.t∧(∀x∈st,x.1∈ks→(Rq.mk ks s.op t v).stays x.2.t) ∧
   wpE C l (j+1) (setT t s.d v) hs h st (if later j ks=true then⟨ks,s.op,t,v⟩ :: rs else rs) Q
  else wpE C l (j+1) (setT t s.d .u) hs h st rs Q
def Fine (r:Re) (m:Tr O):Prop:=∀far,one (r.f.f noC r.t ⟨far,m⟩ tell)=some (r.v,⟨far,m⟩)
def Kept (j:Nat) (st:List (Option Nat × H)) (rs:List Re) (qs:List Rq):Prop:=∀r∈rs,(∀x∈st,x.1∈r.ks→Fine r x.2.t)∧((∃q∈qs,q.ks=r.ks∧∀m,q.stays m→Fine r m)∨∀i,j≤i→some i ∉ r.ks)
theorem Kept.ok {j far:Nat} {st:List (Option Nat × H)} {rs:List Re} {qs:List Rq} (h:Kept j st rs qs):readsOk far st rs=true:=by
 unfold readsOk
 rw[List.all_eq_true]
 intro r hr
 rw[List.all_eq_true]
 intro x hx
 rw[br_eq]
 split
 ·rename_i hc
  rw[(h r hr).1 x hx (List.contains_iff_mem.1 hc) far]
  exact same_refl r.v
 ·rfl
theorem Kept.stage {j:Nat} {st:List (Option Nat × H)} {rs:List Re} {qs:List Rq} {h':H} (h:Kept j st rs qs) (hq:∀q∈qs,some j∈q.ks→q.stays h'.t):Kept (j+1) ((some j,h') :: st) rs qs:=fun r hr=>by
 obtain⟨h1,h2⟩:=h r hr
 refine⟨fun x hx hk=>?_,?_⟩
 ·rcases List.mem_cons.1 hx with rfl | hx
  ·rcases h2 with⟨q,hq1,hq2,hq3⟩ | h2
   ·exact hq3 _ (hq q hq1 (by rw[hq2];exact hk))
   ·exact absurd hk (h2 j (Nat.le_refl _))
  ·exact h1 x hx hk
 ·rcases h2 with h2 | h2
  ·exact .inl h2
  ·exact .inr fun i hi=>h2 i (by omega)
theorem Kept.next {j:Nat} {st:List (Option Nat × H)} {rs:List Re} {qs:List Rq} (h:Kept j st rs qs):Kept (j+1) st rs qs:=fun r hr=>by
 obtain⟨h1,h2⟩:=h r hr
 refine⟨h1,?_⟩
 rcases h2 with h2 | h2
 ·exact .inl h2
 ·exact .inr fun i hi=>h2 i (by omega)
theorem Kept.read {j:Nat} {st:List (Option Nat × H)} {rs:List Re} {qs:List Rq} (h:Kept j st rs qs) {r:Re} {q:Rq} (hk:q.ks=r.ks) (hq:∀m,q.stays m→Fine r m) (hs:∀x∈st,x.1∈r.ks→q.stays x.2.t):Kept (j+1) st (r :: rs) (if later j r.ks=true then q :: qs else qs):=fun r' hr=>by
 rcases List.mem_cons.1 hr with rfl | hr
 ·refine⟨fun x hx hkx=>hq _ (hs x hx hkx),?_⟩
  by_cases hl:later j r'.ks=true
  ·rw[if_pos hl]
   exact .inl ⟨q,List.mem_cons_self,hk,hq⟩
  ·refine .inr fun i hi hm=>hl ?_
   unfold later
   rw[List.any_eq_true]
   exact⟨some i,hm,Nat.ble_eq_true_of_le (by omega)⟩
 ·obtain⟨h1,h2⟩:=h r' hr
  refine⟨h1,?_⟩
  rcases h2 with⟨q',h3,h4⟩ | h2
  ·refine .inl ⟨q',?_,h4⟩
   split
   ·exact List.mem_cons_of_mem _ h3
   ·exact h3
  ·exact .inr fun i hi=>h2 i (by omega)
theorem kd_dk {P:Program} {b hd:List Nat} {j:Nat} {o:Op} {k:Dk} {kd:Kd} (h1:dkB P b hd j o=some k) (h2:kdB P b hd j o=some kd):(k=.e∧kd=.e)∨(∃g,k=.soft g∧kd=.soft∧isSoft o=true)∨∃ks,k=.q ks∧kd=.q ks∧isE o=false∧isSoft o=false∧quietB P o=true:=by
 unfold dkB at h1
 unfold kdB at h2
 cases hE:isE o with
 | true =>
  rw[hE,br_t]at h1 h2
  injection h1 with h1
  injection h2 with h2
  exact .inl ⟨h1.symm,h2.symm⟩
 | false =>
  rw[hE,br_f]at h1 h2
  right
  split at h1
  ·obtain⟨z,hz,h1⟩:=ob_some h1
   obtain⟨_,h1⟩:=bb_some h1
   injection h1 with h1
   injection h2 with h2
   exact .inl ⟨_,h1.symm,h2.symm,rfl⟩
  ·obtain⟨_,_,h1⟩:=ob_some h1
   obtain⟨_,_,h1⟩:=ob_some h1
   obtain⟨_,_,h1⟩:=ob_some h1
   obtain⟨_,_,h1⟩:=ob_some h1
   obtain⟨_,_,h1⟩:=ob_some h1
   obtain⟨_,_,h1⟩:=ob_some h1
   obtain⟨_,h1⟩:=bb_some h1
   obtain⟨_,h1⟩:=bb_some h1
   injection h1 with h1
   injection h2 with h2
   exact .inl ⟨_,h1.symm,h2.symm,rfl⟩
  ·rename_i hn1 hn2
   obtain⟨hqu,h1⟩:=bb_some h1
   injection h1 with h1
   have hS:isSoft o=false:=by
    cases o <;> first | rfl | exact absurd rfl (hn1 _) | exact absurd rfl (hn2 _ _ _)
   have h2:bb (quietB P o) (some (Kd.q ((none :: hd.map some).filter (mayStand b hd j))))=some kd:=by
    cases o <;> first | exact h2 | exact absurd rfl (hn1 _) | exact absurd rfl (hn2 _ _ _)
   obtain⟨_,h2⟩:=bb_some h2
   injection h2 with h2
   exact .inr ⟨_,h1.symm,h2.symm,rfl,hS,hqu⟩
theorem tdo_re {top:Top} {f:Fx} (hsame:∀C t h,f.f C t h tell=ob (tdo C top t h) fun p=>tell p.1 p.2) {ks:List (Option Nat)} {t ts:Tr V} {v:V} (hts:∀C h,tdo C top ts h=tdo C top t h) (m:Tr O) (hq:(Rq.mk ks top t v).stays m):Fine ⟨ks,f,ts,v⟩ m:=fun far=>by
 show one (f.f noC ts ⟨far,m⟩ tell)=_
 rw[hsame,hts,hq far]
 rfl
theorem vals_cong {t t':Tr V} {l:List Rd} (h:∀r∈l,r.val t=r.val t'):vals t l=vals t' l:=List.map_congr_left h
theorem parts_cong {t t':Tr V} {l:List (Nat × Nat × Rd)} (h:∀r∈l.map (fun x=>x.2.2),r.val t=r.val t'):partsV t l=partsV t' l:=List.map_congr_left fun x hx=>by
 rw[h x.2.2 (List.mem_map.2 ⟨x,hx,rfl⟩)]
theorem bound_cong {β:Type} {t t':Tr V} {x:Option Rd} (h:∀r∈x.toList,r.val t=r.val t') (d top:Nat) (K:Nat→Option β):boundK t x d top K=boundK t' x d top K:=by
 unfold boundK
 cases x with
 | none=>rfl
 | some x =>
  simp only[orr_s,rdK_eq]
  rw[h x (by simp)]
theorem tdo_cong {C:CallF} {op:Top} {t t':Tr V} {h:H} (hr:∀r∈op.rds,r.val t=r.val t'):tdo C op t h=tdo C op t' h:=by
 cases op <;> simp only[Top.rds,List.mem_cons,List.not_mem_nil,or_false,forall_eq_or_imp,forall_eq]at hr <;> simp only[tdo]
 case bd z ps=>rw[parts_cong hr]
 case bs e len sz z ps=>rw[parts_cong hr]
 case s2 sz x lo hi =>
  obtain⟨h1,h2⟩:=hr
  have hlo:∀r∈lo.toList,r.val t=r.val t':=fun r hm=>h2 r (List.mem_append.2 (.inl hm))
  have hhi:∀r∈hi.toList,r.val t=r.val t':=fun r hm=>h2 r (List.mem_append.2 (.inr hm))
  rw[h1]
  cases x.val t' <;> simp only[bound_cong hlo,bound_cong hhi]
 case mf f a b=>rw[vals_cong (l:=a) fun r hm=>hr r (List.mem_append.2 (.inl hm)),vals_cong (l:=b) fun r hm=>hr r (List.mem_append.2 (.inr hm))]
 case mn x l=>rw[hr.1,vals_cong hr.2]
 case mx x l=>rw[hr.1,vals_cong hr.2]
 case call f args=>rw[vals_cong hr]
 case callv g args=>rw[hr.1,vals_cong hr.2]
 all_goals first | rfl |(rw[hr.1,hr.2.1,hr.2.2];done) |(rw[hr.1,hr.2];done) |(rw[hr];done)
theorem rd_small {t:Tr V} {us:List Nat} {r:Rd} (h:r.inB us=true):r.val (smalls t us .e)=r.val t:=by
 cases r with
 | c v=>rfl
 | t k =>
  have hk:k∈us:=List.contains_iff_mem.1 h
  show tv (smalls t us .e) k=tv t k
  rw[smalls_tv,if_pos hk]
theorem so_small {s:So} (h:s.covers=true) (t:Tr V) (C:CallF) (m:H):tdo C s.op (smalls t s.us .e) m=tdo C s.op t m:=by
 unfold So.covers at h
 rw[Bool.and_eq_true,List.all_eq_true]at h
 exact tdo_cong fun r hr=>rd_small (h.1 r hr)
theorem want_small {s:So} (h:s.covers=true) (t:Tr V):wantK (smalls t s.us .e) s.g=wantK t s.g:=by
 unfold So.covers at h
 rw[Bool.and_eq_true]at h
 have h2:=h.2
 cases hg:s.g with
 | none=>rfl
 | some p =>
  obtain⟨d,w⟩:=p
  rw[hg]at h2
  rw[want_s,want_s,smalls_tv,if_pos (List.contains_iff_mem.1 h2)]
theorem underT_ok {A:Sub} {n N:Nat} {t:Tr V} {a:Array Value} (ht:TRel A n N t a) (us:List Nat):underT t n us=true:=by
 unfold underT
 rw[List.all_eq_true]
 intro k _
 have h:=ht.2 k
 cases hk:t.get k with
 | none=>rfl
 | some v =>
  rw[hk]at h
  exact Rel.under h
mutual
theorem under_le {n m:Nat} (h:n≤m):∀v:V,v.under n=true→v.under m=true
 | .u,_=>rfl
 | .b _,_=>rfl
 | .i _ _,_=>rfl
 | .s _,_=>rfl
 | .p b o,hu=>blt_iff.2 (Nat.lt_of_lt_of_le (blt_iff.1 hu) h)
 | .np,_=>rfl
 | .sl b o l c k z,hu=>blt_iff.2 (Nat.lt_of_lt_of_le (blt_iff.1 hu) h)
 | .ns,_=>rfl
 | .m b,hu=>blt_iff.2 (Nat.lt_of_lt_of_le (blt_iff.1 hu) h)
 | .nm,_=>rfl
 | .fn f a b,hu=>by
  have hu:(underL n a&&underL n b)=true:=hu
  rw[Bool.and_eq_true]at hu
  show(underL m a&&underL m b)=true
  rw[underL_le h a hu.1,underL_le h b hu.2]
  rfl
 | .nf,_=>rfl
 | .iface t v,hu=>under_le h v hu
 | .ni,_=>rfl
 | .agg l,hu=>underL_le h l hu
 | .tup l,hu=>underL_le h l hu
 | .y b,hu=>blt_iff.2 (Nat.lt_of_lt_of_le (blt_iff.1 hu) h)
 | .se,_=>rfl
theorem underL_le {n m:Nat} (h:n≤m):∀l:List V,underL n l=true→underL m l=true
 | [],_=>rfl
 | v :: l,hu=>by
  have hu:(v.under n&&underL n l)=true:=hu
  rw[Bool.and_eq_true]at hu
  show(v.under m&&underL m l)=true
  rw[under_le h v hu.1,underL_le h l hu.2]
  rfl
end
theorem underL_mono {l:List V} {n m:Nat} (h:n≤m) (hu:underL n l=true):underL m l=true:=underL_le h l hu
theorem newO_eq {β:Type} (h:H) (x:O) (K:Nat→H→Option β):newO h x K=K h.next ⟨h.next+1,h.t.set h.next (some x)⟩:=by
 unfold newO
 simp only[Tr.put_set,fN_eq]
theorem newRow_eq {β:Type} (h:H) (e:TypeId) (l:List V) (p:Bool) (K:Nat→H→Option β):newRow h e l p K=bb (allOne l) (K h.next ⟨h.next+1,h.t.set h.next (some (.cells e l.length p (Tr.putsL l .e 0)))⟩):=by
 unfold newRow
 simp only[Tr.putL_eq,fN_eq,newO_eq]
theorem soft_do {P:Program} {b hd:List Nat} {j:Nat} {o:Op} {g:Tr V→Option (TypeId × List V × (Nat→V))} {top:Top} (hk:dkB P b hd j o=some (.soft g)) (ht:opT P o=some top) (hs:isSoft o=true) {t:Tr V} {h h':H} {v:V} (hd':tdo noC top t h=some (v,h')) :
  ∃e z,g t=some (e,z,fun b=>match v with | .sl _ o n c k s=>.sl b o n c k s | _=>.p b 0)∧v=(match v with | .sl _ o n c k s=>.sl h.next o n c k s | _=>.p h.next 0)∧h'=⟨h.next+1,h.t.set h.next (some (.cells e z.length false (Tr.putsL z .e 0)))⟩:=by
 unfold dkB at hk
 cases o <;> first | cases hs | skip
 case alloc e =>
  obtain⟨z,hz,hk⟩:=ob_some (show ob (zeroB P e) _=_ from hk)
  obtain⟨h0,hk⟩:=bb_some hk
  injection hk with hk
  injection hk with hk
  subst hk
  obtain⟨z',hz',ht⟩:=ob_some (show ob (zeroB P e) _=_ from ht)
  rw[hz]at hz'
  injection hz' with hz'
  subst hz'
  injection ht with ht
  subst ht
  simp only[tdo,newRow_eq,h0,bb_t]at hd'
  injection hd' with hd'
  injection hd' with h1 h2
  subst h1 h2
  exact⟨e,z.cells,rfl,rfl,rfl⟩
 case makeSlice ty l c =>
  obtain⟨rl,hl,hk⟩:=ob_some (show ob (rdB l) _=_ from hk)
  obtain⟨rc,hc,hk⟩:=ob_some hk
  obtain⟨e,he,hk⟩:=ob_some hk
  obtain⟨sz,hsz,hk⟩:=ob_some hk
  obtain⟨z,hz,hk⟩:=ob_some hk
  obtain⟨by_,hby,hk⟩:=ob_some hk
  obtain⟨h1,hk⟩:=bb_some hk
  obtain⟨h2,hk⟩:=bb_some hk
  injection hk with hk
  injection hk with hk
  subst hk
  have ht:(ob (rdB l) fun l=>ob (rdB c) fun c=>ob (elemB P ty) fun e=>ob (sizeB P e) fun sz=>ob (zeroB P e) fun z=>ob (bytesB P e) fun by_=>bb (Nat.blt 0 sz) (bb (Nat.beq z.cells.length sz) (some (Top.ms e sz by_ z.cells l c))))=some top:=ht
  rw[hl,hc,ob_s,ob_s,he,ob_s,hsz,ob_s,hz,ob_s,hby,ob_s,h1,h2]at ht
  injection ht with ht
  subst ht
  simp only[tdo]at hd'
  simp only[rdK_eq]
  cases hvl:rl.val t with
  | i kl nl =>
   cases nl with
   | ofNat nl =>
    cases hvc:rc.val t with
    | i kc nc =>
     cases nc with
     | ofNat nc =>
      rw[hvl,hvc]at hd'
      simp only[asN,newRow_eq]at hd' ⊢
      obtain⟨h3,hd'⟩:=bb_some hd'
      obtain⟨h4,hd'⟩:=bb_some hd'
      obtain⟨h5,hd'⟩:=bb_some hd'
      obtain⟨h6,hd'⟩:=bb_some hd'
      injection hd' with hd'
      injection hd' with h7 h8
      subst h7 h8
      rw[h3,h4,h5,h6]
      exact⟨e,rep z.cells nc,rfl,rfl,rfl⟩
     | negSucc nc=>rw[hvl,hvc]at hd';cases hd'
    | _=>rw[hvl,hvc]at hd';cases hd'
   | negSucc nl=>rw[hvl]at hd';cases hd'
  | _=>rw[hvl]at hd';cases hd'
theorem mix_run {P:Program} {C:CallF} (hC:CallOk P C) {ops:Array Oper} {N:Nat} {b hd:List Nat} {Q:Tr V→H→Prop} :
  ∀(os:List Oper) (j:Nat) (dl:List Dr) (l:List (So × Kd)) (t:Tr V) (hs h:H) (st:List (Option Nat × H)) (rs:List Re) (qs:List Rq) (vs:List V) (A:Sub) (w:World) (a:Array Value),
   mapO (fun x:Oper × Nat=>ob (stB P ops N x.1) fun s=>ob (dkB P b hd x.2 x.1.op) fun k=>bb s.next.isNone (some (⟨usesT ops x.1,s,k⟩:Dr))) (os.zipIdx j)=some dl →
   mapO (fun x:Oper × Nat=>ob (soB P ops N x.1) fun s=>ob (kdB P b hd x.2 x.1.op) fun k=>bb s.covers (some (s,k))) (os.zipIdx j)=some l→wpE C l j t hs h st qs Q→Mt A h w→TRel A h.next N t a→(∀b O,hs.t.get b=some O→h.t.get b=some O)→Kept j st rs qs→underL h.next vs=true →
   ∃t' h',Q t' h'∧h.next≤h'.next∧∀far,h'.next≤far→runD C far dl j t hs h st rs vs=some [⟨.normal,t',h'⟩]
 | [],j,dl,l,t,hs,h,st,rs,qs,vs,A,w,a,hdl,hl,hq,hm,ht,hsub,hk,hu=>by
  rw[List.zipIdx_nil]at hdl hl
  obtain rfl:=mapO_nil hdl
  obtain rfl:=mapO_nil hl
  refine⟨t,h,hq,Nat.le_refl _,fun far hf=>?_⟩
  rw[runD_n,ble_t hf,hk.ok,hu]
  rfl
 | o :: os,j,dl,l,t,hs,h,st,rs,qs,vs,A,w,a,hdl,hl,hq,hm,ht,hsub,hk,hu=>by
  rw[List.zipIdx_cons]at hdl hl
  obtain⟨d,dl',h1,hdl',rfl⟩:=mapO_cons hdl
  obtain⟨so,l',h2,hl',rfl⟩:=mapO_cons hl
  obtain⟨s,hs',h1⟩:=ob_some h1
  obtain⟨k,hdk,h1⟩:=ob_some h1
  obtain⟨hn,h1⟩:=bb_some h1
  injection h1 with h1
  subst h1
  obtain⟨so',hso,h2⟩:=ob_some h2
  obtain⟨kd,hkd,h2⟩:=ob_some h2
  obtain⟨hcov,h2⟩:=bb_some h2
  injection h2 with h2
  subst h2
  obtain⟨g,hg,hso⟩:=ob_some hso
  obtain⟨dd,hd',hso⟩:=ob_some hso
  obtain⟨top,htop0,hso⟩:=ob_some hso
  injection hso with hso
  subst hso
  unfold stB at hs'
  obtain⟨g',hg',hs'⟩:=ob_some hs'
  obtain⟨d2,hd2,hs'⟩:=ob_some hs'
  rw[hg]at hg'
  injection hg' with hg'
  subst hg'
  rw[hd']at hd2
  injection hd2 with hd2
  subst hd2
  cases hnx:nextB o.op with
  | some x =>
   rw[hnx]at hs'
   obtain⟨x',_,hs'⟩:=ob_some (show ob (rdB x) _=some s from hs')
   obtain⟨_,hs'⟩:=bb_some hs'
   injection hs' with hs'
   subst hs'
   cases hn
  | none =>
  have htop:=topB_opT hnx htop0
  obtain⟨f,hf,hsame⟩:=opT_same htop
  rw[hnx]at hs'
  obtain⟨f',hf',hs'⟩:=ob_some (show ob (opB P o.op) _=some s from hs')
  rw[hf]at hf'
  injection hf' with hf'
  subst hf'
  injection hs' with hs'
  subst hs'
  have hsm:=so_small hcov t
  have hwm:=want_small hcov t
  simp only at hsm hwm
  obtain⟨a2,ht2⟩:=trel_smalls ht (usesT ops o)
  have hund:underT (smalls t (usesT ops o) .e) h.next (usesT ops o)=true:=underT_ok ht2 _
  rcases kd_dk hdk hkd with⟨rfl,rfl⟩ | ⟨gg,rfl,rfl,hsoft⟩ | ⟨ks,rfl,rfl,hE,hS,hQu⟩
  ·
   unfold wpE at hq
   simp only at hq
   by_cases hw:wantK t g=true
   ·rw[if_pos hw]at hq
    obtain⟨v,h',hv,hst,hq⟩:=hq
    have hrun:f.f C (smalls t (usesT ops o) .e) h tell=tell v h':=by
     rw[hsame,hsm,hv]
     rfl
    obtain⟨v2,h2,h3,h4⟩:=opB_ok hC hf o rfl A h w N (smalls t (usesT ops o) .e) { tmps:=a2,defers:=[] } tell _ hm ht2 hrun
    obtain⟨rfl,rfl⟩:=tell_inj (show tell v2 h2=some [⟨.normal,.n .e (some v) .e,h'⟩]from h3)
    obtain⟨x,w',A',hev,hrel⟩:=h4.some
    obtain⟨t',hf',hQ,hle,hrest⟩:=mix_run hC os (j+1) dl' l' (setT t dd v2) h2 h2 ((some j,h2) :: st) rs qs (v2 :: vs) A' w' (({ tmps:=a,defers:=[] }:Act).put o.dst x).tmps hdl' hl' hq hev.mt
     (TRel.dst (a:={ tmps:=a,defers:=[] }) (ht.mono hev.old hev.next) hd' hrel) (fun _ _ h=>h) (hk.stage hst) (by show(v2.under h2.next&&underL h2.next vs)=true;rw[hrel.under,underL_mono hev.next hu];rfl)
    refine⟨t',hf',hQ,Nat.le_trans hev.next hle,fun far hfar=>?_⟩
    rw[runD_c,small_eq]
    simp only
    rw[hwm,hw,br_t,hund,bb_t,hrun,show one (tell v2 h2)=some (v2,h2)from rfl]
    simp only[ob_s]
    rw[ble_t hev.next,bb_t,putK_eq]
    exact hrest far hfar
   ·rw[if_neg hw]at hq
    have hw:wantK t g=false:=by simpa using hw
    obtain⟨hst,hq⟩:=hq
    obtain⟨t',hf',hQ,hle,hrest⟩:=mix_run hC os (j+1) dl' l' (setT t dd .u) h h ((some j,h) :: st) rs qs (.u :: vs) A w (({ tmps:=a,defers:=[] }:Act).put o.dst undef).tmps hdl' hl' hq hm
     (TRel.dst (a:={ tmps:=a,defers:=[] }) ht hd' .u) (fun _ _ h=>h) (hk.stage hst) (by show(true&&underL h.next vs)=true;rw[hu];rfl)
    refine⟨t',hf',hQ,hle,fun far hfar=>?_⟩
    rw[runD_c,small_eq]
    simp only
    rw[hwm,hw,br_f,putK_eq]
    exact hrest far hfar
  ·
   unfold wpE at hq
   simp only at hq
   by_cases hw:wantK t g=true
   ·rw[if_pos hw]at hq
    obtain⟨v,h',hv,hq⟩:=hq
    have hrun:f.f noC (smalls t (usesT ops o) .e) h tell=tell v h':=by
     rw[hsame,hsm,hv]
     rfl
    obtain⟨v2,h2,h3,h4⟩:=opB_ok (noC_ok P) hf o rfl A h w N (smalls t (usesT ops o) .e) { tmps:=a2,defers:=[] } tell _ hm ht2 hrun
    obtain⟨rfl,rfl⟩:=tell_inj (show tell v2 h2=some [⟨.normal,.n .e (some v) .e,h'⟩]from h3)
    obtain⟨x,w',A',hev,hrel⟩:=h4.some
    
    obtain⟨e,z,hg1,hv2,hh2⟩:=soft_do hdk htop hsoft ((hsm _ _).trans hv)
    have hsub2:∀b O,hs.t.get b=some O→h2.t.get b=some O:=fun b O hb=>by
     rw[hh2]
     have h5:=hsub b O hb
     have h6:=hm.lt b O h5
     show(h.t.set h.next _).get b=_
     rw[Tr.get_set,if_neg (by omega)]
     exact h5
    obtain⟨t',hf',hQ,hle,hrest⟩:=mix_run hC os (j+1) dl' l' (setT t dd v2) hs h2 st rs qs (v2 :: vs) A' w' (({ tmps:=a,defers:=[] }:Act).put o.dst x).tmps hdl' hl' hq hev.mt
     (TRel.dst (a:={ tmps:=a,defers:=[] }) (ht.mono hev.old hev.next) hd' hrel) hsub2 hk.next (by show(v2.under h2.next&&underL h2.next vs)=true;rw[hrel.under,underL_mono hev.next hu];rfl)
    refine⟨t',hf',hQ,Nat.le_trans hev.next hle,fun far hfar=>?_⟩
    rw[runD_c,small_eq]
    simp only
    rw[hwm,hw,br_t,hg1]
    simp only[ob_s,Tr.putL_eq,newO_eq,putK_eq]
    rw[←hv2,←hh2]
    exact hrest far hfar
   ·rw[if_neg hw]at hq
    have hw:wantK t g=false:=by simpa using hw
    obtain⟨t',hf',hQ,hle,hrest⟩:=mix_run hC os (j+1) dl' l' (setT t dd .u) hs h st rs qs (.u :: vs) A w (({ tmps:=a,defers:=[] }:Act).put o.dst undef).tmps hdl' hl' hq hm
     (TRel.dst (a:={ tmps:=a,defers:=[] }) ht hd' .u) hsub hk.next (by show(true&&underL h.next vs)=true;rw[hu];rfl)
    refine⟨t',hf',hQ,hle,fun far hfar=>?_⟩
    rw[runD_c,small_eq]
    simp only
    rw[hwm,hw,br_f,putK_eq]
    exact hrest far hfar
  ·
   unfold wpE at hq
   simp only at hq
   by_cases hw:wantK t g=true
   ·rw[if_pos hw]at hq
    obtain⟨v,hv,hst,hq⟩:=hq
    have hm2:Mt A ⟨h.next,hs.t⟩ w:=⟨fun b O hb=>hm.lt b O (hsub b O hb),fun b O hb=>hm.obj b O (hsub b O hb),fun b b' O O' h1 h2 h3=>hm.inj b b' O O' (hsub _ _ h1) (hsub _ _ h2) h3⟩
    have hrun:f.f noC (smalls t (usesT ops o) .e) ⟨h.next,hs.t⟩ tell=tell v ⟨h.next,hs.t⟩:=by
     rw[hsame,hsm,hv h.next]
     rfl
    obtain⟨v',h3,x,_,hrel⟩:=opB_quiet (C:=noC) hf hE hS hQu o rfl A ⟨h.next,hs.t⟩ w N (smalls t (usesT ops o) .e) { tmps:=a2,defers:=[] } tell _ hm2 ht2 hrun
    obtain⟨rfl,_⟩:=tell_inj (show tell v' ⟨h.next,hs.t⟩=some [⟨.normal,.n .e (some v) .e,⟨h.next,hs.t⟩⟩]from h3)
    have hrel:Rel A h.next v' x:=hrel
    obtain⟨t',hf',hQ,hle,hrest⟩:=mix_run hC os (j+1) dl' l' (setT t dd v') hs h st (⟨ks,f,smalls t (usesT ops o) .e,v'⟩ :: rs) _ (v' :: vs) A w (({ tmps:=a,defers:=[] }:Act).put o.dst x).tmps hdl' hl' hq hm
     (TRel.dst (a:={ tmps:=a,defers:=[] }) ht hd' hrel) hsub (hk.read (r:=⟨ks,f,smalls t (usesT ops o) .e,v'⟩) (q:=⟨ks,top,t,v'⟩) rfl (fun m hm=>tdo_re hsame hsm m hm) hst) (by show(v'.under h.next&&underL h.next vs)=true;rw[hrel.under,hu];rfl)
    refine⟨t',hf',hQ,hle,fun far hfar=>?_⟩
    rw[runD_c,small_eq]
    simp only
    have hone:=tdo_re hsame hsm (ks:=ks) (v:=v') hs.t hv far
    rw[hwm,hw,br_t,show one (f.f noC (smalls t (usesT ops o) .e) ⟨far,hs.t⟩ tell)=some (v',⟨far,hs.t⟩)from hone]
    simp only[ob_s]
    rw[putK_eq]
    exact hrest far hfar
   ·rw[if_neg hw]at hq
    have hw:wantK t g=false:=by simpa using hw
    obtain⟨t',hf',hQ,hle,hrest⟩:=mix_run hC os (j+1) dl' l' (setT t dd .u) hs h st rs qs (.u :: vs) A w (({ tmps:=a,defers:=[] }:Act).put o.dst undef).tmps hdl' hl' hq hm
     (TRel.dst (a:={ tmps:=a,defers:=[] }) ht hd' .u) hsub hk.next (by show(true&&underL h.next vs)=true;rw[hu];rfl)
    refine⟨t',hf',hQ,hle,fun far hfar=>?_⟩
    rw[runD_c,small_eq]
    simp only
    rw[hwm,hw,br_f,putK_eq]
    exact hrest far hfar
theorem SW.mix {P:Program} (hmx:P.follows .mixedOrders=true) {C:CallF} (hC:CallOk P C) {r:Option Nat} {N:Nat} {t:Tr V} {h:H} {Q:Ex→Tr V→H→Prop} {l:List (So × Kd)} (hs:wpE C l 0 t h h [(none,h)] [] fun t h=>Q .normal t h):SW P r N (.mix l) t h Q:=⟨fun c hc k=>by
 cases hc with
 | mix h1 h3 hl =>
  obtain⟨dl,hdl⟩:=Option.isSome_iff_exists.1 h3
  rename_i ops
  intro lo A w a K hm ht hd hK
  obtain⟨t',h',hq,hle,hrun⟩:=mix_run hC ops.toList 0 dl l t h h [(none,h)] [] [] [] A w a.tmps hdl hl hs hm ht (fun _ _ h=>h) (fun r hr=>by cases hr) rfl
  refine draw_ok hC hmx h1 hdl (hrun h'.next (Nat.le_refl _)) hm ht hd fun o ho a' w' hx hr=>?_
  obtain rfl:=List.mem_singleton.1 ho
  exact hK ⟨.normal,t',h'⟩ hq a' w' hr⟩
end
structure Td (op:Top) (t:Tr V) (h:H) (v:V) (h':H):Prop where
 eq:tdo noC op t h=some (v,h')
structure Wn (t:Tr V) (g:Option (Nat × Bool)) (w:Bool):Prop where
 eq:wantK t g=w
theorem Wn.n {t:Tr V}:Wn t none true:=⟨want_n t⟩
theorem Wn.tt {t:Tr V} {d:Nat} (h:tv t d=.b true):Wn t (some (d,true)) true:=⟨by rw[want_s,h];rfl⟩
theorem Wn.ff {t:Tr V} {d:Nat} (h:tv t d=.b false):Wn t (some (d,false)) true:=⟨by rw[want_s,h];rfl⟩
theorem Wn.tf {t:Tr V} {d:Nat} (h:tv t d=.b false):Wn t (some (d,true)) false:=⟨by rw[want_s,h];rfl⟩
theorem Wn.ft {t:Tr V} {d:Nat} (h:tv t d=.b true):Wn t (some (d,false)) false:=⟨by rw[want_s,h];rfl⟩
section
variable {t:Tr V} {h h':H} {v v':V} {x y a i c:Rd} {b o n m sz len cap z:Nat} {k:IntKind} {kn:Bool} {p q:Int}
theorem do_mv (hx:x.val t=v):Td (.mv x) t h (v) h:=⟨by subst hx;rfl⟩
theorem do_ld (ha:a.val t=.p b o) (hc:h.cell b o=some v):Td (.ld a) t h (v) h:=⟨by
 rw[tdo_ld,ha]
 show ob (h.cell b o) _=_
 rw[hc]
 rfl⟩
theorem do_lds {l:List V} (ha:a.val t=.p b o) (hl:rowC h b (n+1) o=some l):Td (.lds a (n+1)) t h (.agg l) h:=⟨tdo_lds ha (Nat.succ_pos n) hl⟩
theorem do_fa (hx:x.val t=.p b o):Td (.fa x m) t h (.p b (o+m)) h:=⟨by simp only[tdo,hx];rfl⟩
theorem do_nc (hx:x.val t=.p b o):Td (.nc x) t h (.p b o) h:=⟨by simp only[tdo,hx]⟩
theorem do_ia (hi:i.val t=.i k (n:Int)) (hx:x.val t=.sl b o len cap kn z) (hn:n<len):Td (.ia x i sz) t h (.p b (o+n*sz)) h:=⟨by
 simp only[tdo,hi,hx,asN_cast,blt_t hn]
 rfl⟩
theorem do_len0 (hx:x.val t=.ns):Td (.len x) t h (.i .i64 0) h:=⟨by simp only[tdo,hx];rfl⟩
theorem do_pkt {l r:Rd} (hc:c.val t=.b true) (hl:l.val t=v):Td (.pk c l r) t h (v) h:=⟨by simp only[tdo,hc,hl];rfl⟩
theorem do_pkf {l r:Rd} (hc:c.val t=.b false) (hr:r.val t=v):Td (.pk c l r) t h (v) h:=⟨by simp only[tdo,hc,hr];rfl⟩
theorem do_nt {w:Bool} (hx:x.val t=.b w):Td (.nt x) t h (.b (!w)) h:=⟨by simp only[tdo,hx];rfl⟩
theorem do_ex {l:List V} (hx:x.val t=.tup l) (hv:l[m]?=some v):Td (.ex x m) t h (v) h:=⟨by
 simp only[tdo,hx]
 show ob l[m]? _=_
 rw[hv]
 rfl⟩
theorem wrap64 {n:Int} (h1:-9223372036854775808≤n) (h2:n<9223372036854775808):IntKind.i64.wrap n=n:=IntWalk.i64_in _ ⟨by omega,by omega⟩
theorem do_add (hx:x.val t=.i .i64 p) (hy:y.val t=.i .i64 q) (h1:-9223372036854775808≤p+q) (h2:p+q<9223372036854775808):Td (.ar .add x y) t h (.i .i64 (p+q)) h:=⟨by
 simp only[tdo,hx,hy,asI,decide_true,bb_t,arith,mkI_eq,wrap64 h1 h2]⟩
theorem do_inc (hx:x.val t=.i .i64 (n:Int)) (hy:y.val t=.i .i64 1) (hn:n<9223372036854775807):Td (.ar .add x y) t h (.i .i64 ((n+1:Nat):Int)) h:=⟨by
 rw[(do_add hx hy (by omega) (by omega)).eq]
 rfl⟩
theorem do_sub (hx:x.val t=.i .i64 p) (hy:y.val t=.i .i64 q) (h1:-9223372036854775808≤p-q) (h2:p-q<9223372036854775808):Td (.ar .sub x y) t h (.i .i64 (p-q)) h:=⟨by
 simp only[tdo,hx,hy,asI,decide_true,bb_t,arith,mkI_eq,wrap64 h1 h2]⟩
theorem do_lss {w:Bool} (hx:x.val t=.i k p) (hy:y.val t=.i k q) (hw:decide (p<q)=w):Td (.ar .lss x y) t h (.b w) h:=⟨by
 simp only[tdo,hx,hy,asI,decide_true,bb_t,arith,mkB_eq,hw]⟩
theorem do_leq {w:Bool} (hx:x.val t=.i k p) (hy:y.val t=.i k q) (hw:decide (p≤q)=w):Td (.ar .leq x y) t h (.b w) h:=⟨by
 simp only[tdo,hx,hy,asI,decide_true,bb_t,arith,mkB_eq,hw]⟩
theorem do_gtr {w:Bool} (hx:x.val t=.i k p) (hy:y.val t=.i k q) (hw:decide (q<p)=w):Td (.ar .gtr x y) t h (.b w) h:=⟨by
 simp only[tdo,hx,hy,asI,decide_true,bb_t,arith,mkB_eq]
 subst hw
 rfl⟩
theorem do_geq {w:Bool} (hx:x.val t=.i k p) (hy:y.val t=.i k q) (hw:decide (q≤p)=w):Td (.ar .geq x y) t h (.b w) h:=⟨by
 simp only[tdo,hx,hy,asI,decide_true,bb_t,arith,mkB_eq]
 subst hw
 rfl⟩
theorem do_eqI {w:Bool} (hx:x.val t=.i k p) (hy:y.val t=.i k q) (hw:decide (p=q)=w):Td (.eq .int false x y) t h (.b w) h:=⟨by
 simp only[tdo,hx,hy,eqV,decide_true,bb_t,ob_s,mkB_eq]
 subst hw
 cases h1:(p == q) <;> cases h2:decide (p=q) <;> simp_all⟩
theorem do_neI {w:Bool} (hx:x.val t=.i k p) (hy:y.val t=.i k q) (hw:decide (p=q)=w):Td (.eq .int true x y) t h (.b (!w)) h:=⟨by
 simp only[tdo,hx,hy,eqV,decide_true,bb_t,ob_s,mkB_eq]
 subst hw
 cases h1:(p == q) <;> cases h2:decide (p=q) <;> simp_all⟩
end
section
variable {P:Program} {g:Option (Nat × Bool)} {d:Nat} {op:Top} {us:List Nat} {l:List So} {t:Tr V} {h h':H} {v:V} {Q:Tr V→H→Prop}
structure We (C:CallF) (l:List (So × Kd)) (j:Nat) (t:Tr V) (hs h:H) (st:List (Option Nat × H)) (rs:List Rq) (Q:Tr V→H→Prop):Prop where
 eq:wpE C l j t hs h st rs Q
variable {C:CallF} {lm:List (So × Kd)} {j:Nat} {ks:List (Option Nat)}
end
theorem ret1 {t:Tr V} {h:H} {k:Nat} {v:V} (hk:tv t k=v):retV t h [.t k]=some v:=by subst hk;rfl
theorem ret2 {t:Tr V} {h:H} {k j:Nat} {v w:V} (hk:tv t k=v) (hj:tv t j=w):retV t h [.t k,.t j]=some (.tup [v,w]):=by subst hk hj;rfl
section
variable {P:Program} {r:Option Nat} {N:Nat} {t:Tr V} {h:H} {S:Tr V→H→Prop} {Q:Ex→Tr V→H→Prop}
theorem SW.ct {x:Rd} {a b:Sc} (hv:x.val t=.b true) (hs:SW P r N a t h Q):SW P r N (.cond x a b) t h Q:=.cond hv (fun _=>hs) (fun h=>by cases h)
theorem SW.cf {x:Rd} {a b:Sc} (hv:x.val t=.b false) (hs:SW P r N b t h Q):SW P r N (.cond x a b) t h Q:=.cond hv (fun h=>by cases h) (fun _=>hs)
end
theorem SW.mx {P:Program} (hmx:P.follows .mixedOrders=true) {C:CallF} (hC:CallOk P C) {r:Option Nat} {N:Nat} {t:Tr V} {h:H} {Q:Ex→Tr V→H→Prop} {l:List (So × Kd)} (hs:We C l 0 t h h [(none,h)] [] fun t h=>Q .normal t h):SW P r N (.mix l) t h Q:=.mix hmx hC hs.eq
structure SlAt (h:H) (sz:Nat) (v:V) (rows:List (List V)):Prop where
 len:∀(x:Rd) (t:Tr V) (m:H),x.val t=v→Td (.len x) t m (.i .i64 (rows.length:Int)) m
 at_:∀i,(hi:i<rows.length)→∃b o cap kn,v=.sl b o rows.length cap kn sz∧∀f,f<sz→∃w,(rows[i])[f]?=some w∧h.cell b (o+i*sz+f)=some w
theorem SlAt.nil {h:H} {sz:Nat}:SlAt h sz .ns []:=⟨fun _x _t _m hx=>do_len0 hx,fun _i hi=>absurd hi (Nat.not_lt_zero _)⟩
theorem SlAt.mono {h h':H} {sz:Nat} {v:V} {rows:List (List V)} (hs:SlAt h sz v rows) (hc:∀b o w,h.cell b o=some w→h'.cell b o=some w):SlAt h' sz v rows :=
 ⟨hs.len,fun i hi=>by
  obtain⟨b,o,cap,kn,hv,hf⟩:=hs.at_ i hi
  exact⟨b,o,cap,kn,hv,fun f hlt=>by
   obtain⟨w,h1,h2⟩:=hf f hlt
   exact⟨w,h1,hc _ _ _ h2⟩⟩⟩
def PrAt (h:H) (v:V) (l:List (Int × Int)):Prop:=SlAt h 2 v (l.map fun p=>[.i .i64 p.1,.i .i64 p.2])
theorem PrAt.len {h m:H} {v:V} {l:List (Int × Int)} (hp:PrAt h v l) {x:Rd} {t:Tr V} (hx:x.val t=v):Td (.len x) t m (.i .i64 (l.length:Int)) m:=by
 have:=SlAt.len hp x t m hx
 rwa [List.length_map]at this
theorem PrAt.at_ {h:H} {v:V} {l:List (Int × Int)} (hp:PrAt h v l) {i:Nat} (hi:i<l.length):∃b o cap kn,v=.sl b o l.length cap kn 2∧h.cell b (o+i*2)=some (.i .i64 (l[i]).1)∧h.cell b (o+i*2+1)=some (.i .i64 (l[i]).2):=by
 obtain⟨b,o,cap,kn,hv,hf⟩:=SlAt.at_ hp i (by rw[List.length_map];exact hi)
 rw[List.length_map]at hv
 refine⟨b,o,cap,kn,hv,?_,?_⟩
 ·obtain⟨w,h1,h2⟩:=hf 0 (by decide)
  rw[List.getElem_map]at h1
  injection h1 with h1
  subst h1
  exact h2
 ·obtain⟨w,h1,h2⟩:=hf 1 (by decide)
  rw[List.getElem_map]at h1
  injection h1 with h1
  subst h1
  exact h2
section
variable {t:Tr V} {h:H} {x y:Rd} {p q p' q':Int}
end
noncomputable section
def Wf (h:H):Prop:=∀b O,h.t.get b=some O→b<h.next
theorem SW.wf {P:Program} {r:Option Nat} {N:Nat} {s:Sc} {t:Tr V} {h:H} {Q:Ex→Tr V→H→Prop} (hs:Wf h→SW P r N s t h Q):SW P r N s t h Q:=⟨fun c hc k lo A w a K hm=>(hs hm.lt).run c hc k lo A w a K hm⟩
structure Old (n:Nat) (h h':H):Prop where
 le:n≤h'.next
 get:∀b,b<n→h'.t.get b=h.t.get b
theorem Old.rfl_ {n:Nat} {h:H} (hn:n≤h.next):Old n h h:=⟨hn,fun _ _=>rfl⟩
theorem Old.trans {n m:Nat} {h h' h2:H} (a:Old n h h') (b:Old m h' h2) (hnm:n≤m):Old n h h2:=⟨Nat.le_trans hnm b.le,fun k hk=>(b.get k (by omega)).trans (a.get k hk)⟩
theorem Old.cell {n:Nat} {h h':H} (o:Old n h h') {b:Nat} (hb:b<n) (i:Nat):h'.cell b i=h.cell b i:=by
 unfold H.cell
 rw[o.get b hb]
theorem cell_lt {h:H} (hw:Wf h) {b o:Nat} {v:V} (hc:h.cell b o=some v):b<h.next:=by
 unfold H.cell at hc
 cases hb:h.t.get b with
 | none=>rw[hb]at hc;cases hc
 | some O=>exact hw b O hb
theorem Old.cell' {h h':H} (o:Old h.next h h') (hw:Wf h) {b i:Nat} {v:V} (hc:h.cell b i=some v):h'.cell b i=some v:=by
 rw[o.cell (cell_lt hw hc),hc]
theorem SlAt.old {h h':H} {sz:Nat} {v:V} {rows:List (List V)} (hs:SlAt h sz v rows) (hw:Wf h) (o:Old h.next h h'):SlAt h' sz v rows:=hs.mono fun _ _ _ hc=>o.cell' hw hc
/-! ### New rows -/
def _root_.Go.Proofs.YtkcdehffcddciaaGreatDoor.Vm.H.row (h:H) (b:Nat):Option (TypeId × Nat × Bool):=match h.t.get b with
 | some (.cells e hi p _)=>some (e,hi,p)
 | _=>none
def _root_.Go.Proofs.YtkcdehffcddciaaGreatDoor.Vm.H.new (h:H) (e:TypeId) (l:List V) (p:Bool):H:=⟨h.next+1,h.t.set h.next (some (.cells e l.length p (Tr.putsL l .e 0)))⟩
section
variable {h:H} {e:TypeId} {l:List V} {p:Bool} {b o:Nat}
theorem new_get:(h.new e l p).t.get b=if b=h.next then some (.cells e l.length p (Tr.putsL l .e 0))else h.t.get b:=Tr.get_set _ _ _ _
theorem new_cell:(h.new e l p).cell b o=if b=h.next then l[o]? else h.cell b o:=by
 unfold H.cell
 rw[new_get]
 by_cases hb:b=h.next
 ·rw[if_pos hb,if_pos hb]
  show(if o<l.length then(Tr.putsL l .e 0).get o else none)=_
  rw[Tr.get_putsL]
  by_cases ho:o<l.length
  ·rw[if_pos ho,if_pos ⟨Nat.zero_le _,by omega⟩,Nat.sub_zero]
  ·rw[if_neg ho,List.getElem?_eq_none (by omega)]
 ·rw[if_neg hb,if_neg hb]
theorem new_row:(h.new e l p).row b=if b=h.next then some (e,l.length,p)else h.row b:=by
 unfold H.row
 rw[new_get]
 by_cases hb:b=h.next
 ·rw[if_pos hb,if_pos hb]
 ·rw[if_neg hb,if_neg hb]
theorem new_old:Old h.next h (h.new e l p):=⟨Nat.le_succ _,fun k hk=>by rw[new_get,if_neg (by omega)]⟩
theorem do_al {t:Tr V} {z:List V} (hz:allOne z=true):Td (.al e z) t h (.p h.next 0) (h.new e z false):=⟨by
 simp only[tdo,newRow_eq,hz,bb_t]
 rfl⟩
theorem do_bx {t:Tr V} {x:Rd} {v:V} (hx:x.val t=v) (hz:allOne v.cells=true):Td (.bx e x) t h (.p h.next 0) (h.new e v.cells false):=⟨by
 subst hx
 simp only[tdo,newRow_eq,hz,bb_t]
 rfl⟩
theorem do_ms {t:Tr V} {x y:Rd} {sz by_ n:Nat} {z:List V} (hx:x.val t=.i .i64 (n:Int)) (hy:y.val t=.i .i64 (n:Int)) (h1:n≤65536) (h2:n*by_≤4294967296) (hz:allOne (rep z n)=true):Td (.ms e sz by_ z x y) t h (.sl h.next 0 n n true sz) (h.new e (rep z n) false):=⟨by
 simp only[tdo,hx,hy,asN_cast,newRow_eq,hz,bb_t,ble_t (Nat.le_refl n),ble_t h1,ble_t (show Nat.mul n by_≤4294967296 from h2)]
 rfl⟩
end
/-! ### Stores -/
def _root_.Go.Proofs.YtkcdehffcddciaaGreatDoor.Vm.H.st (h:H) (b o:Nat) (l:List V):H:=match h.t.get b with
 | some (.cells e hi p c)=>⟨h.next,h.t.set b (some (.cells e hi p (Tr.putsL l c o)))⟩
 | _=>h
section
variable {h:H} {e:TypeId} {l:List V} {p:Bool} {b b' o o' hi:Nat}
theorem row_some (hr:h.row b=some (e,hi,p)):∃c,h.t.get b=some (.cells e hi p c):=by
 unfold H.row at hr
 split at hr
 ·rename_i e' hi' p' c hb
  injection hr with hr
  injection hr with h1 hr
  injection hr with h2 h3
  subst h1 h2 h3
  exact⟨c,hb⟩
 ·cases hr
theorem st_eq {c:Tr V} (hb:h.t.get b=some (.cells e hi p c)):h.st b o l=⟨h.next,h.t.set b (some (.cells e hi p (Tr.putsL l c o)))⟩:=by
 unfold H.st
 rw[hb]
theorem st_next:(h.st b o l).next=h.next:=by
 unfold H.st
 split <;> rfl
theorem st_other (hne:b'≠b):(h.st b o l).t.get b'=h.t.get b':=by
 unfold H.st
 split
 ·show(h.t.set b _).get b'=_
  rw[Tr.get_set,if_neg hne]
 ·rfl
theorem st_row:(h.st b o l).row b'=h.row b':=by
 by_cases hne:b'=b
 ·subst hne
  cases hb:h.t.get b' with
  | none=>unfold H.st;rw[hb]
  | some O =>
   cases O with
   | cells e hi p c =>
    rw[st_eq hb]
    unfold H.row
    rw[hb]
    show(match (h.t.set b' _).get b' with | some (.cells e hi p _)=>some (e,hi,p) | _=>none)=_
    rw[Tr.get_set,if_pos rfl]
   | _=>unfold H.st;rw[hb]
 ·unfold H.row
  rw[st_other hne]
theorem st_cell (hr:h.row b=some (e,hi,p)) (hle:o+l.length≤hi):(h.st b o l).cell b o'=if o≤o'∧o'<o+l.length then l[o'-o]? else h.cell b o':=by
 obtain⟨c,hb⟩:=row_some hr
 rw[st_eq hb]
 unfold H.cell
 rw[hb]
 show(match (h.t.set b _).get b with | some (.cells _ hi _ c)=>if o'<hi then c.get o' else none | some (.ro _ _ hi c)=>if o'<hi then c.get o' else none | _=>none)=_
 rw[Tr.get_set,if_pos rfl]
 show(if o'<hi then(Tr.putsL l c o).get o' else none)=_
 rw[Tr.get_putsL]
 by_cases h1:o≤o'∧o'<o+l.length
 ·rw[if_pos h1,if_pos h1,if_pos (by omega)]
 ·rw[if_neg h1,if_neg h1]
theorem do_st {t:Tr V} {a x:Rd} {v:V} {n:Nat} (ha:a.val t=.p b o) (hx:x.val t=v) (hr:h.row b=some (e,hi,p)) (hn:v.cells.length=n) (h1:allOne v.cells=true) (hle:o+n≤hi):Td (.st a x n) t h .u (h.st b o v.cells):=⟨by
 subst hx hn
 obtain⟨c,hb⟩:=row_some hr
 simp only[tdo,ha]
 show bb (Nat.beq (x.val t).cells.length (x.val t).cells.length) (storeL h b o (x.val t).cells _)=_
 rw[show Nat.beq (x.val t).cells.length (x.val t).cells.length=true from Nat.beq_refl _,bb_t]
 unfold storeL rowK
 rw[hb,st_eq hb]
 show bb (Nat.ble (o+(x.val t).cells.length) hi) (bb (allOne (x.val t).cells) (Tr.putL (x.val t).cells c o fun c=>Tr.put (some (.cells e hi p c)) h.t b fun t=>some (V.u,(⟨h.next,t⟩:H))))=_
 rw[ble_t hle,h1,bb_t,bb_t,Tr.putL_eq,Tr.put_set]⟩
end
end
end Go.Proofs.YtkcdehffcddciaaGreatDoor.Vm
