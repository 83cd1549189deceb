/- A region that draws its order: what turns memory comes to just one thing (calls too). -/
import Derived.Test.YtkcdehffcddciaaGreatDoorQ14
namespace Go.Proofs.YtkcdehffcddciaaGreatDoor.Vm
open Go Go.RowKit
noncomputable section
def wpM (P:Program):List (So × Kd)→Nat→Tr V→H→H→List (Option Nat × H)→List Rq→(Tr V→H→Prop)→Prop
 | [],_,t,_,h,_,_,Q=>Q t h
 |(s,.e) :: l,j,t,_,h,st,rs,Q=>if wantK t s.g=true then ∃v h',doP P s.op t h (fun a b=>a=v∧b=h')∧(∀r∈rs,some j∈r.ks→r.stays h'.t)∧wpM P l (j+1) (setT t s.d v) h' h' ((some j,h') :: st) rs Q
  else(∀r∈rs,some j∈r.ks→r.stays h.t)∧wpM P l (j+1) (setT t s.d .u) h h ((some j,h) :: st) rs Q
 |(s,.soft) :: l,j,t,hs,h,st,rs,Q=>if wantK t s.g=true then ∃v h',tdo noC s.op t h=some (v,h')∧wpM P l (j+1) (setT t s.d v) hs h' st rs Q else wpM P l (j+1) (setT t s.d .u) hs h st rs Q
 |(s,.q ks) :: l,j,t,hs,h,st,rs,Q=>if wantK t s.g=true then ∃v,(Rq.mk ks s.op t v).stays hs.t∧(∀x∈st,x.1∈ks→(Rq.mk ks s.op t v).stays x.2.t) ∧
   wpM P l (j+1) (setT t s.d v) hs h st (if later j ks=true then⟨ks,s.op,t,v⟩ :: rs else rs) Q
  else wpM P l (j+1) (setT t s.d .u) hs h st rs Q
def ErX (P:Program) (ops:Array Oper) (N i:Nat) (_:Dr) (ts:Tr V) (h:H) (v:V) (h':H):Prop:=∀o,ops[i]?=some o→∀(A:Sub) (w:World) (a:Act),Mt A h w→TRel A h.next N ts a.tmps→Does P o a w (Post A h w v h')
theorem doP_cong {P:Program} {op:Top} {t t':Tr V} {h:H} {R:V→H→Prop} (hr:∀r∈op.rds,r.val t=r.val t') (hd:doP P op t h R):doP P op t' h R:=by
 have hargs:∀l:List Rd,(∀r∈l,r∈op.rds)→vals t l=vals t' l:=fun l hl=>vals_cong fun r h=>hr r (hl r h)
 cases op with
 | call f args =>
  have:=hargs args fun r h=>h
  unfold doP at hd ⊢
  simp only at hd ⊢
  rw[←this]
  exact hd
 | callv g args =>
  have h1:=hargs args fun r h=>List.mem_cons_of_mem _ h
  have h2:g.val t=g.val t':=hr g (List.mem_cons_self ..)
  unfold doP at hd ⊢
  simp only at hd ⊢
  rw[←h1,←h2]
  exact hd
 | nx x =>
  have h2:x.val t=x.val t':=hr x (List.mem_cons_self ..)
  unfold doP at hd ⊢
  simp only at hd ⊢
  rw[←h2]
  exact hd
 | _ =>
  rw[doP_near rfl]at hd ⊢
  rw[←tdo_cong hr]
  exact hd
theorem mix_canon {P:Program} {ops:Array Oper} {N:Nat} {b hd:List Nat} {Q:Tr V→H→Prop} :
  ∀(os:List Oper) (j:Nat) (dl:List Dr) (l:List (So × Kd)) (t:Tr V) (hs h:H) (st:List (Option Nat × H)) (rs:List Re) (qs:List Rq) (vs:List V) (A:Sub) (w:World) (a:Array Value),(∀i,os[i]?=ops[j+i]?) →
   mapO (fun x:Oper × Nat=>ob (stB P ops N x.1) fun s=>ob (dkB P b hd x.2 x.1.op) fun k=>bb s.next.isNone (some (⟨usesT ops x.1,s,k⟩:Dr))) (os.zipIdx j)=some dl →
   mapO (fun x:Oper × Nat=>ob (soB P ops N x.1) fun s=>ob (kdB P b hd x.2 x.1.op) fun k=>bb s.covers (some (s,k))) (os.zipIdx j)=some l→wpM P l j t hs h st qs Q→Mt A h w→TRel A h.next N t a→(∀b O,hs.t.get b=some O→h.t.get b=some O)→Kept j st rs qs→underL h.next vs=true →
   ∃t' h',Q t' h'∧h.next≤h'.next∧∀far,h'.next≤far→∃T S H v stf rsf,Canon (ErX P ops N) far dl j t hs h st rs vs [⟨.normal,t',h'⟩] T S H v stf rsf
 | [],j,dl,l,t,hs,h,st,rs,qs,vs,A,w,a,ho,hdl,hl,hq,hm,ht,hsub,hk,hu=>by
  rw[List.zipIdx_nil]at hdl hl
  obtain rfl:=mapO_nil hdl
  obtain rfl:=mapO_nil hl
  refine⟨t,h,hq,Nat.le_refl _,fun far hf=>?_⟩
  exact⟨fun _=>t,fun _=>hs,fun _=>h,fun _=>.u,st,rs,rfl,rfl,rfl,fun i d hd=>by simp at hd,rfl,hf,hk.ok,fun i hi=>by simp at hi,underL_mem hu,fun _ h=>h,fun _ h=>h,fun i d hd=>by simp at hd,fun i d ks hd=>by simp at hd⟩
 | o :: os,j,dl,l,t,hs,h,st,rs,qs,vs,A,w,a,hoo,hdl,hl,hq,hm,ht,hsub,hk,hu=>by
  have hoj:ops[j]?=some o:=by have:=hoo 0;rw[Nat.add_zero]at this;exact this.symm
  have hoo':∀i,os[i]?=ops[j+1+i]?:=fun i=>by have:=hoo (i+1);rw[show j+(i+1)=j+1+i by omega]at this;exact this
  rw[List.zipIdx_cons]at hdl hl
  obtain⟨d,dl',h1,hdl',rfl⟩:=mapO_cons hdl
  obtain⟨so,l',h2,hl',rfl⟩:=mapO_cons hl
  obtain⟨s,hs',h1⟩:=ob_some h1
  obtain⟨k,hdk,h1⟩:=ob_some h1
  obtain⟨hn,h1⟩:=bb_some h1
  injection h1 with h1
  subst h1
  obtain⟨so',hso,h2⟩:=ob_some h2
  obtain⟨kd,hkd,h2⟩:=ob_some h2
  obtain⟨hcov,h2⟩:=bb_some h2
  injection h2 with h2
  subst h2
  obtain⟨g,hg,hso⟩:=ob_some hso
  obtain⟨dd,hd',hso⟩:=ob_some hso
  obtain⟨top,htop0,hso⟩:=ob_some hso
  injection hso with hso
  subst hso
  unfold stB at hs'
  obtain⟨g',hg',hs'⟩:=ob_some hs'
  obtain⟨d2,hd2,hs'⟩:=ob_some hs'
  rw[hg]at hg'
  injection hg' with hg'
  subst hg'
  rw[hd']at hd2
  injection hd2 with hd2
  subst hd2
  cases hnx:nextB o.op with
  | some x =>
   rw[hnx]at hs'
   obtain⟨x',_,hs'⟩:=ob_some (show ob (rdB x) _=some s from hs')
   obtain⟨_,hs'⟩:=bb_some hs'
   injection hs' with hs'
   subst hs'
   cases hn
  | none =>
  have htop:=topB_opT hnx htop0
  obtain⟨f,hf,hsame⟩:=opT_same htop
  rw[hnx]at hs'
  obtain⟨f',hf',hs'⟩:=ob_some (show ob (opB P o.op) _=some s from hs')
  rw[hf]at hf'
  injection hf' with hf'
  subst hf'
  injection hs' with hs'
  subst hs'
  have hsm:=so_small hcov t
  have hwm:=want_small hcov t
  simp only at hsm hwm
  obtain⟨a2,ht2⟩:=trel_smalls ht (usesT ops o)
  have hund:underT (smalls t (usesT ops o) .e) h.next (usesT ops o)=true:=underT_ok ht2 _
  rcases kd_dk hdk hkd with⟨rfl,rfl⟩ | ⟨gg,rfl,rfl,hsoft⟩ | ⟨ks,rfl,rfl,hE,hS,hQu⟩
  ·
   unfold wpM at hq
   simp only at hq
   by_cases hw:wantK t g=true
   ·rw[if_pos hw]at hq
    obtain⟨v,h',hv,hst,hq⟩:=hq
    have hv2:doP P top (smalls t (usesT ops o) .e) h (fun a b=>a=v∧b=h'):=doP_cong (fun r hr=>by
     have h3:(top.rds.all (Rd.inB (usesT ops o)))=true:=by
      have:=hcov
      unfold So.covers at this
      exact(Bool.and_eq_true_iff.1 this).1
     exact(rd_small (List.all_eq_true.1 h3 r hr)).symm) hv
    have hto:=doP_to htop0 hv2
    have her:ErX P ops N j ⟨usesT ops o,⟨g,dd,none,f⟩,.e⟩ (smalls t (usesT ops o) .e) h v h':=fun o2 ho2 A w a hm ht=>by
     rw[hoj]at ho2
     injection ho2 with ho2
     subst ho2
     exact(hto.2 _ rfl A w N a hm ht).mono fun x w' ⟨v2,h2,hp,h3,h4⟩=>by subst h3 h4;exact hp
    obtain⟨x,w',A',hev,hrel⟩:=(her o hoj A w { tmps:=a2,defers:=[] } hm ht2).some
    obtain⟨t',hf',hQ,hle,hrest⟩:=mix_canon os (j+1) dl' l' (setT t dd v) h' h' ((some j,h') :: st) rs qs (v :: vs) A' w' (({ tmps:=a,defers:=[] }:Act).put o.dst x).tmps hoo' hdl' hl' hq hev.mt
     (TRel.dst (a:={ tmps:=a,defers:=[] }) (ht.mono hev.old hev.next) hd' hrel) (fun _ _ h=>h) (hk.stage hst) (by show(v.under h'.next&&underL h'.next vs)=true;rw[hrel.under,underL_mono hev.next hu];rfl)
    refine⟨t',hf',hQ,Nat.le_trans hev.next hle,fun far hfar=>?_⟩
    obtain⟨T,S,H,w2,stf,rsf,hc⟩:=hrest far hfar
    exact⟨_,_,_,_,stf,rsf,hc.cons ⟨rfl,.inr ⟨by rw[hwm];exact hw,hund,her,hev.next,rfl⟩⟩ (fun x hx=>by simp[hx]) (fun x hx=>hx) (fun _=>by simp) (fun ks hq=>by cases hq)⟩
   ·rw[if_neg hw]at hq
    have hw:wantK t g=false:=by simpa using hw
    obtain⟨hst,hq⟩:=hq
    obtain⟨t',hf',hQ,hle,hrest⟩:=mix_canon os (j+1) dl' l' (setT t dd .u) h h ((some j,h) :: st) rs qs (.u :: vs) A w (({ tmps:=a,defers:=[] }:Act).put o.dst undef).tmps hoo' hdl' hl' hq hm
     (TRel.dst (a:={ tmps:=a,defers:=[] }) ht hd' .u) (fun _ _ h=>h) (hk.stage hst) (by show(true&&underL h.next vs)=true;rw[hu];rfl)
    refine⟨t',hf',hQ,hle,fun far hfar=>?_⟩
    obtain⟨T,S,H,w2,stf,rsf,hc⟩:=hrest far hfar
    exact⟨_,_,_,_,stf,rsf,hc.cons ⟨rfl,.inl ⟨by rw[hwm];exact hw,rfl,rfl,rfl⟩⟩ (fun x hx=>by simp[hx]) (fun x hx=>hx) (fun _=>by simp) (fun ks hq=>by cases hq)⟩
  ·
   unfold wpM at hq
   simp only at hq
   by_cases hw:wantK t g=true
   ·rw[if_pos hw]at hq
    obtain⟨v,h',hv,hq⟩:=hq
    have hrun:f.f noC (smalls t (usesT ops o) .e) h tell=tell v h':=by
     rw[hsame,hsm,hv]
     rfl
    obtain⟨v2,h2,h3,h4⟩:=opB_ok (noC_ok P) hf o rfl A h w N (smalls t (usesT ops o) .e) { tmps:=a2,defers:=[] } tell _ hm ht2 hrun
    obtain⟨rfl,rfl⟩:=tell_inj (show tell v2 h2=some [⟨.normal,.n .e (some v) .e,h'⟩]from h3)
    obtain⟨x,w',A',hev,hrel⟩:=h4.some
    obtain⟨e,z,hg1,hv2,hh2⟩:=soft_do hdk htop hsoft ((hsm _ _).trans hv)
    have hsub2:∀b O,hs.t.get b=some O→h2.t.get b=some O:=fun b O hb=>by
     rw[hh2]
     have h5:=hsub b O hb
     have h6:=hm.lt b O h5
     show(h.t.set h.next _).get b=_
     rw[Tr.get_set,if_neg (by omega)]
     exact h5
    obtain⟨t',hf',hQ,hle,hrest⟩:=mix_canon os (j+1) dl' l' (setT t dd v2) hs h2 st rs qs (v2 :: vs) A' w' (({ tmps:=a,defers:=[] }:Act).put o.dst x).tmps hoo' hdl' hl' hq hev.mt
     (TRel.dst (a:={ tmps:=a,defers:=[] }) (ht.mono hev.old hev.next) hd' hrel) hsub2 hk.next (by show(v2.under h2.next&&underL h2.next vs)=true;rw[hrel.under,underL_mono hev.next hu];rfl)
    refine⟨t',hf',hQ,Nat.le_trans hev.next hle,fun far hfar=>?_⟩
    obtain⟨T,S,H,w2,stf,rsf,hc⟩:=hrest far hfar
    exact⟨_,_,_,_,stf,rsf,hc.cons ⟨rfl,.inr ⟨by rw[hwm];exact hw,_,hg1,hv2,hh2,rfl⟩⟩ (fun x hx=>hx) (fun x hx=>hx) (fun hq=>by cases hq) (fun ks hq=>by cases hq)⟩
   ·rw[if_neg hw]at hq
    have hw:wantK t g=false:=by simpa using hw
    obtain⟨t',hf',hQ,hle,hrest⟩:=mix_canon os (j+1) dl' l' (setT t dd .u) hs h st rs qs (.u :: vs) A w (({ tmps:=a,defers:=[] }:Act).put o.dst undef).tmps hoo' hdl' hl' hq hm
     (TRel.dst (a:={ tmps:=a,defers:=[] }) ht hd' .u) hsub hk.next (by show(true&&underL h.next vs)=true;rw[hu];rfl)
    refine⟨t',hf',hQ,hle,fun far hfar=>?_⟩
    obtain⟨T,S,H,w2,stf,rsf,hc⟩:=hrest far hfar
    exact⟨_,_,_,_,stf,rsf,hc.cons ⟨rfl,.inl ⟨by rw[hwm];exact hw,rfl,rfl,rfl⟩⟩ (fun x hx=>hx) (fun x hx=>hx) (fun hq=>by cases hq) (fun ks hq=>by cases hq)⟩
  ·
   unfold wpM at hq
   simp only at hq
   by_cases hw:wantK t g=true
   ·rw[if_pos hw]at hq
    obtain⟨v,hv,hst,hq⟩:=hq
    have hm2:Mt A ⟨h.next,hs.t⟩ w:=⟨fun b O hb=>hm.lt b O (hsub b O hb),fun b O hb=>hm.obj b O (hsub b O hb),fun b b' O O' h1 h2 h3=>hm.inj b b' O O' (hsub _ _ h1) (hsub _ _ h2) h3⟩
    have hrun:f.f noC (smalls t (usesT ops o) .e) ⟨h.next,hs.t⟩ tell=tell v ⟨h.next,hs.t⟩:=by
     rw[hsame,hsm,hv h.next]
     rfl
    obtain⟨v',h3,x,_,hrel⟩:=opB_quiet (C:=noC) hf hE hS hQu o rfl A ⟨h.next,hs.t⟩ w N (smalls t (usesT ops o) .e) { tmps:=a2,defers:=[] } tell _ hm2 ht2 hrun
    obtain⟨rfl,_⟩:=tell_inj (show tell v' ⟨h.next,hs.t⟩=some [⟨.normal,.n .e (some v) .e,⟨h.next,hs.t⟩⟩]from h3)
    have hrel:Rel A h.next v' x:=hrel
    obtain⟨t',hf',hQ,hle,hrest⟩:=mix_canon os (j+1) dl' l' (setT t dd v') hs h st (⟨ks,f,smalls t (usesT ops o) .e,v'⟩ :: rs) _ (v' :: vs) A w (({ tmps:=a,defers:=[] }:Act).put o.dst x).tmps hoo' hdl' hl' hq hm
     (TRel.dst (a:={ tmps:=a,defers:=[] }) ht hd' hrel) hsub (hk.read (r:=⟨ks,f,smalls t (usesT ops o) .e,v'⟩) (q:=⟨ks,top,t,v'⟩) rfl (fun m hm=>tdo_re hsame hsm m hm) hst) (by show(v'.under h.next&&underL h.next vs)=true;rw[hrel.under,hu];rfl)
    refine⟨t',hf',hQ,hle,fun far hfar=>?_⟩
    obtain⟨T,S,H,w2,stf,rsf,hc⟩:=hrest far hfar
    have hone:=tdo_re hsame hsm (ks:=ks) (v:=v') hs.t hv far
    exact⟨_,_,_,_,stf,rsf,hc.cons ⟨rfl,.inr ⟨by rw[hwm];exact hw,⟨_,hone⟩,rfl,rfl⟩⟩ (fun x hx=>hx) (fun x hx=>by simp[hx]) (fun hq=>by cases hq) (fun ks' hq _=>by
     injection hq with hq
     subst hq
     simp)⟩
   ·rw[if_neg hw]at hq
    have hw:wantK t g=false:=by simpa using hw
    obtain⟨t',hf',hQ,hle,hrest⟩:=mix_canon os (j+1) dl' l' (setT t dd .u) hs h st rs qs (.u :: vs) A w (({ tmps:=a,defers:=[] }:Act).put o.dst undef).tmps hoo' hdl' hl' hq hm
     (TRel.dst (a:={ tmps:=a,defers:=[] }) ht hd' .u) hsub hk.next (by show(true&&underL h.next vs)=true;rw[hu];rfl)
    refine⟨t',hf',hQ,hle,fun far hfar=>?_⟩
    obtain⟨T,S,H,w2,stf,rsf,hc⟩:=hrest far hfar
    exact⟨_,_,_,_,stf,rsf,hc.cons ⟨rfl,.inl ⟨by rw[hwm];exact hw,rfl,rfl,rfl⟩⟩ (fun x hx=>hx) (fun x hx=>hx) (fun hq=>by cases hq) (fun ks' _ hq=>by rw[hwm,hw]at hq;cases hq)⟩
theorem SW.mixM {P:Program} (hmx:P.follows .mixedOrders=true) {r:Option Nat} {N:Nat} {t:Tr V} {h:H} {Q:Ex→Tr V→H→Prop} {l:List (So × Kd)} (hs:wpM P l 0 t h h [(none,h)] [] fun t h=>Q .normal t h):SW P r N (.mix l) t h Q:=⟨fun c hc k=>by
 cases hc with
 | mix h1 h3 hl =>
  obtain⟨dl,hdl⟩:=Option.isSome_iff_exists.1 h3
  rename_i ops
  intro lo A w a K hm ht hd hK
  obtain⟨hlen,hdr⟩:=drB_get hdl
  obtain⟨t',h',hq,hle,hrun⟩:=mix_canon ops.toList 0 dl l t h h [(none,h)] [] [] [] A w a.tmps (fun i=>by rw[Nat.zero_add,Array.getElem?_toList]) hdl hl hs hm ht (fun _ _ h=>h) (fun r hr=>by cases hr) rfl
  obtain⟨T,S,H,v,stf,rsf,hcn⟩:=hrun h'.next (Nat.le_refl _)
  refine draw_of (Er:=ErX P ops N) (fun i o d ho hd _ ts m v m' he A w a hm ht=>he o ho A w a hm ht) hmx h1 hlen hdr hcn hm ht hd fun o ho a' w' hx hr=>?_
  obtain rfl:=List.mem_singleton.1 ho
  exact hK ⟨.normal,t',h'⟩ hq a' w' hr⟩
end
noncomputable section
theorem nbeq_t {j k:Nat} (h:j=k):Nat.beq j k=true:=by subst h;exact Nat.beq_refl _
theorem nbeq_f {j k:Nat} (h:j≠k):Nat.beq j k=false:=by
 cases hb:Nat.beq j k with
 | false=>rfl
 | true=>exact absurd (Nat.eq_of_beq_eq_true hb) h
abbrev Env:=List (Nat × V)
def look:Env→Nat→Option V
 | [],_=>none
 |(j,v) :: e,k=>bif Nat.beq j k then some v else look e k
def Rd.lk (e:Env):Rd→Option V
 | .t k=>look e k
 | .c v=>some v
structure Tm (t:Tr V) (e:Env):Prop where
 eq:∀k v,look e k=some v→tv t k=v
theorem look_c (j:Nat) (v:V) (e:Env) (k:Nat):look ((j,v) :: e) k=if j=k then some v else look e k:=by
 show(bif Nat.beq j k then some v else look e k)=_
 by_cases h:j=k
 ·rw[if_pos h,nbeq_t h];rfl
 ·rw[if_neg h,nbeq_f h];rfl
theorem Tm.set {t:Tr V} {e:Env} (h:Tm t e) (d:Nat) (v:V):Tm (t.set d (some v)) ((d,v) :: e):=⟨fun k w hk=>by
 rw[look_c]at hk
 rw[tv_set]
 by_cases e1:d=k
 ·rw[if_pos e1]at hk
  rw[if_pos e1.symm]
  injection hk
 ·rw[if_neg e1]at hk
  rw[if_neg (fun h=>e1 h.symm)]
  exact h.eq k w hk⟩
def envL:Nat→List V→Env
 | _,[]=>[]
 | k,v :: l=>(k,v) :: envL (k+1) l
theorem look_envL:∀(l:List V) (i k:Nat) (v:V),look (envL i l) k=some v→i≤k∧l[k-i]?=some v
 | [],i,k,v,h=>by cases h
 | w :: l,i,k,v,h=>by
  rw[show envL i (w :: l)=(i,w) :: envL (i+1) l from rfl,look_c]at h
  by_cases e:i=k
  ·rw[if_pos e]at h
   subst e
   exact⟨Nat.le_refl _,by rw[Nat.sub_self];exact h⟩
  ·rw[if_neg e]at h
   obtain⟨h1,h2⟩:=look_envL l (i+1) k v h
   exact⟨by omega,by rw[show k-i=(k-(i+1))+1 by omega];exact h2⟩
theorem Tm.start (l:List V):Tm (Tr.putsL l .e 0) (envL 0 l):=⟨fun k v h=>by
 obtain⟨_,h2⟩:=look_envL l 0 k v h
 rw[Nat.sub_zero]at h2
 rw[tv_puts,h2]
 rfl⟩
theorem Rd.lk_val {x:Rd} {e:Env} {v:V} {t:Tr V} (hx:x.lk e=some v) (ht:Tm t e):x.val t=v:=by
 cases x with
 | t k=>exact ht.eq k v hx
 | c w=>injection hx
def Cov (e:Env):Env→Prop
 | []=>True
 |(k,v) :: l=>look e k=some v∧Cov e l
theorem Cov.look {e:Env}:∀(l:Env),Cov e l→∀k v,look l k=some v→look e k=some v
 | [],_,k,v,h=>by cases h
 |(j,w) :: l,hc,k,v,h=>by
  rw[look_c]at h
  by_cases e1:j=k
  ·rw[if_pos e1]at h
   injection h with h
   subst e1 h
   exact hc.1
  ·rw[if_neg e1]at h
   exact Cov.look l hc.2 k v h
theorem Tm.cov {t:Tr V} {e l:Env} (h:Tm t e) (hc:Cov e l):Tm t l:=⟨fun k v hk=>h.eq k v (Cov.look l hc k v hk)⟩
def lkL (e:Env):List Rd→Option (List V)
 | []=>some []
 | x :: l=>match x.lk e,lkL e l with
  | some v,some vs=>some (v :: vs)
  | _,_=>none
theorem lkL_vals {e:Env} {t:Tr V} (ht:Tm t e):∀(l:List Rd) (vs:List V),lkL e l=some vs→vals t l=vs
 | [],vs,h=>by injection h
 | x :: l,vs,h=>by
  unfold lkL at h
  split at h
  ·rename_i v ws h1 h2
   injection h with h
   subst h
   show x.val t :: vals t l=_
   rw[Rd.lk_val h1 ht,lkL_vals ht l ws h2]
  ·cases h
structure Od (op:Top) (e:Env) (h:H) (v:V) (h':H):Prop where
 eq:∀t,Tm t e→Td op t h v h'
structure Gd (e:Env) (g:Option (Nat × Bool)) (w:Bool):Prop where
 eq:∀t,Tm t e→Wn t g w
theorem Gd.n {e:Env}:Gd e none true:=⟨fun _ _=>.n⟩
theorem Gd.tt {e:Env} {d:Nat} (h:look e d=some (.b true)):Gd e (some (d,true)) true:=⟨fun _ ht=>.tt (ht.eq _ _ h)⟩
theorem Gd.ff {e:Env} {d:Nat} (h:look e d=some (.b false)):Gd e (some (d,false)) true:=⟨fun _ ht=>.ff (ht.eq _ _ h)⟩
theorem Gd.tf {e:Env} {d:Nat} (h:look e d=some (.b false)):Gd e (some (d,true)) false:=⟨fun _ ht=>.tf (ht.eq _ _ h)⟩
theorem Gd.ft {e:Env} {d:Nat} (h:look e d=some (.b true)):Gd e (some (d,false)) false:=⟨fun _ ht=>.ft (ht.eq _ _ h)⟩
/-! ### Just one end, or some -/
def X2 (m:Bool) (J:(V→H→Prop)→Prop) (R:V→H→Prop):Prop:=match m with
 | false=>J R
 | true=>∃v h,J (fun a b=>a=v∧b=h)∧R v h
theorem X2.mono {m:Bool} {J:(V→H→Prop)→Prop} {R S:V→H→Prop} (hJ:∀R S:V→H→Prop,(∀v h,R v h→S v h)→J R→J S) (hx:X2 m J R) (hs:∀v h,R v h→S v h):X2 m J S:=by
 cases m with
 | false=>exact hJ _ _ hs hx
 | true=>exact let ⟨v,h,h1,h2⟩:=hx;⟨v,h,h1,hs v h h2⟩
theorem X2.some {m:Bool} {J:(V→H→Prop)→Prop} {R:V→H→Prop} (hJ:∀R S:V→H→Prop,(∀v h,R v h→S v h)→J R→J S) (hx:X2 m J R):J R:=by
 cases m with
 | false=>exact hx
 | true=>exact let ⟨v,h,h1,h2⟩:=hx;hJ _ _ (fun a b ⟨e1,e2⟩=>by subst e1 e2;exact h2) h1
theorem X2.of {m:Bool} {J:(V→H→Prop)→Prop} {R:V→H→Prop} (hx:∀m,X2 m J R):X2 m J R:=hx m
def FX (m:Bool) (P:Program) (f:FuncId) (args:List V) (h:H) (R:V→H→Prop):Prop:=X2 m (Fn P f args h) R
def YX (m:Bool) (P:Program) (b:Nat) (args:List V) (h:H) (R:V→H→Prop):Prop:=X2 m (Yd P b args h) R
theorem Yd.mono {P:Program} {b:Nat} {args:List V} {h:H} {R S:V→H→Prop} (hf:Yd P b args h R) (hs:∀v h',R v h'→S v h'):Yd P b args h S:=fun A w xs hm hx=>by
 obtain⟨fn,tmps,as,bd,h1,h2⟩:=hf A w xs hm hx
 exact⟨fn,tmps,as,bd,h1,fun k n=>(h2 k n).mono fun _ _ ⟨x,he,v,h',hp,hR⟩=>⟨x,he,v,h',hp,hs v h' hR⟩⟩
theorem doP_mono {P:Program} {op:Top} {t:Tr V} {h:H} {R S:V→H→Prop} (hs:∀v h,R v h→S v h) (hd:doP P op t h R):doP P op t h S:=by
 cases op with
 | call f args=>exact Fn.mono hd hs
 | callv g args =>
  unfold doP at hd ⊢
  simp only at hd ⊢
  split at hd
  ·exact Fn.mono hd hs
  ·exact Yd.mono hd hs
  ·cases hd
 | nx x =>
  unfold doP at hd ⊢
  simp only at hd ⊢
  split at hd
  ·rename_i hv
   refine⟨hd.1,?_⟩
   have hd:=hd.2
   split at hd
   ·rename_i hn;exact fun c hc=>hs _ _ (hd c hc)
   ·cases hd
  ·cases hd
 | _ =>
  rw[doP_near rfl]at hd ⊢
  split at hd
  ·rename_i hp;exact hs _ _ hd
  ·cases hd
theorem FX.mono {m:Bool} {P:Program} {f:FuncId} {args:List V} {h:H} {R S:V→H→Prop} (hf:FX m P f args h R) (hs:∀v h',R v h'→S v h'):FX m P f args h S:=X2.mono (fun _ _ h1 h2=>Fn.mono h2 h1) hf hs
theorem FX.fn {m:Bool} {P:Program} {f:FuncId} {args:List V} {h:H} {R:V→H→Prop} (hf:FX m P f args h R):Fn P f args h R:=X2.some (fun _ _ h1 h2=>Fn.mono h2 h1) hf
theorem Fn.fx {m:Bool} {P:Program} {f:FuncId} {args:List V} {h:H} {c:V} (hf:Fn P f args h fun v h'=>v=c∧Old h.next h h') (hc:c.under h.next=true):FX m P f args h fun v h'=>v=c∧h'=h:=by
 have he:=hf.exact hc
 cases m with
 | false=>exact he.fn ⟨rfl,rfl⟩
 | true=>exact⟨c,h,he.fn ⟨rfl,rfl⟩,rfl,rfl⟩
def wpX (m:Bool) (P:Program):List So→Tr V→H→(Tr V→H→Prop)→Prop
 | [],t,h,Q=>Q t h
 | s :: l,t,h,Q=>if wantK t s.g=true then X2 m (doP P s.op t h) fun v h'=>wpX m P l (setT t s.d v) h' Q else wpX m P l (setT t s.d .u) h Q
theorem wpX_false {P:Program}:∀(l:List So) (t:Tr V) (h:H) (Q:Tr V→H→Prop),wpX false P l t h Q→wpL P l t h Q
 | [],t,h,Q,hq=>hq
 | s :: l,t,h,Q,hq=>by
  unfold wpX at hq
  unfold wpL
  split at hq
  ·rename_i hw
   rw[if_pos hw]
   exact doP_mono (fun v h' h1=>wpX_false l _ _ _ h1) hq
  ·rename_i hw
   rw[if_neg hw]
   exact wpX_false l _ _ _ hq
theorem wpX_true {P:Program}:∀(l:List So) (t:Tr V) (h:H) (Q:Tr V→H→Prop),wpX true P l t h Q→∃t' h',wpL P l t h (fun a b=>a=t'∧b=h')∧Q t' h'
 | [],t,h,Q,hq=>⟨t,h,⟨rfl,rfl⟩,hq⟩
 | s :: l,t,h,Q,hq=>by
  unfold wpX at hq
  split at hq
  ·rename_i hw
   obtain⟨v,h',h1,h2⟩:=hq
   obtain⟨t2,h3,h4,h5⟩:=wpX_true l _ _ _ h2
   refine⟨t2,h3,?_,h5⟩
   unfold wpL
   rw[if_pos hw]
   exact doP_mono (fun a b ⟨e1,e2⟩=>by subst e1 e2;exact h4) h1
  ·rename_i hw
   obtain⟨t2,h3,h4,h5⟩:=wpX_true l _ _ _ hq
   refine⟨t2,h3,?_,h5⟩
   unfold wpL
   rw[if_neg hw]
   exact h4
theorem wpM_exact {P:Program}:∀(l:List (So × Kd)) (j:Nat) (t:Tr V) (hs h:H) (st:List (Option Nat × H)) (rs:List Rq) (Q:Tr V→H→Prop),wpM P l j t hs h st rs Q→∃t' h',wpM P l j t hs h st rs (fun a b=>a=t'∧b=h')∧Q t' h'
 | [],_,t,_,h,_,_,Q,hq=>⟨t,h,⟨rfl,rfl⟩,hq⟩
 |(s,.e) :: l,j,t,hs,h,st,rs,Q,hq=>by
  unfold wpM at hq
  split at hq
  ·rename_i hw
   obtain⟨v,h',h1,h2,h3⟩:=hq
   obtain⟨t2,h4,h5,h6⟩:=wpM_exact l _ _ _ _ _ _ _ h3
   exact⟨t2,h4,by unfold wpM;rw[if_pos hw];exact⟨v,h',h1,h2,h5⟩,h6⟩
  ·rename_i hw
   obtain⟨t2,h4,h5,h6⟩:=wpM_exact l _ _ _ _ _ _ _ hq.2
   exact⟨t2,h4,by unfold wpM;rw[if_neg hw];exact⟨hq.1,h5⟩,h6⟩
 |(s,.soft) :: l,j,t,hs,h,st,rs,Q,hq=>by
  unfold wpM at hq
  split at hq
  ·rename_i hw
   obtain⟨v,h',h1,h3⟩:=hq
   obtain⟨t2,h4,h5,h6⟩:=wpM_exact l _ _ _ _ _ _ _ h3
   exact⟨t2,h4,by unfold wpM;rw[if_pos hw];exact⟨v,h',h1,h5⟩,h6⟩
  ·rename_i hw
   obtain⟨t2,h4,h5,h6⟩:=wpM_exact l _ _ _ _ _ _ _ hq
   exact⟨t2,h4,by unfold wpM;rw[if_neg hw];exact h5,h6⟩
 |(s,.q ks) :: l,j,t,hs,h,st,rs,Q,hq=>by
  unfold wpM at hq
  split at hq
  ·rename_i hw
   obtain⟨v,h1,h2,h3⟩:=hq
   obtain⟨t2,h4,h5,h6⟩:=wpM_exact l _ _ _ _ _ _ _ h3
   exact⟨t2,h4,by unfold wpM;rw[if_pos hw];exact⟨v,h1,h2,h5⟩,h6⟩
  ·rename_i hw
   obtain⟨t2,h4,h5,h6⟩:=wpM_exact l _ _ _ _ _ _ _ hq
   exact⟨t2,h4,by unfold wpM;rw[if_neg hw];exact h5,h6⟩
def SX (m:Bool) (P:Program) (r:Option Nat) (N:Nat) (s:Sc) (t:Tr V) (h:H) (Q:Ex→Tr V→H→Prop):Prop:=match m with
 | false=>∀r',(r=none→r'=none)→SW P r' N s t h Q
 | true=>∀c,ScOf P N c s→∃o:Out,(∀r',(r=none→r'=none)→SWc P r' N c t h fun x t h=>x=o.x∧t=o.t∧h=o.h)∧Q o.x o.t o.h
section
variable {m:Bool} {P:Program} {r:Option Nat} {N:Nat} {t:Tr V} {h:H} {Q Q':Ex→Tr V→H→Prop} {a b s:Sc}
theorem SX.mono (hs:SX m P r N s t h Q) (hq:∀x t h,Q x t h→Q' x t h):SX m P r N s t h Q':=by
 cases m with
 | false=>exact fun r' hr=>SW.mono (hs r' hr) hq
 | true=>exact fun c hc=>let ⟨o,h1,h2⟩:=hs c hc;⟨o,h1,hq _ _ _ h2⟩
theorem SX.sw (hs:SX m P r N s t h Q):SW P r N s t h Q:=by
 cases m with
 | false=>exact hs r id
 | true=>exact⟨fun c hc k=>let ⟨o,h1,h2⟩:=hs c hc;((h1 r id).mono fun x t h ⟨e1,e2,e3⟩=>by subst e1 e2 e3;exact h2).run k⟩
theorem SX.seq (hs:SX m P r N a t h (andN (fun t h=>SX m P r N b t h Q) Q)):SX m P r N (.seq a b) t h Q:=by
 cases m with
 | false=>exact fun r' hr=>SW.seq ((hs r' hr).mono fun x t h hx=>by
   cases x with
   | normal=>exact hx r' hr
   | _=>exact hx)
 | true =>
  intro c hc
  cases hc with
  | seq ha hb =>
   obtain⟨o,h1,h2⟩:=hs _ ha
   cases hx:o.x with
   | normal =>
    rw[hx]at h2
    obtain⟨o2,h3,h4⟩:=h2 _ hb
    exact⟨o2,fun r' hr=>SWc.seq ((h1 r' hr).mono fun x t h ⟨e1,e2,e3⟩=>by rw[hx]at e1;subst e1 e2 e3;exact h3 r' hr),h4⟩
   | _ =>
    rw[hx]at h2
    exact⟨o,fun r' hr=>SWc.seq ((h1 r' hr).mono fun x t h ⟨e1,e2,e3⟩=>by rw[hx]at e1;subst e1 e2 e3;exact⟨hx.symm,rfl,rfl⟩),by rw[hx];exact h2⟩
theorem SX.just (o:Out) (hs:∀r' Q,Q o.x o.t o.h→SW P r' N s t h Q) (hq:Q o.x o.t o.h):SX m P r N s t h Q:=by
 cases m with
 | false=>exact fun r' _=>hs r' Q hq
 | true=>exact fun c hc=>⟨o,fun r' _=>(hs r' _ ⟨rfl,rfl,rfl⟩).cd hc,hq⟩
theorem SX.skip (hq:Q .normal t h):SX m P r N .skip t h Q:=SX.just ⟨.normal,t,h⟩ (fun _ _ hq=>SW.skip hq) hq
theorem SX.exit {n:Nat} (hq:Q (.exit n) t h):SX m P r N (.exit n) t h Q:=SX.just ⟨.exit n,t,h⟩ (fun _ _ hq=>SW.exit hq) hq
theorem SX.ret (hq:Q .ret t h):SX m P r N .ret t h Q:=SX.just ⟨.ret,t,h⟩ (fun _ _ hq=>SW.ret hq) hq
theorem SX.cond {x:Rd} {v:Bool} (hv:x.val t=.b v) (h1:v=true→SX m P r N a t h Q) (h2:v=false→SX m P r N b t h Q):SX m P r N (.cond x a b) t h Q:=by
 cases m with
 | false=>exact fun r' hr=>SW.cond hv (fun e=>h1 e r' hr) fun e=>h2 e r' hr
 | true =>
  intro c hc
  cases hc with
  | cond hx ha hb =>
   cases v with
   | true=>exact let ⟨o,h3,h4⟩:=h1 rfl _ ha;⟨o,fun r' hr=>SWc.cond hx hv (fun _=>h3 r' hr) (fun h=>by cases h),h4⟩
   | false=>exact let ⟨o,h3,h4⟩:=h2 rfl _ hb;⟨o,fun r' hr=>SWc.cond hx hv (fun h=>by cases h) (fun _=>h3 r' hr),h4⟩
theorem SX.block {id:Nat} (hs:SX m P r N b t h fun x t h=>Q (catch_ id x) t h):SX m P r N (.block id b) t h Q:=by
 cases m with
 | false=>exact fun r' hr=>SW.block (hs r' hr)
 | true =>
  intro c hc
  cases hc with
  | block hb=>exact let ⟨o,h1,h2⟩:=hs _ hb;⟨⟨catch_ id o.x,o.t,o.h⟩,fun r' hr=>SWc.block ((h1 r' hr).mono fun x t h ⟨e1,e2,e3⟩=>by subst e1 e2 e3;exact⟨rfl,rfl,rfl⟩),h2⟩
theorem SX.scope (hs:SX m P r N b t h Q):SX m P r N (.scope b) t h Q:=by
 cases m with
 | false=>exact fun r' hr=>SW.scope (hs r' hr)
 | true =>
  intro c hc
  cases hc with
  | scope hb=>exact let ⟨o,h1,h2⟩:=hs _ hb;⟨o,fun r' hr=>SWc.scope (h1 r' hr),h2⟩
theorem SX.region {l:List So} (hs:wpX m P l t h fun t h=>Q .normal t h):SX m P r N (.region l) t h Q:=by
 cases m with
 | false=>exact fun r' _=>SW.region (wpX_false _ _ _ _ hs)
 | true =>
  obtain⟨t',h',h1,h2⟩:=wpX_true _ _ _ _ hs
  exact fun c hc=>⟨⟨.normal,t',h'⟩,fun r' _=>(SW.region (by
   have e1:(fun (t:Tr V) (h:H)=>Ex.normal=Ex.normal∧t=t'∧h=h')=fun t h=>t=t'∧h=h':=by
    funext t h
    exact propext ⟨fun h=>h.2,fun h=>⟨rfl,h⟩⟩
   show wpL P l t h fun (t:Tr V) (h:H)=>Ex.normal=Ex.normal∧t=t'∧h=h'
   rw[e1]
   exact h1)).cd hc,h2⟩
theorem SX.mix (hmx:P.follows .mixedOrders=true) {l:List (So × Kd)} (hs:wpM P l 0 t h h [(none,h)] [] fun t h=>Q .normal t h):SX m P r N (.mix l) t h Q:=by
 cases m with
 | false=>exact fun r' _=>SW.mixM hmx hs
 | true =>
  obtain⟨t',h',h1,h2⟩:=wpM_exact _ _ _ _ _ _ _ _ hs
  exact fun c hc=>⟨⟨.normal,t',h'⟩,fun r' _=>(SW.mixM hmx (by
   have e1:(fun (t:Tr V) (h:H)=>Ex.normal=Ex.normal∧t=t'∧h=h')=fun t h=>t=t'∧h=h':=by
    funext t h
    exact propext ⟨fun h=>h.2,fun h=>⟨rfl,h⟩⟩
   show wpM P l 0 t h h [(none,h)] [] fun (t:Tr V) (h:H)=>Ex.normal=Ex.normal∧t=t'∧h=h'
   rw[e1]
   exact h1)).cd hc,h2⟩
inductive Rounds (P:Program) (r:Option Nat) (N:Nat) (b:Code) (o:Out):Nat→Tr V→H→Prop
 | last (n:Nat) (t:Tr V) (h:H):(∀r',(r=none→r'=none)→SWc P r' N b t h (fun x t h=>x=o.x∧t=o.t∧h=o.h))→o.x≠.normal→Rounds P r N b o n t h
 | next (n:Nat) (t t':Tr V) (h h':H):(∀r',(r=none→r'=none)→SWc P r' N b t h (fun x a c=>x=.normal∧a=t'∧c=h'))→Rounds P r N b o n t' h'→Rounds P r N b o (n+1) t h
theorem SX.loop (I:Nat→Tr V→H→Prop) (k:Nat) (h0:I k t h) (hI:∀k t h,I k t h→SX m P r N b t h (andN (fun t' h'=>∃k',k'<k∧I k' t' h') Q)):SX m P r N (.loop b) t h Q:=by
 cases m with
 | false=>exact fun r' hr=>SW.loop I k h0 fun k t h hi=>hI k t h hi r' hr
 | true =>
  intro c hc
  cases hc with
  | loop hb =>
   rename_i c
   have key:∀n k,k<n→∀t h,I k t h→∃o:Out,Q o.x o.t o.h∧∃j,Rounds P r N c o j t h:=by
    intro n
    induction n with
    | zero=>intro k hk;omega
    | succ n ih =>
     intro k hk t h hi
     obtain⟨o,h1,h2⟩:=hI k t h hi _ hb
     cases hx:o.x with
     | normal =>
      rw[hx]at h2
      obtain⟨k',h3,h4⟩:=h2
      obtain⟨o2,h5,j,h6⟩:=ih k' (by omega) _ _ h4
      exact⟨o2,h5,j+1,.next j t o.t h o.h (fun r' hr=>(h1 r' hr).mono fun x t h ⟨e1,e2,e3⟩=>⟨e1.trans hx,e2,e3⟩) h6⟩
     | _=>exact⟨o,by rw[hx]at h2 ⊢;exact h2,0,.last 0 t h h1 (by rw[hx];exact fun h=>by cases h)⟩
   obtain⟨o,h1,j,h2⟩:=key (k+1) k (Nat.lt_succ_self _) t h h0
   refine⟨o,fun r' hr=>SWc.loop (fun n t h=>Rounds P r N c o n t h) j h2 fun n t h hrd=>?_,h1⟩
   cases hrd with
   | last _ _ _ h3 h4 =>
    refine(h3 r' hr).mono fun x t h hh=>?_
    obtain⟨e1,e2,e3⟩:=hh
    subst e1 e2 e3
    cases hx:o.x with
    | normal=>exact absurd hx h4
    | _=>exact⟨rfl,rfl,rfl⟩
   | next j _ t' _ h' h3 h4 =>
    refine(h3 r' hr).mono fun x t h hh=>?_
    obtain⟨e1,e2,e3⟩:=hh
    subst e1 e2 e3
    exact⟨j,Nat.lt_succ_self _,h4⟩
theorem SX.range {x:Rd} {ps:List Nat} {sa sb:Sc} {g:FuncId} {cap:List V} (hv:x.val t=.fn (.func g) [] cap)
  (hs:∀as bd,ScOf P N as sa→ScOf P N bd sb→FX m P g (.y h.next :: cap) ⟨h.next+1,h.t.set h.next (some (.loop .ready t N ps as bd))⟩ fun _ h2=>Over h.next t Q h2):SX m P none N (.range x ps sa sb) t h Q:=by
 cases m with
 | false=>exact fun r' hr=>by rw[hr rfl];exact SW.range hv hs
 | true =>
  intro c hc
  cases hc with
  | range hps hdk hx ha hb =>
   obtain⟨v,h2,h3,st,t',N',ps',as',bd',h4,h5⟩:=hs _ _ ha hb
   have key:∀o:Out,((st=.ready∧o=⟨.normal,t,⟨h2.next,h2.t.set h.next none⟩⟩)∨∃y,st=.done y∧o=⟨y,t,⟨h2.next,h2.t.set h.next none⟩⟩)→∀r',((none:Option Nat)=none→r'=none)→SWc P r' N _ t h fun x t h=>x=o.x∧t=o.t∧h=o.h:=fun o ho r' hr=>by
    rw[hr rfl]
    refine SWc.range hps hdk hx hv (Fn.mono h3 fun _ h' ⟨_,e⟩=>?_)
    subst e
    refine⟨st,t',N',ps',as',bd',h4,?_⟩
    rcases ho with⟨e1,e2⟩ | ⟨y,e1,e2⟩
    ·subst e2;exact .inl ⟨e1,rfl,rfl,rfl⟩
    ·subst e2;exact .inr ⟨y,e1,rfl,rfl,rfl⟩
   rcases h5 with⟨e1,hq⟩ | ⟨y,e1,hq⟩
   ·exact⟨_,key ⟨.normal,t,_⟩ (.inl ⟨e1,rfl⟩),hq⟩
   ·exact⟨_,key ⟨y,t,_⟩ (.inr ⟨y,e1,rfl⟩),hq⟩
end
/-! ### Undrawn regions -/
structure Cx where
 m:Bool
 P:Program
 r:Option Nat
 N:Nat
 R:Env→H→Prop
structure Ew (C:Cx) (l:List So) (e:Env) (h:H) (Q:Env→H→Prop):Prop where
 run:∀t,Tm t e→wpX C.m C.P l t h fun t h=>∃e,Tm t e∧Q e h
section
variable {C:Cx} {g:Option (Nat × Bool)} {d:Nat} {op:Top} {us:List Nat} {l:List So} {e:Env} {h h':H} {v:V} {Q:Env→H→Prop}
theorem ew_n (hq:Q e h):Ew C [] e h Q:=⟨fun _ ht=>⟨e,ht,hq⟩⟩
theorem wpX_op {m:Bool} {P:Program} {s:So} {l:List So} {t:Tr V} {Q:Tr V→H→Prop} (hw:Wn t s.g true) (hd:Td s.op t h v h') (hr:wpX m P l (setT t s.d v) h' Q):wpX m P (s :: l) t h Q:=by
 unfold wpX
 rw[if_pos hw.eq]
 cases m with
 | false=>exact doP_of hd.eq hr
 | true=>exact⟨v,h',doP_of hd.eq ⟨rfl,rfl⟩,hr⟩
theorem wpX_no {m:Bool} {P:Program} {s:So} {l:List So} {t:Tr V} {Q:Tr V→H→Prop} (hw:Wn t s.g false) (hr:wpX m P l (setT t s.d .u) h Q):wpX m P (s :: l) t h Q:=by
 unfold wpX
 rw[if_neg (by rw[hw.eq];exact fun h=>by cases h)]
 exact hr
theorem wpX_go {m:Bool} {P:Program} {s:So} {l:List So} {t:Tr V} {Q:Tr V→H→Prop} (hw:Wn t s.g true) (hd:X2 m (doP P s.op t h) fun v h'=>wpX m P l (setT t s.d v) h' Q):wpX m P (s :: l) t h Q:=by
 unfold wpX
 rw[if_pos hw.eq]
 exact hd
theorem ew_s (hw:Gd e g true) (hd:Od op e h v h') (hr:Ew C l ((d,v) :: e) h' Q):Ew C (⟨g,some d,op,us⟩ :: l) e h Q:=⟨fun t ht=>wpX_op (hw.eq t ht) (hd.eq t ht) (hr.run _ (ht.set d v))⟩
theorem ew_u (hw:Gd e g true) (hd:Od op e h v h') (hr:Ew C l e h' Q):Ew C (⟨g,none,op,us⟩ :: l) e h Q:=⟨fun t ht=>wpX_op (hw.eq t ht) (hd.eq t ht) (hr.run _ ht)⟩
theorem ew_z (hw:Gd e g false) (hr:Ew C l ((d,.u) :: e) h Q):Ew C (⟨g,some d,op,us⟩ :: l) e h Q:=⟨fun t ht=>wpX_no (hw.eq t ht) (hr.run _ (ht.set d .u))⟩
theorem X2.map {m:Bool} {J J':(V→H→Prop)→Prop} {R S:V→H→Prop} (hx:X2 m J R) (hJ:∀R,J R→J' R) (hm:∀R S:V→H→Prop,(∀v h,R v h→S v h)→J' R→J' S) (hs:∀v h,R v h→S v h):X2 m J' S:=by
 cases m with
 | false=>exact hm _ _ hs (hJ _ hx)
 | true=>exact let ⟨v,h,h1,h2⟩:=hx;⟨v,h,hJ _ h1,hs v h h2⟩
theorem ew_c {f:FuncId} {args:List Rd} {R:V→H→Prop} {vs:List V} (hw:Gd e g true) (ha:lkL e args=some vs) (hf:FX C.m C.P f vs h R) (hr:∀v h',R v h'→Ew C l ((d,v) :: e) h' Q):Ew C (⟨g,some d,.call f args,us⟩ :: l) e h Q :=
 ⟨fun t ht=>wpX_go (hw.eq t ht) (X2.map hf (fun R hR=>by have:=lkL_vals ht _ _ ha;subst this;exact hR) (fun _ _=>doP_mono) fun v h' hR=>(hr v h' hR).run _ (ht.set d v))⟩
theorem doP_callv {P:Program} {x:Rd} {args:List Rd} {t:Tr V} {f:FuncId} {first cap:List V} {R:V→H→Prop} (hx:x.val t=.fn (.func f) first cap) (hf:Fn P f (first++(vals t args++cap)) h R):doP P (.callv x args) t h R:=by
 unfold doP
 simp only
 rw[hx]
 exact hf
theorem doP_yd {P:Program} {x:Rd} {args:List Rd} {t:Tr V} {b:Nat} {R:V→H→Prop} (hx:x.val t=.y b) (hf:Yd P b (vals t args) h R):doP P (.callv x args) t h R:=by
 unfold doP
 simp only
 rw[hx]
 exact hf
theorem ew_cv {x:Rd} {f:FuncId} {first cap:List V} {args:List Rd} {R:V→H→Prop} {vs:List V} (hw:Gd e g true) (hx:x.lk e=some (.fn (.func f) first cap)) (ha:lkL e args=some vs) (hf:FX C.m C.P f (first++(vs++cap)) h R) (hr:∀v h',R v h'→Ew C l ((d,v) :: e) h' Q):Ew C (⟨g,some d,.callv x args,us⟩ :: l) e h Q :=
 ⟨fun t ht=>wpX_go (hw.eq t ht) (X2.map hf (fun R hR=>doP_callv (Rd.lk_val hx ht) (by have:=lkL_vals ht _ _ ha;subst this;exact hR)) (fun _ _=>doP_mono) fun v h' hR=>(hr v h' hR).run _ (ht.set d v))⟩
theorem ew_y {x:Rd} {b:Nat} {args:List Rd} {R:V→H→Prop} {vs:List V} (hw:Gd e g true) (hx:x.lk e=some (.y b)) (ha:lkL e args=some vs) (hf:YX C.m C.P b vs h R) (hr:∀v h',R v h'→Ew C l ((d,v) :: e) h' Q):Ew C (⟨g,some d,.callv x args,us⟩ :: l) e h Q :=
 ⟨fun t ht=>wpX_go (hw.eq t ht) (X2.map hf (fun R hR=>doP_yd (Rd.lk_val hx ht) (by have:=lkL_vals ht _ _ ha;subst this;exact hR)) (fun _ _=>doP_mono) fun v h' hR=>(hr v h' hR).run _ (ht.set d v))⟩
theorem ew_nx {b:Nat} {x:Rd} {cs:List (V × H)} (hm:C.m=false) (hx:x.lk e=some (.p b 0)) (hn:nextC h b=some cs) (hr:∀c∈cs,Ew C l ((d,c.1) :: e) c.2 Q):Ew C (⟨none,some d,.nx x,us⟩ :: l) e h Q:=⟨fun t ht=>wpX_go .n (by
 rw[hm]
 unfold X2
 simp only
 unfold doP
 simp only
 rw[Rd.lk_val hx ht]
 refine⟨rfl,?_⟩
 rw[hn]
 exact fun c hc=>by have:=(hr c hc).run _ (ht.set d c.1);rw[hm]at this;exact this)⟩
theorem Tm.true_ {t:Tr V} (ht:Tm t e) {d:Nat} {c w:Bool} (hx:look e d=some (.b c)) (hc:c=w):Tm t ((d,.b w) :: e):=⟨fun k v hk=>by
 rw[look_c]at hk
 by_cases e1:d=k
 ·rw[if_pos e1]at hk
  injection hk with hk
  subst e1 hk hc
  exact ht.eq _ _ hx
 ·rw[if_neg e1]at hk
  exact ht.eq _ _ hk⟩
theorem ew_if {c:Bool} (hx:look e d=some (.b c)) (h1:c=true→Ew C l ((d,.b true) :: e) h Q) (h2:c=false→Ew C l ((d,.b false) :: e) h Q):Ew C l e h Q:=⟨fun t ht=>by
 cases c with
 | true=>exact(h1 rfl).run t (ht.true_ hx rfl)
 | false=>exact(h2 rfl).run t (ht.true_ hx rfl)⟩
end
/-! ### Code -/
inductive Fr where
 | code (s:Sc)
 | blk (id:Nat)
 | cut (S:Env→H→Prop)
def kont (C:Cx):List Fr→Ex→Env→H→Prop
 | [],x,e,h=>(x=.normal∨x=.ret)∧C.R e h
 | .code s :: K,.normal,e,h=>∀t,Tm t e→SX C.m C.P C.r C.N s t h fun x t h=>∃e,Tm t e∧kont C K x e h
 | .code _ :: K,x,e,h=>kont C K x e h
 | .blk id :: K,x,e,h=>kont C K (catch_ id x) e h
 | .cut S :: _,.normal,e,h=>S e h
 | .cut _ :: K,x,e,h=>kont C K x e h
structure Es (C:Cx) (K:List Fr) (s:Sc) (e:Env) (h:H):Prop where
 run:∀t,Tm t e→SX C.m C.P C.r C.N s t h fun x t h=>∃e,Tm t e∧kont C K x e h
structure Nx (C:Cx) (K:List Fr) (e:Env) (h:H):Prop where
 run:kont C K .normal e h
def unw (n:Nat):List Fr→Option (List Fr)
 | []=>none
 | .blk id :: K=>bif Nat.beq n id then some K else unw n K
 | .code _ :: K=>unw n K
 | .cut _ :: K=>unw n K
section
variable {C:Cx} {K:List Fr} {a b s:Sc} {e:Env} {h:H}
theorem kont_ret (hr:C.R e h):∀K:List Fr,kont C K .ret e h
 | []=>⟨.inr rfl,hr⟩
 | .code _ :: K=>kont_ret hr K
 | .blk _ :: K=>kont_ret hr K
 | .cut _ :: K=>kont_ret hr K
theorem kont_exit {n:Nat} {K':List Fr} (hn:kont C K' .normal e h):∀K:List Fr,unw n K=some K'→kont C K (.exit n) e h
 | [],h=>by cases h
 | .code _ :: K,h=>kont_exit hn K h
 | .cut _ :: K,h=>kont_exit hn K h
 | .blk id :: K,h=>by
  show kont C K (if n=id then .normal else .exit n) _ _
  by_cases e1:n=id
  ·rw[if_pos e1]
   have h:(bif Nat.beq n id then some K else unw n K)=some K':=h
   rw[nbeq_t e1]at h
   injection h with h
   subst h
   exact hn
  ·rw[if_neg e1]
   have h:(bif Nat.beq n id then some K else unw n K)=some K':=h
   rw[nbeq_f e1]at h
   exact kont_exit hn K h
theorem Nx.code (hs:Es C K s e h):Nx C (.code s :: K) e h:=⟨hs.run⟩
theorem Nx.blk {id:Nat} (hs:Nx C K e h):Nx C (.blk id :: K) e h:=⟨hs.run⟩
theorem Nx.cut {S:Env→H→Prop} (hs:S e h):Nx C (.cut S :: K) e h:=⟨hs⟩
theorem Nx.nil (hs:C.R e h):Nx C [] e h:=⟨.inl rfl,hs⟩
theorem Es.seq (hs:Es C (.code b :: K) a e h):Es C K (.seq a b) e h:=⟨fun t ht=>SX.seq ((hs.run t ht).mono fun x t h ⟨e,ht,hk⟩=>by
 cases x with
 | normal=>exact hk t ht
 | _=>exact⟨e,ht,hk⟩)⟩
theorem Es.skip (hs:Nx C K e h):Es C K .skip e h:=⟨fun _ ht=>SX.skip ⟨e,ht,hs.run⟩⟩
theorem Es.exit {n:Nat} {K':List Fr} (hu:unw n K=some K') (hs:Nx C K' e h):Es C K (.exit n) e h:=⟨fun _ ht=>SX.exit ⟨e,ht,kont_exit hs.run K hu⟩⟩
theorem Es.ret (hr:C.R e h):Es C K .ret e h:=⟨fun _ ht=>SX.ret ⟨e,ht,kont_ret hr K⟩⟩
theorem Es.cb {x:Rd} {c:Bool} (hx:x.lk e=some (.b c)) (h1:c=true→Es C K a e h) (h2:c=false→Es C K b e h):Es C K (.cond x a b) e h:=⟨fun t ht=>SX.cond (Rd.lk_val hx ht) (fun h=>(h1 h).run t ht) fun h=>(h2 h).run t ht⟩
theorem Es.ct {x:Rd} (hx:x.lk e=some (.b true)) (hs:Es C K a e h):Es C K (.cond x a b) e h:=Es.cb hx (fun _=>hs) fun h=>by cases h
theorem Es.cf {x:Rd} (hx:x.lk e=some (.b false)) (hs:Es C K b e h):Es C K (.cond x a b) e h:=Es.cb hx (fun h=>by cases h) fun _=>hs
theorem Es.block {id:Nat} (hs:Es C (.blk id :: K) b e h):Es C K (.block id b) e h:=⟨fun t ht=>SX.block (hs.run t ht)⟩
theorem Es.scope (hs:Es C K b e h):Es C K (.scope b) e h:=⟨fun t ht=>SX.scope (hs.run t ht)⟩
theorem wpX_mono {m:Bool} {P:Program} {Q Q':Tr V→H→Prop} (hq:∀t h,Q t h→Q' t h):∀(l:List So) (t:Tr V) (h:H),wpX m P l t h Q→wpX m P l t h Q'
 | [],t,h,hs=>hq _ _ hs
 | s :: l,t,h,hs=>by
  unfold wpX at hs ⊢
  split
  ·rename_i hw
   rw[if_pos hw]at hs
   exact X2.mono (fun _ _=>doP_mono) hs fun v h' h1=>wpX_mono hq l _ _ h1
  ·rename_i hw
   rw[if_neg hw]at hs
   exact wpX_mono hq l _ _ hs
theorem Es.region {l:List So} (hs:Ew C l e h (Nx C K)):Es C K (.region l) e h:=⟨fun t ht=>SX.region (wpX_mono (fun _ _ ⟨e,ht,hn⟩=>⟨e,ht,hn.run⟩) _ _ _ (hs.run t ht))⟩
theorem Es.cov {e':Env} (hc:Cov e e') (hs:Es C K s e' h):Es C K s e h:=⟨fun t ht=>hs.run t (ht.cov hc)⟩
theorem Es.cut (S:Env→H→Prop) (hs:Es C (.cut S :: K) a e h) (hb:∀e h,S e h→Nx C K e h):Es C K a e h:=⟨fun t ht=>(hs.run t ht).mono fun x t h ⟨e,ht,hk⟩=>by
 cases x with
 | normal=>exact⟨e,ht,(hb e h hk).run⟩
 | _=>exact⟨e,ht,hk⟩⟩
theorem Es.to {X:Type} (env:X→Env) (φ:X→H→Prop) (hs:Es C (.cut (fun e h=>∃x,Cov e (env x)∧φ x h) :: K) a e h) (hb:∀x h,φ x h→Nx C K (env x) h):Es C K a e h :=
 ⟨fun t ht=>(hs.run t ht).mono fun x t h ⟨e,ht,hk⟩=>by
  cases x with
  | normal=>exact let ⟨x,hc,hp⟩:=hk;⟨env x,ht.cov hc,(hb x h hp).run⟩
  | _=>exact⟨e,ht,hk⟩⟩
theorem Nx.to {X:Type} {env:X→Env} {φ:X→H→Prop} (x:X) (hc:Cov e (env x)) (hp:φ x h):Nx C (.cut (fun e h=>∃x,Cov e (env x)∧φ x h) :: K) e h:=.cut ⟨x,hc,hp⟩
def Inv {X:Type} (μ:X→Nat) (env:X→Env) (φ:X→H→Prop) (m:Nat) (e:Env) (h:H):Prop:=∃x,μ x<m∧Cov e (env x)∧φ x h
theorem Es.loop {X:Type} (μ:X→Nat) (env:X→Env) (φ:X→H→Prop) (x0:X) (hc:Cov e (env x0)) (h0:φ x0 h) (hs:∀x h,φ x h→Es C (.cut (Inv μ env φ (μ x)) :: K) b (env x) h):Es C K (.loop b) e h:=⟨fun t ht=>by
 refine SX.loop (fun m t h=>∃x,μ x=m∧Tm t (env x)∧φ x h) (μ x0) ⟨x0,rfl,ht.cov hc,h0⟩ fun m t h ⟨x,hm,ht,hφ⟩=>((hs x h hφ).run t ht).mono fun y t h ⟨e,ht,hk⟩=>?_
 cases y with
 | normal =>
  obtain⟨x',h1,h2,h3⟩:=hk
  exact⟨μ x',by omega,x',rfl,ht.cov h2,h3⟩
 | _=>exact⟨e,ht,hk⟩⟩
theorem Nx.inv {X:Type} {μ:X→Nat} {env:X→Env} {φ:X→H→Prop} {m:Nat} (x:X) (hm:μ x<m) (hc:Cov e (env x)) (hφ:φ x h):Nx C (.cut (Inv μ env φ m) :: K) e h:=.cut ⟨x,hm,hc,hφ⟩
end
/-! ### Functions -/
structure Rt (ks:List Rx) (e:Env) (h:H) (v:V):Prop where
 eq:∀t,Tm t e→retV t h ks=some v
theorem rt0 {e:Env} {h:H}:Rt [] e h .u:=⟨fun _ _=>rfl⟩
theorem rt1 {e:Env} {h:H} {k:Nat} {v:V} (hk:look e k=some v):Rt [.t k] e h v:=⟨fun _ ht=>ret1 (ht.eq _ _ hk)⟩
theorem rt2 {e:Env} {h:H} {k j:Nat} {v w:V} (hk:look e k=some v) (hj:look e j=some w):Rt [.t k,.t j] e h (.tup [v,w]):=⟨fun _ ht=>ret2 (ht.eq _ _ hk) (ht.eq _ _ hj)⟩
theorem rt3 {e:Env} {h:H} {k j i:Nat} {v w x:V} (hk:look e k=some v) (hj:look e j=some w) (hi:look e i=some x):Rt [.t k,.t j,.t i] e h (.tup [v,w,x]):=⟨fun t ht=>by
 have h1:=ht.eq _ _ hk
 have h2:=ht.eq _ _ hj
 have h3:=ht.eq _ _ hi
 subst h1 h2 h3
 rfl⟩
theorem Fn.atc {P:Program} {f:FuncId} {n:Nat} {s:Sc} {ks:List Rx} (hf:fnB P f=some (n,s,ks)) {args:List V} {h:H} (hle:Nat.ble args.length n=true):∃c,ScOf P n c s∧∀R:V→H→Prop,SWc P none n c (Tr.putsL args .e 0) h (fun x t h=>(x=.normal∨x=.ret)∧∃v,retV t h ks=some v∧R v h)→Fn P f args h R:=by
 obtain⟨fn,h1,hf⟩:=ob_some hf
 obtain⟨c,h2,hf⟩:=ob_some hf
 obtain⟨h3,hf⟩:=bb_some hf
 obtain⟨s',h4,hf⟩:=ob_some hf
 obtain⟨ks',h5,hf⟩:=ob_some hf
 injection hf with hf
 injection hf with hf1 hf
 injection hf with hf2 hf3
 subst hf1 hf2 hf3
 exact⟨c,scB_of c _ h4,fun R hw=>Fn.ofc h1 (by simpa using h3) h2 h5 (Nat.le_of_ble_eq_true hle) hw.run⟩
theorem Fn.env {P:Program} {f:FuncId} {n:Nat} {s:Sc} {ks:List Rx} (hf:fnB P f=some (n,s,ks)) {m:Bool} {args:List V} {h:H} {R:V→H→Prop} (hle:Nat.ble args.length n=true) (hw:Es ⟨m,P,none,n,fun e h=>∃v,Rt ks e h v∧R v h⟩ [] s (envL 0 args) h):FX m P f args h R:=by
 have h1:=hw.run _ (Tm.start args)
 cases m with
 | false=>exact Fn.at hf hle (SW.mono (h1 none id) fun _ _ _ ⟨_,ht,hx,v,hv,hR⟩=>⟨hx,v,hv.eq _ ht,hR⟩)
 | true =>
  obtain⟨c,hc,hF⟩:=Fn.atc (h:=h) hf hle
  obtain⟨o,h2,e,ht,hx,v,hv,hR⟩:=h1 c hc
  exact⟨v,o.h,hF _ ((h2 none id).mono fun x t h ⟨e1,e2,e3⟩=>by subst e1 e2 e3;exact⟨hx,v,hv.eq _ ht,rfl,rfl⟩),hR⟩
end
end Go.Proofs.YtkcdehffcddciaaGreatDoor.Vm
