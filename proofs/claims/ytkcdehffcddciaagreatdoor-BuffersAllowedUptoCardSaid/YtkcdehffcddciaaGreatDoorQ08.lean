/- The small machine's regions do what the model's do: those that draw no order, whole; what is needed for those that do. -/
import Derived.Test.YtkcdehffcddciaaGreatDoorQ07
import Derived.Orders
namespace Go.Proofs.YtkcdehffcddciaaGreatDoor.Vm
open Go Go.RowKit
section
variable {P:Program} {C:CallF}
theorem bindO_1 {α β:Type} (f:α→Option (List β)) (x:α):bindO f [x]=f x:=rfl
theorem bindO_c {α β:Type} (f:α→Option (List β)) (x y:α) (l:List α):bindO f (x :: y :: l)=ob (f x) fun a=>ob (bindO f (y :: l)) fun c=>some (a++c):=rfl
theorem bindO_mem {α β:Type} {f:α→Option (List β)}:∀{l:List α} {r:List β},bindO f l=some r→∀x∈l,∃a,f x=some a∧∀y∈a,y∈r
 | [],_,_,x,hx=>by cases hx
 | [u9],r,h,x,hx=>by
  rw[bindO_1]at h
  obtain rfl:=List.mem_singleton.1 hx
  exact⟨r,h,fun _ h=>h⟩
 | u :: v :: l,r,h,x,hx=>by
  rw[bindO_c]at h
  obtain⟨a,ha,h⟩:=ob_some h
  obtain⟨c,hc,h⟩:=ob_some h
  injection h with h
  subst h
  rcases List.mem_cons.1 hx with rfl | hx
  ·exact⟨a,ha,fun y hy=>by simp[hy]⟩
  ·obtain⟨b,hb,hs⟩:=bindO_mem hc x hx
   exact⟨b,hb,fun y hy=>by simp[hs y hy]⟩
theorem runL_n (C:CallF) (t:Tr V) (h:H):runL C [] t h=some [⟨.normal,t,h⟩]:=rfl
theorem runL_c (C:CallF) (s:St) (l:List St) (t:Tr V) (h:H):runL C (s :: l) t h=orr s.next (stepK C s t h (runL C l)) (fun x=>rdK t x fun v=>asP v fun pt o=>bb (Nat.beq o 0) (ob (nextC h pt) fun cs=>bindO (fun c=>putK t s.d c.1 fun t=>runL C l t c.2) cs)):=rfl
theorem nextB_some {op:Op} {x:Operand} (h:nextB op=some x):op=.next x false:=by
 unfold nextB at h
 split at h
 ·injection h with h;subst h;rfl
 ·cases h
theorem runL_ok {lo:Nat} {r:Option Nat} {n:Nat} (hC:CallOk P C) {ops:Array Oper} {N:Nat} {Q:Exit→Act→World→Prop}:∀(os:List Oper) (l:List St) (A:Sub) (h:H) (w:World) (t:Tr V) (a:Act) (outs:List Out),mapO (stB P ops N) os=some l→runL C l t h=some outs →
  Mt A h w→TRel A h.next N t a.tmps→Marks lo A h w a.defers→(∀o∈outs,∀a' w',o.x=.normal→Res lo A h w N o a' w'→Q .normal a' w')→wpListIn (Wide r) n P ops Q os a w
 | [],l,A,h,w,t,a,outs,hl,hr,hm,ht,hd,hQ=>by
  rw[mapO_nil hl,runL_n]at hr
  injection hr with hr
  subst hr
  exact hQ _ (List.mem_singleton.2 rfl) _ _ rfl ⟨A,.refl hm,ht,hd⟩
 | o :: os,l,A,h,w,t,a,outs,hl,hr,hm,ht,hd,hQ=>by
  obtain⟨s,l',hs,hl',rfl⟩:=mapO_cons hl
  rw[runL_c]at hr
  cases hn:s.next with
  | none =>
   rw[hn]at hr
   have hr:stepK C s t h (runL C l')=some outs:=hr
   refine stepK_ok hC hs hn hm ht hd hr fun A' h' w' t' a' hev ht' hd' hk=>?_
   exact runL_ok hC os l' A' h' w' t' a' outs hl' hk hev.mt ht' hd' fun o ho a2 w2 hx hres=>hQ o ho a2 w2 hx (hres.trans hev)
  | some x =>
   rw[hn]at hr
   have hr:(rdK t x fun v=>asP v fun pt o=>bb (Nat.beq o 0) (ob (nextC h pt) fun cs=>bindO (fun c=>putK t s.d c.1 fun t=>runL C l' t c.2) cs))=some outs:=hr
   rw[rdK_eq]at hr
   obtain⟨b,o',hv,hr4⟩:=asP_some hr
   obtain⟨h0,hr5⟩:=bb_some hr4
   have h0:=Nat.eq_of_beq_eq_true h0
   subst h0
   obtain⟨cs,hcs,hr6⟩:=ob_some hr5
   clear hr hr4 hr5
   unfold stB at hs
   obtain⟨g,hg,hs⟩:=ob_some hs
   obtain⟨d,hd',hs⟩:=ob_some hs
   cases hnx:nextB o.op with
   | none =>
    rw[hnx]at hs
    obtain⟨f,hf,hs⟩:=ob_some (show ob (opB P o.op) _=some s from hs)
    injection hs with hs
    subst hs
    cases hn
   | some x' =>
    rw[hnx]at hs
    obtain⟨rx,hrx,hs⟩:=ob_some (show ob (rdB x') _=some s from hs)
    obtain⟨hgn,hs⟩:=bb_some hs
    injection hs with hs
    subst hs
    injection hn with hn
    subst hn
    have hop:=nextB_some hnx
    have hw:Region.wanted o (yielded ops a.tmps)=true:=by
     rw[want_eq ht hg]
     cases g with
     | none=>rfl
     | some _=>cases hgn
    obtain⟨c,hc,hdo⟩:=next_ok hop hrx hm ht hv hcs
    obtain⟨q,hr1,hr2⟩:=bindO_mem hr6 c hc
    rw[putK_eq]at hr1
    show if Region.wanted o (yielded ops a.tmps)then _ else _
    rw[if_pos hw]
    refine hdo.wpIn (fun c h=>by rw[hop]at h;cases h) fun y w' hp=>?_
    obtain⟨A',hev,hrel⟩:=hp
    exact runL_ok hC os l' A' c.2 w' _ _ q hl' hr1 hev.mt ((ht.mono hev.old hev.next).dst hd' hrel) (by rw[put_defers];exact hd.ev hev) fun o ho a2 w2 hx hres=>hQ o (hr2 o ho) a2 w2 hx (hres.trans hev)
theorem region_ok {lo:Nat} {r:Option Nat} {n:Nat} (hC:CallOk P C) {ops:Array Oper} {N id:Nat} {Q:Exit→Act→World→Prop} {l:List St} {A:Sub} {h:H} {w:World} {t:Tr V} {a:Act} {outs:List Out} (hl:mapO (stB P ops N) ops.toList=some l) (hr:runL C l t h=some outs)
  (hm:Mt A h w) (ht:TRel A h.next N t a.tmps) (hd:Marks lo A h w a.defers) (hQ:∀o∈outs,∀a' w',o.x=.normal→Res lo A h w N o a' w'→Q .normal a' w'):(Code.region id ops false).wpIn (Wide r) n P Q a w :=
 wpIn_region_list (runL_ok hC ops.toList l A h w t a outs hl hr hm ht hd hQ)
end
/-! ### The canonical way -/
noncomputable def smalls (t:Tr V):List Nat→Tr V→Tr V
 | [],a=>a
 | k :: us,a=>smalls t us (match t.get k with | some v=>a.set k (some v) | none=>a)
theorem small_eq {β:Type} (t:Tr V):∀(us:List Nat) (a:Tr V) (K:Tr V→Option β),small t us a K=K (smalls t us a)
 | [],_,_=>rfl
 | k :: us,a,K=>by
  show orr (Tr.getP (path k) t) (small t us a K) (fun v=>Tr.putP (some v) (path k) a fun a=>small t us a K)=_
  rw[Tr.getP_path]
  unfold smalls
  cases t.get k with
  | none=>exact small_eq t us a K
  | some v =>
   show Tr.putP (some v) (path k) a (fun a=>small t us a K)=_
   rw[Tr.putP_set,small_eq t us]
theorem get_smalls (t:Tr V):∀(us:List Nat) (a:Tr V) (k:Nat),(smalls t us a).get k=if k∈us∧(t.get k).isSome=true then t.get k else a.get k
 | [],a,k=>by simp[smalls]
 | j :: us,a,k=>by
  unfold smalls
  rw[get_smalls t us]
  by_cases h1:k∈us∧(t.get k).isSome=true
  ·rw[if_pos h1,if_pos ⟨by simp[h1.1],h1.2⟩]
  ·rw[if_neg h1]
   by_cases h2:k=j
   ·subst h2
    cases hk:t.get k with
    | none=>simp
    | some v =>
     rw[Tr.get_set]
     simp
   ·have h3:¬(k∈j :: us∧(t.get k).isSome=true):=fun h=>h1 ⟨by
     rcases List.mem_cons.1 h.1 with h4 | h4
     ·exact absurd h4 h2
     ·exact h4,h.2⟩
    rw[if_neg h3]
    cases t.get j with
    | none=>rfl
    | some v=>rw[Tr.get_set,if_neg h2]
theorem smalls_get (t:Tr V) (us:List Nat) (k:Nat):orU ((smalls t us .e).get k)=if k∈us then orU (t.get k)else .u:=by
 rw[get_smalls,Tr.get_e]
 by_cases h:k∈us
 ·rw[if_pos h]
  cases hk:t.get k with
  | none=>simp
  | some v=>simp[h]
 ·rw[if_neg h,if_neg (fun h1=>h h1.1)]
  rfl
theorem one_some {x:Option (List Out)} {p:V × H} (h:one x=some p):∃e l r,x=some [⟨e,.n l (some p.1) r,p.2⟩]:=by
 unfold one at h
 split at h
 ·injection h with h
  subst h
  exact⟨_,_,_,rfl⟩
 ·cases h
theorem tell_inj {v v':V} {h h':H} {e:Ex} {l r:Tr V} (he:tell v h=some [⟨e,.n l (some v') r,h'⟩]):v=v'∧h=h':=by
 unfold tell at he
 injection he with he
 injection he with he _
 injection he with _ he h2
 injection he with _ h3 _
 injection h3 with h3
 exact⟨h3,h2⟩
def CStep (Er:Nat→Dr→Tr V→H→V→H→Prop) (far i:Nat) (d:Dr) (t:Tr V) (hs h:H) (v:V) (t':Tr V) (hs' h':H):Prop :=
 t'=setT t d.s.d v∧((wantK (smalls t d.us .e) d.s.g=false∧v=.u∧h'=h∧hs'=(match d.k with | .e=>h | _=>hs)) ∨
  (wantK (smalls t d.us .e) d.s.g=true∧match d.k with
   | .e=>underT (smalls t d.us .e) h.next d.us=true∧Er i d (smalls t d.us .e) h v h'∧h.next≤h'.next∧hs'=h'
   | .soft g=>∃x,g (smalls t d.us .e)=some x∧v=x.2.2 h.next∧h'=⟨h.next+1,h.t.set h.next (some (.cells x.1 x.2.1.length false (Tr.putsL x.2.1 .e 0)))⟩∧hs'=hs
   | .q _=>(∃q,one (d.s.f.f noC (smalls t d.us .e) ⟨far,hs.t⟩ tell)=some (v,q))∧h'=h∧hs'=hs))
theorem runD_n (C:CallF) (far j:Nat) (t:Tr V) (hs h:H) (st:List (Option Nat × H)) (rs:List Re) (vs:List V):runD C far [] j t hs h st rs vs=bb (Nat.ble h.next far) (bb (readsOk far st rs) (bb (underL h.next vs) (some [⟨.normal,t,h⟩]))):=rfl
theorem runD_c (C:CallF) (far j:Nat) (d:Dr) (l:List Dr) (t:Tr V) (hs h:H) (st:List (Option Nat × H)) (rs:List Re) (vs:List V):runD C far (d :: l) j t hs h st rs vs=small t d.us .e fun ts=>br (wantK ts d.s.g)
  (match d.k with
   | .e=>bb (underT ts h.next d.us) (ob (one (d.s.f.f C ts h tell)) fun p=>bb (Nat.ble h.next p.2.next) (putK t d.s.d p.1 fun t'=>runD C far l (j+1) t' p.2 p.2 ((some j,p.2) :: st) rs (p.1 :: vs)))
   | .soft g=>ob (g ts) fun x=>Tr.putL x.2.1 .e 0 fun c=>newO h (.cells x.1 x.2.1.length false c) fun b h'=>putK t d.s.d (x.2.2 b) fun t'=>runD C far l (j+1) t' hs h' st rs (x.2.2 b :: vs)
   | .q ks=>ob (one (d.s.f.f noC ts ⟨far,hs.t⟩ tell)) fun p=>putK t d.s.d p.1 fun t'=>runD C far l (j+1) t' hs h st (⟨ks,d.s.f,ts,p.1⟩ :: rs) (p.1 :: vs))
  (putK t d.s.d .u fun t'=>match d.k with
   | .e=>runD C far l (j+1) t' h h ((some j,h) :: st) rs (.u :: vs)
   | _=>runD C far l (j+1) t' hs h st rs (.u :: vs)):=rfl
structure Canon (Er:Nat→Dr→Tr V→Vm.H→V→Vm.H→Prop) (far:Nat) (l:List Dr) (j:Nat) (t:Tr V) (hs h:H) (st:List (Option Nat × H)) (rs:List Re) (vs:List V) (outs:List Out) (T:Nat→Tr V) (S H:Nat→Vm.H) (v:Nat→V) (stf:List (Option Nat × Vm.H)) (rsf:List Re):Prop where
 t0:T 0=t
 s0:S 0=hs
 h0:H 0=h
 step:∀i d,l[i]?=some d→CStep Er far (j+i) d (T i) (S i) (H i) (v i) (T (i+1)) (S (i+1)) (H (i+1))
 outs:outs = [⟨.normal,T l.length,H l.length⟩]
 farle:(H l.length).next≤far
 ok:readsOk far stf rsf=true
 und:∀i,i<l.length→(v i).under (H l.length).next=true
 und0:∀u9∈vs,u9.under (H l.length).next=true
 st:∀x∈st,x∈stf
 rs:∀x∈rs,x∈rsf
 stE:∀i d,l[i]?=some d→d.k=.e→(some (j+i),S (i+1))∈stf
 rsQ:∀i d ks,l[i]?=some d→d.k=.q ks→wantK (smalls (T i) d.us .e) d.s.g=true→(⟨ks,d.s.f,smalls (T i) d.us .e,v i⟩:Re)∈rsf
theorem underL_mem {n:Nat}:∀{vs:List V},underL n vs=true→∀u9∈vs,u9.under n=true
 | [],_,u9,hu=>by cases hu
 | v :: vs,h,u9,hu=>by
  simp only[underL,Bool.and_eq_true]at h
  rcases List.mem_cons.1 hu with rfl | hu
  ·exact h.1
  ·exact underL_mem h.2 u9 hu
theorem Canon.cons {Er:Nat→Dr→Tr V→Vm.H→V→Vm.H→Prop} {far:Nat} {d:Dr} {l:List Dr} {j:Nat} {t t':Tr V} {hs h hs' h':H} {v:V} {st st':List (Option Nat × H)} {rs rs':List Re} {vs:List V} {outs:List Out} {T:Nat→Tr V} {S H:Nat→Vm.H} {w:Nat→V} {stf:List (Option Nat × Vm.H)} {rsf:List Re}
  (hc:Canon Er far l (j+1) t' hs' h' st' rs' (v :: vs) outs T S H w stf rsf) (hst:CStep Er far j d t hs h v t' hs' h') (h1:∀x∈st,x∈st') (h2:∀x∈rs,x∈rs') (h3:d.k=.e→(some j,hs')∈st')
  (h4:∀ks,d.k=.q ks→wantK (smalls t d.us .e) d.s.g=true→(⟨ks,d.s.f,smalls t d.us .e,v⟩:Re)∈rs') :
  Canon Er far (d :: l) j t hs h st rs vs outs (fun i=>match i with | 0=>t | i+1=>T i) (fun i=>match i with | 0=>hs | i+1=>S i) (fun i=>match i with | 0=>h | i+1=>H i) (fun i=>match i with | 0=>v | i+1=>w i) stf rsf:=by
 refine⟨rfl,rfl,rfl,?_,hc.outs,hc.farle,hc.ok,?_,fun u9 hu=>hc.und0 u9 (by simp[hu]),fun x hx=>hc.st x (h1 x hx),fun x hx=>hc.rs x (h2 x hx),?_,?_⟩
 ·intro i d' hd'
  cases i with
  | zero =>
   simp only[List.getElem?_cons_zero,Option.some.injEq]at hd'
   subst hd'
   show CStep Er far (j+0) d t hs h v (T 0) (S 0) (H 0)
   rw[hc.t0,hc.s0,hc.h0]
   exact hst
  | succ i =>
   have:=hc.step i d' (by simpa using hd')
   rw[show j+1+i=j+(i+1) by omega]at this
   exact this
 ·intro i hi
  cases i with
  | zero=>exact hc.und0 v (by simp)
  | succ i=>exact hc.und i (by simpa using hi)
 ·intro i d' hd' hk
  cases i with
  | zero =>
   simp only[List.getElem?_cons_zero,Option.some.injEq]at hd'
   subst hd'
   show(some (j+0),S 0)∈stf
   rw[hc.s0]
   exact hc.st _ (h3 hk)
  | succ i =>
   have:=hc.stE i d' (by simpa using hd') hk
   rw[show j+(i+1)=j+1+i by omega]
   exact this
 ·intro i d' ks hd' hk hw
  cases i with
  | zero =>
   simp only[List.getElem?_cons_zero,Option.some.injEq]at hd'
   subst hd'
   exact hc.rs _ (h4 ks hk hw)
  | succ i=>exact hc.rsQ i d' ks (by simpa using hd') hk hw
def ErC (C:CallF) (_:Nat) (d:Dr) (ts:Tr V) (h:H) (v:V) (h':H):Prop:=one (d.s.f.f C ts h tell)=some (v,h')
theorem canon {C:CallF} {far:Nat}:∀(l:List Dr) (j:Nat) (t:Tr V) (hs h:H) (st:List (Option Nat × H)) (rs:List Re) (vs:List V) (outs:List Out),runD C far l j t hs h st rs vs=some outs→∃T S H v stf rsf,Canon (ErC C) far l j t hs h st rs vs outs T S H v stf rsf
 | [],j,t,hs,h,st,rs,vs,outs,hr=>by
  rw[runD_n]at hr
  obtain⟨h1,hr⟩:=bb_some hr
  obtain⟨h2,hr⟩:=bb_some hr
  obtain⟨h3,hr⟩:=bb_some hr
  injection hr with hr
  exact⟨fun _=>t,fun _=>hs,fun _=>h,fun _=>.u,st,rs,rfl,rfl,rfl,fun i d hd=>by simp at hd,hr.symm,Nat.le_of_ble_eq_true h1,h2,fun i hi=>by simp at hi,underL_mem h3,fun _ h=>h,fun _ h=>h,fun i d hd=>by simp at hd,fun i d ks hd=>by simp at hd⟩
 | d :: l,j,t,hs,h,st,rs,vs,outs,hr=>by
  rw[runD_c,small_eq]at hr
  cases hw:wantK (smalls t d.us .e) d.s.g with
  | true =>
   rw[hw,br_t]at hr
   cases hk:d.k with
   | e =>
    rw[hk]at hr
    obtain⟨h1,hr⟩:=bb_some hr
    obtain⟨p,h2,hr⟩:=ob_some hr
    obtain⟨h3,hr⟩:=bb_some hr
    rw[putK_eq]at hr
    obtain⟨T,S,H,w,stf,rsf,hc⟩:=canon l _ _ _ _ _ _ _ _ hr
    exact⟨_,_,_,_,stf,rsf,hc.cons ⟨rfl,.inr ⟨hw,by rw[hk];exact⟨h1,h2,Nat.le_of_ble_eq_true h3,rfl⟩⟩⟩ (fun x hx=>by simp[hx]) (fun x hx=>hx) (fun _=>by simp) (fun ks hq=>by rw[hk]at hq;cases hq)⟩
   | soft g =>
    rw[hk]at hr
    simp only at hr
    obtain⟨x,hx,hr⟩:=ob_some hr
    rw[Tr.putL_eq]at hr
    have hr:=newO_some hr
    rw[putK_eq]at hr
    obtain⟨T,S,H,w,stf,rsf,hc⟩:=canon l _ _ _ _ _ _ _ _ hr
    exact⟨_,_,_,_,stf,rsf,hc.cons ⟨rfl,.inr ⟨hw,by rw[hk];exact⟨x,hx,rfl,rfl,rfl⟩⟩⟩ (fun x hx=>hx) (fun x hx=>hx) (fun hq=>by rw[hk]at hq;cases hq) (fun ks hq=>by rw[hk]at hq;cases hq)⟩
   | q ks =>
    rw[hk]at hr
    obtain⟨p,h2,hr⟩:=ob_some hr
    rw[putK_eq]at hr
    obtain⟨T,S,H,w,stf,rsf,hc⟩:=canon l _ _ _ _ _ _ _ _ hr
    exact⟨_,_,_,_,stf,rsf,hc.cons ⟨rfl,.inr ⟨hw,by rw[hk];exact⟨⟨p.2,h2⟩,rfl,rfl⟩⟩⟩ (fun x hx=>hx) (fun x hx=>by simp[hx]) (fun hq=>by rw[hk]at hq;cases hq) (fun ks' hq _=>by
     rw[hk]at hq
     injection hq with hq
     subst hq
     simp)⟩
  | false =>
   rw[hw,br_f,putK_eq]at hr
   cases hk:d.k with
   | e =>
    rw[hk]at hr
    obtain⟨T,S,H,w,stf,rsf,hc⟩:=canon l _ _ _ _ _ _ _ _ hr
    exact⟨_,_,_,_,stf,rsf,hc.cons ⟨rfl,.inl ⟨hw,rfl,rfl,by rw[hk]⟩⟩ (fun x hx=>by simp[hx]) (fun x hx=>hx) (fun _=>by simp) (fun ks hq=>by rw[hk]at hq;cases hq)⟩
   | soft g =>
    rw[hk]at hr
    obtain⟨T,S,H,w,stf,rsf,hc⟩:=canon l _ _ _ _ _ _ _ _ hr
    exact⟨_,_,_,_,stf,rsf,hc.cons ⟨rfl,.inl ⟨hw,rfl,rfl,by rw[hk]⟩⟩ (fun x hx=>hx) (fun x hx=>hx) (fun hq=>by rw[hk]at hq;cases hq) (fun ks hq=>by rw[hk]at hq;cases hq)⟩
   | q ks =>
    rw[hk]at hr
    obtain⟨T,S,H,w,stf,rsf,hc⟩:=canon l _ _ _ _ _ _ _ _ hr
    exact⟨_,_,_,_,stf,rsf,hc.cons ⟨rfl,.inl ⟨hw,rfl,rfl,by rw[hk]⟩⟩ (fun x hx=>hx) (fun x hx=>hx) (fun hq=>by rw[hk]at hq;cases hq) (fun ks' _ hq=>by rw[hw]at hq;cases hq)⟩
/-! ### What stands ahead -/
theorem bef_len:∀(l:List Oper) (acc:List Nat),(bef l acc).length=acc.length+l.length
 | [],acc=>by simp[bef]
 | o :: l,acc=>by simp[bef,bef_len l];omega
theorem bef_pre:∀(l:List Oper) (acc:List Nat) (k:Nat),k<acc.length→(bef l acc)[k]?=acc[k]?
 | [],acc,k,_=>rfl
 | o :: l,acc,k,h=>by
  simp only[bef]
  rw[bef_pre l _ k (by simp;omega),List.getElem?_append_left h]
theorem bef_take:∀(l:List Oper) (acc:List Nat),(bef l acc).take acc.length=acc
 | l,acc=>by
  apply List.ext_getElem?
  intro k
  rw[List.getElem?_take]
  split
  ·rename_i h;exact bef_pre l acc k h
  ·rename_i h;rw[List.getElem?_eq_none (by omega)]
theorem bef_get:∀(l:List Oper) (acc:List Nat) (i:Nat) (o:Oper),l[i]?=some o→(bef l acc)[acc.length+i]?=some (bitsAt ((bef l acc).take (acc.length+i)) o)
 | [],_,_,_,h=>by simp at h
 | o :: l,acc,0,o',h=>by
  simp only[List.getElem?_cons_zero,Option.some.injEq]at h
  subst h
  rw[Nat.add_zero,bef_take]
  simp only[bef]
  rw[bef_pre l _ _ (by simp)]
  simp
 | o :: l,acc,i+1,o',h=>by
  have:=bef_get l (acc++[bitsAt acc o]) i o' (by simpa using h)
  simp only[bef]
  rw[show acc.length+(i+1)=(acc++[bitsAt acc o]).length+i by simp;omega]
  exact this
theorem bits_fold (l:List Nat) (k:Nat):∀(es:List Edge) (s:Nat),(es.foldl (fun s e=>bif Region.binds .any e then s ||| 2 ^ e.on ||| l.getD e.on 0 else s) s).testBit k=true→s.testBit k=true∨∃e∈es,Region.binds .any e=true∧(k=e.on∨(l.getD e.on 0).testBit k=true)
 | [],s,h=>.inl h
 | e :: es,s,h=>by
  rw[List.foldl_cons]at h
  rcases bits_fold l k es _ h with h1 | ⟨e',h1,h2⟩
  ·cases hb:Region.binds .any e with
   | false=>rw[hb]at h1;exact .inl (by simpa using h1)
   | true =>
    rw[hb]at h1
    simp only[cond_true,Nat.testBit_or,Bool.or_eq_true]at h1
    rcases h1 with (h1 | h1) | h1
    ·exact .inl h1
    ·rw[Nat.testBit_two_pow]at h1
     exact .inr ⟨e,by simp,hb,.inl (of_decide_eq_true h1).symm⟩
    ·exact .inr ⟨e,by simp,hb,.inr h1⟩
  ·exact .inr ⟨e',by simp[h1],h2⟩
def Ahead (ops:Array Oper) (i j:Nat):Prop:=((bef ops.toList []).getD j 0).testBit i=true
theorem ahead_edge {ops:Array Oper} {i j:Nat} (h:Ahead ops i j):∃o e,ops[j]?=some o∧e∈o.after∧Region.binds .any e=true∧(i=e.on∨(e.on<j∧Ahead ops i e.on)):=by
 unfold Ahead at h
 have hl:=bef_len ops.toList []
 by_cases hj:j<ops.size
 ·have ho:ops.toList[j]?=some ops[j]:=by rw[Array.getElem?_toList];exact Array.getElem?_eq_getElem hj
  have hg:=bef_get ops.toList [] j ops[j] ho
  simp only[List.length_nil,Nat.zero_add]at hg
  rw[List.getD_eq_getElem?_getD,hg,Option.getD_some]at h
  unfold bitsAt at h
  rcases bits_fold _ i _ 0 h with h1 | ⟨e,h1,h2,h3⟩
  ·simp at h1
  ·refine⟨ops[j],e,Array.getElem?_eq_getElem hj,by simpa using h1,h2,?_⟩
   rcases h3 with h3 | h3
   ·exact .inl h3
   ·right
    by_cases hlt:e.on<j
    ·refine⟨hlt,?_⟩
     unfold Ahead
     rw[List.getD_eq_getElem?_getD,List.getElem?_take_of_lt hlt]at h3
     rw[List.getD_eq_getElem?_getD]
     exact h3
    ·rw[List.getD_eq_getElem?_getD,List.getElem?_eq_none (by simp;omega)]at h3
     simp at h3
 ·rw[List.getD_eq_getElem?_getD,List.getElem?_eq_none (by rw[hl];simp;omega)]at h
  simp at h
def Closed (ops:Array Oper) (listed:Array Bool):Prop:=∀(j:Nat) (o:Oper) (e:Edge),listed.getD j false=true→ops[j]?=some o→e∈o.after→Region.binds .any e=true→listed.getD e.on false=true
theorem ahead_listed {ops:Array Oper} {listed:Array Bool} (hc:Closed ops listed):∀(n i j:Nat),j<n→Ahead ops i j→(∀(o:Oper) (e:Edge),ops[j]?=some o→e∈o.after→Region.binds .any e=true→listed.getD e.on false=true)→listed.getD i false=true
 | 0,_,_,h,_,_=>absurd h (Nat.not_lt_zero _)
 | n+1,i,j,hj,ha,hr=>by
  obtain⟨o,e,ho,he,hb,h1⟩:=ahead_edge ha
  have hl:=hr o e ho he hb
  rcases h1 with rfl | ⟨h1,h2⟩
  ·exact hl
  ·exact ahead_listed hc n i e.on (by omega) h2 (fun o' e' ho' he' hb'=>hc e.on o' e' hl ho' he' hb')
/-! ### Values -/
theorem blt_iff {a b:Nat}:Nat.blt a b=true↔a<b:=⟨fun h=>Nat.le_of_ble_eq_true h,fun h=>Nat.ble_eq_true_of_le h⟩
mutual
theorem same_eq:∀(v u9:V),v.same u9=true→v=u9
 | .u,u9,h=>by cases u9 <;> first | rfl |(simp[V.same]at h)
 | .b x,u9,h=>by cases u9 <;> simp[V.same]at h <;> simp[h]
 | .i k n,u9,h=>by cases u9 <;> simp[V.same]at h <;> simp[h]
 | .s x,u9,h=>by
  cases u9 <;> simp only[V.same,Bool.false_eq_true]at h
  rename_i y
  have h1:(x.data == y.data)=true:=h
  rw[ByteArray.ext (show x.data=y.data by simpa using h1)]
 | .p a o,u9,h=>by cases u9 <;> simp[V.same]at h <;> simp[h]
 | .np,u9,h=>by cases u9 <;> first | rfl |(simp[V.same]at h)
 | .sl e o a c k z,u9,h=>by cases u9 <;> simp[V.same]at h <;> simp[h]
 | .ns,u9,h=>by cases u9 <;> first | rfl |(simp[V.same]at h)
 | .m a,u9,h=>by cases u9 <;> simp[V.same]at h <;> simp[h]
 | .nm,u9,h=>by cases u9 <;> first | rfl |(simp[V.same]at h)
 | .fn f a c,u9,h=>by
  cases u9 <;> simp[V.same]at h
  simp[h.1.1,sameL_eq a _ h.1.2,sameL_eq c _ h.2]
 | .nf,u9,h=>by cases u9 <;> first | rfl |(simp[V.same]at h)
 | .iface t v,u9,h=>by
  cases u9 <;> simp[V.same]at h
  simp[h.1,same_eq v _ h.2]
 | .ni,u9,h=>by cases u9 <;> first | rfl |(simp[V.same]at h)
 | .agg l,u9,h=>by
  cases u9 <;> simp[V.same]at h
  simp[sameL_eq l _ h]
 | .tup l,u9,h=>by
  cases u9 <;> simp[V.same]at h
  simp[sameL_eq l _ h]
 | .y b,u9,h=>by cases u9 <;> simp[V.same]at h <;> simp[h]
 | .se,u9,h=>by cases u9 <;> first | rfl |(simp[V.same]at h)
theorem sameL_eq:∀(l r:List V),sameL l r=true→l=r
 | [],r,h=>by cases r <;> first | rfl |(simp[sameL]at h)
 | v :: l,r,h=>by
  cases r <;> simp[sameL]at h
  rw[same_eq v _ h.1,sameL_eq l _ h.2]
end
section
variable {A:Sub} {n m:Nat}
mutual
theorem Rel.lo:∀{v:V} {x:Value},Rel A n v x→v.under m=true→Rel A m v x
 | _,_,.u,_=>.u
 | _,_,.b x,_=>.b x
 | _,_,.i k m,_=>.i k m
 | _,_,.s x,_=>.s x
 | _,_,.p b o _,h=>.p b o (blt_iff.1 (by simpa only[V.under]using h))
 | _,_,.np,_=>.np
 | _,_,.slk b o len cap sz ad _ h1,h=>.slk b o len cap sz ad (blt_iff.1 (by simpa only[V.under]using h)) h1
 | _,_,.slu b o len cap sz c ad _ h1 h2 h3 h4,h=>.slu b o len cap sz c ad (blt_iff.1 (by simpa only[V.under]using h)) h1 h2 h3 h4
 | _,_,.ns,_=>.ns
 | _,_,.m r _,h=>.m r (blt_iff.1 (by simpa only[V.under]using h))
 | _,_,.nm,_=>.nm
 | _,_,.fn f l r xs ys h1 h2,h=>by
  simp only[V.under,Bool.and_eq_true]at h
  exact .fn f l r xs ys (RelL.lo h1 h.1) (RelL.lo h2 h.2)
 | _,_,.nf,_=>.nf
 | _,_,.iface t v x h1,h=>.iface t v x (Rel.lo h1 (by simpa only[V.under]using h))
 | _,_,.ni,_=>.ni
 | _,_,.agg l xs h1,h=>.agg l xs (RelL.lo h1 (by simpa only[V.under]using h))
 | _,_,.tup l xs h1,h=>.tup l xs (RelL.lo h1 (by simpa only[V.under]using h))
 | _,_,.y b _,h=>.y b (blt_iff.1 (by simpa only[V.under]using h))
 | _,_,.se ad c,_=>.se ad c
theorem RelL.lo:∀{l:List V} {xs:List Value},RelL A n l xs→underL m l=true→RelL A m l xs
 | _,_,.nil,_=>.nil
 | _,_,.cons v x l xs h h',hf=>by
  simp only[underL,Bool.and_eq_true]at hf
  exact .cons v x l xs (Rel.lo h hf.1) (RelL.lo h' hf.2)
end
end
theorem Mt.cong {A B:Sub} {h:H} {w:World} (hm:Mt A h w) {n:Nat} (ha:Agree A B h.next) (hn:h.next≤n):Mt B ⟨n,h.t⟩ w:=by
 refine⟨fun b O hb=>Nat.lt_of_lt_of_le (hm.lt b O hb) hn,fun b O hb=>?_,fun b b' O O' hb hb' he=>hm.inj b b' O O' hb hb' ?_⟩
 ·obtain⟨x,hx,hr⟩:=hm.obj b O hb
  have hl:=hm.lt b O hb
  refine⟨x,by rw[(ha b hl).1];exact hx,?_⟩
  rw[(ha b hl).2]
  have:=hr.mono ha hn
  rw[←(ha b (hm.lt b O hb)).1]at this
  exact this
 ·rw[←(ha b (hm.lt b O hb)).1,←(ha b' (hm.lt b' O' hb')).1]
  exact he
theorem Ev.cong {A A' B:Sub} {h h':H} {w w':World} (e:Ev A h w A' h' w') (ha:Agree A' B h'.next):Ev A h w B h' w':=by
 refine⟨e.mt.cong ha (Nat.le_refl _),e.next,fun b hb=>?_,fun b O hb=>?_,e.fr,e.size,e.os,e.tape,e.output,fun b O g hb hp=>?_⟩
 ·have h1:=ha b (Nat.lt_of_lt_of_le hb e.next)
  have h2:=e.old b hb
  exact⟨h1.1.trans h2.1,h1.2.trans h2.2⟩
 ·rw[(ha b (e.mt.lt b O hb)).1]
  exact e.src b O hb
 ·obtain⟨h1,⟨O',h2,h3⟩,h4⟩:=e.pin b O g hb hp
  exact⟨(ha b (e.mt.lt b O' h2)).1.trans h1,⟨O',h2,h3⟩,h4⟩
/-! ### A restricted look -/
theorem Does.moved {P:Program} {o:Oper} {a b:Act} {w:World} {R:Value→World→Prop} (he:execOp a.eval o=execOp b.eval o) (h:Does P o b w R):Does P o a w R:=by
 unfold Does at h ⊢
 rw[he]
 exact h
def cutT (us:List Nat) (N:Nat) (a:Array Value):Array Value:=Array.ofFn (n:=N) fun k=>if k.val∈us then a.getD k.val undef else undef
theorem cutT_get {us:List Nat} {N:Nat} {a:Array Value} (hN:a.size=N) (k:Nat):(cutT us N a).getD k undef=if k∈us then a.getD k undef else undef:=by
 unfold cutT
 rw[Array.getD_eq_getD_getElem?,Array.getElem?_ofFn]
 by_cases hk:k<N
 ·simp[hk]
 ·have:a[k]?=none:=Array.getElem?_eq_none (by omega)
  simp[hk,this]
theorem cutT_get? {us:List Nat} {N:Nat} {a:Array Value} (hN:a.size=N) {k:Nat} (hk:k∈us):(cutT us N a)[k]?=a[k]?:=by
 unfold cutT
 rw[Array.getElem?_ofFn]
 by_cases h:k<N
 ·have h2:k<a.size:=by omega
  simp[h,hk,h2]
 ·rw[Array.getElem?_eq_none (by omega)]
  simp[h]
def cutA (us:List Nat) (N:Nat) (a:Act):Act:={ a with tmps:=cutT us N a.tmps }
theorem cut_exec {ops:Array Oper} {N:Nat} {a:Act} {o:Oper} (hN:a.tmps.size=N) (hs:∀cs b,o.op≠.select cs b):execOp a.eval o=execOp (cutA (usesT ops o) N a).eval o :=
 execOp_congr o hs fun x hx=>by
  cases x with
  | tmp t =>
   have ht:t∈usesT ops o:=List.mem_append_left _ (List.mem_filterMap.2 ⟨.tmp t,by simpa using hx,rfl⟩)
   show a.tmps.getD t undef=(cutT _ N a.tmps).getD t undef
   rw[cutT_get hN,if_pos ht]
  | _=>rfl
theorem cut_wanted {ops:Array Oper} {N:Nat} {a:Act} {o:Oper} (hN:a.tmps.size=N):Region.wanted o (yielded ops a.tmps)=Region.wanted o (yielded ops (cutA (usesT ops o) N a).tmps):=by
 unfold Region.wanted
 cases hg:o.guard with
 | none=>rfl
 | some gw =>
  obtain⟨g,want⟩:=gw
  have hy:yielded ops a.tmps g=yielded ops (cutA (usesT ops o) N a).tmps g:=by
   unfold yielded
   cases ho:ops[g]? with
   | none=>rfl
   | some og =>
    cases hd:og.dst with
    | none=>simp[hd]
    | some d =>
     have ht:d∈usesT ops o:=by simp[usesT,hg,ho,hd]
     simp only[Option.bind_some,hd]
     rw[show(cutA (usesT ops o) N a).tmps[d]?=a.tmps[d]? from cutT_get? hN ht]
  simp only[hy]
/-! ### What the check of such a region says -/
theorem mapO_get {α γ:Type} {f:α→Option γ}:∀{l:List α} {r:List γ},mapO f l=some r→r.length=l.length∧∀(i:Nat) (x:α),l[i]?=some x→∃y,r[i]?=some y∧f x=some y
 | [],r,h=>by
  obtain rfl:=mapO_nil h
  exact⟨rfl,fun i x hx=>by simp at hx⟩
 | a :: l,r,h=>by
  obtain⟨y,q,h1,h2,rfl⟩:=mapO_cons h
  obtain⟨h3,h4⟩:=mapO_get h2
  refine⟨by simp[h3],fun i x hx=>?_⟩
  cases i with
  | zero =>
   simp only[List.getElem?_cons_zero,Option.some.injEq]at hx
   subst hx
   exact⟨y,rfl,h1⟩
  | succ i=>exact h4 i x (by simpa using hx)
theorem idxs_mem {p:Op→Bool} {l:List Oper} {j:Nat}:j∈idxs p l↔∃o,l[j]?=some o∧p o.op=true:=by
 unfold idxs
 rw[List.mem_map]
 constructor
 ·rintro⟨⟨o,k⟩,h1,rfl⟩
  rw[List.mem_filter]at h1
  exact⟨o,List.mem_zipIdx_iff_getElem?.1 h1.1,h1.2⟩
 ·rintro⟨o,h1,h2⟩
  exact⟨⟨o,j⟩,List.mem_filter.2 ⟨List.mem_zipIdx_iff_getElem?.2 h1,h2⟩,rfl⟩
def SoftOk (P:Program) (op:Op) (g:Tr V→Option (TypeId × List V × (Nat→V))):Prop:=∀(o:Oper),o.op=op→∀(ts:Tr V) (x:TypeId × List V × (Nat→V)),g ts=some x→∃ys:Array Value,(∀A n i kk,ORel A n i (kk,0) (.cells x.1 x.2.1.length false (Tr.putsL x.2.1 .e 0)) (.cells ys x.1 (0,0))) ∧
 ∀(A:Sub) (n N:Nat) (a:Act) (w:World),TRel A n N ts a.tmps→∃y,(execOp a.eval o).run P w=.ok (.value y) (w.alloc (.cells ys x.1 (0,0)))∧∀(B:Sub) (b m:Nat),B.ι b=w.heap.size→(B.κ b).2=0→b<m→Rel B m (x.2.2 b) y
theorem alloc_soft {P:Program} {e:TypeId} {z:V} (hz:zeroB P e=some z) (ha:allOne z.cells=true):SoftOk P (.alloc e) fun _=>some (e,z.cells,fun b=>.p b 0):=by
 intro o ho ts x hx
 injection hx with hx
 subst hx
 unfold zeroB at hz
 obtain⟨inf,hi,hz⟩:=ob_some hz
 obtain⟨y,hy,hz⟩:=ob_some hz
 refine⟨y.cells,fun A n i kk=>row_new0 (ofVal_rel hz).cells ha,fun A n N a w _=>⟨.pointer (some ⟨w.heap.size,0,none⟩),?_,fun B b m hB hK hb=>?_⟩⟩
 ·have hzr:(zeroValue e).run P w=.ok y w:=by simp[zeroValue,typeInfo,hi,hy]
  simp only[execOp,ho,Instr.alloc,Sem.run_bind,Sem.run_pure,Result.andThen_ok,hzr,run_newVar]
 ·rw[←hB]
  have:=Rel.p (A:=B) b 0 hb
  rw[hK]at this
  exact this
theorem makeSlice_soft {P:Program} {ty e:TypeId} {x y:Operand} {rx ry:Rd} {sz by_:Nat} {z:V} (hx:rdB x=some rx) (hy:rdB y=some ry) (he:elemB P ty=some e) (hsz:sizeB P e=some sz) (hz:zeroB P e=some z) (hby:bytesB P e=some by_) (h0:0<sz) (hzl:z.cells.length=sz) :
  SoftOk P (.makeSlice ty x y) fun t=>rdK t rx fun l=>rdK t ry fun c=>asN l fun l=>asN c fun c=>bb (Nat.ble l c) (bb (Nat.ble c 65536) (bb (Nat.ble (Nat.mul c by_) 4294967296) (bb (allOne (rep z.cells c)) (some (e,rep z.cells c,fun b=>.sl b 0 l c true sz))))):=by
 intro o ho ts r hr
 simp only[rdK_eq]at hr
 obtain⟨k,l,h1,hr⟩:=asN_some hr
 obtain⟨k',c,h2,hr⟩:=asN_some hr
 obtain⟨h3,hr⟩:=bb_some hr
 obtain⟨h4,hr⟩:=bb_some hr
 obtain⟨h5,hr⟩:=bb_some hr
 obtain⟨h6,hr⟩:=bb_some hr
 injection hr with hr
 subst hr
 have hlc:=Nat.le_of_ble_eq_true h3
 have hc6:=Nat.le_of_ble_eq_true h4
 have hcb:=Nat.le_of_ble_eq_true h5
 obtain⟨zx,hzv,hzx⟩:=zero_all hz
 refine⟨(List.flatten (List.replicate c zx.cells.toList)).toArray,fun A n i kk=>row_new0 (by simpa using rep_rel (ofVal_rel (A:=A) (n:=n) hzv).cells c) h6,fun A n N a w ht=>?_⟩
 have hrx:=rd_rel ht hx
 have hry:=rd_rel ht hy
 rw[h1]at hrx
 rw[h2]at hry
 refine⟨_,makeSlice_run (w:=w) ho he hsz hzv hzx hby h0 hzl hlc hc6 hcb hrx.of_i hry.of_i,fun B b m hB hK hb=>?_⟩
 exact .slk _ _ _ _ _ _ hb (.inl (by rw[hK,hB]))
structure DrOk (P:Program) (ops:Array Oper) (N i:Nat) (o:Oper) (r:Dr):Prop where
 us:r.us=usesT ops o
 g:guardB ops o=some r.s.g
 d:dstB N o.dst=some r.s.d
 f:opB P o.op=some r.s.f
 k:(isE o.op=true∧r.k=.e)∨(∃g,isSoft o.op=true∧SoftOk P o.op g∧r.k=.soft g) ∨
  (isE o.op=false∧(isSoft o.op=false∧quietB P o.op=true)∧r.k=.q ((none :: (idxs isE ops.toList).map some).filter (mayStand (bef ops.toList []) (idxs isE ops.toList) i)))
theorem isE_soft {o:Op} (h:isE o=true):isSoft o=false:=by cases o <;> first | rfl |(simp[isE]at h)
theorem drB_get {P:Program} {ops:Array Oper} {N:Nat} {l:List Dr} (h:drB P ops N=some l):l.length=ops.size∧∀(i:Nat) (o:Oper),ops[i]?=some o→∃d,l[i]?=some d∧DrOk P ops N i o d:=by
 unfold drB at h
 obtain⟨h1,h2⟩:=mapO_get h
 refine⟨by simpa using h1,fun i o ho=>?_⟩
 obtain⟨d,h3,h4⟩:=h2 i (o,i) (by simp[List.getElem?_zipIdx,ho])
 refine⟨d,h3,?_⟩
 obtain⟨s,hs,h4⟩:=ob_some h4
 obtain⟨k,hk,h4⟩:=ob_some h4
 obtain⟨hn,h4⟩:=bb_some h4
 injection h4 with h4
 subst h4
 unfold stB at hs
 obtain⟨g,hg,hs⟩:=ob_some hs
 obtain⟨dd,hd',hs⟩:=ob_some hs
 cases hnx:nextB o.op with
 | some x =>
  rw[hnx]at hs
  obtain⟨x',_,hs⟩:=ob_some (show ob (rdB x) _=some s from hs)
  obtain⟨_,hs⟩:=bb_some hs
  injection hs with hs
  subst hs
  cases hn
 | none =>
  rw[hnx]at hs
  obtain⟨f,hf,hs⟩:=ob_some (show ob (opB P o.op) _=some s from hs)
  injection hs with hs
  subst hs
  refine⟨rfl,hg,hd',hf,?_⟩
  unfold dkB at hk
  cases he:isE o.op with
  | true =>
   rw[he,br_t]at hk
   injection hk with hk
   exact .inl ⟨rfl,hk.symm⟩
  | false =>
   rw[he,br_f]at hk
   split at hk
   ·rename_i e heq
    obtain⟨z,hz,hk⟩:=ob_some hk
    obtain⟨ha,hk⟩:=bb_some hk
    injection hk with hk
    exact .inr (.inl ⟨_,by rw[heq];rfl,by rw[heq];exact alloc_soft hz ha,hk.symm⟩)
   ·rename_i ty l c heq
    obtain⟨rl,hl,hk⟩:=ob_some hk
    obtain⟨rc,hc,hk⟩:=ob_some hk
    obtain⟨e,he,hk⟩:=ob_some hk
    obtain⟨sz,hsz,hk⟩:=ob_some hk
    obtain⟨z,hz,hk⟩:=ob_some hk
    obtain⟨by_,hby,hk⟩:=ob_some hk
    obtain⟨h0,hk⟩:=bb_some hk
    obtain⟨h1,hk⟩:=bb_some hk
    injection hk with hk
    exact .inr (.inl ⟨_,by rw[heq];rfl,by rw[heq];exact makeSlice_soft hl hc he hsz hz hby (Nat.le_of_ble_eq_true h0) (Nat.eq_of_beq_eq_true h1),hk.symm⟩)
   ·rename_i hne hne2
    obtain⟨hqu,hk⟩:=bb_some hk
    injection hk with hk
    refine .inr (.inr ⟨rfl,⟨?_,hqu⟩,hk.symm⟩)
    cases ho:o.op <;> first | rfl | exact absurd ho (hne _) | exact absurd ho (hne2 _ _ _)
structure DrawFacts (ops:Array Oper):Prop where
 hd:∀i j oi oj,ops[i]?=some oi→ops[j]?=some oj→isE oi.op=true→isE oj.op=true→i<j→Ahead ops i j
 sf:∀i j oi oj,ops[i]?=some oi→ops[j]?=some oj→isSoft oi.op=true→isE oj.op=true→i<j→Ahead ops i j
 sel:∀(j:Nat) (o:Oper),ops[j]?=some o→∀cs b,o.op≠.select cs b
 edge:∀(j:Nat) (o:Oper),ops[j]?=some o→∀e∈o.after,Region.binds .any e=true→e.on<j
 uniq:∀(i j:Nat) (p o:Oper) (d:Tmp),ops[i]?=some p→ops[j]?=some o→p.dst=some d→o.dst=some d→i=j
 uses:∀(i j:Nat) (p o:Oper) (d:Tmp),ops[i]?=some p→ops[j]?=some o→p.dst=some d→d∈usesT ops o→i=j∨(i<j∧Ahead ops i j)∨(j<i∧Ahead ops j i)
theorem drawOk_facts {ops:Array Oper} (h:drawOk ops=true):DrawFacts ops:=by
 unfold drawOk at h
 simp only[Bool.and_eq_true,List.all_eq_true]at h
 obtain⟨⟨h1,h2⟩,h3⟩:=h
 have hm:∀{j:Nat} {o:Oper},ops[j]?=some o→(o,j)∈ops.toList.zipIdx:=fun {j o} ho=>List.mem_zipIdx_iff_getElem?.2 (by simpa using ho)
 refine⟨fun i j oi oj hi hj ei ej hlt=>?_,fun i j oi oj hi hj ei ej hlt=>?_,fun j o ho cs b he=>?_,fun j o ho e he hb=>?_,fun i j p o d hi hj hp ho=>?_,fun i j p o d hi hj hp ho=>?_⟩
 ·have:=h1 j (idxs_mem.2 ⟨oj,by simpa using hj,ej⟩) i (idxs_mem.2 ⟨oi,by simpa using hi,ei⟩)
  rw[blt_iff.2 hlt]at this
  simpa [Ahead]using this
 ·have:=h2 i (idxs_mem.2 ⟨oi,by simpa using hi,ei⟩) j (idxs_mem.2 ⟨oj,by simpa using hj,ej⟩)
  rw[blt_iff.2 hlt]at this
  simpa [Ahead]using this
 ·have:=(h3 _ (hm ho)).1.1
  rw[he]at this
  cases this
 ·have:=(h3 _ (hm ho)).1.2 e (by simpa using he)
  rw[hb]at this
  exact blt_iff.1 (by simpa using this)
 ·have:=(h3 _ (hm hj)).2 _ (hm hi)
  simp only[hp,Bool.and_eq_true,ho]at this
  simpa using this.1
 ·have:=(h3 _ (hm hj)).2 _ (hm hi)
  simp only[hp,Bool.and_eq_true]at this
  have h4:=this.2
  rw[show(usesT ops o).contains d=true by simpa using ho]at h4
  by_cases hij:i=j
  ·exact .inl hij
  ·right
   rw[beqF hij]at h4
   by_cases hlt:i<j
   ·rw[blt_iff.2 hlt]at h4
    exact .inl ⟨hlt,by simpa [Ahead]using h4⟩
   ·have hf:Nat.blt i j=false:=by
     cases hb:Nat.blt i j with
     | false=>rfl
     | true=>exact absurd (blt_iff.1 hb) hlt
    rw[hf]at h4
    exact .inr ⟨by omega,by simpa [Ahead]using h4⟩
end Go.Proofs.YtkcdehffcddciaaGreatDoor.Vm
