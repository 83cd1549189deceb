/- Walks over what temporaries hold (a list), with what is left to run as a stack: every goal of a walk has one shape. -/
import Derived.Test.YtkcdehffcddciaaGreatDoorQ14
namespace Go.Proofs.YtkcdehffcddciaaGreatDoor.Vm
open Go Go.RowKit
noncomputable section
theorem nbeq_t {j k:Nat} (h:j=k):Nat.beq j k=true:=by subst h;exact Nat.beq_refl _
theorem nbeq_f {j k:Nat} (h:j≠k):Nat.beq j k=false:=by
 cases hb:Nat.beq j k with
 | false=>rfl
 | true=>exact absurd (Nat.eq_of_beq_eq_true hb) h
abbrev Env:=List (Nat × V)
def look:Env→Nat→Option V
 | [],_=>none
 |(j,v) :: e,k=>bif Nat.beq j k then some v else look e k
def Rd.lk (e:Env):Rd→Option V
 | .t k=>look e k
 | .c v=>some v
structure Tm (t:Tr V) (e:Env):Prop where
 eq:∀k v,look e k=some v→tv t k=v
theorem look_c (j:Nat) (v:V) (e:Env) (k:Nat):look ((j,v) :: e) k=if j=k then some v else look e k:=by
 show(bif Nat.beq j k then some v else look e k)=_
 by_cases h:j=k
 ·rw[if_pos h,nbeq_t h];rfl
 ·rw[if_neg h,nbeq_f h];rfl
theorem Tm.set {t:Tr V} {e:Env} (h:Tm t e) (d:Nat) (v:V):Tm (t.set d (some v)) ((d,v) :: e):=⟨fun k w hk=>by
 rw[look_c]at hk
 rw[tv_set]
 by_cases e1:d=k
 ·rw[if_pos e1]at hk
  rw[if_pos e1.symm]
  injection hk
 ·rw[if_neg e1]at hk
  rw[if_neg (fun h=>e1 h.symm)]
  exact h.eq k w hk⟩
def envL:Nat→List V→Env
 | _,[]=>[]
 | k,v :: l=>(k,v) :: envL (k+1) l
theorem look_envL:∀(l:List V) (i k:Nat) (v:V),look (envL i l) k=some v→i≤k∧l[k-i]?=some v
 | [],i,k,v,h=>by cases h
 | w :: l,i,k,v,h=>by
  rw[show envL i (w :: l)=(i,w) :: envL (i+1) l from rfl,look_c]at h
  by_cases e:i=k
  ·rw[if_pos e]at h
   subst e
   exact⟨Nat.le_refl _,by rw[Nat.sub_self];exact h⟩
  ·rw[if_neg e]at h
   obtain⟨h1,h2⟩:=look_envL l (i+1) k v h
   exact⟨by omega,by rw[show k-i=(k-(i+1))+1 by omega];exact h2⟩
theorem Tm.start (l:List V):Tm (Tr.putsL l .e 0) (envL 0 l):=⟨fun k v h=>by
 obtain⟨_,h2⟩:=look_envL l 0 k v h
 rw[Nat.sub_zero]at h2
 rw[tv_puts,h2]
 rfl⟩
theorem Rd.lk_val {x:Rd} {e:Env} {v:V} {t:Tr V} (hx:x.lk e=some v) (ht:Tm t e):x.val t=v:=by
 cases x with
 | t k=>exact ht.eq k v hx
 | c w=>injection hx
def Cov (e:Env):Env→Prop
 | []=>True
 |(k,v) :: l=>look e k=some v∧Cov e l
theorem Cov.look {e:Env}:∀(l:Env),Cov e l→∀k v,look l k=some v→look e k=some v
 | [],_,k,v,h=>by cases h
 |(j,w) :: l,hc,k,v,h=>by
  rw[look_c]at h
  by_cases e1:j=k
  ·rw[if_pos e1]at h
   injection h with h
   subst e1 h
   exact hc.1
  ·rw[if_neg e1]at h
   exact Cov.look l hc.2 k v h
theorem Tm.cov {t:Tr V} {e l:Env} (h:Tm t e) (hc:Cov e l):Tm t l:=⟨fun k v hk=>h.eq k v (Cov.look l hc k v hk)⟩
def lkL (e:Env):List Rd→Option (List V)
 | []=>some []
 | x :: l=>match x.lk e,lkL e l with
  | some v,some vs=>some (v :: vs)
  | _,_=>none
theorem lkL_vals {e:Env} {t:Tr V} (ht:Tm t e):∀(l:List Rd) (vs:List V),lkL e l=some vs→vals t l=vs
 | [],vs,h=>by injection h
 | x :: l,vs,h=>by
  unfold lkL at h
  split at h
  ·rename_i v ws h1 h2
   injection h with h
   subst h
   show x.val t :: vals t l=_
   rw[Rd.lk_val h1 ht,lkL_vals ht l ws h2]
  ·cases h
structure Od (op:Top) (e:Env) (h:H) (v:V) (h':H):Prop where
 eq:∀t,Tm t e→Td op t h v h'
structure Gd (e:Env) (g:Option (Nat × Bool)) (w:Bool):Prop where
 eq:∀t,Tm t e→Wn t g w
theorem Gd.n {e:Env}:Gd e none true:=⟨fun _ _=>.n⟩
theorem Gd.tt {e:Env} {d:Nat} (h:look e d=some (.b true)):Gd e (some (d,true)) true:=⟨fun _ ht=>.tt (ht.eq _ _ h)⟩
theorem Gd.ff {e:Env} {d:Nat} (h:look e d=some (.b false)):Gd e (some (d,false)) true:=⟨fun _ ht=>.ff (ht.eq _ _ h)⟩
theorem Gd.tf {e:Env} {d:Nat} (h:look e d=some (.b false)):Gd e (some (d,true)) false:=⟨fun _ ht=>.tf (ht.eq _ _ h)⟩
theorem Gd.ft {e:Env} {d:Nat} (h:look e d=some (.b true)):Gd e (some (d,false)) false:=⟨fun _ ht=>.ft (ht.eq _ _ h)⟩
/-! ### Just one end, or some -/
def X2 (m:Bool) (J:(V→H→Prop)→Prop) (R:V→H→Prop):Prop:=match m with
 | false=>J R
 | true=>∃v h,J (fun a b=>a=v∧b=h)∧R v h
theorem X2.mono {m:Bool} {J:(V→H→Prop)→Prop} {R S:V→H→Prop} (hJ:∀R S:V→H→Prop,(∀v h,R v h→S v h)→J R→J S) (hx:X2 m J R) (hs:∀v h,R v h→S v h):X2 m J S:=by
 cases m with
 | false=>exact hJ _ _ hs hx
 | true=>exact let ⟨v,h,h1,h2⟩:=hx;⟨v,h,h1,hs v h h2⟩
theorem X2.some {m:Bool} {J:(V→H→Prop)→Prop} {R:V→H→Prop} (hJ:∀R S:V→H→Prop,(∀v h,R v h→S v h)→J R→J S) (hx:X2 m J R):J R:=by
 cases m with
 | false=>exact hx
 | true=>exact let ⟨v,h,h1,h2⟩:=hx;hJ _ _ (fun a b ⟨e1,e2⟩=>by subst e1 e2;exact h2) h1
theorem X2.of {m:Bool} {J:(V→H→Prop)→Prop} {R:V→H→Prop} (hx:∀m,X2 m J R):X2 m J R:=hx m
def FX (m:Bool) (P:Program) (f:FuncId) (args:List V) (h:H) (R:V→H→Prop):Prop:=X2 m (Fn P f args h) R
def YX (m:Bool) (P:Program) (b:Nat) (args:List V) (h:H) (R:V→H→Prop):Prop:=X2 m (Yd P b args h) R
theorem Yd.mono {P:Program} {b:Nat} {args:List V} {h:H} {R S:V→H→Prop} (hf:Yd P b args h R) (hs:∀v h',R v h'→S v h'):Yd P b args h S:=fun A w xs hm hx=>by
 obtain⟨fn,tmps,as,bd,h1,h2⟩:=hf A w xs hm hx
 exact⟨fn,tmps,as,bd,h1,fun k n=>(h2 k n).mono fun _ _ ⟨x,he,v,h',hp,hR⟩=>⟨x,he,v,h',hp,hs v h' hR⟩⟩
theorem doP_mono {P:Program} {op:Top} {t:Tr V} {h:H} {R S:V→H→Prop} (hs:∀v h,R v h→S v h) (hd:doP P op t h R):doP P op t h S:=by
 cases op with
 | call f args=>exact Fn.mono hd hs
 | callv g args =>
  unfold doP at hd ⊢
  simp only at hd ⊢
  split at hd
  ·exact Fn.mono hd hs
  ·exact Yd.mono hd hs
  ·cases hd
 | nx x =>
  unfold doP at hd ⊢
  simp only at hd ⊢
  split at hd
  ·rename_i hv
   refine⟨hd.1,?_⟩
   have hd:=hd.2
   split at hd
   ·rename_i hn;exact fun c hc=>hs _ _ (hd c hc)
   ·cases hd
  ·cases hd
 | _ =>
  rw[doP_near rfl]at hd ⊢
  split at hd
  ·rename_i hp;exact hs _ _ hd
  ·cases hd
theorem FX.mono {m:Bool} {P:Program} {f:FuncId} {args:List V} {h:H} {R S:V→H→Prop} (hf:FX m P f args h R) (hs:∀v h',R v h'→S v h'):FX m P f args h S:=X2.mono (fun _ _ h1 h2=>Fn.mono h2 h1) hf hs
theorem FX.fn {m:Bool} {P:Program} {f:FuncId} {args:List V} {h:H} {R:V→H→Prop} (hf:FX m P f args h R):Fn P f args h R:=X2.some (fun _ _ h1 h2=>Fn.mono h2 h1) hf
theorem Fn.fx {m:Bool} {P:Program} {f:FuncId} {args:List V} {h:H} {c:V} (hf:Fn P f args h fun v h'=>v=c∧Old h.next h h') (hc:c.under h.next=true):FX m P f args h fun v h'=>v=c∧h'=h:=by
 have he:=hf.exact hc
 cases m with
 | false=>exact he.fn ⟨rfl,rfl⟩
 | true=>exact⟨c,h,he.fn ⟨rfl,rfl⟩,rfl,rfl⟩
def wpX (m:Bool) (P:Program):List So→Tr V→H→(Tr V→H→Prop)→Prop
 | [],t,h,Q=>Q t h
 | s :: l,t,h,Q=>if wantK t s.g=true then X2 m (doP P s.op t h) fun v h'=>wpX m P l (setT t s.d v) h' Q else wpX m P l (setT t s.d .u) h Q
theorem wpX_false {P:Program}:∀(l:List So) (t:Tr V) (h:H) (Q:Tr V→H→Prop),wpX false P l t h Q→wpL P l t h Q
 | [],t,h,Q,hq=>hq
 | s :: l,t,h,Q,hq=>by
  unfold wpX at hq
  unfold wpL
  split at hq
  ·rename_i hw
   rw[if_pos hw]
   exact doP_mono (fun v h' h1=>wpX_false l _ _ _ h1) hq
  ·rename_i hw
   rw[if_neg hw]
   exact wpX_false l _ _ _ hq
theorem wpX_true {P:Program}:∀(l:List So) (t:Tr V) (h:H) (Q:Tr V→H→Prop),wpX true P l t h Q→∃t' h',wpL P l t h (fun a b=>a=t'∧b=h')∧Q t' h'
 | [],t,h,Q,hq=>⟨t,h,⟨rfl,rfl⟩,hq⟩
 | s :: l,t,h,Q,hq=>by
  unfold wpX at hq
  split at hq
  ·rename_i hw
   obtain⟨v,h',h1,h2⟩:=hq
   obtain⟨t2,h3,h4,h5⟩:=wpX_true l _ _ _ h2
   refine⟨t2,h3,?_,h5⟩
   unfold wpL
   rw[if_pos hw]
   exact doP_mono (fun a b ⟨e1,e2⟩=>by subst e1 e2;exact h4) h1
  ·rename_i hw
   obtain⟨t2,h3,h4,h5⟩:=wpX_true l _ _ _ hq
   refine⟨t2,h3,?_,h5⟩
   unfold wpL
   rw[if_neg hw]
   exact h4
theorem wpM_exact {P:Program}:∀(l:List (So × Kd)) (j:Nat) (t:Tr V) (hs h:H) (st:List (Option Nat × H)) (rs:List Rq) (Q:Tr V→H→Prop),wpM P l j t hs h st rs Q→∃t' h',wpM P l j t hs h st rs (fun a b=>a=t'∧b=h')∧Q t' h'
 | [],_,t,_,h,_,_,Q,hq=>⟨t,h,⟨rfl,rfl⟩,hq⟩
 |(s,.e) :: l,j,t,hs,h,st,rs,Q,hq=>by
  unfold wpM at hq
  split at hq
  ·rename_i hw
   obtain⟨v,h',h1,h2,h3⟩:=hq
   obtain⟨t2,h4,h5,h6⟩:=wpM_exact l _ _ _ _ _ _ _ h3
   exact⟨t2,h4,by unfold wpM;rw[if_pos hw];exact⟨v,h',h1,h2,h5⟩,h6⟩
  ·rename_i hw
   obtain⟨t2,h4,h5,h6⟩:=wpM_exact l _ _ _ _ _ _ _ hq.2
   exact⟨t2,h4,by unfold wpM;rw[if_neg hw];exact⟨hq.1,h5⟩,h6⟩
 |(s,.soft) :: l,j,t,hs,h,st,rs,Q,hq=>by
  unfold wpM at hq
  split at hq
  ·rename_i hw
   obtain⟨v,h',h1,h3⟩:=hq
   obtain⟨t2,h4,h5,h6⟩:=wpM_exact l _ _ _ _ _ _ _ h3
   exact⟨t2,h4,by unfold wpM;rw[if_pos hw];exact⟨v,h',h1,h5⟩,h6⟩
  ·rename_i hw
   obtain⟨t2,h4,h5,h6⟩:=wpM_exact l _ _ _ _ _ _ _ hq
   exact⟨t2,h4,by unfold wpM;rw[if_neg hw];exact h5,h6⟩
 |(s,.q ks) :: l,j,t,hs,h,st,rs,Q,hq=>by
  unfold wpM at hq
  split at hq
  ·rename_i hw
   obtain⟨v,h1,h2,h3⟩:=hq
   obtain⟨t2,h4,h5,h6⟩:=wpM_exact l _ _ _ _ _ _ _ h3
   exact⟨t2,h4,by unfold wpM;rw[if_pos hw];exact⟨v,h1,h2,h5⟩,h6⟩
  ·rename_i hw
   obtain⟨t2,h4,h5,h6⟩:=wpM_exact l _ _ _ _ _ _ _ hq
   exact⟨t2,h4,by unfold wpM;rw[if_neg hw];exact h5,h6⟩
def SX (m:Bool) (P:Program) (r:Option Nat) (N:Nat) (s:Sc) (t:Tr V) (h:H) (Q:Ex→Tr V→H→Prop):Prop:=match m with
 | false=>SW P r N s t h Q
 | true=>∃o:Out,SW P r N s t h (fun x t h=>x=o.x∧t=o.t∧h=o.h)∧Q o.x o.t o.h
section
variable {m:Bool} {P:Program} {r:Option Nat} {N:Nat} {t:Tr V} {h:H} {Q Q':Ex→Tr V→H→Prop} {a b s:Sc}
theorem SX.mono (hs:SX m P r N s t h Q) (hq:∀x t h,Q x t h→Q' x t h):SX m P r N s t h Q':=by
 cases m with
 | false=>exact SW.mono hs hq
 | true=>exact let ⟨o,h1,h2⟩:=hs;⟨o,h1,hq _ _ _ h2⟩
theorem SX.seq (hs:SX m P r N a t h (andN (fun t h=>SX m P r N b t h Q) Q)):SX m P r N (.seq a b) t h Q:=by
 cases m with
 | false=>exact SW.seq hs
 | true =>
  obtain⟨o,h1,h2⟩:=hs
  cases hx:o.x with
  | normal =>
   rw[hx]at h2
   obtain⟨o2,h3,h4⟩:=h2
   exact⟨o2,SW.seq (h1.mono fun x t h ⟨e1,e2,e3⟩=>by rw[hx]at e1;subst e1 e2 e3;exact h3),h4⟩
  | _ =>
   rw[hx]at h2
   exact⟨o,SW.seq (h1.mono fun x t h ⟨e1,e2,e3⟩=>by rw[hx]at e1;subst e1 e2 e3;exact⟨hx.symm,rfl,rfl⟩),by rw[hx];exact h2⟩
theorem SX.one (hs:SW P r N s t h fun x t' h'=>x=.normal∧t'=t∧h'=h) (hq:Q .normal t h):SX m P r N s t h Q:=by
 cases m with
 | false=>exact hs.mono fun x t h ⟨e1,e2,e3⟩=>by subst e1 e2 e3;exact hq
 | true=>exact⟨⟨.normal,t,h⟩,hs,hq⟩
theorem SX.skip (hq:Q .normal t h):SX m P r N .skip t h Q:=SX.one (SW.skip ⟨rfl,rfl,rfl⟩) hq
theorem SX.exit {n:Nat} (hq:Q (.exit n) t h):SX m P r N (.exit n) t h Q:=by
 cases m with
 | false=>exact SW.exit hq
 | true=>exact⟨⟨.exit n,t,h⟩,SW.exit ⟨rfl,rfl,rfl⟩,hq⟩
theorem SX.ret (hq:Q .ret t h):SX m P r N .ret t h Q:=by
 cases m with
 | false=>exact SW.ret hq
 | true=>exact⟨⟨.ret,t,h⟩,SW.ret ⟨rfl,rfl,rfl⟩,hq⟩
theorem SX.cond {x:Rd} {v:Bool} (hv:x.val t=.b v) (h1:v=true→SX m P r N a t h Q) (h2:v=false→SX m P r N b t h Q):SX m P r N (.cond x a b) t h Q:=by
 cases m with
 | false=>exact SW.cond hv h1 h2
 | true =>
  cases v with
  | true=>exact let ⟨o,h3,h4⟩:=h1 rfl;⟨o,SW.cond hv (fun _=>h3) (fun h=>by cases h),h4⟩
  | false=>exact let ⟨o,h3,h4⟩:=h2 rfl;⟨o,SW.cond hv (fun h=>by cases h) (fun _=>h3),h4⟩
theorem SX.block {id:Nat} (hs:SX m P r N b t h fun x t h=>Q (catch_ id x) t h):SX m P r N (.block id b) t h Q:=by
 cases m with
 | false=>exact SW.block hs
 | true=>exact let ⟨o,h1,h2⟩:=hs;⟨⟨catch_ id o.x,o.t,o.h⟩,SW.block (h1.mono fun x t h ⟨e1,e2,e3⟩=>by subst e1 e2 e3;exact⟨rfl,rfl,rfl⟩),h2⟩
theorem SX.scope (hs:SX m P r N b t h Q):SX m P r N (.scope b) t h Q:=by
 cases m with
 | false=>exact SW.scope hs
 | true=>exact let ⟨o,h1,h2⟩:=hs;⟨o,SW.scope h1,h2⟩
theorem SX.region {l:List So} (hs:wpX m P l t h fun t h=>Q .normal t h):SX m P r N (.region l) t h Q:=by
 cases m with
 | false=>exact SW.region (wpX_false _ _ _ _ hs)
 | true =>
  obtain⟨t',h',h1,h2⟩:=wpX_true _ _ _ _ hs
  exact⟨⟨.normal,t',h'⟩,SW.region (by
   have e1:(fun (t:Tr V) (h:H)=>Ex.normal=Ex.normal∧t=t'∧h=h')=fun t h=>t=t'∧h=h':=by
    funext t h
    exact propext ⟨fun h=>h.2,fun h=>⟨rfl,h⟩⟩
   show wpL P l t h fun (t:Tr V) (h:H)=>Ex.normal=Ex.normal∧t=t'∧h=h'
   rw[e1]
   exact h1),h2⟩
theorem SX.mix (hmx:P.follows .mixedOrders=true) {l:List (So × Kd)} (hs:wpM P l 0 t h h [(none,h)] [] fun t h=>Q .normal t h):SX m P r N (.mix l) t h Q:=by
 cases m with
 | false=>exact SW.mixM hmx hs
 | true =>
  obtain⟨t',h',h1,h2⟩:=wpM_exact _ _ _ _ _ _ _ _ hs
  exact⟨⟨.normal,t',h'⟩,SW.mixM hmx (by
   have e1:(fun (t:Tr V) (h:H)=>Ex.normal=Ex.normal∧t=t'∧h=h')=fun t h=>t=t'∧h=h':=by
    funext t h
    exact propext ⟨fun h=>h.2,fun h=>⟨rfl,h⟩⟩
   show wpM P l 0 t h h [(none,h)] [] fun (t:Tr V) (h:H)=>Ex.normal=Ex.normal∧t=t'∧h=h'
   rw[e1]
   exact h1),h2⟩
inductive Rounds (P:Program) (r:Option Nat) (N:Nat) (b:Sc) (o:Out):Nat→Tr V→H→Prop
 | last (n:Nat) (t:Tr V) (h:H):SW P r N b t h (fun x t h=>x=o.x∧t=o.t∧h=o.h)→o.x≠.normal→Rounds P r N b o n t h
 | next (n:Nat) (t t':Tr V) (h h':H):SW P r N b t h (fun x a c=>x=.normal∧a=t'∧c=h')→Rounds P r N b o n t' h'→Rounds P r N b o (n+1) t h
theorem SX.loop (I:Nat→Tr V→H→Prop) (k:Nat) (h0:I k t h) (hI:∀k t h,I k t h→SX m P r N b t h (andN (fun t' h'=>∃k',k'<k∧I k' t' h') Q)):SX m P r N (.loop b) t h Q:=by
 cases m with
 | false=>exact SW.loop I k h0 hI
 | true =>
  have key:∀n k,k<n→∀t h,I k t h→∃o:Out,Q o.x o.t o.h∧∃j,Rounds P r N b o j t h:=by
   intro n
   induction n with
   | zero=>intro k hk;omega
   | succ n ih =>
    intro k hk t h hi
    obtain⟨o,h1,h2⟩:=hI k t h hi
    cases hx:o.x with
    | normal =>
     rw[hx]at h2
     obtain⟨k',h3,h4⟩:=h2
     obtain⟨o2,h5,j,h6⟩:=ih k' (by omega) _ _ h4
     exact⟨o2,h5,j+1,.next j t o.t h o.h (h1.mono fun x t h ⟨e1,e2,e3⟩=>⟨e1.trans hx,e2,e3⟩) h6⟩
    | _=>exact⟨o,by rw[hx]at h2 ⊢;exact h2,0,.last 0 t h h1 (by rw[hx];exact fun h=>by cases h)⟩
  obtain⟨o,h1,j,h2⟩:=key (k+1) k (Nat.lt_succ_self _) t h h0
  refine⟨o,SW.loop (fun n t h=>Rounds P r N b o n t h) j h2 fun n t h hr=>?_,h1⟩
  cases hr with
  | last _ _ _ h3 h4 =>
   refine h3.mono fun x t h hh=>?_
   obtain⟨e1,e2,e3⟩:=hh
   subst e1 e2 e3
   cases hx:o.x with
   | normal=>exact absurd hx h4
   | _=>exact⟨rfl,rfl,rfl⟩
  | next j _ t' _ h' h3 h4 =>
   refine h3.mono fun x t h hh=>?_
   obtain⟨e1,e2,e3⟩:=hh
   subst e1 e2 e3
   exact⟨j,Nat.lt_succ_self _,h4⟩
end
/-! ### Undrawn regions -/
structure Cx where
 m:Bool
 P:Program
 r:Option Nat
 N:Nat
 R:Env→H→Prop
structure Ew (C:Cx) (l:List So) (e:Env) (h:H) (Q:Env→H→Prop):Prop where
 run:∀t,Tm t e→wpX C.m C.P l t h fun t h=>∃e,Tm t e∧Q e h
section
variable {C:Cx} {g:Option (Nat × Bool)} {d:Nat} {op:Top} {us:List Nat} {l:List So} {e:Env} {h h':H} {v:V} {Q:Env→H→Prop}
theorem ew_n (hq:Q e h):Ew C [] e h Q:=⟨fun _ ht=>⟨e,ht,hq⟩⟩
theorem wpX_op {m:Bool} {P:Program} {s:So} {l:List So} {t:Tr V} {Q:Tr V→H→Prop} (hw:Wn t s.g true) (hd:Td s.op t h v h') (hr:wpX m P l (setT t s.d v) h' Q):wpX m P (s :: l) t h Q:=by
 unfold wpX
 rw[if_pos hw.eq]
 cases m with
 | false=>exact doP_of hd.eq hr
 | true=>exact⟨v,h',doP_of hd.eq ⟨rfl,rfl⟩,hr⟩
theorem wpX_no {m:Bool} {P:Program} {s:So} {l:List So} {t:Tr V} {Q:Tr V→H→Prop} (hw:Wn t s.g false) (hr:wpX m P l (setT t s.d .u) h Q):wpX m P (s :: l) t h Q:=by
 unfold wpX
 rw[if_neg (by rw[hw.eq];exact fun h=>by cases h)]
 exact hr
theorem wpX_go {m:Bool} {P:Program} {s:So} {l:List So} {t:Tr V} {Q:Tr V→H→Prop} (hw:Wn t s.g true) (hd:X2 m (doP P s.op t h) fun v h'=>wpX m P l (setT t s.d v) h' Q):wpX m P (s :: l) t h Q:=by
 unfold wpX
 rw[if_pos hw.eq]
 exact hd
theorem ew_s (hw:Gd e g true) (hd:Od op e h v h') (hr:Ew C l ((d,v) :: e) h' Q):Ew C (⟨g,some d,op,us⟩ :: l) e h Q:=⟨fun t ht=>wpX_op (hw.eq t ht) (hd.eq t ht) (hr.run _ (ht.set d v))⟩
theorem ew_u (hw:Gd e g true) (hd:Od op e h v h') (hr:Ew C l e h' Q):Ew C (⟨g,none,op,us⟩ :: l) e h Q:=⟨fun t ht=>wpX_op (hw.eq t ht) (hd.eq t ht) (hr.run _ ht)⟩
theorem ew_z (hw:Gd e g false) (hr:Ew C l ((d,.u) :: e) h Q):Ew C (⟨g,some d,op,us⟩ :: l) e h Q:=⟨fun t ht=>wpX_no (hw.eq t ht) (hr.run _ (ht.set d .u))⟩
theorem X2.map {m:Bool} {J J':(V→H→Prop)→Prop} {R S:V→H→Prop} (hx:X2 m J R) (hJ:∀R,J R→J' R) (hm:∀R S:V→H→Prop,(∀v h,R v h→S v h)→J' R→J' S) (hs:∀v h,R v h→S v h):X2 m J' S:=by
 cases m with
 | false=>exact hm _ _ hs (hJ _ hx)
 | true=>exact let ⟨v,h,h1,h2⟩:=hx;⟨v,h,hJ _ h1,hs v h h2⟩
theorem ew_c {f:FuncId} {args:List Rd} {R:V→H→Prop} {vs:List V} (hw:Gd e g true) (ha:lkL e args=some vs) (hf:FX C.m C.P f vs h R) (hr:∀v h',R v h'→Ew C l ((d,v) :: e) h' Q):Ew C (⟨g,some d,.call f args,us⟩ :: l) e h Q :=
 ⟨fun t ht=>wpX_go (hw.eq t ht) (X2.map hf (fun R hR=>by have:=lkL_vals ht _ _ ha;subst this;exact hR) (fun _ _=>doP_mono) fun v h' hR=>(hr v h' hR).run _ (ht.set d v))⟩
theorem doP_callv {P:Program} {x:Rd} {args:List Rd} {t:Tr V} {f:FuncId} {first cap:List V} {R:V→H→Prop} (hx:x.val t=.fn (.func f) first cap) (hf:Fn P f (first++(vals t args++cap)) h R):doP P (.callv x args) t h R:=by
 unfold doP
 simp only
 rw[hx]
 exact hf
theorem doP_yd {P:Program} {x:Rd} {args:List Rd} {t:Tr V} {b:Nat} {R:V→H→Prop} (hx:x.val t=.y b) (hf:Yd P b (vals t args) h R):doP P (.callv x args) t h R:=by
 unfold doP
 simp only
 rw[hx]
 exact hf
theorem ew_cv {x:Rd} {f:FuncId} {first cap:List V} {args:List Rd} {R:V→H→Prop} {vs:List V} (hw:Gd e g true) (hx:x.lk e=some (.fn (.func f) first cap)) (ha:lkL e args=some vs) (hf:FX C.m C.P f (first++(vs++cap)) h R) (hr:∀v h',R v h'→Ew C l ((d,v) :: e) h' Q):Ew C (⟨g,some d,.callv x args,us⟩ :: l) e h Q :=
 ⟨fun t ht=>wpX_go (hw.eq t ht) (X2.map hf (fun R hR=>doP_callv (Rd.lk_val hx ht) (by have:=lkL_vals ht _ _ ha;subst this;exact hR)) (fun _ _=>doP_mono) fun v h' hR=>(hr v h' hR).run _ (ht.set d v))⟩
theorem ew_y {x:Rd} {b:Nat} {args:List Rd} {R:V→H→Prop} {vs:List V} (hw:Gd e g true) (hx:x.lk e=some (.y b)) (ha:lkL e args=some vs) (hf:YX C.m C.P b vs h R) (hr:∀v h',R v h'→Ew C l ((d,v) :: e) h' Q):Ew C (⟨g,some d,.callv x args,us⟩ :: l) e h Q :=
 ⟨fun t ht=>wpX_go (hw.eq t ht) (X2.map hf (fun R hR=>doP_yd (Rd.lk_val hx ht) (by have:=lkL_vals ht _ _ ha;subst this;exact hR)) (fun _ _=>doP_mono) fun v h' hR=>(hr v h' hR).run _ (ht.set d v))⟩
theorem ew_nx {b:Nat} {x:Rd} {cs:List (V × H)} (hm:C.m=false) (hx:x.lk e=some (.p b 0)) (hn:nextC h b=some cs) (hr:∀c∈cs,Ew C l ((d,c.1) :: e) c.2 Q):Ew C (⟨none,some d,.nx x,us⟩ :: l) e h Q:=⟨fun t ht=>wpX_go .n (by
 rw[hm]
 unfold X2
 simp only
 unfold doP
 simp only
 rw[Rd.lk_val hx ht]
 refine⟨rfl,?_⟩
 rw[hn]
 exact fun c hc=>by have:=(hr c hc).run _ (ht.set d c.1);rw[hm]at this;exact this)⟩
theorem Tm.true_ {t:Tr V} (ht:Tm t e) {d:Nat} {c w:Bool} (hx:look e d=some (.b c)) (hc:c=w):Tm t ((d,.b w) :: e):=⟨fun k v hk=>by
 rw[look_c]at hk
 by_cases e1:d=k
 ·rw[if_pos e1]at hk
  injection hk with hk
  subst e1 hk hc
  exact ht.eq _ _ hx
 ·rw[if_neg e1]at hk
  exact ht.eq _ _ hk⟩
theorem ew_if {c:Bool} (hx:look e d=some (.b c)) (h1:c=true→Ew C l ((d,.b true) :: e) h Q) (h2:c=false→Ew C l ((d,.b false) :: e) h Q):Ew C l e h Q:=⟨fun t ht=>by
 cases c with
 | true=>exact(h1 rfl).run t (ht.true_ hx rfl)
 | false=>exact(h2 rfl).run t (ht.true_ hx rfl)⟩
end
/-! ### Code -/
inductive Fr where
 | code (s:Sc)
 | blk (id:Nat)
 | cut (S:Env→H→Prop)
def kont (C:Cx):List Fr→Ex→Env→H→Prop
 | [],x,e,h=>(x=.normal∨x=.ret)∧C.R e h
 | .code s :: K,.normal,e,h=>∀t,Tm t e→SX C.m C.P C.r C.N s t h fun x t h=>∃e,Tm t e∧kont C K x e h
 | .code _ :: K,x,e,h=>kont C K x e h
 | .blk id :: K,x,e,h=>kont C K (catch_ id x) e h
 | .cut S :: _,.normal,e,h=>S e h
 | .cut _ :: K,x,e,h=>kont C K x e h
structure Es (C:Cx) (K:List Fr) (s:Sc) (e:Env) (h:H):Prop where
 run:∀t,Tm t e→SX C.m C.P C.r C.N s t h fun x t h=>∃e,Tm t e∧kont C K x e h
structure Nx (C:Cx) (K:List Fr) (e:Env) (h:H):Prop where
 run:kont C K .normal e h
def unw (n:Nat):List Fr→Option (List Fr)
 | []=>none
 | .blk id :: K=>bif Nat.beq n id then some K else unw n K
 | .code _ :: K=>unw n K
 | .cut _ :: K=>unw n K
section
variable {C:Cx} {K:List Fr} {a b s:Sc} {e:Env} {h:H}
theorem kont_ret (hr:C.R e h):∀K:List Fr,kont C K .ret e h
 | []=>⟨.inr rfl,hr⟩
 | .code _ :: K=>kont_ret hr K
 | .blk _ :: K=>kont_ret hr K
 | .cut _ :: K=>kont_ret hr K
theorem kont_exit {n:Nat} {K':List Fr} (hn:kont C K' .normal e h):∀K:List Fr,unw n K=some K'→kont C K (.exit n) e h
 | [],h=>by cases h
 | .code _ :: K,h=>kont_exit hn K h
 | .cut _ :: K,h=>kont_exit hn K h
 | .blk id :: K,h=>by
  show kont C K (if n=id then .normal else .exit n) _ _
  by_cases e1:n=id
  ·rw[if_pos e1]
   have h:(bif Nat.beq n id then some K else unw n K)=some K':=h
   rw[nbeq_t e1]at h
   injection h with h
   subst h
   exact hn
  ·rw[if_neg e1]
   have h:(bif Nat.beq n id then some K else unw n K)=some K':=h
   rw[nbeq_f e1]at h
   exact kont_exit hn K h
theorem Nx.code (hs:Es C K s e h):Nx C (.code s :: K) e h:=⟨hs.run⟩
theorem Nx.blk {id:Nat} (hs:Nx C K e h):Nx C (.blk id :: K) e h:=⟨hs.run⟩
theorem Nx.cut {S:Env→H→Prop} (hs:S e h):Nx C (.cut S :: K) e h:=⟨hs⟩
theorem Nx.nil (hs:C.R e h):Nx C [] e h:=⟨.inl rfl,hs⟩
theorem Es.seq (hs:Es C (.code b :: K) a e h):Es C K (.seq a b) e h:=⟨fun t ht=>SX.seq ((hs.run t ht).mono fun x t h ⟨e,ht,hk⟩=>by
 cases x with
 | normal=>exact hk t ht
 | _=>exact⟨e,ht,hk⟩)⟩
theorem Es.skip (hs:Nx C K e h):Es C K .skip e h:=⟨fun _ ht=>SX.skip ⟨e,ht,hs.run⟩⟩
theorem Es.exit {n:Nat} {K':List Fr} (hu:unw n K=some K') (hs:Nx C K' e h):Es C K (.exit n) e h:=⟨fun _ ht=>SX.exit ⟨e,ht,kont_exit hs.run K hu⟩⟩
theorem Es.ret (hr:C.R e h):Es C K .ret e h:=⟨fun _ ht=>SX.ret ⟨e,ht,kont_ret hr K⟩⟩
theorem Es.cb {x:Rd} {c:Bool} (hx:x.lk e=some (.b c)) (h1:c=true→Es C K a e h) (h2:c=false→Es C K b e h):Es C K (.cond x a b) e h:=⟨fun t ht=>SX.cond (Rd.lk_val hx ht) (fun h=>(h1 h).run t ht) fun h=>(h2 h).run t ht⟩
theorem Es.ct {x:Rd} (hx:x.lk e=some (.b true)) (hs:Es C K a e h):Es C K (.cond x a b) e h:=Es.cb hx (fun _=>hs) fun h=>by cases h
theorem Es.cf {x:Rd} (hx:x.lk e=some (.b false)) (hs:Es C K b e h):Es C K (.cond x a b) e h:=Es.cb hx (fun h=>by cases h) fun _=>hs
theorem Es.block {id:Nat} (hs:Es C (.blk id :: K) b e h):Es C K (.block id b) e h:=⟨fun t ht=>SX.block (hs.run t ht)⟩
theorem Es.scope (hs:Es C K b e h):Es C K (.scope b) e h:=⟨fun t ht=>SX.scope (hs.run t ht)⟩
theorem wpX_mono {m:Bool} {P:Program} {Q Q':Tr V→H→Prop} (hq:∀t h,Q t h→Q' t h):∀(l:List So) (t:Tr V) (h:H),wpX m P l t h Q→wpX m P l t h Q'
 | [],t,h,hs=>hq _ _ hs
 | s :: l,t,h,hs=>by
  unfold wpX at hs ⊢
  split
  ·rename_i hw
   rw[if_pos hw]at hs
   exact X2.mono (fun _ _=>doP_mono) hs fun v h' h1=>wpX_mono hq l _ _ h1
  ·rename_i hw
   rw[if_neg hw]at hs
   exact wpX_mono hq l _ _ hs
theorem Es.region {l:List So} (hs:Ew C l e h (Nx C K)):Es C K (.region l) e h:=⟨fun t ht=>SX.region (wpX_mono (fun _ _ ⟨e,ht,hn⟩=>⟨e,ht,hn.run⟩) _ _ _ (hs.run t ht))⟩
theorem Es.cov {e':Env} (hc:Cov e e') (hs:Es C K s e' h):Es C K s e h:=⟨fun t ht=>hs.run t (ht.cov hc)⟩
theorem Es.cut (S:Env→H→Prop) (hs:Es C (.cut S :: K) a e h) (hb:∀e h,S e h→Nx C K e h):Es C K a e h:=⟨fun t ht=>(hs.run t ht).mono fun x t h ⟨e,ht,hk⟩=>by
 cases x with
 | normal=>exact⟨e,ht,(hb e h hk).run⟩
 | _=>exact⟨e,ht,hk⟩⟩
theorem Es.to {X:Type} (env:X→Env) (φ:X→H→Prop) (hs:Es C (.cut (fun e h=>∃x,Cov e (env x)∧φ x h) :: K) a e h) (hb:∀x h,φ x h→Nx C K (env x) h):Es C K a e h :=
 ⟨fun t ht=>(hs.run t ht).mono fun x t h ⟨e,ht,hk⟩=>by
  cases x with
  | normal=>exact let ⟨x,hc,hp⟩:=hk;⟨env x,ht.cov hc,(hb x h hp).run⟩
  | _=>exact⟨e,ht,hk⟩⟩
theorem Nx.to {X:Type} {env:X→Env} {φ:X→H→Prop} (x:X) (hc:Cov e (env x)) (hp:φ x h):Nx C (.cut (fun e h=>∃x,Cov e (env x)∧φ x h) :: K) e h:=.cut ⟨x,hc,hp⟩
def Inv {X:Type} (μ:X→Nat) (env:X→Env) (φ:X→H→Prop) (m:Nat) (e:Env) (h:H):Prop:=∃x,μ x<m∧Cov e (env x)∧φ x h
theorem Es.loop {X:Type} (μ:X→Nat) (env:X→Env) (φ:X→H→Prop) (x0:X) (hc:Cov e (env x0)) (h0:φ x0 h) (hs:∀x h,φ x h→Es C (.cut (Inv μ env φ (μ x)) :: K) b (env x) h):Es C K (.loop b) e h:=⟨fun t ht=>by
 refine SX.loop (fun m t h=>∃x,μ x=m∧Tm t (env x)∧φ x h) (μ x0) ⟨x0,rfl,ht.cov hc,h0⟩ fun m t h ⟨x,hm,ht,hφ⟩=>((hs x h hφ).run t ht).mono fun y t h ⟨e,ht,hk⟩=>?_
 cases y with
 | normal =>
  obtain⟨x',h1,h2,h3⟩:=hk
  exact⟨μ x',by omega,x',rfl,ht.cov h2,h3⟩
 | _=>exact⟨e,ht,hk⟩⟩
theorem Nx.inv {X:Type} {μ:X→Nat} {env:X→Env} {φ:X→H→Prop} {m:Nat} (x:X) (hm:μ x<m) (hc:Cov e (env x)) (hφ:φ x h):Nx C (.cut (Inv μ env φ m) :: K) e h:=.cut ⟨x,hm,hc,hφ⟩
end
/-! ### Functions -/
structure Rt (ks:List Rx) (e:Env) (h:H) (v:V):Prop where
 eq:∀t,Tm t e→retV t h ks=some v
theorem rt0 {e:Env} {h:H}:Rt [] e h .u:=⟨fun _ _=>rfl⟩
theorem rt1 {e:Env} {h:H} {k:Nat} {v:V} (hk:look e k=some v):Rt [.t k] e h v:=⟨fun _ ht=>ret1 (ht.eq _ _ hk)⟩
theorem rt2 {e:Env} {h:H} {k j:Nat} {v w:V} (hk:look e k=some v) (hj:look e j=some w):Rt [.t k,.t j] e h (.tup [v,w]):=⟨fun _ ht=>ret2 (ht.eq _ _ hk) (ht.eq _ _ hj)⟩
theorem Fn.env {P:Program} {f:FuncId} {n:Nat} {s:Sc} {ks:List Rx} (hf:fnB P f=some (n,s,ks)) {m:Bool} {args:List V} {h:H} {R:V→H→Prop} (hle:Nat.ble args.length n=true) (hw:Es ⟨m,P,none,n,fun e h=>∃v,Rt ks e h v∧R v h⟩ [] s (envL 0 args) h):FX m P f args h R:=by
 have h1:=hw.run _ (Tm.start args)
 cases m with
 | false=>exact Fn.at hf hle (SW.mono h1 fun _ _ _ ⟨_,ht,hx,v,hv,hR⟩=>⟨hx,v,hv.eq _ ht,hR⟩)
 | true =>
  obtain⟨o,h2,e,ht,hx,v,hv,hR⟩:=h1
  exact⟨v,o.h,Fn.at hf hle (h2.mono fun x t h ⟨e1,e2,e3⟩=>by subst e1 e2 e3;exact⟨hx,v,hv.eq _ ht,rfl,rfl⟩),hR⟩
end
end Go.Proofs.YtkcdehffcddciaaGreatDoor.Vm
