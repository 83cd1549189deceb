/- PLAIN: a play step by step: what waits, and when it goes. -/
import Derived.Test.YtkcdehffcddciaaGreatDoorQ26
namespace Go.Proofs.YtkcdehffcddciaaGreatDoor.Vm
open Go Go.RowKit
/-! ### A play's history -/
theorem RunP.hist {g:Gr} {ps:List Int} {n:Nat} {s r:Ps} (h:RunP g ps n s r):∃(m:Nat) (f:Nat→Ps),f 0=s∧f m=r∧(∀k,k<m→nextP g ps n (f k)=some (f (k+1)))∧nextP g ps n r=none:=by
 induction h with
 | fin h=>exact⟨0,fun _=>_,rfl,rfl,fun k hk=>absurd hk (Nat.not_lt_zero _),h⟩
 | @go s s' r h1 h2 ih =>
  obtain⟨m,f,f0,fm,hf,hn⟩:=ih
  refine⟨m+1,fun k=>match k with | 0=>s | k+1=>f k,rfl,fm,fun k hk=>?_,hn⟩
  match k with
  | 0=>show nextP g ps n s=some (f 0);rw[f0];exact h1
  | k+1=>exact hf k (by omega)
def Sec (g:Gr) (w:Int):Prop:=0≤w∧∃r,secV r g.rmw=w
inductive Trn (g:Gr) (n:Nat) (a b:Ps):Prop
 | stay (hT:b.T=a.T) (hQ:b.Q=a.Q) (hO:b.O=a.O) (hF:b.F=a.F)
 | flush (t:Nat) (w:Int) (r:List Int) (ht:t<n) (hq:gt a.Q t=w :: r) (hT:b.T=a.T) (hQ:b.Q=a.Q.set t r) (hO:b.O=a.O.set (gt g.ev w.toNat).loc.toNat (gt a.O (gt g.ev w.toNat).loc.toNat++[w])) (hF:b.F=a.F)
 | pair (t:Nat) (x w:Int) (r:List Int) (ht:t<n) (hx:gt a.T t=x :: w :: r) (hq:gt a.Q t = []) (hs:secV x g.rmw=w) (h0:0≤w) (hT:b.T=a.T.set t r) (hQ:b.Q=a.Q) (hO:b.O=a.O.set (gt g.ev x.toNat).loc.toNat (gt a.O (gt g.ev x.toNat).loc.toNat++[w])) (hF:b.F=a.F.set x.toNat (looksV g.ev a.Q a.O t (gt g.ev x.toNat).loc.toNat))
 | read (t:Nat) (x:Int) (r:List Int) (ht:t<n) (hx:gt a.T t=x :: r) (hs:¬0≤secV x g.rmw) (hk:(gt g.ev x.toNat).kind=1) (hT:b.T=a.T.set t r) (hQ:b.Q=a.Q) (hO:b.O=a.O) (hF:b.F=a.F.set x.toNat (looksV g.ev a.Q a.O t (gt g.ev x.toNat).loc.toNat))
 | write (t:Nat) (x:Int) (r:List Int) (ht:t<n) (hx:gt a.T t=x :: r) (hs:¬0≤secV x g.rmw) (hk:(gt g.ev x.toNat).kind=2) (hT:b.T=a.T.set t r) (hQ:b.Q=a.Q.set t (gt a.Q t++[x])) (hO:b.O=a.O) (hF:b.F=a.F)
 | fence (t:Nat) (x:Int) (r:List Int) (ht:t<n) (hx:gt a.T t=x :: r) (hs:¬0≤secV x g.rmw) (hk:(gt g.ev x.toNat).kind=3) (hq:((gt g.ev x.toNat).mode=5∨(gt g.ev x.toNat).mode=15)→gt a.Q t = []) (hT:b.T=a.T.set t r) (hQ:b.Q=a.Q) (hO:b.O=a.O) (hF:b.F=a.F)
section
variable {g:Gr} {b:Bool} {n:Nat} {ps:List Int} {s s':Ps}
theorem step_tr (hw:WF g b) (hg:Gp g n s.T s.Q s.O s.F) {t:Nat} (ht:t<n) (hT:s'.T=s.T.set t (stepP g.ev g.rmw s.Q s.O s.F t (gt s.T t)).l) (hQ:s'.Q=(stepP g.ev g.rmw s.Q s.O s.F t (gt s.T t)).Q) (hO:s'.O=(stepP g.ev g.rmw s.Q s.O s.F t (gt s.T t)).O) (hF:s'.F=(stepP g.ev g.rmw s.Q s.O s.F t (gt s.T t)).F):Trn g n s s':=by
 have htl:t<s.T.length:=by rw[hg.tl];exact ht
 cases hx:gt s.T t with
 | nil =>
  rw[hx,stepP_nil]at hT hQ hO hF
  exact .stay (by rw[hT];show s.T.set t []=_;rw[←hx];exact set_gt htl) hQ hO hF
 | cons x r =>
  rw[hx]at hT hQ hO hF
  by_cases hwt:waits g.ev g.rmw x∧gt s.Q t≠[]
  ·rw[stepP_wait hwt]at hT hQ hO hF
   exact .stay (by rw[hT];show s.T.set t (x :: r)=_;rw[←hx];exact set_gt htl) hQ hO hF
  ·obtain⟨h1,h2,h3,h4⟩:=ev_wf hw (hg.row ht hx)
   by_cases hs:0≤secV x g.rmw
   ·obtain⟨h5,h6,h7,h8⟩:=sec_wf hw hs
    have hq:gt s.Q t = []:=Classical.byContradiction fun h=>hwt ⟨.inl hs,h⟩
    have hk:(gt g.ev x.toNat).kind=1:=h5.2.2
    obtain⟨r',rfl⟩:=hg.next ht hx h7
    rw[stepP_pair hq hs hk]at hT hQ hO hF
    exact .pair t x _ r' ht hx hq rfl hs hT hQ hO hF
   ·rcases h3 with hk | hk | hk
    ·rw[stepP_read hs hk]at hT hQ hO hF
     exact .read t x r ht hx hs hk hT hQ hO hF
    ·rw[stepP_write hs hk]at hT hQ hO hF
     exact .write t x r ht hx hs hk hT hQ hO hF
    ·rw[stepP_fence hs hk hwt]at hT hQ hO hF
     exact .fence t x r ht hx hs hk (fun hm=>Classical.byContradiction fun h=>hwt ⟨.inr ⟨hk,hm⟩,h⟩) hT hQ hO hF
theorem flush_tr {t:Nat} (ht:t<n) (hT:s'.T=s.T) (hQ:s'.Q=(flushP g.ev s.Q s.O t).1) (hO:s'.O=(flushP g.ev s.Q s.O t).2) (hF:s'.F=s.F):Trn g n s s':=by
 cases hq:gt s.Q t with
 | nil =>
  rw[flushP_nil hq]at hQ hO
  exact .stay hT hQ hO hF
 | cons w r =>
  rw[flushP_cons hq]at hQ hO
  exact .flush t w r ht hq hT hQ hO hF
def PhI (n:Nat) (s:Ps):Prop:=match s.ph with
 | .pk _=>True
 | .dr t=>∀u,u<t→u<n→gt s.T u = []
 | .en t=>(∀u,u<n→gt s.T u = [])∧∀u,u<t→u<n→gt s.Q u = []
theorem pick_lt {p:Int} (h:0<n):(p % (2*(n:Int)) / 2).toNat<n:=by
 have h1:=Int.emod_nonneg p (b:=2*(n:Int)) (by omega)
 have h2:=Int.emod_lt_of_pos p (b:=2*(n:Int)) (by omega)
 omega
theorem flush_other {Q O:List (List Int)} {ev:List Ev_} {t u:Nat} (h:u≠t):gt (flushP ev Q O t).1 u=gt Q u:=by
 cases hq:gt Q t with
 | nil=>rw[flushP_nil hq]
 | cons w r =>
  rw[flushP_cons hq]
  show gt (Q.set t r) u=_
  by_cases ht:t<Q.length
  ·rw[gt_set ht,if_neg h]
  ·rw[List.set_eq_of_length_le (by omega)]
theorem set_other {T:List (List Int)} {t u:Nat} {l:List Int} (h:u≠t):gt (T.set t l) u=gt T u:=by
 by_cases ht:t<T.length
 ·rw[gt_set ht,if_neg h]
 ·rw[List.set_eq_of_length_le (by omega)]
theorem next_tr (hw:WF g b) (hg:Gp g n s.T s.Q s.O s.F) (hp:PhI n s) (h:nextP g ps n s=some s'):Trn g n s s'∧Gp g n s'.T s'.Q s'.O s'.F∧PhI n s':=by
 obtain⟨ph,T,Q,O,F⟩:=s
 cases ph with
 | pk i =>
  by_cases h1:i<ps.length∧0<n
  ·by_cases h2:gt ps i % (2*n) % 2=0
   ·rw[next_pks h1 h2 rfl]at h
    injection h with h
    subst h
    exact⟨step_tr hw hg (pick_lt h1.2) rfl rfl rfl rfl,hg.step hw (pick_lt h1.2),trivial⟩
   ·rw[next_pkf h1 h2 rfl]at h
    injection h with h
    subst h
    exact⟨flush_tr (pick_lt h1.2) rfl rfl rfl rfl,hg.flush (pick_lt h1.2),trivial⟩
  ·rw[next_pk0 h1]at h
   injection h with h
   subst h
   exact⟨.stay rfl rfl rfl rfl,hg,fun u hu=>absurd hu (Nat.not_lt_zero _)⟩
 | dr t =>
  have hp:∀u,u<t→u<n→gt T u = []:=hp
  by_cases h1:t<n
  ·by_cases h2:gt T t = []
   ·rw[next_dre h1 h2]at h
    injection h with h
    subst h
    refine⟨.stay rfl rfl rfl rfl,hg,fun u hu hun=>?_⟩
    by_cases e:u=t
    ·rw[e];exact h2
    ·exact hp u (by omega) hun
   ·cases h3:(stepP g.ev g.rmw Q O F t (gt T t)).done with
    | true =>
     rw[next_drs h1 h2 h3]at h
     injection h with h
     subst h
     exact⟨step_tr hw hg h1 rfl rfl rfl rfl,hg.step hw h1,fun u hu hun=>(set_other (by omega)).trans (hp u hu hun)⟩
    | false =>
     rw[next_drf h1 h2 h3]at h
     injection h with h
     subst h
     exact⟨flush_tr h1 rfl rfl rfl rfl,hg.flush h1,hp⟩
  ·rw[next_dr0 h1]at h
   injection h with h
   subst h
   exact⟨.stay rfl rfl rfl rfl,hg,fun u hu=>hp u (by omega) hu,fun u hu=>absurd hu (Nat.not_lt_zero _)⟩
 | en t =>
  obtain⟨hp1,hp⟩:(∀u,u<n→gt T u = [])∧∀u,u<t→u<n→gt Q u = []:=hp
  by_cases h1:t<n
  ·by_cases h2:gt Q t = []
   ·rw[next_ene h1 h2]at h
    injection h with h
    subst h
    refine⟨.stay rfl rfl rfl rfl,hg,hp1,fun u hu hun=>?_⟩
    by_cases e:u=t
    ·rw[e];exact h2
    ·exact hp u (by omega) hun
   ·rw[next_enf h1 h2]at h
    injection h with h
    subst h
    exact⟨flush_tr h1 rfl rfl rfl rfl,hg.flush h1,hp1,fun u hu hun=>(flush_other (by omega)).trans (hp u hu hun)⟩
  ·rw[next_en0 h1]at h
   cases h
theorem end_nil (hp:PhI n s) (h:nextP g ps n s=none):∀u,u<n→gt s.T u = []∧gt s.Q u = []:=by
 obtain⟨ph,T,Q,O,F⟩:=s
 cases ph with
 | pk i =>
  by_cases h1:i<ps.length∧0<n
  ·by_cases h2:gt ps i % (2*n) % 2=0
   ·rw[next_pks h1 h2 rfl]at h;cases h
   ·rw[next_pkf h1 h2 rfl]at h;cases h
  ·rw[next_pk0 h1]at h;cases h
 | dr t =>
  by_cases h1:t<n
  ·by_cases h2:gt T t = []
   ·rw[next_dre h1 h2]at h;cases h
   ·cases h3:(stepP g.ev g.rmw Q O F t (gt T t)).done with
    | true=>rw[next_drs h1 h2 h3]at h;cases h
    | false=>rw[next_drf h1 h2 h3]at h;cases h
  ·rw[next_dr0 h1]at h;cases h
 | en t =>
  obtain⟨hp1,hp⟩:(∀u,u<n→gt T u = [])∧∀u,u<t→u<n→gt Q u = []:=hp
  by_cases h1:t<n
  ·by_cases h2:gt Q t = []
   ·rw[next_ene h1 h2]at h;cases h
   ·rw[next_enf h1 h2]at h;cases h
  ·exact fun u hu=>⟨hp1 u hu,hp u (by omega) hu⟩
/-! ### What waits -/
def InL (s:Ps) (n:Nat) (x:Int):Prop:=∃t,t<n∧x∈gt s.Q t++gt s.T t
structure Stt (g:Gr) (n:Nat) (s:Ps):Prop where
 gp:Gp g n s.T s.Q s.O s.F
 srt:∀t,t<n→(gt s.Q t++gt s.T t).Pairwise (·< ·)
 th:∀t,t<n→∀x∈gt s.Q t,x∈threadL g.ev t g.ev.length
 ns:∀t,t<n→∀x∈gt s.Q t,¬Sec g x
 par:∀t,t<n→∀r w,secV r g.rmw=w→0≤w→w∈gt s.T t→r∈gt s.T t
 o:∀c,c<s.O.length→∀w,w∈gt s.O c↔WrE g w∧(gt g.ev w.toNat).loc=c∧¬InL s n w
theorem Stt.tth (h:Stt g n s) {t:Nat} (ht:t<n) {x:Int} (hx:x∈gt s.T t):x∈threadL g.ev t g.ev.length:=by
 obtain⟨k,hk⟩:=h.gp.t t ht
 rw[hk]at hx
 exact List.mem_of_mem_drop hx
theorem Stt.lth (h:Stt g n s) {t:Nat} (ht:t<n) {x:Int} (hx:x∈gt s.Q t++gt s.T t):x∈threadL g.ev t g.ev.length:=by
 rcases List.mem_append.1 hx with hx | hx
 ·exact h.th t ht x hx
 ·exact h.tth ht hx
theorem inl_of {s':Ps} (h:Stt g n s) {t:Nat} (ht:t<n) (D:Int→Prop) (ho:∀u,u≠t→gt s'.Q u=gt s.Q u∧gt s'.T u=gt s.T u) (hD:∀x,D x→x∈gt s.Q t++gt s.T t) (hl:∀x,x∈gt s'.Q t++gt s'.T t↔x∈gt s.Q t++gt s.T t∧¬D x) (x:Int):InL s' n x↔InL s n x∧¬D x:=by
 constructor
 ·rintro⟨u,hu,hx⟩
  by_cases e:u=t
  ·subst e
   exact⟨⟨u,hu,((hl x).1 hx).1⟩,((hl x).1 hx).2⟩
  ·rw[(ho u e).1,(ho u e).2]at hx
   refine⟨⟨u,hu,hx⟩,fun hd=>?_⟩
   have h1:=(thread_mem.1 (h.lth ht (hD x hd))).2.2
   have h2:=(thread_mem.1 (h.lth hu hx)).2.2
   omega
 ·rintro⟨⟨u,hu,hx⟩,hd⟩
  by_cases e:u=t
  ·subst e
   exact⟨u,hu,(hl x).2 ⟨hx,hd⟩⟩
  ·exact⟨u,hu,by rw[(ho u e).1,(ho u e).2];exact hx⟩
def Gone (_g:Gr) (n:Nat) (a b:Ps) (D:Int→Prop):Prop:=∀x,InL b n x↔InL a n x∧¬D x
section
variable {t:Nat} {x w:Int} {r:List Int}
theorem gone_flush (h:Stt g n s) (ht:t<n) (hq:gt s.Q t=w :: r) (hT:s'.T=s.T) (hQ:s'.Q=s.Q.set t r):Gone g n s s' (fun y=>y=w):=by
 have hql:t<s.Q.length:=by rw[h.gp.ql];exact ht
 have hs:=h.srt t ht
 rw[hq,List.cons_append,List.pairwise_cons]at hs
 refine inl_of h ht _ (fun u hu=>⟨by rw[hQ];exact set_other hu,by rw[hT]⟩) (fun y e=>by subst e;rw[hq];simp) fun y=>?_
 rw[hQ,hT,gt_set hql,if_pos rfl,hq]
 constructor
 ·intro hy
  refine⟨List.mem_cons_of_mem _ hy,fun e=>?_⟩
  have:=hs.1 y hy
  omega
 ·rintro⟨hy,hn⟩
  rcases List.mem_cons.1 hy with h1 | h1
  ·exact absurd h1 hn
  ·exact h1
theorem gone_pair (h:Stt g n s) (ht:t<n) (hx:gt s.T t=x :: w :: r) (hq:gt s.Q t = []) (hT:s'.T=s.T.set t r) (hQ:s'.Q=s.Q):Gone g n s s' (fun y=>y=x∨y=w):=by
 have htl:t<s.T.length:=by rw[h.gp.tl];exact ht
 have hs:=h.srt t ht
 rw[hq,hx,List.nil_append,List.pairwise_cons,List.pairwise_cons]at hs
 refine inl_of h ht _ (fun u hu=>⟨by rw[hQ],by rw[hT];exact set_other hu⟩) (fun y e=>by rw[hx];rcases e with e | e <;> subst e <;> simp) fun y=>?_
 rw[hQ,hT,gt_set htl,if_pos rfl,hx,hq,List.nil_append,List.nil_append]
 constructor
 ·intro hy
  refine⟨List.mem_cons_of_mem _ (List.mem_cons_of_mem _ hy),fun e=>?_⟩
  have h1:=hs.1 y (List.mem_cons_of_mem _ hy)
  have h2:=hs.2.1 y hy
  omega
 ·rintro⟨hy,hn⟩
  rcases List.mem_cons.1 hy with h1 | h1
  ·exact absurd (.inl h1) hn
  ·rcases List.mem_cons.1 h1 with h1 | h1
   ·exact absurd (.inr h1) hn
   ·exact h1
theorem gone_one (h:Stt g n s) (ht:t<n) (hx:gt s.T t=x :: r) (hT:s'.T=s.T.set t r) (hQ:s'.Q=s.Q):Gone g n s s' (fun y=>y=x):=by
 have htl:t<s.T.length:=by rw[h.gp.tl];exact ht
 have hs:=h.srt t ht
 rw[hx,List.pairwise_append,List.pairwise_cons]at hs
 refine inl_of h ht _ (fun u hu=>⟨by rw[hQ],by rw[hT];exact set_other hu⟩) (fun y e=>by rw[hx];subst e;simp) fun y=>?_
 rw[hQ,hT,gt_set htl,if_pos rfl,hx]
 constructor
 ·intro hy
  rcases List.mem_append.1 hy with h1 | h1
  ·refine⟨List.mem_append_left _ h1,fun e=>?_⟩
   have:=hs.2.2 y h1 x List.mem_cons_self
   omega
  ·refine⟨List.mem_append_right _ (List.mem_cons_of_mem _ h1),fun e=>?_⟩
   have:=hs.2.1.1 y h1
   omega
 ·rintro⟨hy,hn⟩
  rcases List.mem_append.1 hy with h1 | h1
  ·exact List.mem_append_left _ h1
  ·rcases List.mem_cons.1 h1 with h1 | h1
   ·exact absurd h1 hn
   ·exact List.mem_append_right _ h1
theorem gone_write (h:Stt g n s) (ht:t<n) (hx:gt s.T t=x :: r) (hT:s'.T=s.T.set t r) (hQ:s'.Q=s.Q.set t (gt s.Q t++[x])):Gone g n s s' (fun _=>False):=by
 have htl:t<s.T.length:=by rw[h.gp.tl];exact ht
 have hql:t<s.Q.length:=by rw[h.gp.ql];exact ht
 refine inl_of h ht _ (fun u hu=>⟨by rw[hQ];exact set_other hu,by rw[hT];exact set_other hu⟩) (fun y e=>e.elim) fun y=>?_
 rw[hQ,hT,gt_set htl,gt_set hql,if_pos rfl,if_pos rfl,hx,List.append_assoc]
 exact⟨fun h=>⟨h,id⟩,fun h=>h.1⟩
end
end
section
variable {g:Gr} {b:Bool} {n:Nat} {ps:List Int} {s s':Ps}
theorem sec_kind (hw:WF g b) {w:Int} (h:Sec g w):(gt g.ev w.toNat).kind=2:=by
 obtain⟨h0,r,rfl⟩:=h
 exact(sec_wf hw h0).2.1.2.2
theorem o_app (h:Stt g n s) {w:Int} {c:Nat} {D:Int→Prop} (hww:WrE g w) (hc:(gt g.ev w.toNat).loc=c) (hg:Gone g n s s' D) (hDw:D w) (hD:∀x,D x→WrE g x→x=w) (hl:InL s n w) (hO:s'.O=s.O.set c (gt s.O c++[w])):∀d,d<s'.O.length→∀x,x∈gt s'.O d↔WrE g x∧(gt g.ev x.toNat).loc=d∧¬InL s' n x:=by
 intro d hd x
 rw[hO,List.length_set]at hd
 have hcl:c<s.O.length:=by have:=h.gp.ol;have:=hww.2.2.2;omega
 rw[hO,gt_set hcl]
 have h1:=h.o d hd x
 by_cases e:d=c
 ·rw[if_pos e]
  subst e
  constructor
  ·intro hx
   rcases List.mem_append.1 hx with hx | hx
   ·obtain⟨h2,h3,h4⟩:=h1.1 hx
    exact⟨h2,h3,fun hi=>h4 ((hg x).1 hi).1⟩
   ·rw[List.mem_singleton.1 hx]
    exact⟨hww,hc,fun hi=>((hg w).1 hi).2 hDw⟩
  ·rintro⟨h2,h3,h4⟩
   by_cases e:x=w
   ·rw[e];exact List.mem_append_right _ (List.mem_singleton.2 rfl)
   ·exact List.mem_append_left _ (h1.2 ⟨h2,h3,fun hi=>h4 ((hg x).2 ⟨hi,fun hd'=>e (hD x hd' h2)⟩)⟩)
 ·rw[if_neg e]
  constructor
  ·intro hx
   obtain⟨h2,h3,h4⟩:=h1.1 hx
   exact⟨h2,h3,fun hi=>h4 ((hg x).1 hi).1⟩
  ·rintro⟨h2,h3,h4⟩
   refine h1.2 ⟨h2,h3,fun hi=>h4 ((hg x).2 ⟨hi,fun hd'=>?_⟩)⟩
   have:=hD x hd' h2
   subst this
   omega
theorem o_same (h:Stt g n s) {D:Int→Prop} (hg:Gone g n s s' D) (hD:∀x,D x→¬WrE g x) (hO:s'.O=s.O):∀d,d<s'.O.length→∀x,x∈gt s'.O d↔WrE g x∧(gt g.ev x.toNat).loc=d∧¬InL s' n x:=by
 intro d hd x
 rw[hO]at hd ⊢
 have h1:=h.o d hd x
 constructor
 ·intro hx
  obtain⟨h2,h3,h4⟩:=h1.1 hx
  exact⟨h2,h3,fun hi=>h4 ((hg x).1 hi).1⟩
 ·rintro⟨h2,h3,h4⟩
  exact h1.2 ⟨h2,h3,fun hi=>h4 ((hg x).2 ⟨hi,fun hd'=>hD x hd' h2⟩)⟩
theorem par_one (h:Stt g n s) {t:Nat} (ht:t<n) {x:Int} {r:List Int} (hx:gt s.T t=x :: r) (hs:¬0≤secV x g.rmw) (hT:s'.T=s.T.set t r):∀u,u<n→∀r w,secV r g.rmw=w→0≤w→w∈gt s'.T u→r∈gt s'.T u:=by
 intro u hu r' w h1 h2 h3
 rw[hT,gt_set (by rw[h.gp.tl];exact ht)]at h3 ⊢
 by_cases e:u=t
 ·rw[if_pos e]at h3 ⊢
  have h4:=h.par t ht r' w h1 h2 (by rw[hx];exact List.mem_cons_of_mem _ h3)
  rw[hx]at h4
  rcases List.mem_cons.1 h4 with h5 | h5
  ·exact absurd (by rw[←h5,h1];exact h2) hs
  ·exact h5
 ·rw[if_neg e]at h3 ⊢;exact h.par u hu r' w h1 h2 h3
theorem Trn.st (hw:WF g b) (h:Stt g n s) (ht:Trn g n s s') (hg:Gp g n s'.T s'.Q s'.O s'.F):Stt g n s':=by
 cases ht with
 | stay hT hQ hO hF =>
  refine⟨hg,by rw[hT,hQ];exact h.srt,by rw[hQ];exact h.th,by rw[hQ];exact h.ns,by rw[hT];exact h.par,?_⟩
  refine o_same h (D:=fun _=>False) (fun x=>?_) (fun _ hd=>hd.elim) hO
  unfold InL
  rw[hT,hQ]
  exact⟨fun h=>⟨h,id⟩,fun h=>h.1⟩
 | flush t w r ht hq hT hQ hO hF =>
  have hG:=gone_flush h ht hq hT hQ
  have hql:t<s.Q.length:=by rw[h.gp.ql];exact ht
  have hwq:w∈gt s.Q t:=by rw[hq];exact List.mem_cons_self
  have hww:=h.gp.q t ht w hwq
  have hsub:∀u,∀x∈gt s'.Q u,x∈gt s.Q u:=fun u x hx=>by
   rw[hQ,gt_set hql]at hx
   by_cases e:u=t
   ·rw[if_pos e]at hx;rw[e,hq];exact List.mem_cons_of_mem _ hx
   ·rw[if_neg e]at hx;exact hx
  refine⟨hg,fun u hu=>?_,fun u hu x hx=>h.th u hu x (hsub u x hx),fun u hu x hx=>h.ns u hu x (hsub u x hx),by rw[hT];exact h.par,?_⟩
  ·rw[hQ,hT,gt_set hql]
   by_cases e:u=t
   ·rw[if_pos e,e]
    have:=h.srt t ht
    rw[hq,List.cons_append,List.pairwise_cons]at this
    exact this.2
   ·rw[if_neg e];exact h.srt u hu
  ·exact o_app h hww (Int.toNat_of_nonneg hww.2.2.2.1).symm hG rfl (fun x hx _=>hx) ⟨t,ht,List.mem_append_left _ hwq⟩ hO
 | pair t x w r ht hx hq hs h0 hT hQ hO hF =>
  have hG:=gone_pair h ht hx hq hT hQ
  have htl:t<s.T.length:=by rw[h.gp.tl];exact ht
  obtain⟨h5,h6,h7,h8⟩:=sec_wf hw (x:=x) (by rw[hs];exact h0)
  rw[hs]at h6 h7 h8
  have h9:=ev_wf hw (h.tth ht (x:=x) (by rw[hx];exact List.mem_cons_self))
  have hk:(gt g.ev x.toNat).kind=1:=h5.2.2
  have hww:WrE g w:=⟨h6.1,h6.2.1,h6.2.2,by omega,by omega⟩
  refine⟨hg,fun u hu=>?_,by rw[hQ];exact h.th,by rw[hQ];exact h.ns,fun u hu r' w' h1 h2 h3=>?_,?_⟩
  ·rw[hQ,hT,gt_set htl]
   by_cases e:u=t
   ·rw[if_pos e,e]
    have:=h.srt t ht
    rw[hq,hx,List.nil_append,List.pairwise_cons,List.pairwise_cons]at this
    rw[hq]
    exact this.2.2
   ·rw[if_neg e];exact h.srt u hu
  ·rw[hT,gt_set htl]at h3 ⊢
   by_cases e:u=t
   ·rw[if_pos e]at h3 ⊢
    have h4:=h.par t ht r' w' h1 h2 (by rw[hx];exact List.mem_cons_of_mem _ (List.mem_cons_of_mem _ h3))
    rw[hx]at h4
    have hsr:=h.srt t ht
    rw[hq,hx,List.nil_append,List.pairwise_cons,List.pairwise_cons]at hsr
    rcases List.mem_cons.1 h4 with h5 | h5
    ·exfalso
     have:w'=w:=by rw[←h1,h5,hs]
     have:=hsr.2.1 w' h3
     omega
    ·rcases List.mem_cons.1 h5 with h5 | h5
     ·exfalso
      have h10:=(sec_wf hw (x:=r') (by rw[h1];exact h2)).1.2.2
      rw[h5]at h10
      have:=h6.2.2
      omega
     ·exact h5
   ·rw[if_neg e]at h3 ⊢;exact h.par u hu r' w' h1 h2 h3
  ·refine o_app h hww ?_ hG (.inr rfl) (fun y hy hyw=>?_) ⟨t,ht,by rw[hx];simp⟩ hO
   ·rw[←h8];omega
   ·rcases hy with hy | hy
    ·have:=hyw.2.2.1;rw[hy]at this;omega
    ·exact hy
 | read t x r ht hx hs hk hT hQ hO hF =>
  have hG:=gone_one h ht hx hT hQ
  refine⟨hg,fun u hu=>?_,by rw[hQ];exact h.th,by rw[hQ];exact h.ns,par_one h ht hx hs hT,o_same h hG (fun y hy hyw=>?_) hO⟩
  ·rw[hQ,hT,gt_set (by rw[h.gp.tl];exact ht)]
   by_cases e:u=t
   ·rw[if_pos e,e]
    have:=h.srt t ht
    rw[hx]at this
    exact List.Pairwise.sublist (List.Sublist.append_left (List.sublist_cons_self _ _) _) this
   ·rw[if_neg e];exact h.srt u hu
  ·have:=hyw.2.2.1;rw[hy]at this;omega
 | write t x r ht hx hs hk hT hQ hO hF =>
  have hG:=gone_write h ht hx hT hQ
  have htl:t<s.T.length:=by rw[h.gp.tl];exact ht
  have hql:t<s.Q.length:=by rw[h.gp.ql];exact ht
  have hxt:x∈gt s.T t:=by rw[hx];exact List.mem_cons_self
  have key:∀u,u<n→∀y∈gt s'.Q u,y∈gt s.Q u∨(u=t∧y=x):=fun u hu y hy=>by
   rw[hQ,gt_set hql]at hy
   by_cases e:u=t
   ·rw[if_pos e]at hy
    rcases List.mem_append.1 hy with h1 | h1
    ·exact .inl (by rw[e];exact h1)
    ·exact .inr ⟨e,List.mem_singleton.1 h1⟩
   ·rw[if_neg e]at hy;exact .inl hy
  refine⟨hg,fun u hu=>?_,fun u hu y hy=>?_,fun u hu y hy=>?_,par_one h ht hx hs hT,o_same h hG (fun y hy=>hy.elim) hO⟩
  ·rw[hQ,hT,gt_set htl,gt_set hql]
   by_cases e:u=t
   ·rw[if_pos e,if_pos e]
    have:=h.srt t ht
    rw[hx]at this
    rw[List.append_assoc]
    exact this
   ·rw[if_neg e,if_neg e];exact h.srt u hu
  ·rcases key u hu y hy with h1 | ⟨rfl,rfl⟩
   ·exact h.th u hu y h1
   ·exact h.tth ht hxt
  ·rcases key u hu y hy with h1 | ⟨rfl,rfl⟩
   ·exact h.ns u hu y h1
   ·rintro⟨h1,r',h2⟩
    have h3:=h.par u ht r' y h2 h1 hxt
    have h4:=h.srt u ht
    rw[hx,List.pairwise_append,List.pairwise_cons]at h4
    have h5:=(sec_wf hw (x:=r') (by rw[h2];exact h1)).2.2.1
    rw[h2]at h5
    have h6:=h5.1.2.1
    rw[hx]at h3
    rcases List.mem_cons.1 h3 with h7 | h7
    ·omega
    ·have:=h4.2.1.1 r' h7;omega
 | fence t x r ht hx hs hk hq hT hQ hO hF =>
  have hG:=gone_one h ht hx hT hQ
  refine⟨hg,fun u hu=>?_,by rw[hQ];exact h.th,by rw[hQ];exact h.ns,par_one h ht hx hs hT,o_same h hG (fun y hy hyw=>?_) hO⟩
  ·rw[hQ,hT,gt_set (by rw[h.gp.tl];exact ht)]
   by_cases e:u=t
   ·rw[if_pos e,e]
    have:=h.srt t ht
    rw[hx]at this
    exact List.Pairwise.sublist (List.Sublist.append_left (List.sublist_cons_self _ _) _) this
   ·rw[if_neg e];exact h.srt u hu
  ·have:=hyw.2.2.1;rw[hy]at this;omega
theorem thrN_ge {l:List Ev_}:∀{n i:Nat},i<n→(gt l i).thread+1≤thrN l n
 | 0,i,h=>absurd h (Nat.not_lt_zero _)
 | n+1,i,h=>by
  show _≤max (thrN l n) ((gt l n).thread+1)
  by_cases e:i=n
  ·rw[e];omega
  ·have:=thrN_ge (l:=l) (n:=n) (i:=i) (by omega);omega
theorem Stt.beg (hw:WF g b) (hn:n≤64) (hth:thrN g.ev g.ev.length=n):Stt g n (begP g n):=by
 obtain⟨z1,z2,z3,z4⟩:=hw.size
 have hT:∀t,t<n→gt (begT g n) t=threadL g.ev t g.ev.length:=fun t ht=>by unfold begT;rw[gt_mapR ht]
 have hQ:∀t,t<n→gt (begP g n).Q t = []:=fun t ht=>gt_rep ht
 refine⟨Gp.beg hw hn,fun t ht=>?_,fun t ht x hx=>?_,fun t ht x hx=>?_,fun t ht r w h1 h2 h3=>?_,fun c hc w=>?_⟩
 ·rw[hQ t ht]
  show([]++gt (begT g n) t).Pairwise _
  rw[hT t ht]
  exact thread_sorted _ _ _
 ·rw[hQ t ht]at hx;cases hx
 ·rw[hQ t ht]at hx;cases hx
 ·have h3:w∈gt (begT g n) t:=h3
  show r∈gt (begT g n) t
  rw[hT t ht]at h3 ⊢
  obtain⟨h4,h5,h6,h7⟩:=sec_wf hw (x:=r) (by rw[h1];exact h2)
  rw[h1]at h6
  have:=(thread_mem.1 h3).2.2
  have:=h6.1
  exact thread_mem.2 ⟨h4.1,h4.2.1,by have:=h6.1.2.2.2.2;omega⟩
 ·have hc':c<g.cells.toNat:=by
   have:(begO g.cells.toNat).length=g.cells.toNat:=by unfold begO;rw[List.length_map,List.length_range]
   have hc:c<(begO g.cells.toNat).length:=hc
   omega
  have hO:gt (begP g n).O c = [(c:Int)]:=by
   show gt (begO g.cells.toNat) c=_
   unfold begO
   rw[gt_mapR hc']
  rw[hO,List.mem_singleton]
  have hi:=hw.init c (by omega)
  constructor
  ·rintro rfl
   refine⟨⟨Int.natCast_nonneg _,by omega,?_⟩,?_,?_⟩
   ·rw[Int.toNat_natCast,hi]
    exact⟨rfl,by show(0:Int)≤c;omega,by show(c:Int)<g.cells;omega⟩
   ·rw[Int.toNat_natCast,hi];rfl
   ·rintro⟨t,ht,hx⟩
    rw[hQ t ht]at hx
    have hx:(c:Int)∈gt (begT g n) t:=hx
    rw[hT t ht]at hx
    have:=(thread_mem.1 hx).2.2
    rw[Int.toNat_natCast,hi]at this
    have:(-1:Int)=t:=this
    omega
  ·rintro⟨h1,h2,h3⟩
   by_cases e:w<g.cells
   ·have h4:=hw.init w.toNat (by have:=h1.1;omega)
    rw[h4]at h2
    have h2:(w.toNat:Int)=c:=h2
    have:=h1.1
    omega
   ·exfalso
    apply h3
    have h4:=hw.ev w.toNat (by have:=h1.1;omega) (by have:=h1.2.1;omega)
    have h5:=thrN_ge (l:=g.ev) (n:=g.ev.length) (i:=w.toNat) (by have:=h1.2.1;have:=h1.1;omega)
    have h6:=h4.1
    refine⟨(gt g.ev w.toNat).thread.toNat,by omega,List.mem_append_right _ ?_⟩
    show w∈gt (begT g n) _
    rw[hT _ (by omega)]
    exact thread_mem.2 ⟨h1.1,h1.2.1,by omega⟩
theorem beg_in (hth:thrN g.ev g.ev.length=n) {x:Int} (h0:0≤x) (hl:x<g.ev.length) (ht:0≤(gt g.ev x.toNat).thread):InL (begP g n) n x:=by
 have h5:=thrN_ge (l:=g.ev) (n:=g.ev.length) (i:=x.toNat) (by omega)
 refine⟨(gt g.ev x.toNat).thread.toNat,by omega,List.mem_append_right _ ?_⟩
 show x∈gt (begT g n) _
 unfold begT
 rw[gt_mapR (by omega)]
 exact thread_mem.2 ⟨h0,hl,by omega⟩
/-! ### The times -/
theorem cut_of {P:Nat→Prop}:∀m:Nat,(∀k,k<m→P (k+1)→P k)→¬P m→∃c,c≤m∧∀k,k≤m→(P k↔k<c)
 | 0,_,hm=>⟨0,Nat.le_refl _,fun k hk=>⟨fun h=>(hm (Nat.le_zero.1 hk ▸ h)).elim,fun h=>absurd h (Nat.not_lt_zero _)⟩⟩
 | m+1,ha,hm=>by
  by_cases h:P m
  ·refine⟨m+1,Nat.le_refl _,fun k hk=>⟨fun hp=>?_,fun hk'=>?_⟩⟩
   ·apply Classical.byContradiction
    intro h2
    have e:k=m+1:=by omega
    exact hm (by rw[←e];exact hp)
   ·have key:∀d,d≤m→P (m-d):=fun d=>by
     induction d with
     | zero=>exact fun _=>h
     | succ d ih =>
      intro hd
      have h3:=ih (by omega)
      exact ha (m-(d+1)) (by omega) (by rw[show m-(d+1)+1=m-d by omega];exact h3)
    have:=key (m-k) (by omega)
    rw[show m-(m-k)=k by omega]at this
    exact this
  ·obtain⟨c,h1,h2⟩:=cut_of (P:=P) m (fun k hk=>ha k (by omega)) h
   refine⟨c,by omega,fun k hk=>?_⟩
   by_cases e:k=m+1
   ·subst e
    exact⟨fun hp=>absurd hp hm,fun hc=>by omega⟩
   ·exact h2 k (by omega)
theorem Trn.gone (h:Stt g n s) (ht:Trn g n s s'):∃D,Gone g n s s' D:=by
 cases ht with
 | stay hT hQ hO hF=>exact⟨fun _=>False,fun x=>by unfold InL;rw[hT,hQ];exact⟨fun h=>⟨h,id⟩,fun h=>h.1⟩⟩
 | flush t w r ht hq hT hQ hO hF=>exact⟨_,gone_flush h ht hq hT hQ⟩
 | pair t x w r ht hx hq hs h0 hT hQ hO hF=>exact⟨_,gone_pair h ht hx hq hT hQ⟩
 | read t x r ht hx hs hk hT hQ hO hF=>exact⟨_,gone_one h ht hx hT hQ⟩
 | write t x r ht hx hs hk hT hQ hO hF=>exact⟨_,gone_write h ht hx hT hQ⟩
 | fence t x r ht hx hs hk hq hT hQ hO hF=>exact⟨_,gone_one h ht hx hT hQ⟩
structure Hist (g:Gr) (n m:Nat) (f:Nat→Ps) (fl:Int→Nat):Prop where
 st:∀k,k≤m→Stt g n (f k)
 tr:∀k,k<m→Trn g n (f k) (f (k+1))
 beg:f 0=begP g n
 fin:∀x,¬InL (f m) n x
 le:∀x,fl x≤m
 fl:∀x k,k≤m→(InL (f k) n x↔k<fl x)
theorem hist (hw:WF g b) (hn:n≤64) (hth:thrN g.ev g.ev.length=n) {r:Ps} (hr:RunP g ps n (begP g n) r):∃m f fl,Hist g n m f fl∧f m=r:=by
 obtain⟨m,f,f0,fm,hf,hnone⟩:=hr.hist
 have key:∀k,k≤m→Stt g n (f k)∧PhI n (f k):=by
  intro k
  induction k with
  | zero=>intro _;rw[f0];exact⟨.beg hw hn hth,trivial⟩
  | succ k ih =>
   intro hk
   obtain⟨h1,h2⟩:=ih (by omega)
   obtain⟨h3,h4,h5⟩:=next_tr hw h1.gp h2 (hf k (by omega))
   exact⟨h3.st hw h1 h4,h5⟩
 have htr:∀k,k<m→Trn g n (f k) (f (k+1)):=fun k hk=>(next_tr hw (key k (by omega)).1.gp (key k (by omega)).2 (hf k hk)).1
 have hfin:∀x,¬InL (f m) n x:=by
  rintro x ⟨t,ht,hx⟩
  obtain⟨h1,h2⟩:=end_nil (key m (Nat.le_refl _)).2 (by rw[fm];exact hnone) t ht
  rw[h1,h2]at hx
  cases hx
 have hc:∀x,∃c,c≤m∧∀k,k≤m→(InL (f k) n x↔k<c):=fun x=>cut_of m (fun k hk h=>by
  obtain⟨D,hD⟩:=(htr k hk).gone (key k (by omega)).1
  exact((hD x).1 h).1) (hfin x)
 exact⟨m,f,fun x=>Classical.choose (hc x),⟨fun k hk=>(key k hk).1,htr,f0,hfin,fun x=>(Classical.choose_spec (hc x)).1,fun x k hk=>(Classical.choose_spec (hc x)).2 k hk⟩,fm⟩
end
end Go.Proofs.YtkcdehffcddciaaGreatDoor.Vm
