/- Small functions of the two Plays: full fences, the second of a pair, the threads. -/
import Derived.Test.YtkcdehffcddciaaGreatDoorQ24
import Derived.Test.YtkcdehffcddciaaGreatDoorQ21
import Derived.Test.YtkcdehffcddciaaGreatDoorQ19
namespace Go.Proofs.YtkcdehffcddciaaGreatDoor.Vm
open Go Go.RowKit
def s36 : Sc:=(.seq (.region [Y 2 (.mv (.c (.b false))) []]) (.seq (.region [Y 3 (.mv (.t 0)) [0],Y 4 (.eq .int false (.t 3)
  (.c (.i .i64 5))) [3],Y 5 (.mv (.t 4)) [4],Z 5 false 6 (.mv (.t 0)) [0,5],Z 5 false 7 (.eq .int false (.t 6)
  (.c (.i .i64 15))) [6,5],Y 8 (.pk (.t 5) (.c (.b true)) (.t 7)) [5,7],Y 2 (.mv (.t 8)) [8]]) .ret))
set_option maxRecDepth 100000 in
theorem c36:fnB Tryz.prog 36=some (9,s36,[.t 2]):=by kernel_rfl
set_option maxHeartbeats 0 in
theorem pfull_spec {m:Bool} {h:H} {md:Int}:FX m Tryz.prog 36 [.i .i64 md] h fun v h'=>v=B (md=5∨md=15)∧h'=h:=by
 refine Fn.env c36 rfl ?_
 unfold s36
 refine go ?_
 repeat' ((first|refine wgd ?_ ?_|refine wgn ?_ ?_|refine wgb ?_ ?_|refine mgd ?_ ?_|refine mgn ?_ ?_|refine mgb ?_ ?_|refine cD ?_ ?_|refine cN ?_ ?_|refine cB ?_ ?_)<;>intro _<;>refine go ?_)
 all_goals refine ret_1 ⟨?_,rfl⟩
 all_goals first | exact B_t (by omega) | exact B_f (by omega) | exact B_d (by omega)
def secV (i:Int):List (Int × Int)→Int
 | []=>-1
 | p :: l=>if p.1=i then p.2 else secV i l
theorem secV_at {i:Int}:∀{l:List (Int × Int)} {k:Nat},k<l.length→(∀j,j<k→(gt l j).1≠i)→(gt l k).1=i→secV i l=(gt l k).2
 | p :: l,0,_,_,h=>by
  unfold secV
  rw[if_pos (show p.1=i from h)]
  rfl
 | p :: l,k+1,hk,hn,h=>by
  unfold secV
  rw[if_neg (show ¬p.1=i from hn 0 (Nat.zero_lt_succ _))]
  exact secV_at (l:=l) (Nat.lt_of_succ_lt_succ hk) (fun j hj=>hn (j+1) (Nat.succ_lt_succ hj)) h
theorem secV_no {i:Int}:∀{l:List (Int × Int)},(∀j,j<l.length→(gt l j).1≠i)→secV i l = -1
 | [],_=>rfl
 | p :: l,hn=>by
  unfold secV
  rw[if_neg (show ¬p.1=i from hn 0 (Nat.zero_lt_succ _))]
  exact secV_no (l:=l) fun j hj=>hn (j+1) (Nat.succ_lt_succ hj)
def thrN (l:List Ev_):Nat→Int
 | 0=>0
 | n+1=>max (thrN l n) ((gt l n).thread+1)
theorem thrN_le {l:List Ev_}:∀{n:Nat},(∀i,i<n→(gt l i).thread<64)→0≤thrN l n∧thrN l n≤64
 | 0,_=>⟨Int.le_refl _,by show(0:Int)≤64;omega⟩
 | n+1,h=>by
  have h1:=thrN_le (n:=n) fun i hi=>h i (by omega)
  have h2:=h n (by omega)
  show 0≤max (thrN l n) ((gt l n).thread+1)∧max (thrN l n) ((gt l n).thread+1)≤64
  omega
def looksN (ev:List Ev_) (loc:Int) (q:List Int) (d:Int):Nat→Int
 | 0=>d
 | k+1=>if (gt ev (gt q k).toNat).loc=loc then gt q k else looksN ev loc q d k
def looksV (ev:List Ev_) (Q O:List (List Int)) (t loc:Nat):Int:=looksN ev loc (gt Q t) (gt (gt O loc) ((gt O loc).length-1)) (gt Q t).length
/-! ### Lists of rows -/
def lenT (L:List (List Int)):Nat:=(L.map List.length).sum
theorem lenT_set:∀{L:List (List Int)} {i:Nat} {l:List Int},i<L.length→lenT (L.set i l)+(gt L i).length=lenT L+l.length
 | [],_,_,h=>absurd h (Nat.not_lt_zero _)
 | a :: L,0,l,_=>by
  show(l.length+lenT L)+a.length=(a.length+lenT L)+l.length
  omega
 | a :: L,i+1,l,h=>by
  have:=lenT_set (L:=L) (i:=i) (l:=l) (by simpa using h)
  show(a.length+lenT (L.set i l))+(gt L i).length=(a.length+lenT L)+l.length
  omega
theorem lenT_le:∀{L:List (List Int)} {i:Nat},i<L.length→(gt L i).length≤lenT L
 | [],_,h=>absurd h (Nat.not_lt_zero _)
 | a :: L,0,_=>by
  show a.length≤a.length+lenT L
  omega
 | a :: L,i+1,h=>by
  have:=lenT_le (L:=L) (i:=i) (by simpa using h)
  show(gt L i).length≤a.length+lenT L
  omega
theorem set_gt {α:Type} [Inhabited α] {L:List α} {i:Nat} (h:i<L.length):L.set i (gt L i)=L:=by
 refine gt_ext (by rw[List.length_set]) fun j hj=>?_
 rw[gt_set h]
 split
 ·rename_i e;rw[e]
 ·rfl
/-! ### A play -/
def flushP (ev:List Ev_) (Q O:List (List Int)) (t:Nat):List (List Int) × List (List Int):=match gt Q t with
 | []=>(Q,O)
 | w :: r=>(Q.set t r,O.set (gt ev w.toNat).loc.toNat (gt O (gt ev w.toNat).loc.toNat++[w]))
structure Sp where
 l:List Int
 done:Bool
 Q:List (List Int)
 O:List (List Int)
 F:List Int
def waits (ev:List Ev_) (rmw:List (Int × Int)) (x:Int):Prop:=0≤secV x rmw∨((gt ev x.toNat).kind=3∧((gt ev x.toNat).mode=5∨(gt ev x.toNat).mode=15))
instance (ev:List Ev_) (rmw:List (Int × Int)) (x:Int):Decidable (waits ev rmw x):=by unfold waits;exact inferInstance
def stepP (ev:List Ev_) (rmw:List (Int × Int)) (Q O:List (List Int)) (F:List Int) (t:Nat):List Int→Sp
  | []=>⟨[],false,Q,O,F⟩
  | x :: r=>if waits ev rmw x∧gt Q t≠[]then⟨x :: r,false,Q,O,F⟩else
    ⟨if 0≤secV x rmw then r.drop 1 else r,true,
     if 0≤secV x rmw∨(gt ev x.toNat).kind≠2 then Q else Q.set t (gt Q t++[x]),
     if 0≤secV x rmw then O.set (gt ev x.toNat).loc.toNat (gt O (gt ev x.toNat).loc.toNat++[secV x rmw])else O,
     if (gt ev x.toNat).kind=1 then F.set x.toNat (looksV ev Q O t (gt ev x.toNat).loc.toNat)else F⟩
theorem stepP_cons {ev:List Ev_} {rmw:List (Int × Int)} {Q O:List (List Int)} {F:List Int} {t:Nat} {x:Int} {r:List Int}:stepP ev rmw Q O F t (x :: r)=if waits ev rmw x∧gt Q t≠[]then⟨x :: r,false,Q,O,F⟩else
    ⟨if 0≤secV x rmw then r.drop 1 else r,true,
     if 0≤secV x rmw∨(gt ev x.toNat).kind≠2 then Q else Q.set t (gt Q t++[x]),
     if 0≤secV x rmw then O.set (gt ev x.toNat).loc.toNat (gt O (gt ev x.toNat).loc.toNat++[secV x rmw])else O,
     if (gt ev x.toNat).kind=1 then F.set x.toNat (looksV ev Q O t (gt ev x.toNat).loc.toNat)else F⟩:=rfl
inductive Ph where
 | pk (i:Nat)
 | dr (t:Nat)
 | en (t:Nat)
structure Ps where
 ph:Ph
 T:List (List Int)
 Q:List (List Int)
 O:List (List Int)
 F:List Int
def nextP (g:Gr) (ps:List Int) (n:Nat) (s:Ps):Option Ps:=match s.ph with
 | .pk i=>if i<ps.length∧0<n then
   if gt ps i % (2*n) % 2=0 then
    some ⟨.pk (i+1),s.T.set (gt ps i % (2*n) / 2).toNat (stepP g.ev g.rmw s.Q s.O s.F (gt ps i % (2*n) / 2).toNat (gt s.T (gt ps i % (2*n) / 2).toNat)).l,
     (stepP g.ev g.rmw s.Q s.O s.F (gt ps i % (2*n) / 2).toNat (gt s.T (gt ps i % (2*n) / 2).toNat)).Q,(stepP g.ev g.rmw s.Q s.O s.F (gt ps i % (2*n) / 2).toNat (gt s.T (gt ps i % (2*n) / 2).toNat)).O,(stepP g.ev g.rmw s.Q s.O s.F (gt ps i % (2*n) / 2).toNat (gt s.T (gt ps i % (2*n) / 2).toNat)).F⟩
   else some ⟨.pk (i+1),s.T,(flushP g.ev s.Q s.O (gt ps i % (2*n) / 2).toNat).1,(flushP g.ev s.Q s.O (gt ps i % (2*n) / 2).toNat).2,s.F⟩
  else some ⟨.dr 0,s.T,s.Q,s.O,s.F⟩
 | .dr t=>if t<n then
   if gt s.T t = []then some ⟨.dr (t+1),s.T,s.Q,s.O,s.F⟩
   else if (stepP g.ev g.rmw s.Q s.O s.F t (gt s.T t)).done=true then
    some ⟨.dr t,s.T.set t (stepP g.ev g.rmw s.Q s.O s.F t (gt s.T t)).l,(stepP g.ev g.rmw s.Q s.O s.F t (gt s.T t)).Q,(stepP g.ev g.rmw s.Q s.O s.F t (gt s.T t)).O,(stepP g.ev g.rmw s.Q s.O s.F t (gt s.T t)).F⟩
   else some ⟨.dr t,s.T,(flushP g.ev s.Q s.O t).1,(flushP g.ev s.Q s.O t).2,s.F⟩
  else some ⟨.en 0,s.T,s.Q,s.O,s.F⟩
 | .en t=>if t<n then
   if gt s.Q t = []then some ⟨.en (t+1),s.T,s.Q,s.O,s.F⟩
   else some ⟨.en t,s.T,(flushP g.ev s.Q s.O t).1,(flushP g.ev s.Q s.O t).2,s.F⟩
  else none
inductive RunP (g:Gr) (ps:List Int) (n:Nat):Ps→Ps→Prop
 | fin {s:Ps}:nextP g ps n s=none→RunP g ps n s s
 | go {s s' r:Ps}:nextP g ps n s=some s'→RunP g ps n s' r→RunP g ps n s r
def Leads (g:Gr) (ps:List Int) (n:Nat) (s s':Ps):Prop:=∀r,RunP g ps n s' r→RunP g ps n s r
theorem Leads.refl {g:Gr} {ps:List Int} {n:Nat} (s:Ps):Leads g ps n s s:=fun _ h=>h
theorem Leads.next {g:Gr} {ps:List Int} {n:Nat} {s s' s2:Ps} (h:Leads g ps n s s') (hn:nextP g ps n s'=some s2):Leads g ps n s s2:=fun r hr=>h r (.go hn hr)
section
variable {g:Gr} {ps:List Int} {n i t:Nat} {T Q O:List (List Int)} {F:List Int}
theorem next_pk0 (h:¬(i<ps.length∧0<n)):nextP g ps n ⟨.pk i,T,Q,O,F⟩=some ⟨.dr 0,T,Q,O,F⟩:=by
 show(if i<ps.length∧0<n then _ else _)=_
 rw[if_neg h]
theorem next_pks (h:i<ps.length∧0<n) (h2:gt ps i % (2*n) % 2=0) (ht:(gt ps i % (2*n) / 2).toNat=t):nextP g ps n ⟨.pk i,T,Q,O,F⟩=some ⟨.pk (i+1),T.set t (stepP g.ev g.rmw Q O F t (gt T t)).l,(stepP g.ev g.rmw Q O F t (gt T t)).Q,(stepP g.ev g.rmw Q O F t (gt T t)).O,(stepP g.ev g.rmw Q O F t (gt T t)).F⟩:=by
 subst ht
 show(if i<ps.length∧0<n then if gt ps i % (2*n) % 2=0 then _ else _ else _)=_
 rw[if_pos h,if_pos h2]
theorem next_pkf (h:i<ps.length∧0<n) (h2:¬gt ps i % (2*n) % 2=0) (ht:(gt ps i % (2*n) / 2).toNat=t):nextP g ps n ⟨.pk i,T,Q,O,F⟩=some ⟨.pk (i+1),T,(flushP g.ev Q O t).1,(flushP g.ev Q O t).2,F⟩:=by
 subst ht
 show(if i<ps.length∧0<n then if gt ps i % (2*n) % 2=0 then _ else _ else _)=_
 rw[if_pos h,if_neg h2]
theorem next_dr0 (h:¬t<n):nextP g ps n ⟨.dr t,T,Q,O,F⟩=some ⟨.en 0,T,Q,O,F⟩:=by
 show(if t<n then _ else _)=_
 rw[if_neg h]
theorem next_dre (h:t<n) (h2:gt T t = []):nextP g ps n ⟨.dr t,T,Q,O,F⟩=some ⟨.dr (t+1),T,Q,O,F⟩:=by
 show(if t<n then if gt T t = []then _ else _ else _)=_
 rw[if_pos h,if_pos h2]
theorem next_drs (h:t<n) (h2:gt T t≠[]) (h3:(stepP g.ev g.rmw Q O F t (gt T t)).done=true):nextP g ps n ⟨.dr t,T,Q,O,F⟩=some ⟨.dr t,T.set t (stepP g.ev g.rmw Q O F t (gt T t)).l,(stepP g.ev g.rmw Q O F t (gt T t)).Q,(stepP g.ev g.rmw Q O F t (gt T t)).O,(stepP g.ev g.rmw Q O F t (gt T t)).F⟩:=by
 show(if t<n then if gt T t = []then _ else if (stepP g.ev g.rmw Q O F t (gt T t)).done=true then _ else _ else _)=_
 rw[if_pos h,if_neg h2,if_pos h3]
theorem next_drf (h:t<n) (h2:gt T t≠[]) (h3:(stepP g.ev g.rmw Q O F t (gt T t)).done=false):nextP g ps n ⟨.dr t,T,Q,O,F⟩=some ⟨.dr t,T,(flushP g.ev Q O t).1,(flushP g.ev Q O t).2,F⟩:=by
 show(if t<n then if gt T t = []then _ else if (stepP g.ev g.rmw Q O F t (gt T t)).done=true then _ else _ else _)=_
 rw[if_pos h,if_neg h2,if_neg (by rw[h3];decide)]
theorem next_en0 (h:¬t<n):nextP g ps n ⟨.en t,T,Q,O,F⟩=none:=by
 show(if t<n then _ else _)=_
 rw[if_neg h]
theorem next_ene (h:t<n) (h2:gt Q t = []):nextP g ps n ⟨.en t,T,Q,O,F⟩=some ⟨.en (t+1),T,Q,O,F⟩:=by
 show(if t<n then if gt Q t = []then _ else _ else _)=_
 rw[if_pos h,if_pos h2]
theorem next_enf (h:t<n) (h2:gt Q t≠[]):nextP g ps n ⟨.en t,T,Q,O,F⟩=some ⟨.en t,T,(flushP g.ev Q O t).1,(flushP g.ev Q O t).2,F⟩:=by
 show(if t<n then if gt Q t = []then _ else _ else _)=_
 rw[if_pos h,if_neg h2]
end
/-! ### What holds all the way -/
def WrE (g:Gr) (x:Int):Prop:=0≤x∧x<g.ev.length∧(gt g.ev x.toNat).kind=2∧0≤(gt g.ev x.toNat).loc∧(gt g.ev x.toNat).loc<g.cells
structure Gp (g:Gr) (n:Nat) (T Q O:List (List Int)) (F:List Int):Prop where
 tl:T.length=n
 ql:Q.length=n
 ol:(O.length:Int)=g.cells
 fl:F.length=g.ev.length
 t:∀t,t<n→∃k,gt T t=(threadL g.ev t g.ev.length).drop k
 q:∀t,t<n→∀x∈gt Q t,WrE g x
 o:∀c,c<O.length→0<(gt O c).length∧∀x∈gt O c,WrE g x
 f:∀x,x<F.length→0≤gt F x∧gt F x<g.ev.length
 sz:lenT T+lenT Q+lenT O≤100000
theorem sec_mem {l:List (Int × Int)} {x:Int} (h:0≤secV x l):∃i,i<l.length∧(gt l i).1=x∧(gt l i).2=secV x l:=by
 induction l with
 | nil=>unfold secV at h;omega
 | cons p l ih =>
  unfold secV at h ⊢
  by_cases e:p.1=x
  ·rw[if_pos e]
   exact⟨0,Nat.zero_lt_succ _,e,rfl⟩
  ·rw[if_neg e]at h ⊢
   obtain⟨i,h1,h2,h3⟩:=ih h
   exact⟨i+1,Nat.succ_lt_succ h1,h2,h3⟩
theorem sec_wf {g:Gr} {b:Bool} (hw:WF g b) {x:Int} (h:0≤secV x g.rmw):IsE g x 1∧IsE g (secV x g.rmw) 2∧Nxt g x (secV x g.rmw)∧(gt g.ev x.toNat).loc=(gt g.ev (secV x g.rmw).toNat).loc:=by
 obtain⟨i,h1,h2,h3⟩:=sec_mem h
 obtain⟨-,h4,h5,h6,h7⟩:=hw.rmw i h1
 rw[h2,h3]at *
 exact⟨h4,h5,h6,h7⟩
theorem mem_gt {α:Type} [Inhabited α] {l:List α} {x:α} (h:x∈l):∃i,i<l.length∧gt l i=x:=by
 obtain⟨i,hi,e⟩:=List.getElem_of_mem h
 exact⟨i,hi,by rw[gt_lt hi];exact e⟩
theorem gt_mem {α:Type} [Inhabited α] {l:List α} {i:Nat} (h:i<l.length):gt l i∈l:=by
 rw[gt_lt h]
 exact List.getElem_mem h
theorem thread_mem {l:List Ev_} {t:Int} {n:Nat} {x:Int}:x∈threadL l t n↔0≤x∧x<n∧(gt l x.toNat).thread=t:=by
 unfold threadL
 rw[List.mem_map]
 constructor
 ·rintro⟨a,h1,rfl⟩
  rw[List.mem_filter,List.mem_range]at h1
  have h2:(gt l a).thread=t:=by simpa using h1.2
  exact⟨Int.natCast_nonneg _,by have:=h1.1;show(a:Int)<n;omega,h2⟩
 ·rintro⟨h1,h2,h3⟩
  refine⟨x.toNat,?_,Int.toNat_of_nonneg h1⟩
  rw[List.mem_filter,List.mem_range]
  exact⟨by omega,by simpa using h3⟩
theorem thread_sorted (l:List Ev_) (t:Int) (n:Nat):(threadL l t n).Pairwise (·< ·):=by
 unfold threadL
 rw[List.pairwise_map]
 refine(List.Pairwise.filter _ List.pairwise_lt_range).imp fun h=>?_
 show(_:Int)<_
 exact Int.ofNat_lt.2 h
theorem thread_next {g:Gr} {t:Int} {k:Nat} {x w:Int} {r:List Int} (hd:(threadL g.ev t g.ev.length).drop k=x :: r) (hx:Nxt g x w):∃r',r=w :: r':=by
 have hs:=thread_sorted g.ev t g.ev.length
 rw[←List.take_append_drop k (threadL g.ev t g.ev.length),hd]at hs
 have hmem:∀y,y∈threadL g.ev t g.ev.length↔y∈(threadL g.ev t g.ev.length).take k++x :: r:=fun y=>by rw[←hd,List.take_append_drop]
 rw[List.pairwise_append]at hs
 obtain⟨-,hs2,hs3⟩:=hs
 rw[List.pairwise_cons]at hs2
 obtain⟨⟨h1,h2,h3,h4,h5⟩,h6⟩:=hx
 have hxm:x∈threadL g.ev t g.ev.length:=(hmem x).2 (List.mem_append_right _ List.mem_cons_self)
 obtain⟨-,-,hxt⟩:=thread_mem.1 hxm
 have hwm:w∈threadL g.ev t g.ev.length:=thread_mem.2 ⟨by omega,h3,by rw[←h5,hxt]⟩
 have hwr:w∈r:=by
  rcases List.mem_append.1 ((hmem w).1 hwm)with h | h
  ·have:=hs3 w h x List.mem_cons_self
   omega
  ·rcases List.mem_cons.1 h with h | h
   ·omega
   ·exact h
 cases r with
 | nil=>cases hwr
 | cons y r' =>
  rcases List.mem_cons.1 hwr with h | h
  ·exact⟨r',by rw[h]⟩
  ·exfalso
   have h7:=(List.pairwise_cons.1 hs2.2).1 w h
   have h8:=hs2.1 y List.mem_cons_self
   have hym:y∈threadL g.ev t g.ev.length:=(hmem y).2 (List.mem_append_right _ (List.mem_cons_of_mem _ List.mem_cons_self))
   obtain⟨h9,h10,h11⟩:=thread_mem.1 hym
   have:=h6 y.toNat (by omega) (by omega)
   exact this (by rw[h11,hxt])
theorem ev_wf {g:Gr} {b:Bool} (hw:WF g b) {x:Int} {t:Nat} (hx:x∈threadL g.ev t g.ev.length):0≤x∧x<g.ev.length∧((gt g.ev x.toNat).kind=1∨(gt g.ev x.toNat).kind=2∨(gt g.ev x.toNat).kind=3)∧((gt g.ev x.toNat).kind=3∨(0≤(gt g.ev x.toNat).loc∧(gt g.ev x.toNat).loc<g.cells)):=by
 obtain⟨h1,h2,h3⟩:=thread_mem.1 hx
 refine⟨h1,h2,?_⟩
 have h4:g.cells≤x:=by
  apply Classical.byContradiction
  intro h
  have h5:=hw.init x.toNat (by omega)
  rw[h5]at h3
  have:(first_ b (x.toNat:Int)).thread = -1:=rfl
  omega
 have h5:=hw.ev x.toNat (by omega) (by omega)
 obtain⟨-,-,h6,h7⟩:=h5
 unfold ModeOk at h6
 refine⟨by omega,?_⟩
 rcases h7 with h | h
 ·exact .inl h.1
 ·exact .inr h.2
section
variable {g:Gr} {n:Nat} {T Q O:List (List Int)} {F:List Int} {b:Bool} {t:Nat}
theorem looksN_mem {ev:List Ev_} {loc:Int} {q:List Int} {d:Int}:∀k,looksN ev loc q d k=d∨∃j,j<k∧looksN ev loc q d k=gt q j
 | 0=>.inl rfl
 | k+1=>by
  unfold looksN
  split
  ·exact .inr ⟨k,Nat.lt_succ_self _,rfl⟩
  ·rcases looksN_mem k with h | ⟨j,h1,h2⟩
   ·exact .inl h
   ·exact .inr ⟨j,by omega,h2⟩
theorem Gp.looks (hg:Gp g n T Q O F) (ht:t<n) {c:Nat} (hc:c<O.length):WrE g (looksV g.ev Q O t c):=by
 unfold looksV
 obtain⟨h0,h1⟩:=hg.o c hc
 rcases looksN_mem (ev:=g.ev) (loc:=c) (q:=gt Q t) (d:=gt (gt O c) ((gt O c).length-1)) (gt Q t).length with h | ⟨j,h2,h⟩
 ·rw[h]
  exact h1 _ (gt_mem (by omega))
 ·rw[h]
  exact hg.q t ht _ (gt_mem h2)
theorem flushP_nil {ev:List Ev_} (h:gt Q t = []):flushP ev Q O t=(Q,O):=by
 unfold flushP
 rw[h]
theorem flushP_cons {ev:List Ev_} {w:Int} {r:List Int} (h:gt Q t=w :: r):flushP ev Q O t=(Q.set t r,O.set (gt ev w.toNat).loc.toNat (gt O (gt ev w.toNat).loc.toNat++[w])):=by
 unfold flushP
 rw[h]
theorem Gp.o_app (hg:Gp g n T Q O F) {w:Int} (hw:WrE g w) {c:Nat} (hc:c<O.length):∀x,x<(O.set c (gt O c++[w])).length→0<(gt (O.set c (gt O c++[w])) x).length∧∀y∈gt (O.set c (gt O c++[w])) x,WrE g y:=by
 intro x hx
 rw[List.length_set]at hx
 rw[gt_set hc]
 by_cases e:x=c
 ·rw[if_pos e]
  refine⟨by simp,fun y hy=>?_⟩
  rcases List.mem_append.1 hy with h | h
  ·exact(hg.o c hc).2 y h
  ·rw[List.mem_singleton.1 h];exact hw
 ·rw[if_neg e];exact hg.o x hx
theorem Gp.flush (hg:Gp g n T Q O F) (ht:t<n):Gp g n T (flushP g.ev Q O t).1 (flushP g.ev Q O t).2 F:=by
 cases hq:gt Q t with
 | nil=>rw[flushP_nil hq];exact hg
 | cons w r =>
  rw[flushP_cons hq]
  have hw:=hg.q t ht w (by rw[hq];exact List.mem_cons_self)
  have hc:(gt g.ev w.toNat).loc.toNat<O.length:=by have:=hg.ol;have:=hw.2.2.2;omega
  have h1:=lenT_set (L:=Q) (i:=t) (l:=r) (by rw[hg.ql];exact ht)
  have h2:=lenT_set (L:=O) (l:=gt O (gt g.ev w.toNat).loc.toNat++[w]) hc
  rw[hq,List.length_cons]at h1
  rw[List.length_append,List.length_singleton]at h2
  exact { hg with
   ql:=by rw[List.length_set];exact hg.ql
   ol:=by rw[List.length_set];exact hg.ol
   q:=fun s hs x hx=>by
    rw[gt_set (by rw[hg.ql];exact ht)]at hx
    by_cases e:s=t
    ·rw[if_pos e]at hx;exact hg.q t ht x (by rw[hq];exact List.mem_cons_of_mem _ hx)
    ·rw[if_neg e]at hx;exact hg.q s hs x hx
   o:=hg.o_app hw hc
   sz:=by have:=hg.sz;show lenT T+lenT (Q.set t r)+lenT (O.set _ _)≤100000;omega }
theorem Gp.row (hg:Gp g n T Q O F) (ht:t<n) {x:Int} {r:List Int} (hT:gt T t=x :: r):x∈threadL g.ev t g.ev.length:=by
 obtain⟨k,hk⟩:=hg.t t ht
 rw[hk]at hT
 exact List.mem_of_mem_drop (by rw[hT];exact List.mem_cons_self)
theorem Gp.next (hg:Gp g n T Q O F) (ht:t<n) {x w:Int} {r:List Int} (hT:gt T t=x :: r) (hx:Nxt g x w):∃r',r=w :: r':=by
 obtain⟨k,hk⟩:=hg.t t ht
 rw[hk]at hT
 exact thread_next hT hx
theorem Gp.setT (hg:Gp g n T Q O F) (ht:t<n) {x:Int} {r r':List Int} (hT:gt T t=x :: r) (m:Nat) (hr:r'=r.drop m):∀s,s<n→∃k,gt (T.set t r') s=(threadL g.ev s g.ev.length).drop k:=by
 intro s hs
 rw[gt_set (by rw[hg.tl];exact ht)]
 by_cases e:s=t
 ·rw[if_pos e,e]
  obtain⟨k,hk⟩:=hg.t t ht
  refine⟨k+1+m,?_⟩
  rw[hT]at hk
  rw[hr,←List.drop_drop,←List.drop_drop,←hk]
  rfl
 ·rw[if_neg e];exact hg.t s hs
theorem Gp.setF (hg:Gp g n T Q O F) {x:Nat} {w:Int} (hw:WrE g w):∀y,y<(F.set x w).length→0≤gt (F.set x w) y∧gt (F.set x w) y<g.ev.length:=by
 intro y hy
 rw[List.length_set]at hy
 by_cases hx:x<F.length
 ·rw[gt_set hx]
  by_cases e:y=x
  ·rw[if_pos e];exact⟨hw.1,hw.2.1⟩
  ·rw[if_neg e];exact hg.f y hy
 ·rw[List.set_eq_of_length_le (by omega)];exact hg.f y hy
theorem stepP_nil {ev:List Ev_} {rmw:List (Int × Int)}:stepP ev rmw Q O F t []=⟨[],false,Q,O,F⟩:=rfl
theorem stepP_wait {ev:List Ev_} {rmw:List (Int × Int)} {x:Int} {r:List Int} (h:waits ev rmw x∧gt Q t≠[]):stepP ev rmw Q O F t (x :: r)=⟨x :: r,false,Q,O,F⟩:=by
 rw[stepP_cons,if_pos h]
theorem stepP_pair {ev:List Ev_} {rmw:List (Int × Int)} {x:Int} {r:List Int} (hq:gt Q t = []) (hs:0≤secV x rmw) (hk:(gt ev x.toNat).kind=1):stepP ev rmw Q O F t (x :: r)=⟨r.drop 1,true,Q,O.set (gt ev x.toNat).loc.toNat (gt O (gt ev x.toNat).loc.toNat++[secV x rmw]),F.set x.toNat (looksV ev Q O t (gt ev x.toNat).loc.toNat)⟩:=by
 rw[stepP_cons,if_neg (fun h=>h.2 hq),if_pos hs,if_pos (.inl hs),if_pos hs,if_pos hk]
theorem stepP_read {ev:List Ev_} {rmw:List (Int × Int)} {x:Int} {r:List Int} (hs:¬0≤secV x rmw) (hk:(gt ev x.toNat).kind=1):stepP ev rmw Q O F t (x :: r)=⟨r,true,Q,O,F.set x.toNat (looksV ev Q O t (gt ev x.toNat).loc.toNat)⟩:=by
 rw[stepP_cons,if_neg (fun h=>by rcases h.1 with h | h <;> omega),if_neg hs,if_pos (.inr (by omega)),if_neg hs,if_pos hk]
theorem stepP_write {ev:List Ev_} {rmw:List (Int × Int)} {x:Int} {r:List Int} (hs:¬0≤secV x rmw) (hk:(gt ev x.toNat).kind=2):stepP ev rmw Q O F t (x :: r)=⟨r,true,Q.set t (gt Q t++[x]),O,F⟩:=by
 rw[stepP_cons,if_neg (fun h=>by rcases h.1 with h | h <;> omega),if_neg hs,if_neg (by omega),if_neg hs,if_neg (by omega)]
theorem stepP_fence {ev:List Ev_} {rmw:List (Int × Int)} {x:Int} {r:List Int} (hs:¬0≤secV x rmw) (hk:(gt ev x.toNat).kind=3) (hn:¬(waits ev rmw x∧gt Q t≠[])):stepP ev rmw Q O F t (x :: r)=⟨r,true,Q,O,F⟩:=by
 rw[stepP_cons,if_neg hn,if_neg hs,if_pos (.inr (by omega)),if_neg hs,if_neg (by omega)]
theorem Gp.step (hg:Gp g n T Q O F) (hw:WF g b) (ht:t<n):Gp g n (T.set t (stepP g.ev g.rmw Q O F t (gt T t)).l) (stepP g.ev g.rmw Q O F t (gt T t)).Q (stepP g.ev g.rmw Q O F t (gt T t)).O (stepP g.ev g.rmw Q O F t (gt T t)).F:=by
 have htl:t<T.length:=by rw[hg.tl];exact ht
 cases hT:gt T t with
 | nil =>
  rw[stepP_nil]
  have:T.set t []=T:=by rw[←hT];exact set_gt htl
  rw[this]
  exact hg
 | cons x r =>
  by_cases hwt:waits g.ev g.rmw x∧gt Q t≠[]
  ·rw[stepP_wait hwt]
   have:T.set t (x :: r)=T:=by rw[←hT];exact set_gt htl
   rw[this]
   exact hg
  ·obtain⟨h1,h2,h3,h4⟩:=ev_wf hw (hg.row ht hT)
   have hlT:∀l:List Int,l.length≤r.length→lenT (T.set t l)+1≤lenT T:=fun l hl=>by
    have:=lenT_set (L:=T) (i:=t) (l:=l) htl
    rw[hT,List.length_cons]at this
    omega
   have hsz:=hg.sz
   by_cases hs:0≤secV x g.rmw
   ·obtain⟨h5,h6,h7,h8⟩:=sec_wf hw hs
    have hq:gt Q t = []:=Classical.byContradiction fun h=>hwt ⟨.inl hs,h⟩
    have hk:(gt g.ev x.toNat).kind=1:=h5.2.2
    have h9:0≤(gt g.ev x.toNat).loc∧(gt g.ev x.toNat).loc<g.cells:=by omega
    have hc:(gt g.ev x.toNat).loc.toNat<O.length:=by have:=hg.ol;omega
    have hww:WrE g (secV x g.rmw):=⟨h6.1,h6.2.1,h6.2.2,by rw[←h8];exact h9.1,by rw[←h8];exact h9.2⟩
    rw[stepP_pair hq hs hk]
    have h10:=hlT (r.drop 1) (by rw[List.length_drop];omega)
    have h11:=lenT_set (L:=O) (l:=gt O (gt g.ev x.toNat).loc.toNat++[secV x g.rmw]) hc
    rw[List.length_append,List.length_singleton]at h11
    exact { hg with
     tl:=by rw[List.length_set];exact hg.tl
     ol:=by rw[List.length_set];exact hg.ol
     fl:=by rw[List.length_set];exact hg.fl
     t:=hg.setT ht hT 1 rfl
     o:=hg.o_app hww hc
     f:=hg.setF (hg.looks ht hc)
     sz:=by show lenT (T.set t (r.drop 1))+lenT Q+lenT (O.set _ _)≤100000;omega }
   ·have h10:=hlT r (Nat.le_refl _)
    rcases h3 with hk | hk | hk
    ·rw[stepP_read hs hk]
     have hc:(gt g.ev x.toNat).loc.toNat<O.length:=by have:=hg.ol;omega
     exact { hg with
      tl:=by rw[List.length_set];exact hg.tl
      fl:=by rw[List.length_set];exact hg.fl
      t:=hg.setT ht hT 0 rfl
      f:=hg.setF (hg.looks ht hc)
      sz:=by show lenT (T.set t r)+lenT Q+lenT O≤100000;omega }
    ·rw[stepP_write hs hk]
     have hql:t<Q.length:=by rw[hg.ql];exact ht
     have h11:=lenT_set (L:=Q) (i:=t) (l:=gt Q t++[x]) hql
     rw[List.length_append,List.length_singleton]at h11
     exact { hg with
      tl:=by rw[List.length_set];exact hg.tl
      ql:=by rw[List.length_set];exact hg.ql
      t:=hg.setT ht hT 0 rfl
      q:=fun s hs y hy=>by
       have hy:y∈gt (Q.set t (gt Q t++[x])) s:=hy
       rw[gt_set hql]at hy
       by_cases e:s=t
       ·rw[if_pos e]at hy
        rcases List.mem_append.1 hy with h | h
        ·exact hg.q t ht y h
        ·rw[List.mem_singleton.1 h]
         exact⟨h1,h2,hk,by omega,by omega⟩
       ·rw[if_neg e]at hy;exact hg.q s hs y hy
      sz:=by show lenT (T.set t r)+lenT (Q.set t (gt Q t++[x]))+lenT O≤100000;omega }
    ·rw[stepP_fence hs hk hwt]
     exact { hg with
      tl:=by rw[List.length_set];exact hg.tl
      t:=hg.setT ht hT 0 rfl
      sz:=by show lenT (T.set t r)+lenT Q+lenT O≤100000;omega }
theorem wait_some (hT:gt T t≠[]) (hd:(stepP g.ev g.rmw Q O F t (gt T t)).done=false):gt Q t≠[]:=by
 cases hx:gt T t with
 | nil=>exact absurd hx hT
 | cons x r =>
  rw[hx]at hd
  rw[stepP_cons]at hd
  by_cases h:waits g.ev g.rmw x∧gt Q t≠[]
  ·exact h.2
  ·rw[if_neg h]at hd;cases hd
theorem step_same (hd:(stepP g.ev g.rmw Q O F t (gt T t)).done=false):(stepP g.ev g.rmw Q O F t (gt T t))=⟨gt T t,false,Q,O,F⟩:=by
 cases hx:gt T t with
 | nil=>rfl
 | cons x r =>
  rw[hx]at hd
  rw[stepP_cons]at hd ⊢
  by_cases h:waits g.ev g.rmw x∧gt Q t≠[]
  ·rw[if_pos h]
  ·rw[if_neg h]at hd;cases hd
end
def playG (g:Gr) (O:List (List Int)) (F:List Int):Gr:={ g with
 ev:=(List.range g.ev.length).map fun r=>if (gt g.ev r).kind=1 then { gt g.ev r with val:=(gt g.ev (gt F r).toNat).val }else gt g.ev r
 rf:=((List.range g.ev.length).filter fun r=>decide ((gt g.ev r).kind=1)).map fun r=>(gt F r,(r:Int))
 co:=O }
structure Th (h:H) (v:V):Prop where
 is:∀b o n cap kn sz,v=.sl b o n cap kn sz→(∃e hi p c,h.t.get b=some (.cells e hi p c)∧o≤hi)∨∃g e hi c,h.t.get b=some (.ro g e hi c)∧o≤hi
theorem Th.ns {h:H}:Th h .ns:=⟨fun _ _ _ _ _ _ h=>by cases h⟩
theorem Th.i {h:H} {k:IntKind} {n:Int}:Th h (.i k n):=⟨fun _ _ _ _ _ _ h=>by cases h⟩
theorem Th.kp {h h':H} {v:V} (k:Kp h h') (hw:Wf h) (ht:Th h v):Th h' v:=⟨fun b o n cap kn sz e=>by
 rcases ht.is b o n cap kn sz e with⟨e,hi,p,c,h1,h2⟩ | ⟨g,e,hi,c,h1,h2⟩
 ·exact .inl ⟨e,hi,p,c,by rw[k.old.get b (hw b _ h1)];exact h1,h2⟩
 ·exact .inr ⟨g,e,hi,c,by rw[k.old.get b (hw b _ h1)];exact h1,h2⟩⟩
theorem Th.load {β:Type} {h:H} {b o n cap sz:Nat} {kn:Bool} (ht:Th h (.sl b o n cap kn sz)) (K:List V→Option β):loadRow h b o 0 K=K []:=by
 unfold loadRow rowR
 rcases ht.is b o n cap kn sz rfl with⟨e,hi,p,c,h1,h2⟩ | ⟨g,e,hi,c,h1,h2⟩
 ·rw[h1,ob_s]
  show bb (Nat.ble (o+0) hi) (ob (some []) K)=_
  rw[ble_t (by omega),bb_t,ob_s]
 ·rw[h1,ob_s]
  show bb (Nat.ble (o+0) hi) (ob (some []) K)=_
  rw[ble_t (by omega),bb_t,ob_s]
section
variable {α:Type} [Inhabited α] {h h':H} {v:V} {sz n0:Nat} {ty:TypeId} {c:α→Nat→V} {l:List α}
theorem Gw.th (hg:Gw h n0 v sz ty c l):Th h v:=⟨fun b o n cap kn s e=>by
 rcases hg.own with⟨rfl,_⟩ | ⟨b',o',rfl,h1,h2,h3⟩
 ·cases e
 ·injection e with e1 e2
  subst e1 e2
  obtain⟨ct,h4⟩:=row_some h3
  exact .inl ⟨_,_,_,_,h4,Nat.le_add_right _ _⟩⟩
theorem Ar.th (hg:Ar h n0 v sz ty c l):Th h v:=⟨fun b o n cap kn s e=>by
 obtain⟨b',p,rfl,h1,h2,h3⟩:=hg.own
 injection e with e1 e2
 subst e1 e2
 obtain⟨ct,h4⟩:=row_some h3
 exact .inl ⟨_,_,_,_,h4,Nat.zero_le _⟩⟩
theorem Gw.ne {β:Type} [Inhabited β] {v':V} {sz' n0':Nat} {ty':TypeId} {c':β→Nat→V} {l':List β} (hg:Gw h n0 v sz ty c l) (hg':Gw h n0' v' sz' ty' c' l') (ht:ty≠ty') (k:Nat) (hk:v.blk=some k):v'.blk≠some k:=fun hk'=>by
 rcases hg.own with⟨rfl,_⟩ | ⟨b,o,rfl,h1,h2,h3⟩
 ·cases hk
 ·rcases hg'.own with⟨rfl,_⟩ | ⟨b',o',rfl,h1',h2',h3'⟩
  ·cases hk'
  ·injection hk with hk
   injection hk' with hk'
   subst hk hk'
   rw[h3]at h3'
   injection h3' with h3'
   injection h3' with h4
   exact ht h4
end
theorem Pr.mo_hi {P:Nat→Prop} {h h' h2:H} {b:Option Nat} (p:Pr P h h') (m:Mo h' h2 b) (hb:∀k,b=some k→P k∨h.next≤k):Pr P h h2:=⟨Nat.le_trans p.le m.le,fun k hk hn=>(m.get k (Nat.lt_of_lt_of_le hk p.le) fun e=>by
 rcases hb k e with h1 | h1
 ·exact hn h1
 ·omega).trans (p.get k hk hn),fun hw=>m.wf (p.wf hw)⟩
structure Nil_ (gl:List V) (g:Gr):Prop where
 is:∀ve vrf vco vrmw vad vda vct,gl = [.i .i64 g.cells,ve,vrf,vco,vrmw,vad,vda,vct]→(g.ev = []→ve=.ns)∧(g.rmw = []→vrmw=.ns)∧(g.addr = []→vad=.ns)∧(g.data = []→vda=.ns)∧(g.ctrl = []→vct=.ns)
structure RoN {α:Type} [Inhabited α] (h:H) (n0:Nat) (v:V) (sz:Nat) (c:α→Nat→V) (l:List α):Prop where
 ro:Ro h v sz c l
 lo:0<l.length→n0≤v.ba
section
variable {α:Type} [Inhabited α] {h h':H} {v:V} {sz n0:Nat} {ty:TypeId} {c:α→Nat→V} {l:List α}
theorem Gw.ron (hg:Gw h n0 v sz ty c l):RoN h n0 v sz c l:=⟨hg.ro,fun h0=>by
 rcases hg.own with⟨_,rfl⟩ | ⟨b,o,rfl,h1,_⟩
 ·exact absurd h0 (Nat.lt_irrefl _)
 ·exact h1⟩
theorem Gx.ron (hg:Gx h n0 v sz ty c l):RoN h n0 v sz c l:=⟨hg.ro,fun h0=>by
 rcases hg.own with⟨_,rfl⟩ | ⟨b,o,rfl,h1,_⟩ | ⟨b,rfl,_,h1,_⟩
 ·exact absurd h0 (Nat.lt_irrefl _)
 ·exact h1
 ·exact h1⟩
theorem Ar.ron (hg:Ar h n0 v sz ty c l):RoN h n0 v sz c l:=⟨hg.ro,fun _=>hg.blk.2.1⟩
theorem RoN.low {n1:Nat} (hg:RoN h n0 v sz c l) (hn:n1≤n0):RoN h n1 v sz c l:=⟨hg.ro,fun h0=>Nat.le_trans hn (hg.lo h0)⟩
theorem RoN.nil:RoN h n0 .ns sz c []:=⟨.nil,fun h0=>absurd h0 (Nat.lt_irrefl _)⟩
theorem RoN.pr {P:Nat→Prop} (p:Pr P h h') (hw:Wf h) (hsz:0<sz) (hg:RoN h n0 v sz c l) (hP:∀k,P k→k<n0):RoN h' n0 v sz c l:=⟨p.ro hw hsz hg.ro fun h0 hp=>by have:=hP _ hp;have:=hg.lo h0;omega,hg.lo⟩
end
structure GrAtN (h:H) (n0:Nat) (gl:List V) (g:Gr):Prop where
 is:∃ve vrf vco vrmw vad vda vct,gl = [.i .i64 g.cells,ve,vrf,vco,vrmw,vad,vda,vct]∧RoN h n0 ve 5 ecell g.ev∧RoN h n0 vrf 2 pcell g.rf∧(∃vs:List V,RoN h n0 vco 1 vcell vs∧vs.length=g.co.length∧∀i,i<g.co.length→RoN h n0 (gt vs i) 1 icell (gt g.co i))∧RoN h n0 vrmw 2 pcell g.rmw∧RoN h n0 vad 2 pcell g.addr∧RoN h n0 vda 2 pcell g.data∧RoN h n0 vct 2 pcell g.ctrl
theorem GrAtN.at_ {h:H} {n0:Nat} {gl:List V} {g:Gr} (hg:GrAtN h n0 gl g):GrAt h gl g:=by
 obtain⟨ve,vrf,vco,vrmw,vad,vda,vct,h0,h1,h2,⟨vs,h3,h4,h5⟩,h6,h7,h8,h9⟩:=hg.is
 exact⟨ve,vrf,vco,vrmw,vad,vda,vct,h0,h1.ro,h2.ro,⟨vs,h3.ro,h4,fun i hi=>(h5 i hi).ro⟩,h6.ro,h7.ro,h8.ro,h9.ro⟩
theorem GrAtN.pr {h h':H} {P:Nat→Prop} {n0:Nat} {gl:List V} {g:Gr} (p:Pr P h h') (hw:Wf h) (hg:GrAtN h n0 gl g) (hP:∀k,P k→k<n0):GrAtN h' n0 gl g:=by
 obtain⟨ve,vrf,vco,vrmw,vad,vda,vct,h0,h1,h2,⟨vs,h3,h4,h5⟩,h6,h7,h8,h9⟩:=hg.is
 exact⟨ve,vrf,vco,vrmw,vad,vda,vct,h0,h1.pr p hw (by decide) hP,h2.pr p hw (by decide) hP,⟨vs,h3.pr p hw (by decide) hP,h4,fun i hi=>(h5 i hi).pr p hw (by decide) hP⟩,h6.pr p hw (by decide) hP,h7.pr p hw (by decide) hP,h8.pr p hw (by decide) hP,h9.pr p hw (by decide) hP⟩
theorem GrAtN.low {h:H} {n0 n1:Nat} {gl:List V} {g:Gr} (hg:GrAtN h n0 gl g) (hn:n1≤n0):GrAtN h n1 gl g:=by
 obtain⟨ve,vrf,vco,vrmw,vad,vda,vct,h0,h1,h2,⟨vs,h3,h4,h5⟩,h6,h7,h8,h9⟩:=hg.is
 exact⟨ve,vrf,vco,vrmw,vad,vda,vct,h0,h1.low hn,h2.low hn,⟨vs,h3.low hn,h4,fun i hi=>(h5 i hi).low hn⟩,h6.low hn,h7.low hn,h8.low hn,h9.low hn⟩
theorem eone (x:Ev_):allOne (upto (ecell x) 5 0)=true:=rfl
theorem pone (x:Int × Int):allOne (upto (pcell x) 2 0)=true:=rfl
theorem ione' (x:Int):allOne (upto (icell x) 1 0)=true:=rfl
structure Li (h:H) (n0:Nat) (v:V) (x:Int):Prop where
 is:∃b,v=.sl b 0 1 1 true 1∧n0≤b∧b<h.next
 ro:Ro h v 1 icell [x]
theorem Li.mo {h h':H} {n0:Nat} {v:V} {x:Int} {b:Option Nat} (m:Mo h h' b) (hl:Li h n0 v x) (hb:∀k,b=some k→k<n0):Li h' n0 v x:=by
 obtain⟨⟨b',rfl,h1,h2⟩,h3⟩:=hl
 refine⟨⟨b',rfl,h1,Nat.lt_of_lt_of_le h2 m.le⟩,h3.ln,h3.cs.mo m fun _=>⟨h2,fun e=>?_⟩⟩
 have:=hb _ e
 have:(V.sl b' 0 1 1 true 1).ba=b':=rfl
 omega
theorem Li.low {h:H} {n0 n1:Nat} {v:V} {x:Int} (hl:Li h n0 v x) (hn:n1≤n0):Li h n1 v x:=by
 obtain⟨⟨b',h0,h1,h2⟩,h3⟩:=hl
 exact⟨⟨b',h0,Nat.le_trans hn h1,h2⟩,h3⟩
end Go.Proofs.YtkcdehffcddciaaGreatDoor.Vm
