/- Rows that may be appended to, literals among them; what a set of blocks leaves as it is. -/
import Derived.Test.YtkcdehffcddciaaGreatDoorQ20
import Derived.Test.YtkcdehffcddciaaGreatDoorQ19
import Derived.Test.YtkcdehffcddciaaGreatDoorProg
import Derived.KernelRfl
namespace Go.Proofs.YtkcdehffcddciaaGreatDoor.Vm
open Go Go.RowKit
noncomputable section
structure Pr (P:Nat→Prop) (h h':H):Prop where
 le:h.next≤h'.next
 get:∀k,k<h.next→¬P k→h'.t.get k=h.t.get k
 wf:Wf h→Wf h'
section
variable {P:Nat→Prop} {h h' h2:H}
theorem Pr.refl (P:Nat→Prop) (h:H):Pr P h h:=⟨Nat.le_refl _,fun _ _ _=>rfl,id⟩
theorem Pr.of_mo {b:Option Nat} (m:Mo h h' b) (hb:∀k,b=some k→P k):Pr P h h':=⟨m.le,fun k hk hn=>m.get k hk fun e=>hn (hb k e),m.wf⟩
theorem Pr.of_kp (k:Kp h h'):Pr P h h':=⟨k.le,fun j hj _=>k.old.get j hj,k.wf⟩
theorem Pr.trans (a:Pr P h h') (b:Pr P h' h2):Pr P h h2:=⟨Nat.le_trans a.le b.le,fun k hk hn=>(b.get k (Nat.lt_of_lt_of_le hk a.le) hn).trans (a.get k hk hn),fun hw=>b.wf (a.wf hw)⟩
theorem Pr.sub {P':Nat→Prop} (a:Pr P h h') (hs:∀k,k<h.next→P k→P' k):Pr P' h h':=⟨a.le,fun k hk hn=>a.get k hk fun hp=>hn (hs k hk hp),a.wf⟩
theorem Pr.cell (a:Pr P h h') {b o:Nat} (hb:b<h.next) (hP:¬P b):h'.cell b o=h.cell b o:=by
 unfold H.cell
 rw[a.get b hb hP]
theorem Pr.row (a:Pr P h h') {b:Nat} (hb:b<h.next) (hP:¬P b):h'.row b=h.row b:=by
 unfold H.row
 rw[a.get b hb hP]
theorem Pr.bx {b:Nat} {l:List V} (a:Pr P h h') (hb:Bx h b l) (hl:b<h.next) (hP:¬P b):Bx h' b l:=⟨fun k v hk=>⟨by
 rw[a.cell hl hP]
 exact(hb.eq k v hk).eq⟩⟩
theorem Pr.ob {n0 b:Nat} {ty:TypeId} {l:List V} (a:Pr P h h') (ho:Ob h n0 b ty l) (hP:¬P b):Ob h' n0 b ty l:=⟨ho.lo,Nat.lt_of_lt_of_le ho.hi a.le,by
 obtain⟨p,hp⟩:=ho.row
 exact⟨p,by rw[a.row ho.hi hP];exact hp⟩,a.bx ho.bx ho.hi hP⟩
theorem Pr.mp {n0 b:Nat} {k:IntKind} {ml:List (Int × V)} (a:Pr P h h') (hm:Mp h n0 b k ml) (hP:¬P b):Mp h' n0 b k ml:=⟨hm.lo,Nat.lt_of_lt_of_le hm.hi a.le,by
 have:=hm.at_
 unfold MapAt at this ⊢
 rw[a.get b hm.hi hP]
 exact this⟩
theorem Pr.kp {h0:H} (a:Pr P h h') (k:Kp h0 h) (hP:∀k,P k→h0.next≤k):Kp h0 h':=⟨⟨Nat.le_trans k.le a.le,fun j hj=>(a.get j (Nat.lt_of_lt_of_le hj k.le) fun hp=>by have:=hP j hp;omega).trans (k.old.get j hj)⟩,fun hw=>a.wf (k.wf hw)⟩
section
variable {α:Type} [Inhabited α] {v:V} {sz n0:Nat} {ty:TypeId} {c:α→Nat→V} {l:List α}
theorem Pr.ar (a:Pr P h h') (hg:Ar h n0 v sz ty c l) (hP:¬P v.ba):Ar h' n0 v sz ty c l:=by
 obtain⟨b',p,rfl,h1,h2,h3⟩:=hg.own
 exact⟨hg.ln,⟨fun i k hi hk=>⟨(a.cell (b:=b') h2 hP).trans (hg.cs.eq i k hi hk).eq⟩⟩,b',p,rfl,h1,Nat.lt_of_lt_of_le h2 a.le,by rw[a.row h2 hP];exact h3⟩
theorem Pr.ro (a:Pr P h h') (hw:Wf h) (_hsz:0<sz) (hr:Ro h v sz c l) (hP:0<l.length→¬P v.ba):Ro h' v sz c l:=⟨hr.ln,⟨fun i k hi hk=>⟨by
 have h1:=hr.cs.eq i k hi hk
 rw[a.cell (h1.lt hw) (hP (by omega))]
 exact h1.eq⟩⟩⟩
structure Gx (h:H) (n0:Nat) (v:V) (sz:Nat) (ty:TypeId) (c:α→Nat→V) (l:List α):Prop where
 ln:Ln v sz l.length
 cs:Cs h v sz l.length fun i k=>c (gt l i) k
 own:(v=.ns∧l = [])∨(∃b o,v=.sl b o l.length l.length false sz∧n0≤b∧b<h.next∧h.row b=some (ty,o+l.length*sz,true))∨∃b,v=.sl b 0 l.length l.length true sz∧0<l.length∧n0≤b∧b<h.next
theorem Gx.ro (hg:Gx h n0 v sz ty c l):Ro h v sz c l:=⟨hg.ln,hg.cs⟩
theorem Gw.gx (hg:Gw h n0 v sz ty c l):Gx h n0 v sz ty c l:=⟨hg.ln,hg.cs,hg.own.imp id .inl⟩
theorem Gx.blk (hg:Gx h n0 v sz ty c l):∀k,V.blk v=some k→n0≤k∧k<h.next:=fun k hk=>by
 rcases hg.own with⟨rfl,_⟩ | ⟨b,o,rfl,h1,h2,_⟩ | ⟨b,rfl,_,h1,h2⟩
 ·cases hk
 ·injection hk with hk
  subst hk
  exact⟨h1,h2⟩
 ·injection hk with hk
  subst hk
  exact⟨h1,h2⟩
theorem Gx.low {n1:Nat} (hg:Gx h n0 v sz ty c l) (hn:n1≤n0):Gx h n1 v sz ty c l:=⟨hg.ln,hg.cs,by
 rcases hg.own with h1 | ⟨b,o,h1,h2,h3⟩ | ⟨b,h1,h2,h3,h4⟩
 ·exact .inl h1
 ·exact .inr (.inl ⟨b,o,h1,Nat.le_trans hn h2,h3⟩)
 ·exact .inr (.inr ⟨b,h1,h2,Nat.le_trans hn h3,h4⟩)⟩
theorem Gx.mo {b:Option Nat} (hg:Gx h n0 v sz ty c l) (m:Mo h h' b) (hb:∀k,V.blk v=some k→b≠some k):Gx h' n0 v sz ty c l:=by
 rcases hg.own with⟨rfl,rfl⟩ | ⟨b',o,rfl,h1,h2,h3⟩ | ⟨b',rfl,h0,h1,h2⟩
 ·exact Gw.gx .nil
 ·have hne:=hb b' rfl
  exact⟨hg.ln,hg.cs.mo m fun _=>⟨h2,hne⟩,.inr (.inl ⟨b',o,rfl,h1,Nat.lt_of_lt_of_le h2 m.le,by rw[m.row h2 hne];exact h3⟩)⟩
 ·have hne:=hb b' rfl
  exact⟨hg.ln,hg.cs.mo m fun _=>⟨h2,hne⟩,.inr (.inr ⟨b',rfl,h0,h1,Nat.lt_of_lt_of_le h2 m.le⟩)⟩
theorem Pr.gx (a:Pr P h h') (hg:Gx h n0 v sz ty c l) (hP:∀k,v.blk=some k→¬P k):Gx h' n0 v sz ty c l:=by
 rcases hg.own with⟨rfl,rfl⟩ | ⟨b',o,rfl,h1,h2,h3⟩ | ⟨b',rfl,h0,h1,h2⟩
 ·exact Gw.gx .nil
 ·have hne:=hP b' rfl
  exact⟨hg.ln,⟨fun i k hi hk=>⟨(a.cell (b:=b') h2 hne).trans (hg.cs.eq i k hi hk).eq⟩⟩,.inr (.inl ⟨b',o,rfl,h1,Nat.lt_of_lt_of_le h2 a.le,by rw[a.row h2 hne];exact h3⟩)⟩
 ·have hne:=hP b' rfl
  exact⟨hg.ln,⟨fun i k hi hk=>⟨(a.cell (b:=b') h2 hne).trans (hg.cs.eq i k hi hk).eq⟩⟩,.inr (.inr ⟨b',rfl,h0,h1,Nat.lt_of_lt_of_le h2 a.le⟩)⟩
theorem Pr.gw (a:Pr P h h') (hg:Gw h n0 v sz ty c l) (hP:∀k,v.blk=some k→¬P k):Gw h' n0 v sz ty c l:=by
 rcases hg.own with⟨rfl,rfl⟩ | ⟨b',o,rfl,h1,h2,h3⟩
 ·exact .nil
 ·have hne:=hP b' rfl
  exact⟨hg.ln,⟨fun i k hi hk=>⟨(a.cell (b:=b') h2 hne).trans (hg.cs.eq i k hi hk).eq⟩⟩,.inr ⟨b',o,rfl,h1,Nat.lt_of_lt_of_le h2 a.le,by rw[a.row h2 hne];exact h3⟩⟩
theorem allOne_flat {α:Type} {c:α→Nat→V} {sz:Nat} (h1:∀x:α,allOne (upto (c x) sz 0)=true):∀l:List α,allOne (flat c sz l)=true
 | []=>rfl
 | x :: l=>allOne_append (h1 x) (allOne_flat h1 l)
theorem Gx.app {e:Env} {x y:Rd} {by_ b:Nat} {rows:List α} (a:α) (hg:Gx h n0 v sz ty c rows) (hx:x.lk e=some v) (hy:y.lk e=some (.sl b 0 1 1 true sz)) (hrw:Rw h b (1*sz) 0 (upto (c a) sz 0)) (h1:∀x:α,allOne (upto (c x) sz 0)=true) (hsz:0<sz) (hb:(2*rows.length+1)*by_≤4294967296) (hn0:n0≤h.next) :
  ∃v' h',Od (.ap ty sz by_ x y) e h v' h'∧v'.blk=some h.next∧Gw h' n0 v' sz ty c (rows++[a])∧Mo h h' v.blk:=by
 have hlen:rows.length+1=(rows++[a]).length:=by simp
 have key:Gw h n0 v sz ty c rows→∃v' h',Od (.ap ty sz by_ x y) e h v' h'∧v'.blk=some h.next∧Gw h' n0 v' sz ty c (rows++[a])∧Mo h h' v.blk:=by
  intro hg
  obtain⟨h',h2,h3,h4,h5,h6⟩:=od_ap (by_:=by_) hg.grow hx hy Nat.one_pos hsz hrw (h1 a) hb
  have h4':Grow h' (.sl h.next 0 (rows++[a]).length (rows++[a]).length false sz) sz ty (flat c sz (rows++[a])) (rows++[a]).length:=by
   rw[←hlen,flatG_app]
   show Grow h' _ sz ty (flat c sz rows++(upto (c a) sz 0++[])) _
   rw[List.append_nil]
   exact h4
  have hv:(.sl h.next 0 (rows.length+1) (rows.length+1) false sz:V)=.sl h.next 0 (rows++[a]).length (rows++[a]).length false sz:=by rw[hlen]
  rw[hv]at h2
  exact⟨_,h',h2,rfl,Gw.of_grow h4' hn0 (by rw[h3];omega),by rw[h3];omega,fun k hk hne=>h5 k (by omega) hne,h6⟩
 rcases hg.own with h2 | ⟨b',o,h2,h3,h4,h5⟩ | ⟨b',rfl,h2,h3,h4⟩
 ·exact key ⟨hg.ln,hg.cs,.inl h2⟩
 ·exact key ⟨hg.ln,hg.cs,.inr ⟨b',o,h2,h3,h4,h5⟩⟩
 ·have hfl:=allOne_flat (sz:=sz) h1 (rows++[a])
  have hfe:flat c sz (rows++[a])=flat c sz rows++upto (c a) sz 0:=by
   rw[flatG_app]
   show flat c sz rows++(upto (c a) sz 0++[])=_
   rw[List.append_nil]
  have h6:=od_apk (e:=e) (h:=h) (x:=x) (y:=y) (ty:=ty) (by_:=by_) hx hy h2 Nat.one_pos hsz (Nat.lt_succ_self _) hg.ro.rows hrw (by rw[←hfe];exact hfl) (by rw[show rows.length+1+rows.length=2*rows.length+1 by omega];exact hb)
  rw[←hfe,hlen]at h6
  have hk:Mo h (h.new ty (flat c sz (rows++[a])) true) (V.blk (.sl b' 0 rows.length rows.length true sz)):=Mo.of_kp kp_new _
  refine⟨_,_,h6,rfl,⟨.sl (Nat.le_refl _),⟨fun i k hi hk=>⟨?_⟩⟩,.inr ⟨h.next,0,rfl,hn0,Nat.lt_succ_self _,?_⟩⟩,hk⟩
  ·show(h.new ty (flat c sz (rows++[a])) true).cell h.next (0+i*sz+k)=_
   rw[new_cell,if_pos rfl,Nat.zero_add,flatG_get _ _ _ hi hk]
  ·rw[new_row,if_pos rfl,flatG_len,Nat.zero_add]
theorem em_gx {C:Cx} {d j by_ b:Nat} {us:List Nat} {lm:List (So × Kd)} {e:Env} {hs:H} {st:List (Option Nat × H)} {ps:List Pd} {Q:Env→H→Prop} {rows:List α} {x y:Rd} (a:α)
  (hg:Gx h n0 v sz ty c rows) (hx:x.lk e=some v) (hy:y.lk e=some (.sl b 0 1 1 true sz)) (hrw:Rw h b (1*sz) 0 (upto (c a) sz 0)) (h1:∀x:α,allOne (upto (c x) sz 0)=true) (hsz:0<sz) (hb:(2*rows.length+1)*by_≤4294967296) (hn0:n0≤h.next)
  (hl:∀h',Mo h h' v.blk→Lv j h'.t ps) (hr:∀v' h',v'.blk=some h.next→Gw h' n0 v' sz ty c (rows++[a])→Mo h h' v.blk→Em C lm (j+1) ((d,v') :: e) h' h' ((some j,h') :: st) ps Q):Em C ((⟨none,some d,.ap ty sz by_ x y,us⟩,.e) :: lm) j e hs h st ps Q:=by
 obtain⟨v',h',h2,h3,h4,h5⟩:=hg.app a hx hy hrw h1 hsz hb hn0
 exact em_e .n h2 (hl h' h5) (hr v' h' h3 h4 h5)
def tlV (v:V) (m:Nat):V:=match v with
 | .sl b o n cap kn sz=>.sl b (if kn=true∧cap=m then o else o+m*sz) (n-m) (cap-m) kn sz
 | v=>v
theorem Ro.tl {m:Nat} (hr:Ro h v sz c l) (hm:m≤l.length):Ro h (tlV v m) sz c (l.drop m):=by
 rcases hr.ln.is with⟨rfl,h0⟩ | ⟨b,o,cap,kn,rfl,h1⟩
 ·have:l = []:=List.length_eq_zero_iff.1 h0
  subst this
  rw[List.drop_nil]
  exact .nil
 ·refine⟨by rw[List.length_drop];exact .sl (by omega),⟨fun i k hi hk=>?_⟩⟩
  rw[List.length_drop]at hi
  have:=hr.cs.eq (m+i) k (by omega) hk
  rw[gt_drop]
  show Ce h b ((if kn=true∧cap=m then o else o+m*sz)+i*sz+k) _
  rw[if_neg (by omega),show o+m*sz+i*sz+k=o+(m+i)*sz+k by rw[Nat.add_mul];omega]
  exact this
theorem Gw.tl {x:α} {l:List α} (hg:Gw h n0 v sz ty c (x :: l)):Gw h n0 (tlV v 1) sz ty c l∧(tlV v 1).blk=v.blk:=by
 rcases hg.own with⟨_,h⟩ | ⟨b,o,rfl,h1,h2,h3⟩
 ·cases h
 ·have e:tlV (.sl b o (x :: l).length (x :: l).length false sz) 1=.sl b (o+sz) l.length l.length false sz:=by
   show V.sl b (if false=true∧(x :: l).length=1 then o else o+1*sz) ((x :: l).length-1) ((x :: l).length-1) false sz=_
   rw[if_neg (fun h=>by cases h.1),Nat.one_mul,List.length_cons,Nat.add_sub_cancel]
  rw[e]
  refine⟨⟨.sl (Nat.le_refl _),⟨fun i k hi hk=>?_⟩,.inr ⟨b,o+sz,rfl,h1,h2,?_⟩⟩,rfl⟩
  ·have:=hg.cs.eq (i+1) k (by rw[List.length_cons];omega) hk
   show Ce h b (o+sz+i*sz+k) _
   rw[show o+sz+i*sz+k=o+(i+1)*sz+k by rw[Nat.add_mul];omega]
   exact this
  ·rw[h3,List.length_cons,Nat.add_mul,Nat.one_mul,show o+(l.length*sz+sz)=o+sz+l.length*sz by omega]
theorem od_tl {e:Env} {x y:Rd} {n m:Nat} (hl:Ln v sz n) (hm:m≤n) (hx:x.lk e=some v) (hy:y.lk e=some (.i .i64 (m:Int))):Od (.s2 sz x (some y) none) e h (tlV v m) h:=by
 rcases hl.is with⟨rfl,rfl⟩ | ⟨b,o,cap,kn,rfl,h1⟩
 ·obtain rfl:m=0:=by omega
  exact od_s2n hx (.at hy) .no
 ·exact od_s2 hx (.at hy) .no hm h1
end
end
theorem em_arQ {α:Type} [Inhabited α] {C:Cx} {n0 sz i j:Nat} {us:List Nat} {lm:List (So × Kd)} {e:Env} {hs h:H} {st:List (Option Nat × H)} {ps:List Pd} {Q:Env→H→Prop} {v w:V} {ty:TypeId} {c:α→Nat→V} {l:List α} {a xr:Rd} {vs:List V} {g:Option (Nat × Bool)} (x:α) (ho:Ar h n0 v sz ty c l) (hi:i<l.length) (hr:∀h1,Ar h1 n0 v sz ty c (l.set i x)→Mo h h1 (some v.ba)→Em C lm (j+1) e h1 h1 ((some j,h1) :: st) ps Q)
  (hw:Gd e g true:=by first | exact .n | exact .tt rfl | exact .ff rfl) (ha:a.lk e=some (.p v.ba (v.of+i*sz)):=by exact rfl) (hx:xr.lk e=some w:=by exact rfl) (hv:w.cells=vs:=by exact rfl) (hu:vs=upto (c x) sz 0:=by exact rfl) (h1:allOne vs=true:=by exact rfl) (hl:∀h1,Mo h h1 (some v.ba)→Lv j h1.t ps):Em C ((⟨g,none,.st a xr sz,us⟩,.e) :: lm) j e hs h st ps Q:=by
 have h3:=ho.st (x:=x) hi hu
 obtain⟨b,p,hb,h4,h5,h6⟩:=ho.own
 have hle:v.of+i*sz+sz≤l.length*sz:=by
  have:(i+1)*sz≤l.length*sz:=Nat.mul_le_mul_right _ hi
  rw[Nat.add_mul]at this
  rw[hb]
  show 0+i*sz+sz≤_
  omega
 have h7:h.row v.ba=some (ty,l.length*sz,p):=by rw[hb];exact h6
 exact em_eu hw (od_st ha hx hv (by rw[hu,upto_len]) h1 h7 hle) (hl _ h3.2) (hr _ h3.1 h3.2)
structure Mac {α:Type} [Inhabited α] (h:H) (n0:Nat) (P:Nat→Prop) (vq vo:V) (tq to_:TypeId) (sz:Nat) (ty:TypeId) (c:α→Nat→V) (Q O:List (List α)) (qs os:List V):Prop where
 q:Ar h n0 vq 1 tq vcell qs
 o:Ar h n0 vo 1 to_ vcell os
 ql:qs.length=Q.length
 ol:os.length=O.length
 qr:∀t,t<Q.length→Gw h n0 (gt qs t) sz ty c (gt Q t)
 or_:∀x,x<O.length→Gx h n0 (gt os x) sz ty c (gt O x)
 hd:vq.ba≠vo.ba
 qa:∀t,t<Q.length→∀k,(gt qs t).blk=some k→k≠vq.ba∧k≠vo.ba∧P k
 oa:∀x,x<O.length→∀k,(gt os x).blk=some k→k≠vq.ba∧k≠vo.ba∧P k
 qq:∀s t,s<Q.length→t<Q.length→s≠t→∀k,(gt qs s).blk=some k→(gt qs t).blk≠some k
 oo:∀s t,s<O.length→t<O.length→s≠t→∀k,(gt os s).blk=some k→(gt os t).blk≠some k
 qo:∀s t,s<Q.length→t<O.length→∀k,(gt qs s).blk=some k→(gt os t).blk≠some k
 pq:P vq.ba
 po:P vo.ba
section
variable {α:Type} [Inhabited α] {h h':H} {n0:Nat} {P:Nat→Prop} {vq vo:V} {tq to_:TypeId} {sz:Nat} {ty:TypeId} {c:α→Nat→V} {Q O:List (List α)} {qs os:List V}
theorem Mac.kp (k:Kp h h') (hm:Mac h n0 P vq vo tq to_ sz ty c Q O qs os):Mac h' n0 P vq vo tq to_ sz ty c Q O qs os :=
 { hm with q:=hm.q.mo (Mo.of_kp k none) (fun e=>by cases e),o:=hm.o.mo (Mo.of_kp k none) (fun e=>by cases e),qr:=fun t ht=>(hm.qr t ht).mo (Mo.of_kp k none) (fun _ _ e=>by cases e),or_:=fun t ht=>(hm.or_ t ht).mo (Mo.of_kp k none) (fun _ _ e=>by cases e) }
theorem Mac.mo {b:Option Nat} (m:Mo h h' b) (hm:Mac h n0 P vq vo tq to_ sz ty c Q O qs os) (hb:∀k,b=some k→¬P k):Mac h' n0 P vq vo tq to_ sz ty c Q O qs os :=
 { hm with q:=hm.q.mo m (fun e=>hb _ e hm.pq),o:=hm.o.mo m (fun e=>hb _ e hm.po),qr:=fun t ht=>(hm.qr t ht).mo m (fun k hk e=>hb k e (hm.qa t ht k hk).2.2),or_:=fun t ht=>(hm.or_ t ht).mo m (fun k hk e=>hb k e (hm.oa t ht k hk).2.2) }
theorem Mac.setQ {t : Nat} {v' : V} {l : List α} (hm : Mac h n0 P vq vo tq to_ sz ty c Q O qs os) (ht : t < Q.length) (p : Pr (fun k => k = vq.ba ∨ (gt qs t).blk = some k) h h') (hA : Ar h' n0 vq 1 tq vcell (qs.set t v')) (hG : Gw h' n0 v' sz ty c l)
    (hf : ∀ k, v'.blk = some k → (gt qs t).blk = some k ∨ (h.next ≤ k ∧ P k)) : Mac h' n0 P vq vo tq to_ sz ty c (Q.set t l) O (qs.set t v') os ∧ Pr P h h' := by
  have l0 := hm.ql
  have lo1 := hm.q.blk.2.2
  have lo2 := hm.o.blk.2.2
  have hqa := hm.qa t ht
  have hnew : ∀ k, v'.blk = some k → k ≠ vq.ba ∧ k ≠ vo.ba ∧ P k := fun k hk => by
    rcases hf k hk with e | ⟨h1, h2⟩
    · exact hqa k e
    · exact ⟨by omega, by omega, h2⟩
  refine ⟨?_, p.sub fun k _ hk => by
    rcases hk with e | e
    · rw [e]; exact hm.pq
    · exact (hqa k e).2.2⟩
  exact
  { q := hA
    o := p.ar hm.o fun hk => by
      rcases hk with e | e
      · exact hm.hd e.symm
      · exact (hqa _ e).2.1 rfl
    ql := by rw [List.length_set, List.length_set]; exact hm.ql
    ol := hm.ol
    qr := fun s hs => by
      rw [List.length_set] at hs
      rw [gt_set (by omega), gt_set ht]
      by_cases e : s = t
      · rw [if_pos e, if_pos e]; exact hG
      · rw [if_neg e, if_neg e]
        exact p.gw (hm.qr s hs) fun k hk e2 => by
          rcases e2 with e2 | e2
          · exact (hm.qa s hs k hk).1 e2
          · exact hm.qq s t hs ht e k hk e2
    or_ := fun s hs => p.gx (hm.or_ s hs) fun k hk e2 => by
      rcases e2 with e2 | e2
      · exact (hm.oa s hs k hk).1 e2
      · exact hm.qo t s ht hs k e2 hk
    hd := hm.hd
    qa := fun s hs k hk => by
      rw [List.length_set] at hs
      rw [gt_set (by omega)] at hk
      by_cases e : s = t
      · rw [if_pos e] at hk; exact hnew k hk
      · rw [if_neg e] at hk; exact hm.qa s hs k hk
    oa := hm.oa
    qq := fun s r hs hr hne k hk => by
      rw [List.length_set] at hs hr
      rw [gt_set (by omega)] at hk ⊢
      by_cases e : s = t
      · rw [if_pos e] at hk
        rw [if_neg (by omega)]
        rcases hf k hk with e2 | ⟨h1, h2⟩
        · exact hm.qq t r ht hr (by omega) k e2
        · exact fun e2 => by have := ((hm.qr r hr).blk k e2).2; omega
      · rw [if_neg e] at hk
        by_cases e3 : r = t
        · rw [if_pos e3]
          intro e4
          rcases hf k e4 with e2 | ⟨h1, h2⟩
          · exact hm.qq s t hs ht e k hk e2
          · have := ((hm.qr s hs).blk k hk).2; omega
        · rw [if_neg e3]; exact hm.qq s r hs hr hne k hk
    oo := hm.oo
    qo := fun s r hs hr k hk => by
      rw [List.length_set] at hs
      rw [gt_set (by omega)] at hk
      by_cases e : s = t
      · rw [if_pos e] at hk
        rcases hf k hk with e2 | ⟨h1, h2⟩
        · exact hm.qo t r ht hr k e2
        · exact fun e2 => by have := ((hm.or_ r hr).blk k e2).2; omega
      · rw [if_neg e] at hk; exact hm.qo s r hs hr k hk
    pq := hm.pq
    po := hm.po }
theorem Mac.setO {t : Nat} {v' : V} {l : List α} (hm : Mac h n0 P vq vo tq to_ sz ty c Q O qs os) (ht : t < O.length) (p : Pr (fun k => k = vo.ba ∨ (gt os t).blk = some k) h h') (hA : Ar h' n0 vo 1 to_ vcell (os.set t v')) (hG : Gx h' n0 v' sz ty c l)
    (hf : ∀ k, v'.blk = some k → (gt os t).blk = some k ∨ (h.next ≤ k ∧ P k)) : Mac h' n0 P vq vo tq to_ sz ty c Q (O.set t l) qs (os.set t v') ∧ Pr P h h' := by
  have l0 := hm.ol
  have lo1 := hm.q.blk.2.2
  have lo2 := hm.o.blk.2.2
  have hoa := hm.oa t ht
  have hnew : ∀ k, v'.blk = some k → k ≠ vq.ba ∧ k ≠ vo.ba ∧ P k := fun k hk => by
    rcases hf k hk with e | ⟨h1, h2⟩
    · exact hoa k e
    · exact ⟨by omega, by omega, h2⟩
  refine ⟨?_, p.sub fun k _ hk => by
    rcases hk with e | e
    · rw [e]; exact hm.po
    · exact (hoa k e).2.2⟩
  exact
  { q := p.ar hm.q fun hk => by
      rcases hk with e | e
      · exact hm.hd e
      · exact (hoa _ e).1 rfl
    o := hA
    ql := hm.ql
    ol := by rw [List.length_set, List.length_set]; exact hm.ol
    qr := fun s hs => p.gw (hm.qr s hs) fun k hk e2 => by
      rcases e2 with e2 | e2
      · exact (hm.qa s hs k hk).2.1 e2
      · exact hm.qo s t hs ht k hk e2
    or_ := fun s hs => by
      rw [List.length_set] at hs
      rw [gt_set (by omega), gt_set ht]
      by_cases e : s = t
      · rw [if_pos e, if_pos e]; exact hG
      · rw [if_neg e, if_neg e]
        exact p.gx (hm.or_ s hs) fun k hk e2 => by
          rcases e2 with e2 | e2
          · exact (hm.oa s hs k hk).2.1 e2
          · exact hm.oo s t hs ht e k hk e2
    hd := hm.hd
    qa := hm.qa
    oa := fun s hs k hk => by
      rw [List.length_set] at hs
      rw [gt_set (by omega)] at hk
      by_cases e : s = t
      · rw [if_pos e] at hk; exact hnew k hk
      · rw [if_neg e] at hk; exact hm.oa s hs k hk
    qq := hm.qq
    oo := fun s r hs hr hne k hk => by
      rw [List.length_set] at hs hr
      rw [gt_set (by omega)] at hk ⊢
      by_cases e : s = t
      · rw [if_pos e] at hk
        rw [if_neg (by omega)]
        rcases hf k hk with e2 | ⟨h1, h2⟩
        · exact hm.oo t r ht hr (by omega) k e2
        · exact fun e2 => by have := ((hm.or_ r hr).blk k e2).2; omega
      · rw [if_neg e] at hk
        by_cases e3 : r = t
        · rw [if_pos e3]
          intro e4
          rcases hf k e4 with e2 | ⟨h1, h2⟩
          · exact hm.oo s t hs ht e k hk e2
          · have := ((hm.or_ s hs).blk k hk).2; omega
        · rw [if_neg e3]; exact hm.oo s r hs hr hne k hk
    qo := fun s r hs hr k hk => by
      rw [List.length_set] at hr
      rw [gt_set (by omega)]
      by_cases e : r = t
      · rw [if_pos e]
        intro e4
        rcases hf k e4 with e2 | ⟨h1, h2⟩
        · exact hm.qo s t hs ht k hk e2
        · have := ((hm.qr s hs).blk k hk).2; omega
      · rw [if_neg e]; exact hm.qo s r hs hr k hk
    pq := hm.pq
    po := hm.po }
theorem Mac.putQ {h1 h2 h3:H} {t:Nat} {v':V} {l:List α} (hm:Mac h n0 P vq vo tq to_ sz ty c Q O qs os) (ht:t<Q.length) (k1:Kp h h1) (m2:Mo h1 h2 (gt qs t).blk) (m3:Mo h2 h3 (some vq.ba)) (hA:Ar h3 n0 vq 1 tq vcell (qs.set t v')) (hG:Gw h3 n0 v' sz ty c l)
  (hf:∀k,v'.blk=some k→(gt qs t).blk=some k∨(h.next≤k∧P k)):Mac h3 n0 P vq vo tq to_ sz ty c (Q.set t l) O (qs.set t v') os∧Pr P h h3 :=
 hm.setQ ht ((Pr.of_kp k1).trans ((Pr.of_mo m2 fun k e=>.inr e).trans (Pr.of_mo m3 fun k e=>.inl (by injection e with e;exact e.symm)))) hA hG hf
theorem Mac.putO {h1 h2 h3:H} {t:Nat} {v':V} {l:List α} (hm:Mac h n0 P vq vo tq to_ sz ty c Q O qs os) (ht:t<O.length) (k1:Kp h h1) (m2:Mo h1 h2 (gt os t).blk) (m3:Mo h2 h3 (some vo.ba)) (hA:Ar h3 n0 vo 1 to_ vcell (os.set t v')) (hG:Gx h3 n0 v' sz ty c l)
  (hf:∀k,v'.blk=some k→(gt os t).blk=some k∨(h.next≤k∧P k)):Mac h3 n0 P vq vo tq to_ sz ty c Q (O.set t l) qs (os.set t v')∧Pr P h h3 :=
 hm.setO ht ((Pr.of_kp k1).trans ((Pr.of_mo m2 fun k e=>.inr e).trans (Pr.of_mo m3 fun k e=>.inl (by injection e with e;exact e.symm)))) hA hG hf
theorem Mac.chP {P':Nat→Prop} (hm:Mac h n0 P vq vo tq to_ sz ty c Q O qs os) (hs:∀k,k<h.next→P k→P' k):Mac h n0 P' vq vo tq to_ sz ty c Q O qs os :=
 { hm with qa:=fun t ht k hk=>⟨(hm.qa t ht k hk).1,(hm.qa t ht k hk).2.1,hs k ((hm.qr t ht).blk k hk).2 (hm.qa t ht k hk).2.2⟩,oa:=fun t ht k hk=>⟨(hm.oa t ht k hk).1,(hm.oa t ht k hk).2.1,hs k ((hm.or_ t ht).blk k hk).2 (hm.oa t ht k hk).2.2⟩,pq:=hs _ hm.q.blk.2.2 hm.pq,po:=hs _ hm.o.blk.2.2 hm.po }
theorem Mac.pr {P':Nat→Prop} (p:Pr P' h h') (hm:Mac h n0 P vq vo tq to_ sz ty c Q O qs os) (hb:∀k,P k→¬P' k):Mac h' n0 P vq vo tq to_ sz ty c Q O qs os :=
 { hm with q:=p.ar hm.q (hb _ hm.pq),o:=p.ar hm.o (hb _ hm.po),qr:=fun t ht=>p.gw (hm.qr t ht) fun k hk=>hb k (hm.qa t ht k hk).2.2,or_:=fun t ht=>p.gx (hm.or_ t ht) fun k hk=>hb k (hm.oa t ht k hk).2.2 }
end
end
structure Th (h:H) (v:V):Prop where
 is:∀b o n cap kn sz,v=.sl b o n cap kn sz→(∃e hi p c,h.t.get b=some (.cells e hi p c)∧o≤hi)∨∃g e hi c,h.t.get b=some (.ro g e hi c)∧o≤hi
theorem Th.ns {h:H}:Th h .ns:=⟨fun _ _ _ _ _ _ h=>by cases h⟩
theorem Th.i {h:H} {k:IntKind} {n:Int}:Th h (.i k n):=⟨fun _ _ _ _ _ _ h=>by cases h⟩
theorem Th.kp {h h':H} {v:V} (k:Kp h h') (hw:Wf h) (ht:Th h v):Th h' v:=⟨fun b o n cap kn sz e=>by
 rcases ht.is b o n cap kn sz e with⟨e,hi,p,c,h1,h2⟩ | ⟨g,e,hi,c,h1,h2⟩
 ·exact .inl ⟨e,hi,p,c,by rw[k.old.get b (hw b _ h1)];exact h1,h2⟩
 ·exact .inr ⟨g,e,hi,c,by rw[k.old.get b (hw b _ h1)];exact h1,h2⟩⟩
theorem Th.load {β:Type} {h:H} {b o n cap sz:Nat} {kn:Bool} (ht:Th h (.sl b o n cap kn sz)) (K:List V→Option β):loadRow h b o 0 K=K []:=by
 unfold loadRow rowR
 rcases ht.is b o n cap kn sz rfl with⟨e,hi,p,c,h1,h2⟩ | ⟨g,e,hi,c,h1,h2⟩
 ·rw[h1,ob_s]
  show bb (Nat.ble (o+0) hi) (ob (some []) K)=_
  rw[ble_t (by omega),bb_t,ob_s]
 ·rw[h1,ob_s]
  show bb (Nat.ble (o+0) hi) (ob (some []) K)=_
  rw[ble_t (by omega),bb_t,ob_s]
section
variable {α:Type} [Inhabited α] {h h':H} {v:V} {sz n0:Nat} {ty:TypeId} {c:α→Nat→V} {l:List α}
theorem Gw.th (hg:Gw h n0 v sz ty c l):Th h v:=⟨fun b o n cap kn s e=>by
 rcases hg.own with⟨rfl,_⟩ | ⟨b',o',rfl,h1,h2,h3⟩
 ·cases e
 ·injection e with e1 e2
  subst e1 e2
  obtain⟨ct,h4⟩:=row_some h3
  exact .inl ⟨_,_,_,_,h4,Nat.le_add_right _ _⟩⟩
theorem Ar.th (hg:Ar h n0 v sz ty c l):Th h v:=⟨fun b o n cap kn s e=>by
 obtain⟨b',p,rfl,h1,h2,h3⟩:=hg.own
 injection e with e1 e2
 subst e1 e2
 obtain⟨ct,h4⟩:=row_some h3
 exact .inl ⟨_,_,_,_,h4,Nat.zero_le _⟩⟩
theorem Gw.ne {β:Type} [Inhabited β] {v':V} {sz' n0':Nat} {ty':TypeId} {c':β→Nat→V} {l':List β} (hg:Gw h n0 v sz ty c l) (hg':Gw h n0' v' sz' ty' c' l') (ht:ty≠ty') (k:Nat) (hk:v.blk=some k):v'.blk≠some k:=fun hk'=>by
 rcases hg.own with⟨rfl,_⟩ | ⟨b,o,rfl,h1,h2,h3⟩
 ·cases hk
 ·rcases hg'.own with⟨rfl,_⟩ | ⟨b',o',rfl,h1',h2',h3'⟩
  ·cases hk'
  ·injection hk with hk
   injection hk' with hk'
   subst hk hk'
   rw[h3]at h3'
   injection h3' with h3'
   injection h3' with h4
   exact ht h4
theorem kp_blk {h1:H} (hm:Mo h h1 none):Kp h h1:=⟨⟨hm.le,fun k hk=>hm.get k hk (fun e=>by cases e)⟩,hm.wf⟩
theorem od_apR {e:Env} {x y:Rd} {by_:Nat} (hr:Ro h v sz c l) (ht:Th h v) (hx:x.lk e=some .ns) (hy:y.lk e=some v) (hsz:0<sz) (h1:∀x:α,allOne (upto (c x) sz 0)=true) (hb:l.length*by_≤4294967296) :
  ∃v' h',Od (.ap ty sz by_ x y) e h v' h'∧Gw h' h.next v' sz ty c l∧(l = []→v'=.ns)∧Kp h h':=by
 rcases hr.ln.is with⟨rfl,h0⟩ | ⟨b,o,cap,kn,rfl,h2⟩
 ·have:l = []:=List.length_eq_zero_iff.1 h0
  subst this
  exact⟨.ns,h,od_ap0 hx hy rfl,.nil,fun _=>rfl,.refl h⟩
 ·cases l with
  | nil =>
   refine⟨.ns,h,⟨fun t ht'=>⟨?_⟩⟩,.nil,fun _=>rfl,.refl h⟩
   simp only[tdo,Rd.lk_val hx ht',Rd.lk_val hy ht']
   unfold appendK newsK
   show bb (Nat.beq sz sz) (loadRow h b o (Nat.mul 0 sz) fun l=>_)=_
   rw[show Nat.beq sz sz=true from Nat.beq_refl _,bb_t,show Nat.mul 0 sz=0 from Nat.zero_mul sz,ht.load]
   rfl
  | cons a l =>
   have hfl:=allOne_flat (sz:=sz) h1 (a :: l)
   obtain⟨h',h3,h4,h5,h6,h7⟩:=od_ap (e:=e) (h:=h) (x:=x) (y:=y) (vx:=.ns) (by_:=by_) (ty:=ty) (sz:=sz) (n:=0) (ll:=[]) (.inl ⟨rfl,rfl,rfl⟩) hx hy (Nat.zero_lt_succ _) hsz hr.rows hfl (by rw[Nat.mul_zero,Nat.zero_add];exact hb)
   rw[List.nil_append,Nat.zero_add]at h5
   rw[Nat.zero_add]at h3
   have hm:Mo h h' none:=⟨by rw[h4];omega,fun k hk _=>h6 k (by omega) (fun e=>by cases e),h7⟩
   exact⟨_,h',h3,Gw.of_grow h5 (Nat.le_refl _) (by rw[h4];omega),fun h=>absurd h (List.cons_ne_nil _ _),kp_blk hm⟩
theorem ew_apR {C:Cx} {d by_:Nat} {us:List Nat} {ll:List So} {e:Env} {Q:Env→H→Prop} {x y:Rd} (hr:Ro h v sz c l) (ht:Th h v) (hsz:0<sz) (h1:∀x:α,allOne (upto (c x) sz 0)=true) (hb:l.length*by_≤4294967296)
  (hq:∀v' h',Gw h' h.next v' sz ty c l→(l = []→v'=.ns)→Kp h h'→Ew C ll ((d,v') :: e) h' Q) (hx:x.lk e=some .ns:=by exact rfl) (hy:y.lk e=some v:=by exact rfl):Ew C (⟨none,some d,.ap ty sz by_ x y,us⟩ :: ll) e h Q:=by
 obtain⟨v',h',h2,h3,h5,h4⟩:=od_apR (e:=e) (x:=x) (y:=y) (by_:=by_) (ty:=ty) hr ht hx hy hsz h1 hb
 exact ew_s .n h2 (hq v' h' h3 h5 h4)
end
theorem Pr.mo_hi {P:Nat→Prop} {h h' h2:H} {b:Option Nat} (p:Pr P h h') (m:Mo h' h2 b) (hb:∀k,b=some k→P k∨h.next≤k):Pr P h h2:=⟨Nat.le_trans p.le m.le,fun k hk hn=>(m.get k (Nat.lt_of_lt_of_le hk p.le) fun e=>by
 rcases hb k e with h1 | h1
 ·exact hn h1
 ·omega).trans (p.get k hk hn),fun hw=>m.wf (p.wf hw)⟩
structure Nil_ (gl:List V) (g:Gr):Prop where
 is:∀ve vrf vco vrmw vad vda vct,gl = [.i .i64 g.cells,ve,vrf,vco,vrmw,vad,vda,vct]→(g.ev = []→ve=.ns)∧(g.rmw = []→vrmw=.ns)∧(g.addr = []→vad=.ns)∧(g.data = []→vda=.ns)∧(g.ctrl = []→vct=.ns)
structure RoN {α:Type} [Inhabited α] (h:H) (n0:Nat) (v:V) (sz:Nat) (c:α→Nat→V) (l:List α):Prop where
 ro:Ro h v sz c l
 lo:0<l.length→n0≤v.ba
section
variable {α:Type} [Inhabited α] {h h':H} {v:V} {sz n0:Nat} {ty:TypeId} {c:α→Nat→V} {l:List α}
theorem Gw.ron (hg:Gw h n0 v sz ty c l):RoN h n0 v sz c l:=⟨hg.ro,fun h0=>by
 rcases hg.own with⟨_,rfl⟩ | ⟨b,o,rfl,h1,_⟩
 ·exact absurd h0 (Nat.lt_irrefl _)
 ·exact h1⟩
theorem Gx.ron (hg:Gx h n0 v sz ty c l):RoN h n0 v sz c l:=⟨hg.ro,fun h0=>by
 rcases hg.own with⟨_,rfl⟩ | ⟨b,o,rfl,h1,_⟩ | ⟨b,rfl,_,h1,_⟩
 ·exact absurd h0 (Nat.lt_irrefl _)
 ·exact h1
 ·exact h1⟩
theorem Ar.ron (hg:Ar h n0 v sz ty c l):RoN h n0 v sz c l:=⟨hg.ro,fun _=>hg.blk.2.1⟩
theorem RoN.low {n1:Nat} (hg:RoN h n0 v sz c l) (hn:n1≤n0):RoN h n1 v sz c l:=⟨hg.ro,fun h0=>Nat.le_trans hn (hg.lo h0)⟩
theorem RoN.nil:RoN h n0 .ns sz c []:=⟨.nil,fun h0=>absurd h0 (Nat.lt_irrefl _)⟩
theorem RoN.pr {P:Nat→Prop} (p:Pr P h h') (hw:Wf h) (hsz:0<sz) (hg:RoN h n0 v sz c l) (hP:∀k,P k→k<n0):RoN h' n0 v sz c l:=⟨p.ro hw hsz hg.ro fun h0 hp=>by have:=hP _ hp;have:=hg.lo h0;omega,hg.lo⟩
end
structure GrAtN (h:H) (n0:Nat) (gl:List V) (g:Gr):Prop where
 is:∃ve vrf vco vrmw vad vda vct,gl = [.i .i64 g.cells,ve,vrf,vco,vrmw,vad,vda,vct]∧RoN h n0 ve 5 ecell g.ev∧RoN h n0 vrf 2 pcell g.rf∧(∃vs:List V,RoN h n0 vco 1 vcell vs∧vs.length=g.co.length∧∀i,i<g.co.length→RoN h n0 (gt vs i) 1 icell (gt g.co i))∧RoN h n0 vrmw 2 pcell g.rmw∧RoN h n0 vad 2 pcell g.addr∧RoN h n0 vda 2 pcell g.data∧RoN h n0 vct 2 pcell g.ctrl
theorem GrAtN.at_ {h:H} {n0:Nat} {gl:List V} {g:Gr} (hg:GrAtN h n0 gl g):GrAt h gl g:=by
 obtain⟨ve,vrf,vco,vrmw,vad,vda,vct,h0,h1,h2,⟨vs,h3,h4,h5⟩,h6,h7,h8,h9⟩:=hg.is
 exact⟨ve,vrf,vco,vrmw,vad,vda,vct,h0,h1.ro,h2.ro,⟨vs,h3.ro,h4,fun i hi=>(h5 i hi).ro⟩,h6.ro,h7.ro,h8.ro,h9.ro⟩
theorem GrAtN.pr {h h':H} {P:Nat→Prop} {n0:Nat} {gl:List V} {g:Gr} (p:Pr P h h') (hw:Wf h) (hg:GrAtN h n0 gl g) (hP:∀k,P k→k<n0):GrAtN h' n0 gl g:=by
 obtain⟨ve,vrf,vco,vrmw,vad,vda,vct,h0,h1,h2,⟨vs,h3,h4,h5⟩,h6,h7,h8,h9⟩:=hg.is
 exact⟨ve,vrf,vco,vrmw,vad,vda,vct,h0,h1.pr p hw (by decide) hP,h2.pr p hw (by decide) hP,⟨vs,h3.pr p hw (by decide) hP,h4,fun i hi=>(h5 i hi).pr p hw (by decide) hP⟩,h6.pr p hw (by decide) hP,h7.pr p hw (by decide) hP,h8.pr p hw (by decide) hP,h9.pr p hw (by decide) hP⟩
theorem GrAtN.low {h:H} {n0 n1:Nat} {gl:List V} {g:Gr} (hg:GrAtN h n0 gl g) (hn:n1≤n0):GrAtN h n1 gl g:=by
 obtain⟨ve,vrf,vco,vrmw,vad,vda,vct,h0,h1,h2,⟨vs,h3,h4,h5⟩,h6,h7,h8,h9⟩:=hg.is
 exact⟨ve,vrf,vco,vrmw,vad,vda,vct,h0,h1.low hn,h2.low hn,⟨vs,h3.low hn,h4,fun i hi=>(h5 i hi).low hn⟩,h6.low hn,h7.low hn,h8.low hn,h9.low hn⟩
theorem eone (x:Ev_):allOne (upto (ecell x) 5 0)=true:=rfl
theorem pone (x:Int × Int):allOne (upto (pcell x) 2 0)=true:=rfl
theorem ione' (x:Int):allOne (upto (icell x) 1 0)=true:=rfl
def s239:Sc:=(.seq (.region (
 ⟨none,some 3,.bx 26 (.t 0),[0]⟩ ::
 ⟨none,some 6,.mv (.c (.b false)),[]⟩ :: []))
(.seq (.region (
 ⟨none,some 7,.mv (.t 1),[1]⟩ ::
 ⟨none,some 8,.ar .geq (.t 7) (.c (.i .i64 0)),[7]⟩ ::
 ⟨none,some 9,.mv (.t 8),[8]⟩ ::
 ⟨some (9,true),some 10,.mv (.t 1),[1,9]⟩ ::
 ⟨some (9,true),some 11,.fa (.t 3) 1,[3,9]⟩ ::
 ⟨some (9,true),some 12,.ld (.t 11),[11,9]⟩ ::
 ⟨some (9,true),some 13,.len (.t 12),[12,9]⟩ ::
 ⟨some (9,true),some 14,.ar .lss (.t 10) (.t 13),[10,13,9]⟩ ::
 ⟨none,some 15,.pk (.t 9) (.t 14) (.c (.b false)),[9,14]⟩ ::
 ⟨none,some 16,.mv (.t 15),[15]⟩ ::
 ⟨some (16,true),some 17,.fa (.t 3) 1,[3,16]⟩ ::
 ⟨some (16,true),some 18,.ld (.t 17),[17,16]⟩ ::
 ⟨some (16,true),some 19,.mv (.t 1),[1,16]⟩ ::
 ⟨some (16,true),some 20,.ia (.t 18) (.t 19) 5,[18,19,16]⟩ ::
 ⟨some (16,true),some 21,.fa (.t 20) 1,[20,16]⟩ ::
 ⟨some (16,true),some 22,.ld (.t 21),[21,16]⟩ ::
 ⟨some (16,true),some 23,.mv (.t 2),[2,16]⟩ ::
 ⟨some (16,true),some 24,.eq .int false (.t 22) (.t 23),[22,23,16]⟩ ::
 ⟨none,some 25,.pk (.t 16) (.t 24) (.c (.b false)),[16,24]⟩ ::
 ⟨none,some 6,.mv (.t 25),[25]⟩ :: []))
.ret))
set_option maxRecDepth 100000 in
theorem c239:fnB Tryz.prog 239=some (26,s239,[.t 6]):=by kernel_rfl
def s193:Sc:=(.seq (.region (
 ⟨none,some 3,.bx 26 (.t 0),[0]⟩ ::
 ⟨none,some 6,.mv (.c (.b false)),[]⟩ :: []))
(.seq (.mix (
 (⟨none,some 7,.mv (.t 1),[1]⟩,.q [none]) ::
 (⟨none,some 8,.ar .geq (.t 7) (.c (.i .i64 0)),[7]⟩,.q [none]) ::
 (⟨none,some 9,.mv (.t 8),[8]⟩,.q [none]) ::
 (⟨some (9,true),some 10,.mv (.t 1),[1,9]⟩,.q [none]) ::
 (⟨some (9,true),some 11,.mv (.t 2),[2,9]⟩,.q [none]) ::
 (⟨some (9,true),some 12,.ar .lss (.t 10) (.t 11),[10,11,9]⟩,.q [none]) ::
 (⟨none,some 13,.pk (.t 9) (.t 12) (.c (.b false)),[9,12]⟩,.q [none]) ::
 (⟨none,some 14,.mv (.t 13),[13]⟩,.q [none]) ::
 (⟨some (14,true),some 15,.mv (.t 2),[2,14]⟩,.q [none]) ::
 (⟨some (14,true),some 16,.fa (.t 3) 1,[3,14]⟩,.q [none]) ::
 (⟨some (14,true),some 17,.ld (.t 16),[16,14]⟩,.q [none]) ::
 (⟨some (14,true),some 18,.len (.t 17),[17,14]⟩,.q [none]) ::
 (⟨some (14,true),some 19,.ar .lss (.t 15) (.t 18),[15,18,14]⟩,.q [none]) ::
 (⟨none,some 20,.pk (.t 14) (.t 19) (.c (.b false)),[14,19]⟩,.q [none]) ::
 (⟨none,some 21,.mv (.t 20),[20]⟩,.q [none]) ::
 (⟨some (21,true),some 22,.fa (.t 3) 1,[3,21]⟩,.q [none]) ::
 (⟨some (21,true),some 23,.ld (.t 22),[22,21]⟩,.q [none]) ::
 (⟨some (21,true),some 24,.mv (.t 1),[1,21]⟩,.q [none]) ::
 (⟨some (21,true),some 25,.ia (.t 23) (.t 24) 5,[23,24,21]⟩,.q [none]) ::
 (⟨some (21,true),some 26,.fa (.t 25) 0,[25,21]⟩,.q [none]) ::
 (⟨some (21,true),some 27,.ld (.t 26),[26,21]⟩,.q [none]) ::
 (⟨some (21,true),some 28,.ar .geq (.t 27) (.c (.i .i64 0)),[27,21]⟩,.q [none]) ::
 (⟨none,some 29,.pk (.t 21) (.t 28) (.c (.b false)),[21,28]⟩,.q [none]) ::
 (⟨none,some 30,.mv (.t 29),[29]⟩,.q [none]) ::
 (⟨some (30,true),some 31,.fa (.t 3) 1,[3,30]⟩,.q [none]) ::
 (⟨some (30,true),some 32,.ld (.t 31),[31,30]⟩,.q [none]) ::
 (⟨some (30,true),some 33,.mv (.t 1),[1,30]⟩,.q [none]) ::
 (⟨some (30,true),some 34,.ia (.t 32) (.t 33) 5,[32,33,30]⟩,.q [none]) ::
 (⟨some (30,true),some 35,.fa (.t 34) 0,[34,30]⟩,.q [none]) ::
 (⟨some (30,true),some 36,.ld (.t 35),[35,30]⟩,.q [none]) ::
 (⟨some (30,true),some 37,.fa (.t 3) 1,[3,30]⟩,.q [none]) ::
 (⟨some (30,true),some 38,.ld (.t 37),[37,30]⟩,.q [none]) ::
 (⟨some (30,true),some 39,.mv (.t 2),[2,30]⟩,.q [none]) ::
 (⟨some (30,true),some 40,.ia (.t 38) (.t 39) 5,[38,39,30]⟩,.q [none]) ::
 (⟨some (30,true),some 41,.fa (.t 40) 0,[40,30]⟩,.q [none]) ::
 (⟨some (30,true),some 42,.ld (.t 41),[41,30]⟩,.q [none]) ::
 (⟨some (30,true),some 43,.eq .int false (.t 36) (.t 42),[36,42,30]⟩,.q [none]) ::
 (⟨none,some 44,.pk (.t 30) (.t 43) (.c (.b false)),[30,43]⟩,.q [none]) ::
 (⟨none,some 6,.mv (.t 44),[44]⟩,.q [none]) :: []))
.ret))
set_option maxRecDepth 100000 in
theorem c193:fnB Tryz.prog 193=some (45,s193,[.t 6]):=by kernel_rfl
def s238:Sc:=(.seq (.region (
 ⟨none,some 6,.mv (.c (.b false)),[]⟩ :: []))
(.seq (.seq (.region (
 ⟨none,some 7,.mv (.t 2),[2]⟩ :: []))
(.cond (.t 7) (.seq (.region (
 ⟨none,some 8,.mv (.t 0),[0]⟩ ::
 ⟨none,some 9,.eq .int false (.t 8) (.c (.i .i64 1)),[8]⟩ ::
 ⟨none,some 10,.mv (.t 9),[9]⟩ ::
 ⟨some (10,true),some 11,.mv (.t 1),[1,10]⟩ ::
 ⟨some (10,true),some 12,.eq .int false (.t 11) (.c (.i .i64 11)),[11,10]⟩ ::
 ⟨some (10,true),some 13,.mv (.t 12),[12,10]⟩ ::
 ⟨some (13,false),some 14,.mv (.t 1),[1,13]⟩ ::
 ⟨some (13,false),some 15,.eq .int false (.t 14) (.c (.i .i64 12)),[14,13]⟩ ::
 ⟨some (10,true),some 16,.pk (.t 13) (.c (.b true)) (.t 15),[13,15,10]⟩ ::
 ⟨some (10,true),some 17,.mv (.t 16),[16,10]⟩ ::
 ⟨some (17,false),some 18,.mv (.t 1),[1,17]⟩ ::
 ⟨some (17,false),some 19,.eq .int false (.t 18) (.c (.i .i64 16)),[18,17]⟩ ::
 ⟨some (10,true),some 20,.pk (.t 17) (.c (.b true)) (.t 19),[17,19,10]⟩ ::
 ⟨none,some 21,.pk (.t 10) (.t 20) (.c (.b false)),[10,20]⟩ ::
 ⟨none,some 22,.mv (.t 21),[21]⟩ ::
 ⟨some (22,false),some 23,.mv (.t 0),[0,22]⟩ ::
 ⟨some (22,false),some 24,.eq .int false (.t 23) (.c (.i .i64 2)),[23,22]⟩ ::
 ⟨some (22,false),some 25,.mv (.t 24),[24,22]⟩ ::
 ⟨some (25,true),some 26,.mv (.t 1),[1,25]⟩ ::
 ⟨some (25,true),some 27,.eq .int false (.t 26) (.c (.i .i64 11)),[26,25]⟩ ::
 ⟨some (25,true),some 28,.mv (.t 27),[27,25]⟩ ::
 ⟨some (28,false),some 29,.mv (.t 1),[1,28]⟩ ::
 ⟨some (28,false),some 30,.eq .int false (.t 29) (.c (.i .i64 13)),[29,28]⟩ ::
 ⟨some (25,true),some 31,.pk (.t 28) (.c (.b true)) (.t 30),[28,30,25]⟩ ::
 ⟨some (22,false),some 32,.pk (.t 25) (.t 31) (.c (.b false)),[25,31,22]⟩ ::
 ⟨none,some 33,.pk (.t 22) (.c (.b true)) (.t 32),[22,32]⟩ ::
 ⟨none,some 34,.mv (.t 33),[33]⟩ ::
 ⟨some (34,false),some 35,.mv (.t 0),[0,34]⟩ ::
 ⟨some (34,false),some 36,.eq .int false (.t 35) (.c (.i .i64 3)),[35,34]⟩ ::
 ⟨some (34,false),some 37,.mv (.t 36),[36,34]⟩ ::
 ⟨some (37,true),some 38,.mv (.t 1),[1,37]⟩ ::
 ⟨some (37,true),some 39,.eq .int false (.t 38) (.c (.i .i64 14)),[38,37]⟩ ::
 ⟨some (37,true),some 40,.mv (.t 39),[39,37]⟩ ::
 ⟨some (40,false),some 41,.mv (.t 1),[1,40]⟩ ::
 ⟨some (40,false),some 42,.eq .int false (.t 41) (.c (.i .i64 15)),[41,40]⟩ ::
 ⟨some (37,true),some 43,.pk (.t 40) (.c (.b true)) (.t 42),[40,42,37]⟩ ::
 ⟨some (34,false),some 44,.pk (.t 37) (.t 43) (.c (.b false)),[37,43,34]⟩ ::
 ⟨none,some 45,.pk (.t 34) (.c (.b true)) (.t 44),[34,44]⟩ ::
 ⟨none,some 6,.mv (.t 45),[45]⟩ :: []))
.ret)
 .skip))
(.seq (.region (
 ⟨none,some 46,.mv (.t 0),[0]⟩ ::
 ⟨none,some 47,.eq .int false (.t 46) (.c (.i .i64 1)),[46]⟩ ::
 ⟨none,some 48,.mv (.t 47),[47]⟩ ::
 ⟨some (48,true),some 49,.mv (.t 1),[1,48]⟩ ::
 ⟨some (48,true),some 50,.eq .int false (.t 49) (.c (.i .i64 1)),[49,48]⟩ ::
 ⟨some (48,true),some 51,.mv (.t 50),[50,48]⟩ ::
 ⟨some (51,false),some 52,.mv (.t 1),[1,51]⟩ ::
 ⟨some (51,false),some 53,.eq .int false (.t 52) (.c (.i .i64 2)),[52,51]⟩ ::
 ⟨some (48,true),some 54,.pk (.t 51) (.c (.b true)) (.t 53),[51,53,48]⟩ ::
 ⟨some (48,true),some 55,.mv (.t 54),[54,48]⟩ ::
 ⟨some (55,false),some 56,.mv (.t 1),[1,55]⟩ ::
 ⟨some (55,false),some 57,.eq .int false (.t 56) (.c (.i .i64 5)),[56,55]⟩ ::
 ⟨some (48,true),some 58,.pk (.t 55) (.c (.b true)) (.t 57),[55,57,48]⟩ ::
 ⟨none,some 59,.pk (.t 48) (.t 58) (.c (.b false)),[48,58]⟩ ::
 ⟨none,some 60,.mv (.t 59),[59]⟩ ::
 ⟨some (60,false),some 61,.mv (.t 0),[0,60]⟩ ::
 ⟨some (60,false),some 62,.eq .int false (.t 61) (.c (.i .i64 2)),[61,60]⟩ ::
 ⟨some (60,false),some 63,.mv (.t 62),[62,60]⟩ ::
 ⟨some (63,true),some 64,.mv (.t 1),[1,63]⟩ ::
 ⟨some (63,true),some 65,.eq .int false (.t 64) (.c (.i .i64 1)),[64,63]⟩ ::
 ⟨some (63,true),some 66,.mv (.t 65),[65,63]⟩ ::
 ⟨some (66,false),some 67,.mv (.t 1),[1,66]⟩ ::
 ⟨some (66,false),some 68,.eq .int false (.t 67) (.c (.i .i64 3)),[67,66]⟩ ::
 ⟨some (63,true),some 69,.pk (.t 66) (.c (.b true)) (.t 68),[66,68,63]⟩ ::
 ⟨some (63,true),some 70,.mv (.t 69),[69,63]⟩ ::
 ⟨some (70,false),some 71,.mv (.t 1),[1,70]⟩ ::
 ⟨some (70,false),some 72,.eq .int false (.t 71) (.c (.i .i64 5)),[71,70]⟩ ::
 ⟨some (63,true),some 73,.pk (.t 70) (.c (.b true)) (.t 72),[70,72,63]⟩ ::
 ⟨some (60,false),some 74,.pk (.t 63) (.t 73) (.c (.b false)),[63,73,60]⟩ ::
 ⟨none,some 75,.pk (.t 60) (.c (.b true)) (.t 74),[60,74]⟩ ::
 ⟨none,some 76,.mv (.t 75),[75]⟩ ::
 ⟨some (76,false),some 77,.mv (.t 0),[0,76]⟩ ::
 ⟨some (76,false),some 78,.eq .int false (.t 77) (.c (.i .i64 3)),[77,76]⟩ ::
 ⟨some (76,false),some 79,.mv (.t 78),[78,76]⟩ ::
 ⟨some (79,true),some 80,.mv (.t 1),[1,79]⟩ ::
 ⟨some (79,true),some 81,.eq .int false (.t 80) (.c (.i .i64 2)),[80,79]⟩ ::
 ⟨some (79,true),some 82,.mv (.t 81),[81,79]⟩ ::
 ⟨some (82,false),some 83,.mv (.t 1),[1,82]⟩ ::
 ⟨some (82,false),some 84,.eq .int false (.t 83) (.c (.i .i64 3)),[83,82]⟩ ::
 ⟨some (79,true),some 85,.pk (.t 82) (.c (.b true)) (.t 84),[82,84,79]⟩ ::
 ⟨some (79,true),some 86,.mv (.t 85),[85,79]⟩ ::
 ⟨some (86,false),some 87,.mv (.t 1),[1,86]⟩ ::
 ⟨some (86,false),some 88,.eq .int false (.t 87) (.c (.i .i64 4)),[87,86]⟩ ::
 ⟨some (79,true),some 89,.pk (.t 86) (.c (.b true)) (.t 88),[86,88,79]⟩ ::
 ⟨some (79,true),some 90,.mv (.t 89),[89,79]⟩ ::
 ⟨some (90,false),some 91,.mv (.t 1),[1,90]⟩ ::
 ⟨some (90,false),some 92,.eq .int false (.t 91) (.c (.i .i64 5)),[91,90]⟩ ::
 ⟨some (79,true),some 93,.pk (.t 90) (.c (.b true)) (.t 92),[90,92,79]⟩ ::
 ⟨some (76,false),some 94,.pk (.t 79) (.t 93) (.c (.b false)),[79,93,76]⟩ ::
 ⟨none,some 95,.pk (.t 76) (.c (.b true)) (.t 94),[76,94]⟩ ::
 ⟨none,some 6,.mv (.t 95),[95]⟩ :: []))
.ret)))
set_option maxRecDepth 100000 in
theorem c238:fnB Tryz.prog 238=some (96,s238,[.t 6]):=by kernel_rfl
theorem is_spec {m:Bool} {h:H} {gl:List V} {g:Gr} {i kind:Int} (hw:Wf h) (hg:GrAt h gl g):FX m Tryz.prog 239 [.agg gl,.i .i64 i,.i .i64 kind] h fun v h'=>v=B (IsE g i kind)∧Kp h h':=by
 have hone:=hg.one
 obtain⟨ve,vrf,vco,vrmw,vad,vda,vct,rfl,he,-⟩:=hg.is
 refine Fn.env c239 rfl ?_
 unfold s239
 refine Es.seq (Es.region (ew_bx (hz:=hone) fun b h1 ob k1=>?_))
 have hw1:=k1.wf hw
 have hB:=ob.bx
 obtain⟨hL,hC⟩:=he.kp k1 hw
 clear hg he hone
 refine go ?_
 repeat' ((first | refine wgd (fun _=>?_) fun _=>?_ | refine wgn (fun _=>?_) fun _=>?_ | refine wgb (fun _=>?_) fun _=>?_ | refine mgd (fun _=>?_) fun _=>?_ | refine mgn (fun _=>?_) fun _=>?_ | refine mgb (fun _=>?_) fun _=>?_ | refine cD (fun _=>?_) fun _=>?_ | refine cN (fun _=>?_) fun _=>?_ | refine cB (fun _=>?_) fun _=>?_) <;> refine go ?_)
 all_goals refine ret_1 ⟨?_,by assumption⟩
 all_goals first | exact B_t (by unfold IsE;omega) | exact B_f (by unfold IsE;omega) | exact B_d (by unfold IsE;omega)
set_option maxHeartbeats 0 in
theorem before_spec {m:Bool} {h:H} {gl:List V} {g:Gr} {i k:Int} (hw:Wf h) (hg:GrAt h gl g):FX m Tryz.prog 193 [.agg gl,.i .i64 i,.i .i64 k] h fun v h'=>v=B (Bef g i k)∧Kp h h':=by
 have hone:=hg.one
 obtain⟨ve,vrf,vco,vrmw,vad,vda,vct,rfl,he,-⟩:=hg.is
 refine Fn.env c193 rfl ?_
 unfold s193
 refine Es.seq (Es.region (ew_bx (hz:=hone) fun b h1 ob k1=>?_))
 have hw1:=k1.wf hw
 have hB:=ob.bx
 obtain⟨hL,hC⟩:=he.kp k1 hw
 clear hg he hone
 refine go ?_
 repeat' ((first | refine wgd (fun _=>?_) fun _=>?_ | refine wgn (fun _=>?_) fun _=>?_ | refine wgb (fun _=>?_) fun _=>?_ | refine mgd (fun _=>?_) fun _=>?_ | refine mgn (fun _=>?_) fun _=>?_ | refine mgb (fun _=>?_) fun _=>?_ | refine cD (fun _=>?_) fun _=>?_ | refine cN (fun _=>?_) fun _=>?_ | refine cB (fun _=>?_) fun _=>?_) <;> refine go ?_)
 all_goals refine ret_1 ⟨?_,by assumption⟩
 all_goals first | exact B_t (by unfold Bef;omega) | exact B_f (by unfold Bef;omega) | exact B_d (by unfold Bef;omega)
set_option maxHeartbeats 0 in
theorem mode_spec {m:Bool} {h:H} {kind md:Int} {w:Bool}:FX m Tryz.prog 238 [.i .i64 kind,.i .i64 md,.b w] h fun v h'=>v=B (ModeOk kind md w)∧Kp h h':=by
 refine Fn.env c238 rfl ?_
 unfold s238
 have k1:=Kp.refl h
 have hk:kind=1∨kind=2∨kind=3∨(kind≠1∧kind≠2∧kind≠3):=by omega
 rcases hk with rfl | rfl | rfl | hk
 all_goals cases w
 all_goals
  refine go ?_
  repeat' ((first | refine wgd (fun _=>?_) fun _=>?_ | refine wgn (fun _=>?_) fun _=>?_ | refine wgb (fun _=>?_) fun _=>?_ | refine mgd (fun _=>?_) fun _=>?_ | refine mgn (fun _=>?_) fun _=>?_ | refine mgb (fun _=>?_) fun _=>?_ | refine cD (fun _=>?_) fun _=>?_ | refine cN (fun _=>?_) fun _=>?_ | refine cB (fun _=>?_) fun _=>?_) <;> refine go ?_)
 all_goals refine ret_1 ⟨?_,by assumption⟩
 all_goals first | exact B_t (by unfold ModeOk;simp only[Bool.false_eq_true,false_and,true_and,false_or,or_false,reduceCtorEq];omega) | exact B_f (by unfold ModeOk;simp only[Bool.false_eq_true,false_and,true_and,false_or,or_false,reduceCtorEq];omega) | exact B_d (by unfold ModeOk;simp only[Bool.false_eq_true,false_and,true_and,false_or,or_false,reduceCtorEq];omega)
end Go.Proofs.YtkcdehffcddciaaGreatDoor.Vm
