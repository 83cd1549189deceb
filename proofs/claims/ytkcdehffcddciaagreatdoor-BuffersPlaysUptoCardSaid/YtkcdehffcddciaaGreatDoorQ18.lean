/- Slices of rows: those that are only read, those that grow. -/
import Derived.Test.YtkcdehffcddciaaGreatDoorQ17
namespace Go.Proofs.YtkcdehffcddciaaGreatDoor.Vm
open Go Go.RowKit
noncomputable section
section
variable {α:Type} [Inhabited α]
def gt (l:List α) (i:Nat):α:=l.getD i default
theorem gt_lt {l:List α} {i:Nat} (h:i<l.length):gt l i=l[i]:=by unfold gt;rw[List.getD_eq_getElem?_getD,List.getElem?_eq_getElem h];rfl
theorem gt_app {l r:List α} {i:Nat} (h:i<l.length):gt (l++r) i=gt l i:=by
 unfold gt
 rw[List.getD_eq_getElem?_getD,List.getD_eq_getElem?_getD,List.getElem?_append_left h]
theorem gt_app' {l r:List α} {i:Nat} (h:l.length≤i):gt (l++r) i=gt r (i-l.length):=by
 unfold gt
 rw[List.getD_eq_getElem?_getD,List.getD_eq_getElem?_getD,List.getElem?_append_right h]
theorem gt_new {l:List α} {x:α}:gt (l++[x]) l.length=x:=by rw[gt_app' (Nat.le_refl _),Nat.sub_self];rfl
theorem gt_set {l:List α} {i j:Nat} {x:α} (h:i<l.length):gt (l.set i x) j=if j=i then x else gt l j:=by
 unfold gt
 rw[List.getD_eq_getElem?_getD,List.getD_eq_getElem?_getD,List.getElem?_set]
 by_cases e:i=j
 ·subst e
  rw[if_pos rfl,if_pos rfl,if_pos h]
  rfl
 ·rw[if_neg e,if_neg (fun h=>e h.symm)]
theorem gt_drop {l:List α} {i j:Nat}:gt (l.drop i) j=gt l (i+j):=by
 unfold gt
 rw[List.getD_eq_getElem?_getD,List.getD_eq_getElem?_getD,List.getElem?_drop]
theorem take_gt {l:List α} {i:Nat} (h:i<l.length):l.take (i+1)=l.take i++[gt l i]:=by
 rw[gt_lt h,List.take_add_one,List.getElem?_eq_getElem h]
 rfl
theorem gt_ext {l r:List α} (hl:l.length=r.length) (h:∀i,i<l.length→gt l i=gt r i):l=r:=List.ext_getElem hl fun i h1 h2=>by
 have:=h i h1
 rwa [gt_lt h1,gt_lt h2]at this
end
instance:Inhabited V:=⟨.u⟩
def icell (x:Int) (_:Nat):V:=.i .i64 x
def vcell (x:V) (_:Nat):V:=x
def bcell (x:Bool) (_:Nat):V:=.b x
def pcell (p:Int × Int):Nat→V
 | 0=>.i .i64 p.1
 | _=>.i .i64 p.2
section
variable {α:Type} [Inhabited α] {h h':H} {v:V} {sz n0:Nat} {ty:TypeId} {c:α→Nat→V} {l:List α} {x:α}
structure Ro (h:H) (v:V) (sz:Nat) (c:α→Nat→V) (l:List α):Prop where
 ln:Ln v sz l.length
 cs:Cs h v sz l.length fun i k=>c (gt l i) k
theorem Ro.old (ho:Old h.next h h') (hw:Wf h) (hr:Ro h v sz c l):Ro h' v sz c l:=⟨hr.ln,hr.cs.old ho hw⟩
theorem Ro.kp (k:Kp h h') (hw:Wf h) (hr:Ro h v sz c l):Ro h' v sz c l:=hr.old k.old hw
theorem Ro.nil:Ro h .ns sz c []:=⟨.ns,⟨fun _i _k hi=>absurd hi (Nat.not_lt_zero _)⟩⟩
structure Mo (h h':H) (b:Option Nat):Prop where
 le:h.next≤h'.next
 get:∀k,k<h.next→b≠some k→h'.t.get k=h.t.get k
 wf:Wf h→Wf h'
theorem Mo.cell {b:Option Nat} (m:Mo h h' b) {k o:Nat} (hk:k<h.next) (hb:b≠some k):h'.cell k o=h.cell k o:=by
 unfold H.cell
 rw[m.get k hk hb]
theorem Mo.row {b:Option Nat} (m:Mo h h' b) {k:Nat} (hk:k<h.next) (hb:b≠some k):h'.row k=h.row k:=by
 unfold H.row
 rw[m.get k hk hb]
theorem Mo.trans {h2:H} {b b':Option Nat} (m:Mo h h' b) (m':Mo h' h2 b') (hb:b'=b∨∀k,b'=some k→h.next≤k):Mo h h2 b:=⟨Nat.le_trans m.le m'.le,fun k hk hne=>(m'.get k (Nat.lt_of_lt_of_le hk m.le) (by
 rcases hb with rfl | hb
 ·exact hne
 ·exact fun e=>by have:=hb k e;omega)).trans (m.get k hk hne),fun hw=>m'.wf (m.wf hw)⟩
theorem Mo.old {h0:H} {b:Option Nat} (m:Mo h h' b) (ho:Old n0 h0 h) (hb:∀k,b=some k→n0≤k):Old n0 h0 h':=⟨Nat.le_trans ho.le m.le,fun k hk=>(m.get k (Nat.lt_of_lt_of_le hk ho.le) (fun e=>by have:=hb k e;omega)).trans (ho.get k hk)⟩
theorem Mo.refl (b:Option Nat):Mo h h b:=⟨Nat.le_refl _,fun _ _ _=>rfl,id⟩
theorem Mo.of_kp (k:Kp h h') (b:Option Nat):Mo h h' b:=⟨k.old.le,fun j hk _=>k.old.get j hk,k.wf⟩
theorem Mo.kp {h0:H} {b:Option Nat} (m:Mo h h' b) (ho:Kp h0 h) (hb:∀k,b=some k→h0.next≤k):Kp h0 h':=⟨m.old ho.old hb,fun hw=>m.wf (ho.wf hw)⟩
structure Gw (h:H) (n0:Nat) (v:V) (sz:Nat) (ty:TypeId) (c:α→Nat→V) (l:List α):Prop where
 ln:Ln v sz l.length
 cs:Cs h v sz l.length fun i k=>c (gt l i) k
 own:(v=.ns∧l = [])∨∃b o,v=.sl b o l.length l.length false sz∧n0≤b∧b<h.next∧h.row b=some (ty,o+l.length*sz,true)
theorem Gw.nil:Gw h n0 .ns sz ty c []:=⟨.ns,⟨fun _i _k hi=>absurd hi (Nat.not_lt_zero _)⟩,.inl ⟨rfl,rfl⟩⟩
theorem Gw.ro (hg:Gw h n0 v sz ty c l):Ro h v sz c l:=⟨hg.ln,hg.cs⟩
theorem Gw.blk (hg:Gw h n0 v sz ty c l):∀k,V.blk v=some k→n0≤k∧k<h.next:=fun k hk=>by
 rcases hg.own with⟨rfl,_⟩ | ⟨b,o,rfl,h1,h2,_⟩
 ·cases hk
 ·injection hk with hk
  subst hk
  exact⟨h1,h2⟩
theorem Gw.low {n1:Nat} (hg:Gw h n0 v sz ty c l) (hn:n1≤n0):Gw h n1 v sz ty c l:=⟨hg.ln,hg.cs,by
 rcases hg.own with h1 | ⟨b,o,h1,h2,h3⟩
 ·exact .inl h1
 ·exact .inr ⟨b,o,h1,Nat.le_trans hn h2,h3⟩⟩
theorem Cs.mo {n:Nat} {F:Nat→Nat→V} {b:Option Nat} (hc:Cs h v sz n F) (m:Mo h h' b) (h1:0<n→v.ba<h.next∧b≠some v.ba):Cs h' v sz n F:=⟨fun i k hi hk=>⟨by
 obtain⟨h2,h3⟩:=h1 (by omega)
 rw[m.cell h2 h3]
 exact(hc.eq i k hi hk).eq⟩⟩
theorem Gw.mo {b:Option Nat} (hg:Gw h n0 v sz ty c l) (m:Mo h h' b) (hb:∀k,V.blk v=some k→b≠some k):Gw h' n0 v sz ty c l:=by
 rcases hg.own with⟨rfl,rfl⟩ | ⟨b',o,rfl,h1,h2,h3⟩
 ·exact .nil
 ·have hne:=hb b' rfl
  exact⟨hg.ln,hg.cs.mo m fun _=>⟨h2,hne⟩,.inr ⟨b',o,rfl,h1,Nat.lt_of_lt_of_le h2 m.le,by rw[m.row h2 hne];exact h3⟩⟩
theorem Ro.mo {b:Option Nat} (hr:Ro h v sz c l) (hw:Wf h) (hsz:0<sz) (m:Mo h h' b) (hb:0<l.length→b≠some v.ba):Ro h' v sz c l:=⟨hr.ln,hr.cs.mo m fun hn=>⟨(hr.cs.eq 0 0 hn hsz).lt hw,hb hn⟩⟩
def flat (c:α→Nat→V) (sz:Nat):List α→List V
 | []=>[]
 | x :: l=>upto (c x) sz 0++flat c sz l
theorem upto_len (g:Nat→V):∀n o,(upto g n o).length=n
 | 0,_=>rfl
 | n+1,o=>by
  show(upto g n (o+1)).length+1=_
  rw[upto_len g n]
theorem upto_get (g:Nat→V):∀n o k,k<n→(upto g n o)[k]?=some (g (o+k))
 | 0,_,_,h=>absurd h (Nat.not_lt_zero _)
 | n+1,o,0,_=>rfl
 | n+1,o,k+1,h=>by
  show(upto g n (o+1))[k]?=_
  rw[upto_get g n (o+1) k (by omega),show o+1+k=o+(k+1) by omega]
theorem flatG_len {α:Type} {sz:Nat} {c:α→Nat→V}:∀l:List α,(flat c sz l).length=l.length*sz
 | []=>by simp[flat]
 | x :: l=>by
  show(upto (c x) sz 0++flat c sz l).length=_
  rw[List.length_append,upto_len,flatG_len l,List.length_cons,Nat.add_mul]
  omega
theorem flatG_app {α:Type} {sz:Nat} {c:α→Nat→V} (l r:List α):flat c sz (l++r)=flat c sz l++flat c sz r:=by
 induction l with
 | nil=>rfl
 | cons x l ih =>
  show upto (c x) sz 0++flat c sz (l++r)=_
  rw[ih,←List.append_assoc]
  rfl
theorem flatG_get:∀(l:List α) (i k:Nat),i<l.length→k<sz→(flat c sz l)[i*sz+k]?=some (c (gt l i) k)
 | [],i,k,hi,_=>absurd hi (Nat.not_lt_zero _)
 | x :: l,0,k,_,hk=>by
  show(upto (c x) sz 0++flat c sz l)[0*sz+k]?=_
  rw[Nat.zero_mul,Nat.zero_add,List.getElem?_append_left (by rw[upto_len];exact hk),upto_get _ _ _ _ hk,Nat.zero_add]
  rfl
 | x :: l,i+1,k,hi,hk=>by
  show(upto (c x) sz 0++flat c sz l)[(i+1)*sz+k]?=_
  have e1:(i+1)*sz+k=sz+(i*sz+k):=by rw[Nat.add_mul];omega
  rw[e1,List.getElem?_append_right (by rw[upto_len];omega),upto_len,show sz+(i*sz+k)-sz=i*sz+k by omega,flatG_get l i k (by simpa using hi) hk]
  rfl
theorem flatG_lt {α:Type} {sz:Nat} {l:List α} {i:Nat} (hi:i<l.length*sz):∃j k,j<l.length∧k<sz∧i=j*sz+k:=by
 rcases Nat.eq_zero_or_pos sz with h0 | h0
 ·subst h0
  simp at hi
 ·refine⟨i / sz,i % sz,?_,Nat.mod_lt _ h0,?_⟩
  ·exact Nat.div_lt_of_lt_mul (by rw[Nat.mul_comm];exact hi)
  ·rw[Nat.mul_comm]
   exact(Nat.div_add_mod i sz).symm
theorem cell_hi {b o hi:Nat} {p:Bool} (hr:h.row b=some (ty,hi,p)) (ho:hi≤o):h.cell b o=none:=by
 obtain⟨ct,hb⟩:=row_some hr
 unfold H.cell
 rw[hb]
 show(if o<hi then ct.get o else none)=none
 rw[if_neg (by omega)]
theorem Gw.grow (hg:Gw h n0 v sz ty c l):Grow h v sz ty (flat c sz l) l.length:=by
 rcases hg.own with⟨rfl,rfl⟩ | ⟨b,o,rfl,h1,h2,h3⟩
 ·exact .inl ⟨rfl,rfl,rfl⟩
 ·refine .inr ⟨b,o,rfl,flatG_len l,h3,fun j=>?_⟩
  by_cases hj:j<l.length*sz
  ·obtain⟨i,k,hi,hk,rfl⟩:=flatG_lt hj
   have:=(hg.cs.eq i k hi hk).eq
   rw[flatG_get l i k hi hk,←this]
   show h.cell b (o+(i*sz+k))=h.cell b (o+i*sz+k)
   rw[Nat.add_assoc]
  ·rw[List.getElem?_eq_none (by rw[flatG_len];omega),cell_hi h3 (by omega)]
theorem Gw.of_grow {b:Nat} (hg:Grow h (.sl b 0 l.length l.length false sz) sz ty (flat c sz l) l.length) (hn:n0≤b) (hb:b<h.next):Gw h n0 (.sl b 0 l.length l.length false sz) sz ty c l:=by
 rcases hg with⟨h1,_⟩ | ⟨b',o,h1,_,h2,h3⟩
 ·cases h1
 ·injection h1 with e1 e2
  subst e1 e2
  exact⟨.sl (Nat.le_refl _),⟨fun i k hi hk=>⟨by
   have:=h3 (i*sz+k)
   rw[flatG_get l i k hi hk]at this
   show h.cell b (0+i*sz+k)=some (c (gt l i) k)
   rw[Nat.add_assoc]
   exact this⟩⟩,.inr ⟨b,0,rfl,hn,hb,h2⟩⟩
theorem Ro.rows (hr:Ro h v sz c l):Rw h v.ba (l.length*sz) v.of (flat c sz l):=⟨by
 have:=rowC_of (h:=h) (b:=v.ba) (o:=v.of) (l:=flat c sz l) fun j hj=>by
  rw[flatG_len]at hj
  obtain⟨i,k,hi,hk,rfl⟩:=flatG_lt hj
  rw[flatG_get l i k hi hk,←Nat.add_assoc]
  exact(hr.cs.eq i k hi hk).eq
 rwa [flatG_len]at this⟩
theorem new_mo {l:List V} {p:Bool}:Mo h (h.new ty l p) none:=Mo.of_kp kp_new none
end
theorem ew_app {α:Type} [Inhabited α] {C:Cx} {d1 d2 sz by_ n0:Nat} {ty:TypeId} {zs news:List V} {ps:List (Nat × Nat × Rd)} {vs:List (Nat × Nat × V)} {us us':List Nat} {l:List So} {e:Env} {h:H} {Q:Env→H→Prop} {c:α→Nat→V} {rows:List α} {v:V} {y:Rd} (x:α)
  (hg:Gw h n0 v sz ty c rows) (hp:partsE e ps=some vs) (hf:fillL (rep zs 1) vs=some news) (hn:news=upto (c x) sz 0) (hz:allOne news=true) (hy:y.lk ((d1,.sl h.next 0 1 1 true sz) :: e)=some v) (hsz:0<sz) (hb:(2*rows.length+1)*by_≤4294967296) (hn0:n0≤h.next)
  (hr:∀v' h',Gw h' n0 v' sz ty c (rows++[x])→Mo h h' v.blk→Ew C l ((d2,v') :: (d1,.sl h.next 0 1 1 true sz) :: e) h' Q) :
  Ew C (⟨none,some d1,.bs ty 1 sz zs ps,us⟩ :: ⟨none,some d2,.ap ty sz by_ y (.t d1),us'⟩ :: l) e h Q:=by
 refine ew_s .n (od_bs hp hf hz) ?_
 have hm1:Mo h (h.new ty news false) none:=new_mo
 have hg1:Gw (h.new ty news false) n0 v sz ty c rows:=hg.mo hm1 fun _ _ h=>by cases h
 have hnl:news.length=sz:=by rw[hn,upto_len]
 have hrw:Rw (h.new ty news false) h.next (1*sz) 0 news:=⟨by
  have:=rowC_of (h:=h.new ty news false) (b:=h.next) (o:=0) (l:=news) fun j _=>by rw[new_cell,if_pos rfl,Nat.zero_add]
  rwa [hnl,←Nat.one_mul sz]at this⟩
 obtain⟨h',h2,h3,h4,h5,h6⟩:=od_ap (by_:=by_) (y:=.t d1) hg1.grow hy (show look ((d1,V.sl h.next 0 1 1 true sz) :: e) d1=some (.sl h.next 0 1 1 true sz) by rw[look_c,if_pos rfl]) Nat.one_pos hsz hrw hz hb
 have hlen:rows.length+1=(rows++[x]).length:=by simp
 have h4':Grow h' (.sl (h.next+1) 0 (rows++[x]).length (rows++[x]).length false sz) sz ty (flat c sz (rows++[x])) (rows++[x]).length:=by
  rw[←hlen,flatG_app]
  show Grow h' _ sz ty (flat c sz rows++(upto (c x) sz 0++[])) _
  rw[List.append_nil,←hn]
  exact h4
 refine ew_s .n h2 ?_
 have hnx:(h.new ty news false).next=h.next+1:=rfl
 have hg2:=Gw.of_grow (n0:=n0) h4' (by omega) (by rw[h3,hnx];omega)
 have hv:(.sl (h.new ty news false).next 0 (rows.length+1) (rows.length+1) false sz:V)=.sl (h.next+1) 0 (rows++[x]).length (rows++[x]).length false sz:=by rw[hlen];rfl
 rw[hv]
 exact hr _ h' hg2 ⟨by rw[h3,hnx];omega,fun k hk hne=>by
   rw[h5 k (by rw[hnx];omega) hne,new_get,if_neg (by omega)],fun hw=>h6 (wf_new hw)⟩
structure Ob (h:H) (n0 b:Nat) (ty:TypeId) (l:List V):Prop where
 lo:n0≤b
 hi:b<h.next
 row:∃p,h.row b=some (ty,l.length,p)
 bx:Bx h b l
theorem Ob.mo {h h':H} {n0 b:Nat} {ty:TypeId} {l:List V} {b':Option Nat} (ho:Ob h n0 b ty l) (m:Mo h h' b') (hb:b'≠some b):Ob h' n0 b ty l:=⟨ho.lo,Nat.lt_of_lt_of_le ho.hi m.le,by
 obtain⟨p,hp⟩:=ho.row
 exact⟨p,by rw[m.row ho.hi hb];exact hp⟩,⟨fun k v hk=>⟨by rw[m.cell ho.hi hb];exact(ho.bx.eq k v hk).eq⟩⟩⟩
theorem Ob.low {h:H} {n0 n1 b:Nat} {ty:TypeId} {l:List V} (ho:Ob h n0 b ty l) (hn:n1≤n0):Ob h n1 b ty l:=⟨Nat.le_trans hn ho.lo,ho.hi,ho.row,ho.bx⟩
theorem Bx.kp {h h':H} {b:Nat} {l:List V} (k:Kp h h') (hw:Wf h) (hb:Bx h b l):Bx h' b l:=hb.old k.old hw
theorem ob_new {h:H} {ty:TypeId} {l:List V} {p:Bool}:Ob (h.new ty l p) h.next h.next ty l:=⟨Nat.le_refl _,Nat.lt_succ_self _,⟨p,by rw[new_row,if_pos rfl]⟩,⟨fun k v hk=>⟨by rw[new_cell,if_pos rfl];exact hk⟩⟩⟩
theorem Ln.one {v:V} {sz n:Nat} (hl:Ln v sz n):v.one=true:=by
 rcases hl.is with⟨rfl,_⟩ | ⟨b,o,cap,kn,rfl,_⟩ <;> rfl
theorem allOne_nil:allOne []=true:=rfl
theorem allOne_cons {v:V} {l:List V} (h1:v.one=true) (h2:allOne l=true):allOne (v :: l)=true:=by
 show(v.one&&allOne l)=true
 rw[h1,h2]
 rfl
section
variable {C:Cx} {d:Nat} {ty:TypeId} {us:List Nat} {l:List So} {e:Env} {h:H} {v:V} {x a:Rd} {Q:Env→H→Prop} {ls:List V} {g:Option (Nat × Bool)}
theorem ew_bx (hr:∀b h1,Ob h1 h.next b ty ls→Kp h h1→Ew C l ((d,.p b 0) :: e) h1 Q) (hw:Gd e g true:=by first | exact .n | exact .tt rfl | exact .ff rfl) (hx:x.lk e=some v:=by exact rfl) (hv:v.cells=ls:=by exact rfl) (hz:allOne ls=true:=by first | exact rfl |(repeat (first | exact allOne_nil | refine allOne_cons (by first | exact rfl | assumption | exact Ln.one (by assumption) | exact Ln.one (Ro.ln (by assumption)) | exact Ln.one (Gw.ln (by assumption))) ?_))):Ew C (⟨g,some d,.bx ty x,us⟩ :: l) e h Q :=
 ew_s hw (od_bx hx hv hz) (hr _ _ ob_new kp_new)
theorem ew_al (hr:∀b h1,Ob h1 h.next b ty ls→Kp h h1→Ew C l ((d,.p b 0) :: e) h1 Q) (hw:Gd e g true:=by first | exact .n | exact .tt rfl | exact .ff rfl) (hz:allOne ls=true:=by first | exact rfl |(repeat (first | exact allOne_nil | refine allOne_cons (by first | exact rfl | assumption | exact Ln.one (by assumption) | exact Ln.one (Ro.ln (by assumption)) | exact Ln.one (Gw.ln (by assumption))) ?_))):Ew C (⟨g,some d,.al ty ls,us⟩ :: l) e h Q :=
 ew_s hw (od_al hz) (hr _ _ ob_new kp_new)
theorem st_ob {n0 b k:Nat} {vs:List V} (ho:Ob h n0 b ty ls) (hk:k+vs.length≤ls.length):Ob (h.st b k vs) n0 b ty (ls.take k++(vs++ls.drop (k+vs.length)))∧Mo h (h.st b k vs) (some b):=by
 obtain⟨p,hp⟩:=ho.row
 have hlen:(ls.take k++(vs++ls.drop (k+vs.length))).length=ls.length:=by
  rw[List.length_append,List.length_append,List.length_take,List.length_drop]
  omega
 refine⟨⟨ho.lo,by rw[st_next];exact ho.hi,⟨p,by rw[st_row,hlen];exact hp⟩,⟨fun j w hj=>⟨?_⟩⟩⟩,Nat.le_of_eq st_next.symm,fun j _ hne=>st_other fun e=>hne (by rw[e]),wf_st⟩
 rw[st_cell hp hk]
 have hj2:=(List.getElem?_eq_some_iff.1 hj).1
 rw[hlen]at hj2
 by_cases h1:j<k
 ·rw[if_neg (by omega)]
  rw[List.getElem?_append_left (by rw[List.length_take];omega),List.getElem?_take_of_lt h1]at hj
  exact(ho.bx.eq j w hj).eq
 ·by_cases h2:j<k+vs.length
  ·rw[if_pos ⟨by omega,h2⟩]
   rw[List.getElem?_append_right (by rw[List.length_take];omega),List.length_take,show min k ls.length=k by omega,List.getElem?_append_left (by omega)]at hj
   exact hj
  ·rw[if_neg (by omega)]
   rw[List.getElem?_append_right (by rw[List.length_take];omega),List.length_take,show min k ls.length=k by omega,List.getElem?_append_right (by omega),List.getElem?_drop,show k+vs.length+(j-k-vs.length)=j by omega]at hj
   exact(ho.bx.eq j w hj).eq
theorem ew_st {n0 b k n:Nat} {vs:List V} (ho:Ob h n0 b ty ls) (hr:∀h1,Ob h1 n0 b ty (ls.take k++(vs++ls.drop (k+vs.length)))→Mo h h1 (some b)→Ew C l e h1 Q) (hw:Gd e g true:=by first | exact .n | exact .tt rfl | exact .ff rfl) (ha:a.lk e=some (.p b k):=by exact rfl) (hx:x.lk e=some v:=by exact rfl) (hv:v.cells=vs:=by exact rfl) (hn:vs.length=n:=by exact rfl) (h1:allOne vs=true:=by first | exact rfl |(repeat (first | exact allOne_nil | refine allOne_cons (by first | exact rfl | assumption | exact Ln.one (by assumption) | exact Ln.one (Ro.ln (by assumption)) | exact Ln.one (Gw.ln (by assumption))) ?_))) (hle:Nat.ble (k+n) ls.length=true:=by exact rfl):Ew C (⟨g,none,.st a x n,us⟩ :: l) e h Q:=by
 obtain⟨p,hp⟩:=ho.row
 have hle2:k+vs.length≤ls.length:=by rw[hn];exact Nat.le_of_ble_eq_true hle
 have h3:=st_ob ho hle2
 exact ew_u hw (od_st ha hx hv hn h1 hp (by rw[←hn];exact hle2)) (hr _ h3.1 h3.2)
end
section
variable {m:Bool} {P:Program} {r:Option Nat} {N:Nat} {K:List Fr} {e:Env} {h:H} {R:V→H→Prop}
theorem ret_0 (hR:R .u h):Es ⟨m,P,r,N,fun e h=>∃v,Rt [] e h v∧R v h⟩ K .ret e h:=Es.ret ⟨_,rt0,hR⟩
theorem ret_1 {k:Nat} {v:V} (hR:R v h) (hk:look e k=some v:=by exact rfl):Es ⟨m,P,r,N,fun e h=>∃v,Rt [.t k] e h v∧R v h⟩ K .ret e h:=Es.ret ⟨_,rt1 hk,hR⟩
theorem ret_2 {k j:Nat} {v w:V} (hR:R (.tup [v,w]) h) (hk:look e k=some v:=by exact rfl) (hj:look e j=some w:=by exact rfl):Es ⟨m,P,r,N,fun e h=>∃v,Rt [.t k,.t j] e h v∧R v h⟩ K .ret e h:=Es.ret ⟨_,rt2 hk hj,hR⟩
theorem end_0 (hR:R .u h):Nx ⟨m,P,r,N,fun e h=>∃v,Rt [] e h v∧R v h⟩ [] e h:=Nx.nil ⟨_,rt0,hR⟩
end
structure Ar (h:H) (n0:Nat) (v:V) (sz:Nat) (ty:TypeId) {α:Type} [Inhabited α] (c:α→Nat→V) (l:List α):Prop where
 ln:Ln v sz l.length
 cs:Cs h v sz l.length fun i k=>c (gt l i) k
 own:∃b p,v=.sl b 0 l.length l.length true sz∧n0≤b∧b<h.next∧h.row b=some (ty,l.length*sz,p)
section
variable {α:Type} [Inhabited α] {h h':H} {v:V} {sz n0:Nat} {ty:TypeId} {c:α→Nat→V} {l:List α} {x:α}
theorem Ar.ro (hg:Ar h n0 v sz ty c l):Ro h v sz c l:=⟨hg.ln,hg.cs⟩
theorem Ar.blk (hg:Ar h n0 v sz ty c l):V.blk v=some v.ba∧n0≤v.ba∧v.ba<h.next:=by
 obtain⟨b,p,rfl,h1,h2,_⟩:=hg.own
 exact⟨rfl,h1,h2⟩
theorem Ar.low {n1:Nat} (hg:Ar h n0 v sz ty c l) (hn:n1≤n0):Ar h n1 v sz ty c l:=⟨hg.ln,hg.cs,by
 obtain⟨b,p,h1,h2,h3⟩:=hg.own
 exact⟨b,p,h1,Nat.le_trans hn h2,h3⟩⟩
theorem Ar.mo {b:Option Nat} (hg:Ar h n0 v sz ty c l) (m:Mo h h' b) (hb:b≠some v.ba):Ar h' n0 v sz ty c l:=by
 obtain⟨b',p,rfl,h1,h2,h3⟩:=hg.own
 exact⟨hg.ln,hg.cs.mo m fun _=>⟨h2,hb⟩,b',p,rfl,h1,Nat.lt_of_lt_of_le h2 m.le,by rw[m.row h2 hb];exact h3⟩
theorem Ar.st (hg:Ar h n0 v sz ty c l) {i:Nat} (hi:i<l.length) {vs:List V} (hv:vs=upto (c x) sz 0):Ar (h.st v.ba (v.of+i*sz) vs) n0 v sz ty c (l.set i x)∧Mo h (h.st v.ba (v.of+i*sz) vs) (some v.ba):=by
 have hvl:vs.length=sz:=by rw[hv,upto_len]
 obtain⟨b,p,rfl,h1,h2,h3⟩:=hg.own
 have hle:0+i*sz+vs.length≤l.length*sz:=by
  have:(i+1)*sz≤l.length*sz:=Nat.mul_le_mul_right _ hi
  rw[Nat.add_mul]at this
  omega
 refine⟨⟨by rw[List.length_set];exact hg.ln,⟨fun j k hj hk=>⟨?_⟩⟩,b,p,by rw[List.length_set],h1,by rw[st_next];exact h2,by rw[List.length_set,st_row];exact h3⟩,Nat.le_of_eq st_next.symm,fun j _ hne=>st_other fun e=>hne (congrArg some e.symm),wf_st⟩
 rw[List.length_set]at hj
 show(h.st b (0+i*sz) vs).cell b (0+j*sz+k)=some (c (gt (l.set i x) j) k)
 rw[st_cell h3 hle,gt_set hi]
 by_cases e:j=i
 ·subst e
  rw[if_pos ⟨by omega,by omega⟩,if_pos rfl,show 0+j*sz+k-(0+j*sz)=k by omega,hv,upto_get _ _ _ _ hk,Nat.zero_add]
 ·rw[if_neg,if_neg e]
  ·exact(hg.cs.eq j k hj hk).eq
  ·rw[hvl]
   intro hh
   rcases Nat.lt_or_gt_of_ne e with h5 | h5
   ·have:(j+1)*sz≤i*sz:=Nat.mul_le_mul_right _ h5
    rw[Nat.add_mul]at this
    omega
   ·have:(i+1)*sz≤j*sz:=Nat.mul_le_mul_right _ h5
    rw[Nat.add_mul]at this
    omega
theorem rep_len (z:List V):∀n,(rep z n).length=n*z.length
 | 0=>by simp[rep]
 | n+1=>by
  show(z++rep z n).length=_
  rw[List.length_append,rep_len z n,Nat.add_mul]
  omega
theorem flatG_rep {α:Type} {sz:Nat} {c:α→Nat→V} (x:α):∀n,flat c sz (List.replicate n x)=rep (upto (c x) sz 0) n
 | 0=>rfl
 | n+1=>by
  show upto (c x) sz 0++flat c sz (List.replicate n x)=upto (c x) sz 0++rep _ n
  rw[flatG_rep x n]
theorem allOne_rep {z:List V} (hz:allOne z=true):∀n,allOne (rep z n)=true
 | 0=>rfl
 | n+1=>allOne_append hz (allOne_rep hz n)
theorem ew_ms {C:Cx} {d by_ n:Nat} {us:List Nat} {ll:List So} {e:Env} {Q:Env→H→Prop} {z:List V} {y:Rd} {g:Option (Nat × Bool)} (x:α) (hr:∀v h1,Ar h1 h.next v sz ty c (List.replicate n x)→Kp h h1→Ew C ll ((d,v) :: e) h1 Q) (h1:n≤65536) (h2:n*by_≤4294967296) (hz:z=upto (c x) sz 0:=by exact rfl) (ho:allOne z=true:=by exact rfl)
  (hw:Gd e g true:=by first | exact .n | exact .tt rfl | exact .ff rfl) (hy:y.lk e=some (.i .i64 (n:Int)):=by exact rfl):Ew C (⟨g,some d,.ms ty sz by_ z y y,us⟩ :: ll) e h Q:=by
 have hl:(rep z n).length=n*sz:=by rw[rep_len,hz,upto_len]
 have hfl:rep z n=flat c sz (List.replicate n x):=by rw[hz,flatG_rep]
 refine ew_s hw (od_ms hy hy h1 h2 (allOne_rep ho n)) (hr _ _ ⟨by rw[List.length_replicate];exact .sl (Nat.le_refl _),⟨fun i k hi hk=>⟨?_⟩⟩,h.next,false,by rw[List.length_replicate],Nat.le_refl _,Nat.lt_succ_self _,by rw[new_row,if_pos rfl,hl,List.length_replicate]⟩ kp_new)
 show(h.new ty (rep z n) false).cell h.next (0+i*sz+k)=_
 rw[new_cell,if_pos rfl,Nat.zero_add,hfl,flatG_get _ _ _ hi hk]
end
end
section
variable {C:Cx} {d j:Nat} {ty:TypeId} {us:List Nat} {lm:List (So × Kd)} {e:Env} {hs h:H} {v:V} {x a:Rd} {Q:Env→H→Prop} {ls:List V} {g:Option (Nat × Bool)} {st:List (Option Nat × H)} {ps:List Pd}
theorem em_al (hr:∀b h1,Ob h1 h.next b ty ls→Kp h h1→Em C lm (j+1) ((d,.p b 0) :: e) hs h1 st ps Q) (hw:Gd e g true:=by first | exact .n | exact .tt rfl | exact .ff rfl) (hz:allOne ls=true:=by first | exact rfl |(repeat (first | exact allOne_nil | refine allOne_cons (by first | exact rfl | assumption | exact Ln.one (by assumption) | exact Ln.one (Ro.ln (by assumption)) | exact Ln.one (Gw.ln (by assumption))) ?_))):Em C ((⟨g,some d,.al ty ls,us⟩,.soft) :: lm) j e hs h st ps Q :=
 em_a hw (od_al hz) (hr _ _ ob_new kp_new)
theorem em_bx (hr:∀b h1,Ob h1 h.next b ty ls→Kp h h1→Em C lm (j+1) ((d,.p b 0) :: e) h1 h1 ((some j,h1) :: st) ps Q) (hw:Gd e g true:=by first | exact .n | exact .tt rfl | exact .ff rfl) (hx:x.lk e=some v:=by exact rfl) (hv:v.cells=ls:=by exact rfl) (hl:Lv j (h.new ty ls false).t ps:=by exact .nil) (hz:allOne ls=true:=by first | exact rfl |(repeat (first | exact allOne_nil | refine allOne_cons (by first | exact rfl | assumption | exact Ln.one (by assumption) | exact Ln.one (Ro.ln (by assumption)) | exact Ln.one (Gw.ln (by assumption))) ?_))):Em C ((⟨g,some d,.bx ty x,us⟩,.e) :: lm) j e hs h st ps Q :=
 em_e hw (od_bx hx hv hz) hl (hr _ _ ob_new kp_new)
theorem em_st {n0 b k n:Nat} {vs:List V} (ho:Ob h n0 b ty ls) (hr:∀h1,Ob h1 n0 b ty (ls.take k++(vs++ls.drop (k+vs.length)))→Mo h h1 (some b)→Em C lm (j+1) e h1 h1 ((some j,h1) :: st) ps Q) (hw:Gd e g true:=by first | exact .n | exact .tt rfl | exact .ff rfl) (ha:a.lk e=some (.p b k):=by exact rfl) (hx:x.lk e=some v:=by exact rfl) (hv:v.cells=vs:=by exact rfl) (hn:vs.length=n:=by exact rfl) (h1:allOne vs=true:=by first | exact rfl |(repeat (first | exact allOne_nil | refine allOne_cons (by first | exact rfl | assumption | exact Ln.one (by assumption) | exact Ln.one (Ro.ln (by assumption)) | exact Ln.one (Gw.ln (by assumption))) ?_))) (hle:Nat.ble (k+n) ls.length=true:=by exact rfl) (hl:ps = []:=by exact rfl):Em C ((⟨g,none,.st a x n,us⟩,.e) :: lm) j e hs h st ps Q:=by
 subst hl
 obtain⟨p,hp⟩:=ho.row
 have hle2:k+vs.length≤ls.length:=by rw[hn];exact Nat.le_of_ble_eq_true hle
 have h3:=st_ob ho hle2
 exact em_eu hw (od_st ha hx hv hn h1 hp (by rw[←hn];exact hle2)) .nil (hr _ h3.1 h3.2)
end
section
variable {α:Type} [Inhabited α] {sz:Nat} {c:α→Nat→V} {ty:TypeId} {h:H}
theorem em_ms {C:Cx} {d by_ n j:Nat} {us:List Nat} {lm:List (So × Kd)} {e:Env} {hs:H} {st:List (Option Nat × H)} {ps:List Pd} {Q:Env→H→Prop} {z:List V} {y:Rd} {g:Option (Nat × Bool)} (x:α) (hr:∀v h1,Ar h1 h.next v sz ty c (List.replicate n x)→Kp h h1→Em C lm (j+1) ((d,v) :: e) hs h1 st ps Q) (h1:n≤65536) (h2:n*by_≤4294967296) (hz:z=upto (c x) sz 0:=by exact rfl) (ho:allOne z=true:=by exact rfl)
  (hw:Gd e g true:=by first | exact .n | exact .tt rfl | exact .ff rfl) (hy:y.lk e=some (.i .i64 (n:Int)):=by exact rfl):Em C ((⟨g,some d,.ms ty sz by_ z y y,us⟩,.soft) :: lm) j e hs h st ps Q:=by
 have hl:(rep z n).length=n*sz:=by rw[rep_len,hz,upto_len]
 have hfl:rep z n=flat c sz (List.replicate n x):=by rw[hz,flatG_rep]
 refine em_a hw (od_ms hy hy h1 h2 (allOne_rep ho n)) (hr _ _ ⟨by rw[List.length_replicate];exact .sl (Nat.le_refl _),⟨fun i k hi hk=>⟨?_⟩⟩,h.next,false,by rw[List.length_replicate],Nat.le_refl _,Nat.lt_succ_self _,by rw[new_row,if_pos rfl,hl,List.length_replicate]⟩ kp_new)
 show(h.new ty (rep z n) false).cell h.next (0+i*sz+k)=_
 rw[new_cell,if_pos rfl,Nat.zero_add,hfl,flatG_get _ _ _ hi hk]
end
structure Mp (h:H) (n0 b:Nat) (k:IntKind) (ml:List (Int × V)):Prop where
 lo:n0≤b
 hi:b<h.next
 at_:MapAt h b k ml
theorem Mp.kp {h h':H} {n0 b:Nat} {k:IntKind} {ml:List (Int × V)} (kp:Kp h h') (hm:Mp h n0 b k ml):Mp h' n0 b k ml:=⟨hm.lo,Nat.lt_of_lt_of_le hm.hi kp.le,by
 have:=hm.at_
 unfold MapAt at this ⊢
 rw[kp.old.get b hm.hi]
 exact this⟩
theorem Mp.mo {h h':H} {n0 b:Nat} {k:IntKind} {ml:List (Int × V)} {b':Option Nat} (m:Mo h h' b') (hm:Mp h n0 b k ml) (hb:b'≠some b):Mp h' n0 b k ml:=⟨hm.lo,Nat.lt_of_lt_of_le hm.hi m.le,by
 have:=hm.at_
 unfold MapAt at this ⊢
 rw[m.get b hm.hi hb]
 exact this⟩
theorem wf_set {h:H} {b n:Nat} {o:O} (hw:Wf h) (hb:b<n) (hn:h.next≤n):Wf ⟨n,h.t.set b (some o)⟩:=fun k O hk=>by
 have hk:(h.t.set b (some o)).get k=some O:=hk
 rw[Tr.get_set]at hk
 show k<n
 by_cases e:k=b
 ·omega
 ·rw[if_neg e]at hk
  have:=hw k O hk
  omega
theorem kp_set {h:H} {o:O}:Kp h ⟨h.next+1,h.t.set h.next (some o)⟩:=⟨⟨Nat.le_succ _,fun k hk=>by
 show(h.t.set h.next (some o)).get k=_
 rw[Tr.get_set,if_neg (by omega)]⟩,fun hw=>wf_set hw (Nat.lt_succ_self _) (Nat.le_succ _)⟩
theorem mo_set {h:H} {b:Nat} {o:O} (hb:b<h.next):Mo h ⟨h.next,h.t.set b (some o)⟩ (some b):=⟨Nat.le_refl _,fun k _ hne=>by
 show(h.t.set b (some o)).get k=_
 rw[Tr.get_set,if_neg (fun e=>hne (by rw[e]))],fun hw=>wf_set hw hb (Nat.le_refl _)⟩
section
variable {C:Cx} {d b n0:Nat} {us:List Nat} {l:List So} {e:Env} {h:H} {x y z:Rd} {Q:Env→H→Prop} {k:IntKind} {ml:List (Int × V)} {p:Int} {vz:V}
theorem ew_mm (k:IntKind) (hr:∀b h1,Mp h1 h.next b k []→Kp h h1→Ew C l ((d,.m b) :: e) h1 Q):Ew C (⟨none,some d,.mm,us⟩ :: l) e h Q :=
 ew_s .n od_mm (hr _ _ ⟨Nat.le_refl _,Nat.lt_succ_self _,mm_at k⟩ kp_set)
theorem ew_mu (hm:Mp h n0 b k ml) (hr:∀h1,Mp h1 n0 b k (mIns p vz ml)→Mo h h1 (some b)→Ew C l e h1 Q) (hx:x.lk e=some (.m b):=by exact rfl) (hy:y.lk e=some (.i k p):=by exact rfl) (hz:z.lk e=some vz:=by exact rfl):Ew C (⟨none,none,.mu x y z,us⟩ :: l) e h Q :=
 ew_u .n (od_mu hm.at_ hx hy hz) (hr _ ⟨hm.lo,hm.hi,setM_at⟩ (mo_set hm.hi))
end
structure MF (ml:List (Int × V)) (F:Int→Int):Prop where
 val:∀q∈ml,q.2=.i .i64 (F q.1)
 has:∀c,F c≠0→∃q∈ml,q.1=c
 nd:(ml.map fun q=>q.1).Nodup
theorem MF.nil:MF [] fun _=>0:=⟨fun _q hq=>absurd hq List.not_mem_nil,fun _c hc=>absurd rfl hc,List.nodup_nil⟩
theorem mGet_mem {c:Int} {v:V}:∀{ml:List (Int × V)},mGet c ml=some v→(c,v)∈ml
 | [],h=>by cases h
 | q :: l,h=>by
  unfold mGet at h
  by_cases e:c=q.1
  ·rw[if_pos e]at h
   injection h with h
   subst h
   subst e
   exact List.mem_cons_self
  ·rw[if_neg e]at h
   exact List.mem_cons_of_mem _ (mGet_mem h)
theorem mGet_no {c:Int}:∀{ml:List (Int × V)},mGet c ml=none→∀q∈ml,q.1≠c
 | [],_,q,hq=>by cases hq
 | r :: l,h,q,hq=>by
  unfold mGet at h
  by_cases e:c=r.1
  ·rw[if_pos e]at h;cases h
  ·rw[if_neg e]at h
   rcases List.mem_cons.1 hq with rfl | hq
   ·exact fun h=>e h.symm
   ·exact mGet_no h q hq
theorem MF.get {ml:List (Int × V)} {F:Int→Int} (hm:MF ml F) (c:Int):(mGet c ml).getD (.i .i64 0)=.i .i64 (F c):=by
 cases hg:mGet c ml with
 | some v=>exact hm.val _ (mGet_mem hg)
 | none =>
  by_cases hc:F c=0
  ·rw[hc];rfl
  ·obtain⟨q,hq,e⟩:=hm.has c hc
   exact absurd e (mGet_no hg q hq)
theorem ins_keys (p:Int) (v:V):∀ml:List (Int × V),(mIns p v ml).map (fun q=>q.1)=(ml.map fun q=>q.1)∨(p ∉ (ml.map fun q=>q.1)∧(mIns p v ml).map (fun q=>q.1)=(ml.map fun q=>q.1)++[p])
 | []=>.inr ⟨List.not_mem_nil,rfl⟩
 | q :: l=>by
  unfold mIns
  by_cases e:p=q.1
  ·rw[if_pos e];exact .inl rfl
  ·rw[if_neg e]
   rcases ins_keys p v l with h | ⟨h1,h2⟩
   ·exact .inl (by rw[List.map_cons,h,List.map_cons])
   ·exact .inr ⟨fun hm=>by
     rw[List.map_cons]at hm
     rcases List.mem_cons.1 hm with h | h
     ·exact e h
     ·exact h1 h,by rw[List.map_cons,h2,List.map_cons,List.cons_append]⟩
theorem ins_self (p:Int) (v:V):∀ml:List (Int × V),(p,v)∈mIns p v ml
 | []=>List.mem_cons_self
 | q :: l=>by
  unfold mIns
  by_cases e:p=q.1
  ·rw[if_pos e,←e];exact List.mem_cons_self
  ·rw[if_neg e];exact List.mem_cons_of_mem _ (ins_self p v l)
theorem ins_other (p:Int) (v:V):∀(ml:List (Int × V)) (q:Int × V),q∈ml→q.1≠p→q∈mIns p v ml
 | r :: l,q,hq,hne=>by
  unfold mIns
  by_cases e:p=r.1
  ·rw[if_pos e]
   rcases List.mem_cons.1 hq with rfl | hq
   ·exact absurd e.symm hne
   ·exact List.mem_cons_of_mem _ hq
  ·rw[if_neg e]
   rcases List.mem_cons.1 hq with rfl | hq
   ·exact List.mem_cons_self
   ·exact List.mem_cons_of_mem _ (ins_other p v l q hq hne)
theorem ins_mem (p:Int) (v:V):∀(ml:List (Int × V)) (q:Int × V),(ml.map fun q=>q.1).Nodup→q∈mIns p v ml→q=(p,v)∨(q∈ml∧q.1≠p)
 | [],q,_,hq=>.inl (List.mem_singleton.1 hq)
 | r :: l,q,hn,hq=>by
  rw[List.map_cons,List.nodup_cons]at hn
  unfold mIns at hq
  by_cases e:p=r.1
  ·rw[if_pos e]at hq
   rcases List.mem_cons.1 hq with rfl | hq
   ·exact .inl (by rw[e])
   ·exact .inr ⟨List.mem_cons_of_mem _ hq,fun h=>hn.1 (by rw[←e,←h];exact List.mem_map_of_mem (f:=fun q:Int × V=>q.1) hq)⟩
  ·rw[if_neg e]at hq
   rcases List.mem_cons.1 hq with rfl | hq
   ·exact .inr ⟨List.mem_cons_self,fun h=>e h.symm⟩
   ·rcases ins_mem p v l q hn.2 hq with h | ⟨h1,h2⟩
    ·exact .inl h
    ·exact .inr ⟨List.mem_cons_of_mem _ h1,h2⟩
theorem MF.ins {ml:List (Int × V)} {F:Int→Int} (hm:MF ml F) (p z:Int):MF (mIns p (.i .i64 z) ml) fun c=>if c=p then z else F c:=⟨fun q hq=>by
 rcases ins_mem p _ ml q hm.nd hq with rfl | ⟨h1,h2⟩
 ·simp only[if_pos]
 ·rw[if_neg h2];exact hm.val q h1,fun c hc=>by
 by_cases e:c=p
 ·exact⟨_,ins_self p _ ml,e.symm⟩
 ·rw[if_neg e]at hc
  obtain⟨q,hq,e2⟩:=hm.has c hc
  exact⟨q,ins_other p _ ml q hq (by rw[e2];exact e),e2⟩,by
 rcases ins_keys p (.i .i64 z) ml with h | ⟨h1,h2⟩
 ·rw[h];exact hm.nd
 ·rw[h2]
  rw[List.nodup_append]
  refine⟨hm.nd,by simp,fun a ha b hb=>?_⟩
  rw[List.mem_singleton.1 hb]
  exact fun e=>h1 (e ▸ ha)⟩
structure It (h:H) (n0 b m n:Nat) (seen:List Nat):Prop where
 lo:n0≤b
 hi:b<h.next
 at_:IterAt h b m n seen
theorem It.kp {h h':H} {n0 b m n:Nat} {seen:List Nat} (kp:Kp h h') (hm:It h n0 b m n seen):It h' n0 b m n seen:=⟨hm.lo,Nat.lt_of_lt_of_le hm.hi kp.le,by
 have:=hm.at_
 unfold IterAt at this ⊢
 rw[kp.old.get b hm.hi]
 exact this⟩
def toCome (n:Nat) (seen:List Nat):Nat:=((List.range n).filter fun i=>!seen.contains i).length
theorem filter_len {p q:Nat→Bool} (hpq:∀i,q i=true→p i=true):∀(l:List Nat),(l.filter q).length≤(l.filter p).length
 | []=>Nat.le_refl _
 | a :: l=>by
  have ih:=filter_len hpq l
  rw[List.filter_cons,List.filter_cons]
  by_cases h1:q a=true
  ·rw[if_pos h1,if_pos (hpq a h1)]
   simp only[List.length_cons]
   omega
  ·rw[if_neg h1]
   split
   ·simp only[List.length_cons];omega
   ·exact ih
theorem filter_lt {p q:Nat→Bool} (hpq:∀i,q i=true→p i=true) {i:Nat} (h1:p i=true) (h2:q i=false):∀(l:List Nat),i∈l→(l.filter q).length<(l.filter p).length
 | [],h=>by cases h
 | a :: l,h=>by
  rw[List.filter_cons,List.filter_cons]
  have hl:=filter_len hpq l
  rcases List.mem_cons.1 h with rfl | h
  ·rw[if_pos h1,if_neg (by rw[h2];exact fun h=>by cases h)]
   simp only[List.length_cons]
   omega
  ·have ih:=filter_lt hpq h1 h2 l h
   by_cases h3:q a=true
   ·rw[if_pos h3,if_pos (hpq a h3)]
    simp only[List.length_cons]
    omega
   ·rw[if_neg h3]
    split
    ·simp only[List.length_cons];omega
    ·exact ih
theorem toCome_lt {n i:Nat} {seen:List Nat} (hi:i<n) (hs:i ∉ seen):toCome n (seen++[i])<toCome n seen:=by
 unfold toCome
 refine filter_lt (i:=i) (fun j hj=>?_) ?_ ?_ _ (List.mem_range.2 hi)
 ·simp only[Bool.not_eq_true',List.contains_eq_mem,decide_eq_false_iff_not]at hj ⊢
  exact fun h=>hj (List.mem_append_left _ h)
 ·simp only[Bool.not_eq_true',List.contains_eq_mem,decide_eq_false_iff_not]
  exact hs
 ·simp
section
variable {C:Cx} {d b n0 m1 m:Nat} {us:List Nat} {l:List So} {e:Env} {h:H} {x:Rd} {Q:Env→H→Prop} {k:IntKind} {ml:List (Int × V)} {seen:List Nat}
theorem ew_rg (hm:Mp h n0 m k ml) (hr:∀b h1,It h1 h.next b m ml.length []→Kp h h1→Ew C l ((d,.p b 0) :: e) h1 Q) (hx:x.lk e=some (.m m):=by exact rfl):Ew C (⟨none,some d,.rg x,us⟩ :: l) e h Q :=
 ew_s .n (od_rg hx hm.at_) (hr _ _ ⟨Nat.le_refl _,Nat.lt_succ_self _,by
  show(h.t.set h.next _).get h.next=_
  rw[Tr.get_set,if_pos rfl]⟩ kp_set)
theorem ew_next (hC:C.m=false) (hm:Mp h n0 m k ml) (hi:It h m1 b m ml.length seen)
  (h0:(∀i,i<ml.length→i∈seen)→Ew C l ((d,.tup [.b false]) :: e) h Q)
  (h1:∀i (hl:i<ml.length) h1,i ∉ seen→It h1 m1 b m ml.length (seen++[i])→Mo h h1 (some b)→Ew C l ((d,.tup [.b true,.i k (ml[i]).1,(ml[i]).2]) :: e) h1 Q)
  (hx:x.lk e=some (.p b 0):=by exact rfl):Ew C (⟨none,some d,.nx x,us⟩ :: l) e h Q:=by
 obtain⟨cs,hn,hall⟩:=nx_cases hm.at_ hi.at_
 refine ew_nx hC hx hn fun c hc=>?_
 rcases hall c hc with⟨rfl,hs⟩ | ⟨i,hl,hs,rfl⟩
 ·exact h0 hs
 ·exact h1 i hl _ hs ⟨hi.lo,hi.hi,setI_at⟩ (mo_set hi.hi)
theorem find_ens (k:IntKind):∀(j:Nat) (l:List (Int × V)) (i:Nat) (hi:i<l.length),(ens k j l).find? (fun e=>Nat.beq e.born (j+i))=some ⟨k,(l[i]).1,(l[i]).2,j+i⟩
 | _,[],i,hi=>absurd hi (Nat.not_lt_zero _)
 | j,p :: l,0,_=>by
  show List.find? _ (⟨k,p.1,p.2,j⟩ :: ens k (j+1) l)=_
  rw[List.find?_cons_of_pos]
  ·rfl
  ·exact Nat.beq_refl j
 | j,p :: l,i+1,hi=>by
  have:=find_ens k (j+1) l i (Nat.lt_of_succ_lt_succ hi)
  rw[show j+1+i=j+(i+1) by omega]at this
  show List.find? _ (⟨k,p.1,p.2,j⟩ :: ens k (j+1) l)=_
  rw[List.find?_cons_of_neg]
  ·exact this
  ·intro h
   have:=Nat.eq_of_beq_eq_true h
   have:j=j+(i+1):=this
   omega
theorem ew_en {i:Nat} (hm:Mp h n0 m k ml) (hi:It h m1 b m ml.length (seen++[i])) (hl:i<ml.length) (hr:Ew C l ((d,.tup [.i k (ml[i]).1,(ml[i]).2]) :: e) h Q) (hx:x.lk e=some (.p b 0):=by exact rfl):Ew C (⟨none,some d,.en x,us⟩ :: l) e h Q:=by
 refine ew_s .n (⟨fun t ht=>⟨?_⟩⟩:Od (.en x) e h (.tup [.i k (ml[i]).1,(ml[i]).2]) h) hr
 have h1:=hi.at_
 have h2:=hm.at_
 unfold IterAt at h1
 unfold MapAt at h2
 have h3:=find_ens k 0 ml i hl
 rw[Nat.zero_add]at h3
 simp only[tdo,Rd.lk_val hx ht,asP]
 show bb (Nat.beq 0 0) (entryK h b fun v=>some (v,h))=_
 rw[show Nat.beq 0 0=true from rfl,bb_t]
 unfold entryK mapK
 rw[h1,ob_s]
 simp only
 rw[h2,ob_s]
 simp only
 rw[Nat.beq_refl,bb_t,List.getLast?_append,List.getLast?_singleton]
 simp only[Option.some_or,ob_s]
 rw[h3,ob_s]
end
theorem ew_ar {α:Type} [Inhabited α] {C:Cx} {n0 sz i:Nat} {us:List Nat} {ll:List So} {e:Env} {h:H} {Q:Env→H→Prop} {v w:V} {ty:TypeId} {c:α→Nat→V} {l:List α} {a xr:Rd} {vs:List V} {g:Option (Nat × Bool)} (x:α) (ho:Ar h n0 v sz ty c l) (hi:i<l.length) (hr:∀h1,Ar h1 n0 v sz ty c (l.set i x)→Mo h h1 (some v.ba)→Ew C ll e h1 Q)
  (hw:Gd e g true:=by first | exact .n | exact .tt rfl | exact .ff rfl) (ha:a.lk e=some (.p v.ba (v.of+i*sz)):=by exact rfl) (hx:xr.lk e=some w:=by exact rfl) (hv:w.cells=vs:=by exact rfl) (hu:vs=upto (c x) sz 0:=by exact rfl) (h1:allOne vs=true:=by exact rfl):Ew C (⟨g,none,.st a xr sz,us⟩ :: ll) e h Q:=by
 have h3:=ho.st (x:=x) hi hu
 obtain⟨b,p,hb,h4,h5,h6⟩:=ho.own
 have hle:v.of+i*sz+sz≤l.length*sz:=by
  have:(i+1)*sz≤l.length*sz:=Nat.mul_le_mul_right _ hi
  rw[Nat.add_mul]at this
  rw[hb]
  show 0+i*sz+sz≤_
  omega
 have h7:h.row v.ba=some (ty,l.length*sz,p):=by rw[hb];exact h6
 exact ew_u hw (od_st ha hx hv (by rw[hu,upto_len]) h1 h7 hle) (hr _ h3.1 h3.2)
def cutV (v:V) (m:Nat):V:=match v with
 | .sl b o _ cap kn sz=>.sl b o m cap kn sz
 | v=>v
theorem cut_ln {v:V} {sz n m:Nat} (hl:Ln v sz n) (hm:m≤n):Ln (cutV v m) sz m∧(cutV v m).ba=v.ba∧(cutV v m).of=v.of:=by
 rcases hl.is with⟨rfl,rfl⟩ | ⟨b,o,cap,kn,rfl,h⟩
 ·obtain rfl:m=0:=by omega
  exact⟨.ns,rfl,rfl⟩
 ·exact⟨.sl (by omega),rfl,rfl⟩
theorem cut_cs {h:H} {v:V} {sz n m:Nat} {F:Nat→Nat→V} (hl:Ln v sz n) (hm:m≤n) (hc:Cs h v sz n F):Cs h (cutV v m) sz m F:=by
 obtain⟨-,h1,h2⟩:=cut_ln hl hm
 exact⟨fun i k hi hk=>by rw[h1,h2];exact hc.eq i k (by omega) hk⟩
theorem ew_cut {C:Cx} {d sz n m:Nat} {us:List Nat} {l:List So} {e:Env} {h:H} {Q:Env→H→Prop} {v:V} {x y:Rd} (hl:Ln v sz n) (hm:m≤n) (hr:Ew C l ((d,cutV v m) :: e) h Q) (hx:x.lk e=some v:=by exact rfl) (hy:y.lk e=some (.i .i64 (m:Int)):=by exact rfl):Ew C (⟨none,some d,.s2 sz x none (some y),us⟩ :: l) e h Q:=by
 rcases hl.is with⟨rfl,rfl⟩ | ⟨b,o,cap,kn,rfl,h1⟩
 ·obtain rfl:m=0:=by omega
  exact ew_s .n (od_s2n hx .no (.at hy)) hr
 ·have h2:=od_s2 (h:=h) (lo:=none) (hi:=some y) hx .no (.at hy) (Nat.zero_le m) (by omega:m≤cap)
  rw[Nat.zero_mul,Nat.add_zero,ite_self,Nat.sub_zero,Nat.sub_zero]at h2
  exact ew_s .n h2 hr
theorem Ew.to {C:Cx} {l:List So} {e:Env} {h:H} {Q:Env→H→Prop} {X:Type} (env:X→Env) (φ:X→H→Prop) (hs:Ew C l e h fun e h=>∃x,Cov e (env x)∧φ x h) (hb:∀x h,φ x h→Q (env x) h):Ew C l e h Q :=
 ⟨fun t ht=>wpX_mono (fun _ h ⟨_,ht,x,hc,hp⟩=>⟨env x,ht.cov hc,hb x h hp⟩) _ _ _ (hs.run t ht)⟩
end Go.Proofs.YtkcdehffcddciaaGreatDoor.Vm
