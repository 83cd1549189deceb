/- What each operation comes to, over what temporaries hold. -/
import Derived.Test.YtkcdehffcddciaaGreatDoorQ15
namespace Go.Proofs.YtkcdehffcddciaaGreatDoor.Vm
open Go Go.RowKit
noncomputable section
/-! ### Memory -/
structure Ce (h:H) (b o:Nat) (v:V):Prop where
 eq:h.cell b o=some v
structure Rw (h:H) (b n o:Nat) (l:List V):Prop where
 eq:rowC h b n o=some l
def upto (g:Nat→V):Nat→Nat→List V
 | 0,_=>[]
 | n+1,o=>g o :: upto g n (o+1)
theorem Rw.nil {h:H} {b o:Nat}:Rw h b 0 o []:=⟨rfl⟩
theorem Rw.cons {h:H} {b o n:Nat} {v:V} {l:List V} (hc:Ce h b o v) (hr:Rw h b n (o+1) l):Rw h b (n+1) o (v :: l):=⟨by
 show ob (h.cell b o) _=_
 rw[hc.eq,ob_s,hr.eq]
 rfl⟩
theorem Rw.upto {h:H} {b:Nat} {g:Nat→V}:∀{n o k:Nat},(∀j,j<n→Ce h b (o+j) (g (k+j)))→Rw h b n o (upto g n k)
 | 0,_,_,_=>.nil
 | n+1,o,k,hc=>.cons (hc 0 (Nat.zero_lt_succ _)) (Rw.upto fun j hj=>by
  have:=hc (j+1) (by omega)
  rw[show o+(j+1)=o+1+j by omega,show k+(j+1)=k+1+j by omega]at this
  exact this)
theorem Rw.ce {h:H} {b:Nat}:∀{n o:Nat} {l:List V},Rw h b n o l→l.length=n∧∀j,(hj:j<l.length)→Ce h b (o+j) l[j]
 | 0,o,l,hr=>by
  have:some []=some l:=hr.eq
  injection this with this
  subst this
  exact⟨rfl,fun j hj=>absurd hj (Nat.not_lt_zero _)⟩
 | n+1,o,l,hr=>by
  obtain⟨v,hv,h1⟩:=ob_some hr.eq
  obtain⟨q,hq,h1⟩:=ob_some h1
  injection h1 with h1
  subst h1
  obtain⟨h2,h3⟩:=Rw.ce (n:=n) (o:=o+1) ⟨hq⟩
  refine⟨by rw[List.length_cons,h2],fun j hj=>?_⟩
  cases j with
  | zero=>exact⟨hv⟩
  | succ j =>
   have:=h3 j (by rw[List.length_cons]at hj;omega)
   rw[show o+(j+1)=o+1+j by omega]
   exact this
theorem Ce.old {h h':H} {b o:Nat} {v:V} (ho:Old h.next h h') (hw:Wf h) (hc:Ce h b o v):Ce h' b o v:=⟨ho.cell' hw hc.eq⟩
structure Kp (h h':H):Prop where
 old:Old h.next h h'
 wf:Wf h→Wf h'
theorem Kp.refl (h:H):Kp h h:=⟨.rfl_ (Nat.le_refl _),id⟩
theorem Kp.trans {h h' h2:H} (a:Kp h h') (b:Kp h' h2):Kp h h2:=⟨⟨Nat.le_trans a.old.le b.old.le,fun k hk=>(b.old.get k (Nat.lt_of_lt_of_le hk a.old.le)).trans (a.old.get k hk)⟩,fun hw=>b.wf (a.wf hw)⟩
theorem Kp.le {h h':H} (a:Kp h h'):h.next≤h'.next:=a.old.le
theorem Ce.kp {h h':H} {b o:Nat} {v:V} (k:Kp h h') (hw:Wf h) (hc:Ce h b o v):Ce h' b o v:=hc.old k.old hw
theorem wf_new {h:H} {ty:TypeId} {l:List V} {p:Bool} (hw:Wf h):Wf (h.new ty l p):=fun b O hb=>by
 rw[new_get]at hb
 show b<h.next+1
 split at hb
 ·omega
 ·have:=hw b O hb;omega
theorem wf_st {h:H} {b o:Nat} {l:List V} (hw:Wf h):Wf (h.st b o l):=fun b' O hb=>by
 rw[st_next]
 by_cases e:b'=b
 ·subst e
  cases hb':h.t.get b' with
  | none=>unfold H.st at hb;rw[hb']at hb;simp only at hb;rw[hb']at hb;cases hb
  | some O'=>exact hw b' O' hb'
 ·rw[st_other e]at hb
  exact hw b' O hb
theorem kp_new {h:H} {ty:TypeId} {l:List V} {p:Bool}:Kp h (h.new ty l p):=⟨new_old,wf_new⟩
theorem Ce.lt {h:H} {b o:Nat} {v:V} (hw:Wf h) (hc:Ce h b o v):b<h.next:=cell_lt hw hc.eq
theorem Ce.uniq {h:H} {b o:Nat} {v w:V} (h1:Ce h b o v) (h2:Ce h b o w):v=w:=by
 have:=h1.eq.symm.trans h2.eq
 injection this
theorem Rw.old {h h':H} {b n o:Nat} {l:List V} (ho:Old h.next h h') (hw:Wf h) (hr:Rw h b n o l):Rw h' b n o l:=by
 obtain⟨rfl,hc⟩:=hr.ce
 clear hr
 induction l generalizing o with
 | nil=>exact .nil
 | cons v l ih =>
  refine .cons ((hc 0 (Nat.zero_lt_succ _)).old ho hw) (ih fun j hj=>?_)
  have:=hc (j+1) (by rw[List.length_cons];omega)
  rw[show o+(j+1)=o+1+j by omega]at this
  exact this
def _root_.Go.Proofs.YtkcdehffcddciaaGreatDoor.Vm.V.ba:V→Nat
 | .sl b _ _ _ _ _=>b
 | _=>0
def _root_.Go.Proofs.YtkcdehffcddciaaGreatDoor.Vm.V.of:V→Nat
 | .sl _ o _ _ _ _=>o
 | _=>0
structure Ln (v:V) (sz n:Nat):Prop where
 is:(v=.ns∧n=0)∨∃b o cap kn,v=.sl b o n cap kn sz∧n≤cap
structure Cs (h:H) (v:V) (sz n:Nat) (F:Nat→Nat→V):Prop where
 eq:∀i k,i<n→k<sz→Ce h v.ba (v.of+i*sz+k) (F i k)
theorem Ln.ns {sz:Nat}:Ln .ns sz 0:=⟨.inl ⟨rfl,rfl⟩⟩
theorem Ln.sl {b o n cap sz:Nat} {kn:Bool} (h:n≤cap):Ln (.sl b o n cap kn sz) sz n:=⟨.inr ⟨b,o,cap,kn,rfl,h⟩⟩
theorem Ln.at_ {v:V} {sz n:Nat} (hl:Ln v sz n) (hn:0<n):∃cap kn,v=.sl v.ba v.of n cap kn sz∧n≤cap:=by
 rcases hl.is with⟨_,rfl⟩ | ⟨b,o,cap,kn,rfl,h⟩
 ·omega
 ·exact⟨cap,kn,rfl,h⟩
theorem Ln.inj {v:V} {sz sz' n n':Nat} (h1:Ln v sz n) (h2:Ln v sz' n'):n=n':=by
 rcases h1.is with⟨rfl,h3⟩ | ⟨b,o,cap,kn,rfl,_⟩ <;> rcases h2.is with⟨h4,h5⟩ | ⟨b',o',cap',kn',h4,_⟩
 ·omega
 ·cases h4
 ·cases h4
 ·injection h4
theorem Cs.at_ {h:H} {v:V} {sz n i k:Nat} {F:Nat→Nat→V} (hc:Cs h v sz n F) (hi:i<n) (hk:k<sz):Ce h v.ba (v.of+i*sz+k) (F i k):=hc.eq i k hi hk
theorem Cs.hd {h:H} {v:V} {sz n k:Nat} {F:Nat→Nat→V} (hc:Cs h v sz n F) (hi:0<n) (hk:k<sz):Ce h v.ba (v.of+k) (F 0 k):=by
 have:=hc.eq 0 k hi hk
 rw[Nat.zero_mul,Nat.add_zero]at this
 exact this
theorem Cs.hd0 {h:H} {v:V} {sz n:Nat} {F:Nat→Nat→V} (hc:Cs h v sz n F) (hi:0<n) (hk:0<sz):Ce h v.ba v.of (F 0 0):=hc.hd hi hk
theorem Cs.row {h:H} {v:V} {sz n i:Nat} {F:Nat→Nat→V} (hc:Cs h v sz n F) (hi:i<n):Rw h v.ba sz (v.of+i*sz) (upto (F i) sz 0):=.upto fun j hj=>by
 have:=hc.eq i j hi hj
 rw[Nat.zero_add]
 exact this
theorem Cs.old {h h':H} {v:V} {sz n:Nat} {F:Nat→Nat→V} (ho:Old h.next h h') (hw:Wf h) (hc:Cs h v sz n F):Cs h' v sz n F:=⟨fun i k hi hk=>(hc.eq i k hi hk).old ho hw⟩
theorem Cs.kp {h h':H} {v:V} {sz n:Nat} {F:Nat→Nat→V} (k:Kp h h') (hw:Wf h) (hc:Cs h v sz n F):Cs h' v sz n F:=hc.old k.old hw
theorem Rw.kp {h h':H} {b n o:Nat} {l:List V} (k:Kp h h') (hw:Wf h) (hr:Rw h b n o l):Rw h' b n o l:=hr.old k.old hw
theorem Cs.mono {h h':H} {v:V} {sz n:Nat} {F:Nat→Nat→V} (hc:Cs h v sz n F) (hs:∀b o w,Ce h b o w→Ce h' b o w):Cs h' v sz n F:=⟨fun i k hi hk=>hs _ _ _ (hc.eq i k hi hk)⟩
/-! ### Operations -/
section
variable {e:Env} {h h':H} {v v' w':V} {x y a i c:Rd} {b o n m sz len cap z:Nat} {k:IntKind} {kn:Bool} {p q:Int} {l:List V}
theorem od_mv (hx:x.lk e=some v):Od (.mv x) e h v h:=⟨fun _ ht=>do_mv (Rd.lk_val hx ht)⟩
theorem od_ld (ha:a.lk e=some (.p b o)) (hc:Ce h b o v):Od (.ld a) e h v h:=⟨fun _ ht=>do_ld (Rd.lk_val ha ht) hc.eq⟩
theorem od_lds (ha:a.lk e=some (.p b o)) (hl:Rw h b (n+1) o l):Od (.lds a (n+1)) e h (.agg l) h:=⟨fun _ ht=>do_lds (Rd.lk_val ha ht) hl.eq⟩
theorem od_fa (hx:x.lk e=some (.p b o)):Od (.fa x m) e h (.p b (o+m)) h:=⟨fun _ ht=>do_fa (Rd.lk_val hx ht)⟩
theorem od_nc (hx:x.lk e=some (.p b o)):Od (.nc x) e h (.p b o) h:=⟨fun _ ht=>do_nc (Rd.lk_val hx ht)⟩
theorem od_ncf {f:FuncId} {s t:List V} (hx:x.lk e=some (.fn (.func f) s t)):Od (.nc x) e h (.fn (.func f) s t) h:=⟨fun _ ht=>⟨by simp only[tdo,Rd.lk_val hx ht]⟩⟩
theorem od_ia (hi:i.lk e=some (.i k (n:Int))) (hx:x.lk e=some v) (hl:Ln v sz m) (hn:n<m):Od (.ia x i sz) e h (.p v.ba (v.of+n*sz)) h:=⟨fun t ht=>by
 obtain⟨cap,kn,hv,_⟩:=hl.at_ (by omega)
 exact do_ia (Rd.lk_val hi ht) ((Rd.lk_val hx ht).trans hv) hn⟩
theorem od_iaI (hi:i.lk e=some (.i k p)) (hx:x.lk e=some v) (hl:Ln v sz m) (h0:0≤p) (hn:p.toNat<m):Od (.ia x i sz) e h (.p v.ba (v.of+p.toNat*sz)) h:=by
 refine od_ia (k:=k) ?_ hx hl hn
 rw[Int.toNat_of_nonneg h0]
 exact hi
theorem od_ia0 (hi:i.lk e=some (.i k 0)) (hx:x.lk e=some v) (hl:Ln v sz m) (hn:0<m):Od (.ia x i sz) e h (.p v.ba v.of) h:=by
 have:=od_ia (i:=i) (n:=0) (h:=h) hi hx hl hn
 rwa [Nat.zero_mul,Nat.add_zero]at this
theorem od_len (hx:x.lk e=some v) (hl:Ln v sz n):Od (.len x) e h (.i .i64 (n:Int)) h:=⟨fun t ht=>⟨by
 have:=Rd.lk_val hx ht
 rcases hl.is with⟨rfl,rfl⟩ | ⟨b,o,cap,kn,rfl,_⟩ <;> (simp only[tdo,this];rfl)⟩⟩
theorem od_pkt {l r:Rd} (hc:c.lk e=some (.b true)) (hl:l.lk e=some v):Od (.pk c l r) e h v h:=⟨fun _ ht=>do_pkt (Rd.lk_val hc ht) (Rd.lk_val hl ht)⟩
theorem od_pkf {l r:Rd} (hc:c.lk e=some (.b false)) (hl:r.lk e=some v):Od (.pk c l r) e h v h:=⟨fun _ ht=>do_pkf (Rd.lk_val hc ht) (Rd.lk_val hl ht)⟩
theorem od_pk {w:Bool} {l r:Rd} (hc:c.lk e=some (.b w)) (hl:l.lk e=some v) (hr:r.lk e=some v'):Od (.pk c l r) e h (cond w v v') h:=by
 cases w with
 | true=>exact od_pkt hc hl
 | false=>exact od_pkf hc hr
theorem od_nt {w:Bool} (hx:x.lk e=some (.b w)):Od (.nt x) e h (.b (!w)) h:=⟨fun _ ht=>do_nt (Rd.lk_val hx ht)⟩
theorem od_ex (hx:x.lk e=some (.tup l)) (hv:l[m]?=some v):Od (.ex x m) e h v h:=⟨fun _ ht=>do_ex (Rd.lk_val hx ht) hv⟩
theorem od_inc (hx:x.lk e=some (.i .i64 (n:Int))) (hy:y.lk e=some (.i .i64 1)) (hn:n<9223372036854775807):Od (.ar .add x y) e h (.i .i64 ((n+1:Nat):Int)) h:=⟨fun _ ht=>do_inc (Rd.lk_val hx ht) (Rd.lk_val hy ht) hn⟩
theorem od_addN (hx:x.lk e=some (.i .i64 (n:Int))) (hy:y.lk e=some (.i .i64 (m:Int))) (hn:n+m<9223372036854775808):Od (.ar .add x y) e h (.i .i64 ((n+m:Nat):Int)) h:=⟨fun _ ht=>by
 have:=do_add (h:=h) (Rd.lk_val hx ht) (Rd.lk_val hy ht) (by omega) (by omega)
 rw[←Int.natCast_add]at this
 exact this⟩
theorem od_add (hx:x.lk e=some (.i .i64 p)) (hy:y.lk e=some (.i .i64 q)) (h1:-9223372036854775808≤p+q∧p+q<9223372036854775808):Od (.ar .add x y) e h (.i .i64 (p+q)) h:=⟨fun _ ht=>do_add (Rd.lk_val hx ht) (Rd.lk_val hy ht) h1.1 h1.2⟩
theorem od_sub (hx:x.lk e=some (.i .i64 p)) (hy:y.lk e=some (.i .i64 q)) (h1:-9223372036854775808≤p-q∧p-q<9223372036854775808):Od (.ar .sub x y) e h (.i .i64 (p-q)) h:=⟨fun _ ht=>do_sub (Rd.lk_val hx ht) (Rd.lk_val hy ht) h1.1 h1.2⟩
theorem od_dec (hx:x.lk e=some (.i .i64 ((n+1:Nat):Int))) (hy:y.lk e=some (.i .i64 1)) (hn:n<9223372036854775807):Od (.ar .sub x y) e h (.i .i64 (n:Int)) h:=by
 have:=od_sub (h:=h) hx hy ⟨by omega,by omega⟩
 rwa [show((n+1:Nat):Int)-1=n by omega]at this
theorem od_mul (hx:x.lk e=some (.i .i64 p)) (hy:y.lk e=some (.i .i64 q)) (h1:-9223372036854775808≤p*q∧p*q<9223372036854775808):Od (.ar .mul x y) e h (.i .i64 (p*q)) h:=⟨fun _ ht=>⟨by
 simp only[tdo,Rd.lk_val hx ht,Rd.lk_val hy ht,asI,decide_true,bb_t,arith,mkI_eq,wrap64 h1.1 h1.2]⟩⟩
theorem od_quo (hx:x.lk e=some (.i .i64 p)) (hy:y.lk e=some (.i .i64 q)) (h0:q≠0) (h1:-9223372036854775808≤p.tdiv q∧p.tdiv q<9223372036854775808):Od (.ar .quo x y) e h (.i .i64 (p.tdiv q)) h:=⟨fun _ ht=>⟨by
 have:(q != 0)=true:=by simpa using h0
 simp only[tdo,Rd.lk_val hx ht,Rd.lk_val hy ht,asI,decide_true,bb_t,arith,mkI_eq,this,wrap64 h1.1 h1.2]⟩⟩
theorem od_rem (hx:x.lk e=some (.i .i64 p)) (hy:y.lk e=some (.i .i64 q)) (h0:q≠0):Od (.ar .rem x y) e h (.i .i64 (p.tmod q)) h:=⟨fun _ ht=>⟨by
 have:(q != 0)=true:=by simpa using h0
 simp only[tdo,Rd.lk_val hx ht,Rd.lk_val hy ht,asI,decide_true,bb_t,arith,mkI_eq,this]⟩⟩
theorem od_lss (hx:x.lk e=some (.i k p)) (hy:y.lk e=some (.i k q)):Od (.ar .lss x y) e h (.b (decide (p<q))) h:=⟨fun _ ht=>do_lss (Rd.lk_val hx ht) (Rd.lk_val hy ht) rfl⟩
theorem od_leq (hx:x.lk e=some (.i k p)) (hy:y.lk e=some (.i k q)):Od (.ar .leq x y) e h (.b (decide (p≤q))) h:=⟨fun _ ht=>do_leq (Rd.lk_val hx ht) (Rd.lk_val hy ht) rfl⟩
theorem od_gtr (hx:x.lk e=some (.i k p)) (hy:y.lk e=some (.i k q)):Od (.ar .gtr x y) e h (.b (decide (q<p))) h:=⟨fun _ ht=>do_gtr (Rd.lk_val hx ht) (Rd.lk_val hy ht) rfl⟩
theorem od_geq (hx:x.lk e=some (.i k p)) (hy:y.lk e=some (.i k q)):Od (.ar .geq x y) e h (.b (decide (q≤p))) h:=⟨fun _ ht=>do_geq (Rd.lk_val hx ht) (Rd.lk_val hy ht) rfl⟩
theorem od_eqI (hx:x.lk e=some (.i k p)) (hy:y.lk e=some (.i k q)):Od (.eq .int false x y) e h (.b (decide (p=q))) h:=⟨fun _ ht=>do_eqI (Rd.lk_val hx ht) (Rd.lk_val hy ht) rfl⟩
theorem od_neI (hx:x.lk e=some (.i k p)) (hy:y.lk e=some (.i k q)):Od (.eq .int true x y) e h (.b (!decide (p=q))) h:=⟨fun _ ht=>do_neI (Rd.lk_val hx ht) (Rd.lk_val hy ht) rfl⟩
theorem eqCells_int:∀(l r:List V) (ps:List (IntKind × Int × Int)),l=ps.map (fun p=>V.i p.1 p.2.1)→r=ps.map (fun p=>V.i p.1 p.2.2)→eqCells (ps.map fun _=>true) l r=some (decide (∀p∈ps,p.2.1=p.2.2))
 | _,_,[],h1,h2=>by subst h1 h2;rfl
 | l,r,p :: ps,h1,h2=>by
  subst h1 h2
  have ih:=eqCells_int _ _ ps rfl rfl
  simp only[List.map_cons,eqCells,ih,decide_true,bb_t,br_eq]
  by_cases hp:p.2.1=p.2.2
  ·simp[hp]
  ·simp[hp]
theorem od_neS {ks:List Bool} {lx ly:List V} (ps:List (IntKind × Int × Int)) (hx:x.lk e=some (.agg lx)) (hy:y.lk e=some (.agg ly)) (hk:ks=ps.map fun _=>true) (h1:lx=ps.map (fun p=>V.i p.1 p.2.1)) (h2:ly=ps.map (fun p=>V.i p.1 p.2.2)):Od (.eq (.struct ks) true x y) e h (.b (!decide (∀p∈ps,p.2.1=p.2.2))) h:=⟨fun _ ht=>⟨by
 have:=eqCells_int lx ly ps h1 h2
 rw[←hk]at this
 simp only[tdo,Rd.lk_val hx ht,Rd.lk_val hy ht,eqV,this,ob_s,mkB_eq]
 simp⟩⟩
theorem od_eqB {u w:Bool} (hx:x.lk e=some (.b u)) (hy:y.lk e=some (.b w)):Od (.eq .bool false x y) e h (.b (u == w)) h:=⟨fun _ ht=>⟨by simp only[tdo,Rd.lk_val hx ht,Rd.lk_val hy ht,eqV,ob_s,mkB_eq];simp⟩⟩
theorem od_neB {u w:Bool} (hx:x.lk e=some (.b u)) (hy:y.lk e=some (.b w)):Od (.eq .bool true x y) e h (.b (u != w)) h:=⟨fun _ ht=>⟨by simp only[tdo,Rd.lk_val hx ht,Rd.lk_val hy ht,eqV,ob_s,mkB_eq];cases u <;> cases w <;> rfl⟩⟩
theorem od_al {ty:TypeId} (hz:allOne l=true):Od (.al ty l) e h (.p h.next 0) (h.new ty l false):=⟨fun _ _=>do_al hz⟩
theorem od_bx {ty:TypeId} (hx:x.lk e=some v) (hv:v.cells=l) (hz:allOne l=true):Od (.bx ty x) e h (.p h.next 0) (h.new ty l false):=⟨fun _ ht=>by
 subst hv
 exact do_bx (Rd.lk_val hx ht) hz⟩
def partsE (e:Env):List (Nat × Nat × Rd)→Option (List (Nat × Nat × V))
 | []=>some []
 | x :: l=>match x.2.2.lk e,partsE e l with
  | some v,some vs=>some ((x.1,x.2.1,v) :: vs)
  | _,_=>none
theorem partsE_vals {e:Env} {t:Tr V} (ht:Tm t e):∀(l:List (Nat × Nat × Rd)) (vs:List (Nat × Nat × V)),partsE e l=some vs→partsV t l=vs
 | [],vs,h=>by injection h
 | x :: l,vs,h=>by
  unfold partsE at h
  split at h
  ·rename_i v ws h1 h2
   injection h with h
   subst h
   show(x.1,x.2.1,x.2.2.val t) :: partsV t l=_
   rw[Rd.lk_val h1 ht,partsE_vals ht l ws h2]
  ·cases h
theorem od_bd {zs:List V} {ps:List (Nat × Nat × Rd)} {vs:List (Nat × Nat × V)} (hp:partsE e ps=some vs) (hf:fillL zs vs=some l):Od (.bd zs ps) e h (.agg l) h:=⟨fun _ ht=>⟨by
 simp only[tdo,partsE_vals ht ps vs hp,hf]
 rfl⟩⟩
theorem od_bs {ty:TypeId} {zs:List V} {ps:List (Nat × Nat × Rd)} {vs:List (Nat × Nat × V)} (hp:partsE e ps=some vs) (hf:fillL (rep zs len) vs=some l) (hz:allOne l=true):Od (.bs ty len sz zs ps) e h (.sl h.next 0 len len true sz) (h.new ty l false):=⟨fun _ ht=>⟨by
 simp only[tdo,partsE_vals ht ps vs hp,hf,ob_s,newRow_eq,hz,bb_t]
 rfl⟩⟩
theorem od_ms {ty:TypeId} {by_:Nat} {zs:List V} (hx:x.lk e=some (.i .i64 (n:Int))) (hy:y.lk e=some (.i .i64 (n:Int))) (h1:n≤65536) (h2:n*by_≤4294967296) (hz:allOne (rep zs n)=true):Od (.ms ty sz by_ zs x y) e h (.sl h.next 0 n n true sz) (h.new ty (rep zs n) false):=⟨fun _ ht=>do_ms (Rd.lk_val hx ht) (Rd.lk_val hy ht) h1 h2 hz⟩
theorem od_fl (hx:x.lk e=some (.agg l)) (hv:l[m]?=some v):Od (.fl x m) e h v h:=⟨fun _ ht=>⟨by
 simp only[tdo,Rd.lk_val hx ht]
 show ob l[m]? _=_
 rw[hv]
 rfl⟩⟩
theorem od_fls {l':List V} (hx:x.lk e=some (.agg l)) (hv:(l.drop m).take n=l'):Od (.fls x m n) e h (.agg l') h:=⟨fun _ ht=>⟨by
 subst hv
 simp only[tdo,Rd.lk_val hx ht]
 rfl⟩⟩
theorem od_cv {j:IntKind} (hx:x.lk e=some (.i k p)) (hw:j.wrap p=q):Od (.cv j x) e h (.i j q) h:=⟨fun _ ht=>⟨by
 subst hw
 simp only[tdo,Rd.lk_val hx ht]
 rfl⟩⟩
theorem od_mf {f:Go.Fn} {la lb:List Rd} {va vb:List V} (ha:lkL e la=some va) (hb:lkL e lb=some vb):Od (.mf f la lb) e h (.fn f va vb) h:=⟨fun _ ht=>⟨by
 simp only[tdo,lkL_vals ht _ _ ha,lkL_vals ht _ _ hb]⟩⟩
theorem od_mm:Od .mm e h (.m h.next) ⟨h.next+1,h.t.set h.next (some (.map [] 0))⟩:=⟨fun _ _=>do_mm⟩
section
variable {ml:List (Int × V)} {zv:V}
theorem od_mu {vz:V} (hm:MapAt h b k ml) (hx:x.lk e=some (.m b)) (hy:y.lk e=some (.i k p)) (hz:c.lk e=some vz):Od (.mu x y c) e h .u (h.setM b k (mIns p vz ml)):=⟨fun _ ht=>do_mu hm (Rd.lk_val hx ht) (Rd.lk_val hy ht) (Rd.lk_val hz ht)⟩
theorem od_lkt {w:V} (hm:MapAt h b k ml) (hx:x.lk e=some (.m b)) (hy:y.lk e=some (.i k p)) (hg:mGet p ml=some w):Od (.lk x y zv true) e h (.tup [w,.b true]) h:=⟨fun _ ht=>do_lkt hm (Rd.lk_val hx ht) (Rd.lk_val hy ht) hg⟩
theorem od_lkf (hm:MapAt h b k ml) (hx:x.lk e=some (.m b)) (hy:y.lk e=some (.i k p)) (hg:mGet p ml=none):Od (.lk x y zv true) e h (.tup [zv,.b false]) h:=⟨fun _ ht=>do_lkf hm (Rd.lk_val hx ht) (Rd.lk_val hy ht) hg⟩
theorem od_lk (hm:MapAt h b k ml) (hx:x.lk e=some (.m b)) (hy:y.lk e=some (.i k p)):Od (.lk x y zv false) e h ((mGet p ml).getD zv) h:=⟨fun _ ht=>do_lk hm (Rd.lk_val hx ht) (Rd.lk_val hy ht)⟩
theorem od_rg (hx:x.lk e=some (.m m)) (hm:MapAt h m k ml):Od (.rg x) e h (.p h.next 0) ⟨h.next+1,h.t.set h.next (some (.iter m ml.length [] ml.length))⟩:=⟨fun _ ht=>do_rg (Rd.lk_val hx ht) hm⟩
end
theorem od_mn2 (hx:x.lk e=some (.i k p)) (hy:y.lk e=some (.i k q)):Od (.mn x [y]) e h (.i k (min p q)) h:=⟨fun t ht=>⟨by
 have:vals t [y] = [.i k q]:=by show [y.val t]=_;rw[Rd.lk_val hy ht]
 simp only[tdo,Rd.lk_val hx ht,asI,this,foldI,decide_true,bb_t,fI_eq,ob_s]
 congr 3
 rw[Int.min_def]
 split <;> split <;> omega⟩⟩
theorem od_mx2 (hx:x.lk e=some (.i k p)) (hy:y.lk e=some (.i k q)):Od (.mx x [y]) e h (.i k (max p q)) h:=⟨fun t ht=>⟨by
 have:vals t [y] = [.i k q]:=by show [y.val t]=_;rw[Rd.lk_val hy ht]
 simp only[tdo,Rd.lk_val hx ht,asI,this,foldI,decide_true,bb_t,fI_eq,ob_s]
 congr 3
 rw[Int.max_def]
 split <;> split <;> omega⟩⟩
theorem od_st {ty:TypeId} {hi:Nat} {pn:Bool} (ha:a.lk e=some (.p b o)) (hx:x.lk e=some v) (hv:v.cells=l) (hn:l.length=n) (h1:allOne l=true) (hr:h.row b=some (ty,hi,pn)) (hle:o+n≤hi):Od (.st a x n) e h .u (h.st b o l):=⟨fun _ ht=>by
 subst hv
 exact do_st (Rd.lk_val ha ht) (Rd.lk_val hx ht) hr hn h1 hle⟩
def Bd (e:Env) (x:Option Rd) (d n:Nat):Prop:=(x=none∧n=d)∨∃y k,x=some y∧y.lk e=some (.i k (n:Int))
theorem Bd.no {e:Env} {d:Nat}:Bd e none d d:=.inl ⟨rfl,rfl⟩
theorem Bd.at {e:Env} {d n:Nat} {y:Rd} {k:IntKind} (hy:y.lk e=some (.i k (n:Int))):Bd e (some y) d n:=.inr ⟨y,k,rfl,hy⟩
theorem bound_eq {β:Type} {e:Env} {t:Tr V} (ht:Tm t e) {x:Option Rd} {d n top:Nat} (hb:Bd e x d n) (hn:n≤top) (K:Nat→Option β):boundK t x d top K=K n:=by
 rcases hb with⟨rfl,rfl⟩ | ⟨y,k,rfl,hy⟩
 ·rfl
 ·unfold boundK
  rw[orr_s,rdK_eq,Rd.lk_val hy ht,asN_cast,ble_t hn,bb_t]
theorem od_s2 {lo hi:Option Rd} {l r:Nat} (hx:x.lk e=some (.sl b o n cap kn sz)) (hlo:Bd e lo 0 l) (hhi:Bd e hi n r) (h1:l≤r) (h2:r≤cap):Od (.s2 sz x lo hi) e h (.sl b (if kn=true∧cap=l then o else o+l*sz) (r-l) (cap-l) kn sz) h:=⟨fun t ht=>⟨by
 simp only[tdo,Rd.lk_val hx ht]
 rw[show Nat.beq sz sz=true from Nat.beq_refl _,bb_t,bound_eq ht hhi h2,bound_eq ht hlo h1]
 cases kn with
 | true =>
  rw[Bool.true_and]
  by_cases hc:cap=l
  ·rw[nbeq_t hc,br_t,if_pos ⟨rfl,hc⟩]
  ·rw[nbeq_f hc,br_f,if_neg fun h=>hc h.2]
 | false =>
  rw[Bool.false_and,br_f,if_neg fun h=>by cases h.1]⟩⟩
theorem od_s2n {lo hi:Option Rd} (hx:x.lk e=some .ns) (hlo:Bd e lo 0 0) (hhi:Bd e hi 0 0):Od (.s2 sz x lo hi) e h .ns h:=⟨fun t ht=>⟨by
 simp only[tdo,Rd.lk_val hx ht]
 rw[bound_eq ht hhi (Nat.le_refl _),bound_eq ht hlo (Nat.le_refl _)]⟩⟩
theorem od_ap {vx:V} {by_ m yb yo yc:Nat} {yk:Bool} {ty:TypeId} {ll news:List V} (hg:Grow h vx sz ty ll n) (hx:x.lk e=some vx) (hy:y.lk e=some (.sl yb yo m yc yk sz)) (hm:0<m) (hsz:0<sz) (hl:Rw h yb (m*sz) yo news) (h1:allOne news=true) (hb:(2*n+m)*by_≤4294967296) :
  ∃h',Od (.ap ty sz by_ x y) e h (.sl h.next 0 (n+m) (n+m) false sz) h'∧h'.next=h.next+1∧Grow h' (.sl h.next 0 (n+m) (n+m) false sz) sz ty (ll++news) (n+m)∧(∀k,k≠h.next→V.blk vx≠some k→h'.t.get k=h.t.get k)∧(Wf h→Wf h'):=by
 obtain⟨h',h2,h3,h4,h5,h6⟩:=grow_ap (t:=.e) (x:=.c vx) (y:=.c (.sl yb yo m yc yk sz)) hg rfl rfl hm hsz hl.eq h1 hb
 refine⟨h',⟨fun t ht=>⟨?_⟩⟩,h3,h4,h5,h6⟩
 have h7:=h2.eq
 simp only[tdo,Rd.val]at h7
 simp only[tdo,Rd.lk_val hx ht,Rd.lk_val hy ht]
 exact h7
def _root_.Go.Proofs.YtkcdehffcddciaaGreatDoor.Vm.V.isNs:V→Bool
 | .ns=>true
 | _=>false
theorem od_eqN (hx:x.lk e=some v) (hl:Ln v sz n) (hy:y.lk e=some .ns):Od (.eq .slice false x y) e h (.b v.isNs) h:=⟨fun t ht=>⟨by
 rcases hl.is with⟨rfl,_⟩ | ⟨b,o,cap,kn,rfl,_⟩ <;> (simp only[tdo,Rd.lk_val hx ht,Rd.lk_val hy ht,eqV,ob_s,mkB_eq];rfl)⟩⟩
end
end
noncomputable section
structure Pd where
 ks:List (Option Nat)
 F:Tr O→Prop
def Al (ks:List (Option Nat)) (F:Tr O→Prop):List (Option Nat × H)→Prop
 | []=>True
 | x :: l=>(x.1∈ks→F x.2.t)∧Al ks F l
theorem Al.all {ks:List (Option Nat)} {F:Tr O→Prop}:∀{l:List (Option Nat × H)},Al ks F l→∀x∈l,x.1∈ks→F x.2.t
 | _ :: _,h,x,hx=>by
  rcases List.mem_cons.1 hx with rfl | hx
  ·exact h.1
  ·exact Al.all h.2 x hx
def Lv (j:Nat) (m:Tr O):List Pd→Prop
 | []=>True
 | p :: l=>(some j∈p.ks→p.F m)∧Lv j m l
theorem Lv.all {j:Nat} {m:Tr O}:∀{l:List Pd},Lv j m l→∀p∈l,some j∈p.ks→p.F m
 | _ :: _,h,x,hx=>by
  rcases List.mem_cons.1 hx with rfl | hx
  ·exact h.1
  ·exact Lv.all h.2 x hx
def Rel_ (ps:List Pd) (rs:List Rq):Prop:=∀r∈rs,(∀m,r.stays m)∨∃p∈ps,p.ks=r.ks∧∀m,p.F m→r.stays m
theorem Rel_.lv {ps:List Pd} {rs:List Rq} (hr:Rel_ ps rs) {j:Nat} {m:Tr O} (hl:Lv j m ps):∀r∈rs,some j∈r.ks→r.stays m:=fun r hm hk=>by
 rcases hr r hm with h | ⟨p,h1,h2,h3⟩
 ·exact h m
 ·exact h3 m (hl.all p h1 (by rw[h2];exact hk))
theorem wpM_mono {P:Program} {Q Q':Tr V→H→Prop} (hq:∀t h,Q t h→Q' t h):∀(l:List (So × Kd)) (j:Nat) (t:Tr V) (hs h:H) (st:List (Option Nat × H)) (rs:List Rq),wpM P l j t hs h st rs Q→wpM P l j t hs h st rs Q'
 | [],_,t,_,h,_,_,hs'=>hq _ _ hs'
 |(s,.e) :: l,j,t,hs,h,st,rs,hs'=>by
  unfold wpM at hs' ⊢
  split
  ·rename_i hw
   rw[if_pos hw]at hs'
   exact let ⟨v,h',h1,h2,h3⟩:=hs';⟨v,h',h1,h2,wpM_mono hq l _ _ _ _ _ _ h3⟩
  ·rename_i hw
   rw[if_neg hw]at hs'
   exact⟨hs'.1,wpM_mono hq l _ _ _ _ _ _ hs'.2⟩
 |(s,.soft) :: l,j,t,hs,h,st,rs,hs'=>by
  unfold wpM at hs' ⊢
  split
  ·rename_i hw
   rw[if_pos hw]at hs'
   exact let ⟨v,h',h1,h3⟩:=hs';⟨v,h',h1,wpM_mono hq l _ _ _ _ _ _ h3⟩
  ·rename_i hw
   rw[if_neg hw]at hs'
   exact wpM_mono hq l _ _ _ _ _ _ hs'
 |(s,.q ks) :: l,j,t,hs,h,st,rs,hs'=>by
  unfold wpM at hs' ⊢
  split
  ·rename_i hw
   rw[if_pos hw]at hs'
   exact let ⟨v,h1,h2,h3⟩:=hs';⟨v,h1,h2,wpM_mono hq l _ _ _ _ _ _ h3⟩
  ·rename_i hw
   rw[if_neg hw]at hs'
   exact wpM_mono hq l _ _ _ _ _ _ hs'
structure Em (C:Cx) (l:List (So × Kd)) (j:Nat) (e:Env) (hs h:H) (st:List (Option Nat × H)) (ps:List Pd) (Q:Env→H→Prop):Prop where
 run:∀t,Tm t e→∀rs,Rel_ ps rs→wpM C.P l j t hs h st rs fun t h=>∃e,Tm t e∧Q e h
structure Of (op:Top) (e:Env) (v:V):Prop where
 eq:∀h,Od op e h v h
structure Oq (op:Top) (e:Env) (v:V) (F:Tr O→Prop):Prop where
 eq:∀n m,F m→Od op e ⟨n,m⟩ v ⟨n,m⟩
def FCe (b o:Nat) (v:V) (m:Tr O):Prop:=Ce ⟨0,m⟩ b o v
def FRw (b n o:Nat) (l:List V) (m:Tr O):Prop:=Rw ⟨0,m⟩ b n o l
theorem FCe.of {h:H} {b o:Nat} {v:V} (hc:Ce h b o v):FCe b o v h.t:=⟨hc.eq⟩
theorem rowC_t {h h':H} (ht:h.t=h'.t) (b:Nat):∀n o,rowC h b n o=rowC h' b n o
 | 0,_=>rfl
 | n+1,o=>by
  show ob (h.cell b o) _=ob (h'.cell b o) _
  have:h.cell b o=h'.cell b o:=by unfold H.cell;rw[ht]
  rw[this]
  congr 1
  funext v
  rw[rowC_t ht b n (o+1)]
theorem FRw.of {h:H} {b n o:Nat} {l:List V} (hc:Rw h b n o l):FRw b n o l h.t:=⟨(rowC_t (h:=⟨0,h.t⟩) (h':=h) rfl _ _ _).trans hc.eq⟩
section
variable {C:Cx} {g:Option (Nat × Bool)} {d j:Nat} {op:Top} {us:List Nat} {ks:List (Option Nat)} {l:List (So × Kd)} {e:Env} {hs h h':H} {st:List (Option Nat × H)} {ps:List Pd} {v:V} {Q:Env→H→Prop}
theorem em_n (hq:Q e h):Em C [] j e hs h st ps Q:=⟨fun _ ht _ _=>⟨e,ht,hq⟩⟩
theorem wpM_q {P:Program} {s:So} {t:Tr V} {rs:List Rq} {Q:Tr V→H→Prop} (hw:Wn t s.g true) (h1:(Rq.mk ks s.op t v).stays hs.t) (h2:∀x∈st,x.1∈ks→(Rq.mk ks s.op t v).stays x.2.t) (hr:wpM P l (j+1) (setT t s.d v) hs h st (if later j ks=true then⟨ks,s.op,t,v⟩ :: rs else rs) Q):wpM P ((s,.q ks) :: l) j t hs h st rs Q:=by
 unfold wpM
 rw[if_pos hw.eq]
 exact⟨v,h1,h2,hr⟩
theorem em_f (hw:Gd e g true) (hd:Of op e v) (hr:Em C l (j+1) ((d,v) :: e) hs h st ps Q):Em C ((⟨g,some d,op,us⟩,.q ks) :: l) j e hs h st ps Q:=⟨fun t ht rs hrs=>wpM_q (hw.eq t ht) (fun n=>((hd.eq _).eq t ht).eq) (fun x _ _ n=>((hd.eq _).eq t ht).eq) (hr.run _ (ht.set d v) _ (by
 split
 ·exact fun r hm=>by
   rcases List.mem_cons.1 hm with rfl | hm
   ·exact .inl fun m n=>((hd.eq _).eq t ht).eq
   ·exact hrs r hm
 ·exact hrs))⟩
theorem em_q {F:Tr O→Prop} (hw:Gd e g true) (hd:Oq op e v F) (h0:F hs.t) (hst:Al ks F st) (hl:later j ks=false) (hr:Em C l (j+1) ((d,v) :: e) hs h st ps Q):Em C ((⟨g,some d,op,us⟩,.q ks) :: l) j e hs h st ps Q :=
 ⟨fun t ht rs hrs=>wpM_q (hw.eq t ht) (fun n=>((hd.eq n _ h0).eq t ht).eq) (fun x hx hk n=>((hd.eq n _ (hst.all x hx hk)).eq t ht).eq) (by
  rw[if_neg (by rw[hl];exact fun h=>by cases h)]
  exact hr.run _ (ht.set d v) _ hrs)⟩
theorem em_ql {F:Tr O→Prop} (hw:Gd e g true) (hd:Oq op e v F) (h0:F hs.t) (hst:Al ks F st) (hr:Em C l (j+1) ((d,v) :: e) hs h st (⟨ks,F⟩ :: ps) Q):Em C ((⟨g,some d,op,us⟩,.q ks) :: l) j e hs h st ps Q :=
 ⟨fun t ht rs hrs=>wpM_q (hw.eq t ht) (fun n=>((hd.eq n _ h0).eq t ht).eq) (fun x hx hk n=>((hd.eq n _ (hst.all x hx hk)).eq t ht).eq) (hr.run _ (ht.set d v) _ (by
  have h1:Rel_ (⟨ks,F⟩ :: ps) rs:=fun r hm=>(hrs r hm).imp id fun ⟨p,h1,h2⟩=>⟨p,List.mem_cons_of_mem _ h1,h2⟩
  split
  ·exact fun r hm=>by
    rcases List.mem_cons.1 hm with rfl | hm
    ·exact .inr ⟨⟨ks,F⟩,List.mem_cons_self ..,rfl,fun m hF n=>((hd.eq n m hF).eq t ht).eq⟩
    ·exact h1 r hm
  ·exact h1))⟩
theorem em_z (hw:Gd e g false) (hr:Em C l (j+1) ((d,.u) :: e) hs h st ps Q):Em C ((⟨g,some d,op,us⟩,.q ks) :: l) j e hs h st ps Q:=⟨fun t ht rs hrs=>by
 unfold wpM
 rw[if_neg (by rw[(hw.eq t ht).eq];exact fun h=>by cases h)]
 exact hr.run _ (ht.set d .u) rs hrs⟩
theorem em_a (hw:Gd e g true) (hd:Od op e h v h') (hr:Em C l (j+1) ((d,v) :: e) hs h' st ps Q):Em C ((⟨g,some d,op,us⟩,.soft) :: l) j e hs h st ps Q:=⟨fun t ht rs hrs=>by
 unfold wpM
 rw[if_pos (hw.eq t ht).eq]
 exact⟨v,h',(hd.eq t ht).eq,hr.run _ (ht.set d v) rs hrs⟩⟩
theorem em_e (hw:Gd e g true) (hd:Od op e h v h') (hl:Lv j h'.t ps) (hr:Em C l (j+1) ((d,v) :: e) h' h' ((some j,h') :: st) ps Q):Em C ((⟨g,some d,op,us⟩,.e) :: l) j e hs h st ps Q:=⟨fun t ht rs hrs=>by
 unfold wpM
 rw[if_pos (hw.eq t ht).eq]
 exact⟨v,h',doP_of (hd.eq t ht).eq ⟨rfl,rfl⟩,hrs.lv hl,hr.run _ (ht.set d v) rs hrs⟩⟩
theorem em_eu (hw:Gd e g true) (hd:Od op e h v h') (hl:Lv j h'.t ps) (hr:Em C l (j+1) e h' h' ((some j,h') :: st) ps Q):Em C ((⟨g,none,op,us⟩,.e) :: l) j e hs h st ps Q:=⟨fun t ht rs hrs=>by
 unfold wpM
 rw[if_pos (hw.eq t ht).eq]
 exact⟨v,h',doP_of (hd.eq t ht).eq ⟨rfl,rfl⟩,hrs.lv hl,hr.run _ ht rs hrs⟩⟩
theorem em_ez (hw:Gd e g false) (hl:Lv j h.t ps) (hr:Em C l (j+1) ((d,.u) :: e) h h ((some j,h) :: st) ps Q):Em C ((⟨g,some d,op,us⟩,.e) :: l) j e hs h st ps Q:=⟨fun t ht rs hrs=>by
 unfold wpM
 rw[if_neg (by rw[(hw.eq t ht).eq];exact fun h=>by cases h)]
 exact⟨hrs.lv hl,hr.run _ (ht.set d .u) rs hrs⟩⟩
theorem em_c {f:FuncId} {args:List Rd} {R:V→H→Prop} {vs:List V} (hw:Gd e g true) (ha:lkL e args=some vs) (hf:FX true C.P f vs h R) (hr:∀v h',R v h'→Lv j h'.t ps∧Em C l (j+1) ((d,v) :: e) h' h' ((some j,h') :: st) ps Q):Em C ((⟨g,some d,.call f args,us⟩,.e) :: l) j e hs h st ps Q:=⟨fun t ht rs hrs=>by
 obtain⟨v,h',h1,h2⟩:=hf
 obtain⟨h3,h4⟩:=hr v h' h2
 unfold wpM
 rw[if_pos (hw.eq t ht).eq]
 exact⟨v,h',by have:=lkL_vals ht _ _ ha;subst this;exact h1,hrs.lv h3,h4.run _ (ht.set d v) rs hrs⟩⟩
theorem em_cv {x:Rd} {f:FuncId} {first cap:List V} {args:List Rd} {R:V→H→Prop} {vs:List V} (hw:Gd e g true) (hx:x.lk e=some (.fn (.func f) first cap)) (ha:lkL e args=some vs) (hf:FX true C.P f (first++(vs++cap)) h R) (hr:∀v h',R v h'→Lv j h'.t ps∧Em C l (j+1) ((d,v) :: e) h' h' ((some j,h') :: st) ps Q):Em C ((⟨g,some d,.callv x args,us⟩,.e) :: l) j e hs h st ps Q:=⟨fun t ht rs hrs=>by
 obtain⟨v,h',h1,h2⟩:=hf
 obtain⟨h3,h4⟩:=hr v h' h2
 unfold wpM
 rw[if_pos (hw.eq t ht).eq]
 exact⟨v,h',doP_callv (Rd.lk_val hx ht) (by have:=lkL_vals ht _ _ ha;subst this;exact h1),hrs.lv h3,h4.run _ (ht.set d v) rs hrs⟩⟩
theorem em_if {c:Bool} (hx:look e d=some (.b c)) (h1:c=true→Em C l j ((d,.b true) :: e) hs h st ps Q) (h2:c=false→Em C l j ((d,.b false) :: e) hs h st ps Q):Em C l j e hs h st ps Q:=⟨fun t ht=>by
 cases c with
 | true=>exact(h1 rfl).run t (ht.true_ hx rfl)
 | false=>exact(h2 rfl).run t (ht.true_ hx rfl)⟩
theorem Es.mix {K:List Fr} {l:List (So × Kd)} (hmx:C.P.follows .mixedOrders=true) (hs:Em C l 0 e h h [(none,h)] [] (Nx C K)):Es C K (.mix l) e h:=⟨fun t ht=>SX.mix hmx (wpM_mono (fun _ _ ⟨e,ht,hn⟩=>⟨e,ht,hn.run⟩) _ _ _ _ _ _ _ (hs.run t ht [] fun r hr=>by cases hr))⟩
end
/-! ### Operations that look at no memory -/
section
variable {e:Env} {v:V} {x y a i c:Rd} {b o n m sz cap:Nat} {k:IntKind} {kn:Bool} {p q:Int} {l:List V}
theorem oq_ld (ha:a.lk e=some (.p b o)):Oq (.ld a) e v (FCe b o v):=⟨fun _ _ hc=>od_ld ha ⟨hc.eq⟩⟩
theorem oq_lds (ha:a.lk e=some (.p b o)):Oq (.lds a (n+1)) e (.agg l) (FRw b (n+1) o l):=⟨fun k m hc=>od_lds ha ⟨(rowC_t (h:=⟨k,m⟩) (h':=⟨0,m⟩) rfl _ _ _).trans hc.eq⟩⟩
end
end
end Go.Proofs.YtkcdehffcddciaaGreatDoor.Vm
