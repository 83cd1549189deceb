/- Steps that find by themselves what they need. -/
import Derived.Test.YtkcdehffcddciaaGreatDoorQ16
namespace Go.Proofs.YtkcdehffcddciaaGreatDoor.Vm
open Go Go.RowKit
noncomputable section
structure Bx (h:H) (b:Nat) (l:List V):Prop where
 eq:∀k v,l[k]?=some v→Ce h b k v
theorem Bx.old {h h':H} {b:Nat} {l:List V} (ho:Old h.next h h') (hw:Wf h) (hb:Bx h b l):Bx h' b l:=⟨fun k v hk=>(hb.eq k v hk).old ho hw⟩
theorem ce_s {h:H} {vv:V} {sz n i k:Nat} {F:Nat→Nat→V} (hc:Cs h vv sz n F) (hi:i<n) (hk:k<sz):Ce h vv.ba (vv.of+i*sz+k) (F i k):=hc.eq i k hi hk
theorem ce_s0 {h:H} {vv:V} {sz n i:Nat} {F:Nat→Nat→V} (hc:Cs h vv sz n F) (hi:i<n) (hk:0<sz):Ce h vv.ba (vv.of+i*sz) (F i 0):=hc.eq i 0 hi hk
theorem ce_h {h:H} {vv:V} {sz n k:Nat} {F:Nat→Nat→V} (hc:Cs h vv sz n F) (hi:0<n) (hk:k<sz):Ce h vv.ba (vv.of+k) (F 0 k):=hc.hd hi hk
theorem ce_h0 {h:H} {vv:V} {sz n:Nat} {F:Nat→Nat→V} (hc:Cs h vv sz n F) (hi:0<n) (hk:0<sz):Ce h vv.ba vv.of (F 0 0):=hc.hd0 hi hk
theorem ce_b {h:H} {b k:Nat} {v:V} {l:List V} (hb:Bx h b l) (hk:l[k]?=some v):Ce h b k v:=hb.eq k v hk
theorem Cs.row0 {h:H} {v:V} {sz n:Nat} {F:Nat→Nat→V} (hc:Cs h v sz n F) (hi:0<n):Rw h v.ba sz v.of (upto (F 0) sz 0):=by
 have:=hc.row hi
 rwa [Nat.zero_mul,Nat.add_zero]at this
theorem rw_b {h:H} {b o n:Nat} {l r:List V} (hb:Bx h b l) (hr:(if o+n≤l.length then some ((l.drop o).take n)else none)=some r):Rw h b n o r:=by
 split at hr
 ·rename_i hle
  injection hr with hr
  subst hr
  have key:∀n o,o+n≤l.length→Rw h b n o ((l.drop o).take n):=by
   intro n
   induction n with
   | zero=>intro o _;rw[List.take_zero];exact .nil
   | succ n ih =>
    intro o ho
    have h1:=ih (o+1) (by omega)
    have h2:o<l.length:=by omega
    rw[List.drop_eq_getElem_cons h2,List.take_succ_cons]
    exact .cons (hb.eq o _ (List.getElem?_eq_getElem h2)) h1
  exact key n o hle
 ·cases hr
theorem Al.nil {ks:List (Option Nat)} {F:Tr O→Prop}:Al ks F []:=trivial
theorem Al.cons {ks:List (Option Nat)} {F:Tr O→Prop} {a:Option Nat} {h:H} {l:List (Option Nat × H)} (h1:a∈ks→F h.t) (h2:Al ks F l):Al ks F ((a,h) :: l):=⟨h1,h2⟩
theorem FCe.cast {h:H} {b o:Nat} {v w:V} (hc:Ce h b o w) (e:w=v):FCe b o v h.t:=by subst e;exact .of hc
theorem FRw.cast {h:H} {b n o:Nat} {l r:List V} (hc:Rw h b n o r) (e:r=l):FRw b n o l h.t:=by subst e;exact .of hc
def AlS (ks:List (Option Nat)) (F:Tr O→Prop) (hs:H) (l:List (Option Nat × H)):Prop:=F hs.t→Al ks F l
theorem AlS.al {ks:List (Option Nat)} {F:Tr O→Prop} {hs:H} {l:List (Option Nat × H)} (ha:AlS ks F hs l) (h:F hs.t):Al ks F l:=ha h
theorem AlS.nil {ks:List (Option Nat)} {F:Tr O→Prop} {hs:H}:AlS ks F hs []:=fun _=>trivial
theorem AlS.same {ks:List (Option Nat)} {F:Tr O→Prop} {hs:H} {a:Option Nat} {l:List (Option Nat × H)} (ha:AlS ks F hs l):AlS ks F hs ((a,hs) :: l):=fun h=>⟨fun _=>h,ha h⟩
theorem AlS.cons {ks:List (Option Nat)} {F:Tr O→Prop} {hs h':H} {a:Option Nat} {l:List (Option Nat × H)} (h1:a∈ks→F h'.t) (ha:AlS ks F hs l):AlS ks F hs ((a,h') :: l):=fun h=>⟨h1,ha h⟩
theorem Lv.nil {j:Nat} {m:Tr O}:Lv j m []:=trivial
theorem Lv.cons {j:Nat} {m:Tr O} {ks:List (Option Nat)} {F:Tr O→Prop} {l:List Pd} (h1:some j∈ks→F m) (h2:Lv j m l):Lv j m (⟨ks,F⟩ :: l):=⟨h1,h2⟩
/-! ### Operations that only reckon -/
def sameK:IntKind→IntKind→Bool:=fun a b=>decide (a=b)
def evF (op:Top) (e:Env):Option V:=match op with
 | .mv x=>x.lk e
 | .fa x m=>match x.lk e with
  | some (.p b o)=>some (.p b (o+m))
  | _=>none
 | .nc x=>match x.lk e with
  | some (.p b o)=>some (.p b o)
  | some (.fn (.func f) s t)=>some (.fn (.func f) s t)
  | _=>none
 | .ex x m=>match x.lk e with
  | some (.tup l)=>l[m]?
  | _=>none
 | .fl x m=>match x.lk e with
  | some (.agg l)=>l[m]?
  | _=>none
 | .fls x m n=>match x.lk e with
  | some (.agg l)=>some (.agg ((l.drop m).take n))
  | _=>none
 | .nt x=>match x.lk e with
  | some (.b w)=>some (.b (!w))
  | _=>none
 | .pk c x y=>match c.lk e,x.lk e,y.lk e with
  | some (.b w),some v,some v'=>some (cond w v v')
  | _,_,_=>none
 | .ar op x y=>match x.lk e,y.lk e with
  | some (.i k p),some (.i j q)=>bif sameK k j then(match op with
   | .lss=>some (.b (decide (p<q)))
   | .leq=>some (.b (decide (p≤q)))
   | .gtr=>some (.b (decide (q<p)))
   | .geq=>some (.b (decide (q≤p)))
   | _=>none)else none
  | _,_=>none
 | .eq .int ng x y=>match x.lk e,y.lk e with
  | some (.i k p),some (.i j q)=>bif sameK k j then(bif ng then some (.b (!decide (p=q)))else some (.b (decide (p=q))))else none
  | _,_=>none
 | .bd zs ps=>match partsE e ps with
  | some vs=>match fillL zs vs with
   | some l=>some (.agg l)
   | none=>none
  | none=>none
 | .mf f a b=>match lkL e a,lkL e b with
  | some va,some vb=>some (.fn f va vb)
  | _,_=>none
 | .mn x [y]=>match x.lk e,y.lk e with
  | some (.i k p),some (.i j q)=>bif sameK k j then some (.i k (min p q))else none
  | _,_=>none
 | .mx x [y]=>match x.lk e,y.lk e with
  | some (.i k p),some (.i j q)=>bif sameK k j then some (.i k (max p q))else none
  | _,_=>none
 | _=>none
theorem cond_some {α:Type} {c:Bool} {x:Option α} {r:α} (h:(bif c then x else none)=some r):c=true∧x=some r:=by
 cases c with
 | true=>exact⟨rfl,h⟩
 | false=>cases h
theorem evF_ok {op:Top} {e:Env} {v:V} (hv:evF op e=some v) (h:H):Od op e h v h:=by
 unfold evF at hv
 split at hv
 ·exact od_mv hv
 ·split at hv
  ·rename_i hx
   injection hv with hv
   subst hv
   exact od_fa hx
  ·cases hv
 ·split at hv
  ·rename_i hx;injection hv with hv;subst hv;exact od_nc hx
  ·rename_i hx;injection hv with hv;subst hv;exact od_ncf hx
  ·cases hv
 ·split at hv
  ·rename_i hx;exact od_ex hx hv
  ·cases hv
 ·split at hv
  ·rename_i hx;exact od_fl hx hv
  ·cases hv
 ·split at hv
  ·rename_i hx;injection hv with hv;subst hv;exact od_fls hx rfl
  ·cases hv
 ·split at hv
  ·rename_i hx;injection hv with hv;subst hv;exact od_nt hx
  ·cases hv
 ·split at hv
  ·rename_i h1 h2 h3;injection hv with hv;subst hv;exact od_pk h1 h2 h3
  ·cases hv
 ·split at hv
  ·rename_i k p j q h1 h2
   obtain⟨hk,hv2⟩:=cond_some hv
   clear hv
   obtain rfl:k=j:=of_decide_eq_true hk
   split at hv2
   ·injection hv2 with hv;subst hv;exact od_lss h1 h2
   ·injection hv2 with hv;subst hv;exact od_leq h1 h2
   ·injection hv2 with hv;subst hv;exact od_gtr h1 h2
   ·injection hv2 with hv;subst hv;exact od_geq h1 h2
   ·cases hv2
  ·cases hv
 ·rename_i ng x y
  split at hv
  ·rename_i k p j q h1 h2
   obtain⟨hk,hv2⟩:=cond_some hv
   clear hv
   obtain rfl:k=j:=of_decide_eq_true hk
   cases ng with
   | true=>injection hv2 with hv;subst hv;exact od_neI h1 h2
   | false=>injection hv2 with hv;subst hv;exact od_eqI h1 h2
  ·cases hv
 ·split at hv
  ·rename_i vs h1
   split at hv
   ·rename_i l h2;injection hv with hv;subst hv;exact od_bd h1 h2
   ·cases hv
  ·cases hv
 ·split at hv
  ·rename_i h1 h2;injection hv with hv;subst hv;exact od_mf h1 h2
  ·cases hv
 ·split at hv
  ·rename_i k p j q h1 h2
   obtain⟨hk,hv2⟩:=cond_some hv
   clear hv
   obtain rfl:k=j:=of_decide_eq_true hk
   injection hv2 with hv;subst hv;exact od_mn2 h1 h2
  ·cases hv
 ·split at hv
  ·rename_i k p j q h1 h2
   obtain⟨hk,hv2⟩:=cond_some hv
   clear hv
   obtain rfl:k=j:=of_decide_eq_true hk
   injection hv2 with hv;subst hv;exact od_mx2 h1 h2
  ·cases hv
 ·cases hv
section
variable {C:Cx} {K:List Fr} {a b:Sc} {g:Option (Nat × Bool)} {d j:Nat} {op:Top} {us:List Nat} {l:List So} {lm:List (So × Kd)} {ks:List (Option Nat)} {e:Env} {hs h h':H} {st:List (Option Nat × H)} {ps:List Pd} {v:V} {Q:Env→H→Prop} {p:Prop} {dp:Decidable p} {x:Rd}
theorem stF (hv:evF op e=some v) (hr:Ew C l ((d,v) :: e) h Q):Ew C (⟨none,some d,op,us⟩ :: l) e h Q:=ew_s .n (evF_ok hv h) hr
theorem mF (hv:evF op e=some v) (hr:Em C lm (j+1) ((d,v) :: e) hs h st ps Q):Em C ((⟨none,some d,op,us⟩,.q ks) :: lm) j e hs h st ps Q:=em_f .n ⟨fun h=>evF_ok hv h⟩ hr
structure EwN (C:Cx) (d:Nat) (op:Top) (us:List Nat) (l:List So) (e:Env) (h:H) (Q:Env→H→Prop):Prop where
 eq:Ew C (⟨none,some d,op,us⟩ :: l) e h Q
structure EmN (C:Cx) (d:Nat) (op:Top) (us:List Nat) (ks:List (Option Nat)) (lm:List (So × Kd)) (j:Nat) (e:Env) (hs h:H) (st:List (Option Nat × H)) (ps:List Pd) (Q:Env→H→Prop):Prop where
 eq:Em C ((⟨none,some d,op,us⟩,.q ks) :: lm) j e hs h st ps Q
theorem ewN (hr:EwN C d op us l e h Q):Ew C (⟨none,some d,op,us⟩ :: l) e h Q:=hr.eq
theorem emN (hr:EmN C d op us ks lm j e hs h st ps Q):Em C ((⟨none,some d,op,us⟩,.q ks) :: lm) j e hs h st ps Q:=hr.eq
theorem stS (hr:Ew C l ((d,v) :: e) h' Q) (hd:Od op e h v h':=by first | exact od_ld rfl (by first | assumption | exact ce_s (by assumption) (by omega) (by decide) | exact ce_s0 (by assumption) (by omega) (by decide) | exact ce_b (by assumption) rfl | exact ce_h (by assumption) (by omega) (by decide) | exact ce_h0 (by assumption) (by omega) (by decide) | exact Ce.kp (by assumption) (by assumption) (by first | assumption | exact ce_s (by assumption) (by omega) (by decide) | exact ce_s0 (by assumption) (by omega) (by decide) | exact ce_b (by assumption) rfl | exact ce_h (by assumption) (by omega) (by decide) | exact ce_h0 (by assumption) (by omega) (by decide))) | exact od_lds rfl (by first | assumption | exact Cs.row (by assumption) (by omega) | exact rw_b (by assumption) rfl | exact Cs.row0 (by assumption) (by omega) | exact Rw.kp (by assumption) (by assumption) (by first | assumption | exact Cs.row (by assumption) (by omega) | exact rw_b (by assumption) rfl | exact Cs.row0 (by assumption) (by omega))) | exact od_ia rfl rfl (by first | assumption | exact Ln.sl (by omega) | exact Ln.ns) (by omega) | exact od_ia0 rfl rfl (by first | assumption | exact Ln.sl (by omega) | exact Ln.ns) (by omega) | exact od_iaI rfl rfl (by first | assumption | exact Ln.sl (by omega) | exact Ln.ns) (by omega) (by omega) | exact od_len rfl (by first | assumption | exact Ln.sl (by omega) | exact Ln.ns) | exact od_inc rfl rfl (by omega) | exact od_addN rfl rfl (by omega) | exact od_add rfl rfl (by omega) | exact od_dec rfl rfl (by omega) | exact od_sub rfl rfl (by omega) | exact od_eqN rfl (by first | assumption | exact Ln.sl (by omega) | exact Ln.ns) rfl):EwN C d op us l e h Q:=⟨ew_s .n hd hr⟩
theorem mS (hr:Em C lm (j+1) ((d,v) :: e) hs h st ps Q) (hd:Of op e v:=by exact⟨fun _=>by first | exact od_ia rfl rfl (by first | assumption | exact Ln.sl (by omega) | exact Ln.ns) (by omega) | exact od_ia0 rfl rfl (by first | assumption | exact Ln.sl (by omega) | exact Ln.ns) (by omega) | exact od_iaI rfl rfl (by first | assumption | exact Ln.sl (by omega) | exact Ln.ns) (by omega) (by omega) | exact od_len rfl (by first | assumption | exact Ln.sl (by omega) | exact Ln.ns) | exact od_inc rfl rfl (by omega) | exact od_addN rfl rfl (by omega) | exact od_add rfl rfl (by omega) | exact od_dec rfl rfl (by omega) | exact od_sub rfl rfl (by omega) | exact od_eqN rfl (by first | assumption | exact Ln.sl (by omega) | exact Ln.ns) rfl⟩):EmN C d op us ks lm j e hs h st ps Q:=⟨em_f .n hd hr⟩
theorem mQ {a:Rd} {b o:Nat} (hr:Em C lm (j+1) ((d,v) :: e) hs h st ps Q) (ha:a.lk e=some (.p b o):=by exact rfl) (hc:Ce hs b o v:=by first | assumption | exact ce_s (by assumption) (by omega) (by decide) | exact ce_s0 (by assumption) (by omega) (by decide) | exact ce_b (by assumption) rfl | exact ce_h (by assumption) (by omega) (by decide) | exact ce_h0 (by assumption) (by omega) (by decide) | exact Ce.kp (by assumption) (by assumption) (by first | assumption | exact ce_s (by assumption) (by omega) (by decide) | exact ce_s0 (by assumption) (by omega) (by decide) | exact ce_b (by assumption) rfl | exact ce_h (by assumption) (by omega) (by decide) | exact ce_h0 (by assumption) (by omega) (by decide))) (hst:AlS ks (FCe b o v) hs st:=by repeat (first | exact AlS.nil | refine AlS.same ?_ | refine AlS.cons (fun hk=>by first | exact absurd hk (by decide) |(apply FCe.cast;(focus (first | assumption | exact ce_s (by assumption) (by omega) (by decide) | exact ce_s0 (by assumption) (by omega) (by decide) | exact ce_b (by assumption) rfl | exact ce_h (by assumption) (by omega) (by decide) | exact ce_h0 (by assumption) (by omega) (by decide) | exact Ce.kp (by assumption) (by assumption) (by first | assumption | exact ce_s (by assumption) (by omega) (by decide) | exact ce_s0 (by assumption) (by omega) (by decide) | exact ce_b (by assumption) rfl | exact ce_h (by assumption) (by omega) (by decide) | exact ce_h0 (by assumption) (by omega) (by decide))));exact rfl) |(apply FRw.cast;(focus (first | assumption | exact Cs.row (by assumption) (by omega) | exact rw_b (by assumption) rfl | exact Cs.row0 (by assumption) (by omega) | exact Rw.kp (by assumption) (by assumption) (by first | assumption | exact Cs.row (by assumption) (by omega) | exact rw_b (by assumption) rfl | exact Cs.row0 (by assumption) (by omega))));exact rfl)) ?_)) (hl:later j ks=false:=by rfl):EmN C d (.ld a) us ks lm j e hs h st ps Q:=⟨em_q .n (oq_ld ha) (FCe.of hc) (hst.al (FCe.of hc)) hl hr⟩
theorem mL {a:Rd} {b o:Nat} (hr:Em C lm (j+1) ((d,v) :: e) hs h st (⟨ks,FCe b o v⟩ :: ps) Q) (ha:a.lk e=some (.p b o):=by exact rfl) (hc:Ce hs b o v:=by first | assumption | exact ce_s (by assumption) (by omega) (by decide) | exact ce_s0 (by assumption) (by omega) (by decide) | exact ce_b (by assumption) rfl | exact ce_h (by assumption) (by omega) (by decide) | exact ce_h0 (by assumption) (by omega) (by decide) | exact Ce.kp (by assumption) (by assumption) (by first | assumption | exact ce_s (by assumption) (by omega) (by decide) | exact ce_s0 (by assumption) (by omega) (by decide) | exact ce_b (by assumption) rfl | exact ce_h (by assumption) (by omega) (by decide) | exact ce_h0 (by assumption) (by omega) (by decide))) (hst:AlS ks (FCe b o v) hs st:=by repeat (first | exact AlS.nil | refine AlS.same ?_ | refine AlS.cons (fun hk=>by first | exact absurd hk (by decide) |(apply FCe.cast;(focus (first | assumption | exact ce_s (by assumption) (by omega) (by decide) | exact ce_s0 (by assumption) (by omega) (by decide) | exact ce_b (by assumption) rfl | exact ce_h (by assumption) (by omega) (by decide) | exact ce_h0 (by assumption) (by omega) (by decide) | exact Ce.kp (by assumption) (by assumption) (by first | assumption | exact ce_s (by assumption) (by omega) (by decide) | exact ce_s0 (by assumption) (by omega) (by decide) | exact ce_b (by assumption) rfl | exact ce_h (by assumption) (by omega) (by decide) | exact ce_h0 (by assumption) (by omega) (by decide))));exact rfl) |(apply FRw.cast;(focus (first | assumption | exact Cs.row (by assumption) (by omega) | exact rw_b (by assumption) rfl | exact Cs.row0 (by assumption) (by omega) | exact Rw.kp (by assumption) (by assumption) (by first | assumption | exact Cs.row (by assumption) (by omega) | exact rw_b (by assumption) rfl | exact Cs.row0 (by assumption) (by omega))));exact rfl)) ?_)):EmN C d (.ld a) us ks lm j e hs h st ps Q:=⟨em_ql .n (oq_ld ha) (FCe.of hc) (hst.al (FCe.of hc)) hr⟩
theorem mQs {a:Rd} {b o n:Nat} {l:List V} (hr:Em C lm (j+1) ((d,(.agg l)) :: e) hs h st ps Q) (ha:a.lk e=some (.p b o):=by exact rfl) (hc:Rw hs b (n+1) o l:=by first | assumption | exact Cs.row (by assumption) (by omega) | exact rw_b (by assumption) rfl | exact Cs.row0 (by assumption) (by omega) | exact Rw.kp (by assumption) (by assumption) (by first | assumption | exact Cs.row (by assumption) (by omega) | exact rw_b (by assumption) rfl | exact Cs.row0 (by assumption) (by omega))) (hst:AlS ks (FRw b (n+1) o l) hs st:=by repeat (first | exact AlS.nil | refine AlS.same ?_ | refine AlS.cons (fun hk=>by first | exact absurd hk (by decide) |(apply FCe.cast;(focus (first | assumption | exact ce_s (by assumption) (by omega) (by decide) | exact ce_s0 (by assumption) (by omega) (by decide) | exact ce_b (by assumption) rfl | exact ce_h (by assumption) (by omega) (by decide) | exact ce_h0 (by assumption) (by omega) (by decide) | exact Ce.kp (by assumption) (by assumption) (by first | assumption | exact ce_s (by assumption) (by omega) (by decide) | exact ce_s0 (by assumption) (by omega) (by decide) | exact ce_b (by assumption) rfl | exact ce_h (by assumption) (by omega) (by decide) | exact ce_h0 (by assumption) (by omega) (by decide))));exact rfl) |(apply FRw.cast;(focus (first | assumption | exact Cs.row (by assumption) (by omega) | exact rw_b (by assumption) rfl | exact Cs.row0 (by assumption) (by omega) | exact Rw.kp (by assumption) (by assumption) (by first | assumption | exact Cs.row (by assumption) (by omega) | exact rw_b (by assumption) rfl | exact Cs.row0 (by assumption) (by omega))));exact rfl)) ?_)) (hl:later j ks=false:=by rfl):EmN C d (.lds a (n+1)) us ks lm j e hs h st ps Q:=⟨em_q .n (oq_lds ha) (FRw.of hc) (hst.al (FRw.of hc)) hl hr⟩
theorem mLs {a:Rd} {b o n:Nat} {l:List V} (hr:Em C lm (j+1) ((d,(.agg l)) :: e) hs h st (⟨ks,FRw b (n+1) o l⟩ :: ps) Q) (ha:a.lk e=some (.p b o):=by exact rfl) (hc:Rw hs b (n+1) o l:=by first | assumption | exact Cs.row (by assumption) (by omega) | exact rw_b (by assumption) rfl | exact Cs.row0 (by assumption) (by omega) | exact Rw.kp (by assumption) (by assumption) (by first | assumption | exact Cs.row (by assumption) (by omega) | exact rw_b (by assumption) rfl | exact Cs.row0 (by assumption) (by omega))) (hst:AlS ks (FRw b (n+1) o l) hs st:=by repeat (first | exact AlS.nil | refine AlS.same ?_ | refine AlS.cons (fun hk=>by first | exact absurd hk (by decide) |(apply FCe.cast;(focus (first | assumption | exact ce_s (by assumption) (by omega) (by decide) | exact ce_s0 (by assumption) (by omega) (by decide) | exact ce_b (by assumption) rfl | exact ce_h (by assumption) (by omega) (by decide) | exact ce_h0 (by assumption) (by omega) (by decide) | exact Ce.kp (by assumption) (by assumption) (by first | assumption | exact ce_s (by assumption) (by omega) (by decide) | exact ce_s0 (by assumption) (by omega) (by decide) | exact ce_b (by assumption) rfl | exact ce_h (by assumption) (by omega) (by decide) | exact ce_h0 (by assumption) (by omega) (by decide))));exact rfl) |(apply FRw.cast;(focus (first | assumption | exact Cs.row (by assumption) (by omega) | exact rw_b (by assumption) rfl | exact Cs.row0 (by assumption) (by omega) | exact Rw.kp (by assumption) (by assumption) (by first | assumption | exact Cs.row (by assumption) (by omega) | exact rw_b (by assumption) rfl | exact Cs.row0 (by assumption) (by omega))));exact rfl)) ?_)):EmN C d (.lds a (n+1)) us ks lm j e hs h st ps Q:=⟨em_ql .n (oq_lds ha) (FRw.of hc) (hst.al (FRw.of hc)) hr⟩
theorem mC {f:FuncId} {args:List Rd} {R:V→H→Prop} {vs:List V} (hf:FX true C.P f vs h R) (hr:∀v h',R v h'→Lv j h'.t ps∧Em C lm (j+1) ((d,v) :: e) h' h' ((some j,h') :: st) ps Q) (ha:lkL e args=some vs:=by exact rfl):Em C ((⟨none,some d,.call f args,us⟩,.e) :: lm) j e hs h st ps Q:=em_c .n ha hf hr
theorem stC {f:FuncId} {args:List Rd} {R:V→H→Prop} {vs:List V} (hf:FX C.m C.P f vs h R) (hr:∀v h',R v h'→Ew C l ((d,v) :: e) h' Q) (ha:lkL e args=some vs:=by exact rfl):Ew C (⟨none,some d,.call f args,us⟩ :: l) e h Q:=ew_c .n ha hf hr
structure EwG (C:Cx) (c w:Bool) (d:Nat) (dd:Option Nat) (op:Top) (us:List Nat) (l:List So) (e:Env) (h:H) (Q:Env→H→Prop):Prop where
 eq:look e d=some (.b c)→Ew C (⟨some (d,w),dd,op,us⟩ :: l) e h Q
theorem wg {c w:Bool} {dd:Option Nat} (hx:look e d=some (.b c)) (hr:EwG C c w d dd op us l e h Q):Ew C (⟨some (d,w),dd,op,us⟩ :: l) e h Q:=hr.eq hx
theorem wg_t {dd:Option Nat} (hr:Ew C (⟨none,dd,op,us⟩ :: l) e h Q):EwG C true true d dd op us l e h Q:=⟨fun hx=>⟨fun t ht=>by
 have h1:=hr.run t ht
 unfold wpX at h1 ⊢
 rw[if_pos (want_n t)]at h1
 rw[if_pos (Wn.tt (ht.eq _ _ hx)).eq]
 exact h1⟩⟩
theorem wz_t {dd':Nat} (hr:Ew C l ((dd',.u) :: e) h Q):EwG C true false d (some dd') op us l e h Q:=⟨fun hx=>ew_z (Gd.ft hx) hr⟩
theorem wg_f {dd:Option Nat} (hr:Ew C (⟨none,dd,op,us⟩ :: l) e h Q):EwG C false false d dd op us l e h Q:=⟨fun hx=>⟨fun t ht=>by
 have h1:=hr.run t ht
 unfold wpX at h1 ⊢
 rw[if_pos (want_n t)]at h1
 rw[if_pos (Wn.ff (ht.eq _ _ hx)).eq]
 exact h1⟩⟩
theorem wz_f {dd':Nat} (hr:Ew C l ((dd',.u) :: e) h Q):EwG C false true d (some dd') op us l e h Q:=⟨fun hx=>ew_z (Gd.tf hx) hr⟩
theorem wgd {w:Bool} {dd:Option Nat} (h1:p→Ew C (⟨some (d,w),dd,op,us⟩ :: l) ((d,.b true) :: e) h Q) (h2:¬p→Ew C (⟨some (d,w),dd,op,us⟩ :: l) ((d,.b false) :: e) h Q):EwG C (decide p) w d dd op us l e h Q:=⟨fun hx=>ew_if hx (fun h=>h1 (of_decide_eq_true h)) fun h=>h2 (of_decide_eq_false h)⟩
theorem wgdT {w:Bool} {dd:Option Nat} (ho:p) (hr:Ew C (⟨some (d,w),dd,op,us⟩ :: l) ((d,.b true) :: e) h Q):EwG C (decide p) w d dd op us l e h Q:=wgd (fun _=>hr) (fun hh=>absurd ho (by simpa using hh))
theorem wgdF {w:Bool} {dd:Option Nat} (ho:¬p) (hr:Ew C (⟨some (d,w),dd,op,us⟩ :: l) ((d,.b false) :: e) h Q):EwG C (decide p) w d dd op us l e h Q:=wgd (fun hh=>absurd ho (by simpa using hh)) (fun _=>hr)
theorem wgn {w:Bool} {dd:Option Nat} (h1:¬p→Ew C (⟨some (d,w),dd,op,us⟩ :: l) ((d,.b true) :: e) h Q) (h2:p→Ew C (⟨some (d,w),dd,op,us⟩ :: l) ((d,.b false) :: e) h Q):EwG C (!decide p) w d dd op us l e h Q:=⟨fun hx=>ew_if hx (fun h=>h1 (of_decide_eq_false (by simpa using h))) fun h=>h2 (of_decide_eq_true (by simpa using h))⟩
theorem wgnT {w:Bool} {dd:Option Nat} (ho:¬p) (hr:Ew C (⟨some (d,w),dd,op,us⟩ :: l) ((d,.b true) :: e) h Q):EwG C (!decide p) w d dd op us l e h Q:=wgn (fun _=>hr) (fun hh=>absurd ho (by simpa using hh))
theorem wgnF {w:Bool} {dd:Option Nat} (ho:p) (hr:Ew C (⟨some (d,w),dd,op,us⟩ :: l) ((d,.b false) :: e) h Q):EwG C (!decide p) w d dd op us l e h Q:=wgn (fun hh=>absurd ho (by simpa using hh)) (fun _=>hr)
theorem wgb {c:Bool} {w:Bool} {dd:Option Nat} (h1:c=true→Ew C (⟨some (d,w),dd,op,us⟩ :: l) ((d,.b true) :: e) h Q) (h2:c=false→Ew C (⟨some (d,w),dd,op,us⟩ :: l) ((d,.b false) :: e) h Q):EwG C c w d dd op us l e h Q:=⟨fun hx=>ew_if hx h1 h2⟩
structure EmG (C:Cx) (c w:Bool) (d:Nat) (dd:Option Nat) (op:Top) (us:List Nat) (kd:Kd) (lm:List (So × Kd)) (j:Nat) (e:Env) (hs h:H) (st:List (Option Nat × H)) (ps:List Pd) (Q:Env→H→Prop):Prop where
 eq:look e d=some (.b c)→Em C ((⟨some (d,w),dd,op,us⟩,kd) :: lm) j e hs h st ps Q
theorem mg {c w:Bool} {dd:Option Nat} {kd:Kd} (hx:look e d=some (.b c)) (hr:EmG C c w d dd op us kd lm j e hs h st ps Q):Em C ((⟨some (d,w),dd,op,us⟩,kd) :: lm) j e hs h st ps Q:=hr.eq hx
theorem mg_t {dd:Option Nat} {kd:Kd} (hr:Em C ((⟨none,dd,op,us⟩,kd) :: lm) j e hs h st ps Q):EmG C true true d dd op us kd lm j e hs h st ps Q:=⟨fun hx=>⟨fun t ht rs hrs=>by
 have h1:=hr.run t ht rs hrs
 have hw:=(Wn.tt (ht.eq _ _ hx)).eq
 cases kd <;> (unfold wpM at h1 ⊢;simp only at h1 ⊢;rw[if_pos (want_n t)]at h1;rw[if_pos hw];exact h1)⟩⟩
theorem mz_t {dd':Nat} (hr:Em C lm (j+1) ((dd',.u) :: e) hs h st ps Q):EmG C true false d (some dd') op us (.q ks) lm j e hs h st ps Q:=⟨fun hx=>em_z (Gd.ft hx) hr⟩
theorem mze_t {dd':Nat} (hl:Lv j h.t ps) (hr:Em C lm (j+1) ((dd',.u) :: e) h h ((some j,h) :: st) ps Q):EmG C true false d (some dd') op us .e lm j e hs h st ps Q:=⟨fun hx=>em_ez (Gd.ft hx) hl hr⟩
theorem mg_f {dd:Option Nat} {kd:Kd} (hr:Em C ((⟨none,dd,op,us⟩,kd) :: lm) j e hs h st ps Q):EmG C false false d dd op us kd lm j e hs h st ps Q:=⟨fun hx=>⟨fun t ht rs hrs=>by
 have h1:=hr.run t ht rs hrs
 have hw:=(Wn.ff (ht.eq _ _ hx)).eq
 cases kd <;> (unfold wpM at h1 ⊢;simp only at h1 ⊢;rw[if_pos (want_n t)]at h1;rw[if_pos hw];exact h1)⟩⟩
theorem mz_f {dd':Nat} (hr:Em C lm (j+1) ((dd',.u) :: e) hs h st ps Q):EmG C false true d (some dd') op us (.q ks) lm j e hs h st ps Q:=⟨fun hx=>em_z (Gd.tf hx) hr⟩
theorem mze_f {dd':Nat} (hl:Lv j h.t ps) (hr:Em C lm (j+1) ((dd',.u) :: e) h h ((some j,h) :: st) ps Q):EmG C false true d (some dd') op us .e lm j e hs h st ps Q:=⟨fun hx=>em_ez (Gd.tf hx) hl hr⟩
theorem mgd {w:Bool} {dd:Option Nat} {kd:Kd} (h1:p→Em C ((⟨some (d,w),dd,op,us⟩,kd) :: lm) j ((d,.b true) :: e) hs h st ps Q) (h2:¬p→Em C ((⟨some (d,w),dd,op,us⟩,kd) :: lm) j ((d,.b false) :: e) hs h st ps Q):EmG C (decide p) w d dd op us kd lm j e hs h st ps Q:=⟨fun hx=>em_if hx (fun h=>h1 (of_decide_eq_true h)) fun h=>h2 (of_decide_eq_false h)⟩
theorem mgdT {w:Bool} {dd:Option Nat} {kd:Kd} (ho:p) (hr:Em C ((⟨some (d,w),dd,op,us⟩,kd) :: lm) j ((d,.b true) :: e) hs h st ps Q):EmG C (decide p) w d dd op us kd lm j e hs h st ps Q:=mgd (fun _=>hr) (fun hh=>absurd ho (by simpa using hh))
theorem mgdF {w:Bool} {dd:Option Nat} {kd:Kd} (ho:¬p) (hr:Em C ((⟨some (d,w),dd,op,us⟩,kd) :: lm) j ((d,.b false) :: e) hs h st ps Q):EmG C (decide p) w d dd op us kd lm j e hs h st ps Q:=mgd (fun hh=>absurd ho (by simpa using hh)) (fun _=>hr)
theorem mgn {w:Bool} {dd:Option Nat} {kd:Kd} (h1:¬p→Em C ((⟨some (d,w),dd,op,us⟩,kd) :: lm) j ((d,.b true) :: e) hs h st ps Q) (h2:p→Em C ((⟨some (d,w),dd,op,us⟩,kd) :: lm) j ((d,.b false) :: e) hs h st ps Q):EmG C (!decide p) w d dd op us kd lm j e hs h st ps Q:=⟨fun hx=>em_if hx (fun h=>h1 (of_decide_eq_false (by simpa using h))) fun h=>h2 (of_decide_eq_true (by simpa using h))⟩
theorem mgnT {w:Bool} {dd:Option Nat} {kd:Kd} (ho:¬p) (hr:Em C ((⟨some (d,w),dd,op,us⟩,kd) :: lm) j ((d,.b true) :: e) hs h st ps Q):EmG C (!decide p) w d dd op us kd lm j e hs h st ps Q:=mgn (fun _=>hr) (fun hh=>absurd ho (by simpa using hh))
theorem mgnF {w:Bool} {dd:Option Nat} {kd:Kd} (ho:p) (hr:Em C ((⟨some (d,w),dd,op,us⟩,kd) :: lm) j ((d,.b false) :: e) hs h st ps Q):EmG C (!decide p) w d dd op us kd lm j e hs h st ps Q:=mgn (fun hh=>absurd ho (by simpa using hh)) (fun _=>hr)
theorem mgb {c:Bool} {w:Bool} {dd:Option Nat} {kd:Kd} (h1:c=true→Em C ((⟨some (d,w),dd,op,us⟩,kd) :: lm) j ((d,.b true) :: e) hs h st ps Q) (h2:c=false→Em C ((⟨some (d,w),dd,op,us⟩,kd) :: lm) j ((d,.b false) :: e) hs h st ps Q):EmG C c w d dd op us kd lm j e hs h st ps Q:=⟨fun hx=>em_if hx h1 h2⟩
theorem Gd.u {d:Nat} {w:Bool} (hx:look e d=some .u):Gd e (some (d,w)) false:=⟨fun t ht=>⟨by
 have:=ht.eq _ _ hx
 rw[want_s,this]⟩⟩
theorem wu {w:Bool} {dd:Nat} (hx:look e d=some .u) (hr:Ew C l ((dd,.u) :: e) h Q):Ew C (⟨some (d,w),some dd,op,us⟩ :: l) e h Q:=ew_z (.u hx) hr
theorem mu {w:Bool} {dd:Nat} (hx:look e d=some .u) (hr:Em C lm (j+1) ((dd,.u) :: e) hs h st ps Q):Em C ((⟨some (d,w),some dd,op,us⟩,.q ks) :: lm) j e hs h st ps Q:=em_z (.u hx) hr
theorem mue {w:Bool} {dd:Nat} (hx:look e d=some .u) (hl:Lv j h.t ps) (hr:Em C lm (j+1) ((dd,.u) :: e) h h ((some j,h) :: st) ps Q):Em C ((⟨some (d,w),some dd,op,us⟩,.e) :: lm) j e hs h st ps Q:=em_ez (.u hx) hl hr
structure EsC (C:Cx) (K:List Fr) (c:Bool) (a b:Sc) (e:Env) (h:H):Prop where
 t:c=true→Es C K a e h
 f:c=false→Es C K b e h
theorem cnd {c:Bool} (hx:x.lk e=some (.b c)) (hr:EsC C K c a b e h):Es C K (.cond x a b) e h:=Es.cb hx hr.t hr.f
theorem ct (hs:Es C K a e h):EsC C K true a b e h:=⟨fun _=>hs,fun h=>(by cases h)⟩
theorem cf (hs:Es C K b e h):EsC C K false a b e h:=⟨fun h=>(by cases h),fun _=>hs⟩
theorem cD (h1:p→Es C K a e h) (h2:¬p→Es C K b e h):EsC C K (decide p) a b e h:=⟨fun h=>h1 (of_decide_eq_true h),fun h=>h2 (of_decide_eq_false h)⟩
theorem cN (h1:¬p→Es C K a e h) (h2:p→Es C K b e h):EsC C K (!decide p) a b e h:=⟨fun h=>h1 (of_decide_eq_false (by simpa using h)),fun h=>h2 (of_decide_eq_true (by simpa using h))⟩
theorem cB {c:Bool} (h1:c=true→Es C K a e h) (h2:c=false→Es C K b e h):EsC C K c a b e h:=⟨h1,h2⟩
theorem cDT (hp:p) (hs:Es C K a e h):EsC C K (decide p) a b e h:=cD (fun _=>hs) fun h=>absurd hp h
theorem cDF (hp:¬p) (hs:Es C K b e h):EsC C K (decide p) a b e h:=cD (fun h=>absurd h hp) fun _=>hs
theorem cNT (hp:¬p) (hs:Es C K a e h):EsC C K (!decide p) a b e h:=cN (fun _=>hs) fun h=>absurd h hp
theorem cNF (hp:p) (hs:Es C K b e h):EsC C K (!decide p) a b e h:=cN (fun h=>absurd hp h) fun _=>hs
end
end
end Go.Proofs.YtkcdehffcddciaaGreatDoor.Vm
