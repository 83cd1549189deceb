/- The small machine's append does what the model's does. -/
import Derived.Test.YtkcdehffcddciaaGreatDoorQ05
import Derived.Deep.Upon
import Derived.Laws.AppendOwn
namespace Go.Proofs.YtkcdehffcddciaaGreatDoor.Vm
open Go Go.RowKit
section
variable {A:Sub} {h:H} {w:World} {P:Program}
theorem nsc_le {m c:Nat} (hc:c<m):Builtin.nextslicecap m c≤16*m+2880:=by
 unfold Builtin.nextslicecap
 split
 ·omega
 ·split
  ·omega
  ·rw[growBy_four]
   repeat' split
   all_goals omega
theorem sizeB_info {t:TypeId} {n:Nat} (hs:sizeB P t=some n):∃i,P.info? t=some i∧i.size=n:=by
 unfold sizeB at hs
 obtain⟨i,hi,hs⟩:=ob_some hs
 rw[fN_eq]at hs
 injection hs with hs
 exact⟨i,hi,hs⟩
theorem zeroB_info {t:TypeId} {v:V} (hz:zeroB P t=some v):∃i x,P.info? t=some i∧i.zero=some x∧ofVal x=some v:=by
 unfold zeroB at hz
 obtain⟨i,hi,hz⟩:=ob_some hz
 obtain⟨x,hx,hz⟩:=ob_some hz
 exact⟨i,x,hi,hx,hz⟩
theorem newsK_some {sz:Nat} {y:V} {x:Value} {tx e':TypeId} {β:Type} {K:Nat→List V→Option β} {r:β} (hm:Mt A h w) (hu:P.underlying tx=some (.slice e')) (hy:Rel A h.next y x) (hk:newsK sz h y K=some r) :
  ∃n l ys,RelL A h.next l ys∧l.length=n*sz∧allOne l=true∧Src P sz tx x n ys w∧K n l=some r:=by
 unfold newsK at hk
 split at hk
 ·obtain⟨hz,hk⟩:=bb_some hk
  have hz:=Nat.eq_of_beq_eq_true hz
  subst hz
  obtain⟨c,ad,rfl,_,_,_,hoff⟩:=hy.of_sl
  obtain⟨l,ys,h1,h2,h3,h4,hk⟩:=loadRow_some hm hk
  have h4:∀(j:Nat) (y:Value),ys[j]?=some y→w.cell? (ad.add j)=some y:=fun j y hyj=>by
   rcases hoff with rfl | ⟨rfl,_⟩
   ·exact h4 j y hyj
   ·have:=(List.getElem?_eq_some_iff.1 hyj).1
    rw[h2]at this
    rw[show Nat.mul 0 _=0 from Nat.zero_mul _]at this
    omega
  exact⟨_,l,ys,h1,by rw[←h1.length];exact h2,h3,Src.ofSlice w hu _ _ _ ys h2 h4 (h1.one h3),hk⟩
 ·obtain rfl:=hy.of_ns
  exact⟨0,[],[],.nil,by simp,rfl,Src.ofNil w hu 0,hk⟩
 ·cases hk
theorem zeros_size (z:Array Value) (k sz:Nat) (hz:z.size=sz):(Builtin.zeroCells z k).size=k*sz:=by
 simp[Builtin.zeroCells,hz]
structure App (P:Program) (sz by_:Nat) (e ty xt e':TypeId) (i:TypeInfo) (z:Value):Prop where
 ht:P.underlying ty=some (.slice e)
 hx:P.underlying xt=some (.slice e')
 hi:P.info? e=some i
 hz:i.zero=some z
 hsz:i.size=sz
 hby:i.bytes=by_
 zs:z.cells.size=sz
 s0:0<sz
 b0:0<by_
theorem grow_some {sz by_ m c:Nat} {e ty xt e' tq:TypeId} {i:TypeInfo} {z:Value} {base:Option Addr} {len n:Nat} {l r:List V} {xs ys:List Value} {x:Value} {β:Type} {K:V→H→Option β} {q:β} (ha:App P sz by_ e ty xt e' i z) (hm:Mt A h w) (hl:RelL A h.next l xs) (hr:RelL A h.next r ys)
  (hll:l.length=len*sz) (hrl:r.length=n*sz) (hold:(Builtin.firstCells sz len (.slice base len c)).run P w.drew=.ok xs.toArray w.drew) (hs:Src P sz xt x n ys w) (hc:c<len+n) (hmm:m=len+n) (hb:m*by_≤4294967296) (hk:growK sz e h m (l++r) K=some q) :
  ∃v h' x' w',K v h'=some q∧(Builtin.append_ #[ty,xt] tq #[.slice base len c,x]).run P w=.ok x' w'∧Post A h w v h' x' w':=by
 subst hmm
 obtain⟨h3,hk⟩:=newRow_some hk
 have hm1:len+n≤4294967296:=by
  have h1:len+n≤(len+n)*by_:=Nat.le_mul_of_pos_right _ ha.b0
  omega
 have hfit:Builtin.nextslicecap (len+n) c*i.bytes≤281474976710656:=by
  rw[ha.hby]
  have h1:=nsc_le hc
  have h2:by_≤4294967296:=by
   have:by_≤(len+n)*by_:=Nat.le_mul_of_pos_left _ (by omega)
   omega
  have h3:Builtin.nextslicecap (len+n) c*by_≤(16*(len+n)+2880)*by_:=Nat.mul_le_mul_right _ h1
  have h4:(16*(len+n)+2880)*by_=16*((len+n)*by_)+2880*by_:=by rw[Nat.add_mul,Nat.mul_assoc]
  omega
 have hrun:=run_append_grow_src (P:=P) w ty xt tq e i z ha.ht ha.hi ha.hz base len c xs (by rw[ha.hsz];exact hold) x n ys (by rw[ha.hsz];exact hs) hc (by omega) hfit
 have hge:=grownCap_ge w (len+n) c e
 have hlen:(xs++ys).length=(len+n)*sz:=by rw[List.length_append,hl.length,hr.length,hll,hrl,Nat.add_mul]
 have hzs:=zeros_size z.cells (grownCap w (len+n) c e-(len+n)) sz ha.zs
 have harr:((xs++ys).toArray++Builtin.zeroCells z.cells (grownCap w (len+n) c e-(len+n)))=((xs++ys)++(Builtin.zeroCells z.cells (grownCap w (len+n) c e-(len+n))).toList).toArray:=by
  apply Array.ext'
  simp
 rw[harr]at hrun
 have hsize:((xs++ys)++(Builtin.zeroCells z.cells (grownCap w (len+n) c e-(len+n))).toList).length=grownCap w (len+n) c e*sz:=by
  rw[List.length_append,hlen,Array.length_toList,hzs,←Nat.add_mul]
  congr 1
  omega
 have hmd:Mt A h w.drew:=hm.same rfl
 have hnew:=Ev.new hmd (row_new (kk:=grownCap w (len+n) c e*sz) (e:=e) (p:=true) (hl.append hr) h3 (fun _=>hsize))
 have hdr:Ev A h w A h w.drew:=Ev.same hm rfl rfl rfl rfl
 refine⟨_,_,_,_,hk,hrun,_,hdr.trans hnew,?_⟩
 have hs1:(A.ext h.next w.drew.heap.size (grownCap w (len+n) c e*sz,0)).ι h.next=w.heap.size:=by simp[Sub.ext]
 have hs2:(A.ext h.next w.drew.heap.size (grownCap w (len+n) c e*sz,0)).κ h.next=(grownCap w (len+n) c e*sz,0):=by simp[Sub.ext]
 rw[←hs1]
 exact .slu _ _ _ _ _ _ _ (Nat.lt_succ_self _) (Nat.le_refl _) hge (by rw[hs2];show 0+0+_=_;simp) (.inl (by rw[hs2]))
theorem appendK_some {sz by_:Nat} {e ty xt e' tq:TypeId} {i:TypeInfo} {z:Value} {vx vy:V} {x y:Value} {β:Type} {K:V→H→Option β} {q:β} (ha:App P sz by_ e ty xt e' i z) (hm:Mt A h w) (hx:Rel A h.next vx x) (hy:Rel A h.next vy y)
  (hk:appendK sz by_ e h vx vy K=some q):∃v h' x' w',K v h'=some q∧(Builtin.append_ #[ty,xt] tq #[x,y]).run P w=.ok x' w'∧Post A h w v h' x' w':=by
 unfold appendK at hk
 obtain⟨n,r,ys,hr,hrl,hro,hs,hk⟩:=newsK_some hm ha.hx hy hk
 have hs':Src P i.size xt y n ys w:=by rw[ha.hsz];exact hs
 split at hk
 ·obtain rfl:=hx.of_ns
  cases n with
  | zero =>
   have hys:ys = []:=List.eq_nil_of_length_eq_zero (by rw[hr.length,hrl,Nat.zero_mul])
   subst hys
   exact⟨_,_,_,_,hk,run_append_nothing w ty xt tq e i ha.ht ha.hi none 0 0 (Nat.le_refl _) y hs',.same hm .ns⟩
  | succ n =>
   obtain⟨hb,hk⟩:=bb_some hk
   exact grow_some (l:=[]) (xs:=[]) ha hm .nil hr (by simp) hrl (run_firstCells_none _ _ _ _ _) hs (by omega) (by omega) (Nat.le_of_ble_eq_true hb) hk
 ·rename_i b o len cap kn z' _
  obtain⟨c,ad,rfl,hbn,hkn,hunk,hoff⟩:=hx.of_sl
  obtain⟨hz,hk1⟩:=bb_some hk
  clear hk
  have hz:=Nat.eq_of_beq_eq_true hz
  subst hz
  obtain⟨hb,hk2⟩:=bb_some hk1
  clear hk1
  have hb:(len+n+cap)*by_≤4294967296:=Nat.le_of_ble_eq_true hb
  have hmb:(len+n)*by_≤4294967296:=Nat.le_trans (Nat.mul_le_mul_right _ (Nat.le_add_right _ _)) hb
  rw[fN_eq]at hk2
  have hcap:cap≤c:=by
   cases kn with
   | true=>rw[hkn rfl];exact Nat.le_refl _
   | false=>exact(hunk rfl).2.1
  by_cases hroom:len+n≤cap
  ·rw[show Nat.ble (Nat.add len n) cap=true from Nat.ble_eq_true_of_le hroom,br_t]at hk2
   obtain⟨h',w',h1,h2,h3,_,h5,h6,_,h8⟩:=storeL_some (P:=P) hm hr hk2
   refine⟨_,_,.slice (some ad) (len+n) c,w',h1,?_,A,h3,?_⟩
   ·rcases hoff with rfl | ⟨h9,h10⟩
    ·have:=run_append_room_src (P:=P) w ty xt tq e i ha.ht ha.hi (A.ι b) ((A.κ b).2+o) len c y n ys hs' (by omega)
      (by rw[ha.hsz,Nat.add_assoc];exact h5) (by rw[ha.hsz,Nat.add_assoc];exact h6)
     rw[ha.hsz]at this
     rw[this,h8,Nat.add_assoc]
     rfl
    ·have hn0:n=0:=by omega
     subst hn0
     obtain rfl:ys = []:=List.eq_nil_of_length_eq_zero (by rw[hr.length,hrl,Nat.zero_mul])
     rw[h8]
     exact run_append_nothing w ty xt tq e i ha.ht ha.hi (some ad) len c (by omega) y hs'
   ·rw[h2]
    cases kn with
    | true=>rw[hkn rfl];exact .slk _ _ _ _ _ _ hbn (hoff.imp id fun h=>by have:=hkn rfl;show len+n=0∧cap=0;omega)
    | false=>exact .slu _ _ _ _ _ _ _ hbn hroom hcap (hunk rfl).2.2 (hoff.imp id fun h=>h.2)
  ·rw[show Nat.ble (Nat.add len n) cap=false from by
    cases hx:Nat.ble (Nat.add len n) cap with
    | false=>rfl
    | true=>exact absurd (Nat.le_of_ble_eq_true hx) hroom,br_f]at hk2
   cases kn with
   | true =>
    rw[br_t]at hk2
    obtain⟨l,xs,h1,h2,h3,h4,hk3⟩:=loadRow_some hm hk2
    have h4:∀(j:Nat) (y:Value),xs[j]?=some y→w.cell? (ad.add j)=some y:=fun j y hy=>by
     rcases hoff with rfl | ⟨rfl,_⟩
     ·exact h4 j y hy
     ·have:=(List.getElem?_eq_some_iff.1 hy).1
      rw[h2]at this
      have:j<0*z':=this
      rw[Nat.zero_mul]at this
      omega
    have hcc:=hkn rfl
    rw[hcc]
    exact grow_some ha hm h1 hr (by rw[←h1.length];exact h2) hrl (run_firstCells_some _ _ _ _ _ _ xs h2 h4) hs (by omega) rfl hmb hk3
   | false =>
    rw[br_f]at hk2
    obtain⟨e2,hi2,p,ct,hbl,hk4⟩:=rowK_some hk2
    obtain⟨hp,hk5⟩:=bb_some hk4
    subst hp
    obtain⟨he,hk6⟩:=bb_some hk5
    have he:=Nat.eq_of_beq_eq_true he
    subst he
    obtain⟨hh,hk7⟩:=bb_some hk6
    have hh:o+len*z'=hi2:=Nat.eq_of_beq_eq_true hh
    subst hh
    obtain⟨hro',hk8⟩:=bb_some hk7
    obtain⟨hu1,hu2,hu3⟩:=hunk rfl
    obtain⟨cs,h1,h2,h3,h4⟩:=hm.row hbl
    have hcs:=h2 rfl
    have hnm:(len+n)*z'=len*z'+n*z':=Nat.add_mul ..
    
    obtain⟨c2,hc2,hk9⟩:∃c2:Tr V,(∀j,j<(len+n)*z'→c2.get j=if j<len*z' then ct.get (o+j)else r[j-len*z']?)∧K (.sl h.next 0 (len+n) (len+n) false z') ⟨h.next+1,(h.t.set b none).set h.next (some (.cells e ((len+n)*z') true c2))⟩=some q:=by
     rw[br_eq]at hk8
     split at hk8
     ·rename_i ho
      have ho:=Nat.eq_of_beq_eq_true ho
      subst ho
      rw[Tr.putL_eq,Tr.put_set,fN_eq]at hk8
      refine⟨_,fun j hj=>?_,newO_some hk8⟩
      show(Tr.putsL r ct (0+len*z')).get j=_
      rw[Tr.get_putsL,Nat.zero_add,Nat.zero_add,hrl]
      by_cases hj1:j<len*z'
      ·rw[if_neg (by omega),if_pos hj1]
      ·rw[if_pos (by omega),if_neg hj1]
     ·unfold loadRow at hk8
      obtain⟨e3,hi3,c3,hb3,hk8⟩:=rowR_some hk8
      obtain⟨_,hk8⟩:=bb_some hk8
      obtain⟨ol,hol,hk8⟩:=ob_some hk8
      rw[Tr.putL_eq,Tr.put_set,fN_eq]at hk8
      have hc3:c3=ct:=by
       rcases hb3 with⟨p3,hb3⟩ | ⟨p3,hb3⟩
       ·rw[hbl]at hb3
        injection hb3 with hb3
        injection hb3 with _ _ _ hb3
        exact hb3.symm
       ·rw[hbl]at hb3
        injection hb3 with hb3
        cases hb3
      subst hc3
      have hlo:∀(k p:Nat) (l:List V),loadN c3 k p=some l→l.length=k∧∀j,j<k→l[j]?=c3.get (p+j):=by
       intro k
       induction k with
       | zero=>intro p l hl;injection hl with hl;subst hl;exact⟨rfl,fun j hj=>absurd hj (Nat.not_lt_zero _)⟩
       | succ k ih =>
        intro p l hl
        rw[loadN_c]at hl
        obtain⟨v,hv,hl⟩:=ob_some hl
        obtain⟨l',hl',hl⟩:=ob_some hl
        injection hl with hl
        subst hl
        obtain⟨h5,h6⟩:=ih (p+1) l' hl'
        refine⟨by rw[List.length_cons,h5],fun j hj=>?_⟩
        cases j with
        | zero=>rw[Nat.add_zero,hv];rfl
        | succ j=>rw[List.getElem?_cons_succ,h6 j (by omega),show p+1+j=p+(j+1) by omega]
      obtain⟨h5,h6⟩:=hlo _ _ _ hol
      have h5:ol.length=len*z':=h5
      refine⟨_,fun j hj=>?_,newO_some hk8⟩
      rw[Tr.get_putsL,if_pos ⟨Nat.zero_le _,by rw[List.length_append,h5,hrl];omega⟩,Nat.sub_zero]
      by_cases hj1:j<len*z'
      ·rw[if_pos hj1,List.getElem?_append_left (by omega)]
       exact h6 j hj1
      ·rw[if_neg hj1,List.getElem?_append_right (by omega),h5]
    by_cases hin:len+n≤c
    ·
     obtain rfl:ad=⟨A.ι b,(A.κ b).2+o,none⟩:=by rcases hoff with h | h <;> first | exact h | omega
     have hle:(len+n)*z'≤c*z':=Nat.mul_le_mul_right _ hin
     have hsz:(A.κ b).2+o+len*z'+ys.length≤cs.size:=by rw[hr.length,hrl,hcs,←hu3];omega
     have h1c:=hr.one hro
     have hrow:=setCells_row h1 ys hsz h1c
     have hor:ORel A h.next (A.ι b) ((A.κ b).1,(A.κ b).2+o) (.cells e ((len+n)*z') true c2) (.cells (splice cs ((A.κ b).2+o+len*z') ys) e (0,0)):=by
      refine⟨_,rfl,fun _=>by rw[splice_size hsz];exact hcs,by rw[splice_size hsz,hcs,←hu3];show(A.κ b).2+o+(len+n)*z'≤_;omega,fun j hj=>?_⟩
      rw[hc2 j hj]
      show ∃v y,_∧(splice cs _ ys)[(A.κ b).2+o+j]?=some y∧_
      rw[splice_get hsz,hr.length,hrl]
      by_cases hj1:j<len*z'
      ·rw[if_pos hj1,if_neg (by omega)]
       obtain⟨v,y,h5,h6,h7,h8⟩:=h3 (o+j) (by omega)
       exact⟨v,y,h5,by rw[Nat.add_assoc];exact h6,h7,h8⟩
      ·rw[if_neg hj1,if_pos (by omega)]
       have hjr:j-len*z'<r.length:=by rw[hrl];omega
       have h5:r[j-len*z']?=some r[j-len*z']:=List.getElem?_eq_getElem hjr
       obtain⟨u9,hu,hru⟩:=hr.get h5
       exact⟨_,u9,h5,by rw[show(A.κ b).2+o+j-((A.κ b).2+o+len*z')=j-len*z' by omega];exact hu,hru,allOne_get hro h5⟩
     have hev:=Ev.turn (w':=w.setCells (A.ι b) ((A.κ b).2+o+len*z') ys) hm hbl rfl hor (by rw[hrow];exact setRow_heap w _ cs _ _ _ h1) (fun k hk=>by rw[hrow];exact setRow_other w _ k _ hk) (by rw[hrow];simp) (by rw[hrow];rfl) (by rw[hrow];rfl) (by rw[hrow];rfl)
     refine⟨_,_,.slice (some ⟨A.ι b,(A.κ b).2+o,none⟩) (len+n) c,_,hk9,?_,_,hev,?_⟩
     ·have:=run_append_room_src (P:=P) w ty xt tq e i ha.ht ha.hi (A.ι b) ((A.κ b).2+o) len c y n ys hs' hin (fun j hj=>by
       rw[ha.hsz,cell_of h1,Array.getElem?_eq_getElem (by omega)];rfl) (fun j _=>by rw[frozen_of h1])
      rw[ha.hsz]at this
      exact this
     ·have hs1:(A.ext h.next (A.ι b) ((A.κ b).1,(A.κ b).2+o)).ι h.next=A.ι b:=by simp[Sub.ext]
      have hs2:(A.ext h.next (A.ι b) ((A.κ b).1,(A.κ b).2+o)).κ h.next=((A.κ b).1,(A.κ b).2+o):=by simp[Sub.ext]
      have:=Rel.slu (A:=A.ext h.next (A.ι b) ((A.κ b).1,(A.κ b).2+o)) (n:=h.next+1) h.next 0 (len+n) (len+n) z' c ⟨A.ι b,(A.κ b).2+o,none⟩ (Nat.lt_succ_self _) (Nat.le_refl _) hin (by rw[hs2];exact hu3) (.inl (by rw[hs1,hs2];rfl))
      exact this
    ·
     have hc':c<len+n:=by omega
     have hm1:len+n≤4294967296:=by
      have h1:len+n≤(len+n)*by_:=Nat.le_mul_of_pos_right _ ha.b0
      omega
     have hfit:Builtin.nextslicecap (len+n) c*i.bytes≤281474976710656:=by
      rw[ha.hby]
      have h1:=nsc_le hc'
      have h2:by_≤4294967296:=by
       have:by_≤(len+n)*by_:=Nat.le_mul_of_pos_left _ (by omega)
       omega
      have h3:Builtin.nextslicecap (len+n) c*by_≤(16*(len+n)+2880)*by_:=Nat.mul_le_mul_right _ h1
      have h4:(16*(len+n)+2880)*by_=16*((len+n)*by_)+2880*by_:=by rw[Nat.add_mul,Nat.mul_assoc]
      omega
     have holds:((cs.toList.drop ((A.κ b).2+o)).take (len*z')).length=len*z':=by rw[List.length_take,List.length_drop,Array.length_toList];omega
     have hget:∀(j:Nat) (u9:Value),((cs.toList.drop ((A.κ b).2+o)).take (len*z'))[j]?=some u9→w.cell? (ad.add j)=some u9:=fun j u9 hu=>by
      rw[List.getElem?_take]at hu
      split at hu
      ·rename_i hj
       have hoff3:ad=⟨A.ι b,(A.κ b).2+o,none⟩:=by
        rcases hoff with h9 | ⟨h9,_⟩
        ·exact h9
        ·rw[h9,Nat.zero_mul]at hj;omega
       rw[hoff3,add_lit,cell_of h1]
       rw[List.getElem?_drop]at hu
       simpa using hu
      ·cases hu
     have hrun:=run_append_grow_src (P:=P) w ty xt tq e i z ha.ht ha.hi ha.hz (some ad) len c ((cs.toList.drop ((A.κ b).2+o)).take (len*z')) (by rw[ha.hsz];exact run_firstCells_some _ _ _ _ _ _ _ holds hget) y n ys hs' hc' (by omega) hfit
     have hge:=grownCap_ge w (len+n) c e
     have hzs:=zeros_size z.cells (grownCap w (len+n) c e-(len+n)) z' ha.zs
     have hsize:((((cs.toList.drop ((A.κ b).2+o)).take (len*z'))++ys).toArray++Builtin.zeroCells z.cells (grownCap w (len+n) c e-(len+n))).size=grownCap w (len+n) c e*z':=by
      rw[Array.size_append,List.size_toArray,List.length_append,holds,hzs,hr.length,hrl,←Nat.add_mul,←Nat.add_mul]
      congr 1
      omega
     have hkl:=Ev.kill hm b (fun O hO=>by rw[hbl]at hO;injection hO with hO;subst hO;rfl)
     have hdr:Ev A ⟨h.next,h.t.set b none⟩ w A ⟨h.next,h.t.set b none⟩ w.drew:=Ev.same hkl.mt rfl rfl rfl rfl
     have hor:ORel A h.next w.heap.size (grownCap w (len+n) c e*z',0) (.cells e ((len+n)*z') true c2) (.cells ((((cs.toList.drop ((A.κ b).2+o)).take (len*z'))++ys).toArray++Builtin.zeroCells z.cells (grownCap w (len+n) c e-(len+n))) e (0,0)):=by
      refine⟨_,rfl,fun _=>hsize,by rw[hsize];show 0+(len+n)*z'≤_;rw[Nat.zero_add];exact Nat.mul_le_mul_right _ hge,fun j hj=>?_⟩
      rw[hc2 j hj]
      have harr:∀u9,(((cs.toList.drop ((A.κ b).2+o)).take (len*z'))++ys)[j]?=some u9→((((cs.toList.drop ((A.κ b).2+o)).take (len*z'))++ys).toArray++Builtin.zeroCells z.cells (grownCap w (len+n) c e-(len+n)))[0+j]?=some u9:=fun u9 hu=>by
       have hlt:=(List.getElem?_eq_some_iff.1 hu).1
       rw[Nat.zero_add,Array.getElem?_append_left (by simpa using hlt)]
       simpa using hu
      by_cases hj1:len*z'≤j
      ·rw[if_neg (by omega)]
       have hjr:j-len*z'<r.length:=by rw[hrl];omega
       have h5:r[j-len*z']?=some r[j-len*z']:=List.getElem?_eq_getElem hjr
       obtain⟨u9,hu,hru⟩:=hr.get h5
       exact⟨_,u9,h5,harr u9 (by rw[List.getElem?_append_right (by omega),holds];exact hu),hru,allOne_get hro h5⟩
      ·rw[if_pos (by omega)]
       obtain⟨v,u9,h5,h6,h7,h8⟩:=h3 (o+j) (by omega)
       refine⟨v,u9,h5,harr u9 ?_,h7,h8⟩
       rw[List.getElem?_append_left (by omega),List.getElem?_take_of_lt (by omega),List.getElem?_drop,Nat.add_assoc]
       simpa using h6
     have hnew:=Ev.new hdr.mt hor
     refine⟨_,_,.slice (some ⟨w.heap.size,0,none⟩) (len+n) (grownCap w (len+n) c e),_,hk9,hrun,_,hkl.trans (hdr.trans hnew),?_⟩
     have hs1:(A.ext h.next w.drew.heap.size (grownCap w (len+n) c e*z',0)).ι h.next=w.heap.size:=by simp[Sub.ext]
     have hs2:(A.ext h.next w.drew.heap.size (grownCap w (len+n) c e*z',0)).κ h.next=(grownCap w (len+n) c e*z',0):=by simp[Sub.ext]
     rw[←hs1]
     exact .slu _ _ _ _ _ _ _ (Nat.lt_succ_self _) (Nat.le_refl _) hge (by rw[hs2];show 0+0+_=_;simp) (.inl (by rw[hs2]))
 ·cases hk
theorem run_zeros (t tx ty e:TypeId) (i:TypeInfo) (z:Value) (j k:IntKind) (ht:P.underlying t=some (.slice e)) (hx:P.underlying tx=some (.int j)) (hi:P.info? e=some i) (hz:i.zero=some z) (n:Nat) (hn:0<n) (hs:0<i.size) (h63:n≤4294967296) (hb:n*i.bytes≤4294967296) (hfit:Builtin.nextslicecap n 0*i.bytes≤281474976710656) :
  (Builtin.append_ #[t,tx] ty #[.slice none 0 0,.int k (n:Int)]).run P w=.ok (.slice (some ⟨w.heap.size,0,none⟩) n (grownCap w n 0 e)) (w.drew.alloc (.cells (Builtin.zeroCells z.cells n++Builtin.zeroCells z.cells (grownCap w n 0 e-n)) e)):=by
 have hw:IntKind.i64.wrap (n:Int)=(n:Int):=by rw[IntKind.wrap_i64];omega
 have h0:¬((n:Int)<0):=by omega
 have h1:¬(281474976710656<(n:Int)*(i.bytes:Int)):=by
  have:((n*i.bytes:Nat):Int)≤((4294967296:Nat):Int):=Int.ofNat_le.2 hb
  rw[Int.natCast_mul]at this
  omega
 have h2:¬(n*i.size=0):=Nat.mul_ne_zero (by omega) (by omega)
 have h3':¬n=0:=by omega
 have h4:¬(9223372036854775807<(n:Int)):=by omega
 have h5:¬(281474976710656<Builtin.nextslicecap n 0*i.bytes):=by omega
 simp[Builtin.append_,run_underlying ht,run_underlying hx,sizeOf,typeInfo,zeroValue,hi,hz,asInt,asIntOf,hw,h0,h1,h2,h3',h4,h5,Question.forced,grownCap,Builtin.firstCells]
 rfl
theorem zeros_some {sz by_ n:Nat} {e ty xt tq:TypeId} {i:TypeInfo} {z:Value} {zv:V} {j k:IntKind} {β:Type} {K:V→H→Option β} {q:β} (ht:P.underlying ty=some (.slice e)) (hx:P.underlying xt=some (.int j)) (hi:P.info? e=some i) (hz:i.zero=some z) (hsz:i.size=sz) (hby:i.bytes=by_)
  (hzs:z.cells.size=sz) (h0:0<sz) (hb0:0<by_) (hzr:∀A n,RelL A n zv.cells z.cells.toList) (hm:Mt A h w) (hk:(Nat.rec (K .ns h) (fun _ _=>bb (Nat.ble (Nat.mul n by_) 4294967296) (growK sz e h n (rep zv.cells n) K)) n:Option β)=some q) :
  ∃v h' x' w',K v h'=some q∧(Builtin.append_ #[ty,xt] tq #[.slice none 0 0,.int k (n:Int)]).run P w=.ok x' w'∧Post A h w v h' x' w':=by
 cases n with
 | zero =>
  refine⟨_,_,.slice none 0 0,w,hk,?_,.same hm .ns⟩
  have hw:IntKind.i64.wrap 0=0:=by rw[IntKind.wrap_i64];rfl
  simp[Builtin.append_,run_underlying ht,run_underlying hx,sizeOf,typeInfo,hi,asInt,asIntOf,hw]
 | succ m =>
  obtain⟨hb,hk⟩:=bb_some (show bb (Nat.ble (Nat.mul (m+1) by_) 4294967296) (growK sz e h (m+1) (rep zv.cells (m+1)) K)=some q from hk)
  have hb:(m+1)*by_≤4294967296:=Nat.le_of_ble_eq_true hb
  obtain⟨h3,hk⟩:=newRow_some hk
  have hm1:m+1≤4294967296:=by
   have h1:m+1≤(m+1)*by_:=Nat.le_mul_of_pos_right _ hb0
   omega
  have hfit:Builtin.nextslicecap (m+1) 0*i.bytes≤281474976710656:=by
   rw[hby]
   have h1:=nsc_le (show 0<m+1 by omega)
   have h2:by_≤4294967296:=by
    have:by_≤(m+1)*by_:=Nat.le_mul_of_pos_left _ (by omega)
    omega
   have h3:Builtin.nextslicecap (m+1) 0*by_≤(16*(m+1)+2880)*by_:=Nat.mul_le_mul_right _ h1
   have h4:(16*(m+1)+2880)*by_=16*((m+1)*by_)+2880*by_:=by rw[Nat.add_mul,Nat.mul_assoc]
   omega
  have hrun:=run_zeros (P:=P) (w:=w) ty xt tq e i z j k ht hx hi hz (m+1) (by omega) (by omega) hm1 (by rw[hby];exact hb) hfit
  have hge:=grownCap_ge w (m+1) 0 e
  have hz1:Builtin.zeroCells z.cells (m+1)=(List.flatten (List.replicate (m+1) z.cells.toList)).toArray:=by
   unfold Builtin.zeroCells
   rw[show(m+1)*z.cells.size=(m+1)*sz by rw[hzs]]
   exact zero_rep z.cells (m+1) sz hzs h0
  have hl:RelL A h.next (rep zv.cells (m+1)) (List.flatten (List.replicate (m+1) z.cells.toList)):=rep_rel (hzr A h.next) (m+1)
  have hlen:(List.flatten (List.replicate (m+1) z.cells.toList)).length=(m+1)*sz:=by simp[List.length_flatten,hzs]
  have hzl:=zeros_size z.cells (grownCap w (m+1) 0 e-(m+1)) sz hzs
  have harr:(Builtin.zeroCells z.cells (m+1)++Builtin.zeroCells z.cells (grownCap w (m+1) 0 e-(m+1)))=((List.flatten (List.replicate (m+1) z.cells.toList))++(Builtin.zeroCells z.cells (grownCap w (m+1) 0 e-(m+1))).toList).toArray:=by
   rw[hz1]
   apply Array.ext'
   simp
  rw[harr]at hrun
  have hsize:((List.flatten (List.replicate (m+1) z.cells.toList))++(Builtin.zeroCells z.cells (grownCap w (m+1) 0 e-(m+1))).toList).length=grownCap w (m+1) 0 e*sz:=by
   rw[List.length_append,hlen,Array.length_toList,hzl,←Nat.add_mul]
   congr 1
   omega
  have hl1:(rep zv.cells (m+1)).length=(m+1)*sz:=by rw[←hl.length];exact hlen
  have hmd:Mt A h w.drew:=hm.same rfl
  have hnew:=Ev.new hmd (row_new (kk:=grownCap w (m+1) 0 e*sz) (e:=e) (p:=true) hl h3 (fun _=>hsize))
  have hdr:Ev A h w A h w.drew:=Ev.same hm rfl rfl rfl rfl
  refine⟨_,_,_,_,hk,hrun,_,hdr.trans hnew,?_⟩
  have hs1:(A.ext h.next w.drew.heap.size (grownCap w (m+1) 0 e*sz,0)).ι h.next=w.heap.size:=by simp[Sub.ext]
  have hs2:(A.ext h.next w.drew.heap.size (grownCap w (m+1) 0 e*sz,0)).κ h.next=(grownCap w (m+1) 0 e*sz,0):=by simp[Sub.ext]
  rw[←hs1]
  exact .slu _ _ _ _ _ _ _ (Nat.lt_succ_self _) (Nat.le_refl _) hge (by rw[hs2];show 0+0+_=_;simp) (.inl (by rw[hs2]))
end
section
variable {A:Sub} {h:H} {w:World} {P:Program} {β:Type}
theorem mapK_some {r:Nat} {K:List En→Nat→Option β} {q:β} (hm:Mt A h w) (hk:mapK h r K=some q):∃es c xs,h.t.get r=some (.map es c)∧w.heap[A.ι r]?=some (.map xs c)∧xs.size=es.length ∧
  (∀(j:Nat) (e:En),es[j]?=some e→∃y,xs[j]?=some y∧EnRel A h.next e y)∧K es c=some q:=by
 unfold mapK at hk
 obtain⟨x,hx,hk⟩:=ob_some hk
 split at hk
 ·rename_i es c
  obtain⟨o,ho,xs,rfl,h1,h2⟩:=hm.obj r _ hx
  exact⟨es,c,xs,hx,ho,h1,h2,hk⟩
 ·cases hk
theorem run_getMap {r c:Nat} {xs:Array MapEntry} (hr:w.heap[r]?=some (.map xs c)):(getObj r).run P w=.ok (.map xs c) w:=by
 simp only[getObj,Sem.run,hr]
theorem run_setMap {r c:Nat} {xs:Array MapEntry} {o:Obj} (hr:w.heap[r]?=some (.map xs c)):(setObj r o).run P w=.ok () { w with heap:=w.heap.setIfInBounds r o }:=by
 simp only[setObj,Sem.run,hr]
theorem keyInt_some {ty e:TypeId} (h:keyInt P ty=some e):∃k q,P.underlying ty=some (.map k e)∧P.underlying k=some (.int q):=by
 unfold keyInt at h
 split at h
 ·rename_i k e' hu
  split at h
  ·rename_i q hq
   injection h with h
   subst h
   exact⟨k,q,hu,hq⟩
  ·cases h
 ·cases h
theorem run_check {b:Bool} (d:Nat) {k:TypeId} {q j:IntKind} {n:Int} (hk:P.underlying k=some (.int q)):(Instr.checkKey b (d+1) k (.int j n)).run P w=.ok () w:=by
 simp only[Instr.checkKey,Sem.run_bind,run_und hk,Result.andThen_ok,Sem.run_pure]
theorem find_none {n:Nat} {q k:IntKind} {m:Int}:∀(es:List En) (xs:List MapEntry) (i:Nat),xs.length=es.length→(∀(j:Nat) (e:En),es[j]?=some e→∃y,xs[j]?=some y∧EnRel A n e y)→findE k m es=some none→Instr.findNow (.int q) (.int k m) xs i=some none
 | [],xs,i,hl,_,_=>by
  obtain rfl:xs = []:=List.eq_nil_of_length_eq_zero hl
  rfl
 | e :: es,[],i,hl,_,_=>by simp at hl
 | e :: es,x :: xs,i,hl,hr,hf=>by
  simp only[findE]at hf
  obtain⟨hk,hf⟩:=bb_some hf
  have hk:=of_decide_eq_true hk
  obtain⟨y,hy,h1,_,_⟩:=hr 0 e rfl
  simp only[List.getElem?_cons_zero,Option.some.injEq]at hy
  subst hy
  simp only[Instr.findNow,h1,Instr.sameNow,hk,if_true]
  cases hne:(m == e.n)with
  | true=>rw[hne]at hf;simp at hf
  | false =>
   rw[hne]at hf
   simp only[cond_false]at hf
   rw[←hk]
   exact find_none es xs (i+1) (by simpa using hl) (fun j e' he'=>by simpa using hr (j+1) e' (by simpa using he')) hf
theorem find_some {n:Nat} {q k:IntKind} {m:Int} {v:V}:∀(es:List En) (xs:List MapEntry) (i:Nat),xs.length=es.length→(∀(j:Nat) (e:En),es[j]?=some e→∃y,xs[j]?=some y∧EnRel A n e y)→findE k m es=some (some v) →
  ∃j y e,es[j]?=some e∧xs[j]?=some y∧e.v=v∧y.key=.int k m∧Rel A n v y.val∧Instr.findNow (.int q) (.int k m) xs i=some (some (i+j,y.val))∧(∀u9,putE m u9 es=es.set j { e with v:=u9 })
 | [],xs,i,hl,_,hf=>by simp[findE]at hf
 | e :: es,[],i,hl,_,_=>by simp at hl
 | e :: es,x :: xs,i,hl,hr,hf=>by
  simp only[findE]at hf
  obtain⟨hk,hf⟩:=bb_some hf
  have hk:=of_decide_eq_true hk
  obtain⟨y,hy,h1,h2,h3⟩:=hr 0 e rfl
  simp only[List.getElem?_cons_zero,Option.some.injEq]at hy
  subst hy
  cases hne:(m == e.n)with
  | true =>
   rw[hne]at hf
   simp only[cond_true,Option.some.injEq]at hf
   have hm:m=e.n:=by simpa using hne
   refine⟨0,x,e,rfl,rfl,hf,by rw[h1,hk,hm],by rw[←hf];exact h2,?_,fun u9=>by simp[putE,hne]⟩
   simp[Instr.findNow,h1,Instr.sameNow,hk,hm]
  | false =>
   rw[hne]at hf
   simp only[cond_false]at hf
   obtain⟨j,y,e',h4,h5,h6,h7,h8,h9,h10⟩:=find_some (q:=q) es xs (i+1) (by simpa using hl) (fun j e' he'=>by simpa using hr (j+1) e' (by simpa using he')) hf
   refine⟨j+1,y,e',by simpa using h4,by simpa using h5,h6,h7,h8,?_,fun u9=>by simp[putE,hne,h10]⟩
   simp only[Instr.findNow,h1,Instr.sameNow,←hk,if_true,hne]
   rw[h9]
   congr 3
   omega
theorem newMap_ok {ty:TypeId} {C:CallF}:OpOk P C (.makeMap ty none) ⟨fun _ _ h K=>newO h (.map [] 0) fun b h=>K (.m b) h⟩:=by
 intro o ho A h w N t a K q hm ht hk
 have hk:newO h (.map [] 0) (fun b h=>K (.m b) h)=some q:=hk
 have hk:=newO_some hk
 have hor:ORel A h.next w.heap.size (0,0) (.map [] 0) (.map #[] 0):=⟨#[],rfl,rfl,fun j e he=>by simp at he⟩
 refine⟨_,_,hk,.value (x:=.map (some w.heap.size)) (w':=w.alloc (.map #[] 0)) ?_ ⟨_,Ev.new (k:=(0,0)) hm hor,?_⟩⟩
 ·simp only[execOp,ho,Option.map_none,Instr.makeMap,Sem.run_bind,Sem.run_pure]
  rfl
 ·have:Rel (A.ext h.next w.heap.size (0,0)) (h.next+1) (.m h.next) (.map (some ((A.ext h.next w.heap.size (0,0)).ι h.next))):=.m _ (Nat.lt_succ_self _)
  simpa [Sub.ext]using this
theorem heap_set (w:World) (g:Nat) (o:Obj) (hg:g<w.heap.size):({ w with heap:=w.heap.setIfInBounds g o }:World).heap[g]?=some o:=by simp[hg]
theorem heap_set_ne (w:World) (g k:Nat) (o:Obj) (hk:k≠g):({ w with heap:=w.heap.setIfInBounds g o }:World).heap[k]?=w.heap[k]?:=by
 simp[Array.getElem?_setIfInBounds_ne (Ne.symm hk)]
theorem updK_some {ty e:TypeId} {vm vk vv:V} {m k v:Value} {K:H→Option β} {q:β} (hm:Mt A h w) (hu:keyInt P ty=some e) (h1:Rel A h.next vm m) (h2:Rel A h.next vk k) (h3:Rel A h.next vv v) (hk:updK h vm vk vv K=some q) :
  ∃h' w',K h'=some q∧(Instr.mapUpdate ty m k v).run P w=.ok () w'∧Ev A h w A h' w'∧h'.next=h.next:=by
 unfold updK at hk
 split at hk
 ·rename_i r
  obtain⟨rfl,hr⟩:=h1.of_m
  obtain⟨j,n,rfl,hk⟩:=asI_some hk
  obtain rfl:=h2.of_i
  obtain⟨es,c,xs,hb,hx,hsz,hes,hk⟩:=mapK_some hm hk
  obtain⟨f,hf,hk⟩:=ob_some hk
  obtain⟨kt,kq,ht,hkt⟩:=keyInt_some hu
  have hlt:=hm.ilt hb
  cases f with
  | none =>
   have hk:fN (Nat.succ c) (fun c1=>Tr.put (some (.map (es++[⟨j,n,vv,c⟩]) c1)) h.t r fun t=>K ⟨h.next,t⟩)=some q:=hk
   rw[fN_eq,Tr.put_set]at hk
   have hfn:=find_none (q:=kq) (n:=h.next) es xs.toList 0 (by simpa using hsz) (fun j e he=>by simpa using hes j e he) hf
   refine⟨_,{ w with heap:=w.heap.setIfInBounds (A.ι r) (.map (xs.push { key:=.int j n,val:=v,born:=c }) (c+1)) },hk,?_,Ev.upd hm hb rfl ?_ (heap_set w _ _ hlt) (fun k hk=>heap_set_ne w _ k _ hk) (by simp) rfl rfl rfl,rfl⟩
   ·have hc:=run_check (P:=P) (w:=w) (b:=false) 9999 (j:=j) (n:=n) hkt
    simp only[Instr.mapUpdate,Sem.run_bind,run_und ht,Result.andThen_ok,run_getMap hx]
    rw[show(Instr.checkKey false 10000 kt (.int j n)).run P w=.ok () w from hc]
    simp only[Result.andThen_ok,Instr.findKey,Sem.run_bind,run_und hkt,hfn,Sem.run_pure,run_setMap hx]
   ·refine⟨_,rfl,by simp[hsz],fun i e he=>?_⟩
    by_cases hi:i<es.length
    ·rw[List.getElem?_append_left hi]at he
     obtain⟨y,hy,hr⟩:=hes i e he
     exact⟨y,by rw[Array.getElem?_push_lt (by omega)];rw[Array.getElem?_eq_getElem (by omega)]at hy;exact hy,hr⟩
    ·have hi2:i=es.length:=by
      have:=(List.getElem?_eq_some_iff.1 he).1
      simp at this
      omega
     subst hi2
     simp at he
     subst he
     refine⟨{ key:=.int j n,val:=v,born:=c },by rw[←hsz];simp,rfl,h3,rfl⟩
  | some u9 =>
   have hk:Tr.put (some (.map (putE n vv es) c)) h.t r (fun t=>K ⟨h.next,t⟩)=some q:=hk
   rw[Tr.put_set]at hk
   obtain⟨i,y,e',h4,h5,h6,h7,h8,h9,h10⟩:=find_some (q:=kq) (n:=h.next) es xs.toList 0 (by simpa using hsz) (fun j e he=>by simpa using hes j e he) hf
   rw[Nat.zero_add]at h9
   have h5:xs[i]?=some y:=by simpa using h5
   refine⟨_,{ w with heap:=w.heap.setIfInBounds (A.ι r) (.map (xs.modify i fun e=>{ e with key:=.int j n,val:=v }) c) },hk,?_,Ev.upd hm hb rfl ?_ (heap_set w _ _ hlt) (fun k hk=>heap_set_ne w _ k _ hk) (by simp) rfl rfl rfl,rfl⟩
   ·have hc:=run_check (P:=P) (w:=w) (b:=false) 9999 (j:=j) (n:=n) hkt
    simp only[Instr.mapUpdate,Sem.run_bind,run_und ht,Result.andThen_ok,run_getMap hx]
    rw[show(Instr.checkKey false 10000 kt (.int j n)).run P w=.ok () w from hc]
    simp only[Result.andThen_ok,Instr.findKey,Sem.run_bind,run_und hkt,h9,Sem.run_pure,h5,Option.map_some,Option.getD_some,h7]
    have hst:(Instr.keyThatStays (.int j n) (.int j n)).run P w=.ok (.int j n) w:=by
     unfold Instr.keyThatStays
     rw[if_pos (by simp[Instr.sameBits])]
     rfl
    simp only[hst,Result.andThen_ok,run_setMap hx]
   ·rw[h10]
    refine⟨_,rfl,by simp[hsz],fun l e he=>?_⟩
    rw[List.getElem?_set]at he
    by_cases hl:i=l
    ·subst hl
     rw[if_pos rfl]at he
     split at he
     ·injection he with he
      subst he
      obtain⟨y',hy',hr1,hr2,hr3⟩:=hes i e' h4
      rw[h5]at hy'
      injection hy' with hy'
      subst hy'
      refine⟨{ y with key:=.int j n,val:=v },by simp[Array.getElem?_modify,h5],?_,h3,hr3⟩
      rw[←h7];exact hr1
     ·cases he
    ·rw[if_neg hl]at he
     obtain⟨y',hy',hr⟩:=hes l e he
     exact⟨y',by rw[Array.getElem?_modify,if_neg hl];exact hy',hr⟩
 ·cases hk
theorem insert_ok {ty e:TypeId} {x y z:Operand} {rx ry rz:Rd} {C:CallF} (hx:rdB x=some rx) (hy:rdB y=some ry) (hz:rdB z=some rz) (hu:keyInt P ty=some e) :
  OpOk P C (.insert ty x y z) ⟨fun _ t h K=>rdK t rx fun m=>rdK t ry fun k=>rdK t rz fun v=>updK h m k v fun h=>K .u h⟩:=by
 intro o ho A h w N t a K q hm ht hk
 simp only[rdK_eq]at hk
 obtain⟨h',w',h1,h2,h3,_⟩:=updK_some hm hu (rd_rel ht hx) (rd_rel ht hy) (rd_rel ht hz) hk
 exact⟨_,_,h1,.skip (w':=w') (by simp only[execOp,ho,Sem.run_bind,h2,Result.andThen_ok,Sem.run_pure]) ⟨A,h3,.u⟩⟩
theorem mapUpdate_ok {ty e:TypeId} {x y z:Operand} {rx ry rz:Rd} {C:CallF} (hx:rdB x=some rx) (hy:rdB y=some ry) (hz:rdB z=some rz) (hu:keyInt P ty=some e) :
  OpOk P C (.mapUpdate ty x y z) ⟨fun _ t h K=>rdK t rx fun m=>rdK t ry fun k=>rdK t rz fun v=>updK h m k v fun h=>K .u h⟩:=by
 intro o ho A h w N t a K q hm ht hk
 simp only[rdK_eq]at hk
 obtain⟨h',w',h1,h2,h3,_⟩:=updK_some hm hu (rd_rel ht hx) (rd_rel ht hy) (rd_rel ht hz) hk
 exact⟨_,_,h1,.skip (w':=w') (by simp only[execOp,ho,Sem.run_bind,h2,Result.andThen_ok,Sem.run_pure]) ⟨A,h3,.u⟩⟩
theorem lookup_ok {ty e:TypeId} {x y:Operand} {ok:Bool} {rx ry:Rd} {z:V} {C:CallF} (hx:rdB x=some rx) (hy:rdB y=some ry) (hu:keyInt P ty=some e) (hz:zeroB P e=some z) :
  OpQ P C (.lookup ty x y ok) ⟨fun _ t h K=>rdK t rx fun m=>rdK t ry fun k=>lookK h m k z ok fun v=>K v h⟩:=by
 intro o ho A h w N t a K q hm ht hk
 simp only[rdK_eq]at hk
 unfold lookK at hk
 have hrx:=rd_rel ht hx
 have hry:=rd_rel ht hy
 obtain⟨j,n,h1,hk⟩:=asI_some hk
 rw[h1]at hry
 have hry:=hry.of_i
 obtain⟨f,hf,hk⟩:=ob_some hk
 obtain⟨kt,kq,htt,hkt⟩:=keyInt_some hu
 obtain⟨zx,hz1,hz2⟩:=run_zero (w:=w) hz
 have fin:∀(v:V) (x':Value) (b:Bool),Rel A h.next v x'→(execOp a.eval o).run P w=.ok (.value (if ok=true then .tuple #[x',.bool b]else x')) w→br ok (K (.tup [v,.b b]) h) (K v h)=some q→∃v,K v h=some q∧∃x,(execOp a.eval o).run P w=.ok (.value x) w∧Rel A h.next v x:=by
  intro v x' b hv he hk
  cases ok with
  | true =>
   rw[br_t]at hk
   exact⟨_,hk,_,he,(.tup _ _ (.cons _ _ _ _ hv (.cons _ _ _ _ (.b _) .nil)))⟩
  | false =>
   rw[br_f]at hk
   exact⟨_,hk,_,he,hv⟩
 have hc:=fun b=>run_check (P:=P) (w:=w) (b:=b) 9999 (j:=j) (n:=n) hkt
 split at hf
 ·rename_i hv
  rw[hv]at hrx
  have hrx:=hrx.of_nm
  injection hf with hf
  subst hf
  refine fin z zx false (ofVal_rel hz2) ?_ hk
  simp only[execOp,ho,hrx,hry,Instr.lookup,Sem.run_bind,run_und htt,Result.andThen_ok,Sem.run_pure]
  rw[show(Instr.checkKey (#[]:Array MapEntry).isEmpty 10000 kt (.int j n)).run P w=.ok () w from hc _]
  simp only[Result.andThen_ok,Instr.findKey,Sem.run_bind,run_und hkt,Instr.findNow,Sem.run_pure,hz1]
 ·rename_i r hv
  rw[hv]at hrx
  obtain⟨hrx,hr⟩:=hrx.of_m
  obtain⟨es,c,xs,hb,hx,hsz,hes,hf⟩:=mapK_some hm hf
  cases f with
  | none =>
   have hfn:=find_none (q:=kq) (n:=h.next) es xs.toList 0 (by simpa using hsz) (fun j e he=>by simpa using hes j e he) hf
   refine fin z zx false (ofVal_rel hz2) ?_ hk
   simp only[execOp,ho,hrx,hry,Instr.lookup,Sem.run_bind,run_und htt,Result.andThen_ok,run_getMap hx,Sem.run_pure]
   rw[show(Instr.checkKey xs.isEmpty 10000 kt (.int j n)).run P w=.ok () w from hc _]
   simp only[Result.andThen_ok,Instr.findKey,Sem.run_bind,run_und hkt,hfn,Sem.run_pure,hz1]
  | some v =>
   obtain⟨i,y,e',h4,h5,h6,h7,h8,h9,h10⟩:=find_some (q:=kq) (n:=h.next) es xs.toList 0 (by simpa using hsz) (fun j e he=>by simpa using hes j e he) hf
   refine fin v y.val true h8 ?_ hk
   simp only[execOp,ho,hrx,hry,Instr.lookup,Sem.run_bind,run_und htt,Result.andThen_ok,run_getMap hx,Sem.run_pure]
   rw[show(Instr.checkKey xs.isEmpty 10000 kt (.int j n)).run P w=.ok () w from hc _]
   simp only[Result.andThen_ok,Instr.findKey,Sem.run_bind,run_und hkt,h9,Sem.run_pure]
 ·cases hf
theorem range_ok {ty e:TypeId} {x:Operand} {rx:Rd} {C:CallF} (hx:rdB x=some rx) (hu:keyInt P ty=some e):OpOk P C (.range ty x) ⟨fun _ t h K=>rdK t rx fun x=>match x with
  | .m r=>mapK h r fun _ c=>newO h (.iter r c [] c) fun b h=>K (.p b 0) h
  | _=>none⟩:=by
 intro o ho A h w N t a K q hm ht hk
 have hrx:=rd_rel ht hx
 simp only[rdK_eq]at hk
 split at hk
 ·rename_i r hv
  rw[hv]at hrx
  obtain⟨hrx,hr⟩:=hrx.of_m
  obtain⟨es,c,xs,hb,hx,hsz,hes,hk⟩:=mapK_some hm hk
  have hk:=newO_some hk
  obtain⟨kt,kq,htt,hkt⟩:=keyInt_some hu
  have hor:ORel A h.next w.heap.size (0,0) (.iter r c [] c) (.mapIter (some (A.ι r)) c #[] c):=⟨rfl,hr,rfl⟩
  refine⟨_,_,hk,.value (x:=.pointer (some ⟨w.heap.size,0,none⟩)) (w':=w.alloc (.mapIter (some (A.ι r)) c #[] c)) ?_ ⟨_,Ev.new (k:=(0,0)) hm hor,ptr_new A h.next w.heap.size 0⟩⟩
  simp only[execOp,ho,hrx,Instr.range,Sem.run_bind,run_und htt,Result.andThen_ok,run_getMap hx,Sem.run_pure]
  rfl
 ·cases hk
theorem run_getIter {r s l:Nat} {m:Option Nat} {xs:Array Nat} (hr:w.heap[r]?=some (.mapIter m s xs l)):(getObj r).run P w=.ok (.mapIter m s xs l) w:=by
 simp only[getObj,Sem.run,hr]
theorem find_pt {n:Nat} {s:Nat}:∀(es:List En) (xs:List MapEntry),xs.length=es.length→(∀(j:Nat) (e:En),es[j]?=some e→∃y,xs[j]?=some y∧EnRel A n e y)→∀e,es.find? (fun e=>Nat.beq e.born s)=some e →
  ∃y,xs.find? (fun e=>e.born == s)=some y∧EnRel A n e y
 | [],xs,_,_,e,h=>by simp at h
 | e0 :: es,[],hl,_,_,_=>by simp at hl
 | e0 :: es,x :: xs,hl,hr,e,h=>by
  obtain⟨y,hy,h1,h2,h3⟩:=hr 0 e0 rfl
  simp only[List.getElem?_cons_zero,Option.some.injEq]at hy
  subst hy
  rw[List.find?_cons]at h ⊢
  by_cases hb:e0.born=s
  ·rw[beqT hb]at h
   simp only[Option.some.injEq]at h
   subst h
   rw[h3,hb]
   simp only[beq_self_eq_true]
   exact⟨x,rfl,h1,h2,h3⟩
  ·rw[beqF hb]at h
   simp only at h
   have:(x.born == s)=false:=by rw[h3];simpa using hb
   rw[this]
   exact find_pt es xs (by simpa using hl) (fun j e' he'=>by simpa using hr (j+1) e' (by simpa using he')) e h
theorem entry_ok {x:Operand} {rx:Rd} {C:CallF} (hx:rdB x=some rx):OpQ P C (.entry x) ⟨fun _ t h K=>rdK t rx fun x=>asP x fun pt o=>bb (Nat.beq o 0) (entryK h pt fun v=>K v h)⟩:=by
 intro o ho A h w N t a K q hm ht hk
 have hrx:=rd_rel ht hx
 simp only[rdK_eq]at hk
 obtain⟨b,o',hv,hk⟩:=asP_some hk
 obtain⟨ho',hk⟩:=bb_some hk
 have ho':=Nat.eq_of_beq_eq_true ho'
 subst ho'
 rw[hv]at hrx
 obtain⟨hrx,hb⟩:=hrx.of_p
 unfold entryK at hk
 obtain⟨y,hy,hk⟩:=ob_some hk
 split at hk
 ·rename_i m since seen stepped
  obtain⟨ob1,hob,hz0,hmn,rfl⟩:=hm.obj b _ hy
  rw[hz0]at hrx
  obtain⟨es,c,xs,hb2,hx2,hsz,hes,hk⟩:=mapK_some hm hk
  obtain⟨hc,hk⟩:=bb_some hk
  have hc:=Nat.eq_of_beq_eq_true hc
  obtain⟨s,hs,hk⟩:=ob_some hk
  obtain⟨e,he,hk⟩:=ob_some hk
  obtain⟨z,hz,h1,h2,h3⟩:=find_pt (n:=h.next) es xs.toList (by simpa using hsz) (fun j e he=>by simpa using hes j e he) e he
  refine⟨_,hk,.tuple #[.int e.k e.n,z.val],?_,(.tup _ _ (.cons _ _ _ _ (.i _ _) (.cons _ _ _ _ h2 .nil)))⟩
  have hbk:seen.toArray.back? = some s:=by simpa using hs
  have hfd:xs.find? (fun e=>e.born == s)=some z:=by rw[←Array.find?_toList];exact hz
  simp only[execOp,ho,hrx,Instr.entry,Sem.run_bind,run_getIter hob,Result.andThen_ok,hbk,run_getMap hx2,hc,bne_self_eq_false,Bool.false_eq_true,if_false,hfd,h1,Sem.run_pure]
 ·cases hk
end
end Go.Proofs.YtkcdehffcddciaaGreatDoor.Vm
