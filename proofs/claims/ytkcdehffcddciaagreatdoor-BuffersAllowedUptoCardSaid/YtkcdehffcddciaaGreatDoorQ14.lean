/- Append; maps of whole numbers. -/
import Derived.Test.YtkcdehffcddciaaGreatDoorQ13
namespace Go.Proofs.YtkcdehffcddciaaGreatDoor.Vm
open Go Go.RowKit
noncomputable section
def Grow (h:H) (v:V) (sz:Nat) (e:TypeId) (l:List V) (n:Nat):Prop:=(v=.ns∧n=0∧l = [])∨∃b o,v=.sl b o n n false sz∧l.length=n*sz∧h.row b=some (e,o+n*sz,true)∧∀j,h.cell b (o+j)=l[j]?
def _root_.Go.Proofs.YtkcdehffcddciaaGreatDoor.Vm.V.blk:V→Option Nat
 | .sl b _ _ _ _ _=>some b
 | _=>none
theorem rowC_len {h:H} {b:Nat}:∀{n o:Nat} {l:List V},rowC h b n o=some l→l.length=n
 | 0,o,l,hl=>by
  injection hl with hl
  subst hl
  rfl
 | n+1,o,l,hl=>by
  obtain⟨w,_,hl⟩:=ob_some hl
  obtain⟨q,hq,hl⟩:=ob_some hl
  injection hl with hl
  subst hl
  rw[List.length_cons,rowC_len hq]
theorem rowC_of {h:H} {b o:Nat} {l:List V} (hc:∀j,j<l.length→h.cell b (o+j)=l[j]?):rowC h b l.length o=some l:=by
 induction l generalizing o with
 | nil=>rfl
 | cons v l ih =>
  show ob (h.cell b o) _=_
  have h0:=hc 0 (Nat.zero_lt_succ _)
  rw[Nat.add_zero]at h0
  rw[h0]
  show ob (rowC h b l.length (o+1)) _=_
  rw[ih fun j hj=>by
   have:=hc (j+1) (by rw[List.length_cons];omega)
   rw[show o+(j+1)=o+1+j by omega]at this
   exact this]
  rfl
theorem grow_ap {h:H} {v:V} {sz by_ n m yb yo yc:Nat} {yk:Bool} {e:TypeId} {l news:List V} {x y:Rd} {t:Tr V} (hg:Grow h v sz e l n) (hx:x.val t=v) (hy:y.val t=.sl yb yo m yc yk sz) (hm:0<m) (hsz:0<sz) (hl:rowC h yb (m*sz) yo=some news) (h1:allOne news=true) (hb:(2*n+m)*by_≤4294967296) :
  ∃h',Td (.ap e sz by_ x y) t h (.sl h.next 0 (n+m) (n+m) false sz) h'∧h'.next=h.next+1∧Grow h' (.sl h.next 0 (n+m) (n+m) false sz) sz e (l++news) (n+m)∧(∀k,k≠h.next→V.blk v≠some k→h'.t.get k=h.t.get k)∧(Wf h→Wf h'):=by
 have hnl:=rowC_len hl
 have hms:0<m*sz:=Nat.mul_pos hm hsz
 have hnews:∀{β:Type} (K:Nat→List V→Option β),newsK sz h (.sl yb yo m yc yk sz) K=K m news:=fun K=>by
  have hld:=(tdo_lds (C:=noC) (a:=.c (.p yb yo)) (t:=.e) rfl hms hl)
  simp only[tdo,Rd.val,asP]at hld
  show bb (Nat.beq sz sz) (loadRow h yb yo (Nat.mul m sz) fun l=>K m l)=_
  rw[show Nat.beq sz sz=true from Nat.beq_refl _,bb_t]
  have:ob (loadRow h yb yo (m*sz) fun l=>some (V.agg l,h)) (fun p=>match p.1 with | .agg l=>K m l | _=>none)=K m news:=by
   rw[show loadRow h yb yo (m*sz) (fun l=>some (V.agg l,h))=some (.agg news,h)from hld]
   rfl
  rw[ob_loadRow]at this
  exact this
 rcases hg with⟨rfl,rfl,rfl⟩ | ⟨b,o,rfl,hll,hr,hc⟩
 ·refine⟨h.new e news true,⟨?_⟩,rfl,.inr ⟨h.next,0,rfl,by rw[List.nil_append,hnl,Nat.zero_add],by rw[new_row,if_pos rfl,hnl];congr 2;simp,fun j=>by rw[new_cell,if_pos rfl,List.nil_append,Nat.zero_add]⟩,fun k hk _=>by rw[new_get,if_neg hk],fun hw b O hb=>by
   rw[new_get]at hb
   show b<h.next+1
   split at hb
   ·omega
   ·have:=hw b O hb;omega⟩
  simp only[tdo,hx,hy]
  unfold appendK
  rw[hnews]
  obtain⟨m',rfl⟩:∃m',m=m'+1:=⟨m-1,by omega⟩
  show bb (Nat.ble (Nat.mul (m'+1) by_) 4294967296) (growK sz e h (m'+1) news pr)=_
  rw[ble_t (show Nat.mul (m'+1) by_≤4294967296 by have:(2*0+(m'+1))*by_≤4294967296:=hb;rw[Nat.mul_zero,Nat.zero_add]at this;exact this),bb_t]
  unfold growK
  rw[newRow_eq,h1,bb_t,Nat.zero_add]
  rfl
 ·obtain⟨c,hbg⟩:=row_some hr
  have hne:∀{k},V.blk (.sl b o n n false sz)≠some k→k≠b:=fun h e=>h (by rw[e];rfl)
  have hnm:(n+m)*sz=n*sz+m*sz:=Nat.add_mul ..
  have hcc:∀j,j<n*sz→c.get (o+j)=l[j]?:=fun j hj=>by
   have h2:=hc j
   unfold H.cell at h2
   rw[hbg]at h2
   rw[←h2]
   show _=if o+j<o+n*sz then c.get (o+j)else none
   rw[if_pos (by omega)]
  obtain⟨c2,hc2,hrun⟩:∃c2:Tr V,(∀j,j<(n+m)*sz→c2.get j=(l++news)[j]?)∧appendK sz by_ e h (.sl b o n n false sz) (.sl yb yo m yc yk sz) pr=some (.sl h.next 0 (n+m) (n+m) false sz,⟨h.next+1,(h.t.set b none).set h.next (some (.cells e ((n+m)*sz) true c2))⟩):=by
   have key:∀r,(br (Nat.beq o 0)
      (Tr.putL news c (o+n*sz) fun c=>Tr.put none h.t b fun t=>fN (Nat.mul (n+m) sz) fun hi=>newO ⟨h.next,t⟩ (.cells e hi true c) fun b h=>pr (.sl b 0 (n+m) (n+m) false sz) h)
      (loadRow h b o (Nat.mul n sz) fun olds=>Tr.putL (olds++news) .e 0 fun c=>Tr.put none h.t b fun t=>fN (Nat.mul (n+m) sz) fun hi=>newO ⟨h.next,t⟩ (.cells e hi true c) fun b h=>pr (.sl b 0 (n+m) (n+m) false sz) h))=r→appendK sz by_ e h (.sl b o n n false sz) (.sl yb yo m yc yk sz) pr=r:=fun r hr2=>by
    unfold appendK
    rw[hnews]
    show bb (Nat.beq sz sz) (bb (Nat.ble (Nat.mul (Nat.add (Nat.add n m) n) by_) 4294967296) (fN (Nat.add n m) fun m'=>br (Nat.ble m' n) _ (br false _ (rowK h b _))))=_
    rw[show Nat.beq sz sz=true from Nat.beq_refl _,bb_t,ble_t (show Nat.mul (Nat.add (Nat.add n m) n) by_≤4294967296 by
     have e1:Nat.add (Nat.add n m) n=2*n+m:=by show n+m+n=_;omega
     rw[e1]
     exact hb),bb_t,fN_eq,show Nat.ble (Nat.add n m) n=false by
      cases hq:Nat.ble (Nat.add n m) n with
      | false=>rfl
      | true=>exact absurd (Nat.le_of_ble_eq_true hq) (by show ¬n+m≤n;omega),br_f,br_f]
    unfold rowK
    rw[hbg,ob_s]
    show bb true (bb (Nat.beq e e) (bb (Nat.beq (o+n*sz) (o+n*sz)) _))=_
    rw[bb_t,show Nat.beq e e=true from Nat.beq_refl _,bb_t,show Nat.beq (o+n*sz) (o+n*sz)=true from Nat.beq_refl _,bb_t,h1,bb_t]
    exact hr2
   by_cases ho:o=0
   ·subst ho
    refine⟨Tr.putsL news c (n*sz),fun j hj=>?_,key _ ?_⟩
    ·rw[Tr.get_putsL]
     by_cases h3:j<n*sz
     ·rw[if_neg (by omega),List.getElem?_append_left (by omega),←hcc j h3,Nat.zero_add]
     ·rw[if_pos ⟨by omega,by omega⟩,List.getElem?_append_right (by omega),hll]
    ·rw[show Nat.beq 0 0=true from rfl,br_t,Tr.putL_eq,Tr.put_set,fN_eq,newO_eq,Nat.zero_add]
     rfl
   ·refine⟨Tr.putsL (l++news) .e 0,fun j hj=>?_,key _ ?_⟩
    ·rw[Tr.get_putsL,if_pos ⟨Nat.zero_le _,by rw[List.length_append];omega⟩,Nat.sub_zero]
    ·rw[show Nat.beq o 0=false from by cases hq:Nat.beq o 0 with | false=>rfl | true=>exact absurd (Nat.eq_of_beq_eq_true hq) ho,br_f]
     unfold loadRow rowR
     rw[hbg,ob_s]
     show bb (Nat.ble (o+n*sz) (o+n*sz)) (ob (loadN c (n*sz) o) _)=_
     have hlo:=(rowC_load (e:=e) (hi:=o+n*sz) (c:=c) (h:=h) (b:=b) (fun p=>by unfold H.cell;rw[hbg]) _ _ _ (rowC_of (l:=l) fun j _=>hc j)).1
     rw[hll]at hlo
     rw[ble_t (Nat.le_refl _),bb_t,hlo,ob_s,Tr.putL_eq,Tr.put_set,fN_eq,newO_eq]
     rfl
  let h':H:=⟨h.next+1,(h.t.set b none).set h.next (some (.cells e ((n+m)*sz) true c2))⟩
  have hget:∀k,h'.t.get k=if k=h.next then some (.cells e ((n+m)*sz) true c2)else if k=b then none else h.t.get k:=fun k=>by
   show((h.t.set b none).set h.next _).get k=_
   rw[Tr.get_set,Tr.get_set]
  refine⟨h',⟨?_⟩,rfl,.inr ⟨h.next,0,rfl,by rw[List.length_append,hll,hnl,Nat.add_mul],?_,fun j=>?_⟩,fun k hk hv=>?_,fun hw k O hk=>?_⟩
  ·simp only[tdo,hx,hy]
   exact hrun
  ·unfold H.row
   rw[hget,if_pos rfl]
   simp
  ·unfold H.cell
   rw[hget,if_pos rfl,Nat.zero_add]
   show(if j<(n+m)*sz then c2.get j else none)=_
   by_cases h4:j<(n+m)*sz
   ·rw[if_pos h4,hc2 j h4]
   ·rw[if_neg h4,List.getElem?_eq_none (by rw[List.length_append];omega)]
  ·rw[hget,if_neg hk,if_neg (hne hv)]
  ·rw[hget]at hk
   show k<h.next+1
   split at hk
   ·omega
   ·split at hk
    ·cases hk
    ·have:=hw k O hk;omega
end
noncomputable section
def ens (k:IntKind):Nat→List (Int × V)→List En
 | _,[]=>[]
 | j,p :: l=>⟨k,p.1,p.2,j⟩ :: ens k (j+1) l
def mGet (n:Int):List (Int × V)→Option V
 | []=>none
 | p :: l=>if n=p.1 then some p.2 else mGet n l
def mIns (n:Int) (v:V):List (Int × V)→List (Int × V)
 | []=>[(n,v)]
 | p :: l=>if n=p.1 then(p.1,v) :: l else p :: mIns n v l
theorem mGet_ins (n n':Int) (v:V):∀l:List (Int × V),mGet n' (mIns n v l)=if n'=n then some v else mGet n' l
 | []=>rfl
 | p :: l=>by
  unfold mIns
  by_cases h:n=p.1
  ·rw[if_pos h]
   unfold mGet
   by_cases h2:n'=n
   ·rw[if_pos (h2.trans h),if_pos h2]
   ·rw[if_neg (fun h3=>h2 (h3.trans h.symm)),if_neg h2,if_neg (fun h3=>h2 (h3.trans h.symm))]
  ·rw[if_neg h]
   unfold mGet
   by_cases h2:n'=p.1
   ·rw[if_pos h2,if_pos h2,if_neg (fun h3=>h (h3.symm.trans h2))]
   ·rw[if_neg h2,if_neg h2,mGet_ins n n' v l]
theorem findE_ens (k:IntKind) (n:Int):∀(j:Nat) (l:List (Int × V)),findE k n (ens k j l)=some (mGet n l)
 | _,[]=>rfl
 | j,p :: l=>by
  show bb (decide (k=k)) (bif n == p.1 then some (some p.2)else findE k n (ens k (j+1) l))=_
  rw[show decide (k=k)=true from decide_eq_true rfl,bb_t,findE_ens k n (j+1) l]
  show _=some (if n=p.1 then some p.2 else mGet n l)
  by_cases h:n=p.1
  ·rw[if_pos h,beq_iff_eq.2 h]
   rfl
  ·rw[if_neg h,show(n == p.1)=false from beq_eq_false_iff_ne.2 h]
   rfl
theorem putE_ens (k:IntKind) (n:Int) (v:V):∀(j:Nat) (l:List (Int × V)) (w:V),mGet n l=some w→putE n v (ens k j l)=ens k j (mIns n v l)∧(mIns n v l).length=l.length
 | _,[],w,h=>by cases h
 | j,p :: l,w,h=>by
  unfold mGet at h
  show(bif n == p.1 then { (⟨k,p.1,p.2,j⟩:En)with v:=v } :: ens k (j+1) l else⟨k,p.1,p.2,j⟩ :: putE n v (ens k (j+1) l))=_∧_
  unfold mIns
  by_cases e:n=p.1
  ·rw[if_pos e,beq_iff_eq.2 e]
   exact⟨rfl,rfl⟩
  ·rw[if_neg e]at h
   rw[if_neg e,show(n == p.1)=false from beq_eq_false_iff_ne.2 e]
   obtain⟨h1,h2⟩:=putE_ens k n v (j+1) l w h
   exact⟨by show⟨k,p.1,p.2,j⟩ :: putE n v (ens k (j+1) l)=_;rw[h1];rfl,by show(mIns n v l).length+1=_;rw[h2];rfl⟩
theorem app_ens (k:IntKind) (n:Int) (v:V):∀(j:Nat) (l:List (Int × V)),mGet n l=none→ens k j l++[⟨k,n,v,j+l.length⟩]=ens k j (mIns n v l)∧(mIns n v l).length=l.length+1
 | _,[],h=>⟨rfl,rfl⟩
 | j,p :: l,h=>by
  unfold mGet at h
  by_cases e:n=p.1
  ·rw[if_pos e]at h
   cases h
  ·rw[if_neg e]at h
   unfold mIns
   rw[if_neg e]
   obtain⟨h1,h2⟩:=app_ens k n v (j+1) l h
   refine⟨?_,by show(mIns n v l).length+1=_;rw[h2];rfl⟩
   show⟨k,p.1,p.2,j⟩ :: (ens k (j+1) l++[⟨k,n,v,j+(l.length+1)⟩])=⟨k,p.1,p.2,j⟩ :: ens k (j+1) (mIns n v l)
   rw[←h1,show j+(l.length+1)=j+1+l.length by omega]
def MapAt (h:H) (b:Nat) (k:IntKind) (l:List (Int × V)):Prop:=h.t.get b=some (.map (ens k 0 l) l.length)
def _root_.Go.Proofs.YtkcdehffcddciaaGreatDoor.Vm.H.setM (h:H) (b:Nat) (k:IntKind) (l:List (Int × V)):H:=⟨h.next,h.t.set b (some (.map (ens k 0 l) l.length))⟩
section
variable {h:H} {b b':Nat} {k:IntKind} {l:List (Int × V)} {x y z:Rd} {t:Tr V} {n:Int} {v w:V}
theorem setM_at:MapAt (h.setM b k l) b k l:=by
 unfold MapAt H.setM
 show(h.t.set b _).get b=_
 rw[Tr.get_set,if_pos rfl]
theorem do_mm:Td .mm t h (.m h.next) ⟨h.next+1,h.t.set h.next (some (.map [] 0))⟩:=⟨by
 simp only[tdo,newO_eq]⟩
theorem mm_at (k:IntKind):MapAt ⟨h.next+1,h.t.set h.next (some (.map [] 0))⟩ h.next k []:=by
 unfold MapAt
 show(h.t.set h.next _).get h.next=_
 rw[Tr.get_set,if_pos rfl]
 rfl
theorem do_mu (hm:MapAt h b k l) (hx:x.val t=.m b) (hy:y.val t=.i k n) (hz:z.val t=v):Td (.mu x y z) t h .u (h.setM b k (mIns n v l)):=⟨by
 subst hz
 simp only[tdo,hx,hy,updK,asI]
 unfold mapK
 rw[hm,ob_s]
 show ob (findE k n (ens k 0 l)) _=_
 rw[findE_ens,ob_s]
 cases hg:mGet n l with
 | none =>
  obtain⟨h1,h2⟩:=app_ens k n (z.val t) 0 l hg
  rw[Nat.zero_add]at h1
  show fN (Nat.succ l.length) (fun c1=>Tr.put (some (.map (ens k 0 l++[⟨k,n,z.val t,l.length⟩]) c1)) h.t b fun t=>some (V.u,(⟨h.next,t⟩:H)))=_
  rw[fN_eq,Tr.put_set,h1]
  unfold H.setM
  rw[h2]
 | some w =>
  obtain⟨h1,h2⟩:=putE_ens k n (z.val t) 0 l w hg
  show Tr.put (some (.map (putE n (z.val t) (ens k 0 l)) l.length)) h.t b (fun t=>some (V.u,(⟨h.next,t⟩:H)))=_
  rw[Tr.put_set,h1]
  unfold H.setM
  rw[h2]⟩
theorem do_lkt (hm:MapAt h b k l) (hx:x.val t=.m b) (hy:y.val t=.i k n) (hg:mGet n l=some w):Td (.lk x y v true) t h (.tup [w,.b true]) h:=⟨by
 simp only[tdo,hx,hy,lookK,asI]
 unfold mapK
 rw[hm,ob_s]
 show ob (findE k n (ens k 0 l)) _=_
 rw[findE_ens,hg]
 rfl⟩
theorem do_lkf (hm:MapAt h b k l) (hx:x.val t=.m b) (hy:y.val t=.i k n) (hg:mGet n l=none):Td (.lk x y v true) t h (.tup [v,.b false]) h:=⟨by
 simp only[tdo,hx,hy,lookK,asI]
 unfold mapK
 rw[hm,ob_s]
 show ob (findE k n (ens k 0 l)) _=_
 rw[findE_ens,hg]
 rfl⟩
theorem do_lk (hm:MapAt h b k l) (hx:x.val t=.m b) (hy:y.val t=.i k n):Td (.lk x y v false) t h ((mGet n l).getD v) h:=⟨by
 simp only[tdo,hx,hy,lookK,asI]
 unfold mapK
 rw[hm,ob_s]
 show ob (findE k n (ens k 0 l)) _=_
 rw[findE_ens]
 cases mGet n l <;> rfl⟩
end
end
section
variable {A A':Sub} {n n':Nat}
mutual
theorem Rel.low:∀{v:V} {x:Value},Rel A n' v x→v.under n=true→Rel A n v x
 | _,_,.u,_=>.u
 | _,_,.b x,_=>.b x
 | _,_,.i k m,_=>.i k m
 | _,_,.s x,_=>.s x
 | _,_,.p b o _,hu=>.p b o (blt_iff.1 hu)
 | _,_,.np,_=>.np
 | _,_,.slk b o len cap sz off _ h1,hu=>.slk b o len cap sz off (blt_iff.1 hu) h1
 | _,_,.slu b o len cap sz c off _ h1 h2 h3 h4,hu=>.slu b o len cap sz c off (blt_iff.1 hu) h1 h2 h3 h4
 | _,_,.ns,_=>.ns
 | _,_,.m r _,hu=>.m r (blt_iff.1 hu)
 | _,_,.nm,_=>.nm
 | _,_,.fn f l r xs ys h1 h2,hu=>by
  have hu:(underL n l&&underL n r)=true:=hu
  rw[Bool.and_eq_true]at hu
  exact .fn f l r xs ys (RelL.low h1 hu.1) (RelL.low h2 hu.2)
 | _,_,.nf,_=>.nf
 | _,_,.iface t v x h,hu=>.iface t v x (Rel.low h hu)
 | _,_,.ni,_=>.ni
 | _,_,.agg l xs h,hu=>.agg l xs (RelL.low h hu)
 | _,_,.tup l xs h,hu=>.tup l xs (RelL.low h hu)
 | _,_,.y b _,hu=>.y b (blt_iff.1 hu)
 | _,_,.se ad c,_=>.se ad c
theorem RelL.low:∀{l:List V} {xs:List Value},RelL A n' l xs→underL n l=true→RelL A n l xs
 | _,_,.nil,_=>.nil
 | _,_,.cons v x l xs h h',hu=>by
  have hu:(v.under n&&underL n l)=true:=hu
  rw[Bool.and_eq_true]at hu
  exact .cons v x l xs (Rel.low h hu.1) (RelL.low h' hu.2)
end
theorem ORel.low {A0:Sub} {i i':Nat} {kk kk':Nat × Nat} {O:O} {x x':Obj} (h:ORel A0 n i kk O x) (h':ORel A n' i' kk' O x'):ORel A n i' kk' O x':=by
 cases O with
 | cells e hi opn c =>
  obtain⟨cs,h1,h2,hz,h3⟩:=h'
  obtain⟨cs0,g1,g2,gz,g3⟩:=h
  refine⟨cs,h1,h2,hz,fun o ho=>?_⟩
  obtain⟨v,y,h4,h5,h6,h7⟩:=h3 o ho
  obtain⟨v0,y0,g4,g5,g6,g7⟩:=g3 o ho
  rw[h4]at g4
  injection g4 with g4
  subst g4
  exact⟨v,y,h4,h5,h6.low g6.under,h7⟩
 | map es clock =>
  obtain⟨xs,h1,h2,h3⟩:=h'
  obtain⟨xs0,g1,g2,g3⟩:=h
  refine⟨xs,h1,h2,fun j e he=>?_⟩
  obtain⟨y,h4,h5,h6,h7⟩:=h3 j e he
  obtain⟨y0,g4,g5,g6,g7⟩:=g3 j e he
  exact⟨y,h4,h5,h6.low g6.under,h7⟩
 | iter m since seen stepped=>exact⟨h'.1,h.2.1,h'.2.2⟩
 | loop st t N ps as bd =>
  obtain⟨r,h1,h2,h3,h4⟩:=h'
  obtain⟨r0,g1,g2,g3,g4⟩:=h
  exact⟨r,h1,h2,⟨h3.1,fun k=>(h3.2 k).low (g3.2 k).under⟩,h4⟩
 | ro pin e hi c =>
  obtain⟨h0,cs,e',fr,h1,h3⟩:=h'
  obtain⟨g0,cs0,e0,fr0,g1,g3⟩:=h
  refine⟨h0,cs,e',fr,h1,fun o v ho hv=>?_⟩
  obtain⟨y,h5,h6,h7⟩:=h3 o v ho hv
  obtain⟨y0,g5,g6,g7⟩:=g3 o v ho hv
  exact⟨y,h5,h6.low g6.under,h7⟩
end
theorem Ev.back {A A':Sub} {h h':H} {w w':World} (hev:Ev A h w A' h' w') (ho:Old h.next h h') (hm:Mt A h w):Ev A h w A' h w':=by
 have hget:∀b O,h.t.get b=some O→h'.t.get b=some O:=fun b O hb=>(ho.get b (hm.lt b O hb)).trans hb
 refine⟨⟨hm.lt,fun b O hb=>?_,fun b b' O O' h1 h2 h3=>hev.mt.inj b b' O O' (hget _ _ h1) (hget _ _ h2) h3⟩,Nat.le_refl _,hev.old,fun b O hb=>.inr ⟨b,O,hb,(hev.old b (hm.lt b O hb)).1.symm⟩,hev.fr,hev.size,hev.os,hev.tape,hev.output,fun b O g hb hp=>?_⟩
 ·obtain⟨x,hx,hr⟩:=hev.mt.obj b O (hget b O hb)
  obtain⟨x0,_,hr0⟩:=hm.obj b O hb
  exact⟨x,hx,hr0.low hr⟩
 ·obtain⟨h1,_,h3⟩:=hev.pin b O g hb hp
  exact⟨h1,⟨O,hb,hp⟩,h3⟩
theorem Fn.exact {P:Program} {f:FuncId} {args:List V} {h:H} {c:V} (hf:Fn P f args h fun v h'=>v=c∧Old h.next h h') (hc:c.under h.next=true):Exact P f args h (c,h) :=
 ⟨hf.1,fun A w xs hm hx=>(hf.2 A w xs hm hx).mono fun _ _ ⟨x,he,v,h',⟨A',hev,hr⟩,hv,ho⟩=>⟨x,he,A',hev.back ho hm,by
  subst hv
  exact hr.low hc⟩⟩
noncomputable section
theorem ens_mem (k:IntKind):∀(j:Nat) (l:List (Int × V)) (e:En),e∈ens k j l→∃i,∃hi:i<l.length,e=⟨k,(l[i]).1,(l[i]).2,j+i⟩
 | _,[],e,h=>by cases h
 | j,p :: l,e,h=>by
  rcases List.mem_cons.1 h with rfl | h
  ·exact⟨0,Nat.zero_lt_succ _,rfl⟩
  ·obtain⟨i,hi,he⟩:=ens_mem k (j+1) l e h
   exact⟨i+1,Nat.succ_lt_succ hi,by rw[he];show _=(⟨k,(l[i]).1,(l[i]).2,j+(i+1)⟩:En);rw[show j+(i+1)=j+1+i by omega]⟩
theorem ens_at (k:IntKind):∀(j:Nat) (l:List (Int × V)) (i:Nat),(hi:i<l.length)→(⟨k,(l[i]).1,(l[i]).2,j+i⟩:En)∈ens k j l
 | _,[],i,hi=>absurd hi (Nat.not_lt_zero _)
 | j,p :: l,0,_=>List.mem_cons.2 (.inl rfl)
 | j,p :: l,i+1,hi=>List.mem_cons.2 (.inr (by
  have:=ens_at k (j+1) l i (Nat.lt_of_succ_lt_succ hi)
  rw[show j+1+i=j+(i+1) by omega]at this
  exact this))
theorem mapO_all {α γ:Type} {f:α→Option γ} {g:α→γ} (h:∀x,f x=some (g x)):∀l:List α,mapO f l=some (l.map g)
 | []=>rfl
 | x :: l=>by
  rw[mapO_c,h,ob_s,mapO_all h l]
  rfl
def IterAt (h:H) (b m n:Nat) (seen:List Nat):Prop:=h.t.get b=some (.iter m n seen n)
def _root_.Go.Proofs.YtkcdehffcddciaaGreatDoor.Vm.H.setI (h:H) (b m n:Nat) (seen:List Nat):H:=⟨h.next,h.t.set b (some (.iter m n seen n))⟩
theorem setI_at {h:H} {b m n:Nat} {seen:List Nat}:IterAt (h.setI b m n seen) b m n seen:=by
 unfold IterAt H.setI
 show(h.t.set b _).get b=_
 rw[Tr.get_set,if_pos rfl]
theorem nx_cases {h:H} {b m:Nat} {k:IntKind} {l:List (Int × V)} {seen:List Nat} (hm:MapAt h m k l) (hi:IterAt h b m l.length seen):∃cs,nextC h b=some cs∧∀c∈cs,(c=(.tup [.b false],h)∧∀i,i<l.length→i∈seen) ∨
  ∃i,∃hi:i<l.length,i ∉ seen∧c=(.tup [.b true,.i k (l[i]).1,(l[i]).2],h.setI b m l.length (seen++[i])):=by
 have hall:((ens k 0 l).all fun e=>Nat.blt e.born l.length)=true:=by
  rw[List.all_eq_true]
  intro e he
  obtain⟨i,hi,rfl⟩:=ens_mem k 0 l e he
  exact blt_t (by show 0+i<l.length;omega)
 have h0:nextC h b=(match (ens k 0 l).filter (fun e=>!seen.contains e.born)with
   | []=>some [(.tup [.b false],h)]
   | e :: r=>mapO (fun e=>Tr.put (some (.iter m l.length (seen++[e.born]) l.length)) h.t b fun t=>some (V.tup [.b true,.i e.k e.n,e.v],(⟨h.next,t⟩:H))) (e :: r)):=by
  unfold nextC
  rw[hi,ob_s]
  show mapK h m _=_
  unfold mapK
  rw[hm,ob_s]
  show bb (Nat.beq l.length l.length) (bb (Nat.beq l.length l.length) (bb ((ens k 0 l).all fun e=>Nat.blt e.born l.length) _))=_
  rw[show Nat.beq l.length l.length=true from Nat.beq_refl _,bb_t,bb_t,hall,bb_t]
  rfl
 rw[h0]
 cases hf:(ens k 0 l).filter (fun e=>!seen.contains e.born)with
 | nil =>
  refine⟨_,rfl,fun c hc=>?_⟩
  obtain rfl:=List.mem_singleton.1 hc
  refine .inl ⟨rfl,fun i hi=>?_⟩
  have hmem:=ens_at k 0 l i hi
  have:=List.filter_eq_nil_iff.1 hf _ hmem
  simp only[Nat.zero_add,Bool.not_eq_true',Bool.not_eq_false]at this
  exact List.contains_iff_mem.1 this
 | cons e r =>
  refine⟨_,mapO_all (g:=fun e=>(V.tup [.b true,.i e.k e.n,e.v],h.setI b m l.length (seen++[e.born]))) (fun e=>by rw[Tr.put_set];rfl) (e :: r),fun c hc=>?_⟩
  obtain⟨e',he,rfl⟩:=List.mem_map.1 hc
  rw[←hf]at he
  obtain⟨he1,he2⟩:=List.mem_filter.1 he
  obtain⟨i,hi,rfl⟩:=ens_mem k 0 l e' he1
  refine .inr ⟨i,hi,?_,by simp only[Nat.zero_add]⟩
  simp only[Nat.zero_add,Bool.not_eq_true']at he2
  intro hin
  rw[List.contains_iff_mem.2 hin]at he2
  cases he2
theorem do_rg {h:H} {m:Nat} {k:IntKind} {l:List (Int × V)} {x:Rd} {t:Tr V} (hx:x.val t=.m m) (hm:MapAt h m k l):Td (.rg x) t h (.p h.next 0) ⟨h.next+1,h.t.set h.next (some (.iter m l.length [] l.length))⟩:=⟨by
 simp only[tdo,hx]
 unfold mapK
 rw[hm,ob_s]
 show newO h _ _=_
 rw[newO_eq]⟩
end
noncomputable section
structure SWc (P:Program) (r:Option Nat) (N:Nat) (c:Code) (t:Tr V) (h:H) (Q:Ex→Tr V→H→Prop):Prop where
 run:∀k,Ends N t h Q (fun K a w=>c.wpIn (Wide r) k P K a w)
section
variable {P:Program} {r:Option Nat} {N:Nat} {t:Tr V} {h:H} {Q:Ex→Tr V→H→Prop} {c ca cb:Code}
theorem SW.cd {s:Sc} (hs:SW P r N s t h Q) (hc:ScOf P N c s):SWc P r N c t h Q:=⟨hs.run c hc⟩
theorem SWc.mono {Q':Ex→Tr V→H→Prop} (hs:SWc P r N c t h Q) (hq:∀x t h,Q x t h→Q' x t h):SWc P r N c t h Q':=⟨fun k lo A w a K hm ht hd hK=>hs.run k lo A w a K hm ht hd fun o ho=>hK o (hq _ _ _ ho)⟩
theorem SWc.seq (hs:SWc P r N ca t h (andN (fun t h=>SWc P r N cb t h Q) Q)):SWc P r N (.seq ca cb) t h Q:=⟨fun k lo A w ac K hm ht hd hK=>wpIn_seq (ends_then (hs.run k) (fun _ _ h2=>h2.run k) lo A w ac K hm ht hd hK)⟩
theorem SWc.cond {x0:Operand} {x:Rd} {v:Bool} (hr:rdB x0=some x) (hv:x.val t=.b v) (h1:v=true→SWc P r N ca t h Q) (h2:v=false→SWc P r N cb t h Q):SWc P r N (.cond x0 ca cb) t h Q:=⟨fun k lo A w ac K hm ht hd hK=>by
 have hrel:=rd_rel ht hr
 rw[hv]at hrel
 cases v with
 | true=>exact wpIn_cond hrel.of_b ((h1 rfl).run k lo A w ac K hm ht hd hK)
 | false=>exact wpIn_cond hrel.of_b ((h2 rfl).run k lo A w ac K hm ht hd hK)⟩
theorem SWc.block {id:Nat} (hs:SWc P r N cb t h fun x t h=>Q (catch_ id x) t h):SWc P r N (.block id cb) t h Q:=⟨fun k lo A w ac K hm ht hd hK=>by
 refine wpIn_block (hs.run k lo A w ac _ hm ht hd fun q hq a' w' hr=>?_)
 have h3:=hK ⟨catch_ id q.x,q.t,q.h⟩ hq a' w' hr
 cases hx:q.x with
 | normal=>rw[hx]at h3;exact h3
 | ret=>rw[hx]at h3;exact h3
 | exit i =>
  rw[hx]at h3
  show if i=id then K .normal a' w' else K (.exit i) a' w'
  have h3:K (exitOf (if i=id then .normal else .exit i)) a' w':=h3
  by_cases e:i=id
  ·rw[if_pos e]at h3
   rw[if_pos e]
   exact h3
  ·rw[if_neg e]at h3
   rw[if_neg e]
   exact h3⟩
theorem SWc.scope (hs:SWc P r N cb t h Q):SWc P r N (.scope cb) t h Q:=⟨fun k lo A w ac K hm ht hd hK=>by
 refine wpIn_scope (hs.run k lo A w ac _ hm ht hd fun q hq a' w' hr=>?_)
 have h3:=hK q hq a' w' hr
 cases hx:q.x <;> (rw[hx]at h3;exact h3)⟩
theorem loop_endsC (I:Nat→Tr V→H→Prop) (hI:∀m t h,I m t h→SWc P r N cb t h (andN (fun t' h'=>∃m',m'<m∧I m' t' h') Q)) (k:Nat) :
  ∀(n m:Nat) (t:Tr V) (h:H),m<n→I m t h→Ends N t h Q (fun K a w=>Code.roundsIn (Wide r) k P cb K n a w)
 | 0,m,_,_,hm,_=>absurd hm (Nat.not_lt_zero _)
 | n+1,m,t,h,hm,hi=>ends_then (next:=fun K a w=>Code.roundsIn (Wide r) k P cb K n a w) ((hI m t h hi).run k) fun t' h' ⟨m',hlt,hi'⟩=>loop_endsC I hI k n m' t' h' (by omega) hi'
theorem SWc.loop (I:Nat→Tr V→H→Prop) (m:Nat) (h0:I m t h) (hI:∀m t h,I m t h→SWc P r N cb t h (andN (fun t' h'=>∃m',m'<m∧I m' t' h') Q)):SWc P r N (.loop cb) t h Q:=⟨fun k lo A w a K hm ht hd hK=>wpIn_loop_rounds (m+1) (loop_endsC I hI k (m+1) m t h (Nat.lt_succ_self m) h0 lo A w a K hm ht hd hK)⟩
end
def putAll:List Nat→Tr V→List V→Tr V
 | p :: ps,t,v :: l=>putAll ps (t.set p (some v)) l
 | _,t,_=>t
theorem putAll_rel {N:Nat} {A:Sub} {n:Nat}:∀{ps:List Nat} {l:List V} {t:Tr V} {xs:List Value} {a:Array Value},ps.length=l.length→TRel A n N t a→RelL A n l xs→(∀p∈ps,p<N) →
  xs.length=ps.length∧TRel A n N (putAll ps t l) ((ps.zip xs).foldl (fun t (p,v)=>t.setIfInBounds p v) a)
 | [],[],t,xs,a,_,ht,hr,_=>by
  cases hr
  exact⟨rfl,ht⟩
 | p :: ps,v :: l,t,xs,a,hl,ht,hr,hp=>by
  cases hr with
  | cons _ x _ xs h1 h2 =>
   obtain⟨h4,h5⟩:=putAll_rel (by simpa using hl) (ht.put h1 (hp p (by simp))) h2 (fun p hp'=>hp p (by simp[hp']))
   exact⟨by simp[h4],h5⟩
 | [],_ :: _,_,_,_,h,_,_,_=>by cases h
 | _ :: _,[],_,_,_,h,_,_,_=>by cases h
def endSt:Ex→Ls
 | .normal=>.ready
 | x=>.done x
def isNorm:Ex→Bool
 | .normal=>true
 | _=>false
theorem Yd.ofc {P:Program} {b N:Nat} {args:List V} {h:H} {R:V→H→Prop} {t:Tr V} {ps:List Nat} {as bd:Code} (hb:h.t.get b=some (.loop .ready t N ps as bd)) (hl:ps.length=args.length)
  (hs:∀r,SWc P r N as (putAll ps t args) h fun x t2 h2=>x=.normal∧∃t3 N3 ps3 as3 bd3,h2.t.get b=some (.loop .ready t3 N3 ps3 as3 bd3) ∧
   SWc P r N bd t2 ⟨h2.next,h2.t.set b (some (.loop .busy t3 N3 ps3 as3 bd3))⟩ fun x _ h4=>∃t5 N5 ps5 as5 bd5,h4.t.get b=some (.loop .busy t5 N5 ps5 as5 bd5)∧R (.b (isNorm x)) ⟨h4.next,h4.t.set b (some (.loop (endSt x) t5 N5 ps5 as5 bd5))⟩):Yd P b args h R:=by
 intro A w xs hm hrel
 obtain⟨rr,hrr,⟨hst,_⟩,htr,hps,has,hbd',hlt,hk1,hk2⟩:=loop_of hm hb
 obtain⟨hlen,ht1⟩:=putAll_rel hl htr hrel hlt
 have hfold:(rr.params.zip xs.toArray).foldl (fun t (p,v)=>t.setIfInBounds p v) rr.tmps=(ps.zip xs).foldl (fun t (p,v)=>t.setIfInBounds p v) rr.tmps:=by
  rw[hps]
  simp
 refine⟨rr.fn,_,rr.assign,rr.body,run_yield hrr (by rw[hps];simpa using hlen),fun k n=>roundIn_of_wpIn trivial ?_⟩
 rw[has,hbd']
 refine(hs (some (A.ι b))).run n w.heap.size A w _ _ hm (by rw[hfold];exact ht1) (.nil (Nat.le_refl _)) fun o hQ a' w' hres=>?_
 obtain⟨hx,t3,N3,ps3,as3,bd3,ho2,hsb⟩:=hQ
 obtain⟨A',hev,ht',hmk⟩:=hres
 obtain⟨r2,hr2,⟨hst2,_⟩,_⟩:=loop_of hev.mt ho2
 have e2:=Ev.state (st':=.busy) (r':={ r2 with state:=.busy }) hev.mt ho2 hr2 rfl rfl rfl rfl rfl
 have hob:A'.ι b=A.ι b:=(hev.old b (hm.lt b _ hb)).1
 rw[hob]at hr2 e2
 rw[hx]
 refine⟨_,run_beginRound hr2 hst2,hsb.run n w.heap.size A' _ a' _ e2.mt ht' (hmk.ev e2) fun o4 hQ4 a4 w4 hres4=>?_⟩
 obtain⟨t5,N5,ps5,as5,bd5,ho5,hR⟩:=hQ4
 obtain⟨A4,hev4,_,_⟩:=hres4
 obtain⟨r5,hr5,hst5,_⟩:=loop_of hev4.mt ho5
 have hob4:A4.ι b=A.ι b:=((hev4.old b (Nat.lt_of_lt_of_le (hm.lt b _ hb) (Nat.le_trans hev.next e2.next))).1).trans hob
 have fin:∀(jump:Option Code) (x:Ex),o4.x=x→StRel (endSt x) (if jump.isNone then .ready else .done) jump→isNorm x=jump.isNone →
   ∃v' w',(Instr.endRound (A.ι b) jump).run P w4=.ok v' w'∧∃x,Ending.returned v'=.returned x∧∃v h',Post A h w v h' x w'∧R v h':=fun jump x hx hs' hv=>by
  have e5:=Ev.state (st':=endSt x) (r':={ r5 with state:=if jump.isNone then .ready else .done,pending:=jump }) hev4.mt ho5 hr5 rfl rfl rfl rfl hs'
  rw[hob4]at hr5 e5
  rw[hx]at hR
  exact⟨_,_,run_endRound jump hr5,_,rfl,_,_,⟨A4,(hev.trans e2).trans (hev4.trans e5),by rw[hv];exact .b _⟩,hR⟩
 cases hx4:o4.x with
 | normal=>exact fin none .normal hx4 ⟨rfl,rfl⟩ rfl
 | exit j=>exact fin (some (.exit j)) (.exit j) hx4 ⟨rfl,rfl⟩ rfl
 | ret=>exact fin (some .ret) .ret hx4 ⟨rfl,rfl⟩ rfl
theorem Yd.of {P:Program} {b N:Nat} {args:List V} {h:H} {R:V→H→Prop} {t:Tr V} {ps:List Nat} {as bd:Code} {sa sb:Sc} (hb:h.t.get b=some (.loop .ready t N ps as bd)) (hl:ps.length=args.length) (ha:ScOf P N as sa) (hbd:ScOf P N bd sb)
  (hs:∀r,SW P r N sa (putAll ps t args) h fun x t2 h2=>x=.normal∧∃t3 N3 ps3 as3 bd3,h2.t.get b=some (.loop .ready t3 N3 ps3 as3 bd3) ∧
   SW P r N sb t2 ⟨h2.next,h2.t.set b (some (.loop .busy t3 N3 ps3 as3 bd3))⟩ fun x _ h4=>∃t5 N5 ps5 as5 bd5,h4.t.get b=some (.loop .busy t5 N5 ps5 as5 bd5)∧R (.b (isNorm x)) ⟨h4.next,h4.t.set b (some (.loop (endSt x) t5 N5 ps5 as5 bd5))⟩):Yd P b args h R:=Yd.ofc hb hl fun r=>((hs r).mono fun _ _ _ ⟨h1,t3,N3,ps3,as3,bd3,h2,h3⟩=>⟨h1,t3,N3,ps3,as3,bd3,h2,h3.cd hbd⟩).cd ha
end
noncomputable section
def Over (l:Nat) (t:Tr V) (Q:Ex→Tr V→H→Prop) (h2:H):Prop:=∃st t' N' ps' as' bd',h2.t.get l=some (.loop st t' N' ps' as' bd')∧((st=.ready∧Q .normal t ⟨h2.next,h2.t.set l none⟩)∨∃x,st=.done x∧Q x t ⟨h2.next,h2.t.set l none⟩)
theorem SWc.range {P:Program} {N:Nat} {t:Tr V} {h:H} {Q:Ex→Tr V→H→Prop} {x:Rd} {x0:Operand} {ps:Array Nat} {as bd:Code} {g:FuncId} {cap:List V} (hps:(ps.toList.all fun p=>Nat.blt p N)=true) (hdk:(dokC 0 as&&dokC 0 bd)=true) (hx:rdB x0=some x) (hv:x.val t=.fn (.func g) [] cap)
  (hs:Fn P g (.y h.next :: cap) ⟨h.next+1,h.t.set h.next (some (.loop .ready t N ps.toList as bd))⟩ fun _ h2=>Over h.next t Q h2):SWc P none N (.rangeFunc x0 ps as bd) t h Q:=⟨fun k=>by
 intro lo A w a K hm ht hd hK
 rw[Bool.and_eq_true]at hdk
 obtain⟨hen,hcall⟩:=hs
 have hrx:=rd_rel ht hx
 rw[hv]at hrx
 obtain⟨xs,ys,h3,h4,h5⟩:=hrx.of_fn
 obtain rfl:xs=#[]:=by
  apply Array.eq_empty_of_size_eq_zero
  have:=h4.length
  simpa using this
 refine wpIn_rangeFunc fun fn _=>?_
 obtain⟨W0,hW0⟩:∃W0,w.alloc (.deferred (some []))=W0:=⟨_,rfl⟩
 obtain⟨lp,hlp⟩:∃lp:Loop,lp = { state:=.ready,pending:=none,fn,tmps:=a.tmps,params:=ps,assign:=as,body:=bd,defers:=w.heap.size }:=⟨_,rfl⟩
 have hW0s:W0.heap.size=w.heap.size+1:=by rw[←hW0];simp
 have hD:W0.heap[w.heap.size]?=some (.deferred (some [])):=by rw[←hW0];exact heap_alloc_new w _
 have e0:Ev A h w A h W0:=by
  rw[←hW0]
  refine⟨⟨hm.lt,fun b O hb=>?_,hm.inj⟩,Nat.le_refl _,fun _ _=>⟨rfl,rfl⟩,fun b O hb=>.inr ⟨b,O,hb,rfl⟩,fun j hj _=>Below.heap_alloc w _ j hj,by simp,rfl,rfl,rfl,fun b O g hb hp=>⟨rfl,⟨O,hb,hp⟩,Below.heap_alloc w _ _ (hm.ilt hb)⟩⟩
  obtain⟨x,hx,hr⟩:=hm.obj b O hb
  exact⟨x,(Below.heap_alloc w _ _ (hm.ilt hb)).trans hx,hr⟩
 have hmk:Marks lo A h W0 ({ target:=.collected w.heap.size,args:=#[] } :: a.defers):=by
  have h6:=hd.ev e0
  refine⟨⟨h6.1.1,List.nodup_cons.2 ⟨fun hin=>?_,h6.1.2⟩⟩,fun d hdm=>?_⟩
  ·obtain⟨D,h7,h8,h9,_⟩:=hd.2 _ hin
   injection h7 with h7 _
   injection h7 with h7
   have:=(Array.getElem?_eq_some_iff.1 h9).1
   omega
  ·rcases List.mem_cons.1 hdm with rfl | hdm
   ·exact⟨w.heap.size,rfl,hd.1.1,hD,fun b O hb he=>by have:=hm.ilt hb;omega⟩
   ·exact h6.2 d hdm
 have hlo:ORel A h.next W0.heap.size (0,0) (.loop .ready t N ps.toList as bd) (.loop lp):=by
  subst hlp
  exact⟨_,rfl,⟨rfl,rfl⟩,ht,by simp,rfl,rfl,fun p hp=>by
   have:=List.all_eq_true.1 hps p hp
   exact blt_iff.1 this,hdk.1,hdk.2⟩
 have e1:=Ev.new (k:=(0,0)) e0.mt hlo
 have hy:Rel (A.ext h.next W0.heap.size (0,0)) (h.next+1) (.y h.next) (.func (.yield (w.heap.size+1)) #[] #[]):=by
  have:Rel (A.ext h.next W0.heap.size (0,0)) (h.next+1) (.y h.next) (.func (.yield ((A.ext h.next W0.heap.size (0,0)).ι h.next)) #[] #[]):=.y h.next (Nat.lt_succ_self _)
  simpa [Sub.ext,hW0s]using this
 have hcl:=hcall (A.ext h.next W0.heap.size (0,0)) (W0.alloc (.loop lp)) (.func (.yield (w.heap.size+1)) #[] #[] :: ys.toList) e1.mt (.cons _ _ _ _ hy (h5.mono e1.old e1.next))
 refine⟨w.heap.size+1,[{ target:=.collected w.heap.size,args:=#[] }],W0.alloc (.loop lp),{ target:=.fn (.func g) ys,args:=#[.func (.yield (w.heap.size+1)) #[] #[]] },W0.alloc (.loop lp),g,
  (.func (.yield (w.heap.size+1)) #[] #[] :: ys.toList).toArray,W0.alloc (.loop lp),?_,?_,fun _ _=>trivial,?_,(fun h=>by cases h),Wide.calls (hcl.mono fun e w' hp=>?_)⟩
 ·rw[←hW0,hlp];exact run_enterLoop_outer _ _ _ _ _
 ·simp only[resolve,h3]
  simp[go_sem]
 ·have e2:(#[Value.func (.yield (w.heap.size+1)) #[] #[]]++ys)=(.func (.yield (w.heap.size+1)) #[] #[] :: ys.toList).toArray:=by simp
  simp only[invoke,e2,hen]
 ·obtain⟨y,rfl,v2,h2,⟨A2,hev2,_⟩,st,t',N',ps',as',bd',ho,hend⟩:=hp
  obtain⟨ob,hob,hor⟩:=hev2.mt.obj _ _ ho
  have hl:A2.ι h.next=w.heap.size+1:=by
   rw[(hev2.old h.next (Nat.lt_succ_self _)).1]
   simp[Sub.ext,hW0s]
  rw[hl]at hob
  have fin:∀(ex:Ex) (o':Obj),Q ex t ⟨h2.next,h2.t.set h.next none⟩→K (exitOf ex) { a with defers:={ target:=.collected w.heap.size,args:=#[] } :: a.defers } (w'.putObj (w.heap.size+1) o'):=fun ex o' hq=>by
   have e3:=hev2.drop ho rfl o'
   rw[hl]at e3
   have e4:=e1.trans e3
   exact hK ⟨ex,t,⟨h2.next,h2.t.set h.next none⟩⟩ hq _ _ ⟨A2,e0.trans e4,ht.mono (e0.trans e4).old (e0.trans e4).next,hmk.ev e4⟩
  rcases hend with⟨rfl,hq⟩ | ⟨ex,rfl,hq⟩
  ·obtain⟨rr,rfl,⟨h6,h7⟩,_⟩:=hor
   exact⟨none,_,by rw[run_endLoop hob (by rw[h6];exact fun h=>by cases h),h7],fin .normal _ hq⟩
  ·cases ex with
   | normal =>
    obtain⟨rr,rfl,h6,_⟩:=hor
    exact h6.elim
   | ret =>
    obtain⟨rr,rfl,⟨h6,h7⟩,_⟩:=hor
    exact⟨some .ret,_,by rw[run_endLoop hob (by rw[h6];exact fun h=>by cases h),h7],wpIn_ret (fin .ret _ hq)⟩
   | exit j =>
    obtain⟨rr,rfl,⟨h6,h7⟩,_⟩:=hor
    exact⟨some (.exit j),_,by rw[run_endLoop hob (by rw[h6];exact fun h=>by cases h),h7],wpIn_exit (fin (.exit j) _ hq)⟩⟩
theorem SW.range {P:Program} {N:Nat} {t:Tr V} {h:H} {Q:Ex→Tr V→H→Prop} {x:Rd} {ps:List Nat} {sa sb:Sc} {g:FuncId} {cap:List V} (hv:x.val t=.fn (.func g) [] cap)
  (hs:∀as bd,ScOf P N as sa→ScOf P N bd sb→Fn P g (.y h.next :: cap) ⟨h.next+1,h.t.set h.next (some (.loop .ready t N ps as bd))⟩ fun _ h2=>Over h.next t Q h2):SW P none N (.range x ps sa sb) t h Q:=⟨fun c hc k=>by
 cases hc with
 | range hps hdk hx ha hb=>exact(SWc.range hps hdk hx hv (hs _ _ ha hb)).run k⟩
end
end Go.Proofs.YtkcdehffcddciaaGreatDoor.Vm
