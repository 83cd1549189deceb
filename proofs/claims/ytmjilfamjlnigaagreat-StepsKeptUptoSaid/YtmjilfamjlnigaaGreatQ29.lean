/- MEMORY: a run comes into being; its lists of lists, its threads. -/
import Derived.Test.YtmjilfamjlnigaaGreatQ28
namespace Go.Proofs.YtmjilfamjlnigaaGreat.RunW
open Go Go.RowKit Kit SrcP SrcW MchW OwnR
section
variable {M:Type} {X:Mk M} {K:Kd M} {base gr nc:Nat} {w w' w1:World} {who who':Nat→Option Pt} {V V':RV} {r r':Rn M}
def Kd.at_ (K:Kd M) (n c:Nat):Rn M where
 cells:=List.replicate n 0
 last:=List.range c
 ths:=[]
 events:=(List.range c).map fun (c:Nat)=>⟨-1,2,(c:Int),0,K.mode⟩
 co:=(List.range c).map fun c=>[c]
 rf:=[]
 rmw:=[]
 outs:=[]
 log:=[]
 used:=0
def V0 (gc nc:Nat):RV:=⟨nilV,.slice (some ⟨gc,0,none⟩) nc nc,nilV,nilV,nilV,nilV,nilV,nilV,nilV,[],[],[],[],[]⟩
def who0 (gr gc:Nat):Nat→Option Pt:=fun k=>if k=gr then some .run else if k=gc then some (.row .cells)else none
theorem own_nil (w:World) (base:Nat) (e:TypeId) (size:Nat):w.ownsRow base e size nilV 0 []:=⟨by simp,.inl ⟨rfl,rfl⟩⟩
theorem RunW.new (hgc:base≤gr) {gc:Nat} (hgc2:base≤gc) (hne:gr≠gc) (hn:nc≤maxLen) (hb:Blk w gr 115 (runC K nc (V0 gc nc) (Kd.at_ K nc 0))) (hc:Blk w gc 40 (Array.replicate nc (u64V 0))):RunW X K base gr nc w (who0 gr gc) (V0 gc nc) (Kd.at_ K nc 0):=by
 have hnil:∀q,(∃c,q=Rw.coi c)∨(∃c,q=Rw.outi c)∨(∃c,q=Rw.nums c)∨q=.thr∨q=.last∨q=.ev∨q=.rf∨q=.co∨q=.rmw∨q=.outs∨q=.log→PartOk X K base gr nc w (who0 gr gc) (V0 gc nc) (Kd.at_ K nc 0) (.row q):=fun q hq=>by
  rcases hq with⟨c,rfl⟩ | ⟨c,rfl⟩ | ⟨c,rfl⟩ | rfl | rfl | rfl | rfl | rfl | rfl | rfl | rfl
  all_goals refine⟨own_nil w base _ _,fun k hk=>by cases hk⟩
 refine⟨fun p=>?_,fun k p hp=>?_,rfl,rfl,rfl,rfl,rfl⟩
 ·cases p with
  | run=>exact⟨if_pos rfl,hb⟩
  | th t=>intro x gt gm h;cases h
  | mach t=>intro x gm h;cases h
  | row q =>
   cases q with
   | cells =>
    refine⟨⟨by simp[rowX,rowN,Kd.at_,rowS],.inr ⟨gc,nc,Array.replicate nc (u64V 0),?_,hgc2,hc,?_,hn,by simp[rowS],?_⟩⟩,fun k hk=>?_⟩
    ·simp[RV.val,V0,rowN,Kd.at_]
    ·simp[rowN,Kd.at_]
    ·simp[rowN,rowS,rowX,Kd.at_]
    ·obtain rfl:gc=k:=by simpa [RV.val,V0,Value.ownBlock]using hk
     show(if gc=gr then _ else if gc=gc then _ else _)=_
     rw[if_neg (Ne.symm hne),if_pos rfl]
   | coi c=>exact hnil _ (.inl ⟨c,rfl⟩)
   | outi c=>exact hnil _ (.inr (.inl ⟨c,rfl⟩))
   | nums c=>exact hnil _ (.inr (.inr (.inl ⟨c,rfl⟩)))
   | _=>exact hnil _ (by simp)
 ·unfold who0 at hp
  split at hp
  ·rename_i h;subst h;exact⟨hgc,hb.lt⟩
  ·split at hp
   ·rename_i h;subst h;exact⟨hgc2,hc.lt⟩
   ·cases hp
theorem RunW.lse (hX:MkM X) (h:RunW X K base gr nc w who V r) {K':Kd M} (hw:K'.words=K.words):RunW X K' base gr nc (w.setCell ⟨gr,1,none⟩ (.bool K'.lse)) who V r∧Moves who who w (w.setCell ⟨gr,1,none⟩ (.bool K'.lse)):=by
 obtain⟨r1,r2⟩:=h.run
 have hsz:(w.setCell ⟨gr,1,none⟩ (.bool K'.lse)).heap.size=w.heap.size:=by simp[World.setCell]
 have hst:Still X.TM w (w.setCell ⟨gr,1,none⟩ (.bool K'.lse)):=Still.set r2 hX.run _
 have hfar:∀p,p≠Pt.run→∀k,who k=some p→(w.setCell ⟨gr,1,none⟩ (.bool K'.lse)).heap[k]?=w.heap[k]?:=fun p hp k hk=>Below.heap_setCell w ⟨gr,1,none⟩ _ k (fun e=>by
  simp only at e
  rw[e,r1]at hk
  injection hk with hk
  exact hp hk.symm)
 refine⟨⟨fun p=>?_,fun k p hp=>by rw[hsz];exact h.lt k p hp,h.gtl,h.gml,h.numl,h.outl,h.col⟩,(KeptS.refl _ w).set (by rw[r1];exact fun e=>by cases e) 1 _,fun _ h=>.inl h⟩
 cases p with
 | run =>
  refine⟨r1,?_⟩
  have:=r2.set 1 (.bool K'.lse)
  unfold runC at this ⊢
  rw[hw]
  exact this
 | th t=>exact(h.part (.th t)).frame hX (fun k hk=>hfar _ (fun e=>by cases e) k hk) hst (fun k=>Iff.rfl)
 | mach t=>exact(h.part (.mach t)).frame hX (fun k hk=>hfar _ (fun e=>by cases e) k hk) hst (fun k=>Iff.rfl)
 | row q=>exact(h.part (.row q)).frame hX (fun k hk=>hfar _ (fun e=>by cases e) k hk) hst (fun k=>Iff.rfl)
theorem RunW.coAdd (hX:MkM X) (h:RunW X K base gr nc w who V r) (a:Nat) {gi:Nat} (hgi:base≤gi) (hni:who gi=none) (hbi:Blk w gi 3 #[i64V a]) {g cap:Nat} (hg:w.grownBy w1 V.co.ownBlock) (hat:V.co.ownBlock=some g∨g=w.heap.size) (hgl:g<w1.heap.size)
  (ho:w1.ownsRow base (rowT .co) (rowS .co) (.slice (some ⟨g,0,none⟩) (V.coi.length+1) cap) (V.coi.length+1) (V.coi++[.slice (some ⟨gi,0,none⟩) 1 1])) :
  ∃who' V',RunW X K base gr nc (w1.setCell ⟨gr,8,none⟩ (.slice (some ⟨g,0,none⟩) (V.coi.length+1) cap)) who' V' { r with co:=r.co++[[a]] }∧V'.gt=V.gt∧V'.gm=V.gm ∧
   ∀B,B≤base→Below B w w1→Below B w (w1.setCell ⟨gr,8,none⟩ (.slice (some ⟨g,0,none⟩) (V.coi.length+1) cap)):=by
 have hgr:=h.lt gr _ h.run.1
 have hc:=h.claim hX (fun k=>k=gi) (.row (.coi V.coi.length)) (fun k hk=>by subst hk;exact⟨hni,hgi,hbi.lt⟩) (fun who2=>by
  have e1:V.coi.getD V.coi.length nilV=nilV:=by rw[Kit.gD,List.getElem?_eq_none (Nat.le_refl _)];rfl
  have e2:r.co.getD V.coi.length [] = []:=by rw[Kit.gD,List.getElem?_eq_none (by rw[h.col];exact Nat.le_refl _)];rfl
  refine⟨?_,fun k hk=>?_⟩
  ·simp only[RV.val,rowN,rowX,e1,e2]
   exact own_nil w base _ _
  ·simp only[RV.val,e1]at hk
   cases hk)
 have hwi:own1 who (fun k=>k=gi) (.row (.coi V.coi.length)) gi=some (.row (.coi V.coi.length)):=(own1_p gi).2 rfl
 have hgig:gi≠gr:=fun e=>by rw[e,h.run.1]at hni;cases hni
 generalize own1 who (fun k=>k=gi) (.row (.coi V.coi.length))=who1 at hc hwi
 obtain⟨r1,r2⟩:=hc.run
 have hnew:(V.coi++[Value.slice (some ⟨gi,0,none⟩) 1 1]).getD V.coi.length nilV=.slice (some ⟨gi,0,none⟩) 1 1:=by simp[List.getD_eq_getElem?_getD]
 have hnew2:(r.co++[[a]]).getD V.coi.length [] = [a]:=by rw[h.col];simp[List.getD_eq_getElem?_getD]
 have hold:∀u,u≠V.coi.length→(V.coi++[Value.slice (some ⟨gi,0,none⟩) 1 1]).getD u nilV=V.coi.getD u nilV:=fun u hu=>by
  simp only[List.getD_eq_getElem?_getD]
  rcases Nat.lt_or_ge u V.coi.length with h1 | h1
  ·rw[List.getElem?_append_left h1]
  ·rw[List.getElem?_eq_none (by simp;omega),List.getElem?_eq_none h1]
 have hold2:∀u,u≠V.coi.length→(r.co++[[a]]).getD u []=r.co.getD u []:=fun u hu=>by
  rw[h.col]at hu
  simp only[List.getD_eq_getElem?_getD]
  rcases Nat.lt_or_ge u r.co.length with h1 | h1
  ·rw[List.getElem?_append_left h1]
  ·rw[List.getElem?_eq_none (by simp;omega),List.getElem?_eq_none h1]
 obtain⟨who',h1,h2⟩:=hc.rowAt hX .co (fun p=>p=.run∨p=.row (.coi V.coi.length)) .run gr 8 g (v':=.slice (some ⟨g,0,none⟩) (V.coi.length+1) cap)
  (V':={ V with co:=.slice (some ⟨g,0,none⟩) (V.coi.length+1) cap,coi:=V.coi++[.slice (some ⟨gi,0,none⟩) 1 1] }) (r':={ r with co:=r.co++[[a]] }) rfl hg hat hgl (fun e=>by rcases e with e | e <;> cases e) (.inl rfl) r1 ⟨_,_,r2,hX.run⟩ rfl
  (by
   show w1.ownsRow base _ _ _ (V.coi++[_]).length (V.coi++[_])
   rw[List.length_append,List.length_singleton]
   exact ho)
  (fun p hp hk who2 hw=>by
   rcases hp with rfl | rfl
   ·refine⟨(hw gr).2 r1,?_⟩
    have hb1:Blk w1 gr 115 (runC K nc V r):=(hk gr r1).trans r2
    exact hb1.set 8 _
   ·have hb1:Blk w1 gi 3 #[i64V a]:=(hk gi hwi).trans hbi
    have hb2:Blk (w1.setCell ⟨gr,8,none⟩ (.slice (some ⟨g,0,none⟩) (V.coi.length+1) cap)) gi 3 #[i64V a]:=(Below.heap_setCell w1 ⟨gr,8,none⟩ _ gi hgig).trans hb1
    refine⟨?_,fun k hk'=>?_⟩
    ·simp only[RV.val,rowN,rowX,hnew,hnew2]
     exact⟨rfl,.inr ⟨gi,1,#[i64V a],rfl,hgi,hb2,Nat.le_refl _,by decide,rfl,rfl⟩⟩
    ·simp only[RV.val,hnew,Value.ownBlock,Option.some.injEq]at hk'
     subst hk'
     exact(hw gi).2 hwi)
  (fun p hp hq=>by
   cases p with
   | run=>exact absurd (.inl rfl) hp
   | th u=>exact⟨⟨rfl,rfl,rfl⟩,rfl⟩
   | mach u=>exact⟨rfl,rfl⟩
   | row q =>
    cases q with
    | co=>exact absurd rfl hq
    | coi u =>
     have hu:u≠V.coi.length:=fun e=>hp (.inr (by rw[e]))
     exact⟨hold u hu,by simp only[rowN,hold2 u hu],by simp only[rowX,hold2 u hu]⟩
    | _=>exact⟨rfl,rfl,rfl⟩) h.gtl h.gml h.numl h.outl (by simpa using h.col)
 exact⟨who',_,h1,rfl,rfl,fun B hB hb=>hb.setCell (p:=⟨gr,8,none⟩) (by simp only;omega) _⟩
theorem snoc_ne {α:Type} (l:List α) (a:α) {u:Nat} (hu:u≠l.length):(l++[a])[u]?=l[u]?:=by
 rcases Nat.lt_or_ge u l.length with h1 | h1
 ·rw[List.getElem?_append_left h1]
 ·rw[List.getElem?_eq_none (by simp;omega),List.getElem?_eq_none h1]
theorem RunW.thAdd (hX:MkM X) (h:RunW X K base gr nc w who V r) {m:M} {gt gm:Nat} {S:Nat→Prop} (hS:∀k,S k→who k=none∧base≤k∧k<w.heap.size) (hgt:who gt=none) (hgtb:base≤gt) (hSg:¬S gt) (hbt:Blk w gt 127 #[.iface X.T (ptrV gm),nilV,.int .i64 (-1)]) (hrep:X.Rep w S gm m)
  {g cap:Nat} (hg:w.grownBy w1 V.thr.ownBlock) (hat:V.thr.ownBlock=some g∨g=w.heap.size) (hgl:g<w1.heap.size)
  (ho:w1.ownsRow base (rowT .thr) (rowS .thr) (.slice (some ⟨g,0,none⟩) (V.gt.length+1) cap) (V.gt.length+1) (V.gt.map ptrV++[ptrV gt])) :
  ∃who' V',RunW X K base gr nc (w1.setCell ⟨gr,2,none⟩ (.slice (some ⟨g,0,none⟩) (V.gt.length+1) cap)) who' V' { r with ths:=r.ths++[⟨m,[],-1⟩] } ∧
   ∀B,B≤base→Below B w w1→Below B w (w1.setCell ⟨gr,2,none⟩ (.slice (some ⟨g,0,none⟩) (V.gt.length+1) cap)):=by
 have hgr:=h.lt gr _ h.run.1
 obtain⟨t,ht⟩:∃t,t=r.ths.length:=⟨_,rfl⟩
 have hnone:r.ths[t]?=none:=List.getElem?_eq_none (by omega)
 have hc1:=h.claim hX S (.mach t) hS (fun who2 x gm' h1=>by rw[hnone]at h1;cases h1)
 have hgt1:own1 who S (.mach t) gt=none:=by
  unfold own1
  rw[if_neg hSg]
  split
  ·rfl
  ·exact hgt
 have hw1:∀k,own1 who S (.mach t) k=some (.mach t)↔S k:=fun k=>own1_p k
 generalize own1 who S (.mach t)=who1 at hc1 hgt1 hw1
 have hc:=hc1.claim hX (fun k=>k=gt) (.th t) (fun k hk=>by subst hk;exact⟨hgt1,hgtb,hbt.lt⟩) (fun who2 x gt' gm' h1=>by rw[hnone]at h1;cases h1)
 have hwt:own1 who1 (fun k=>k=gt) (.th t) gt=some (.th t):=(own1_p gt).2 rfl
 have hw2:∀k,own1 who1 (fun k=>k=gt) (.th t) k=some (.mach t)↔S k:=fun k =>
  (own1_ne (fun k hk=>.inl (by subst hk;exact hgt1)) (fun e=>by cases e) k).trans (hw1 k)
 generalize own1 who1 (fun k=>k=gt) (.th t)=who2 at hc hwt hw2
 obtain⟨r1,r2⟩:=hc.run
 have hgtg:gt≠gr:=fun e=>by rw[e,h.run.1]at hgt;cases hgt
 have el1:t=V.gt.length:=by rw[ht,h.gtl]
 have el2:t=V.gm.length:=by rw[ht,h.gml]
 have el3:t=V.num.length:=by rw[ht,h.numl]
 have hs1:=still_row hX hc .thr hg
 obtain⟨who',h1,h2⟩:=hc.rowAt hX .thr (fun p=>p=.run∨p=.th t∨p=.mach t) .run gr 2 g (v':=.slice (some ⟨g,0,none⟩) (V.gt.length+1) cap)
  (V':={ V with thr:=.slice (some ⟨g,0,none⟩) (V.gt.length+1) cap,gt:=V.gt++[gt],gm:=V.gm++[gm],num:=V.num++[nilV] }) (r':={ r with ths:=r.ths++[⟨m,[],-1⟩] }) rfl hg hat hgl (fun e=>by rcases e with e | e | e <;> cases e) (.inl rfl) r1 ⟨_,_,r2,hX.run⟩ rfl
  (by
   show w1.ownsRow base _ _ _ (V.gt++[gt]).length ((V.gt++[gt]).map ptrV)
   rw[List.length_append,List.length_singleton,List.map_append]
   exact ho)
  (fun p hp hk who3 hw=>by
   have hb1:∀k,who2 k=some .run→k=gr→Blk w1 gr 115 (runC K nc V r):=fun k _ _=>by
    have:w1.heap[gr]?=w.heap[gr]?:=hg.block gr hgr.2 (fun e=>by
     have:=(hc.part (.row .thr)).2 gr e.symm
     rw[r1]at this
     cases this)
    exact this.trans r2
   have hb1:=hb1 gr r1 rfl
   rcases hp with rfl | rfl | rfl
   ·exact⟨(hw gr).2 r1,hb1.set 2 _⟩
   ·intro x gt' gm' h1 h2 h3
    simp only[ht,List.getElem?_append_right (Nat.le_refl _),Nat.sub_self]at h1
    simp only[el1,List.getElem?_append_right (Nat.le_refl _),Nat.sub_self]at h2
    simp only[el2,List.getElem?_append_right (Nat.le_refl _),Nat.sub_self]at h3
    obtain rfl:_=x:=Option.some.inj h1
    obtain rfl:_=gt':=Option.some.inj h2
    obtain rfl:_=gm':=Option.some.inj h3
    refine⟨(hw _).2 hwt,?_⟩
    have hb2:Blk w1 gt 127 _:=(hk gt hwt).trans hbt
    have e:(V.num++[nilV]).getD t nilV=nilV:=by rw[el3];simp[List.getD_eq_getElem?_getD]
    unfold thC
    rw[e]
    exact(Below.heap_setCell w1 ⟨gr,2,none⟩ _ gt hgtg).trans hb2
   ·intro x gm' h1 h3
    simp only[ht,List.getElem?_append_right (Nat.le_refl _),Nat.sub_self]at h1
    simp only[el2,List.getElem?_append_right (Nat.le_refl _),Nat.sub_self]at h3
    obtain rfl:_=x:=Option.some.inj h1
    obtain rfl:_=gm':=Option.some.inj h3
    have e:(fun k=>who3 k=some (.mach t))=S:=by
     funext k
     exact propext ((hw k).trans (hw2 k))
    rw[e]
    exact hX.frame hrep (fun k hk'=>(Below.heap_setCell w1 ⟨gr,2,none⟩ _ k (fun e=>by
     simp only at e
     have:=(hw2 k).2 hk'
     rw[e,r1]at this
     cases this)).trans (hk k ((hw2 k).2 hk'))) (hs1.trans (Still.set hb1 hX.run _)))
  (fun p hp hq=>by
   cases p with
   | run=>exact absurd (.inl rfl) hp
   | th u =>
    have hu:u≠t:=fun e=>hp (.inr (.inl (by rw[e])))
    refine⟨⟨snoc_ne _ _ (by omega),snoc_ne _ _ (by omega),getD_snoc _ _ _⟩,?_⟩
    rw[snoc_ne _ _ (by omega)]
   | mach u =>
    have hu:u≠t:=fun e=>hp (.inr (.inr (by rw[e])))
    refine⟨snoc_ne _ _ (by omega),?_⟩
    rw[snoc_ne _ _ (by omega)]
   | row q =>
    cases q with
    | thr=>exact absurd rfl hq
    | nums u =>
     have e:numsOf { r with ths:=r.ths++[⟨m,[],-1⟩] } u=numsOf r u:=by
      unfold numsOf
      by_cases hu:u=t
      ·subst hu
       simp only[hnone]
       simp[ht]
      ·simp only[snoc_ne r.ths (⟨m,[],-1⟩:Th M) (u:=u) (by omega)]
     exact⟨getD_snoc _ _ _,by simp only[rowN,e],by simp only[rowX,e]⟩
    | _=>exact⟨rfl,rfl,rfl⟩) (by simpa using h.gtl) (by simpa using h.gml) (by simpa using h.numl) h.outl h.col
 exact⟨who',_,h1,fun B hB hb=>hb.setCell (p:=⟨gr,2,none⟩) (by simp only;omega) _⟩
theorem Moves.belowBase (h:RunW X K base gr nc w who V r) (hm:Moves who who' w w') (hb:base≤w.heap.size):Below base w w' :=
 ⟨hm.keep.1,hm.keep.2.1,hm.keep.2.2.1,hm.keep.size,fun k hk=>hm.keep.2.2.2.2 k (by omega) (fun hn=>hn (by
  cases hw:who k with
  | none=>rfl
  | some p=>have:=(h.lt k p hw).1;omega))⟩
end
section
variable {M:Type} {X:Mk M} {K:Kd M} {base gr nc:Nat} {w w' w1:World} {who who':Nat→Option Pt} {V V':RV} {r r':Rn M}
def AddPost (X:Mk M) (K:Kd M) (base gr nc:Nat) (w:World) (r:Rn M) (e:Ending) (w':World):Prop :=
 e=.returned (.tuple #[])∧∃who V,RunW X K base gr nc w' who V r∧Below base w w'
set_option maxRecDepth 100000 in
set_option maxHeartbeats 0 in
theorem add_any (hX:MkM X) (h:RunW X K base gr nc w who V r) (hth:r.ths.length≤1048576) (hou:r.outs.length≤1048576) {m:M} {gm:Nat} {S0:Nat→Prop} (hS0:∀k,S0 k→who k=none∧base≤k∧k<w.heap.size) (hrep:X.Rep w S0 gm m) :
  Calls Tryz.prog 36 #[ptrV gr,.iface X.T (ptrV gm)] w fun e w'=>AddPost X K base gr nc w (r.add m) e w':=by
 unfold ptrV
 have hbs0:=RunW.base_le h
 have hml:(16*1048576:Nat)≤maxLen:=by decide
 have hgrb:=(h.lt gr _ h.run.1).1
 obtain⟨n,hn⟩:∃n,n=r.ths.length:=⟨_,rfl⟩
 have hgl:V.gt.length=n:=by rw[h.gtl,hn]
 obtain⟨A,cA,hev,_⟩:=own_slice (h.own .thr)
 simp only[RV.val,rowN,hgl]at hev
 have k2:w.cell? ⟨gr,2,none⟩=some (.slice A n cA):=by rw[h.run.2.cell 2,←hev];rfl
 obtain⟨i0,hi0,hz0,hz1,hz2⟩:=info_parts info_pSthread
 obtain⟨S,hS⟩:∃S:Nat→Prop,∀k,S k↔(RV.val V .thr).ownBlock=some k:=⟨_,fun _=>Iff.rfl⟩
 have nS:∀{k:Nat},who k≠some (.row .thr)→¬S k:=fun hk hs=>hk (RunW.ownW h .thr _ ((hS _).1 hs))
 have hgrn:¬S gr:=nS (by rw[(RunW.run h).1];exact fun e=>by cases e)
 have hia:(w.alloc (.cells #[.iface X.T (.pointer (some ⟨gm,0,none⟩)),.slice none 0 0,.int .i64 (-1)] 127)).heap.size=w.heap.size+1:=sizeA w _
 have hk7:KeptS S w ((w.alloc (.cells #[.iface X.T (.pointer (some ⟨gm,0,none⟩)),.slice none 0 0,.int .i64 (-1)] 127)).alloc (.cells #[.pointer (some ⟨w.heap.size,0,none⟩)] 122)):=((KeptS.refl _ w).al _).al _
 have hb7:Below w.heap.size w ((w.alloc (.cells #[.iface X.T (.pointer (some ⟨gm,0,none⟩)),.slice none 0 0,.int .i64 (-1)] 127)).alloc (.cells #[.pointer (some ⟨w.heap.size,0,none⟩)] 122)):=Kit.bl2
 have hT7:Blk ((w.alloc (.cells #[.iface X.T (.pointer (some ⟨gm,0,none⟩)),.slice none 0 0,.int .i64 (-1)] 127)).alloc (.cells #[.pointer (some ⟨w.heap.size,0,none⟩)] 122)) w.heap.size 127 #[.iface X.T (ptrV gm),nilV,.int .i64 (-1)]:=(Blk.new w _ _).alloc _
 have hN7:Blk ((w.alloc (.cells #[.iface X.T (.pointer (some ⟨gm,0,none⟩)),.slice none 0 0,.int .i64 (-1)] 127)).alloc (.cells #[.pointer (some ⟨w.heap.size,0,none⟩)] 122)) (w.heap.size+1) 122 (List.toArray [ptrV w.heap.size]):=Blk.newAt hia _ _
 obtain⟨hR7,hm7⟩:=RunW.below' hX h hb7
 have hrep7:=hX.frame hrep (fun k hk=>hb7.block k (hS0 k hk).2.2) (Still.below hb7)
 have hS7:∀k,S0 k→who k=none∧base≤k∧k<((w.alloc (.cells #[.iface X.T (.pointer (some ⟨gm,0,none⟩)),.slice none 0 0,.int .i64 (-1)] 127)).alloc (.cells #[.pointer (some ⟨w.heap.size,0,none⟩)] 122)).heap.size:=fun k hk=>⟨(hS0 k hk).1,(hS0 k hk).2.1,Nat.lt_of_lt_of_le (hS0 k hk).2.2 hb7.size⟩
 have hSg:¬S0 w.heap.size:=fun hk=>by have:=(hS0 _ hk).2.2;omega
 have hng:who w.heap.size=none:=h.noOne (Nat.le_refl _)
 have hev7:=RunW.own hR7 .thr
 simp only[RV.val,rowN,rowX,rowT,rowS]at hev7
 rw[hev,hgl]at hev7
 have HEO:=Lib.hid hev7
 have HEV:=Lib.hid hev
 have HS:=Lib.hid hS
 have HN:=Lib.hid hn
 have hbs:=RunW.base_le hR7
 have hbb7:Below base w ((w.alloc (.cells #[.iface X.T (.pointer (some ⟨gm,0,none⟩)),.slice none 0 0,.int .i64 (-1)] 127)).alloc (.cells #[.pointer (some ⟨w.heap.size,0,none⟩)] 122)):=hb7.mono hbs0
 have hn2:n≤1048576:=by omega
 clear hev hev7 hS nS hn hia
 go_enter Tryz.func36,Tryz.ntmps36
 go_upto_region 1 with (at_builtin;refine wpList_append_lies _ (by rfl) _ _ _ (by rfl) base 122 i0 _ 1 8 Tryz.underlying113 hi0 hz0 hz1 hz2 rfl (by omega) _ n _ (by rfl) HEO.out ⟨w.heap.size+1,0,none⟩ 1 1 [ptrV w.heap.size] (by rfl) rfl (news_one hN7) (one_one rfl) (by omega) (by omega) (by omega) hbs _ rfl ?_;intro g8 cap8 w8 hown8 hgrow8 hat8 hlt8;have hk8:=kept_grown hk7 hgrow8 (fun k hk=>(HS.out k).2 (by rw[show RV.val V .thr=_ from HEV.out];exact hk));have hB8:=hk8.blk h.run.2 hgrn;have kf:=fun i=>hB8.frozen i;have k6':w8.cell? ⟨gr,2,none⟩=some (.slice A n cA):=by rw[hB8.cell 2,←HEV.out];rfl)
 obtain⟨who2,V2,hR2,_⟩:=hR7.thAdd hX hS7 hng hbs0 hSg hT7 hrep7 (by rw[HEV.out];exact hgrow8) (by rw[HEV.out];exact hat8) hlt8 (by rw[hgl];exact hown8)
 rw[hgl]at hR2
 have hb2:Below base w (w8.setCell ⟨gr,2,none⟩ (.slice (some ⟨g8,0,none⟩) (n+1) cap8)):=(hbb7.grown hgrow8 hbs (fun k hk=>OwnR.own_base HEO.out hk)).setCell (p:=⟨gr,2,none⟩) hgrb _
 generalize w8.setCell ⟨gr,2,none⟩ _=w2 at *
 clear hm7 hR7 hk8 hk7 hB8 kf k6' k2 hgrow8 hat8 hlt8 hown8 HEO HEV HS hgrn hN7 hi0 hz0 hz1 hz2 hbs hT7 hrep7 hS7 hSg hng hb7 hbb7 h hS0 hrep hgl
 obtain⟨r2,hr2⟩:∃y,y=({ r with ths:=r.ths++[⟨m,[],-1⟩] }:Rn M):=⟨_,rfl⟩
 rw[←hr2]at hR2
 obtain⟨n2,hnn⟩:∃n,n=r.outs.length:=⟨_,rfl⟩
 have hol:V2.outi.length=n2:=by rw[hR2.outl,hr2,hnn]
 have hn3:n2≤1048576:=by omega
 have HR2:=Lib.hid hr2
 clear hr2 hnn
 obtain⟨B,cB,hev,_⟩:=own_slice (hR2.own .outs)
 simp only[RV.val,rowN,hol]at hev
 have k13:w2.cell? ⟨gr,13,none⟩=some (.slice B n2 cB):=by rw[hR2.run.2.cell 13,←hev];rfl
 obtain⟨i0,hi0,hz0,hz1,hz2⟩:=info_parts info_u64s
 obtain⟨S,hS⟩:∃S:Nat→Prop,∀k,S k↔(RV.val V2 .outs).ownBlock=some k:=⟨_,fun _=>Iff.rfl⟩
 have nS:∀{k:Nat},who2 k≠some (.row .outs)→¬S k:=fun hk hs=>hk (RunW.ownW hR2 .outs _ ((hS _).1 hs))
 have hgrn:¬S gr:=nS (by rw[(RunW.run hR2).1];exact fun e=>by cases e)
 have hk7:KeptS S w2 (w2.alloc (.cells #[.slice none 0 0] 32)):=(KeptS.refl _ w2).al _
 have hb7:Below w2.heap.size w2 (w2.alloc (.cells #[.slice none 0 0] 32)):=Kit.bl1
 have hN7:Blk (w2.alloc (.cells #[.slice none 0 0] 32)) w2.heap.size 32 (List.toArray [nilV]):=Blk.new w2 _ _
 obtain⟨hR7,hm7⟩:=RunW.below' hX hR2 hb7
 have hev7:=RunW.own hR7 .outs
 simp only[RV.val,rowN,rowX,rowT,rowS]at hev7
 rw[hev,hol]at hev7
 have HEO:=Lib.hid hev7
 have HEV:=Lib.hid hev
 have HS:=Lib.hid hS
 have hbs:=RunW.base_le hR7
 clear hev hev7 hS nS
 go_wp2_with (at_builtin;refine wpList_append_lies _ (by rfl) _ _ _ (by rfl) base 32 i0 _ 1 24 Tryz.underlying33 hi0 hz0 hz1 hz2 rfl (by omega) _ n2 _ (by rfl) HEO.out ⟨w2.heap.size,0,none⟩ 1 1 [nilV] (by rfl) rfl (news_one hN7) (one_one rfl) (by omega) (by omega) (by omega) hbs _ rfl ?_;intro g8 cap8 w8 hown8 hgrow8 hat8 hlt8;have hk8:=kept_grown hk7 hgrow8 (fun k hk=>(HS.out k).2 (by rw[show RV.val V2 .outs=_ from HEV.out];exact hk));have hB8:=hk8.blk hR2.run.2 hgrn;have kf:=fun i=>hB8.frozen i;have k6':w8.cell? ⟨gr,13,none⟩=some (.slice B n2 cB):=by rw[hB8.cell 13,←HEV.out];rfl)
 first | go_end0 | refine bodyPost_ret (v:=.tuple #[]) (by simp[results,Tryz.results36,go_sem]) rfl ?_
 have hst:=hR7.outsAdd hX (by rw[HEV.out];exact hgrow8) (by rw[HEV.out];exact hat8) hlt8 (by rw[hol];exact hown8)
 rw[hol]at hst
 obtain⟨who3,V3,hR3,hm3,_,_⟩:=Step.trans hm7 rfl rfl hst
 refine⟨rfl,who3,V3,?_,hb2.trans (hm3.belowBase hR2 (Nat.le_trans hbs0 hb2.size))⟩
 have e2:=HR2.out
 rw[e2]at hR3
 exact hR3
end
end Go.Proofs.YtmjilfamjlnigaaGreat.RunW
