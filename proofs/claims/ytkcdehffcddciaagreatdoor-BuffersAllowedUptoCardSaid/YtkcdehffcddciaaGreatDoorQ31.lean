/- PLAIN: what a play records: when a write came to all, and what a read sees. -/
import Derived.Test.YtkcdehffcddciaaGreatDoorQ30
namespace Go.Proofs.YtkcdehffcddciaaGreatDoor.Vm
open Go Go.RowKit
open Classical in
noncomputable def tmV (g:Gr) (fl:Int→Nat) (x:Int):Nat:=2*fl x+(if Sec g x then 1 else 0)
section
variable {g:Gr} {b:Bool} {n m:Nat} {f:Nat→Ps} {fl:Int→Nat} {s s':Ps}
theorem tm_lt {x y:Int} (h:fl x<fl y):tmV g fl x<tmV g fl y:=by
 unfold tmV
 split <;> split <;> omega
theorem tm_ns {x:Int} (h:¬Sec g x):tmV g fl x=2*fl x:=by
 unfold tmV
 rw[if_neg h]
 rfl
theorem tm_s {x:Int} (h:Sec g x):tmV g fl x=2*fl x+1:=by
 unfold tmV
 rw[if_pos h]
theorem inl_th (h:Stt g n s) {x:Int} {t:Nat} (hx:InL s n x) (ht:(gt g.ev x.toNat).thread=t):x∈gt s.Q t++gt s.T t:=by
 obtain⟨u,hu,hx⟩:=hx
 have:=(thread_mem.1 (h.lth hu hx)).2.2
 have e:u=t:=by omega
 rw[←e];exact hx
theorem Hist.fl1 (hH:Hist g n m f fl) {k:Nat} (hk:k<m) (x:Int):fl x=k+1↔InL (f k) n x∧¬InL (f (k+1)) n x:=by
 rw[hH.fl x k (by omega),hH.fl x (k+1) (by omega)]
 omega
theorem Hist.flD (hH:Hist g n m f fl) {k:Nat} (hk:k<m) {D:Int→Prop} (hD:Gone g n (f k) (f (k+1)) D) {x:Int}:fl x=k+1→D x:=fun h=>by
 have:=(hH.fl1 hk x).1 h
 exact Classical.byContradiction fun hn=>this.2 ((hD x).2 ⟨this.1,hn⟩)
theorem Hist.flD' (hH:Hist g n m f fl) {k:Nat} (hk:k<m) {D:Int→Prop} (hD:Gone g n (f k) (f (k+1)) D) {x:Int} (hx:D x) (hi:InL (f k) n x):fl x=k+1:=(hH.fl1 hk x).2 ⟨hi,fun h=>((hD x).1 h).2 hx⟩
theorem Hist.out (hH:Hist g n m f fl) {k:Nat} (hk:k≤m) {x:Int} (h:¬InL (f k) n x):fl x≤k:=by
 exact Nat.not_lt.1 fun h'=>h ((hH.fl x k hk).2 h')
theorem ev_thr (hw:WF g b) {x:Int} (h0:0≤x) (hl:x<g.ev.length) (hk:(gt g.ev x.toNat).kind≠2):0≤(gt g.ev x.toNat).thread:=by
 by_cases e:x<g.cells
 ·have:=hw.init x.toNat (by omega)
  rw[this]at hk
  exact absurd rfl hk
 ·exact(hw.ev x.toNat (by omega) (by omega)).1
theorem Hist.step (hH:Hist g n m f fl) (hth:thrN g.ev g.ev.length=n) {x:Int} (h0:0≤x) (hl:x<g.ev.length) (ht:0≤(gt g.ev x.toNat).thread):∃k t,k<m∧fl x=k+1∧t<n∧(gt g.ev x.toNat).thread=(t:Nat)∧x∈threadL g.ev t g.ev.length:=by
 have h1:=beg_in hth h0 hl ht
 rw[←hH.beg,hH.fl x 0 (Nat.zero_le _)]at h1
 have h5:=thrN_ge (l:=g.ev) (n:=g.ev.length) (i:=x.toNat) (by omega)
 have:=hH.le x
 exact⟨fl x-1,(gt g.ev x.toNat).thread.toNat,by omega,by omega,by omega,by omega,thread_mem.2 ⟨h0,hl,by omega⟩⟩
theorem Trn.fkeep (ht:Trn g n s s') {x:Int} (hx:¬InL s n x) (h0:0≤x) (hs:Stt g n s):gt s'.F x.toNat=gt s.F x.toNat:=by
 have key:∀t y r v,t<n→gt s.T t=y :: r→gt (s.F.set y.toNat v) x.toNat=gt s.F x.toNat:=fun t y r v ht hy=>by
  have hym:y∈gt s.T t:=by rw[hy];exact List.mem_cons_self
  have hne:x.toNat≠y.toNat:=fun e=>hx ⟨t,ht,List.mem_append_right _ (by
   have:=(thread_mem.1 (hs.tth ht hym)).1
   rw[show x=y by omega];exact hym)⟩
  by_cases hl:y.toNat<s.F.length
  ·rw[gt_set hl,if_neg hne]
  ·rw[List.set_eq_of_length_le (by omega)]
 cases ht with
 | stay hT hQ hO hF=>rw[hF]
 | flush t w r ht hq hT hQ hO hF=>rw[hF]
 | pair t y w r ht hy hq hs h0 hT hQ hO hF=>rw[hF];exact key t y _ _ ht hy
 | read t y r ht hy hs hk hT hQ hO hF=>rw[hF];exact key t y _ _ ht hy
 | write t y r ht hy hs hk hT hQ hO hF=>rw[hF]
 | fence t y r ht hy hs hk hq hT hQ hO hF=>rw[hF]
theorem Hist.fkeep (hH:Hist g n m f fl) {x:Int} (h0:0≤x) {k:Nat} (hk:fl x≤k):∀j,k+j≤m→gt (f (k+j)).F x.toNat=gt (f k).F x.toNat
 | 0,_=>rfl
 | j+1,hj=>by
  rw[←hH.fkeep h0 hk j (by omega)]
  exact(hH.tr (k+j) (by omega)).fkeep (fun h=>by have:=(hH.fl x (k+j) (by omega)).1 h;omega) h0 (hH.st _ (by omega))
theorem Hist.read (hw:WF g b) (hH:Hist g n m f fl) (hth:thrN g.ev g.ev.length=n) {x:Int} (h0:0≤x) (hl:x<g.ev.length) (hk:(gt g.ev x.toNat).kind=1):∃k t r,k<m∧fl x=k+1∧t<n∧(gt g.ev x.toNat).thread=(t:Nat)∧gt (f k).T t=x :: r∧gt (f m).F x.toNat=looksV g.ev (f k).Q (f k).O t (gt g.ev x.toNat).loc.toNat ∧
  (∀y,fl y=k+1→y=x∨(0≤secV x g.rmw∧y=secV x g.rmw))∧(0≤secV x g.rmw→gt (f k).Q t = []∧fl (secV x g.rmw)=k+1):=by
 obtain⟨k,t,h1,h2,h3,h4,h5⟩:=hH.step hth h0 hl (ev_thr hw h0 hl (by omega))
 have hs:=hH.st k (by omega)
 have hin:=((hH.fl1 h1 x).1 h2)
 have hfl:x.toNat<(f k).F.length:=by rw[hs.gp.fl];omega
 have hkp:=fun j=>hH.fkeep (k:=k+1) h0 (Nat.le_of_eq h2) j
 have hkm:=hkp (m-(k+1)) (by omega)
 rw[show k+1+(m-(k+1))=m by omega]at hkm
 have uniq:∀u:Nat,∀y,u<n→y∈gt (f k).Q u++gt (f k).T u→y=x→u=t:=fun u y hu hy e=>by
  subst e
  have:=(thread_mem.1 (hs.lth hu hy)).2.2
  omega
 cases hH.tr k h1 with
 | stay hT hQ hO hF =>
  exfalso
  apply hin.2
  unfold InL
  rw[hT,hQ]
  exact hin.1
 | flush u w r hu hq hT hQ hO hF =>
  exfalso
  have e:=hH.flD h1 (gone_flush hs hu hq hT hQ) h2
  have:=hs.gp.q u hu w (by rw[hq];exact List.mem_cons_self)
  have:=this.2.2.1
  rw[←e]at this
  omega
 | pair u y w r hu hy hq hsec h0' hT hQ hO hF =>
  have hG:=gone_pair hs hu hy hq hT hQ
  have hsw:=sec_wf hw (x:=y) (by rw[hsec];exact h0')
  rcases hH.flD h1 hG h2 with e | e
  ·subst e
   obtain rfl:u=t:=uniq u x hu (by rw[hy];simp) rfl
   refine⟨k,u,w :: r,h1,h2,hu,h4,hy,by rw[hkm,hF,gt_set hfl,if_pos rfl],fun z hz=>?_,fun _=>⟨hq,?_⟩⟩
   ·rcases hH.flD h1 hG hz with e | e
    ·exact .inl e
    ·exact .inr ⟨by rw[hsec];exact h0',by rw[hsec];exact e⟩
   ·rw[hsec]
    exact hH.flD' h1 hG (.inr rfl) ⟨u,hu,by rw[hy];simp⟩
  ·exfalso
   have:=hsw.2.1.2.2
   rw[hsec,←e]at this
   omega
 | read u y r hu hy hsec hk' hT hQ hO hF =>
  have hG:=gone_one hs hu hy hT hQ
  have e:=hH.flD h1 hG h2
  subst e
  obtain rfl:u=t:=uniq u x hu (by rw[hy];simp) rfl
  exact⟨k,u,r,h1,h2,hu,h4,hy,by rw[hkm,hF,gt_set hfl,if_pos rfl],fun z hz=>.inl (hH.flD h1 hG hz),fun h=>absurd h hsec⟩
 | write u y r hu hy hsec hk' hT hQ hO hF=>exact(hH.flD h1 (gone_write hs hu hy hT hQ) h2).elim
 | fence u y r hu hy hsec hk' hq hT hQ hO hF =>
  exfalso
  have e:=hH.flD h1 (gone_one hs hu hy hT hQ) h2
  rw[←e]at hk'
  omega
theorem looksN_cases {ev:List Ev_} {c:Int} {q:List Int} {d:Int}:∀k,(∃j,j<k∧looksN ev c q d k=gt q j∧(gt ev (gt q j).toNat).loc=c∧∀i,j<i→i<k→(gt ev (gt q i).toNat).loc≠c)∨(looksN ev c q d k=d∧∀i,i<k→(gt ev (gt q i).toNat).loc≠c)
 | 0=>.inr ⟨rfl,fun i hi=>absurd hi (Nat.not_lt_zero _)⟩
 | k+1=>by
  unfold looksN
  split
  ·rename_i h
   exact .inl ⟨k,Nat.lt_succ_self _,rfl,h,fun i h1 h2=>by omega⟩
  ·rename_i h
   rcases looksN_cases (ev:=ev) (c:=c) (q:=q) (d:=d) k with⟨j,h1,h2,h3,h4⟩ | ⟨h1,h2⟩
   ·refine .inl ⟨j,by omega,h2,h3,fun i h5 h6=>?_⟩
    by_cases e:i=k
    ·rw[e];exact h
    ·exact h4 i h5 (by omega)
   ·refine .inr ⟨h1,fun i h5=>?_⟩
    by_cases e:i=k
    ·rw[e];exact h
    ·exact h2 i (by omega)
theorem pw_gt {α:Type} [Inhabited α] {R:α→α→Prop} {l:List α} (h:l.Pairwise R) {i j:Nat} (hij:i<j) (hj:j<l.length):R (gt l i) (gt l j):=by
 rw[gt_lt hj,gt_lt (Nat.lt_trans hij hj)]
 exact List.pairwise_iff_getElem.1 h i j _ _ hij
theorem Hist.rows (hw:WF g b) (hH:Hist g n m f fl):∀k,k≤m→∀c,c<(f k).O.length→(gt (f k).O c).Pairwise fun x y=>tmV g fl x<tmV g fl y
 | 0,_,c,hc=>by
  rw[hH.beg]at hc ⊢
  have hc:c<(begO g.cells.toNat).length:=hc
  have:(begO g.cells.toNat).length=g.cells.toNat:=by unfold begO;rw[List.length_map,List.length_range]
  show(gt (begO g.cells.toNat) c).Pairwise _
  unfold begO
  rw[gt_mapR (by omega)]
  exact List.pairwise_singleton _ _
 | k+1,hk,c,hc=>by
  have hs:=hH.st k (by omega)
  have ih:=hH.rows hw k (by omega)
  have key:∀(d:Nat) (w:Int),fl w=k+1→d<(f k).O.length→(f (k+1)).O=(f k).O.set d (gt (f k).O d++[w])→(gt (f (k+1)).O c).Pairwise fun x y=>tmV g fl x<tmV g fl y:=fun d w hfw hd hO=>by
   rw[hO,List.length_set]at hc
   rw[hO,gt_set hd]
   by_cases e:c=d
   ·rw[if_pos e,List.pairwise_append]
    subst e
    refine⟨ih c hc,List.pairwise_singleton _ _,fun x hx y hy=>?_⟩
    rw[List.mem_singleton.1 hy]
    have:=hH.out (k:=k) (by omega) ((hs.o c hc x).1 hx).2.2
    exact tm_lt (by omega)
   ·rw[if_neg e];exact ih c hc
  cases hH.tr k (by omega)with
  | stay hT hQ hO hF=>rw[hO]at hc ⊢;exact ih c hc
  | flush u w r hu hq hT hQ hO hF =>
   have hin:w∈gt (f k).Q u:=by rw[hq];exact List.mem_cons_self
   have hww:=hs.gp.q u hu w hin
   exact key _ w (hH.flD' (by omega) (gone_flush hs hu hq hT hQ) rfl ⟨u,hu,List.mem_append_left _ hin⟩) (by have:=hs.gp.ol;have:=hww.2.2.2;omega) hO
  | pair u y w r hu hy hq hsec h0' hT hQ hO hF =>
   have h5:=ev_wf hw (hs.tth hu (x:=y) (by rw[hy];exact List.mem_cons_self))
   have h6:=(sec_wf hw (x:=y) (by rw[hsec];exact h0')).1.2.2
   exact key _ w (hH.flD' (by omega) (gone_pair hs hu hy hq hT hQ) (.inr rfl) ⟨u,hu,by rw[hy];simp⟩) (by have:=hs.gp.ol;omega) hO
  | read u y r hu hy hsec hk' hT hQ hO hF=>rw[hO]at hc ⊢;exact ih c hc
  | write u y r hu hy hsec hk' hT hQ hO hF=>rw[hO]at hc ⊢;exact ih c hc
  | fence u y r hu hy hsec hk' hq hT hQ hO hF=>rw[hO]at hc ⊢;exact ih c hc
theorem Hist.sees (hw:WF g b) (hH:Hist g n m f fl) {k t c:Nat} (hk:k≤m) (ht:t<n) (hc:c<(f k).O.length):(looksV g.ev (f k).Q (f k).O t c∈gt (f k).Q t∧(gt g.ev (looksV g.ev (f k).Q (f k).O t c).toNat).loc=c∧∀y∈gt (f k).Q t,(gt g.ev y.toNat).loc=c→y≤looksV g.ev (f k).Q (f k).O t c) ∨
  ((∀y∈gt (f k).Q t,(gt g.ev y.toNat).loc≠c)∧looksV g.ev (f k).Q (f k).O t c∈gt (f k).O c∧∀y∈gt (f k).O c,tmV g fl y≤tmV g fl (looksV g.ev (f k).Q (f k).O t c)):=by
 have hs:=hH.st k hk
 have hsq:=(List.pairwise_append.1 (hs.srt t ht)).1
 unfold looksV
 rcases looksN_cases (ev:=g.ev) (c:=c) (q:=gt (f k).Q t) (d:=gt (gt (f k).O c) ((gt (f k).O c).length-1)) (gt (f k).Q t).length with⟨j,h1,h2,h3,h4⟩ | ⟨h1,h2⟩
 ·rw[h2]
  refine .inl ⟨gt_mem h1,h3,fun y hy hyc=>?_⟩
  obtain⟨i,hi,rfl⟩:=mem_gt hy
  by_cases e:i≤j
  ·rcases Nat.eq_or_lt_of_le e with e | e
   ·rw[e];exact Int.le_refl _
   ·have:=pw_gt hsq e h1;omega
  ·exact absurd hyc (h4 i (by omega) hi)
 ·rw[h1]
  have hpos:=(hs.gp.o c hc).1
  refine .inr ⟨fun y hy=>?_,gt_mem (by omega),fun y hy=>?_⟩
  ·obtain⟨i,hi,rfl⟩:=mem_gt hy
   exact h2 i hi
  ·obtain⟨i,hi,rfl⟩:=mem_gt hy
   by_cases e:i=(gt (f k).O c).length-1
   ·rw[e];exact Nat.le_refl _
   ·exact Nat.le_of_lt (pw_gt (hH.rows hw k hk c hc) (by omega) (by omega))
end
/-! ### What a play records -/
structure Cert (g:Gr) (O:List (List Int)) (F:List Int) (tm:Int→Nat):Prop where
 ol:(O.length:Int)=g.cells
 co:∀c,c<O.length→(gt O c).Pairwise fun x y=>tm x<tm y
 mem:∀c,c<O.length→∀w,w∈gt O c↔WrE g w∧(gt g.ev w.toNat).loc=c
 rf:∀r:Int,0≤r→r<g.ev.length→(gt g.ev r.toNat).kind=1→WrE g (gt F r.toNat)∧(gt g.ev (gt F r.toNat).toNat).loc=(gt g.ev r.toNat).loc
 rfi:∀r:Int,0≤r→r<g.ev.length→(gt g.ev r.toNat).kind=1→tm (gt F r.toNat)<tm r∨Bef g (gt F r.toNat) r
 fr:∀r:Int,0≤r→r<g.ev.length→(gt g.ev r.toNat).kind=1→∀w,WrE g w→(gt g.ev w.toNat).loc=(gt g.ev r.toNat).loc→tm (gt F r.toNat)<tm w→tm r<tm w
 po:∀x y,Bef g x y→(¬((gt g.ev x.toNat).kind=2∧¬Sec g x)∨(gt g.ev y.toNat).kind=2∨waits g.ev g.rmw y)→tm x<tm y
 wr:∀w r,Bef g w r→(gt g.ev w.toNat).kind=2→(gt g.ev r.toNat).kind=1→(gt g.ev w.toNat).loc=(gt g.ev r.toNat).loc→tm w≤tm (gt F r.toNat)
 rr:∀r r',Bef g r r'→(gt g.ev r.toNat).kind=1→(gt g.ev r'.toNat).kind=1→(gt g.ev r.toNat).loc=(gt g.ev r'.toNat).loc→tm (gt F r.toNat)≤tm (gt F r'.toNat)
 pr:∀r,0≤secV r g.rmw→tm (secV r g.rmw)=tm r+1
section
variable {g:Gr} {b:Bool} {n m:Nat} {f:Nat→Ps} {fl:Int→Nat} {s s':Ps}
theorem rd_loc (hw:WF g b) {x:Int} (h0:0≤x) (hl:x<g.ev.length) (hk:(gt g.ev x.toNat).kind≠3):0≤(gt g.ev x.toNat).loc∧(gt g.ev x.toNat).loc<g.cells:=by
 by_cases e:x<g.cells
 ·have:=hw.init x.toNat (by omega)
  rw[this]
  show(0:Int)≤(x.toNat:Int)∧(x.toNat:Int)<g.cells
  omega
 ·have h:=(hw.ev x.toNat (by omega) (by omega)).2.2.2
  omega
theorem Hist.po (hw:WF g b) (hH:Hist g n m f fl) (hth:thrN g.ev g.ev.length=n) {x y:Int} (hb:Bef g x y) (hc:¬((gt g.ev x.toNat).kind=2∧¬Sec g x)∨(gt g.ev y.toNat).kind=2∨waits g.ev g.rmw y):tmV g fl x<tmV g fl y:=by
 obtain⟨b1,b2,b3,b4,b5⟩:=hb
 obtain⟨k,t,h1,h2,h3,h4,h5⟩:=hH.step hth (x:=y) (by omega) (by omega) (by omega)
 obtain⟨k',t',g1,g2,g3,g4,g5⟩:=hH.step hth (x:=x) b1 (by omega) b4
 obtain rfl:t'=t:=by omega
 have hs:=hH.st k (by omega)
 have hsrt:=hs.srt t' h3
 have hin:=(hH.fl1 h1 y).1 h2
 by_cases hxk:fl x≤k
 ·exact tm_lt (by omega)
 have hix:InL (f k) n x:=(hH.fl x k (by omega)).2 (by omega)
 have hxl:=inl_th hs hix g4
 
 have uniq:∀u:Nat,∀z,u<n→z∈gt (f k).Q u++gt (f k).T u→z=y→u=t':=fun u z hu hz e=>by
  subst e
  have:=(thread_mem.1 (hs.lth hu hz)).2.2
  omega
 have hread:∀z:Int,(gt g.ev z.toNat).kind=1→¬Sec g z:=fun z hz hsz=>by have:=sec_kind hw hsz;omega
 cases hH.tr k h1 with
 | stay hT hQ hO hF =>
  exfalso
  apply hin.2
  unfold InL
  rw[hT,hQ]
  exact hin.1
 | flush u w r hu hq hT hQ hO hF =>
  have e:=hH.flD h1 (gone_flush hs hu hq hT hQ) h2
  subst e
  obtain rfl:u=t':=uniq u y hu (by rw[hq];simp) rfl
  rw[hq,List.cons_append]at hxl hsrt
  rw[List.pairwise_cons]at hsrt
  rcases List.mem_cons.1 hxl with e | e
  ·omega
  ·have:=hsrt.1 x e;omega
 | pair u z w r hu hz hq hsec h0' hT hQ hO hF =>
  have hG:=gone_pair hs hu hz hq hT hQ
  have hsw:=sec_wf hw (x:=z) (by rw[hsec];exact h0')
  obtain rfl:u=t':=by
   rcases hH.flD h1 hG h2 with e | e
   ·exact uniq u z hu (by rw[hz];simp) e.symm
   ·exact uniq u w hu (by rw[hz];simp) e.symm
  rw[hq,hz,List.nil_append]at hxl hsrt
  rw[List.pairwise_cons,List.pairwise_cons]at hsrt
  rcases hH.flD h1 hG h2 with e | e
  ·subst e
   rcases List.mem_cons.1 hxl with e | e
   ·omega
   ·have:=hsrt.1 x e;omega
  ·subst e
   rcases List.mem_cons.1 hxl with e | e
   ·subst e
    have hfx:=hH.flD' h1 hG (.inl rfl) hix
    rw[tm_ns (hread x hsw.1.2.2),tm_s ⟨h0',x,hsec⟩]
    omega
   ·rcases List.mem_cons.1 e with e | e
    ·omega
    ·have:=hsrt.2.1 x e;omega
 | read u z r hu hz hsec hk' hT hQ hO hF =>
  have hG:=gone_one hs hu hz hT hQ
  have e:=hH.flD h1 hG h2
  subst e
  obtain rfl:u=t':=uniq u y hu (by rw[hz];simp) rfl
  rcases hc with hc | hc | hc
  ·
   exfalso
   rcases List.mem_append.1 hxl with hq | hq
   ·exact hc ⟨(hs.gp.q u hu x hq).2.2.1,hs.ns u hu x hq⟩
   ·rw[hz,List.pairwise_append,List.pairwise_cons]at hsrt
    rw[hz]at hq
    rcases List.mem_cons.1 hq with e | e
    ·omega
    ·have:=hsrt.2.1.1 x e;omega
  ·omega
  ·rcases hc with hc | hc
   ·exact absurd hc hsec
   ·omega
 | write u z r hu hz hsec hk' hT hQ hO hF=>exact(hH.flD h1 (gone_write hs hu hz hT hQ) h2).elim
 | fence u z r hu hz hsec hk' hq' hT hQ hO hF =>
  have hG:=gone_one hs hu hz hT hQ
  have e:=hH.flD h1 hG h2
  subst e
  obtain rfl:u=t':=uniq u y hu (by rw[hz];simp) rfl
  rw[hz,List.pairwise_append,List.pairwise_cons]at hsrt
  have hxq:x∈gt (f k).Q u:=by
   rcases List.mem_append.1 hxl with hq | hq
   ·exact hq
   ·rw[hz]at hq
    exfalso
    rcases List.mem_cons.1 hq with e | e
    ·omega
    ·have:=hsrt.2.1.1 x e;omega
  rcases hc with hc | hc | hc
  ·exact absurd ⟨(hs.gp.q u hu x hxq).2.2.1,hs.ns u hu x hxq⟩ hc
  ·omega
  ·rcases hc with hc | hc
   ·exact absurd hc hsec
   ·rw[hq' hc.2]at hxq;cases hxq
theorem Hist.cert (hw : WF g b) (hH : Hist g n m f fl) (hth : thrN g.ev g.ev.length = n) : Cert g (f m).O (f m).F (tmV g fl) := by
  have hsm := hH.st m (Nat.le_refl _)
  have hol := fun k hk => (hH.st k hk).gp.ol
  have hread : ∀ z : Int, (gt g.ev z.toNat).kind = 1 → ¬ Sec g z := fun z hz hsz => by have := sec_kind hw hsz; omega
  have hmem : ∀ k, k ≤ m → ∀ c, c < (f k).O.length → ∀ w, w ∈ gt (f k).O c ↔ WrE g w ∧ (gt g.ev w.toNat).loc = c ∧ fl w ≤ k := fun k hk c hc w => by
    rw [(hH.st k hk).o c hc w, hH.fl w k hk, Nat.not_lt]
  -- what is seen
  have see : ∀ r : Int, 0 ≤ r → r < g.ev.length → (gt g.ev r.toNat).kind = 1 → ∃ k t, k < m ∧ fl r = k + 1 ∧ t < n ∧ (gt g.ev r.toNat).thread = (t : Nat) ∧ (∃ l, gt (f k).T t = r :: l) ∧ (∀ y, fl y = k + 1 → y = r ∨ (0 ≤ secV r g.rmw ∧ y = secV r g.rmw)) ∧ (0 ≤ secV r g.rmw → gt (f k).Q t = [] ∧ fl (secV r g.rmw) = k + 1) ∧
      WrE g (gt (f m).F r.toNat) ∧ (gt g.ev (gt (f m).F r.toNat).toNat).loc = (gt g.ev r.toNat).loc ∧
      ((gt (f m).F r.toNat ∈ gt (f k).Q t ∧ ∀ y ∈ gt (f k).Q t, (gt g.ev y.toNat).loc = (gt g.ev r.toNat).loc → y ≤ gt (f m).F r.toNat) ∨
       ((∀ y ∈ gt (f k).Q t, (gt g.ev y.toNat).loc ≠ (gt g.ev r.toNat).loc) ∧ fl (gt (f m).F r.toNat) ≤ k ∧ ∀ y, WrE g y → (gt g.ev y.toNat).loc = (gt g.ev r.toNat).loc → fl y ≤ k → tmV g fl y ≤ tmV g fl (gt (f m).F r.toNat))) := by
    intro r h0 hl hk
    obtain ⟨k, t, l, h1, h2, h3, h4, h5, h6, h7, h8⟩ := hH.read hw hth h0 hl hk
    have hlc := rd_loc hw h0 hl (by omega)
    have hO := hol k (by omega)
    have hc : (gt g.ev r.toNat).loc.toNat < (f k).O.length := by omega
    have hcc : (((gt g.ev r.toNat).loc.toNat : Nat) : Int) = (gt g.ev r.toNat).loc := Int.toNat_of_nonneg hlc.1
    have hv := hH.sees hw (k := k) (t := t) (c := (gt g.ev r.toNat).loc.toNat) (by omega) h3 hc
    rw [← h6, hcc] at hv
    have hs := hH.st k (by omega)
    refine ⟨k, t, h1, h2, h3, h4, ⟨l, h5⟩, h7, h8, ?_⟩
    rcases hv with ⟨v1, v2, v3⟩ | ⟨v1, v2, v3⟩
    · exact ⟨hs.gp.q t h3 _ v1, v2, .inl ⟨v1, v3⟩⟩
    · have v4 := (hmem k (by omega) _ hc _).1 v2
      rw [hcc] at v4
      exact ⟨v4.1, v4.2.1, .inr ⟨v1, v4.2.2, fun y y1 y2 y3 => v3 y ((hmem k (by omega) _ hc y).2 ⟨y1, by rw [hcc]; exact y2, y3⟩)⟩⟩
  -- a write in the buffer comes later
  have later : ∀ k t w, k ≤ m → t < n → w ∈ gt (f k).Q t → k < fl w := fun k t w hk ht hwq => (hH.fl w k hk).1 ⟨t, ht, List.mem_append_left _ hwq⟩
  have qth : ∀ k t w, k ≤ m → t < n → w ∈ gt (f k).Q t → 0 ≤ w ∧ w < g.ev.length ∧ (gt g.ev w.toNat).thread = (t : Nat) := fun k t w hk ht hwq => thread_mem.1 ((hH.st k hk).th t ht w hwq)
  have qlt : ∀ k t w x l, k ≤ m → t < n → w ∈ gt (f k).Q t → gt (f k).T t = x :: l → w < x := fun k t w x l hk ht hwq hx => by
    have := (hH.st k hk).srt t ht
    rw [hx, List.pairwise_append] at this
    exact this.2.2 w hwq x List.mem_cons_self
  have pr : ∀ r, 0 ≤ secV r g.rmw → tmV g fl (secV r g.rmw) = tmV g fl r + 1 := by
    intro r hr
    have hsw := sec_wf hw hr
    obtain ⟨k, t, h1, h2, h3, h4, h5, h6, h7, -⟩ := see r hsw.1.1 hsw.1.2.1 hsw.1.2.2
    rw [tm_s ⟨hr, r, rfl⟩, tm_ns (hread r hsw.1.2.2), (h7 hr).2]
    omega
  have po := fun x y => hH.po hw hth (x := x) (y := y)
  refine ⟨hsm.gp.ol, hH.rows hw m (Nat.le_refl _), fun c hc w => ?_, fun r h0 hl hk => ?_, fun r h0 hl hk => ?_, fun r h0 hl hk w hww hwl hlt => ?_, po, fun w r hb hkw hkr hloc => ?_, fun r r' hb hk hk' hloc => ?_, pr⟩
  · rw [hmem m (Nat.le_refl _) c hc w]
    exact ⟨fun h => ⟨h.1, h.2.1⟩, fun h => ⟨h.1, h.2, hH.le w⟩⟩
  · obtain ⟨k, t, h1, h2, h3, h4, h5, h6, h7, h8, h9, -⟩ := see r h0 hl hk
    exact ⟨h8, h9⟩
  · obtain ⟨k, t, h1, h2, h3, h4, ⟨l, h5⟩, h6, h7, h8, h9, h10⟩ := see r h0 hl hk
    rcases h10 with ⟨v1, v2⟩ | ⟨v1, v2, v3⟩
    · have h11 := qth k t _ (by omega) h3 v1
      have h12 := qlt k t _ r l (by omega) h3 v1 h5
      exact .inr ⟨h11.1, h12, hl, by omega, by omega⟩
    · exact .inl (tm_lt (by omega))
  · obtain ⟨k, t, h1, h2, h3, h4, ⟨l, h5⟩, h6, h7, h8, h9, h10⟩ := see r h0 hl hk
    rcases h10 with ⟨v1, v2⟩ | ⟨v1, v2, v3⟩
    · have h11 := later k t _ (by omega) h3 v1
      have h12 : fl (gt (f m).F r.toNat) ≠ k + 1 := fun e => by
        rcases h6 _ e with e | ⟨e1, e2⟩
        · rw [e] at h8; have := h8.2.2.1; omega
        · rw [(h7 e1).1] at v1; cases v1
      exact Nat.lt_trans (tm_lt (by omega)) hlt
    · have h11 : k < fl w := Nat.lt_of_not_le fun h => by have := v3 w hww hwl h; omega
      by_cases e : fl w = k + 1
      · rcases h6 w e with e | ⟨e1, e2⟩
        · rw [e] at hww; have := hww.2.2.1; omega
        · rw [e2, pr r e1]; exact Nat.lt_succ_self _
      · exact tm_lt (by omega)
  · obtain ⟨k, t, h1, h2, h3, h4, ⟨l, h5⟩, h6, h7, h8, h9, h10⟩ := see r (by have := hb.1; have := hb.2.1; omega) hb.2.2.1 hkr
    have hs := hH.st k (by omega)
    have hww : WrE g w := by
      have := rd_loc hw hb.1 (by have := hb.2.1; have := hb.2.2.1; omega) (by omega)
      exact ⟨hb.1, by have := hb.2.1; have := hb.2.2.1; omega, hkw, this.1, this.2⟩
    by_cases hfw : fl w ≤ k
    · rcases h10 with ⟨v1, v2⟩ | ⟨v1, v2, v3⟩
      · have := later k t _ (by omega) h3 v1
        exact Nat.le_of_lt (tm_lt (by omega))
      · exact v3 w hww hloc hfw
    · have hin : w ∈ gt (f k).Q t ++ gt (f k).T t := inl_th hs ((hH.fl w k (by omega)).2 (by omega)) (by have := hb.2.2.2.2; omega)
      rcases List.mem_append.1 hin with hq | hq
      · rcases h10 with ⟨v1, v2⟩ | ⟨v1, v2, v3⟩
        · have h11 := v2 w hq hloc
          rcases Int.lt_or_eq_of_le h11 with h12 | h12
          · refine Nat.le_of_lt (po _ _ ⟨hb.1, h12, h8.2.1, hb.2.2.2.1, ?_⟩ (.inr (.inl h8.2.2.1)))
            have := (qth k t _ (by omega) h3 v1).2.2
            have := (qth k t _ (by omega) h3 hq).2.2
            omega
          · rw [← h12]; exact Nat.le_refl _
        · exact absurd hloc (v1 w hq)
      · exfalso
        have := (List.pairwise_append.1 (hs.srt t h3)).2.1
        rw [h5] at hq this
        rw [List.pairwise_cons] at this
        have h13 := hb.2.1
        rcases List.mem_cons.1 hq with e | e
        · omega
        · have := this.1 w e; omega
  · have hb' := hb
    obtain ⟨b1, b2, b3, b4, b5⟩ := hb'
    obtain ⟨k, t, h1, h2, h3, h4, ⟨l, h5⟩, h6, h7, h8, h9, h10⟩ := see r b1 (by omega) hk
    obtain ⟨k', t', g1, g2, g3, g4, ⟨l', g5⟩, g6, g7, g8, g9, g10⟩ := see r' (by omega) b3 hk'
    obtain rfl : t' = t := by omega
    rcases g10 with ⟨v1, v2⟩ | ⟨v1, v2, v3⟩
    · have h11 := later k' t' _ (by omega) h3 v1
      by_cases hf : fl (gt (f m).F r.toNat) ≤ k'
      · exact Nat.le_of_lt (tm_lt (by omega))
      · rcases h10 with ⟨u1, u2⟩ | ⟨u1, u2, u3⟩
        · have hkk : fl r < fl r' := by
            have h12 := po r r' hb (.inl (by omega))
            rw [tm_ns (hread r hk), tm_ns (hread r' hk')] at h12
            omega
          have hth := (qth k t' _ (by omega) h3 u1).2.2
          have hin := inl_th (hH.st k' (by omega)) ((hH.fl (gt (f m).F r.toNat) k' (by omega)).2 (by omega)) hth
          have hq : gt (f m).F r.toNat ∈ gt (f k').Q t' := by
            rcases List.mem_append.1 hin with hq | hq
            · exact hq
            · exfalso
              have := (List.pairwise_append.1 ((hH.st k' (by omega)).srt t' h3)).2.1
              rw [g5] at hq this
              rw [List.pairwise_cons] at this
              have h13 := qlt k t' _ r l (by omega) h3 u1 h5
              rcases List.mem_cons.1 hq with e | e
              · omega
              · have := this.1 _ e; omega
          have h14 := v2 _ hq (by rw [h9, hloc])
          rcases Int.lt_or_eq_of_le h14 with h15 | h15
          · refine Nat.le_of_lt (po _ _ ⟨h8.1, h15, g8.2.1, by omega, ?_⟩ (.inr (.inl g8.2.2.1)))
            have := (qth k' t' _ (by omega) h3 v1).2.2
            omega
          · rw [h15]; exact Nat.le_refl _
        · have h12 := po r r' hb (.inl (by omega))
          rw [tm_ns (hread r hk), tm_ns (hread r' hk')] at h12
          omega
    · refine v3 _ h8 (by rw [h9, hloc]) ?_
      have h12 := po r r' hb (.inl (by omega))
      rw [tm_ns (hread r hk), tm_ns (hread r' hk')] at h12
      rcases h10 with ⟨u1, u2⟩ | ⟨u1, u2, u3⟩
      · refine Nat.le_of_not_lt fun hf => ?_
        have hth := (qth k t' _ (by omega) h3 u1).2.2
        have hin := inl_th (hH.st k' (by omega)) ((hH.fl (gt (f m).F r.toNat) k' (by omega)).2 (by omega)) hth
        rcases List.mem_append.1 hin with hq | hq
        · exact v1 _ hq (by rw [h9, hloc])
        · have := (List.pairwise_append.1 ((hH.st k' (by omega)).srt t' h3)).2.1
          rw [g5] at hq this
          rw [List.pairwise_cons] at this
          have h13 := qlt k t' _ r l (by omega) h3 u1 h5
          rcases List.mem_cons.1 hq with e | e
          · omega
          · have := this.1 _ e; omega
      · omega
end
end Go.Proofs.YtkcdehffcddciaaGreatDoor.Vm
