/- PLAIN: what a play records is well-formed, and TSO allows it. -/
import Derived.Test.YtkcdehffcddciaaGreatDoorQ31
import Derived.Test.YtkcdehffcddciaaGreatDoorQ28
import Derived.Test.YtkcdehffcddciaaGreatDoorQ29
namespace Go.Proofs.YtkcdehffcddciaaGreatDoor.Vm
open Go Go.RowKit
/-! ### Graphs that part only in what reads see -/
structure Sim (g h:Gr):Prop where
 cells:h.cells=g.cells
 len:h.ev.length=g.ev.length
 th:∀i,i<g.ev.length→(gt h.ev i).thread=(gt g.ev i).thread
 kd:∀i,i<g.ev.length→(gt h.ev i).kind=(gt g.ev i).kind
 lo:∀i,i<g.ev.length→(gt h.ev i).loc=(gt g.ev i).loc
 mo:∀i,i<g.ev.length→(gt h.ev i).mode=(gt g.ev i).mode
 vl:∀i,i<g.ev.length→(gt g.ev i).kind≠1→(gt h.ev i).val=(gt g.ev i).val
 rmw:h.rmw=g.rmw
 addr:h.addr=g.addr
 data:h.data=g.data
 ctrl:h.ctrl=g.ctrl
section
variable {g h:Gr} {b:Bool} {x y:Int}
theorem Sim.symm (s:Sim g h):Sim h g:=by
 have hl:=s.len
 exact⟨s.cells.symm,s.len.symm,fun i hi=>(s.th i (by omega)).symm,fun i hi=>(s.kd i (by omega)).symm,fun i hi=>(s.lo i (by omega)).symm,fun i hi=>(s.mo i (by omega)).symm,fun i hi hk=>(s.vl i (by omega) (by rw[←s.kd i (by omega)];exact hk)).symm,s.rmw.symm,s.addr.symm,s.data.symm,s.ctrl.symm⟩
theorem Sim.isE (s:Sim g h) {k:Int} (he:IsE g x k):IsE h x k:=by
 obtain⟨h1,h2,h3⟩:=he
 have hl:=s.len
 exact⟨h1,by omega,by rw[s.kd _ (by omega)];exact h3⟩
theorem Sim.bef (s:Sim g h) (hb:Bef g x y):Bef h x y:=by
 obtain⟨h1,h2,h3,h4,h5⟩:=hb
 have hl:=s.len
 exact⟨h1,h2,by omega,by rw[s.th _ (by omega)];exact h4,by rw[s.th _ (by omega),s.th _ (by omega)];exact h5⟩
theorem Sim.nxt (s:Sim g h) (hb:Nxt g x y):Nxt h x y:=by
 have hb':=hb
 obtain⟨⟨h1,h2,h3,h4,h5⟩,h6⟩:=hb'
 refine⟨s.bef hb.1,fun i h7 h8=>?_⟩
 rw[s.th _ (by omega),s.th _ (by omega)]
 exact h6 i h7 h8
theorem Sim.dep (s:Sim g h) {l:List (Int × Int)} {w:Int} (hd:DepOk g l w):DepOk h l w:=fun i hi=>by
 obtain⟨h1,h2,h3,h4,h5⟩:=hd i hi
 have h6:=h3.2.2.1
 have h7:=h3.1
 have h8:=h3.2.1
 exact⟨h1,s.isE h2,s.bef h3,by rw[s.kd _ (by omega)];exact h4,by rw[s.kd _ (by omega)];exact h5⟩
theorem Sim.wf (s:Sim g h) (hw:WF g b) (hr:RfOk h) (hc:CoOk h):WF h b:=by
 obtain⟨z1,z2,z3,z4⟩:=hw.size
 have hl:=s.len
 have hce:=s.cells
 refine⟨⟨by omega,by omega,by omega,by omega⟩,fun c hc=>?_,fun i h1 h2=>?_,hr,hc,fun i hi=>?_,?_,?_,?_,fun hb=>?_⟩
 ·have h1:=hw.init c (by omega)
  have hk:(gt g.ev c).kind=2:=by rw[h1];rfl
  have e1:=s.th c (by omega)
  have e2:=s.kd c (by omega)
  have e3:=s.lo c (by omega)
  have e4:=s.mo c (by omega)
  have e5:=s.vl c (by omega) (by omega)
  rw[←h1]
  cases hx:gt h.ev c
  cases hy:gt g.ev c
  rw[hx,hy]at e1 e2 e3 e4 e5
  simp only at e1 e2 e3 e4 e5
  rw[e1,e2,e3,e4,e5]
 ·obtain⟨h3,h4,h5,h6⟩:=hw.ev i (by omega) (by omega)
  unfold EvOk
  rw[s.th i (by omega),s.kd i (by omega),s.lo i (by omega),s.mo i (by omega),hce]
  refine⟨h3,h4,h5,?_⟩
  rcases h6 with⟨h6,h7,h8⟩ | h6
  ·exact .inl ⟨h6,h7,by rw[s.vl i (by omega) (by omega)];exact h8⟩
  ·exact .inr h6
 ·rw[s.rmw]at hi
  have h:=hw.rmw i hi
  unfold RmwAt at h ⊢
  rw[s.rmw]
  obtain⟨h1,h2,h3,h4,h5⟩:=h
  refine⟨h1,s.isE h2,s.isE h3,s.nxt h4,?_⟩
  have g1:=h2.1
  have g2:=h2.2.1
  have g3:=h3.1
  have g4:=h3.2.1
  rw[s.lo _ (by omega),s.lo _ (by omega)]
  exact h5
 ·rw[s.addr];exact s.dep hw.addr
 ·rw[s.data];exact s.dep hw.data
 ·rw[s.ctrl];exact s.dep hw.ctrl
 ·rw[s.addr,s.data,s.ctrl];exact hw.none hb
end
theorem filt_at {p:Nat→Bool}:∀{N r:Nat},r<N→p r=true→((List.range r).filter p).length<((List.range N).filter p).length∧gt ((List.range N).filter p) ((List.range r).filter p).length=r
 | 0,r,h,_=>absurd h (Nat.not_lt_zero _)
 | N+1,r,h,hp=>by
  rw[List.range_succ,List.filter_append,List.length_append]
  by_cases e:r=N
  ·subst e
   have:[r].filter p = [r]:=by rw[List.filter_cons,hp];rfl
   rw[this]
   exact⟨by simp,gt_new⟩
  ·obtain⟨h1,h2⟩:=filt_at (N:=N) (r:=r) (by omega) hp
   exact⟨by omega,by rw[gt_app h1];exact h2⟩
theorem gt_map {α β:Type} [Inhabited α] [Inhabited β] {f:α→β} {l:List α} {i:Nat} (h:i<l.length):gt (l.map f) i=f (gt l i):=by
 rw[gt_lt (by rw[List.length_map];exact h),gt_lt h,List.getElem_map]
theorem filt_cong {p q:Nat→Bool} {n:Nat} (h:∀i,i<n→p i=q i):(List.range n).filter p=(List.range n).filter q:=List.filter_congr fun i hi=>h i (List.mem_range.1 hi)
section
variable {g:Gr} {b:Bool} {O:List (List Int)} {F:List Int} {tm:Int→Nat}
theorem play_ev {i:Nat} (hi:i<g.ev.length):gt (playG g O F).ev i=valE g F i:=gt_mapR hi
theorem play_len:(playG g O F).ev.length=g.ev.length:=by
 show((List.range g.ev.length).map _).length=_
 rw[List.length_map,List.length_range]
theorem play_sim:Sim g (playG g O F):=by
 refine⟨rfl,play_len,fun i hi=>?_,fun i hi=>?_,fun i hi=>?_,fun i hi=>?_,fun i hi hk=>?_,rfl,rfl,rfl,rfl⟩
 all_goals
  rw[play_ev hi]
  unfold valE
  split
 any_goals rfl
 rename_i h
 exact absurd h hk
theorem play_rdc {r:Nat} (hr:r≤g.ev.length):RdC (playG g O F) r=RdC g r:=by
 unfold RdC
 rw[filt_cong fun i hi=>?_]
 rw[play_sim.kd i (by omega)]
theorem play_rf {r:Nat} (hr:r<g.ev.length) (hk:(gt g.ev r).kind=1):RdC g r<(playG g O F).rf.length∧gt (playG g O F).rf (RdC g r)=(gt F r,(r:Int)):=by
 obtain⟨h1,h2⟩:=filt_at (p:=fun r=>decide ((gt g.ev r).kind=1)) hr (by simp[hk])
 have h1:RdC g r<((List.range g.ev.length).filter fun r=>decide ((gt g.ev r).kind=1)).length:=h1
 have h2:gt ((List.range g.ev.length).filter fun r=>decide ((gt g.ev r).kind=1)) (RdC g r)=r:=h2
 refine⟨?_,?_⟩
 ·show _<(((List.range g.ev.length).filter _).map _).length
  rw[List.length_map]
  exact h1
 ·show gt (((List.range g.ev.length).filter _).map _) _=_
  rw[gt_map h1,h2]
theorem play_RfOk (hc:Cert g O F tm):RfOk (playG g O F):=by
 refine⟨fun r hr hk=>?_,?_⟩
 ·rw[play_len]at hr
  rw[play_sim.kd r hr]at hk
  obtain⟨h1,h2⟩:=play_rf (O:=O) (F:=F) hr hk
  obtain⟨⟨h3,h4,h5,h6,h7⟩,h8⟩:=hc.rf r (Int.natCast_nonneg _) (by omega) (by rw[Int.toNat_natCast];exact hk)
  rw[Int.toNat_natCast]at h3 h4 h5 h6 h7 h8
  unfold RfAt
  rw[play_rdc (by omega),h2]
  have h9:(gt F r).toNat<g.ev.length:=by omega
  refine⟨h1,rfl,⟨h3,by rw[play_len];exact h4,by rw[play_sim.kd _ h9];exact h5⟩,?_,?_⟩
  ·show(gt (playG g O F).ev (gt F r).toNat).loc=_
   rw[play_sim.lo _ h9,play_sim.lo _ hr];exact h8
  ·show(gt (playG g O F).ev (gt F r).toNat).val=_
   rw[play_sim.vl _ h9 (by omega),play_ev hr]
   unfold valE
   rw[if_pos hk]
 ·rw[play_len,play_rdc (Nat.le_refl _)]
  show(((List.range g.ev.length).filter _).map _).length≤_
  rw[List.length_map]
  exact Nat.le_refl _
theorem pw_nodup {tm:Int→Nat} {l:List Int} (h:l.Pairwise fun x y=>tm x<tm y):l.Nodup:=h.imp fun hxy e=>by
 rw[e]at hxy
 exact Nat.lt_irrefl _ hxy
theorem play_CoOk (hc:Cert g O F tm) (hhd:∀c,c<O.length→0<(gt O c).length∧gt (gt O c) 0=c):CoOk (playG g O F):=by
 refine⟨fun c h1 h2=>?_,hc.ol⟩
 have h2:c<O.length:=h2
 have hn:=pw_nodup (hc.co c h2)
 refine⟨(hhd c h2).1,(hhd c h2).2,?_,fun i hi=>?_⟩
 ·show(gt O c).length=WrC (playG g O F) c (playG g O F).ev.length
  unfold WrC
  rw[play_len,←List.length_map (f:=Int.ofNat)]
  refine List.Perm.length_eq ((List.perm_ext_iff_of_nodup hn ?_).2 fun w=>?_)
  ·unfold List.Nodup
   rw[List.pairwise_map]
   refine(List.Pairwise.filter _ List.pairwise_lt_range).imp fun h e=>?_
   have e:((_:Nat):Int)=(_:Nat):=e
   omega
  ·rw[hc.mem c h2 w,List.mem_map]
   constructor
   ·rintro⟨h3,h4⟩
    have h5:w.toNat<g.ev.length:=by have:=h3.1;have:=h3.2.1;omega
    refine⟨w.toNat,?_,Int.toNat_of_nonneg h3.1⟩
    rw[List.mem_filter,List.mem_range]
    refine⟨h5,?_⟩
    rw[play_sim.kd _ h5,play_sim.lo _ h5]
    simp[h3.2.2.1,h4]
   ·rintro⟨a,h3,rfl⟩
    rw[List.mem_filter,List.mem_range]at h3
    obtain⟨h4,h5⟩:=h3
    rw[play_sim.kd _ h4,play_sim.lo _ h4]at h5
    have h5:(gt g.ev a).kind=2∧(gt g.ev a).loc=c:=by simpa using h5
    have h1:(c:Int)<g.cells:=h1
    exact⟨⟨Int.natCast_nonneg _,by show(a:Int)<_;omega,h5.1,by show 0≤(gt g.ev a).loc;omega,by show(gt g.ev a).loc<_;omega⟩,h5.2⟩
 ·have hi:i<(gt O c).length:=hi
  obtain⟨h3,h4⟩:=(hc.mem c h2 _).1 (gt_mem hi)
  have h5:(gt (gt O c) i).toNat<g.ev.length:=by have:=h3.1;have:=h3.2.1;omega
  refine⟨⟨h3.1,by rw[play_len];exact h3.2.1,?_⟩,?_,fun j hj e=>?_⟩
  ·show(gt (playG g O F).ev (gt (gt O c) i).toNat).kind=2
   rw[play_sim.kd _ h5];exact h3.2.2.1
  ·show(gt (playG g O F).ev (gt (gt O c) i).toNat).loc=c
   rw[play_sim.lo _ h5];exact h4
  ·have e:gt (gt O c) j=gt (gt O c) i:=e
   have:=pw_gt (hc.co c h2) hj hi
   rw[e]at this
   exact Nat.lt_irrefl _ this
end
/-! ### Relations of a graph -/
def POr (g:Gr) (a b:Nat):Prop:=a<b∧b<g.ev.length∧0≤(gt g.ev a).thread∧(gt g.ev a).thread=(gt g.ev b).thread
def SAME (g:Gr) (a b:Nat):Prop:=0≤(gt g.ev a).loc∧(gt g.ev a).loc=(gt g.ev b).loc
def EXT (g:Gr) (a b:Nat):Prop:=(gt g.ev a).thread≠(gt g.ev b).thread
def RF (g:Gr) (a b:Nat):Prop:=∃i,i<g.rf.length∧gt g.rf i=((a:Int),(b:Int))
def CO (g:Gr) (a b:Nat):Prop:=∃c i j,c<g.co.length∧i<j∧j<(gt g.co c).length∧gt (gt g.co c) i=(a:Int)∧gt (gt g.co c) j=(b:Int)
def FR (g:Gr) (a b:Nat):Prop:=∃w,RF g w a∧CO g w b
def Full (g:Gr) (a:Nat):Prop:=(gt g.ev a).kind=3∧((gt g.ev a).mode=5∨(gt g.ev a).mode=15)
def Tied (g:Gr) (a:Nat):Prop:=∃i,i<g.rmw.length∧((gt g.rmw i).1=a∨(gt g.rmw i).2=a)
structure TsoR (g:Gr):Prop where
 cell:∃rk:Nat→Nat,(∀a b,POr g a b→SAME g a b→rk a<rk b)∧(∀a b,RF g a b→rk a<rk b)∧(∀a b,CO g a b→rk a<rk b)∧∀a b,FR g a b→rk a<rk b
 torn:∀i,i<g.rmw.length→∀a w c:Nat,(gt g.rmw i).1=a→(gt g.rmw i).2=c→FR g a w→¬CO g w c
 glob:∃rk:Nat→Nat,(∀a b,POr g a b→(gt g.ev a).kind=1→rk a<rk b)∧(∀a b,POr g a b→(gt g.ev b).kind=2→rk a<rk b)∧(∀a b,POr g a b→Full g b→rk a<rk b)∧(∀a b,POr g a b→Full g a→rk a<rk b) ∧
  (∀a b,POr g a b→Tied g b→rk a<rk b)∧(∀a b,POr g a b→Tied g a→rk a<rk b)∧(∀a b,RF g a b→EXT g a b→rk a<rk b)∧(∀a b,CO g a b→rk a<rk b)∧∀a b,FR g a b→rk a<rk b
section
variable {g:Gr} {b:Bool} {O:List (List Int)} {F:List Int} {tm:Int→Nat}
theorem rmw_up (hw:WF g b):∀{i j:Nat},i<j→j<g.rmw.length→(gt g.rmw i).1<(gt g.rmw j).1
 | _,0,h,_=>absurd h (Nat.not_lt_zero _)
 | i,j+1,h,hj=>by
  have h1:=(hw.rmw (j+1) hj).1 (Nat.zero_lt_succ _)
  rw[Nat.add_sub_cancel]at h1
  by_cases e:i=j
  ·rw[e];exact h1
  ·have:=rmw_up hw (i:=i) (j:=j) (by omega) (by omega);omega
theorem sec_at (hw:WF g b) {i:Nat} (hi:i<g.rmw.length):secV (gt g.rmw i).1 g.rmw=(gt g.rmw i).2:=secV_at hi (fun _j hj=>Int.ne_of_lt (rmw_up hw hj hi)) rfl
theorem tied_r (hw:WF g b) {a:Nat} (h:Tied g a):(0≤secV a g.rmw∧(gt g.ev a).kind=1)∨(Sec g a∧(gt g.ev a).kind=2):=by
 obtain⟨i,hi,h1 | h1⟩:=h
 ·obtain⟨-,h2,h3,-,-⟩:=hw.rmw i hi
  rw[h1]at h2
  refine .inl ⟨?_,by have:=h2.2.2;rwa [Int.toNat_natCast]at this⟩
  rw[←h1,sec_at hw hi]
  exact h3.1
 ·obtain⟨-,h2,h3,-,-⟩:=hw.rmw i hi
  rw[h1]at h3
  exact .inr ⟨⟨h3.1,_,(sec_at hw hi).trans h1⟩,by have:=h3.2.2;rwa [Int.toNat_natCast]at this⟩
theorem po_bef {a c:Nat} (h:POr g a c):Bef g a c:=by
 obtain⟨h1,h2,h3,h4⟩:=h
 exact⟨Int.natCast_nonneg _,by omega,by omega,by rw[Int.toNat_natCast];exact h3,by rw[Int.toNat_natCast,Int.toNat_natCast];exact h4⟩
theorem play_POr {a c:Nat} (h:POr (playG g O F) a c):POr g a c:=by
 obtain⟨h1,h2,h3,h4⟩:=h
 rw[play_len]at h2
 rw[play_sim.th _ (by omega)]at h3 h4
 rw[play_sim.th _ h2]at h4
 exact⟨h1,h2,h3,h4⟩
theorem play_RF {a c:Nat} (h:RF (playG g O F) a c):c<g.ev.length∧(gt g.ev c).kind=1∧gt F c=a:=by
 obtain⟨i,hi,h⟩:=h
 have hm:((a:Int),(c:Int))∈(playG g O F).rf:=by rw[←h];exact gt_mem hi
 have hm:((a:Int),(c:Int))∈(((List.range g.ev.length).filter fun r=>decide ((gt g.ev r).kind=1)).map fun r=>(gt F r,(r:Int))):=hm
 obtain⟨r,h1,h2⟩:=List.mem_map.1 hm
 rw[List.mem_filter,List.mem_range]at h1
 injection h2 with h2 h3
 have h3:r=c:=by omega
 subst h3
 exact⟨h1.1,by simpa using h1.2,h2⟩
theorem play_CO (hc:Cert g O F tm) {a d:Nat} (h:CO (playG g O F) a d):tm a<tm d∧WrE g a∧WrE g d∧(gt g.ev a).loc=(gt g.ev d).loc:=by
 obtain⟨c,i,j,h1,h2,h3,h4,h5⟩:=h
 have h1:c<O.length:=h1
 have h3:j<(gt O c).length:=h3
 have h4:gt (gt O c) i=a:=h4
 have h5:gt (gt O c) j=d:=h5
 have h6:=pw_gt (hc.co c h1) h2 h3
 have h7:=(hc.mem c h1 _).1 (gt_mem (show i<(gt O c).length by omega))
 have h8:=(hc.mem c h1 _).1 (gt_mem h3)
 rw[h4]at h6 h7
 rw[h5]at h6 h8
 rw[Int.toNat_natCast]at h7 h8
 exact⟨h6,h7.1,h8.1,h7.2.trans h8.2.symm⟩
theorem play_FR (hc:Cert g O F tm) {a d:Nat} (h:FR (playG g O F) a d):tm a<tm d∧tm (gt F a)<tm d∧a<g.ev.length∧(gt g.ev a).kind=1∧WrE g d:=by
 obtain⟨w,h1,h2⟩:=h
 obtain⟨h3,h4,h5⟩:=play_RF h1
 obtain⟨h6,h7,h8,h9⟩:=play_CO hc h2
 have h10:=hc.rf a (Int.natCast_nonneg _) (by omega) (by rw[Int.toNat_natCast];exact h4)
 have h11:=hc.fr a (Int.natCast_nonneg _) (by omega) (by rw[Int.toNat_natCast];exact h4) d h8
 rw[Int.toNat_natCast,h5,Int.toNat_natCast]at h10
 rw[Int.toNat_natCast,Int.toNat_natCast,h5]at h11
 rw[h5]
 exact⟨h11 (by rw[←h9];exact h10.2) h6,h6,h3,h4,h8⟩
theorem play_tso (hw:WF g b) (hc:Cert g O F tm):TsoR (playG g O F):=by
 have kd:∀a c,POr g a c→(gt (playG g O F).ev a).kind=(gt g.ev a).kind∧(gt (playG g O F).ev c).kind=(gt g.ev c).kind:=fun a c h=>⟨play_sim.kd _ (by have:=h.1;have:=h.2.1;omega),play_sim.kd _ h.2.1⟩
 have full:∀a,a<g.ev.length→Full (playG g O F) a→Full g a:=fun a ha h=>by
  unfold Full at h ⊢
  rw[play_sim.kd _ ha,play_sim.mo _ ha]at h
  exact h
 have po:∀a c,POr g a c→(¬((gt g.ev a).kind=2∧¬Sec g a)∨(gt g.ev c).kind=2∨waits g.ev g.rmw c)→tm a<tm c:=fun a c h h2=>hc.po a c (po_bef h) (by rw[Int.toNat_natCast,Int.toNat_natCast];exact h2)
 have read:∀z:Int,(gt g.ev z.toNat).kind=1→¬Sec g z:=fun z hz hsz=>by have:=sec_kind hw hsz;omega
 refine⟨⟨fun x=>if (gt g.ev x).kind=1 then tm (gt F x)*(g.ev.length+1)+(x+1)else tm x*(g.ev.length+1),fun a c h hs=>?_,fun a c h=>?_,fun a c h=>?_,fun a c h=>?_⟩,fun i hi a w c h1 h2 h3 h4=>?_,⟨fun x=>tm x,fun a c h hk=>?_,fun a c h hk=>?_,fun a c h hf=>?_,fun a c h hf=>?_,fun a c h ht=>?_,fun a c h ht=>?_,fun a c h he=>?_,fun a c h=>(play_CO hc h).1,fun a c h=>(play_FR hc h).1⟩⟩
 ·
  have hp:=play_POr h
  have hlc:c<g.ev.length:=hp.2.1
  have hla:a<g.ev.length:=by have:=hp.1;omega
  have hb:=po_bef hp
  unfold SAME at hs
  rw[play_sim.lo _ hla,play_sim.lo _ hlc]at hs
  have ka:(gt g.ev a).kind=1∨(gt g.ev a).kind=2:=by
   have h5:=(ev_wf hw (x:=(a:Int)) (t:=(gt g.ev a).thread.toNat) (thread_mem.2 ⟨Int.natCast_nonneg _,by omega,by rw[Int.toNat_natCast];have:=hp.2.2.1;omega⟩)).2.2
   rw[Int.toNat_natCast]at h5
   have h6:¬(gt g.ev a).kind=3:=fun e=>by
    have h7:¬((a:Int)<g.cells):=fun h8=>by have:=hw.init a h8;rw[this]at e;exact absurd e (by show(2:Int)≠3;decide)
    have:=(hw.ev a (by omega) hla).2.2.2
    omega
   omega
  have kc:(gt g.ev c).kind=1∨(gt g.ev c).kind=2:=by
   have h5:=(ev_wf hw (x:=(c:Int)) (t:=(gt g.ev c).thread.toNat) (thread_mem.2 ⟨Int.natCast_nonneg _,by omega,by rw[Int.toNat_natCast];have:=hp.2.2.1;have:=hp.2.2.2;omega⟩)).2.2
   rw[Int.toNat_natCast]at h5
   have h6:¬(gt g.ev c).kind=3:=fun e=>by
    have h7:¬((c:Int)<g.cells):=fun h8=>by have:=hw.init c h8;rw[this]at e;exact absurd e (by show(2:Int)≠3;decide)
    have:=(hw.ev c (by omega) hlc).2.2.2
    omega
   omega
  have mul:∀p q:Nat,p≤q→p*(g.ev.length+1)≤q*(g.ev.length+1):=fun p q h=>Nat.mul_le_mul_right _ h
  have mul1:∀p q:Nat,p<q→p*(g.ev.length+1)+(g.ev.length+1)≤q*(g.ev.length+1):=fun p q h=>by
   have:=mul (p+1) q h
   rw[Nat.add_mul,Nat.one_mul]at this
   exact this
  simp only
  rcases ka with ka | ka <;> rcases kc with kc | kc
  ·rw[if_pos ka,if_pos kc]
   have:=mul _ _ (hc.rr a c hb (by rw[Int.toNat_natCast];exact ka) (by rw[Int.toNat_natCast];exact kc) (by rw[Int.toNat_natCast,Int.toNat_natCast];exact hs.2))
   rw[Int.toNat_natCast,Int.toNat_natCast]at this
   have:=hp.1
   omega
  ·rw[if_pos ka,if_neg (by omega)]
   have h1:=po a c hp (.inr (.inl kc))
   have h2:=hc.rfi a (Int.natCast_nonneg _) (by omega) (by rw[Int.toNat_natCast];exact ka)
   have h3:=hc.rf a (Int.natCast_nonneg _) (by omega) (by rw[Int.toNat_natCast];exact ka)
   rw[Int.toNat_natCast]at h2 h3
   have h4:tm (gt F a)<tm c:=by
    rcases h2 with h2 | h2
    ·omega
    ·refine hc.po _ _ ⟨h2.1,Int.lt_trans h2.2.1 hb.2.1,hb.2.2.1,h2.2.2.2.1,h2.2.2.2.2.trans hb.2.2.2.2⟩ (.inr (.inl ?_))
     rw[Int.toNat_natCast];exact kc
   have:=mul1 _ _ h4
   omega
  ·rw[if_neg (by omega),if_pos kc]
   have:=mul _ _ (hc.wr a c hb (by rw[Int.toNat_natCast];exact ka) (by rw[Int.toNat_natCast];exact kc) (by rw[Int.toNat_natCast,Int.toNat_natCast];exact hs.2))
   rw[Int.toNat_natCast]at this
   omega
  ·rw[if_neg (by omega),if_neg (by omega)]
   have:=mul1 _ _ (po a c hp (.inr (.inl kc)))
   omega
 ·obtain⟨h1,h2,h3⟩:=play_RF h
  have h4:=hc.rf c (Int.natCast_nonneg _) (by omega) (by rw[Int.toNat_natCast];exact h2)
  rw[Int.toNat_natCast,h3]at h4
  have h5:=h4.1.2.2.1
  rw[Int.toNat_natCast]at h5
  simp only
  rw[if_neg (by omega),if_pos h2,h3]
  omega
 ·obtain⟨h1,h2,h3,-⟩:=play_CO hc h
  have h4:=h2.2.2.1
  have h5:=h3.2.2.1
  rw[Int.toNat_natCast]at h4 h5
  simp only
  rw[if_neg (by omega),if_neg (by omega)]
  exact Nat.mul_lt_mul_of_pos_right h1 (Nat.zero_lt_succ _)
 ·obtain⟨h1,h2,h3,h4,h5⟩:=play_FR hc h
  have h6:=h5.2.2.1
  rw[Int.toNat_natCast]at h6
  simp only
  rw[if_pos h4,if_neg (by omega)]
  have:=Nat.mul_le_mul_right (g.ev.length+1) (show tm (gt F a)+1≤tm c from h2)
  rw[Nat.add_mul,Nat.one_mul]at this
  omega
 ·have hi:i<g.rmw.length:=hi
  have h1:(gt g.rmw i).1=a:=h1
  have h2:(gt g.rmw i).2=c:=h2
  have h5:=(play_FR hc h3).1
  have h6:=(play_CO hc h4).1
  have h7:=sec_at hw hi
  rw[h1,h2]at h7
  have h8:=hc.pr a (by rw[h7];exact Int.natCast_nonneg _)
  rw[h7]at h8
  omega
 ·have hp:=play_POr h
  rw[(kd a c hp).1]at hk
  exact po a c hp (.inl (by omega))
 ·have hp:=play_POr h
  rw[(kd a c hp).2]at hk
  exact po a c hp (.inr (.inl hk))
 ·have hp:=play_POr h
  have hf:=full c hp.2.1 hf
  refine po a c hp (.inr (.inr (.inr ?_)))
  rw[Int.toNat_natCast]
  exact hf
 ·have hp:=play_POr h
  have hf:=full a (by have:=hp.1;have:=hp.2.1;omega) hf
  have:=hf.1
  exact po a c hp (.inl (by omega))
 ·have hp:=play_POr h
  have ht:Tied g c:=ht
  rcases tied_r hw ht with⟨h1,h2⟩ | ⟨h1,h2⟩
  ·exact po a c hp (.inr (.inr (.inl h1)))
  ·exact po a c hp (.inr (.inl h2))
 ·have hp:=play_POr h
  have ht:Tied g a:=ht
  rcases tied_r hw ht with⟨h1,h2⟩ | ⟨h1,h2⟩
  ·exact po a c hp (.inl (by omega))
  ·exact po a c hp (.inl fun h=>h.2 h1)
 ·obtain⟨h1,h2,h3⟩:=play_RF h
  have h4:=hc.rf c (Int.natCast_nonneg _) (by omega) (by rw[Int.toNat_natCast];exact h2)
  have h5:=hc.rfi c (Int.natCast_nonneg _) (by omega) (by rw[Int.toNat_natCast];exact h2)
  rw[Int.toNat_natCast,h3]at h4 h5
  rcases h5 with h5 | h5
  ·exact h5
  ·exfalso
   have h6:=h5.2.2.2.2
   rw[Int.toNat_natCast,Int.toNat_natCast]at h6
   unfold EXT at he
   have h7:=h4.1.2.1
   rw[play_sim.th _ (by omega),play_sim.th _ h1]at he
   exact he h6
end
/-! ### In all -/
section
variable {g:Gr} {b:Bool} {n m:Nat} {f:Nat→Ps} {fl:Int→Nat}
theorem Hist.heads (hH:Hist g n m f fl):∀k,k≤m→∀c,c<(f k).O.length→gt (gt (f k).O c) 0=c
 | 0,_,c,hc=>by
  rw[hH.beg]at hc ⊢
  have hc:c<(begO g.cells.toNat).length:=hc
  have:(begO g.cells.toNat).length=g.cells.toNat:=by unfold begO;rw[List.length_map,List.length_range]
  show gt (gt (begO g.cells.toNat) c) 0=_
  unfold begO
  rw[gt_mapR (by omega)]
  rfl
 | k+1,hk,c,hc=>by
  have hs:=hH.st k (by omega)
  have ih:=hH.heads k (by omega)
  have key:∀(d:Nat) (w:Int),(f (k+1)).O=(f k).O.set d (gt (f k).O d++[w])→gt (gt (f (k+1)).O c) 0=c:=fun d w hO=>by
   rw[hO,List.length_set]at hc
   rw[hO]
   by_cases e:c=d
   ·subst e
    rw[gt_set hc,if_pos rfl,gt_app (hs.gp.o c hc).1]
    exact ih c hc
   ·rw[set_other e];exact ih c hc
  cases hH.tr k (by omega)with
  | stay hT hQ hO hF=>rw[hO]at hc ⊢;exact ih c hc
  | flush u w r hu hq hT hQ hO hF=>exact key _ w hO
  | pair u y w r hu hy hq hsec h0' hT hQ hO hF=>exact key _ w hO
  | read u y r hu hy hsec hk' hT hQ hO hF=>rw[hO]at hc ⊢;exact ih c hc
  | write u y r hu hy hsec hk' hT hQ hO hF=>rw[hO]at hc ⊢;exact ih c hc
  | fence u y r hu hy hsec hk' hq hT hQ hO hF=>rw[hO]at hc ⊢;exact ih c hc
end
theorem PlayR.allowed {g h:Gr} {ps:List Int} {code:Int} (hp:PlayR g ps h code) (hg:WF g false∨WF g true):code=0∧(WF h false↔WF g false)∧(WF h true↔WF g true)∧TsoR h:=by
 rcases hp with⟨h1,_⟩ | ⟨-,rfl,n,hth,s,hr,rfl⟩
 ·exact absurd hg h1
 obtain⟨b,hw⟩:∃b,WF g b:=by
  rcases hg with h | h
  ·exact⟨_,h⟩
  ·exact⟨_,h⟩
 have hn:n≤64:=by
  have:=thrN_le (l:=g.ev) (n:=g.ev.length) fun i hi=>by
   have hsz:=wf_size hg
   exact hsz.2.2.2 i hi
  omega
 obtain⟨m,f,fl,hH,rfl⟩:=hist hw hn hth hr
 have hc:=hH.cert hw hth
 have hrf:=play_RfOk hc
 have hco:=play_CoOk hc fun c hcl=>⟨((hH.st m (Nat.le_refl _)).gp.o c hcl).1,hH.heads m (Nat.le_refl _) c hcl⟩
 exact⟨rfl,⟨fun h=>play_sim.symm.wf h hw.rf hw.co,fun h=>play_sim.wf h hrf hco⟩,⟨fun h=>play_sim.symm.wf h hw.rf hw.co,fun h=>play_sim.wf h hrf hco⟩,play_tso hw hc⟩
structure Rc where
 lo:Nat
 hi:Nat
 b:Nat
 vr:V
 vs:List V
 R:List Nat
def Fm (h:H) (n:Nat):Nat→List Rc→Nat→Prop
 | t,[],T=>t≤T
 | t,r :: l,T=>t≤r.lo∧Rl h r.lo r.hi r.b r.vr r.vs n r.R∧Fm h n r.hi l T
section
variable {h h':H} {n T:Nat}
theorem Fm.le:∀{t:Nat} {l:List Rc},Fm h n t l T→t≤T
 | _,[],hf=>hf
 | _,_r :: _l,⟨h1,h2,h3⟩=>Nat.le_trans h1 (Nat.le_trans (Nat.le_of_lt (Nat.lt_of_le_of_lt h2.ob.lo h2.up.1)) (Fm.le h3))
theorem Fm.pr {P:Nat→Prop} (p:Pr P h h'):∀{t:Nat} {l:List Rc},(∀k,P k→k<t∨T≤k)→Fm h n t l T→Fm h' n t l T
 | _,[],_,hf=>hf
 | t,r :: l,hP,⟨h1,h2,h3⟩=>⟨h1,h2.pr p fun k k1 k2 hk=>by have:=hP k hk;have:=Fm.le h3;omega,Fm.pr p (fun k hk=>by
   have:=hP k hk
   have:=h2.ob.lo
   have:=h2.up.1
   omega) h3⟩
theorem Fm.kp (k:Kp h h') {t:Nat} {l:List Rc} (hf:Fm h n t l T):Fm h' n t l T:=hf.pr (Pr.of_kp (P:=fun _=>False) k) fun _ h=>h.elim
theorem Fm.put {R':List Nat}:∀{t:Nat} {l:List Rc} {i:Nat} {r:Rc},l[i]?=some r→Rl h' r.lo r.hi r.b r.vr r.vs n R'→Pr (fun k=>r.lo≤k∧k<r.hi) h h'→Fm h n t l T→Fm h' n t (l.set i { r with R:=R' }) T∧t≤r.lo∧r.hi≤T
 | _,[],i,_,hi,_,_,_=>by cases hi
 | t,s :: l,0,r,hi,hr,p,⟨h1,h2,h3⟩=>by
  injection hi with hi
  subst hi
  exact⟨⟨h1,hr,h3.pr p fun k hk=>.inl hk.2⟩,h1,Fm.le h3⟩
 | t,s :: l,i+1,r,hi,hr,p,⟨h1,h2,h3⟩=>by
  obtain⟨h4,h5,h6⟩:=Fm.put (i:=i) hi hr p h3
  have h7:=h2.ob.lo
  have h8:=h2.up.1
  exact⟨⟨h1,h2.pr p fun k k1 k2 hk=>by omega,h4⟩,by omega,h6⟩
theorem Fm.get:∀{t:Nat} {l:List Rc} {i:Nat} {r:Rc},l[i]?=some r→Fm h n t l T→Rl h r.lo r.hi r.b r.vr r.vs n r.R
 | _,[],i,_,hi,_=>by cases hi
 | t,s :: l,0,r,hi,⟨_,h2,_⟩=>by
  injection hi with hi
  subst hi
  exact h2
 | t,s :: l,i+1,r,hi,⟨_,_,h3⟩=>Fm.get (i:=i) hi h3
end
theorem Gw.ob_ne {α:Type} [Inhabited α] {h:H} {n0 n1 sz:Nat} {v:V} {ty ty':TypeId} {c:α→Nat→V} {l:List α} {b:Nat} {ll:List V} (hg:Gw h n0 v sz ty c l) (hb:Ob h n1 b ty' ll) (ht:ty≠ty'):v.blk≠some b:=fun e=>by
 rcases hg.own with⟨rfl,_⟩ | ⟨b',o',rfl,h1,h2,h3⟩
 ·cases e
 ·injection e with e
  have e:b'=b:=e
  subst e
  obtain⟨q,hq⟩:=hb.row
  rw[h3]at hq
  injection hq with hq
  injection hq with h4
  exact ht h4
theorem ew_appF {α:Type} [Inhabited α] {C:Cx} {d1 d2 sz by_ n0:Nat} {ty:TypeId} {zs news:List V} {ps:List (Nat × Nat × Rd)} {vs:List (Nat × Nat × V)} {us us':List Nat} {l:List So} {e:Env} {h:H} {Q:Env→H→Prop} {c:α→Nat→V} {rows:List α} {v:V} {y:Rd} (x:α)
  (hg:Gw h n0 v sz ty c rows) (hp:partsE e ps=some vs) (hf:fillL (rep zs 1) vs=some news) (hn:news=upto (c x) sz 0) (hz:allOne news=true) (hy:y.lk ((d1,.sl h.next 0 1 1 true sz) :: e)=some v) (hsz:0<sz) (hb:(2*rows.length+1)*by_≤4294967296) (hn0:n0≤h.next)
  (hr:∀v' h',Gw h' n0 v' sz ty c (rows++[x])→Mo h h' v.blk→(∀k,v'.blk=some k→h.next≤k)→Ew C l ((d2,v') :: (d1,.sl h.next 0 1 1 true sz) :: e) h' Q) :
  Ew C (⟨none,some d1,.bs ty 1 sz zs ps,us⟩ :: ⟨none,some d2,.ap ty sz by_ y (.t d1),us'⟩ :: l) e h Q:=by
 refine ew_s .n (od_bs hp hf hz) ?_
 have hm1:Mo h (h.new ty news false) none:=new_mo
 have hg1:Gw (h.new ty news false) n0 v sz ty c rows:=hg.mo hm1 fun _ _ h=>by cases h
 have hnl:news.length=sz:=by rw[hn,upto_len]
 have hrw:Rw (h.new ty news false) h.next (1*sz) 0 news:=⟨by
  have:=rowC_of (h:=h.new ty news false) (b:=h.next) (o:=0) (l:=news) fun j _=>by rw[new_cell,if_pos rfl,Nat.zero_add]
  rwa [hnl,←Nat.one_mul sz]at this⟩
 obtain⟨h',h2,h3,h4,h5,h6⟩:=od_ap (by_:=by_) (y:=.t d1) hg1.grow hy (show look ((d1,V.sl h.next 0 1 1 true sz) :: e) d1=some (.sl h.next 0 1 1 true sz) by rw[look_c,if_pos rfl]) Nat.one_pos hsz hrw hz hb
 have hlen:rows.length+1=(rows++[x]).length:=by simp
 have h4':Grow h' (.sl (h.next+1) 0 (rows++[x]).length (rows++[x]).length false sz) sz ty (flat c sz (rows++[x])) (rows++[x]).length:=by
  rw[←hlen,flatG_app]
  show Grow h' _ sz ty (flat c sz rows++(upto (c x) sz 0++[])) _
  rw[List.append_nil,←hn]
  exact h4
 refine ew_s .n h2 ?_
 have hnx:(h.new ty news false).next=h.next+1:=rfl
 have hg2:=Gw.of_grow (n0:=n0) h4' (by omega) (by rw[h3,hnx];omega)
 have hv:(.sl (h.new ty news false).next 0 (rows.length+1) (rows.length+1) false sz:V)=.sl (h.next+1) 0 (rows++[x]).length (rows++[x]).length false sz:=by rw[hlen];rfl
 rw[hv]
 exact hr _ h' hg2 ⟨by rw[h3,hnx];omega,fun k hk hne=>by
   rw[h5 k (by rw[hnx];omega) hne,new_get,if_neg (by omega)],fun hw=>h6 (wf_new hw)⟩ fun k hk=>by
  injection hk with hk
  omega
def Bits (n i j:Nat) (A:List Nat) (S:Nat→Nat→Prop):Prop:=∀a c,a<n→c<n→(bt A a c=true↔(a<i∨(a=i∧c<j))∧S a c)
theorem Bits.zero {n:Nat} {S:Nat→Nat→Prop}:Bits n 0 0 (List.replicate n 0) S:=fun a c ha _=>by
 unfold bt
 rw[gt_rep ha,Nat.zero_testBit]
 exact⟨(fun h=>by cases h),fun ⟨h,_⟩=>by omega⟩
theorem Bits.step {n i j:Nat} {A A':List Nat} {S:Nat→Nat→Prop} {w:Bool} (hb:Bits n i j A S) (h:∀a c,a<n→c<n→bt A' a c=if (a:Int)=(i:Int)∧(c:Int)=(j:Int)then w else bt A a c) (hS:w=true↔S i j):Bits n i (j+1) A' S:=fun a c ha hc=>by
 rw[h a c ha hc]
 by_cases e:(a:Int)=(i:Int)∧(c:Int)=(j:Int)
 ·rw[if_pos e,show a=i by omega,show c=j by omega,hS]
  exact⟨fun h=>⟨.inr ⟨rfl,Nat.lt_succ_self j⟩,h⟩,fun h=>h.2⟩
 ·rw[if_neg e,hb a c ha hc]
  constructor
  ·rintro⟨h1,h2⟩
   exact⟨by omega,h2⟩
  ·rintro⟨h1,h2⟩
   exact⟨by omega,h2⟩
theorem Bits.row {n i:Nat} {A:List Nat} {S:Nat→Nat→Prop} (hb:Bits n i n A S):Bits n (i+1) 0 A S:=fun a c ha hc=>by
 rw[hb a c ha hc]
 exact⟨fun ⟨h1,h2⟩=>⟨by omega,h2⟩,fun ⟨h1,h2⟩=>⟨by omega,h2⟩⟩
theorem Bits.all {n:Nat} {A:List Nat} {S:Nat→Nat→Prop} (hb:Bits n n 0 A S) (a c:Nat) (ha:a<n) (hc:c<n):bt A a c=true↔S a c:=by
 rw[hb a c ha hc]
 exact⟨fun h=>h.2,fun h=>⟨.inl ha,h⟩⟩
structure Dst (hb:H) (n T b5:Nat) (pre:List V) (L:List Rc) (vR vW vF:V) (lR lW lF:List Bool) (h:H):Prop where
 k:Kp hb h
 f:Fm h n hb.next L T
 t:T≤h.next
 o:Ob h T b5 113 (pre++[vR,vW,vF])
 gR:Gw h T vR 1 4 bcell lR
 gW:Gw h T vW 1 4 bcell lW
 gF:Gw h T vF 1 4 bcell lF
 d1:∀k,vR.blk=some k→vW.blk≠some k
 d2:∀k,vR.blk=some k→vF.blk≠some k
 d3:∀k,vW.blk=some k→vF.blk≠some k
section
variable {hb h h' h2:H} {n T b5:Nat} {pre:List V} {L:List Rc} {vR vW vF v':V} {lR lW lF l':List Bool}
theorem Dst.le (hd:Dst hb n T b5 pre L vR vW vF lR lW lF h):hb.next≤T:=hd.f.le
theorem Dst.step (hd:Dst hb n T b5 pre L vR vW vF lR lW lF h) (k:Kp h h'):Dst hb n T b5 pre L vR vW vF lR lW lF h':=by
 have m:Mo h h' none:=Mo.of_kp k none
 exact⟨hd.k.trans k,hd.f.kp k,Nat.le_trans hd.t k.le,hd.o.mo m (fun e=>by cases e),hd.gR.mo m (fun _ _ e=>by cases e),hd.gW.mo m (fun _ _ e=>by cases e),hd.gF.mo m (fun _ _ e=>by cases e),hd.d1,hd.d2,hd.d3⟩
theorem Dst.put (hd:Dst hb n T b5 pre L vR vW vF lR lW lF h) {i:Nat} {r:Rc} {R':List Nat} (hi:L[i]?=some r) (hr:Rl h' r.lo r.hi r.b r.vr r.vs n R') (p:Pr (fun k=>r.lo≤k∧k<r.hi) h h'):Dst hb n T b5 pre (L.set i { r with R:=R' }) vR vW vF lR lW lF h'∧∀b l,Bx h b l→b<h.next→T≤b→Bx h' b l:=by
 obtain⟨h1,h2,h3⟩:=hd.f.put hi hr p
 exact⟨⟨p.kp hd.k fun k hk=>Nat.le_trans h2 hk.1,h1,Nat.le_trans hd.t p.le,p.ob hd.o fun hk=>by have:=hd.o.lo;omega,p.gw hd.gR (fun k hk hp=>by have:=(hd.gR.blk k hk).1;omega),p.gw hd.gW (fun k hk hp=>by have:=(hd.gW.blk k hk).1;omega),p.gw hd.gF (fun k hk hp=>by have:=(hd.gF.blk k hk).1;omega),hd.d1,hd.d2,hd.d3⟩,fun b l hB hlt hT=>p.bx hB hlt fun hk=>by omega⟩
theorem Dst.app (hd:Dst hb n T b5 pre L vR vW vF lR lW lF h) {v:V} {l:List Bool} (hg:Gw h T v 1 4 bcell l) (m:Mo h h' v.blk) (m2:Mo h' h2 (some b5)):Kp hb h2∧Fm h2 n hb.next L T∧T≤h2.next:=by
 have hT:=hd.le
 have k1:=m.kp hd.k fun k hk=>by have:=(hg.blk k hk).1;omega
 have k2:=m2.kp k1 fun k hk=>by injection hk with hk;have:=hd.o.lo;omega
 refine⟨k2,?_,by have:=hd.t;have:=m.le;have:=m2.le;omega⟩
 have f1:=hd.f.pr (Pr.of_mo (P:=fun k=>T≤k) m fun k hk=>(hg.blk k hk).1) fun k hk=>.inr hk
 exact f1.pr (Pr.of_mo (P:=fun k=>T≤k) m2 fun k hk=>by injection hk with hk;have:=hd.o.lo;omega) fun k hk=>.inr hk
theorem Dst.reads (hd:Dst hb n T b5 pre L vR vW vF lR lW lF h) (hg:Gw h' T v' 1 4 bcell l') (m:Mo h h' vR.blk) (hf:∀k,v'.blk=some k→h.next≤k) (ho:Ob h2 T b5 113 (pre++[v',vW,vF])) (m2:Mo h' h2 (some b5)) (hne:v'.blk≠some b5):Dst hb n T b5 pre L v' vW vF l' lW lF h2:=by
 obtain⟨h1,h3,h4⟩:=hd.app hd.gR m m2
 have e:∀{v:V} {l:List Bool},Gw h T v 1 4 bcell l→v.blk≠some b5:=fun hg=>hg.ob_ne hd.o (by decide)
 exact⟨h1,h3,h4,ho,hg.mo m2 (fun k hk e2=>hne (by rw[hk,e2])),(hd.gW.mo m fun k hk e2=>hd.d1 k e2 hk).mo m2 (fun k hk e2=>e hd.gW (by rw[hk,e2])),(hd.gF.mo m fun k hk e2=>hd.d2 k e2 hk).mo m2 (fun k hk e2=>e hd.gF (by rw[hk,e2])),
  fun k hk e2=>by have:=hf k hk;have:=(hd.gW.blk k e2).2;omega,fun k hk e2=>by have:=hf k hk;have:=(hd.gF.blk k e2).2;omega,hd.d3⟩
theorem Dst.writes (hd:Dst hb n T b5 pre L vR vW vF lR lW lF h) (hg:Gw h' T v' 1 4 bcell l') (m:Mo h h' vW.blk) (hf:∀k,v'.blk=some k→h.next≤k) (ho:Ob h2 T b5 113 (pre++[vR,v',vF])) (m2:Mo h' h2 (some b5)) (hne:v'.blk≠some b5):Dst hb n T b5 pre L vR v' vF lR l' lF h2:=by
 obtain⟨h1,h3,h4⟩:=hd.app hd.gW m m2
 have e:∀{v:V} {l:List Bool},Gw h T v 1 4 bcell l→v.blk≠some b5:=fun hg=>hg.ob_ne hd.o (by decide)
 exact⟨h1,h3,h4,ho,(hd.gR.mo m fun k hk e2=>hd.d1 k hk e2).mo m2 (fun k hk e2=>e hd.gR (by rw[hk,e2])),hg.mo m2 (fun k hk e2=>hne (by rw[hk,e2])),(hd.gF.mo m fun k hk e2=>hd.d3 k e2 hk).mo m2 (fun k hk e2=>e hd.gF (by rw[hk,e2])),
  fun k hk e2=>by have:=hf k e2;have:=(hd.gR.blk k hk).2;omega,hd.d2,fun k hk e2=>by have:=hf k hk;have:=(hd.gF.blk k e2).2;omega⟩
theorem Dst.fences (hd:Dst hb n T b5 pre L vR vW vF lR lW lF h) (hg:Gw h' T v' 1 4 bcell l') (m:Mo h h' vF.blk) (hf:∀k,v'.blk=some k→h.next≤k) (ho:Ob h2 T b5 113 (pre++[vR,vW,v'])) (m2:Mo h' h2 (some b5)) (hne:v'.blk≠some b5):Dst hb n T b5 pre L vR vW v' lR lW l' h2:=by
 obtain⟨h1,h3,h4⟩:=hd.app hd.gF m m2
 have e:∀{v:V} {l:List Bool},Gw h T v 1 4 bcell l→v.blk≠some b5:=fun hg=>hg.ob_ne hd.o (by decide)
 exact⟨h1,h3,h4,ho,(hd.gR.mo m fun k hk e2=>hd.d2 k hk e2).mo m2 (fun k hk e2=>e hd.gR (by rw[hk,e2])),(hd.gW.mo m fun k hk e2=>hd.d3 k hk e2).mo m2 (fun k hk e2=>e hd.gW (by rw[hk,e2])),hg.mo m2 (fun k hk e2=>hne (by rw[hk,e2])),
  hd.d1,fun k hk e2=>by have:=hf k e2;have:=(hd.gR.blk k hk).2;omega,fun k hk e2=>by have:=hf k e2;have:=(hd.gW.blk k hk).2;omega⟩
theorem Dst.box (_hd:Dst hb n T b5 pre L vR vW vF lR lW lF h) {v:V} {l:List Bool} {b:Nat} {ty:TypeId} {ll:List V} (hg:Gw h T v 1 4 bcell l) (m:Mo h h' v.blk) (m2:Mo h' h2 (some b5)) (ho:Ob h T b ty ll) (ht:(4:TypeId)≠ty) (hne:b≠b5):Ob h2 T b ty ll :=
 (ho.mo m (hg.ob_ne ho ht)).mo m2 fun e=>hne (by injection e with e;exact e.symm)
end
def flg (g:Gr) (k:Int) (i:Nat):List Bool:=(List.range i).map fun a=>decide ((gt g.ev a).kind=k)
theorem flg_len {g:Gr} {k:Int} {i:Nat}:(flg g k i).length=i:=by unfold flg;rw[List.length_map,List.length_range]
theorem flg_s {g:Gr} {k:Int} {i:Nat}:flg g k i++[decide ((gt g.ev i).kind=k)]=flg g k (i+1):=by
 unfold flg
 rw[List.range_succ,List.map_append]
 rfl
theorem flg_gt {g:Gr} {k:Int} {i a:Nat} (h:a<i):gt (flg g k i) a=decide ((gt g.ev a).kind=k):=gt_mapR h
end Go.Proofs.YtkcdehffcddciaaGreatDoor.Vm
