/- PLAIN: graphs as lists; how they lie in memory. -/
import Derived.Test.YtkcdehffcddciaaGreatDoorQ18
import Derived.Test.YtkcdehffcddciaaGreatDoorProg
import Derived.KernelRfl
namespace Go.Proofs.YtkcdehffcddciaaGreatDoor.Vm
open Go Go.RowKit
theorem mixed:(Tryz.prog).follows .mixedOrders=true:=by kernel_rfl
structure Ev_ where
 thread:Int
 kind:Int
 loc:Int
 val:Int
 mode:Int
instance:Inhabited Ev_:=⟨⟨0,0,0,0,0⟩⟩
structure Gr where
 cells:Int
 ev:List Ev_
 rf:List (Int × Int)
 co:List (List Int)
 rmw:List (Int × Int)
 addr:List (Int × Int)
 data:List (Int × Int)
 ctrl:List (Int × Int)
noncomputable section
def ecell (e:Ev_):Nat→V
 | 0=>.i .i64 e.thread
 | 1=>.i .i64 e.kind
 | 2=>.i .i64 e.loc
 | 3=>.i .u64 e.val
 | _=>.i .i64 e.mode
def B (p:Prop):V:=.b (@decide p (Classical.propDecidable p))
theorem B_t {p:Prop} (h:p):V.b true=B p:=congrArg V.b (@decide_eq_true p (Classical.propDecidable p) h).symm
theorem B_f {p:Prop} (h:¬p):V.b false=B p:=congrArg V.b (@decide_eq_false p (Classical.propDecidable p) h).symm
theorem B_d {p q:Prop} [Decidable q] (h:q↔p):V.b (decide q)=B p:=by
 by_cases hq:q
 ·rw[decide_eq_true hq];exact B_t (h.1 hq)
 ·rw[decide_eq_false hq];exact B_f fun hp=>hq (h.2 hp)
structure Ros (h:H) (v:V) (ll:List (List Int)):Prop where
 is:∃vs:List V,Ro h v 1 vcell vs∧vs.length=ll.length∧∀i,i<ll.length→Ro h (gt vs i) 1 icell (gt ll i)
theorem Ros.kp {h h':H} {v:V} {ll:List (List Int)} (k:Kp h h') (hw:Wf h) (hr:Ros h v ll):Ros h' v ll:=by
 obtain⟨vs,h1,h2,h3⟩:=hr.is
 exact⟨vs,h1.kp k hw,h2,fun i hi=>(h3 i hi).kp k hw⟩
structure GrAt (h:H) (l:List V) (g:Gr):Prop where
 is:∃ve vrf vco vrmw vad vda vct,l = [.i .i64 g.cells,ve,vrf,vco,vrmw,vad,vda,vct]∧Ro h ve 5 ecell g.ev∧Ro h vrf 2 pcell g.rf∧Ros h vco g.co∧Ro h vrmw 2 pcell g.rmw∧Ro h vad 2 pcell g.addr∧Ro h vda 2 pcell g.data∧Ro h vct 2 pcell g.ctrl
theorem GrAt.kp {h h':H} {l:List V} {g:Gr} (k:Kp h h') (hw:Wf h) (hg:GrAt h l g):GrAt h' l g:=by
 obtain⟨ve,vrf,vco,vrmw,vad,vda,vct,h0,h1,h2,h3,h4,h5,h6,h7⟩:=hg.is
 exact⟨ve,vrf,vco,vrmw,vad,vda,vct,h0,h1.kp k hw,h2.kp k hw,h3.kp k hw,h4.kp k hw,h5.kp k hw,h6.kp k hw,h7.kp k hw⟩
theorem Ros.one {h:H} {v:V} {ll:List (List Int)} (hr:Ros h v ll):v.one=true:=by
 obtain⟨vs,h1,_⟩:=hr.is
 exact h1.ln.one
theorem GrAt.one {h:H} {l:List V} {g:Gr} (hg:GrAt h l g):allOne l=true:=by
 obtain⟨ve,vrf,vco,vrmw,vad,vda,vct,rfl,h1,h2,h3,h4,h5,h6,h7⟩:=hg.is
 exact allOne_cons rfl (allOne_cons h1.ln.one (allOne_cons h2.ln.one (allOne_cons h3.one (allOne_cons h4.ln.one (allOne_cons h5.ln.one (allOne_cons h6.ln.one (allOne_cons h7.ln.one rfl)))))))
def IsE (g:Gr) (i kind:Int):Prop:=0≤i∧i<g.ev.length∧(gt g.ev i.toNat).kind=kind
def Bef (g:Gr) (a b:Int):Prop:=0≤a∧a<b∧b<g.ev.length∧0≤(gt g.ev a.toNat).thread∧(gt g.ev a.toNat).thread=(gt g.ev b.toNat).thread
def Nxt (g:Gr) (a b:Int):Prop:=Bef g a b∧∀i:Nat,a<i→(i:Int)<b→(gt g.ev i).thread≠(gt g.ev a.toNat).thread
def ModeOk (kind m:Int) (w:Bool):Prop:=(w=true∧((kind=1∧(m=11∨m=12∨m=16))∨(kind=2∧(m=11∨m=13))∨(kind=3∧(m=14∨m=15)))) ∨
 (w=false∧((kind=1∧(m=1∨m=2∨m=5))∨(kind=2∧(m=1∨m=3∨m=5))∨(kind=3∧(m=2∨m=3∨m=4∨m=5))))
def EvOk (cells:Int) (e:Ev_) (w:Bool):Prop:=0≤e.thread∧e.thread<64∧ModeOk e.kind e.mode w∧((e.kind=3∧e.loc = -1∧e.val=0)∨(e.kind≠3∧0≤e.loc∧e.loc<cells))
def RdC (g:Gr) (n:Nat):Nat:=((List.range n).filter fun r=>(gt g.ev r).kind=1).length
def RfAt (g:Gr) (r:Nat):Prop:=RdC g r<g.rf.length∧(gt g.rf (RdC g r)).2=r∧IsE g (gt g.rf (RdC g r)).1 2∧(gt g.ev (gt g.rf (RdC g r)).1.toNat).loc=(gt g.ev r).loc∧(gt g.ev (gt g.rf (RdC g r)).1.toNat).val=(gt g.ev r).val
def RfOk (g:Gr):Prop:=(∀r,r<g.ev.length→(gt g.ev r).kind=1→RfAt g r)∧g.rf.length≤RdC g g.ev.length
def WrC (g:Gr) (c:Int) (n:Nat):Nat:=((List.range n).filter fun i=>(gt g.ev i).kind=2∧(gt g.ev i).loc=c).length
def CoAt (g:Gr) (c:Nat):Prop:=0<(gt g.co c).length∧gt (gt g.co c) 0=c∧(gt g.co c).length=WrC g c g.ev.length ∧
 ∀i,i<(gt g.co c).length→IsE g (gt (gt g.co c) i) 2∧(gt g.ev (gt (gt g.co c) i).toNat).loc=c∧∀j,j<i→gt (gt g.co c) j≠gt (gt g.co c) i
def CoOk (g:Gr):Prop:=(∀c:Nat,(c:Int)<g.cells→c<g.co.length→CoAt g c)∧(g.co.length:Int)=g.cells
def RmwAt (g:Gr) (i:Nat):Prop:=(0<i→(gt g.rmw (i-1)).1<(gt g.rmw i).1)∧IsE g (gt g.rmw i).1 1∧IsE g (gt g.rmw i).2 2∧Nxt g (gt g.rmw i).1 (gt g.rmw i).2∧(gt g.ev (gt g.rmw i).1.toNat).loc=(gt g.ev (gt g.rmw i).2.toNat).loc
def RmwOk (g:Gr):Prop:=∀i,i<g.rmw.length→RmwAt g i
def DepAt (g:Gr) (l:List (Int × Int)) (w:Int) (i:Nat):Prop:=(0<i→(gt l (i-1)).1<(gt l i).1∨((gt l (i-1)).1=(gt l i).1∧(gt l (i-1)).2<(gt l i).2))∧IsE g (gt l i).1 1∧Bef g (gt l i).1 (gt l i).2∧(w=7→(gt g.ev (gt l i).2.toNat).kind≠3)∧(w=8→(gt g.ev (gt l i).2.toNat).kind=2)
def DepOk (g:Gr) (l:List (Int × Int)) (w:Int):Prop:=∀i,i<l.length→DepAt g l w i
def first_ (w:Bool) (c:Int):Ev_:=⟨-1,2,c,0,if w=true then 11 else 1⟩
structure WF (g:Gr) (w:Bool):Prop where
 size:0≤g.cells∧g.cells≤4096∧g.cells≤g.ev.length∧g.ev.length≤256
 init:∀c:Nat,(c:Int)<g.cells→gt g.ev c=first_ w c
 ev:∀i:Nat,g.cells≤i→i<g.ev.length→EvOk g.cells (gt g.ev i) w
 rf:RfOk g
 co:CoOk g
 rmw:RmwOk g
 addr:DepOk g g.addr 7
 data:DepOk g g.data 8
 ctrl:DepOk g g.ctrl 9
 none:w=false→g.addr = []∧g.data = []∧g.ctrl = []
def threadL (l:List Ev_) (t:Int) (n:Nat):List Int:=((List.range n).filter fun j=>(gt l j).thread=t).map Int.ofNat
theorem threadL_y {l:List Ev_} {t:Int} {n:Nat} (h:(gt l n).thread=t):threadL l t (n+1)=threadL l t n++[(n:Int)]:=by
 unfold threadL
 rw[List.range_succ,List.filter_append,List.map_append]
 simp[h]
theorem threadL_n {l:List Ev_} {t:Int} {n:Nat} (h:(gt l n).thread≠t):threadL l t (n+1)=threadL l t n:=by
 unfold threadL
 rw[List.range_succ,List.filter_append,List.map_append]
 simp[h]
theorem threadL_len (l:List Ev_) (t:Int) (n:Nat):(threadL l t n).length≤n:=by
 unfold threadL
 rw[List.length_map]
 have:=List.length_filter_le (fun j=>decide ((gt l j).thread=t)) (List.range n)
 simpa using this
structure Hidn (q:Prop):Prop where
 out:q
theorem go {p q:Prop} (k:q) (f:Hidn q→p:=by
 intro h
 repeat first
  | refine stF rfl ?_
  | refine mF rfl ?_
  | refine Es.seq ?_
  | refine Es.region ?_
  | refine ew_n ?_
  | refine Nx.code ?_
  | refine Nx.blk ?_
  | refine Es.block ?_
  | refine Es.skip ?_
  | refine Es.exit rfl ?_
  | refine Es.scope ?_
  | refine Es.mix mixed ?_
  | refine em_n ?_
  | refine wg rfl ?_
  | refine mg rfl ?_
  | refine wg_t ?_
  | refine wg_f ?_
  | refine wz_t ?_
  | refine wz_f ?_
  | refine mg_t ?_
  | refine mg_f ?_
  | refine mz_t ?_
  | refine mz_f ?_
  | refine mze_t Lv.nil ?_
  | refine mze_f Lv.nil ?_
  | refine wu rfl ?_
  | refine mu rfl ?_
  | refine mue rfl Lv.nil ?_
  | refine cnd rfl ?_
  | refine ct ?_
  | refine cf ?_
  |(refine ewN ?_;refine stS ?_)
  |(refine emN ?_;first | refine mQ ?_ | refine mS ?_ | refine mQs ?_)
  | refine cDT (by omega) ?_
  | refine cDF (by omega) ?_
  | refine cNT (by omega) ?_
  | refine cNF (by omega) ?_
  | refine wgdT (by omega) ?_
  | refine wgdF (by omega) ?_
  | refine wgnT (by omega) ?_
  | refine wgnF (by omega) ?_
  | refine mgdT (by omega) ?_
  | refine mgdF (by omega) ?_
  | refine mgnT (by omega) ?_
  | refine mgnF (by omega) ?_
 exact h.out):p:=f ⟨k⟩
theorem gol {p q:Prop} (k:q) (f:Hidn q→p:=by
 intro h
 repeat first
  | refine stF rfl ?_
  | refine mF rfl ?_
  | refine Es.seq ?_
  | refine Es.region ?_
  | refine ew_n ?_
  | refine Nx.code ?_
  | refine Nx.blk ?_
  | refine Es.block ?_
  | refine Es.skip ?_
  | refine Es.exit rfl ?_
  | refine Es.scope ?_
  | refine Es.mix mixed ?_
  | refine em_n ?_
  | refine wg rfl ?_
  | refine mg rfl ?_
  | refine wg_t ?_
  | refine wg_f ?_
  | refine wz_t ?_
  | refine wz_f ?_
  | refine mg_t ?_
  | refine mg_f ?_
  | refine mz_t ?_
  | refine mz_f ?_
  | refine mze_t Lv.nil ?_
  | refine mze_f Lv.nil ?_
  | refine wu rfl ?_
  | refine mu rfl ?_
  | refine mue rfl Lv.nil ?_
  | refine cnd rfl ?_
  | refine ct ?_
  | refine cf ?_
  |(refine ewN ?_;refine stS ?_)
  |(refine emN ?_;first | refine mQ ?_ | refine mS ?_ | refine mQs ?_ | refine mL ?_ | refine mLs ?_)
  | refine cDT (by omega) ?_
  | refine cDF (by omega) ?_
  | refine cNT (by omega) ?_
  | refine cNF (by omega) ?_
  | refine wgdT (by omega) ?_
  | refine wgdF (by omega) ?_
  | refine wgnT (by omega) ?_
  | refine wgnF (by omega) ?_
  | refine mgdT (by omega) ?_
  | refine mgdF (by omega) ?_
  | refine mgnT (by omega) ?_
  | refine mgnF (by omega) ?_
 exact h.out):p:=f ⟨k⟩
end
theorem RdC_y {g:Gr} {n:Nat} (h:(gt g.ev n).kind=1):RdC g (n+1)=RdC g n+1:=by
 unfold RdC
 rw[List.range_succ,List.filter_append,List.length_append]
 simp[h]
theorem RdC_n {g:Gr} {n:Nat} (h:(gt g.ev n).kind≠1):RdC g (n+1)=RdC g n:=by
 unfold RdC
 rw[List.range_succ,List.filter_append,List.length_append]
 simp[h]
theorem RdC_le (g:Gr) (n:Nat):RdC g n≤n:=by
 unfold RdC
 have:=List.length_filter_le (fun r=>decide ((gt g.ev r).kind=1)) (List.range n)
 simpa using this
theorem WrC_y {g:Gr} {c:Int} {n:Nat} (h:(gt g.ev n).kind=2∧(gt g.ev n).loc=c):WrC g c (n+1)=WrC g c n+1:=by
 unfold WrC
 rw[List.range_succ,List.filter_append,List.length_append]
 simp[h]
theorem WrC_n {g:Gr} {c:Int} {n:Nat} (h:¬((gt g.ev n).kind=2∧(gt g.ev n).loc=c)):WrC g c (n+1)=WrC g c n:=by
 unfold WrC
 rw[List.range_succ,List.filter_append,List.length_append]
 simp[h]
theorem WrC_le (g:Gr) (c:Int) (n:Nat):WrC g c n≤n:=by
 unfold WrC
 have:=List.length_filter_le (fun i=>decide ((gt g.ev i).kind=2∧(gt g.ev i).loc=c)) (List.range n)
 simpa using this
def Iv (v:V) (p:Prop):Prop:=∃r:Int,v=.i .i64 r∧(r<0↔p)
theorem Iv.n {p:Prop} (hp:p):Iv (.i .i64 (-1)) p:=⟨-1,rfl,fun _=>hp,fun _=>by decide⟩
theorem Iv.y {p:Prop} {n:Nat} (hp:¬p):Iv (.i .i64 (n:Int)) p:=⟨n,rfl,fun h=>by omega,fun h=>absurd h hp⟩
def s154 : Sc:=(.seq (.region [Y 6 (.mv (.c (.b false))) []]) (.seq (.region [Y 7 (.mv (.t 1)) [1],Y 8 (.ar .geq (.t 7)
  (.c (.i .i64 0))) [7],Y 9 (.mv (.t 8)) [8],Z 9 true 10 (.mv (.t 1)) [1,9],Z 9 true 11 (.mv (.t 0)) [0,9],
 Z 9 true 12 (.nc (.t 11)) [11,9],Z 9 true 13 (.fa (.t 12) 0) [12,9],Z 9 true 14 (.fa (.t 13) 1) [13,9],
 Z 9 true 15 (.ld (.t 14)) [14,9],Z 9 true 16 (.len (.t 15)) [15,9],Z 9 true 17 (.ar .lss (.t 10)
  (.t 16)) [10,16,9],Y 18 (.pk (.t 9) (.t 17) (.c (.b false))) [9,17],Y 19 (.mv (.t 18)) [18],
 Z 19 true 20 (.mv (.t 0)) [0,19],Z 19 true 21 (.nc (.t 20)) [20,19],Z 19 true 22 (.fa (.t 21) 0) [21,19],
 Z 19 true 23 (.fa (.t 22) 1) [22,19],Z 19 true 24 (.ld (.t 23)) [23,19],Z 19 true 25 (.mv (.t 1)) [1,19],
 Z 19 true 26 (.ia (.t 24) (.t 25) 5) [24,25,19],Z 19 true 27 (.fa (.t 26) 1) [26,19],
 Z 19 true 28 (.ld (.t 27)) [27,19],Z 19 true 29 (.mv (.t 2)) [2,19],Z 19 true 30 (.eq .int false (.t 28)
  (.t 29)) [28,29,19],Y 31 (.pk (.t 19) (.t 30) (.c (.b false))) [19,30],Y 6 (.mv (.t 31)) [31]]) .ret))
set_option maxRecDepth 100000 in
theorem c154:fnB Tryz.prog 154=some (32,s154,[.t 6]):=by kernel_rfl
def s155 : Sc:=(.seq (.region [Y 6 (.mv (.c (.b false))) []]) (.seq (.region [Y 8 (.mv (.t 0)) [0],Y 9 (.nc (.t 8)) [8],
 Y 10 (.fa (.t 9) 0) [9],Y 11 (.fa (.t 10) 1) [10],Y 12 (.ld (.t 11)) [11],Y 7 (.mv (.t 12)) [12]])
  (.seq (.mix [(Y 13 (.mv (.t 1)) [1],.q [none]),(Y 14 (.ar .geq (.t 13) (.c (.i .i64 0))) [13],.q [none]),
 (Y 15 (.mv (.t 14)) [14],.q [none]),(Z 15 true 16 (.mv (.t 1)) [1,15],.q [none]),
 (Z 15 true 17 (.mv (.t 2)) [2,15],.q [none]),(Z 15 true 18 (.ar .lss (.t 16) (.t 17)) [16,17,15],.q [none]),
 (Y 19 (.pk (.t 15) (.t 18) (.c (.b false))) [15,18],.q [none]),(Y 20 (.mv (.t 19)) [19],.q [none]),
 (Z 20 true 21 (.mv (.t 2)) [2,20],.q [none]),(Z 20 true 22 (.mv (.t 7)) [7,20],.q [none]),
 (Z 20 true 23 (.len (.t 22)) [22,20],.q [none]),(Z 20 true 24 (.ar .lss (.t 21)
  (.t 23)) [21,23,20],.q [none]),(Y 25 (.pk (.t 20) (.t 24) (.c (.b false))) [20,24],.q [none]),
 (Y 26 (.mv (.t 25)) [25],.q [none]),(Z 26 true 27 (.mv (.t 7)) [7,26],.q [none]),
 (Z 26 true 28 (.mv (.t 1)) [1,26],.q [none]),(Z 26 true 29 (.ia (.t 27) (.t 28) 5) [27,28,26],.q [none]),
 (Z 26 true 30 (.fa (.t 29) 0) [29,26],.q [none]),(Z 26 true 31 (.ld (.t 30)) [30,26],.q [none]),
 (Z 26 true 32 (.ar .geq (.t 31) (.c (.i .i64 0))) [31,26],.q [none]),(Y 33 (.pk (.t 26) (.t 32)
  (.c (.b false))) [26,32],.q [none]),(Y 34 (.mv (.t 33)) [33],.q [none]),
 (Z 34 true 35 (.mv (.t 7)) [7,34],.q [none]),(Z 34 true 36 (.mv (.t 1)) [1,34],.q [none]),
 (Z 34 true 37 (.ia (.t 35) (.t 36) 5) [35,36,34],.q [none]),(Z 34 true 38 (.fa (.t 37) 0) [37,34],.q [none]),
 (Z 34 true 39 (.ld (.t 38)) [38,34],.q [none]),(Z 34 true 40 (.mv (.t 7)) [7,34],.q [none]),
 (Z 34 true 41 (.mv (.t 2)) [2,34],.q [none]),(Z 34 true 42 (.ia (.t 40) (.t 41) 5) [40,41,34],.q [none]),
 (Z 34 true 43 (.fa (.t 42) 0) [42,34],.q [none]),(Z 34 true 44 (.ld (.t 43)) [43,34],.q [none]),
 (Z 34 true 45 (.eq .int false (.t 39) (.t 44)) [39,44,34],.q [none]),(Y 46 (.pk (.t 34) (.t 45)
  (.c (.b false))) [34,45],.q [none]),(Y 6 (.mv (.t 46)) [46],.q [none])]) .ret)))
set_option maxRecDepth 100000 in
theorem c155:fnB Tryz.prog 155=some (47,s155,[.t 6]):=by kernel_rfl
def s222 : Sc:=(.seq (.region [Y 4 (.mv (.c (.i .i64 0))) []]) (.seq (.seq (.region [Y 6 (.mv (.t 0)) [0],
 Y 7 (.len (.t 6)) [6],Y 8 (.mv (.c (.i .i64 0))) []]) (.block 0 (.loop (.seq (.region [Y 9 (.ar .lss (.t 8)
  (.t 7)) [8,7]]) (.seq (.cond (.t 9) .skip (.exit 0)) (.seq (.block 1 (.seq (.region [Y 10 (.mv (.t 8)) [8],
 Y 5 (.mv (.t 10)) [10]]) (.seq (.region [Y 11 (.mv (.t 1)) [1],Y 12 (.mv (.t 0)) [0],Y 13 (.mv (.t 5)) [5],
 Y 14 (.ia (.t 12) (.t 13) 1) [12,13],Y 15 (.ld (.t 14)) [14],Y 16 (.eq .int false (.t 11) (.t 15)) [11,15]])
  (.cond (.t 16) (.seq (.region [Y 17 (.mv (.t 5)) [5],Y 4 (.mv (.t 17)) [17]]) .ret) .skip))))
  (.region [Y 18 (.ar .add (.t 8) (.c (.i .i64 1))) [8],Y 8 (.mv (.t 18)) [18]])))))))
  (.seq (.region [Y 4 (.mv (.c (.i .i64 (-1)))) []]) .ret)))
set_option maxRecDepth 100000 in
theorem c222:fnB Tryz.prog 222=some (19,s222,[.t 4]):=by kernel_rfl
def s152 : Sc:=(.seq (.region [Y 4 (.mv (.c (.b false))) []]) (.seq (.region [Y 5 (.mv (.t 0)) [0],Y 6 (.mv (.t 1)) [1],
 Y 7 (.call 222 [.t 5,.t 6]) [5,6],Y 8 (.ar .geq (.t 7) (.c (.i .i64 0))) [7],Y 4 (.mv (.t 8)) [8]]) .ret))
set_option maxRecDepth 100000 in
theorem c152:fnB Tryz.prog 152=some (9,s152,[.t 4]):=by kernel_rfl
def s153 : Sc:=(.seq (.region [Y 4 (.mv (.c .ns)) []]) (.seq (.block 0 (.seq (.region [Y 6 (.mv (.t 0)) [0],
 Y 7 (.eq .int false (.t 6) (.c (.i .i64 1))) [6],Y 8 (.mv (.t 7)) [7],Z 8 true 9 (.mv (.t 1)) [1,8],
 Y 10 (.pk (.t 8) (.t 9) (.c (.b false))) [8,9],Y 5 (.mv (.t 10)) [10]]) (.cond (.t 5)
  (.seq (.region [Y 11 (.bs 3 3 1 [.i .i64 0] [(0,1,.c (.i .i64 11)),(1,1,.c (.i .i64 12)),
 (2,1,.c (.i .i64 16))]) [],Y 4 (.mv (.t 11)) [11]]) .ret) (.seq (.region [Y 13 (.mv (.t 0)) [0],
 Y 14 (.eq .int false (.t 13) (.c (.i .i64 1))) [13],Y 12 (.mv (.t 14)) [14]]) (.cond (.t 12)
  (.seq (.region [Y 15 (.bs 3 3 1 [.i .i64 0] [(0,1,.c (.i .i64 1)),(1,1,.c (.i .i64 2)),
 (2,1,.c (.i .i64 5))]) [],Y 4 (.mv (.t 15)) [15]]) .ret) (.seq (.region [Y 17 (.mv (.t 0)) [0],
 Y 18 (.eq .int false (.t 17) (.c (.i .i64 2))) [17],Y 19 (.mv (.t 18)) [18],Z 19 true 20 (.mv (.t 1)) [1,19],
 Y 21 (.pk (.t 19) (.t 20) (.c (.b false))) [19,20],Y 16 (.mv (.t 21)) [21]]) (.cond (.t 16)
  (.seq (.region [Y 22 (.bs 3 2 1 [.i .i64 0] [(0,1,.c (.i .i64 11)),(1,1,.c (.i .i64 13))]) [],
 Y 4 (.mv (.t 22)) [22]]) .ret) (.seq (.region [Y 24 (.mv (.t 0)) [0],Y 25 (.eq .int false (.t 24)
  (.c (.i .i64 2))) [24],Y 23 (.mv (.t 25)) [25]]) (.cond (.t 23)
  (.seq (.region [Y 26 (.bs 3 3 1 [.i .i64 0] [(0,1,.c (.i .i64 1)),(1,1,.c (.i .i64 3)),
 (2,1,.c (.i .i64 5))]) [],Y 4 (.mv (.t 26)) [26]]) .ret) (.seq (.region [Y 28 (.mv (.t 0)) [0],
 Y 29 (.eq .int false (.t 28) (.c (.i .i64 3))) [28],Y 30 (.mv (.t 29)) [29],Z 30 true 31 (.mv (.t 1)) [1,30],
 Y 32 (.pk (.t 30) (.t 31) (.c (.b false))) [30,31],Y 27 (.mv (.t 32)) [32]]) (.cond (.t 27)
  (.seq (.region [Y 33 (.bs 3 2 1 [.i .i64 0] [(0,1,.c (.i .i64 14)),(1,1,.c (.i .i64 15))]) [],
 Y 4 (.mv (.t 33)) [33]]) .ret) (.seq (.region [Y 35 (.mv (.t 0)) [0],Y 36 (.eq .int false (.t 35)
  (.c (.i .i64 3))) [35],Y 34 (.mv (.t 36)) [36]]) (.cond (.t 34)
  (.seq (.region [Y 37 (.bs 3 4 1 [.i .i64 0] [(0,1,.c (.i .i64 2)),(1,1,.c (.i .i64 3)),(2,1,.c (.i .i64 4)),
 (3,1,.c (.i .i64 5))]) [],Y 4 (.mv (.t 37)) [37]]) .ret) .skip)))))))))))))
  (.seq (.region [Y 4 (.mv (.c .ns)) []]) .ret)))
set_option maxRecDepth 100000 in
theorem c153:fnB Tryz.prog 153=some (38,s153,[.t 4]):=by kernel_rfl
structure LkAt (h:H) (b:Nat) (gl:List V) (vn:V) (g:Gr) (w:Bool) (nx:List Int):Prop where
 bx:Bx h b (gl++[.b w,vn])
 gr:GrAt h gl g
 ro:Ro h vn 1 icell nx
 len:nx.length=g.ev.length
 next:∀i:Nat,i<g.ev.length→∀k:Int,0≤k→(gt nx i=k↔Nxt g i k)
theorem LkAt.kp {h h':H} {b:Nat} {gl:List V} {vn:V} {g:Gr} {w:Bool} {nx:List Int} (k:Kp h h') (hw:Wf h) (hl:LkAt h b gl vn g w nx):LkAt h' b gl vn g w nx:=⟨hl.bx.kp k hw,hl.gr.kp k hw,hl.ro.kp k hw,hl.len,hl.next⟩
set_option maxHeartbeats 0 in
theorem lis_spec {m:Bool} {h:H} {b:Nat} {gl:List V} {vn:V} {g:Gr} {w:Bool} {nx:List Int} {i k:Int} (hg:LkAt h b gl vn g w nx):FX m Tryz.prog 154 [.p b 0,.i .i64 i,.i .i64 k] h fun v h'=>v=B (IsE g i k)∧Kp h h':=by
 obtain⟨hB,hg,-,-,-⟩:=hg
 obtain⟨ve,vrf,vco,vrmw,vad,vda,vct,rfl,he,-⟩:=hg.is
 refine Fn.env c154 rfl ?_
 unfold s154
 obtain⟨hL,hC⟩:=he
 have k1:=Kp.refl h
 refine go ?_
 repeat' ((first|refine wgd ?_ ?_|refine wgn ?_ ?_|refine wgb ?_ ?_|refine mgd ?_ ?_|refine mgn ?_ ?_|refine mgb ?_ ?_|refine cD ?_ ?_|refine cN ?_ ?_|refine cB ?_ ?_)<;>intro _<;>refine go ?_)
 all_goals refine ret_1 ⟨?_,k1⟩
 all_goals first | exact B_t (by unfold IsE;omega) | exact B_f (by unfold IsE;omega) | exact B_d (by unfold IsE;omega)
set_option maxHeartbeats 0 in
theorem lpo_spec {m:Bool} {h:H} {b:Nat} {gl:List V} {vn:V} {g:Gr} {w:Bool} {nx:List Int} {i k:Int} (hg:LkAt h b gl vn g w nx):FX m Tryz.prog 155 [.p b 0,.i .i64 i,.i .i64 k] h fun v h'=>v=B (Bef g i k)∧Kp h h':=by
 obtain⟨hB,hg,-,-,-⟩:=hg
 obtain⟨ve,vrf,vco,vrmw,vad,vda,vct,rfl,he,-⟩:=hg.is
 refine Fn.env c155 rfl ?_
 unfold s155
 obtain⟨hL,hC⟩:=he
 have k1:=Kp.refl h
 refine go ?_
 repeat' ((first|refine wgd ?_ ?_|refine wgn ?_ ?_|refine wgb ?_ ?_|refine mgd ?_ ?_|refine mgn ?_ ?_|refine mgb ?_ ?_|refine cD ?_ ?_|refine cN ?_ ?_|refine cB ?_ ?_)<;>intro _<;>refine go ?_)
 all_goals refine ret_1 ⟨?_,k1⟩
 all_goals first | exact B_t (by unfold Bef;omega) | exact B_f (by unfold Bef;omega) | exact B_d (by unfold Bef;omega)
set_option maxHeartbeats 0 in
theorem index_spec {m:Bool} {h:H} {v:V} {l:List Int} {x:Int} (hl:Ro h v 1 icell l) (hn:l.length≤100000000):FX m Tryz.prog 222 [v,.i .i64 x] h fun v h'=>(∃r:Int,v=.i .i64 r∧(0≤r↔x∈l))∧h'=h:=by
 refine Fn.env c222 rfl ?_
 unfold s222
 obtain⟨hL,hC⟩:=hl
 refine go ?_
 refine Es.loop (X:=Nat) (fun y=>l.length-y) (fun y=>[(0,v),(1,.i .i64 x),(7,.i .i64 (l.length:Int)),(8,.i .i64 (y:Int))]) (fun y h2=>y≤l.length∧h2=h∧∀j,j<y→gt l j≠x) 0 ⟨rfl,rfl,rfl,rfl,trivial⟩ ⟨Nat.zero_le _,rfl,fun r hr=>absurd hr (Nat.not_lt_zero _)⟩ fun y h2 hx=>?_
 obtain⟨hy,rfl,hI⟩:=hx
 refine go ?_
 repeat' ((first|refine wgd ?_ ?_|refine wgn ?_ ?_|refine wgb ?_ ?_|refine mgd ?_ ?_|refine mgn ?_ ?_|refine mgb ?_ ?_|refine cD ?_ ?_|refine cN ?_ ?_|refine cB ?_ ?_)<;>intro _<;>refine go ?_)
 ·exact ret_1 ⟨⟨(y:Int),rfl,fun _=>by
   have e:x=gt l y:=by assumption
   rw[e,gt_lt (by omega)]
   exact List.getElem_mem _,fun _=>by omega⟩,rfl⟩
 ·exact Nx.inv (y+1) (by omega) ⟨rfl,rfl,rfl,rfl,trivial⟩ ⟨by omega,rfl,fun j hj=>by
   rcases Nat.lt_succ_iff_lt_or_eq.1 hj with h1 | h1
   ·exact hI j h1
   ·subst h1
    have e:¬x=gt l j:=by assumption
    exact fun h=>e h.symm⟩
 ·exact ret_1 ⟨⟨-1,rfl,fun h=>absurd h (by decide),fun hm=>by
   obtain⟨j,hj,e⟩:=List.mem_iff_getElem.1 hm
   rw[←gt_lt hj]at e
   exact absurd e (hI j (by omega))⟩,rfl⟩
set_option maxHeartbeats 0 in
theorem contains_spec {m:Bool} {h:H} {v:V} {l:List Int} {x:Int} (hl:Ro h v 1 icell l) (hn:l.length≤100000000):FX m Tryz.prog 152 [v,.i .i64 x] h fun v h'=>v=B (x∈l)∧h'=h:=by
 refine Fn.env c152 rfl ?_
 unfold s152
 refine go ?_
 refine stC (index_spec hl hn) fun v h2 hR=>?_
 obtain⟨⟨r,rfl,hr⟩,rfl⟩:=hR
 refine go ?_
 exact ret_1 ⟨B_d hr,rfl⟩
noncomputable def modesL (k:Int) (w:Bool):List Int:=if w=true then(if k=1 then [11,12,16]else if k=2 then [11,13]else if k=3 then [14,15]else [])else if k=1 then [1,2,5]else if k=2 then [1,3,5]else if k=3 then [2,3,4,5]else []
theorem modesL_len (k:Int) (w:Bool):(modesL k w).length≤4:=by
 unfold modesL
 repeat' split
 all_goals decide
theorem modesL_ok {k m:Int} {w:Bool}:m∈modesL k w↔ModeOk k m w:=by
 unfold modesL ModeOk
 cases w
 ·rw[if_neg (by decide)]
  repeat' split
  all_goals simp <;> omega
 ·rw[if_pos rfl]
  repeat' split
  all_goals simp <;> omega
theorem ro_bs {h:H} {ty:TypeId} {l:List Int} {n:Nat} {vs:List V} (hv:vs=l.map fun x=>V.i .i64 x) (hn:l.length=n):Ro (h.new ty vs false) (.sl h.next 0 n n true 1) 1 icell l:=by
 subst hn
 refine⟨.sl (Nat.le_refl _),⟨fun i k hi hk=>?_⟩⟩
 obtain rfl:k=0:=by omega
 have hbn:Bx (h.new ty vs false) h.next vs:=ob_new.bx
 refine hbn.eq (0+i*1+0) _ ?_
 rw[Nat.zero_add,Nat.mul_one,Nat.add_zero,hv,List.getElem?_map,List.getElem?_eq_getElem hi,←gt_lt hi]
 rfl
set_option maxHeartbeats 0 in
theorem modes_spec {m:Bool} {h:H} {k:Int} {w:Bool}:FX m Tryz.prog 153 [.i .i64 k,.b w] h fun v h'=>Ro h' v 1 icell (modesL k w)∧Kp h h':=by
 refine Fn.env c153 rfl ?_
 unfold s153
 have hk:k=1∨k=2∨k=3∨(k≠1∧k≠2∧k≠3):=by omega
 rcases hk with rfl | rfl | rfl | hk
 all_goals cases w
 all_goals
  refine go ?_
  repeat' ((first|refine wgd ?_ ?_|refine wgn ?_ ?_|refine wgb ?_ ?_|refine mgd ?_ ?_|refine mgn ?_ ?_|refine mgb ?_ ?_|refine cD ?_ ?_|refine cN ?_ ?_|refine cB ?_ ?_)<;>intro _<;>refine go ?_)
 all_goals try
  refine ew_s .n (od_bs rfl rfl rfl) ?_
  refine go ?_
  repeat' ((first|refine wgd ?_ ?_|refine wgn ?_ ?_|refine wgb ?_ ?_|refine mgd ?_ ?_|refine mgn ?_ ?_|refine mgb ?_ ?_|refine cD ?_ ?_|refine cN ?_ ?_|refine cB ?_ ?_)<;>intro _<;>refine go ?_)
 all_goals first
  | exact ret_1 ⟨ro_bs (l:=modesL _ _) rfl rfl,kp_new⟩
  | exact ret_1 ⟨by
    have e:∀w,modesL k w = []:=fun w=>by
     unfold modesL
     repeat' split
     all_goals first | rfl | omega
    rw[e]
    exact Ro.nil,Kp.refl h⟩
section
variable {C:Cx} {d j:Nat} {ty:TypeId} {us:List Nat} {lm:List (So × Kd)} {e:Env} {hs h:H} {v:V} {x a:Rd} {Q:Env→H→Prop} {ls:List V} {g:Option (Nat × Bool)} {st:List (Option Nat × H)} {ps:List Pd}
theorem em_al (hr:∀b h1,Ob h1 h.next b ty ls→Kp h h1→Em C lm (j+1) ((d,.p b 0) :: e) hs h1 st ps Q) (hw:Gd e g true:=by first | exact .n | exact .tt rfl | exact .ff rfl) (hz:allOne ls=true:=by first | exact rfl |(repeat (first | exact allOne_nil | refine allOne_cons (by first | exact rfl | assumption | exact Ln.one (by assumption) | exact Ln.one (Ro.ln (by assumption)) | exact Ln.one (Gw.ln (by assumption))) ?_))):Em C ((⟨g,some d,.al ty ls,us⟩,.soft) :: lm) j e hs h st ps Q :=
 em_a hw (od_al hz) (hr _ _ ob_new kp_new)
theorem em_bx (hr:∀b h1,Ob h1 h.next b ty ls→Kp h h1→Em C lm (j+1) ((d,.p b 0) :: e) h1 h1 ((some j,h1) :: st) ps Q) (hw:Gd e g true:=by first | exact .n | exact .tt rfl | exact .ff rfl) (hx:x.lk e=some v:=by exact rfl) (hv:v.cells=ls:=by exact rfl) (hl:Lv j (h.new ty ls false).t ps:=by exact .nil) (hz:allOne ls=true:=by first | exact rfl |(repeat (first | exact allOne_nil | refine allOne_cons (by first | exact rfl | assumption | exact Ln.one (by assumption) | exact Ln.one (Ro.ln (by assumption)) | exact Ln.one (Gw.ln (by assumption))) ?_))):Em C ((⟨g,some d,.bx ty x,us⟩,.e) :: lm) j e hs h st ps Q :=
 em_e hw (od_bx hx hv hz) hl (hr _ _ ob_new kp_new)
theorem em_st {n0 b k n:Nat} {vs:List V} (ho:Ob h n0 b ty ls) (hr:∀h1,Ob h1 n0 b ty (ls.take k++(vs++ls.drop (k+vs.length)))→Mo h h1 (some b)→Em C lm (j+1) e h1 h1 ((some j,h1) :: st) ps Q) (hw:Gd e g true:=by first | exact .n | exact .tt rfl | exact .ff rfl) (ha:a.lk e=some (.p b k):=by exact rfl) (hx:x.lk e=some v:=by exact rfl) (hv:v.cells=vs:=by exact rfl) (hn:vs.length=n:=by exact rfl) (h1:allOne vs=true:=by first | exact rfl |(repeat (first | exact allOne_nil | refine allOne_cons (by first | exact rfl | assumption | exact Ln.one (by assumption) | exact Ln.one (Ro.ln (by assumption)) | exact Ln.one (Gw.ln (by assumption))) ?_))) (hle:Nat.ble (k+n) ls.length=true:=by exact rfl) (hl:ps = []:=by exact rfl):Em C ((⟨g,none,.st a x n,us⟩,.e) :: lm) j e hs h st ps Q:=by
 subst hl
 obtain⟨p,hp⟩:=ho.row
 have hle2:k+vs.length≤ls.length:=by rw[hn];exact Nat.le_of_ble_eq_true hle
 have h3:=st_ob ho hle2
 exact em_eu hw (od_st ha hx hv hn h1 hp (by rw[←hn];exact hle2)) .nil (hr _ h3.1 h3.2)
end
section
variable {α:Type} [Inhabited α] {sz:Nat} {c:α→Nat→V} {ty:TypeId} {h:H}
theorem em_ms {C:Cx} {d by_ n j:Nat} {us:List Nat} {lm:List (So × Kd)} {e:Env} {hs:H} {st:List (Option Nat × H)} {ps:List Pd} {Q:Env→H→Prop} {z:List V} {y:Rd} {g:Option (Nat × Bool)} (x:α) (hr:∀v h1,Ar h1 h.next v sz ty c (List.replicate n x)→Kp h h1→Em C lm (j+1) ((d,v) :: e) hs h1 st ps Q) (h1:n≤65536) (h2:n*by_≤4294967296) (hz:z=upto (c x) sz 0:=by exact rfl) (ho:allOne z=true:=by exact rfl)
  (hw:Gd e g true:=by first | exact .n | exact .tt rfl | exact .ff rfl) (hy:y.lk e=some (.i .i64 (n:Int)):=by exact rfl):Em C ((⟨g,some d,.ms ty sz by_ z y y,us⟩,.soft) :: lm) j e hs h st ps Q:=by
 have hl:(rep z n).length=n*sz:=by rw[rep_len,hz,upto_len]
 have hfl:rep z n=flat c sz (List.replicate n x):=by rw[hz,flatG_rep]
 refine em_a hw (od_ms hy hy h1 h2 (allOne_rep ho n)) (hr _ _ ⟨by rw[List.length_replicate];exact .sl (Nat.le_refl _),⟨fun i k hi hk=>⟨?_⟩⟩,h.next,false,by rw[List.length_replicate],Nat.le_refl _,Nat.lt_succ_self _,by rw[new_row,if_pos rfl,hl,List.length_replicate]⟩ kp_new)
 show(h.new ty (rep z n) false).cell h.next (0+i*sz+k)=_
 rw[new_cell,if_pos rfl,Nat.zero_add,hfl,flatG_get _ _ _ hi hk]
end
end Go.Proofs.YtkcdehffcddciaaGreatDoor.Vm
