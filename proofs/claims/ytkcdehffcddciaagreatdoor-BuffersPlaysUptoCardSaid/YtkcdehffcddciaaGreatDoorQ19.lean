/- PLAIN: graphs as lists; how they lie in memory. -/
import Derived.Test.YtkcdehffcddciaaGreatDoorQ18
import Derived.Test.YtkcdehffcddciaaGreatDoorProg
import Derived.KernelRfl
namespace Go.Proofs.YtkcdehffcddciaaGreatDoor.Vm
open Go Go.RowKit
theorem mixed:(Tryz.prog).follows .mixedOrders=true:=by kernel_rfl
structure Ev_ where
 thread:Int
 kind:Int
 loc:Int
 val:Int
 mode:Int
instance:Inhabited Ev_:=⟨⟨0,0,0,0,0⟩⟩
structure Gr where
 cells:Int
 ev:List Ev_
 rf:List (Int × Int)
 co:List (List Int)
 rmw:List (Int × Int)
 addr:List (Int × Int)
 data:List (Int × Int)
 ctrl:List (Int × Int)
noncomputable section
def ecell (e:Ev_):Nat→V
 | 0=>.i .i64 e.thread
 | 1=>.i .i64 e.kind
 | 2=>.i .i64 e.loc
 | 3=>.i .u64 e.val
 | _=>.i .i64 e.mode
def B (p:Prop):V:=.b (@decide p (Classical.propDecidable p))
theorem B_t {p:Prop} (h:p):V.b true=B p:=congrArg V.b (@decide_eq_true p (Classical.propDecidable p) h).symm
theorem B_f {p:Prop} (h:¬p):V.b false=B p:=congrArg V.b (@decide_eq_false p (Classical.propDecidable p) h).symm
theorem B_d {p q:Prop} [Decidable q] (h:q↔p):V.b (decide q)=B p:=by
 by_cases hq:q
 ·rw[decide_eq_true hq];exact B_t (h.1 hq)
 ·rw[decide_eq_false hq];exact B_f fun hp=>hq (h.2 hp)
structure Ros (h:H) (v:V) (ll:List (List Int)):Prop where
 is:∃vs:List V,Ro h v 1 vcell vs∧vs.length=ll.length∧∀i,i<ll.length→Ro h (gt vs i) 1 icell (gt ll i)
theorem Ros.kp {h h':H} {v:V} {ll:List (List Int)} (k:Kp h h') (hw:Wf h) (hr:Ros h v ll):Ros h' v ll:=by
 obtain⟨vs,h1,h2,h3⟩:=hr.is
 exact⟨vs,h1.kp k hw,h2,fun i hi=>(h3 i hi).kp k hw⟩
structure GrAt (h:H) (l:List V) (g:Gr):Prop where
 is:∃ve vrf vco vrmw vad vda vct,l = [.i .i64 g.cells,ve,vrf,vco,vrmw,vad,vda,vct]∧Ro h ve 5 ecell g.ev∧Ro h vrf 2 pcell g.rf∧Ros h vco g.co∧Ro h vrmw 2 pcell g.rmw∧Ro h vad 2 pcell g.addr∧Ro h vda 2 pcell g.data∧Ro h vct 2 pcell g.ctrl
theorem GrAt.kp {h h':H} {l:List V} {g:Gr} (k:Kp h h') (hw:Wf h) (hg:GrAt h l g):GrAt h' l g:=by
 obtain⟨ve,vrf,vco,vrmw,vad,vda,vct,h0,h1,h2,h3,h4,h5,h6,h7⟩:=hg.is
 exact⟨ve,vrf,vco,vrmw,vad,vda,vct,h0,h1.kp k hw,h2.kp k hw,h3.kp k hw,h4.kp k hw,h5.kp k hw,h6.kp k hw,h7.kp k hw⟩
theorem Ros.one {h:H} {v:V} {ll:List (List Int)} (hr:Ros h v ll):v.one=true:=by
 obtain⟨vs,h1,_⟩:=hr.is
 exact h1.ln.one
theorem GrAt.one {h:H} {l:List V} {g:Gr} (hg:GrAt h l g):allOne l=true:=by
 obtain⟨ve,vrf,vco,vrmw,vad,vda,vct,rfl,h1,h2,h3,h4,h5,h6,h7⟩:=hg.is
 exact allOne_cons rfl (allOne_cons h1.ln.one (allOne_cons h2.ln.one (allOne_cons h3.one (allOne_cons h4.ln.one (allOne_cons h5.ln.one (allOne_cons h6.ln.one (allOne_cons h7.ln.one rfl)))))))
def IsE (g:Gr) (i kind:Int):Prop:=0≤i∧i<g.ev.length∧(gt g.ev i.toNat).kind=kind
def Bef (g:Gr) (a b:Int):Prop:=0≤a∧a<b∧b<g.ev.length∧0≤(gt g.ev a.toNat).thread∧(gt g.ev a.toNat).thread=(gt g.ev b.toNat).thread
def Nxt (g:Gr) (a b:Int):Prop:=Bef g a b∧∀i:Nat,a<i→(i:Int)<b→(gt g.ev i).thread≠(gt g.ev a.toNat).thread
def ModeOk (kind m:Int) (w:Bool):Prop:=(w=true∧((kind=1∧(m=11∨m=12∨m=16))∨(kind=2∧(m=11∨m=13))∨(kind=3∧(m=14∨m=15)))) ∨
 (w=false∧((kind=1∧(m=1∨m=2∨m=5))∨(kind=2∧(m=1∨m=3∨m=5))∨(kind=3∧(m=2∨m=3∨m=4∨m=5))))
def EvOk (cells:Int) (e:Ev_) (w:Bool):Prop:=0≤e.thread∧e.thread<64∧ModeOk e.kind e.mode w∧((e.kind=3∧e.loc = -1∧e.val=0)∨(e.kind≠3∧0≤e.loc∧e.loc<cells))
def RdC (g:Gr) (n:Nat):Nat:=((List.range n).filter fun r=>(gt g.ev r).kind=1).length
def RfAt (g:Gr) (r:Nat):Prop:=RdC g r<g.rf.length∧(gt g.rf (RdC g r)).2=r∧IsE g (gt g.rf (RdC g r)).1 2∧(gt g.ev (gt g.rf (RdC g r)).1.toNat).loc=(gt g.ev r).loc∧(gt g.ev (gt g.rf (RdC g r)).1.toNat).val=(gt g.ev r).val
def RfOk (g:Gr):Prop:=(∀r,r<g.ev.length→(gt g.ev r).kind=1→RfAt g r)∧g.rf.length≤RdC g g.ev.length
def WrC (g:Gr) (c:Int) (n:Nat):Nat:=((List.range n).filter fun i=>(gt g.ev i).kind=2∧(gt g.ev i).loc=c).length
def CoAt (g:Gr) (c:Nat):Prop:=0<(gt g.co c).length∧gt (gt g.co c) 0=c∧(gt g.co c).length=WrC g c g.ev.length ∧
 ∀i,i<(gt g.co c).length→IsE g (gt (gt g.co c) i) 2∧(gt g.ev (gt (gt g.co c) i).toNat).loc=c∧∀j,j<i→gt (gt g.co c) j≠gt (gt g.co c) i
def CoOk (g:Gr):Prop:=(∀c:Nat,(c:Int)<g.cells→c<g.co.length→CoAt g c)∧(g.co.length:Int)=g.cells
def RmwAt (g:Gr) (i:Nat):Prop:=(0<i→(gt g.rmw (i-1)).1<(gt g.rmw i).1)∧IsE g (gt g.rmw i).1 1∧IsE g (gt g.rmw i).2 2∧Nxt g (gt g.rmw i).1 (gt g.rmw i).2∧(gt g.ev (gt g.rmw i).1.toNat).loc=(gt g.ev (gt g.rmw i).2.toNat).loc
def RmwOk (g:Gr):Prop:=∀i,i<g.rmw.length→RmwAt g i
def DepAt (g:Gr) (l:List (Int × Int)) (w:Int) (i:Nat):Prop:=(0<i→(gt l (i-1)).1<(gt l i).1∨((gt l (i-1)).1=(gt l i).1∧(gt l (i-1)).2<(gt l i).2))∧IsE g (gt l i).1 1∧Bef g (gt l i).1 (gt l i).2∧(w=7→(gt g.ev (gt l i).2.toNat).kind≠3)∧(w=8→(gt g.ev (gt l i).2.toNat).kind=2)
def DepOk (g:Gr) (l:List (Int × Int)) (w:Int):Prop:=∀i,i<l.length→DepAt g l w i
def first_ (w:Bool) (c:Int):Ev_:=⟨-1,2,c,0,if w=true then 11 else 1⟩
structure WF (g:Gr) (w:Bool):Prop where
 size:0≤g.cells∧g.cells≤4096∧g.cells≤g.ev.length∧g.ev.length≤256
 init:∀c:Nat,(c:Int)<g.cells→gt g.ev c=first_ w c
 ev:∀i:Nat,g.cells≤i→i<g.ev.length→EvOk g.cells (gt g.ev i) w
 rf:RfOk g
 co:CoOk g
 rmw:RmwOk g
 addr:DepOk g g.addr 7
 data:DepOk g g.data 8
 ctrl:DepOk g g.ctrl 9
 none:w=false→g.addr = []∧g.data = []∧g.ctrl = []
def threadL (l:List Ev_) (t:Int) (n:Nat):List Int:=((List.range n).filter fun j=>(gt l j).thread=t).map Int.ofNat
theorem threadL_y {l:List Ev_} {t:Int} {n:Nat} (h:(gt l n).thread=t):threadL l t (n+1)=threadL l t n++[(n:Int)]:=by
 unfold threadL
 rw[List.range_succ,List.filter_append,List.map_append]
 simp[h]
theorem threadL_n {l:List Ev_} {t:Int} {n:Nat} (h:(gt l n).thread≠t):threadL l t (n+1)=threadL l t n:=by
 unfold threadL
 rw[List.range_succ,List.filter_append,List.map_append]
 simp[h]
theorem threadL_len (l:List Ev_) (t:Int) (n:Nat):(threadL l t n).length≤n:=by
 unfold threadL
 rw[List.length_map]
 have:=List.length_filter_le (fun j=>decide ((gt l j).thread=t)) (List.range n)
 simpa using this
structure Hidn (q:Prop):Prop where
 out:q
theorem go {p q:Prop} (k:q) (f:Hidn q→p:=by
 intro h
 repeat first
  | refine stF rfl ?_
  | refine mF rfl ?_
  | refine Es.seq ?_
  | refine Es.region ?_
  | refine ew_n ?_
  | refine Nx.code ?_
  | refine Nx.blk ?_
  | refine Es.block ?_
  | refine Es.skip ?_
  | refine Es.exit rfl ?_
  | refine Es.scope ?_
  | refine Es.mix mixed ?_
  | refine em_n ?_
  | refine wg rfl ?_
  | refine mg rfl ?_
  | refine wg_t ?_
  | refine wg_f ?_
  | refine wz_t ?_
  | refine wz_f ?_
  | refine mg_t ?_
  | refine mg_f ?_
  | refine mz_t ?_
  | refine mz_f ?_
  | refine mze_t Lv.nil ?_
  | refine mze_f Lv.nil ?_
  | refine wu rfl ?_
  | refine mu rfl ?_
  | refine mue rfl Lv.nil ?_
  | refine cnd rfl ?_
  | refine ct ?_
  | refine cf ?_
  |(refine ewN ?_;refine stS ?_)
  |(refine emN ?_;first | refine mQ ?_ | refine mS ?_ | refine mQs ?_)
  | refine cDT (by omega) ?_
  | refine cDF (by omega) ?_
  | refine cNT (by omega) ?_
  | refine cNF (by omega) ?_
  | refine wgdT (by omega) ?_
  | refine wgdF (by omega) ?_
  | refine wgnT (by omega) ?_
  | refine wgnF (by omega) ?_
  | refine mgdT (by omega) ?_
  | refine mgdF (by omega) ?_
  | refine mgnT (by omega) ?_
  | refine mgnF (by omega) ?_
 exact h.out):p:=f ⟨k⟩
theorem gol {p q:Prop} (k:q) (f:Hidn q→p:=by
 intro h
 repeat first
  | refine stF rfl ?_
  | refine mF rfl ?_
  | refine Es.seq ?_
  | refine Es.region ?_
  | refine ew_n ?_
  | refine Nx.code ?_
  | refine Nx.blk ?_
  | refine Es.block ?_
  | refine Es.skip ?_
  | refine Es.exit rfl ?_
  | refine Es.scope ?_
  | refine Es.mix mixed ?_
  | refine em_n ?_
  | refine wg rfl ?_
  | refine mg rfl ?_
  | refine wg_t ?_
  | refine wg_f ?_
  | refine wz_t ?_
  | refine wz_f ?_
  | refine mg_t ?_
  | refine mg_f ?_
  | refine mz_t ?_
  | refine mz_f ?_
  | refine mze_t Lv.nil ?_
  | refine mze_f Lv.nil ?_
  | refine wu rfl ?_
  | refine mu rfl ?_
  | refine mue rfl Lv.nil ?_
  | refine cnd rfl ?_
  | refine ct ?_
  | refine cf ?_
  |(refine ewN ?_;refine stS ?_)
  |(refine emN ?_;first | refine mQ ?_ | refine mS ?_ | refine mQs ?_ | refine mL ?_ | refine mLs ?_)
  | refine cDT (by omega) ?_
  | refine cDF (by omega) ?_
  | refine cNT (by omega) ?_
  | refine cNF (by omega) ?_
  | refine wgdT (by omega) ?_
  | refine wgdF (by omega) ?_
  | refine wgnT (by omega) ?_
  | refine wgnF (by omega) ?_
  | refine mgdT (by omega) ?_
  | refine mgdF (by omega) ?_
  | refine mgnT (by omega) ?_
  | refine mgnF (by omega) ?_
 exact h.out):p:=f ⟨k⟩
end
theorem RdC_y {g:Gr} {n:Nat} (h:(gt g.ev n).kind=1):RdC g (n+1)=RdC g n+1:=by
 unfold RdC
 rw[List.range_succ,List.filter_append,List.length_append]
 simp[h]
theorem RdC_n {g:Gr} {n:Nat} (h:(gt g.ev n).kind≠1):RdC g (n+1)=RdC g n:=by
 unfold RdC
 rw[List.range_succ,List.filter_append,List.length_append]
 simp[h]
theorem RdC_le (g:Gr) (n:Nat):RdC g n≤n:=by
 unfold RdC
 have:=List.length_filter_le (fun r=>decide ((gt g.ev r).kind=1)) (List.range n)
 simpa using this
theorem WrC_y {g:Gr} {c:Int} {n:Nat} (h:(gt g.ev n).kind=2∧(gt g.ev n).loc=c):WrC g c (n+1)=WrC g c n+1:=by
 unfold WrC
 rw[List.range_succ,List.filter_append,List.length_append]
 simp[h]
theorem WrC_n {g:Gr} {c:Int} {n:Nat} (h:¬((gt g.ev n).kind=2∧(gt g.ev n).loc=c)):WrC g c (n+1)=WrC g c n:=by
 unfold WrC
 rw[List.range_succ,List.filter_append,List.length_append]
 simp[h]
theorem WrC_le (g:Gr) (c:Int) (n:Nat):WrC g c n≤n:=by
 unfold WrC
 have:=List.length_filter_le (fun i=>decide ((gt g.ev i).kind=2∧(gt g.ev i).loc=c)) (List.range n)
 simpa using this
def Iv (v:V) (p:Prop):Prop:=∃r:Int,v=.i .i64 r∧(r<0↔p)
theorem Iv.n {p:Prop} (hp:p):Iv (.i .i64 (-1)) p:=⟨-1,rfl,fun _=>hp,fun _=>by decide⟩
theorem Iv.y {p:Prop} {n:Nat} (hp:¬p):Iv (.i .i64 (n:Int)) p:=⟨n,rfl,fun h=>by omega,fun h=>absurd h hp⟩
def s48:Sc:=(.seq (.region (
 ⟨none,some 4,.mv (.c (.i .i64 0)),[]⟩ ::
 ⟨none,some 5,.mv (.c (.b false)),[]⟩ :: []))
(.seq (.region (
 ⟨none,some 7,.mv (.t 1),[1]⟩ ::
 ⟨none,some 8,.ar .mul (.c (.i .i64 2)) (.t 7),[7]⟩ ::
 ⟨none,some 6,.mv (.t 8),[8]⟩ :: []))
(.seq (.region (
 ⟨none,some 9,.mv (.t 0),[0]⟩ ::
 ⟨none,some 10,.mv (.t 6),[6]⟩ ::
 ⟨none,some 11,.ar .rem (.t 9) (.t 10),[9,10]⟩ ::
 ⟨none,some 0,.mv (.t 11),[11]⟩ :: []))
(.seq (.seq (.region (
 ⟨none,some 12,.mv (.t 0),[0]⟩ ::
 ⟨none,some 13,.ar .lss (.t 12) (.c (.i .i64 0)),[12]⟩ :: []))
(.cond (.t 13) (.region (
  ⟨none,some 14,.mv (.t 0),[0]⟩ ::
  ⟨none,some 15,.mv (.t 6),[6]⟩ ::
  ⟨none,some 16,.ar .add (.t 14) (.t 15),[14,15]⟩ ::
  ⟨none,some 0,.mv (.t 16),[16]⟩ :: []))
 .skip))
(.seq (.region (
 ⟨none,some 17,.mv (.t 0),[0]⟩ ::
 ⟨none,some 18,.ar .quo (.t 17) (.c (.i .i64 2)),[17]⟩ ::
 ⟨none,some 19,.mv (.t 0),[0]⟩ ::
 ⟨none,some 20,.ar .rem (.t 19) (.c (.i .i64 2)),[19]⟩ ::
 ⟨none,some 21,.eq .int false (.t 20) (.c (.i .i64 0)),[20]⟩ ::
 ⟨none,some 4,.mv (.t 18),[18]⟩ ::
 ⟨none,some 5,.mv (.t 21),[21]⟩ :: []))
.ret)))))
set_option maxRecDepth 100000 in
theorem c48:fnB Tryz.prog 48=some (22,s48,[.t 4,.t 5]):=by kernel_rfl
def s40:Sc:=(.seq (.region (
 ⟨none,some 4,.mv (.c (.i .i64 0)),[]⟩ ::
 ⟨none,some 5,.mv (.c (.b false)),[]⟩ :: []))
(.seq (.region (
 ⟨none,some 7,.mv (.t 1),[1]⟩ ::
 ⟨none,some 8,.ar .mul (.c (.i .i64 2)) (.t 7),[7]⟩ ::
 ⟨none,some 6,.mv (.t 8),[8]⟩ :: []))
(.seq (.region (
 ⟨none,some 9,.mv (.t 0),[0]⟩ ::
 ⟨none,some 10,.mv (.t 6),[6]⟩ ::
 ⟨none,some 11,.ar .rem (.t 9) (.t 10),[9,10]⟩ ::
 ⟨none,some 12,.mv (.t 6),[6]⟩ ::
 ⟨none,some 13,.ar .add (.t 11) (.t 12),[11,12]⟩ ::
 ⟨none,some 14,.mv (.t 6),[6]⟩ ::
 ⟨none,some 15,.ar .rem (.t 13) (.t 14),[13,14]⟩ ::
 ⟨none,some 0,.mv (.t 15),[15]⟩ :: []))
(.seq (.region (
 ⟨none,some 16,.mv (.t 0),[0]⟩ ::
 ⟨none,some 17,.ar .quo (.t 16) (.c (.i .i64 2)),[16]⟩ ::
 ⟨none,some 18,.mv (.t 0),[0]⟩ ::
 ⟨none,some 19,.ar .rem (.t 18) (.c (.i .i64 2)),[18]⟩ ::
 ⟨none,some 20,.eq .int false (.t 19) (.c (.i .i64 0)),[19]⟩ ::
 ⟨none,some 4,.mv (.t 17),[17]⟩ ::
 ⟨none,some 5,.mv (.t 20),[20]⟩ :: []))
.ret))))
set_option maxRecDepth 100000 in
theorem c40:fnB Tryz.prog 40=some (21,s40,[.t 4,.t 5]):=by kernel_rfl
def s13:Sc:=(.seq (.region (
 ⟨none,some 4,.mv (.c (.b false)),[]⟩ :: []))
(.seq (.seq (.region (
 ⟨none,some 6,.mv (.t 0),[0]⟩ ::
 ⟨none,some 7,.len (.t 6),[6]⟩ ::
 ⟨none,some 8,.mv (.t 1),[1]⟩ ::
 ⟨none,some 9,.len (.t 8),[8]⟩ ::
 ⟨none,some 10,.eq .int true (.t 7) (.t 9),[7,9]⟩ :: []))
(.cond (.t 10) (.seq (.region (
 ⟨none,some 4,.mv (.c (.b false)),[]⟩ :: []))
.ret)
 .skip))
(.seq (.seq (.region (
 ⟨none,some 5,.mv (.c (.i .i64 0)),[]⟩ :: []))
(.block 0 (.loop (.seq (.seq (.region (
 ⟨none,some 11,.mv (.t 5),[5]⟩ ::
 ⟨none,some 12,.mv (.t 0),[0]⟩ ::
 ⟨none,some 13,.len (.t 12),[12]⟩ ::
 ⟨none,some 14,.ar .lss (.t 11) (.t 13),[11,13]⟩ :: []))
(.cond (.t 14) .skip
 (.exit 0)))
(.seq (.block 1 (.seq (.mix (
 (⟨none,some 17,.mv (.t 0),[0]⟩,.q [none]) ::
 (⟨none,some 18,.mv (.t 5),[5]⟩,.q [none]) ::
 (⟨none,some 19,.ia (.t 17) (.t 18) 1,[17,18]⟩,.q [none]) ::
 (⟨none,some 20,.ld (.t 19),[19]⟩,.q [none]) ::
 (⟨none,some 21,.mv (.t 1),[1]⟩,.q [none]) ::
 (⟨none,some 22,.mv (.t 5),[5]⟩,.q [none]) ::
 (⟨none,some 23,.ia (.t 21) (.t 22) 1,[21,22]⟩,.q [none]) ::
 (⟨none,some 24,.ld (.t 23),[23]⟩,.q [none]) ::
 (⟨none,some 25,.eq .int true (.t 20) (.t 24),[20,24]⟩,.q [none]) :: []))
(.cond (.t 25) (.seq (.region (
 ⟨none,some 4,.mv (.c (.b false)),[]⟩ :: []))
.ret)
 .skip)))
(.region (
 ⟨none,some 15,.mv (.t 5),[5]⟩ ::
 ⟨none,some 16,.ar .add (.t 15) (.c (.i .i64 1)),[15]⟩ ::
 ⟨none,some 5,.mv (.t 16),[16]⟩ :: [])))))))
(.seq (.region (
 ⟨none,some 4,.mv (.c (.b true)),[]⟩ :: []))
.ret))))
set_option maxRecDepth 100000 in
theorem c13:fnB Tryz.prog 13=some (26,s13,[.t 4]):=by kernel_rfl
def pickV (p n:Int):V:=.tup [.i .i64 (p % (2*n) / 2),.b (decide (p % (2*n) % 2=0))]
theorem tmod_fix {p m:Int} (hm:0<m):(if p.tmod m<0 then p.tmod m+m else p.tmod m)=p % m:=by
 have h1:=Int.emod_nonneg p (Int.ne_of_gt hm)
 have h2:=Int.emod_lt_of_pos p hm
 have h3:=Int.tmod_eq_emod (a:=p) (b:=m)
 split at h3
 ·split <;> omega
 ·split <;> omega
set_option maxHeartbeats 0 in
theorem rpick_spec {m:Bool} {h:H} {p n:Int} (h0:0<n) (h1:n≤64):FX m Tryz.prog 48 [.i .i64 p,.i .i64 n] h fun v h'=>v=pickV p n∧h'=h:=by
 refine Fn.env c48 rfl ?_
 unfold s48
 have hf:=tmod_fix (p:=p) (m:=2*n) (by omega)
 have e1:=Int.emod_nonneg p (show(2*n)≠0 by omega)
 have e2:=Int.emod_lt_of_pos p (show 0<2*n by omega)
 refine go ?_
 refine ew_s .n (od_mul rfl rfl ⟨by omega,by omega⟩) ?_
 refine go ?_
 refine ew_s .n (od_rem rfl rfl (by omega)) ?_
 refine go ?_
 refine cD (fun hlt=>?_) (fun hge=>?_)
 ·rw[if_pos hlt]at hf
  refine go ?_
  rw[hf]
  refine go ?_
  refine ew_s .n (od_quo rfl rfl (by decide) (by rw[Int.tdiv_eq_ediv_of_nonneg e1];omega)) ?_
  refine go ?_
  refine ew_s .n (od_rem rfl rfl (by decide)) ?_
  rw[Int.tdiv_eq_ediv_of_nonneg e1,Int.tmod_eq_emod_of_nonneg e1]
  refine go ?_
  exact ret_2 ⟨rfl,rfl⟩
 ·rw[if_neg hge]at hf
  rw[hf]
  refine go ?_
  refine ew_s .n (od_quo rfl rfl (by decide) (by rw[Int.tdiv_eq_ediv_of_nonneg e1];omega)) ?_
  refine go ?_
  refine ew_s .n (od_rem rfl rfl (by decide)) ?_
  rw[Int.tdiv_eq_ediv_of_nonneg e1,Int.tmod_eq_emod_of_nonneg e1]
  refine go ?_
  exact ret_2 ⟨rfl,rfl⟩
set_option maxHeartbeats 0 in
theorem ppick_spec {m:Bool} {h:H} {p n:Int} (h0:0<n) (h1:n≤64):FX m Tryz.prog 40 [.i .i64 p,.i .i64 n] h fun v h'=>v=pickV p n∧h'=h:=by
 refine Fn.env c40 rfl ?_
 unfold s40
 have hf:=tmod_fix (p:=p) (m:=2*n) (by omega)
 have e1:=Int.emod_nonneg p (show(2*n)≠0 by omega)
 have e2:=Int.emod_lt_of_pos p (show 0<2*n by omega)
 have e3:=Int.tmod_lt_of_pos p (show 0<2*n by omega)
 have e4:=Int.lt_tmod_of_pos p (show 0<2*n by omega)
 have hg:(p.tmod (2*n)+2*n).tmod (2*n)=p % (2*n):=by
  rw[Int.tmod_eq_emod_of_nonneg (by omega),Int.add_emod_right,←hf]
  split
  ·rw[←Int.add_emod_right]
   exact Int.emod_eq_of_lt (by omega) (by omega)
  ·exact Int.emod_eq_of_lt (by omega) e3
 refine go ?_
 refine ew_s .n (od_mul rfl rfl ⟨by omega,by omega⟩) ?_
 refine go ?_
 refine ew_s .n (od_rem rfl rfl (by omega)) ?_
 refine go ?_
 refine ew_s .n (od_rem rfl rfl (by omega)) ?_
 rw[hg]
 refine go ?_
 refine ew_s .n (od_quo rfl rfl (by decide) (by rw[Int.tdiv_eq_ediv_of_nonneg e1];omega)) ?_
 refine go ?_
 refine ew_s .n (od_rem rfl rfl (by decide)) ?_
 rw[Int.tdiv_eq_ediv_of_nonneg e1,Int.tmod_eq_emod_of_nonneg e1]
 refine go ?_
 exact ret_2 ⟨rfl,rfl⟩
set_option maxHeartbeats 0 in
theorem ints_spec {m:Bool} {h:H} {va vb:V} {a b:List Int} (ha:Ro h va 1 icell a) (hb:Ro h vb 1 icell b) (hn:a.length≤100000000):FX m Tryz.prog 13 [va,vb] h fun v h'=>v=B (a=b)∧h'=h:=by
 refine Fn.env c13 rfl ?_
 unfold s13
 obtain⟨hL,hC⟩:=ha
 obtain⟨hL2,hD⟩:=hb
 refine go ?_
 refine cN (fun hne=>?_) (fun heq=>?_)
 ·skip
  refine go ?_
  exact ret_1 ⟨B_f fun h=>hne (by rw[h]),rfl⟩
 have hl:a.length=b.length:=by omega
 refine go ?_
 refine Es.loop (X:=Nat) (fun x=>a.length-x) (fun x=>[(0,va),(1,vb),(5,.i .i64 (x:Int))]) (fun x h'=>x≤a.length∧h'=h∧∀i,i<x→gt a i=gt b i) 0 ⟨rfl,rfl,rfl,trivial⟩ ⟨Nat.zero_le _,rfl,fun i hi=>absurd hi (Nat.not_lt_zero _)⟩ fun x h2 hx=>?_
 obtain⟨hx,rfl,hI⟩:=hx
 refine go ?_
 refine cD (fun hlt=>?_) (fun hge=>?_)
 ·skip
  refine go ?_
  refine cN (fun hne=>?_) (fun he=>?_)
  ·skip
   refine go ?_
   exact ret_1 ⟨B_f fun h=>hne (by rw[h]),rfl⟩
  ·skip
   refine go ?_
   exact Nx.inv (x+1) (by omega) ⟨rfl,rfl,rfl,trivial⟩ ⟨by omega,rfl,fun i hi=>by
    rcases Nat.lt_succ_iff_lt_or_eq.1 hi with h1 | h1
    ·exact hI i h1
    ·subst h1;exact he⟩
 ·skip
  refine go ?_
  exact ret_1 ⟨B_t (gt_ext hl fun i hi=>hI i (by omega)),rfl⟩
def s102:Sc:=(.seq (.region (
 ⟨none,some 2,.bx 26 (.t 0),[0]⟩ ::
 ⟨none,some 4,.mv (.c .ns),[]⟩ :: []))
(.seq (.region (
 ⟨none,some 5,.mv (.c .ns),[]⟩ :: []))
(.seq (.seq (.region (
 ⟨none,some 6,.mv (.c (.i .i64 0)),[]⟩ :: []))
(.block 0 (.loop (.seq (.seq (.region (
 ⟨none,some 7,.mv (.t 6),[6]⟩ ::
 ⟨none,some 8,.fa (.t 2) 1,[2]⟩ ::
 ⟨none,some 9,.ld (.t 8),[8]⟩ ::
 ⟨none,some 10,.len (.t 9),[9]⟩ ::
 ⟨none,some 11,.ar .lss (.t 7) (.t 10),[7,10]⟩ :: []))
(.cond (.t 11) .skip
 (.exit 0)))
(.seq (.block 1 (.seq (.region (
 ⟨none,some 14,.fa (.t 2) 1,[2]⟩ ::
 ⟨none,some 15,.ld (.t 14),[14]⟩ ::
 ⟨none,some 16,.mv (.t 6),[6]⟩ ::
 ⟨none,some 17,.ia (.t 15) (.t 16) 5,[15,16]⟩ ::
 ⟨none,some 18,.fa (.t 17) 0,[17]⟩ ::
 ⟨none,some 19,.ld (.t 18),[18]⟩ ::
 ⟨none,some 20,.mv (.t 1),[1]⟩ ::
 ⟨none,some 21,.eq .int false (.t 19) (.t 20),[19,20]⟩ :: []))
(.cond (.t 21) (.region (
  ⟨none,some 22,.mv (.t 5),[5]⟩ ::
  ⟨none,some 23,.mv (.t 6),[6]⟩ ::
  ⟨none,some 24,.bs 3 1 1 [(.i .i64 0)] [(0,1,(.t 23))],[23]⟩ ::
  ⟨none,some 25,.ap 3 1 8 (.t 22) (.t 24),[22,24]⟩ ::
  ⟨none,some 5,.mv (.t 25),[25]⟩ :: []))
 .skip)))
(.region (
 ⟨none,some 12,.mv (.t 6),[6]⟩ ::
 ⟨none,some 13,.ar .add (.t 12) (.c (.i .i64 1)),[12]⟩ ::
 ⟨none,some 6,.mv (.t 13),[13]⟩ :: [])))))))
(.seq (.region (
 ⟨none,some 26,.mv (.t 5),[5]⟩ ::
 ⟨none,some 4,.mv (.t 26),[26]⟩ :: []))
.ret))))
set_option maxRecDepth 100000 in
theorem c102:fnB Tryz.prog 102=some (27,s102,[.t 4]):=by kernel_rfl
theorem thread_spec {m:Bool} {h:H} {gl:List V} {g:Gr} {t:Int} (hw:Wf h) (hg:GrAt h gl g) (hn:g.ev.length≤100000000) :
  FX m Tryz.prog 102 [.agg gl,.i .i64 t] h fun v h'=>Gw h' h.next v 1 3 icell (threadL g.ev t g.ev.length)∧Kp h h':=by
 obtain⟨ve,vrf,vco,vrmw,vad,vda,vct,rfl,he,_⟩:=hg.is
 refine Fn.env c102 rfl ?_
 unfold s102
 refine Es.seq (Es.region (ew_bx (hz:=hg.one) fun b h1 ob k1=>?_))
 have hw1:=k1.wf hw
 have hB:=ob.bx
 have he1:=he.kp k1 hw
 have hL:=he1.ln
 have hC:=he1.cs
 refine go ?_
 refine Es.loop (X:=Nat × V) (fun x=>g.ev.length-x.1) (fun x=>[(1,.i .i64 t),(2,.p b 0),(5,x.2),(6,.i .i64 (x.1:Int))]) (fun x h=>x.1≤g.ev.length∧Kp h1 h∧Gw h h1.next x.2 1 3 icell (threadL g.ev t x.1)) (0,.ns) ⟨rfl,rfl,rfl,rfl,trivial⟩ ⟨Nat.zero_le _,.refl _,.nil⟩ fun x h2 hx=>?_
 obtain⟨i,v⟩:=x
 obtain⟨hi,k2,hg2⟩:=hx
 simp only at hi hg2 ⊢
 refine go ?_
 refine cD (fun hlt=>?_) (fun hge=>?_)
 ·skip
  refine go ?_
  refine cD (fun heq=>?_) (fun hne=>?_)
  ·skip
   refine go ?_
   refine ew_app (i:Int) hg2 rfl rfl rfl rfl rfl (by omega) (by have:=threadL_len g.ev t i;omega) (by have:=k2.le;omega) fun v' h3 hg3 m3=>?_
   refine go ?_
   refine Nx.inv (i+1,v') (by simp only;omega) ⟨rfl,rfl,rfl,rfl,trivial⟩ ⟨by simp only;omega,m3.kp k2 fun j hj=>(hg2.blk j hj).1,by simp only;rw[threadL_y heq];exact hg3⟩
  ·skip
   refine go ?_
   refine Nx.inv (i+1,v) (by simp only;omega) ⟨rfl,rfl,rfl,rfl,trivial⟩ ⟨by simp only;omega,k2,by simp only;rw[threadL_n hne];exact hg2⟩
 ·skip
  refine go ?_
  have:i=g.ev.length:=by omega
  subst this
  exact Es.ret ⟨v,rt1 rfl,hg2.low k1.le,k1.trans k2⟩
def s36:Sc:=(.seq (.region (
 ⟨none,some 2,.mv (.c (.b false)),[]⟩ :: []))
(.seq (.region (
 ⟨none,some 3,.mv (.t 0),[0]⟩ ::
 ⟨none,some 4,.eq .int false (.t 3) (.c (.i .i64 5)),[3]⟩ ::
 ⟨none,some 5,.mv (.t 4),[4]⟩ ::
 ⟨some (5,false),some 6,.mv (.t 0),[0,5]⟩ ::
 ⟨some (5,false),some 7,.eq .int false (.t 6) (.c (.i .i64 15)),[6,5]⟩ ::
 ⟨none,some 8,.pk (.t 5) (.c (.b true)) (.t 7),[5,7]⟩ ::
 ⟨none,some 2,.mv (.t 8),[8]⟩ :: []))
.ret))
set_option maxRecDepth 100000 in
theorem c36:fnB Tryz.prog 36=some (9,s36,[.t 2]):=by kernel_rfl
def s62:Sc:=(.seq (.region (
 ⟨none,some 1,.bx 37 (.t 0),[0]⟩ ::
 ⟨none,some 2,.mv (.c (.b false)),[]⟩ :: []))
(.seq (.region (
 ⟨none,some 3,.fa (.t 1) 1,[1]⟩ ::
 ⟨none,some 4,.ld (.t 3),[3]⟩ ::
 ⟨none,some 5,.eq .int false (.t 4) (.c (.i .i64 3)),[4]⟩ ::
 ⟨none,some 6,.mv (.t 5),[5]⟩ ::
 ⟨some (6,true),some 7,.fa (.t 1) 4,[1,6]⟩ ::
 ⟨some (6,true),some 8,.ld (.t 7),[7,6]⟩ ::
 ⟨some (6,true),some 9,.eq .int false (.t 8) (.c (.i .i64 5)),[8,6]⟩ ::
 ⟨some (6,true),some 10,.mv (.t 9),[9,6]⟩ ::
 ⟨some (10,false),some 11,.fa (.t 1) 4,[1,10]⟩ ::
 ⟨some (10,false),some 12,.ld (.t 11),[11,10]⟩ ::
 ⟨some (10,false),some 13,.eq .int false (.t 12) (.c (.i .i64 15)),[12,10]⟩ ::
 ⟨some (6,true),some 14,.pk (.t 10) (.c (.b true)) (.t 13),[10,13,6]⟩ ::
 ⟨none,some 15,.pk (.t 6) (.t 14) (.c (.b false)),[6,14]⟩ ::
 ⟨none,some 2,.mv (.t 15),[15]⟩ :: []))
.ret))
set_option maxRecDepth 100000 in
theorem c62:fnB Tryz.prog 62=some (16,s62,[.t 2]):=by kernel_rfl
def s64:Sc:=(.seq (.region (
 ⟨none,some 2,.bx 26 (.t 0),[0]⟩ ::
 ⟨none,some 4,.mv (.c (.i .i64 0)),[]⟩ :: []))
(.seq (.seq (.region (
 ⟨none,some 5,.mv (.c (.i .i64 0)),[]⟩ :: []))
(.block 0 (.loop (.seq (.seq (.region (
 ⟨none,some 6,.mv (.t 5),[5]⟩ ::
 ⟨none,some 7,.fa (.t 2) 4,[2]⟩ ::
 ⟨none,some 8,.ld (.t 7),[7]⟩ ::
 ⟨none,some 9,.len (.t 8),[8]⟩ ::
 ⟨none,some 10,.ar .lss (.t 6) (.t 9),[6,9]⟩ :: []))
(.cond (.t 10) .skip
 (.exit 0)))
(.seq (.block 1 (.seq (.region (
 ⟨none,some 13,.fa (.t 2) 4,[2]⟩ ::
 ⟨none,some 14,.ld (.t 13),[13]⟩ ::
 ⟨none,some 15,.mv (.t 5),[5]⟩ ::
 ⟨none,some 16,.ia (.t 14) (.t 15) 2,[14,15]⟩ ::
 ⟨none,some 17,.fa (.t 16) 0,[16]⟩ ::
 ⟨none,some 18,.ld (.t 17),[17]⟩ ::
 ⟨none,some 19,.mv (.t 1),[1]⟩ ::
 ⟨none,some 20,.eq .int false (.t 18) (.t 19),[18,19]⟩ :: []))
(.cond (.t 20) (.seq (.region (
 ⟨none,some 21,.fa (.t 2) 4,[2]⟩ ::
 ⟨none,some 22,.ld (.t 21),[21]⟩ ::
 ⟨none,some 23,.mv (.t 5),[5]⟩ ::
 ⟨none,some 24,.ia (.t 22) (.t 23) 2,[22,23]⟩ ::
 ⟨none,some 25,.fa (.t 24) 1,[24]⟩ ::
 ⟨none,some 26,.ld (.t 25),[25]⟩ ::
 ⟨none,some 4,.mv (.t 26),[26]⟩ :: []))
.ret)
 .skip)))
(.region (
 ⟨none,some 11,.mv (.t 5),[5]⟩ ::
 ⟨none,some 12,.ar .add (.t 11) (.c (.i .i64 1)),[11]⟩ ::
 ⟨none,some 5,.mv (.t 12),[12]⟩ :: [])))))))
(.seq (.region (
 ⟨none,some 4,.mv (.c (.i .i64 (-1))),[]⟩ :: []))
.ret)))
set_option maxRecDepth 100000 in
theorem c64:fnB Tryz.prog 64=some (27,s64,[.t 4]):=by kernel_rfl
def s46:Sc:=(.seq (.region (
 ⟨none,some 1,.bx 26 (.t 0),[0]⟩ ::
 ⟨none,some 2,.mv (.c .ns),[]⟩ :: []))
(.seq (.region (
 ⟨none,some 3,.mv (.c (.i .i64 0)),[]⟩ :: []))
(.seq (.seq (.region (
 ⟨none,some 4,.mv (.c (.i .i64 0)),[]⟩ :: []))
(.block 0 (.loop (.seq (.seq (.region (
 ⟨none,some 7,.mv (.t 4),[4]⟩ ::
 ⟨none,some 8,.fa (.t 1) 1,[1]⟩ ::
 ⟨none,some 9,.ld (.t 8),[8]⟩ ::
 ⟨none,some 10,.len (.t 9),[9]⟩ ::
 ⟨none,some 11,.ar .lss (.t 7) (.t 10),[7,10]⟩ :: []))
(.cond (.t 11) .skip
 (.exit 0)))
(.seq (.block 1 (.seq (.region (
 ⟨none,some 14,.fa (.t 1) 1,[1]⟩ ::
 ⟨none,some 15,.ld (.t 14),[14]⟩ ::
 ⟨none,some 16,.mv (.t 4),[4]⟩ ::
 ⟨none,some 17,.ia (.t 15) (.t 16) 5,[15,16]⟩ ::
 ⟨none,some 18,.fa (.t 17) 0,[17]⟩ ::
 ⟨none,some 19,.ld (.t 18),[18]⟩ ::
 ⟨none,some 20,.mv (.t 3),[3]⟩ ::
 ⟨none,some 21,.ar .geq (.t 19) (.t 20),[19,20]⟩ :: []))
(.cond (.t 21) (.region (
  ⟨none,some 22,.fa (.t 1) 1,[1]⟩ ::
  ⟨none,some 23,.ld (.t 22),[22]⟩ ::
  ⟨none,some 24,.mv (.t 4),[4]⟩ ::
  ⟨none,some 25,.ia (.t 23) (.t 24) 5,[23,24]⟩ ::
  ⟨none,some 26,.fa (.t 25) 0,[25]⟩ ::
  ⟨none,some 27,.ld (.t 26),[26]⟩ ::
  ⟨none,some 28,.ar .add (.t 27) (.c (.i .i64 1)),[27]⟩ ::
  ⟨none,some 3,.mv (.t 28),[28]⟩ :: []))
 .skip)))
(.region (
 ⟨none,some 12,.mv (.t 4),[4]⟩ ::
 ⟨none,some 13,.ar .add (.t 12) (.c (.i .i64 1)),[12]⟩ ::
 ⟨none,some 4,.mv (.t 13),[13]⟩ :: [])))))))
(.seq (.region (
 ⟨none,some 29,.mv (.t 3),[3]⟩ ::
 ⟨none,some 30,.ms 27 1 24 [.ns] (.t 29) (.t 29),[29,29]⟩ ::
 ⟨none,some 5,.mv (.t 30),[30]⟩ :: []))
(.seq (.seq (.region (
 ⟨none,some 6,.mv (.c (.i .i64 0)),[]⟩ :: []))
(.block 2 (.loop (.seq (.seq (.region (
 ⟨none,some 31,.mv (.t 6),[6]⟩ ::
 ⟨none,some 32,.mv (.t 3),[3]⟩ ::
 ⟨none,some 33,.ar .lss (.t 31) (.t 32),[31,32]⟩ :: []))
(.cond (.t 33) .skip
 (.exit 2)))
(.seq (.block 3 (.region (
 ⟨none,some 36,.mv (.t 5),[5]⟩ ::
 ⟨none,some 37,.mv (.t 6),[6]⟩ ::
 ⟨none,some 38,.lds (.t 1) 8,[1]⟩ ::
 ⟨none,some 39,.mv (.t 6),[6]⟩ ::
 ⟨none,some 40,.call 102 [(.t 38),(.t 39)],[38,39]⟩ ::
 ⟨none,some 41,.ia (.t 36) (.t 37) 1,[36,37]⟩ ::
 ⟨none,none,.st (.t 41) (.t 40) 1,[41,40]⟩ :: [])))
(.region (
 ⟨none,some 34,.mv (.t 6),[6]⟩ ::
 ⟨none,some 35,.ar .add (.t 34) (.c (.i .i64 1)),[34]⟩ ::
 ⟨none,some 6,.mv (.t 35),[35]⟩ :: [])))))))
(.seq (.region (
 ⟨none,some 42,.mv (.t 5),[5]⟩ ::
 ⟨none,some 2,.mv (.t 42),[42]⟩ :: []))
.ret))))))
set_option maxRecDepth 100000 in
theorem c46:fnB Tryz.prog 46=some (43,s46,[.t 2]):=by kernel_rfl
set_option maxHeartbeats 0 in
theorem pfull_spec {m:Bool} {h:H} {md:Int}:FX m Tryz.prog 36 [.i .i64 md] h fun v h'=>v=B (md=5∨md=15)∧h'=h:=by
 refine Fn.env c36 rfl ?_
 unfold s36
 refine go ?_
 repeat' ((first | refine wgd (fun _=>?_) fun _=>?_ | refine wgn (fun _=>?_) fun _=>?_ | refine wgb (fun _=>?_) fun _=>?_ | refine mgd (fun _=>?_) fun _=>?_ | refine mgn (fun _=>?_) fun _=>?_ | refine mgb (fun _=>?_) fun _=>?_ | refine cD (fun _=>?_) fun _=>?_ | refine cN (fun _=>?_) fun _=>?_ | refine cB (fun _=>?_) fun _=>?_) <;> refine go ?_)
 all_goals refine ret_1 ⟨?_,rfl⟩
 all_goals first | exact B_t (by omega) | exact B_f (by omega) | exact B_d (by omega)
set_option maxHeartbeats 0 in
theorem rfull_spec {m:Bool} {h:H} {x:Ev_}:FX m Tryz.prog 62 [.agg (upto (ecell x) 5 0)] h fun v h'=>v=B (x.kind=3∧(x.mode=5∨x.mode=15))∧Kp h h':=by
 refine Fn.env c62 rfl ?_
 unfold s62
 refine Es.seq (Es.region (ew_bx fun b h1 ob k1=>?_))
 have hB:=ob.bx
 refine go ?_
 repeat' ((first | refine wgd (fun _=>?_) fun _=>?_ | refine wgn (fun _=>?_) fun _=>?_ | refine wgb (fun _=>?_) fun _=>?_ | refine mgd (fun _=>?_) fun _=>?_ | refine mgn (fun _=>?_) fun _=>?_ | refine mgb (fun _=>?_) fun _=>?_ | refine cD (fun _=>?_) fun _=>?_ | refine cN (fun _=>?_) fun _=>?_ | refine cB (fun _=>?_) fun _=>?_) <;> refine go ?_)
 all_goals refine ret_1 ⟨?_,k1⟩
 all_goals first | exact B_t (by omega) | exact B_f (by omega) | exact B_d (by omega)
def secV (i:Int):List (Int × Int)→Int
 | []=>-1
 | p :: l=>if p.1=i then p.2 else secV i l
theorem cells_one_ {v:V} (h:v.one=true):v.cells = [v]:=by
 cases v <;> first | rfl | cases h
theorem secV_at {i:Int}:∀{l:List (Int × Int)} {k:Nat},k<l.length→(∀j,j<k→(gt l j).1≠i)→(gt l k).1=i→secV i l=(gt l k).2
 | p :: l,0,_,_,h=>by
  unfold secV
  rw[if_pos (show p.1=i from h)]
  rfl
 | p :: l,k+1,hk,hn,h=>by
  unfold secV
  rw[if_neg (show ¬p.1=i from hn 0 (Nat.zero_lt_succ _))]
  exact secV_at (l:=l) (Nat.lt_of_succ_lt_succ hk) (fun j hj=>hn (j+1) (Nat.succ_lt_succ hj)) h
theorem secV_no {i:Int}:∀{l:List (Int × Int)},(∀j,j<l.length→(gt l j).1≠i)→secV i l = -1
 | [],_=>rfl
 | p :: l,hn=>by
  unfold secV
  rw[if_neg (show ¬p.1=i from hn 0 (Nat.zero_lt_succ _))]
  exact secV_no (l:=l) fun j hj=>hn (j+1) (Nat.succ_lt_succ hj)
set_option maxHeartbeats 0 in
theorem second_spec {m:Bool} {h:H} {gl:List V} {g:Gr} {i:Int} (hw:Wf h) (hg:GrAt h gl g) (hn:g.rmw.length≤100000000):FX m Tryz.prog 64 [.agg gl,.i .i64 i] h fun v h'=>v=.i .i64 (secV i g.rmw)∧Kp h h':=by
 have hone:=hg.one
 obtain⟨ve,vrf,vco,vrmw,vad,vda,vct,rfl,-,-,-,hrm,-⟩:=hg.is
 refine Fn.env c64 rfl ?_
 unfold s64
 refine Es.seq (Es.region (ew_bx (hz:=hone) fun b h1 ob k1=>?_))
 have hB:=ob.bx
 obtain⟨hL,hC⟩:=hrm.kp k1 hw
 refine go ?_
 refine Es.loop (X:=Nat) (fun x=>g.rmw.length-x) (fun x=>[(1,.i .i64 i),(2,.p b 0),(5,.i .i64 (x:Int))]) (fun x h'=>x≤g.rmw.length∧h'=h1∧∀j,j<x→(gt g.rmw j).1≠i) 0 ⟨rfl,rfl,rfl,trivial⟩ ⟨Nat.zero_le _,rfl,fun i hi=>absurd hi (Nat.not_lt_zero _)⟩ fun x h2 hx=>?_
 obtain⟨hx,e2,hI⟩:=hx
 obtain rfl:=e2.symm
 refine go ?_
 refine cD (fun hlt=>?_) (fun hge=>?_)
 ·skip
  refine go ?_
  refine cD (fun he=>?_) (fun hne=>?_)
  ·skip
   refine go ?_
   exact ret_1 ⟨by rw[secV_at (by omega) hI he],k1⟩
  ·skip
   refine go ?_
   exact Nx.inv (x+1) (by omega) ⟨rfl,rfl,rfl,trivial⟩ ⟨by omega,rfl,fun j hj=>by
    rcases Nat.lt_succ_iff_lt_or_eq.1 hj with h1 | h1
    ·exact hI j h1
    ·subst h1;exact hne⟩
 ·skip
  refine go ?_
  exact ret_1 ⟨by rw[secV_no fun j hj=>hI j (by omega)],k1⟩
def thrN (l:List Ev_):Nat→Int
 | 0=>0
 | n+1=>max (thrN l n) ((gt l n).thread+1)
theorem thrN_le {l:List Ev_}:∀{n:Nat},(∀i,i<n→(gt l i).thread<64)→0≤thrN l n∧thrN l n≤64
 | 0,_=>⟨Int.le_refl _,by show(0:Int)≤64;omega⟩
 | n+1,h=>by
  have h1:=thrN_le (n:=n) fun i hi=>h i (by omega)
  have h2:=h n (by omega)
  show 0≤max (thrN l n) ((gt l n).thread+1)∧max (thrN l n) ((gt l n).thread+1)≤64
  omega
set_option maxHeartbeats 0 in
theorem rthreads_spec {m:Bool} {h:H} {gl:List V} {g:Gr} (hw:Wf h) (hg:GrAt h gl g) (hn:g.ev.length≤256) (ht:∀i,i<g.ev.length→(gt g.ev i).thread<64) (n:Nat) (hN:thrN g.ev g.ev.length=n):FX m Tryz.prog 46 [.agg gl] h fun v h'=>(∃vs:List V,Ar h' h.next v 1 27 vcell vs∧vs.length=n∧∀t,t<n→Gw h' h.next (gt vs t) 1 3 icell (threadL g.ev t g.ev.length))∧Kp h h':=by
 have hone:=hg.one
 obtain⟨ve,vrf,vco,vrmw,vad,vda,vct,rfl,he,-⟩:=hg.is
 refine Fn.env c46 rfl ?_
 unfold s46
 refine Es.seq (Es.region (ew_bx (hz:=hone) fun b h1 ob k1=>?_))
 have hw1:=k1.wf hw
 have hB1:=ob.bx
 have hB:=hB1
 have hg1:=hg.kp k1 hw
 obtain⟨hL,hC⟩:=he.kp k1 hw
 refine go ?_
 refine Es.loop (X:=Nat) (fun x=>g.ev.length-x) (fun x=>[(1,.p b 0),(3,.i .i64 (thrN g.ev x)),(4,.i .i64 (x:Int))]) (fun x h'=>x≤g.ev.length∧h'=h1) 0 ⟨rfl,rfl,rfl,trivial⟩ ⟨Nat.zero_le _,rfl⟩ fun x h2 hx=>?_
 obtain⟨hx,e2⟩:=hx
 obtain rfl:=e2.symm
 have hb:=thrN_le (l:=g.ev) (n:=x) fun i hi=>ht i (by omega)
 refine go ?_
 refine cD (fun hlt=>?_) (fun hge=>?_)
 ·have hb2:=ht x (by omega)
  refine go ?_
  refine cD (fun h1=>?_) (fun h1=>?_)
  ·skip
   refine go ?_
   exact Nx.inv (x+1) (by omega) ⟨rfl,by show _=some (V.i .i64 (max (thrN g.ev x) ((gt g.ev x).thread+1)));rw[Int.max_eq_right (by omega)];rfl,rfl,trivial⟩ ⟨by omega,rfl⟩
  ·skip
   refine go ?_
   exact Nx.inv (x+1) (by omega) ⟨rfl,by show _=some (V.i .i64 (max (thrN g.ev x) ((gt g.ev x).thread+1)));rw[Int.max_eq_left (by omega)];rfl,rfl,trivial⟩ ⟨by omega,rfl⟩
 have hxe:x=g.ev.length:=by omega
 subst hxe
 rw[hN]at hb ⊢
 refine go ?_
 refine ew_ms (α:=V) (c:=vcell) (n:=n) .ns (fun vn h3 hA3 k3=>?_) (by omega) (by omega)
 have hvb:=hA3.blk.2.2
 have hlo3:=hA3.blk.2.1
 have hw3:=k3.wf hw1
 refine go ?_
 refine Es.loop (X:=Nat × List V) (fun x=>n-x.1) (fun x=>[(1,.p b 0),(3,.i .i64 (n:Int)),(5,vn),(6,.i .i64 (x.1:Int))]) (fun x h'=>x.1≤n∧Kp h1 h'∧h3.next≤h'.next∧Ar h' h1.next vn 1 27 vcell x.2∧x.2.length=n∧∀t,t<x.1→Gw h' h3.next (gt x.2 t) 1 3 icell (threadL g.ev t g.ev.length)) (0,List.replicate n .ns) ⟨rfl,rfl,rfl,rfl,trivial⟩ ⟨Nat.zero_le _,k3,Nat.le_refl _,hA3,List.length_replicate,fun t ht=>absurd ht (Nat.not_lt_zero _)⟩ fun x h4 hx=>?_
 obtain⟨t,vs⟩:=x
 clear hA3 k3
 obtain⟨htn,k4,hle4,hA,hvl,hI⟩:=hx
 simp only at htn hA hvl hI ⊢
 have hw4:=k4.wf hw1
 have hB:=hB1.kp k4 hw1
 have hg4:=hg1.kp k4 hw1
 refine go ?_
 refine cD (fun hlt=>?_) (fun hge=>?_)
 ·skip
  refine go ?_
  refine stC (thread_spec hw4 hg4 (by omega)) fun v h5 hR=>?_
  obtain⟨hG,k5⟩:=hR
  have hA5:=hA.mo (Mo.of_kp k5 none) (fun h=>by cases h)
  have hLn:Ln vn 1 n:=by rw[←hvl];exact hA5.ln
  have hone5:=hG.ln.one
  have hI5:∀s,s<t→Gw h5 h3.next (gt vs s) 1 3 icell (threadL g.ev s g.ev.length):=fun s hs=>(hI s hs).mo (Mo.of_kp k5 none) fun k _ h=>by cases h
  have hG5:=hG.low (n1:=h3.next) hle4
  have k6:=k4.trans k5
  have q5:=k5.le
  refine go ?_
  refine ew_ar v hA5 (i:=t) (by omega) (fun h6 hA6 m6=>?_) (hv:=cells_one_ hone5) (h1:=by show(v.one&&true)=true;rw[hone5];rfl)
  have k7:=m6.kp k6 fun j hj=>by injection hj with hj;subst hj;exact hA5.blk.2.1
  have hne:∀{s:Int} {w:V},Gw h5 h3.next w 1 3 icell (threadL g.ev s g.ev.length)→Gw h6 h3.next w 1 3 icell (threadL g.ev s g.ev.length):=fun hw=>hw.mo m6 fun k hk h=>by
   injection h with h
   have:=(hw.blk k hk).1
   omega
  refine go ?_
  exact Nx.inv (t+1,vs.set t v) (by simp only;omega) ⟨rfl,rfl,rfl,rfl,trivial⟩ ⟨by simp only;omega,k7,Nat.le_trans (Nat.le_trans hle4 q5) m6.le,hA6,by rw[List.length_set];exact hvl,fun s hs=>by
   simp only at hs ⊢
   rw[gt_set (by omega)]
   by_cases e:s=t
   ·rw[if_pos e,e];exact hne hG5
   ·rw[if_neg e];exact hne (hI5 s (by omega))⟩
 ·obtain rfl:t=n:=by omega
  have q1:=k1.le
  refine go ?_
  exact ret_1 ⟨⟨vs,hA.low q1,hvl,fun s hs=>(hI s hs).low (by omega)⟩,k1.trans k4⟩
def s103:Sc:=(.seq (.region (
 ⟨none,some 4,.bx 100 (.t 0),[0]⟩ ::
 ⟨none,some 8,.mv (.c (.i .i64 0)),[]⟩ :: []))
(.seq (.seq (.region (
 ⟨none,some 10,.fa (.t 4) 0,[4]⟩ ::
 ⟨none,some 11,.ld (.t 10),[10]⟩ ::
 ⟨none,some 12,.mv (.t 2),[2]⟩ ::
 ⟨none,some 13,.ia (.t 11) (.t 12) 1,[11,12]⟩ ::
 ⟨none,some 14,.ld (.t 13),[13]⟩ ::
 ⟨none,some 15,.len (.t 14),[14]⟩ ::
 ⟨none,some 16,.ar .sub (.t 15) (.c (.i .i64 1)),[15]⟩ ::
 ⟨none,some 9,.mv (.t 16),[16]⟩ :: []))
(.block 0 (.loop (.seq (.seq (.region (
 ⟨none,some 17,.mv (.t 9),[9]⟩ ::
 ⟨none,some 18,.ar .geq (.t 17) (.c (.i .i64 0)),[17]⟩ :: []))
(.cond (.t 18) .skip
 (.exit 0)))
(.seq (.block 1 (.seq (.region (
 ⟨none,some 21,.mv (.t 1),[1]⟩ ::
 ⟨none,some 22,.fa (.t 4) 0,[4]⟩ ::
 ⟨none,some 23,.ld (.t 22),[22]⟩ ::
 ⟨none,some 24,.mv (.t 2),[2]⟩ ::
 ⟨none,some 25,.ia (.t 23) (.t 24) 1,[23,24]⟩ ::
 ⟨none,some 26,.ld (.t 25),[25]⟩ ::
 ⟨none,some 27,.mv (.t 9),[9]⟩ ::
 ⟨none,some 28,.ia (.t 26) (.t 27) 1,[26,27]⟩ ::
 ⟨none,some 29,.ld (.t 28),[28]⟩ ::
 ⟨none,some 30,.ia (.t 21) (.t 29) 5,[21,29]⟩ ::
 ⟨none,some 31,.fa (.t 30) 2,[30]⟩ ::
 ⟨none,some 32,.ld (.t 31),[31]⟩ ::
 ⟨none,some 33,.mv (.t 3),[3]⟩ ::
 ⟨none,some 34,.eq .int false (.t 32) (.t 33),[32,33]⟩ :: []))
(.cond (.t 34) (.seq (.region (
 ⟨none,some 35,.fa (.t 4) 0,[4]⟩ ::
 ⟨none,some 36,.ld (.t 35),[35]⟩ ::
 ⟨none,some 37,.mv (.t 2),[2]⟩ ::
 ⟨none,some 38,.ia (.t 36) (.t 37) 1,[36,37]⟩ ::
 ⟨none,some 39,.ld (.t 38),[38]⟩ ::
 ⟨none,some 40,.mv (.t 9),[9]⟩ ::
 ⟨none,some 41,.ia (.t 39) (.t 40) 1,[39,40]⟩ ::
 ⟨none,some 42,.ld (.t 41),[41]⟩ ::
 ⟨none,some 8,.mv (.t 42),[42]⟩ :: []))
.ret)
 .skip)))
(.region (
 ⟨none,some 19,.mv (.t 9),[9]⟩ ::
 ⟨none,some 20,.ar .sub (.t 19) (.c (.i .i64 1)),[19]⟩ ::
 ⟨none,some 9,.mv (.t 20),[20]⟩ :: [])))))))
(.seq (.mix (
 (⟨none,some 43,.fa (.t 4) 1,[4]⟩,.q [none]) ::
 (⟨none,some 44,.ld (.t 43),[43]⟩,.q [none]) ::
 (⟨none,some 45,.mv (.t 3),[3]⟩,.q [none]) ::
 (⟨none,some 46,.ia (.t 44) (.t 45) 1,[44,45]⟩,.q [none]) ::
 (⟨none,some 47,.ld (.t 46),[46]⟩,.q [none]) ::
 (⟨none,some 48,.fa (.t 4) 1,[4]⟩,.q [none]) ::
 (⟨none,some 49,.ld (.t 48),[48]⟩,.q [none]) ::
 (⟨none,some 50,.mv (.t 3),[3]⟩,.q [none]) ::
 (⟨none,some 51,.ia (.t 49) (.t 50) 1,[49,50]⟩,.q [none]) ::
 (⟨none,some 52,.ld (.t 51),[51]⟩,.q [none]) ::
 (⟨none,some 53,.len (.t 52),[52]⟩,.q [none]) ::
 (⟨none,some 54,.ar .sub (.t 53) (.c (.i .i64 1)),[53]⟩,.q [none]) ::
 (⟨none,some 55,.ia (.t 47) (.t 54) 1,[47,54]⟩,.q [none]) ::
 (⟨none,some 56,.ld (.t 55),[55]⟩,.q [none]) ::
 (⟨none,some 8,.mv (.t 56),[56]⟩,.q [none]) :: []))
.ret)))
set_option maxRecDepth 100000 in
theorem c103:fnB Tryz.prog 103=some (57,s103,[.t 8]):=by kernel_rfl
def looksN (ev:List Ev_) (loc:Int) (q:List Int) (d:Int):Nat→Int
 | 0=>d
 | k+1=>if (gt ev (gt q k).toNat).loc=loc then gt q k else looksN ev loc q d k
def looksV (ev:List Ev_) (Q O:List (List Int)) (t loc:Nat):Int:=looksN ev loc (gt Q t) (gt (gt O loc) ((gt O loc).length-1)) (gt Q t).length
set_option maxHeartbeats 0 in
theorem looks_spec {m:Bool} {h:H} {vq vo ve:V} {Q O:List (List Int)} {evs:List Ev_} {t loc:Nat} (hw:Wf h) (hq:Ros h vq Q) (ho:Ros h vo O) (he:Ro h ve 5 ecell evs) (ht:t<Q.length) (hl:loc<O.length) (hn:0<(gt O loc).length) (hb:(gt O loc).length≤100000000) (hb2:(gt Q t).length≤100000000)
  (hi:∀j,j<(gt Q t).length→0≤gt (gt Q t) j∧gt (gt Q t) j<evs.length):FX m Tryz.prog 103 [.agg [vq,vo],ve,.i .i64 (t:Int),.i .i64 (loc:Int)] h fun v h'=>v=.i .i64 (looksV evs Q O t loc)∧Kp h h':=by
 have o1:=hq.one
 have o2:=ho.one
 obtain⟨vs,hvs,hvl,hrows⟩:=hq.is
 obtain⟨ws,hws,hwl,hrows'⟩:=ho.is
 refine Fn.env c103 rfl ?_
 unfold s103
 refine Es.seq (Es.region (ew_bx (hz:=allOne_cons o1 (allOne_cons o2 rfl)) fun b h1 ob k1=>?_))
 have hB:=ob.bx
 obtain⟨hLe,hC⟩:=he.kp k1 hw
 obtain⟨hLq,hD⟩:=hvs.kp k1 hw
 rw[hvl]at hLq hD
 obtain⟨hLo,hE⟩:=hws.kp k1 hw
 rw[hwl]at hLo hE
 obtain⟨hLr,hR⟩:=(hrows t ht).kp k1 hw
 have hLr:Ln (vcell (gt vs t) 0) 1 (gt Q t).length:=hLr
 have hR:Cs h1 (vcell (gt vs t) 0) 1 (gt Q t).length fun i k=>icell (gt (gt Q t) i) k:=hR
 obtain⟨hLs,hS⟩:=(hrows' loc hl).kp k1 hw
 have hLs:Ln (vcell (gt ws loc) 0) 1 (gt O loc).length:=hLs
 have hS:Cs h1 (vcell (gt ws loc) 0) 1 (gt O loc).length fun i k=>icell (gt (gt O loc) i) k:=hS
 clear hq ho he hvs hws hrows hrows'
 refine go ?_
 refine Es.loop (X:=Nat) (fun x=>x) (fun x=>[(1,ve),(2,.i .i64 (t:Int)),(3,.i .i64 (loc:Int)),(4,.p b 0),(9,.i .i64 ((x:Int)-1))]) (fun x h'=>x≤(gt Q t).length∧h'=h1∧looksN evs loc (gt Q t) (gt (gt O loc) ((gt O loc).length-1)) x=looksV evs Q O t loc) (gt Q t).length ⟨rfl,rfl,rfl,rfl,rfl,trivial⟩ ⟨Nat.le_refl _,rfl,rfl⟩ fun x h2 hx=>?_
 obtain⟨hx,e2,hI⟩:=hx
 obtain rfl:=e2.symm
 cases x with
 | zero =>
  refine go ?_
  have e1:(((gt O loc).length:Int)-1).toNat=(gt O loc).length-1:=by omega
  exact ret_1 ⟨by rw[←hI,←e1],k1⟩
 | succ i =>
  have e1:(((i+1:Nat):Int)-1)=(i:Int):=by omega
  rw[e1]
  obtain⟨h3,h4⟩:=hi i (by omega)
  unfold looksN at hI
  refine go ?_
  refine cD (fun he=>?_) (fun he=>?_)
  ·rw[if_pos he]at hI
   refine go ?_
   exact ret_1 ⟨by rw[←hI],k1⟩
  ·rw[if_neg he]at hI
   refine go ?_
   exact Nx.inv i (Nat.lt_succ_self i) ⟨rfl,rfl,rfl,rfl,rfl,trivial⟩ ⟨by omega,rfl,hI⟩
end Go.Proofs.YtkcdehffcddciaaGreatDoor.Vm
