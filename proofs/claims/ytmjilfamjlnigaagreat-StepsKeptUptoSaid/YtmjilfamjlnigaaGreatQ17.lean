/- PLAIN: the document's own runner of the source (chapters 13 and 19), and that it is the program's. No program in sight. -/
import Derived.Test.YtmjilfamjlnigaaGreatQ16
import Derived.Test.YtmjilfamjlnigaaGreatQ05
namespace Go.Proofs.YtmjilfamjlnigaaGreat.SrcP
open Go
structure RS where
 acts:List Act
 at_:Nat
 locals:List Nat
def RS.m (s:RS):Mch:=⟨s.acts,s.at_,s.locals,Want.zero,false,0,false⟩
def RS.of (m:Mch):RS:=⟨m.acts,m.at_,m.locals⟩
def RS.alone (s:RS) (a:Act):RS:=RS.of (ownS s.m a)
def RS.wants (s:RS) (a:Act):Want:=wantS s.m a
def RS.thenW (s:RS) (a:Act) (v:Nat):Want :=
 if a.op=6∧value a.e s.locals≠v then Want.zero
 else⟨2,locS a s.locals,writing a.mode,if a.op=5 then(value a.e s.locals+v) % M64 else if a.op=6 then value a.f s.locals else value a.e s.locals,true,false⟩
def RS.done (s:RS) (a:Act) (v:Nat):RS :=
 if a.op=3∨a.op=7∨a.op=8 then { s with at_:=s.at_+1 }
 else { s with locals:=s.locals.set a.dst.toNat v,at_:=s.at_+1 }
def askedL:Nat→RS→RS × Want
 | 0,s=>match s.acts[s.at_]? with
  | none=>(s,⟨5,0,0,0,false,false⟩)
  | some a=>if ownB a then(s,⟨6,0,0,0,false,false⟩)else(s,s.wants a)
 | k+1,s=>match s.acts[s.at_]? with
  | none=>(s,⟨5,0,0,0,false,false⟩)
  | some a=>if ownB a then askedL k (s.alone a)else(s,s.wants a)
def RS.asked (s:RS):RS × Want:=askedL 100000 s
structure RT where
 s:RS
 nums:List Nat
structure RR where
 ths:List RT
 events:List Ev
 rf:List (Nat × Nat)
 rmw:List (Nat × Nat)
 outs:List (List Nat)
 log:List Nat
 picks:List Nat
 used:Nat
def noT:RT:=⟨⟨[],0,[]⟩,[]⟩
def RR.th (r:RR) (t:Nat):RT:=r.ths.getD t noT
def RR.setS (r:RR) (t:Nat) (s:RS):RR:={ r with ths:=r.ths.set t ⟨s,(r.th t).nums⟩ }
def RR.ask (r:RR) (t:Nat):RR × Want:=(r.setS t (r.th t).s.asked.1,(r.th t).s.asked.2)
def RS.fed (s:RS) (v:Nat):RS:=match s.acts[s.at_]? with | none=>s | some a=>s.done a v
def RR.fed (r:RR) (t v:Nat):RR:=r.setS t ((r.th t).s.fed v)
def RR.event (r:RR) (t:Nat) (kind loc:Int) (val:Nat) (mode:Int):RR :=
 { r with events:=r.events++[⟨t,kind,loc,val,mode⟩],ths:=r.ths.set t ⟨(r.th t).s,(r.th t).nums++[r.events.length]⟩ }
def lastG (loc:Int):Nat→Int→List Ev→Int
 | _,b,[]=>b
 | i,b,e :: l=>lastG loc (i+1) (if e.kind=2∧e.loc=loc then(i:Int)else b) l
def lastR (l:List Ev) (loc:Int):Int:=lastG loc 0 (-1) l
def coG (loc:Int):Nat→List Ev→List Nat
 | _,[]=>[]
 | i,e :: l=>if e.kind=2∧e.loc=loc then i :: coG loc (i+1) l else coG loc (i+1) l
def valAt (l:List Ev) (i:Nat):Nat:=((l[i]?).map Ev.val).getD 0
def RS.next (s:RS) (v:Nat):Want:=match s.acts[s.at_]? with | none=>Want.zero | some a=>s.thenW a v
def RR.load (r:RR) (t:Nat) (w:Want):RR :=
 let from_:=(lastR r.events w.loc).toNat
 let v:=valAt r.events from_
 let r1:=r.event t 1 w.loc v w.mode
 let r2:={ r1 with rf:=r1.rf++[(from_,r.events.length)] }
 if w.ex then
  let u:=(r2.th t).s.next v
  if u.what=0 then((r2.fed t v).ask t).1
  else
   let r3:=r2.event t 2 u.loc u.val u.mode
   RR.fed { r3 with rmw:=r3.rmw++[(r.events.length,r.events.length+1)],log:=r3.log++[t] } t v
 else r2.fed t v
def RR.out (r:RR) (t v:Nat):RR:={ r with outs:=r.outs.set t (r.outs.getD t []++[v]) }
def RR.did (r:RR) (t:Nat):RR:={ r with used:=r.used+1,log:=r.log++[t],picks:=r.picks++[t] }
def RR.doo (r:RR) (t:Nat) (w:Want):RR :=
 if w.what=1 then r.load t w
 else if w.what=2 then(r.event t 2 w.loc w.val w.mode).fed t 1
 else if w.what=3 then(r.event t 3 (-1) 0 w.mode).fed t 0
 else if w.what=4 then(r.out t w.val).fed t 0
 else r
def noUse (nc:Nat) (w:Want):Bool:=decide (w.what=5∨w.what=7∨((w.what=1∨w.what=2)∧(nc:Int)≤w.loc))
def RR.step (nc:Nat) (r:RR) (t:Int):RR :=
 if t<0∨(r.ths.length:Int)≤t then r
 else
  let p:=r.ask t.toNat
  if noUse nc p.2 then p.1 else(p.1.did t.toNat).doo t.toNat p.2
def RR.play (nc:Nat) (fuel:Int):List Int→RR→RR × Bool
 | [],r=>(r,decide (256<r.events.length))
 | t :: l,r=>if 256<r.events.length then(r,true)else if fuel≤r.used then(r,false)else RR.play nc fuel l (r.step nc t)
def RR.start (n:Nat) (l:List Thread):RR where
 ths:=l.map fun t=>⟨⟨t.acts,0,List.replicate t.locals.toNat 0⟩,[]⟩
 events:=(List.range n).map fun (c:Nat)=>⟨-1,2,(c:Int),0,1⟩
 rf:=[]
 rmw:=[]
 outs:=l.map fun _=>[]
 log:=[]
 picks:=[]
 used:=0
def refS (p:Prog) (picks:List Int) (fuel:Int):Except Nat RR :=
 if fuel<0∨wholeP p=false then .error 1
 else match (RR.start p.cells.toNat p.threads).play p.cells.toNat fuel picks with
  |(_,true)=>.error 2
  |(r,false)=>.ok r
/-! That it is the program's. -/
def RT.of (x:Th Mch):RT:=⟨RS.of x.m,x.nums⟩
def RR.of (r:Rn Mch) (lg pk:List Nat):RR:=⟨r.ths.map RT.of,r.events,r.rf,r.rmw,r.outs,lg,pk,r.used⟩
theorem of_own (m:Mch) (a:Act):RS.of (ownS m a)=(RS.of m).alone a:=by
 unfold RS.alone ownS RS.of RS.m
 split
 ·rfl
 ·split
  ·rfl
  ·simp only
   split <;> rfl
theorem own_keep (m:Mch) (a:Act):(ownS m a).opn=m.opn∧(ownS m a).asked=m.asked:=by
 unfold ownS
 split
 ·exact⟨rfl,rfl⟩
 ·split
  ·exact⟨rfl,rfl⟩
  ·split <;> exact⟨rfl,rfl⟩
theorem of_wants (m:Mch) (a:Act) (h:m.opn=false):wantS m a=(RS.of m).wants a:=by
 unfold RS.wants wantS RS.of RS.m
 simp[h]
theorem nextL_of:∀(k:Nat) (m:Mch),m.opn=false→askedL k (RS.of m)=(RS.of (nextL k m),(nextL k m).now)∧(nextL k m).opn=false∧(nextL k m).asked=m.asked
 | 0,m,h=>by
  unfold askedL nextL
  have e1:(RS.of m).acts[(RS.of m).at_]?=m.acts[m.at_]?:=rfl
  rw[e1]
  cases ha:m.acts[m.at_]? with
  | none=>exact⟨rfl,h,rfl⟩
  | some a =>
   simp only
   split
   ·exact⟨rfl,h,rfl⟩
   ·exact⟨by rw[←of_wants m a h];rfl,h,rfl⟩
 | k+1,m,h=>by
  unfold askedL nextL
  have e1:(RS.of m).acts[(RS.of m).at_]?=m.acts[m.at_]?:=rfl
  rw[e1]
  cases ha:m.acts[m.at_]? with
  | none=>exact⟨rfl,h,rfl⟩
  | some a =>
   simp only
   split
   ·have ih:=nextL_of k (ownS m a) ((own_keep m a).1.trans h)
    rw[of_own]at ih
    exact⟨ih.1,ih.2.1,ih.2.2.trans (own_keep m a).2⟩
   ·exact⟨by rw[←of_wants m a h];rfl,h,rfl⟩
theorem asked_stay:∀(k:Nat) (s:RS),(askedL k s).2.what≠6→∀j,askedL j (askedL k s).1=askedL k s
 | 0,s,h,j=>by
  unfold askedL at h ⊢
  cases ha:s.acts[s.at_]? with
  | none=>simp only;cases j <;> simp[askedL,ha]
  | some a =>
   simp only[ha]at h ⊢
   by_cases ho:ownB a=true
   ·simp[ho]at h
   ·cases j <;> simp[askedL,ha,ho]
 | k+1,s,h,j=>by
  rw[show askedL (k+1) s=(match s.acts[s.at_]? with | none=>(s,⟨5,0,0,0,false,false⟩) | some a=>if ownB a then askedL k (s.alone a)else(s,s.wants a))from rfl]at h ⊢
  cases ha:s.acts[s.at_]? with
  | none=>simp only;cases j <;> simp[askedL,ha]
  | some a =>
   simp only[ha]at h ⊢
   by_cases ho:ownB a=true
   ·rw[if_pos ho]at h ⊢
    exact asked_stay k _ h j
   ·rw[if_neg ho]
    cases j <;> simp[askedL,ha,ho]
theorem nextL_on:∀(k:Nat) (m:Mch),m.asked=true→(nextL k m).asked=true
 | 0,m,h=>by
  unfold nextL
  split
  ·exact h
  ·split <;> exact h
 | k+1,m,h=>by
  unfold nextL
  split
  ·exact h
  ·split
   ·exact nextL_on k _ ((own_keep m _).2.trans h)
   ·exact h
def MS (m:Mch):Prop:=m.opn=false∧(m.asked=true→m.now.what≠6→∀j,askedL j (RS.of m)=(RS.of m,m.now))
theorem next_ms {m:Mch} (h:MS m):MS (nextS m)∧(RS.of m).asked=(RS.of (nextS m),(nextS m).now)∧(nextS m).asked=true:=by
 unfold nextS
 split
 ·rename_i hc
  exact⟨h,h.2 hc.1 hc.2 _,hc.1⟩
 ·have hn:=nextL_of 100000 { m with asked:=true } h.1
  have e:RS.of { m with asked:=true }=RS.of m:=rfl
  rw[e]at hn
  refine⟨⟨hn.2.1,fun _ h6 j=>?_⟩,hn.1,hn.2.2⟩
  have hs:=asked_stay 100000 (RS.of m) (by rw[hn.1];exact h6) j
  rw[hn.1]at hs
  exact hs
theorem ms_plain {m:Mch} (hs:MS m) {a:Act} (ha:m.acts[m.at_]?=some a) (hn:m.now=wantS m a) (hx:m.now.ex=false) (v:Nat):RS.of (feedS m v)=(RS.of m).fed v∧MS (feedS m v):=by
 have h0:=hs.1
 have hop:a.op=2∨a.op=3∨a.op=7∨a.op=8:=Decidable.byContradiction fun hc=>by
  rw[hn]at hx
  unfold wantS at hx
  rw[if_neg (by omega),if_neg (by omega),if_neg (by omega),if_neg (by omega),h0]at hx
  simp at hx
 have e:(RS.of m).fed v=(RS.of m).done a v:=by
  unfold RS.fed
  rw[show(RS.of m).acts[(RS.of m).at_]?=some a from ha]
 rw[e]
 rcases hop with h | h | h | h
 ·have hw:m.now.what=1:=by rw[hn];simp[wantS,h]
  simp[feedS,ha,hx,hw,RS.done,h,RS.of,MS,h0]
 ·have hw:m.now.what=2:=by rw[hn];simp[wantS,h]
  simp[feedS,ha,hx,hw,RS.done,h,RS.of,MS,h0]
 ·have hw:m.now.what=3:=by rw[hn];simp[wantS,h]
  simp[feedS,ha,hx,hw,RS.done,h,RS.of,MS,h0]
 ·have hw:m.now.what=4:=by rw[hn];simp[wantS,h]
  simp[feedS,ha,hx,hw,RS.done,h,RS.of,MS,h0]
theorem nextL_stop (k:Nat) {m:Mch} {a:Act} (ha:m.acts[m.at_]?=some a) (ho:ownB a=false):nextL k m = { m with now:=wantS m a }:=by
 cases k <;> simp[nextL,ha,ho]
theorem ms_pair {m:Mch} (hs:MS m) {a:Act} (ha:m.acts[m.at_]?=some a) (ho:ownB a=false) (hn:m.now=wantS m a) (hop:a.op=4∨a.op=5∨a.op=6) (v:Nat) :
  ((RS.of m).next v).what=0∧RS.of (feedS m v)=(RS.of m).fed v∧MS (feedS m v) ∨
  ((RS.of m).next v).what≠0∧RS.of (nextS (feedS m v))=RS.of m∧(nextS (feedS m v)).now=(RS.of m).next v∧((RS.of m).next v).what=2∧((RS.of m).next v).ex=true∧((RS.of m).next v).one=false ∧
   RS.of (feedS (nextS (feedS m v)) 1)=(RS.of m).fed v∧MS (feedS (nextS (feedS m v)) 1):=by
 have h0:=hs.1
 have hw:m.now.what=1∧m.now.ex=true:=by
  rw[hn]
  unfold wantS
  rw[if_neg (by omega),if_neg (by omega),if_neg (by omega),if_neg (by omega),h0]
  simp
 have e:(RS.of m).fed v=(RS.of m).done a v:=by
  unfold RS.fed
  rw[show(RS.of m).acts[(RS.of m).at_]?=some a from ha]
 have en:(RS.of m).next v=(RS.of m).thenW a v:=by
  unfold RS.next
  rw[show(RS.of m).acts[(RS.of m).at_]?=some a from ha]
 have el:(RS.of m).locals=m.locals:=rfl
 have ed:(RS.of m).done a v=⟨m.acts,m.at_+1,m.locals.set a.dst.toNat v⟩:=by
  unfold RS.done
  rw[if_neg (by omega)]
  rfl
 rw[e,en,ed]
 by_cases hc:a.op=6∧value a.e m.locals≠v
 ·left
  have ef:feedS m v = { m with asked:=false,old:=v,locals:=m.locals.set a.dst.toNat v,at_:=m.at_+1 }:=by
   unfold feedS
   rw[ha]
   simp only[hw.1,hw.2,true_and,h0]
   rw[if_neg (by omega)]
   simp
  rw[ef]
  refine⟨?_,rfl,h0,fun h=>by cases h⟩
  unfold RS.thenW
  rw[el,if_pos hc]
  rfl
 ·right
  have hc2:a.op≠6∨value a.e m.locals=v:=by omega
  have ef:feedS m v = { m with asked:=false,old:=v,opn:=true }:=by
   unfold feedS
   rw[ha]
   simp only[hw.1,hw.2,true_and]
   rw[if_pos hc2]
  have ew:(RS.of m).thenW a v=⟨2,locS a m.locals,writing a.mode,if a.op=5 then(value a.e m.locals+v) % M64 else if a.op=6 then value a.f m.locals else value a.e m.locals,true,false⟩:=by
   unfold RS.thenW
   rw[el,if_neg hc]
  have e2:nextS (feedS m v) = { m with asked:=true,old:=v,opn:=true,now:=(RS.of m).thenW a v }:=by
   rw[ef]
   unfold nextS
   rw[if_neg (by simp)]
   show nextL 100000 { m with asked:=true,old:=v,opn:=true }=_
   rw[nextL_stop 100000 (m:={ m with asked:=true,old:=v,opn:=true }) (a:=a) ha ho]
   congr 1
   rw[ew]
   unfold wantS
   rw[if_neg (by omega),if_neg (by omega),if_neg (by omega),if_neg (by omega)]
   simp
  have e3:feedS { m with asked:=true,old:=v,opn:=true,now:=(RS.of m).thenW a v } 1 = { m with asked:=false,old:=v,opn:=false,now:=(RS.of m).thenW a v,locals:=m.locals.set a.dst.toNat v,at_:=m.at_+1 }:=by
   unfold feedS
   simp only[ha]
   rw[ew]
   simp
  rw[e2,e3]
  refine⟨by rw[ew];simp,rfl,rfl,by rw[ew],by rw[ew],by rw[ew],rfl,rfl,fun h=>by cases h⟩
abbrev SK:Kd Mch:=srcK false
section
variable {r:Rn Mch} {lg pk:List Nat} {t:Nat}
theorem th_of (r:Rn Mch) (lg pk:List Nat) (t:Nat):(RR.of r lg pk).th t=RT.of (r.th SK t):=by
 unfold RR.th RR.of Rn.th
 simp only[List.getD_eq_getElem?_getD,List.getElem?_map]
 cases r.ths[t]? <;> rfl
theorem th_set {M:Type} (K:Kd M) (r:Rn M) (t u:Nat) (x:Th M):(r.setT t x).th K u=if t=u∧t<r.ths.length then x else r.th K u:=by
 unfold Rn.setT Rn.th
 simp only[List.getD_eq_getElem?_getD,List.getElem?_set]
 by_cases h:t=u
 ·subst h
  by_cases hl:t<r.ths.length
  ·simp[hl]
  ·simp[hl]
 ·simp[h]
theorem set_of (r:Rn Mch) (lg pk:List Nat) (t:Nat) (m:Mch):RR.of (r.setM SK t m) lg pk=(RR.of r lg pk).setS t (RS.of m):=by
 unfold RR.setS
 rw[th_of]
 unfold RR.of Rn.setM Rn.setT
 simp only[List.map_set]
 rfl
theorem ask_of (h:MS (r.th SK t).m) (lg pk:List Nat):(RR.of r lg pk).ask t=(RR.of (r.ask SK t) lg pk,(nextS (r.th SK t).m).now):=by
 have hn:=(next_ms h).2.1
 unfold RR.ask Rn.ask
 rw[set_of,th_of]
 show((RR.of r lg pk).setS t (RS.of (r.th SK t).m).asked.1,(RS.of (r.th SK t).m).asked.2)=_
 rw[hn]
 rfl
theorem event_of (r:Rn Mch) (lg pk:List Nat) (t:Nat) (k l:Int) (v:Nat) (md:Int):RR.of (r.event SK t k l v md) lg pk=(RR.of r lg pk).event t k l v md:=by
 unfold RR.event
 rw[th_of]
 unfold RR.of Rn.event
 simp only[List.map_set]
 rfl
theorem event_th {M:Type} (K:Kd M) (r:Rn M) (t u:Nat) (k l:Int) (v:Nat) (md:Int):((r.event K t k l v md).th K u).m=(r.th K u).m:=by
 have h:=th_set K r t u { r.th K t with nums:=(r.th K t).nums++[r.events.length] }
 rw[show(r.event K t k l v md).th K u=(r.setT t { r.th K t with nums:=(r.th K t).nums++[r.events.length] }).th K u from rfl,h]
 split
 ·rename_i h;rw[←h.1]
 ·rfl
theorem feed_of (lg pk:List Nat) (v v':Nat) (h:RS.of (feedS (r.th SK t).m v)=(RS.of (r.th SK t).m).fed v'):RR.of (r.feed SK t v) lg pk=(RR.of r lg pk).fed t v':=by
 unfold RR.fed Rn.feed
 rw[set_of,th_of]
 show(RR.of r lg pk).setS t (RS.of (feedS (r.th SK t).m v))=(RR.of r lg pk).setS t ((RS.of (r.th SK t).m).fed v')
 rw[h]
end
/-! What lies in memory is what was written last. -/
theorem lastG_snoc (loc:Int) (e:Ev):∀(l:List Ev) (i:Nat) (b:Int),lastG loc i b (l++[e])=if e.kind=2∧e.loc=loc then((i+l.length:Nat):Int)else lastG loc i b l
 | [],i,b=>by simp[lastG]
 | x :: l,i,b=>by
  simp only[List.cons_append,lastG,List.length_cons]
  rw[lastG_snoc loc e l]
  split
  ·congr 1;omega
  ·rfl
theorem coG_snoc (loc:Int) (e:Ev):∀(l:List Ev) (i:Nat),coG loc i (l++[e])=coG loc i l++if e.kind=2∧e.loc=loc then [i+l.length]else []
 | [],i=>by simp[coG]
 | x :: l,i=>by
  simp only[List.cons_append,coG,List.length_cons]
  rw[coG_snoc loc e l]
  have:i+1+l.length=i+(l.length+1):=by omega
  rw[this]
  split
  ·rw[List.cons_append]
  ·rfl
structure MemOk (nc:Nat) (r:Rn Mch):Prop where
 at_:∀c:Nat,c<nc→lastR r.events (c:Int)=(r.last.getD c 0:Nat)∧(r.events[r.last.getD c 0]?).map Ev.val=some (r.cells.getD c 0)∧r.co.getD c []=coG (c:Int) 0 r.events
theorem MemOk.same {nc:Nat} {r r':Rn Mch} (h:MemOk nc r) (h1:r'.events=r.events) (h2:r'.last=r.last) (h3:r'.cells=r.cells) (h4:r'.co=r.co):MemOk nc r':=⟨by rw[h1,h2,h3,h4];exact h.at_⟩
theorem old_ev {l:List Ev} {e:Ev} {i v:Nat} (h:(l[i]?).map Ev.val=some v):((l++[e])[i]?).map Ev.val=some v:=by
 cases hi:l[i]? with
 | none=>rw[hi]at h;cases h
 | some x=>rw[List.getElem?_append_left (List.getElem?_eq_some_iff.1 hi).1,hi];rwa [hi]at h
theorem MemOk.event {nc:Nat} {r:Rn Mch} (h:MemOk nc r) (t:Nat) (k l:Int) (v:Nat) (md:Int) (hk:k≠2):MemOk nc (r.event SK t k l v md):=by
 refine⟨fun c hc=>?_⟩
 obtain⟨h1,h2,h3⟩:=h.at_ c hc
 refine⟨?_,old_ev h2,?_⟩
 ·show lastR (r.events++[_]) (c:Int)=_
  unfold lastR
  rw[lastG_snoc,if_neg (fun hh=>hk hh.1)]
  exact h1
 ·show r.co.getD c []=coG (c:Int) 0 (r.events++[_])
  rw[coG_snoc,if_neg (fun hh=>hk hh.1),List.append_nil]
  exact h3
theorem MemOk.wrote {nc:Nat} {r:Rn Mch} (h:MemOk nc r) (hr:RnOk nc r) (t:Nat) (w:Want) (hl:0≤w.loc∧w.loc<(nc:Int)) (md:Int):MemOk nc ((r.event SK t 2 w.loc w.val md).wrote r.events.length w):=by
 refine⟨fun c hc=>?_⟩
 obtain⟨h1,h2,h3⟩:=h.at_ c hc
 show lastR (r.events++[⟨t,2,w.loc,w.val,md⟩]) (c:Int)=((r.last.set w.loc.toNat r.events.length).getD c 0:Nat)∧((r.events++[⟨t,2,w.loc,w.val,md⟩])[(r.last.set w.loc.toNat r.events.length).getD c 0]?).map Ev.val=some ((r.cells.set w.loc.toNat w.val).getD c 0)∧(r.co.set w.loc.toNat (r.co.getD w.loc.toNat []++[r.events.length])).getD c []=coG (c:Int) 0 (r.events++[⟨t,2,w.loc,w.val,md⟩])
 unfold lastR at h1 ⊢
 by_cases hcw:w.loc.toNat=c
 ·have he:w.loc=(c:Int):=by omega
  subst hcw
  have l1:=hr.last
  have l2:=hr.cells
  have l3:=hr.co
  rw[lastG_snoc,coG_snoc,if_pos ⟨rfl,he⟩,if_pos ⟨rfl,he⟩,←h3]
  simp[List.getD_eq_getElem?_getD,show w.loc.toNat<r.last.length by omega,show w.loc.toNat<r.cells.length by omega,show w.loc.toNat<r.co.length by omega]
 ·have he:¬(w.loc=(c:Int)):=by omega
  rw[lastG_snoc,coG_snoc,if_neg (fun hh=>he hh.2),if_neg (fun hh=>he hh.2),List.append_nil]
  simp only[List.getD_eq_getElem?_getD,List.getElem?_set,hcw,if_false]at h1 h2 h3 ⊢
  exact⟨h1,old_ev h2,h3⟩
section
variable {r:Rn Mch} {lg pk:List Nat} {t:Nat} {w:Want}
theorem setM_th (r:Rn Mch) (t u:Nat) (m:Mch):((r.setM SK t m).th SK u).m=if t=u∧t<r.ths.length then m else(r.th SK u).m:=by
 unfold Rn.setM
 rw[th_set]
 split <;> rfl
theorem set_self {α:Type} (l:List α) (t:Nat) (d:α):l.set t (l.getD t d)=l:=by
 apply List.ext_getElem?
 intro i
 rw[List.getElem?_set]
 by_cases h:t=i
 ·subst h
  by_cases hl:t<l.length
  ·simp[hl,List.getD_eq_getElem?_getD]
  ·simp[List.getElem?_eq_none (Nat.le_of_not_lt hl)]
   omega
 ·simp[h]
theorem exd_of (r:Rn Mch) (lg pk:List Nat) (t:Nat) (w:Want):RR.of (r.exd SK t w) lg pk=RR.of r lg pk:=by
 unfold Rn.exd
 split
 ·have h2:r.ths.map RT.of=(r.ths.set t { r.th SK t with ex:=r.lastW w }).map RT.of:=by
   rw[List.map_set,show RT.of { r.th SK t with ex:=(r.lastW w:Int) }=RT.of (r.th SK t)from rfl]
   have h3:RT.of (r.th SK t)=(r.ths.map RT.of).getD t noT:=(th_of r [] [] t).symm
   rw[h3,set_self]
  unfold RR.of Rn.setT
  simp only
  rw[←h2]
 ·rfl
theorem exd_th (r:Rn Mch) (t u:Nat) (w:Want):((r.exd SK t w).th SK u).m=(r.th SK u).m:=by
 unfold Rn.exd
 split
 ·rw[th_set]
  split
  ·rename_i h;rw[←h.1]
  ·rfl
 ·rfl
theorem exd_same (r:Rn Mch) (t:Nat) (w:Want):(r.exd SK t w).events=r.events∧(r.exd SK t w).last=r.last∧(r.exd SK t w).cells=r.cells∧(r.exd SK t w).co=r.co:=by
 unfold Rn.exd
 split <;> exact⟨rfl,rfl,rfl,rfl⟩
structure RI (nc:Nat) (r:Rn Mch):Prop where
 mem:MemOk nc r
 ms:∀t,MS (r.th SK t).m
 ok:∀t,t<r.ths.length→∃nl,MchOk nc nl (r.th SK t).m
theorem noM_ms:MS noM:=⟨rfl,fun h=>by cases h⟩
theorem RI.setM {nc:Nat} (h:RI nc r) (t:Nat) {m:Mch} (hm:MS m) (hok:t<r.ths.length→∃nl,MchOk nc nl m):RI nc (r.setM SK t m):=by
 refine⟨h.mem.same rfl rfl rfl rfl,fun u=>?_,fun u hu=>?_⟩
 ·rw[setM_th]
  split
  ·exact hm
  ·exact h.ms u
 ·rw[setM_th]
  have hl:(r.setM SK t m).ths.length=r.ths.length:=by simp[Rn.setM,Rn.setT]
  rw[hl]at hu
  split
  ·rename_i h;exact hok h.2
  ·exact h.ok u hu
theorem RI.same {nc:Nat} {r':Rn Mch} (h:RI nc r) (hm:MemOk nc r') (ht:∀u,(r'.th SK u).m=(r.th SK u).m) (hl:r'.ths.length=r.ths.length):RI nc r' :=
 ⟨hm,fun u=>by rw[ht];exact h.ms u,fun u hu=>by rw[ht];exact h.ok u (by omega)⟩
theorem load_mem {nc:Nat} (h:MemOk nc r) (hl:0≤w.loc∧w.loc<(nc:Int)):(lastR r.events w.loc).toNat=r.lastW w∧valAt r.events (lastR r.events w.loc).toNat=r.cell w:=by
 obtain⟨h1,h2,_⟩:=h.at_ w.loc.toNat (by omega)
 rw[show((w.loc.toNat:Nat):Int)=w.loc by omega]at h1
 have e:(lastR r.events w.loc).toNat=r.lastW w:=by
  rw[h1]
  exact Int.toNat_natCast _
 rw[e]
 refine⟨rfl,?_⟩
 unfold valAt
 rw[show r.lastW w=r.last.getD w.loc.toNat 0 from rfl,h2]
 rfl
def Rn.lded (r:Rn Mch) (t:Nat) (w:Want):Rn Mch:=((r.event SK t 1 w.loc (r.cell w) w.mode).read r.events.length w).exd SK t w
theorem lded_th (r:Rn Mch) (t u:Nat) (w:Want):((r.lded t w).th SK u).m=(r.th SK u).m:=by
 unfold Rn.lded
 rw[exd_th]
 exact event_th SK r t u 1 w.loc (r.cell w) w.mode
theorem lded_ri {nc:Nat} (h:RI nc r) (t:Nat) (w:Want):RI nc (r.lded t w):=by
 refine h.same ?_ (fun u=>lded_th r t u w) ?_
 ·have h1:=h.mem.event t 1 w.loc (r.cell w) w.mode (by decide)
  obtain⟨e1,e2,e3,e4⟩:=exd_same ((r.event SK t 1 w.loc (r.cell w) w.mode).read r.events.length w) t w
  exact h1.same e1 e2 e3 e4
 ·exact(((Grows.event SK r t 1 w.loc (r.cell w) w.mode).trans (Grows.read _ _ w)).trans (Grows.exd SK _ t w)).ths
theorem lded_of (lg pk:List Nat):RR.of (r.lded t w) lg pk = { (RR.of r lg pk).event t 1 w.loc (r.cell w) w.mode with rf:=r.rf++[(r.lastW w,r.events.length)] }:=by
 unfold Rn.lded
 rw[exd_of,←event_of]
 rfl
theorem RI.at_ {nc:Nat} (h:RI nc r) {t:Nat} (ht:t<r.ths.length) (ha:(r.th SK t).m.asked=true) (h5:(r.th SK t).m.now.what≠5) (h6:(r.th SK t).m.now.what≠6) :
  ∃a nl,(r.th SK t).m.acts[(r.th SK t).m.at_]?=some a∧ownB a=false∧(r.th SK t).m.now=wantS (r.th SK t).m a∧MchOk nc nl (r.th SK t).m∧ActWell nc nl (r.th SK t).m.acts.length a:=by
 obtain⟨nl,hok⟩:=h.ok t ht
 obtain⟨a,h1,h2,h3⟩:=hok.now ha h5 h6
 exact⟨a,nl,h1,h2,h3,hok,hok.toMchW.well h1⟩
theorem RI.feed {nc:Nat} (h:RI nc r) {t:Nat} (ht:t<r.ths.length) (v:Nat) (hv:v<M64) (ha:(r.th SK t).m.asked=true) (h5:(r.th SK t).m.now.what≠5) (h6:(r.th SK t).m.now.what≠6) (hm:MS (feedS (r.th SK t).m v)):RI nc (r.feed SK t v):=by
 obtain⟨nl,hok⟩:=h.ok t ht
 exact h.setM t hm fun _=>⟨nl,feedS_ok hok ha h5 h6 v hv⟩
theorem RI.ask {nc:Nat} (h:RI nc r) (t:Nat):RI nc (r.ask SK t) :=
 h.setM t (next_ms (h.ms t)).1 fun ht=>by
  obtain⟨nl,hok⟩:=h.ok t ht
  exact⟨nl,nextS_ok hok⟩
theorem ask_th (r:Rn Mch) {t:Nat} (ht:t<r.ths.length):((r.ask SK t).th SK t).m=nextS (r.th SK t).m:=by
 unfold Rn.ask
 rw[setM_th,if_pos ⟨rfl,ht⟩]
 rfl
theorem feed_th (r:Rn Mch) {t:Nat} (ht:t<r.ths.length) (v:Nat):((r.feed SK t v).th SK t).m=feedS (r.th SK t).m v:=by
 unfold Rn.feed
 rw[setM_th,if_pos ⟨rfl,ht⟩]
 rfl
theorem wrote_of (r:Rn Mch) (lg pk:List Nat) (n:Nat) (w:Want):RR.of (r.wrote n w) lg pk=RR.of r lg pk:=rfl
theorem doo_of {nc:Nat} (h:RI nc r) (hr:RnOk nc r) (ht:t<r.ths.length) (ha:(r.th SK t).m.asked=true) (h5:(r.th SK t).m.now.what≠5) (lg pk:List Nat) :
  ∃lg',(RR.of r lg pk).doo t (r.th SK t).m.now=RR.of (r.doo SK t (r.th SK t).m.now) lg' pk∧RI nc (r.doo SK t (r.th SK t).m.now)∧(lg'.length:Int)-lg.length≤((r.doo SK t (r.th SK t).m.now).events.length:Int)-r.events.length:=by
 generalize hm:(r.th SK t).m=m at *
 by_cases h6:m.now.what=6
 ·refine⟨lg,?_,?_,?_⟩
  ·unfold RR.doo Rn.doo
   rw[h6]
   rfl
  ·unfold Rn.doo
   rw[h6]
   exact h
  ·unfold Rn.doo
   rw[h6]
   simp
 obtain⟨a,nl,ha1,hown,hnow,hok,hwell⟩:=h.at_ ht (hm ▸ ha) (hm ▸ h5) (hm ▸ h6)
 rw[hm]at ha1 hnow hok hwell
 have hms:=h.ms t
 rw[hm]at hms
 have hop:=hwell.parts.1
 have hno:a.op=2∨a.op=3∨a.op=4∨a.op=5∨a.op=6∨a.op=7∨a.op=8:=by
  unfold ownB at hown
  simp at hown
  omega
 have hloc:hasPlace a.op=true→0≤locS a m.locals∧locS a m.locals<(nc:Int):=fun hp=>locS_range (hwell.place hp) _
 have hev:∀w:Want,(r.lded t w).events.length=r.events.length+1:=fun w=>by
  unfold Rn.lded
  rw[(exd_same _ t w).1]
  simp[Rn.read,Rn.event]
 by_cases hpair:a.op=4∨a.op=5∨a.op=6
 ·
  have hl:=hloc (by unfold hasPlace;rcases hpair with h | h | h <;> rw[h] <;> rfl)
  have hw1:m.now.what=1∧m.now.ex=true∧m.now.loc=locS a m.locals:=by
   rw[hnow]
   unfold wantS
   rw[if_neg (by omega),if_neg (by omega),if_neg (by omega),if_neg (by omega),hms.1]
   simp
  obtain⟨hw1,hwx,hwl⟩:=hw1
  rw[←hwl]at hl
  obtain⟨e1,e2⟩:=load_mem (w:=m.now) h.mem hl
  have hcv:r.cell m.now<M64:=hr.cellV _
  have hL:=lded_ri h t m.now
  have hLl:(r.lded t m.now).ths.length=r.ths.length:=(((Grows.event SK r t 1 m.now.loc (r.cell m.now) m.now.mode).trans (Grows.read _ _ m.now)).trans (Grows.exd SK _ t m.now)).ths
  have hLm:((r.lded t m.now).th SK t).m=m:=(lded_th r t t m.now).trans hm
  generalize hr3:r.lded t m.now=r3 at *
  have hof:RR.of r3 lg pk = { (RR.of r lg pk).event t 1 m.now.loc (r.cell m.now) m.now.mode with rf:=r.rf++[(r.lastW m.now,r.events.length)] }:=by rw[←hr3];exact lded_of lg pk
  have hq:(RR.of r lg pk).doo t m.now=if ((RS.of m).next (r.cell m.now)).what=0 then(((RR.of r3 lg pk).fed t (r.cell m.now)).ask t).1 else
    RR.fed { (RR.of r3 lg pk).event t 2 ((RS.of m).next (r.cell m.now)).loc ((RS.of m).next (r.cell m.now)).val ((RS.of m).next (r.cell m.now)).mode with rmw:=r.rmw++[(r.events.length,r.events.length+1)],log:=lg++[t] } t (r.cell m.now):=by
   unfold RR.doo RR.load
   rw[if_pos hw1]
   simp only[hwx,if_true]
   rw[show(RR.of r lg pk).events=r.events from rfl,e2,e1]
   rw[show((RR.of r lg pk).event t 1 m.now.loc (r.cell m.now) m.now.mode).rf=r.rf from rfl]
   rw[←hof]
   have hs3:((RR.of r3 lg pk).th t).s=RS.of m:=by rw[th_of,←hLm];rfl
   rw[hs3]
   have e3:(RR.of r3 lg pk).rmw=r.rmw:=by rw[hof];rfl
   have e4:(RR.of r3 lg pk).log=lg:=rfl
   split
   ·rfl
   ·show RR.fed { (RR.of r3 lg pk).event t 2 _ _ _ with rmw:=(RR.of r3 lg pk).rmw++_,log:=(RR.of r3 lg pk).log++[t] } t _=_
    rw[e3,e4]
  have hd:r.doo SK t m.now=((r3.feed SK t (r.cell m.now)).ask SK t).second SK t r.events.length:=by
   unfold Rn.doo
   rw[if_pos hw1]
   rw[show(if (SK).words=true then m.now.one else m.now.ex)=true by rw[hwx];rfl]
   rw[if_neg (by simp),←hr3]
   rfl
  have hev3:=hev m.now
  rw[hr3]at hev3
  have hf3:((r3.feed SK t (r.cell m.now)).th SK t).m=feedS m (r.cell m.now):=by rw[feed_th _ (by omega),hLm]
  have hfl:(r3.feed SK t (r.cell m.now)).ths.length=r.ths.length:=by rw[(Grows.feed SK r3 t _).ths,hLl]
  have ha3:(((r3.feed SK t (r.cell m.now)).ask SK t).th SK t).m=nextS (feedS m (r.cell m.now)):=by rw[ask_th _ (by omega),hf3]
  have hal:((r3.feed SK t (r.cell m.now)).ask SK t).ths.length=r.ths.length:=by rw[(Grows.ask SK _ t).ths,hfl]
  have hwt:((r3.feed SK t (r.cell m.now)).ask SK t).wants SK t=(nextS (feedS m (r.cell m.now))).now:=by
   unfold Rn.wants
   rw[ha3]
   rfl
  rw[hq,hd]
  rcases ms_pair hms ha1 hown hnow hpair (r.cell m.now)with⟨h0,hfd,hmf⟩ | ⟨h0,hof5,hnw,hu2,hux,huo,hfd,hmf⟩
  ·have hF:RI nc (r3.feed SK t (r.cell m.now)):=hL.feed (by omega) _ hcv (by rw[hLm];exact ha) (by rw[hLm];exact h5) (by rw[hLm];exact h6) (by rw[hLm];exact hmf)
   have hA:=hF.ask t
   rw[if_pos h0]
   have hx:¬((nextS (feedS m (r.cell m.now))).now.what=2∧(nextS (feedS m (r.cell m.now))).now.ex=true):=fun ⟨hx1,hx2⟩=>by
    have hn:=next_ms hmf
    obtain⟨a',_,b1,b2,b3,_⟩:=hA.at_ (t:=t) (by omega) (by rw[ha3];exact hn.2.2) (by rw[ha3,hx1];decide) (by rw[ha3,hx1];decide)
    rw[ha3]at b3
    rw[b3]at hx1 hx2
    have:=hn.1.1
    unfold wantS at hx1 hx2
    rw[this]at hx1 hx2
    split at hx2
    ·cases hx2
    ·split at hx2
     ·cases hx2
     ·split at hx2
      ·cases hx2
      ·split at hx2
       ·cases hx2
       ·rename_i c1 c2 c3 c4
        rw[if_neg c1,if_neg c2,if_neg c3,if_neg c4]at hx1
        simp at hx1
   have hsec:((r3.feed SK t (r.cell m.now)).ask SK t).second SK t r.events.length=(r3.feed SK t (r.cell m.now)).ask SK t:=by
    unfold Rn.second
    simp only
    rw[hwt,if_pos]
    by_cases c1:(nextS (feedS m (r.cell m.now))).now.what=2
    ·right;left
     cases c2:(nextS (feedS m (r.cell m.now))).now.ex with
     | false=>rfl
     | true=>exact absurd ⟨c1,c2⟩ hx
    ·left;exact c1
   rw[hsec]
   refine⟨lg,?_,hA,?_⟩
   ·rw[←feed_of lg pk _ (r.cell m.now) (by rw[hLm];exact hfd),ask_of (by rw[hf3];exact hmf)]
   ·have:((r3.feed SK t (r.cell m.now)).ask SK t).events=r3.events:=rfl
    rw[this,hev3]
    omega
  ·rw[if_neg h0]
   generalize hu:(RS.of m).next (r.cell m.now)=u at *
   generalize hr5:(r3.feed SK t (r.cell m.now)).ask SK t=r5 at *
   have hof3:RR.of r5 lg pk=RR.of r3 lg pk:=by
    rw[←hr5]
    unfold Rn.ask
    rw[set_of]
    unfold Rn.feed
    rw[set_of]
    have e5:(((r3.setM SK t ((SK).feed (r3.th SK t).m (r.cell m.now))).th SK t)).m=feedS m (r.cell m.now):=hf3
    rw[e5]
    have e6:RS.of ((SK).next (feedS m (r.cell m.now)))=((RR.of r3 lg pk).th t).s:=by rw[th_of,show(RT.of (r3.th SK t)).s=RS.of (r3.th SK t).m from rfl,hLm];exact hof5
    rw[e6]
    have e7:∀(q:RR) (s':RS),(q.setS t s').setS t (q.th t).s=q:=fun q s'=>by
     have hth:((q.setS t s').th t).nums=(q.th t).nums:=by
      show((q.ths.set t ⟨s',(q.th t).nums⟩).getD t noT).nums=(q.th t).nums
      by_cases hlt:t<q.ths.length
      ·rw[Kit.gD,List.getElem?_set_self hlt];rfl
      ·rw[List.set_eq_of_length_le (by omega)];rfl
     unfold RR.setS at hth ⊢
     rw[hth]
     simp only[List.set_set]
     have:q.ths.set t (q.th t)=q.ths:=set_self q.ths t noT
     rw[show(⟨(q.th t).s,(q.th t).nums⟩:RT)=q.th t from rfl,this]
    exact e7 _ _
   have hwl2:0≤u.loc∧u.loc<(nc:Int):=by
    have:u.loc=m.now.loc:=by
     rw[←hu,hwl]
     unfold RS.next at hu ⊢
     rw[show(RS.of m).acts[(RS.of m).at_]?=some a from ha1]at hu ⊢
     simp only at hu ⊢
     unfold RS.thenW at hu ⊢
     split at hu
     ·rw[←hu]at h0;exact absurd rfl h0
     ·rename_i hc
      rw[if_neg hc]
      rfl
    rw[this];exact hl
   have h5l:r5.ths.length=r.ths.length:=hal
   have h5e:r5.events=r3.events:=by rw[←hr5];rfl
   have h5rn:RnOk nc r5:=by
    rw[←hr5]
    have h1:RnOk nc r3:=by
     rw[←hr3]
     have h2:=hr.event (K:=SK) t 1 m.now.loc (r.cell m.now) m.now.mode
     have h3:RnOk nc ((r.event SK t 1 m.now.loc (r.cell m.now) m.now.mode).read r.events.length m.now) :=
      ⟨h2.cells,h2.last,h2.co,h2.outs,h2.vals,h2.nums,by have:=hr.rf;simp[Rn.read,Rn.event];omega,h2.rmw,h2.coi,h2.outi,h2.log⟩
     exact h3.exd t m.now
    exact(h1.feed t _).ask t
   have hm5:MemOk nc r5:=hL.mem.same h5e (by rw[←hr5];rfl) (by rw[←hr5];rfl) (by rw[←hr5];rfl)
   have hsec:r5.second SK t r.events.length = { (r5.store SK t u)with rmw:=(r5.store SK t u).rmw++[(r.events.length,r5.events.length)],log:=(r5.store SK t u).log++[t] }:=by
    unfold Rn.second
    simp only
    rw[hwt,hnw,if_neg (by rw[hu2,hux,huo];simp[SK,srcK])]
    rfl
   have hW:=hm5.wrote h5rn t u hwl2 u.mode
   have hth5:∀x,((((r5.event SK t 2 u.loc u.val u.mode).wrote r5.events.length u)).th SK x).m=(r5.th SK x).m:=fun x=>event_th SK r5 t x 2 u.loc u.val u.mode
   have hl5:((r5.event SK t 2 u.loc u.val u.mode).wrote r5.events.length u).ths.length=r.ths.length:=by
    rw[←h5l]
    exact((Grows.event SK r5 t 2 u.loc u.val u.mode).trans (Grows.wrote _ _ u)).ths
   rw[hsec]
   refine⟨lg++[t],?_,?_,?_⟩
   ·have e8:RR.of (r5.store SK t u) (lg++[t]) pk=RR.fed { (RR.of r3 lg pk).event t 2 u.loc u.val u.mode with log:=lg++[t] } t (r.cell m.now):=by
     unfold Rn.store
     rw[feed_of (lg++[t]) pk 1 (r.cell m.now) (by rw[hth5,ha3,hfd,hof5])]
     rw[wrote_of,event_of]
     have:RR.of r5 (lg++[t]) pk = { RR.of r3 lg pk with log:=lg++[t] }:=by rw[←hof3];rfl
     rw[this]
     rfl
    have e9:RR.of { (r5.store SK t u)with rmw:=(r5.store SK t u).rmw++[(r.events.length,r5.events.length)],log:=(r5.store SK t u).log++[t] } (lg++[t]) pk = { RR.of (r5.store SK t u) (lg++[t]) pk with rmw:=(r5.store SK t u).rmw++[(r.events.length,r5.events.length)] }:=rfl
    rw[e9,e8,h5e,hev3]
    have e10:(r5.store SK t u).rmw=r.rmw:=by
     rw[←hr5,←hr3]
     unfold Rn.store Rn.ask Rn.feed Rn.setM Rn.setT Rn.wrote Rn.event Rn.lded Rn.exd
     split <;> rfl
    rw[e10]
    rfl
   ·have hR:RI nc ((r5.event SK t 2 u.loc u.val u.mode).wrote r5.events.length u)→True:=fun _=>trivial
    refine⟨?_,fun x=>?_,fun x hx=>?_⟩
    ·exact hW.same rfl rfl rfl rfl
    ·show MS (((r5.store SK t u).th SK x)).m
     unfold Rn.store Rn.feed
     rw[setM_th]
     split
     ·rw[hth5,ha3];exact hmf
     ·rename_i hx
      rw[hth5]
      by_cases hxt:t=x
      ·exact absurd ⟨hxt,by omega⟩ hx
      ·rw[←hr5]
       unfold Rn.ask
       rw[setM_th,if_neg (fun hh=>hxt hh.1)]
       unfold Rn.feed
       rw[setM_th,if_neg (fun hh=>hxt hh.1)]
       exact hL.ms x
    ·have hxl:x<r.ths.length:=by
      have:(r5.store SK t u).ths.length=r5.ths.length:=(Grows.store SK r5 t u).ths
      have hx2:x<(r5.store SK t u).ths.length:=hx
      omega
     show ∃nl,MchOk nc nl ((r5.store SK t u).th SK x).m
     unfold Rn.store Rn.feed
     rw[setM_th]
     split
     ·rw[hth5,ha3]
      refine⟨nl,?_⟩
      have hf:=feedS_ok hok ha h5 h6 (r.cell m.now) hcv
      have hn:=nextS_ok hf
      have hna:(nextS (feedS m (r.cell m.now))).asked=true:=by
       unfold nextS
       split
       ·rename_i hc;exact hc.1
       ·exact nextL_on 100000 _ rfl
      exact feedS_ok hn hna (by rw[hnw,hu2];decide) (by rw[hnw,hu2];decide) 1 (by decide)
     ·rename_i hx2
      rw[hth5]
      by_cases hxt:t=x
      ·exact absurd ⟨hxt,by omega⟩ hx2
      ·rw[←hr5]
       unfold Rn.ask
       rw[setM_th,if_neg (fun hh=>hxt hh.1)]
       unfold Rn.feed
       rw[setM_th,if_neg (fun hh=>hxt hh.1)]
       exact hL.ok x (by omega)
   ·have:(r5.store SK t u).events.length=r5.events.length+1:=store_events t u
    show((lg++[t]).length:Int)-lg.length≤((r5.store SK t u).events.length:Int)-r.events.length
    rw[this,h5e,hev3]
    simp
    omega
 ·have hx:m.now.ex=false:=by
   rw[hnow]
   unfold wantS
   by_cases c2:a.op=2
   ·rw[if_pos c2]
   ·rw[if_neg c2]
    by_cases c3:a.op=3
    ·rw[if_pos c3]
    ·rw[if_neg c3]
     by_cases c7:a.op=7
     ·rw[if_pos c7]
     ·rw[if_neg c7,if_pos (by omega)]
  have hpl:=fun v=>ms_plain hms ha1 hnow hx v
  refine⟨lg,?_⟩
  have hop2:a.op=2∨a.op=3∨a.op=7∨a.op=8:=by omega
  rcases hop2 with c | c | c | c
  ·
   have hl:=hloc (by rw[c];rfl)
   have hw:m.now.what=1∧m.now.loc=locS a m.locals:=by rw[hnow];simp[wantS,c]
   rw[←hw.2]at hl
   obtain⟨e1,e2⟩:=load_mem (w:=m.now) h.mem hl
   have hd:r.doo SK t m.now=(r.lded t m.now).feed SK t (r.cell m.now):=by
    unfold Rn.doo
    rw[if_pos hw.1,show(if (SK).words=true then m.now.one else m.now.ex)=false by rw[hx];rfl,if_pos rfl]
    rfl
   have hLm:((r.lded t m.now).th SK t).m=m:=(lded_th r t t m.now).trans hm
   have hLl:(r.lded t m.now).ths.length=r.ths.length:=(((Grows.event SK r t 1 m.now.loc (r.cell m.now) m.now.mode).trans (Grows.read _ _ m.now)).trans (Grows.exd SK _ t m.now)).ths
   have hcv:r.cell m.now<M64:=hr.cellV _
   rw[hd]
   refine⟨?_,(lded_ri h t m.now).feed (by omega) _ hcv (by rw[hLm];exact ha) (by rw[hLm];exact h5) (by rw[hLm];exact h6) (by rw[hLm];exact(hpl _).2),?_⟩
   ·rw[feed_of lg pk _ (r.cell m.now) (by rw[hLm];exact(hpl _).1),lded_of]
    unfold RR.doo RR.load
    rw[if_pos hw.1]
    simp only[hx]
    rw[show(RR.of r lg pk).events=r.events from rfl,e2,e1]
    rfl
   ·show(lg.length:Int)-lg.length≤((r.lded t m.now).events.length:Int)-r.events.length
    rw[hev]
    omega
  ·
   have hl:=hloc (by rw[c];rfl)
   have hw:m.now.what=2∧m.now.loc=locS a m.locals:=by rw[hnow];simp[wantS,c]
   rw[←hw.2]at hl
   have hd:r.doo SK t m.now=r.store SK t m.now:=by
    unfold Rn.doo
    rw[if_neg (by rw[hw.1];decide),if_pos hw.1,if_neg (by rw[hx];simp)]
   have hth:∀x,((((r.event SK t 2 m.now.loc m.now.val m.now.mode).wrote r.events.length m.now)).th SK x).m=(r.th SK x).m:=fun x=>event_th SK r t x 2 m.now.loc m.now.val m.now.mode
   have hR:RI nc ((r.event SK t 2 m.now.loc m.now.val m.now.mode).wrote r.events.length m.now):=h.same (h.mem.wrote hr t m.now hl m.now.mode) hth ((Grows.event SK r t 2 _ _ _).trans (Grows.wrote _ _ _)).ths
   have hRl:((r.event SK t 2 m.now.loc m.now.val m.now.mode).wrote r.events.length m.now).ths.length=r.ths.length:=((Grows.event SK r t 2 _ _ _).trans (Grows.wrote _ _ _)).ths
   rw[hd]
   refine⟨?_,?_,?_⟩
   ·unfold Rn.store
    rw[feed_of lg pk 1 1 (by rw[hth,hm];exact(hpl 1).1),wrote_of,event_of]
    unfold RR.doo
    rw[if_neg (by rw[hw.1];decide),if_pos hw.1]
   ·unfold Rn.store
    exact hR.feed (by omega) 1 (by decide) (by rw[hth,hm];exact ha) (by rw[hth,hm];exact h5) (by rw[hth,hm];exact h6) (by rw[hth,hm];exact(hpl 1).2)
   ·rw[store_events];omega
  ·
   have hw:m.now.what=3:=by rw[hnow];simp[wantS,c]
   have hd:r.doo SK t m.now=(r.event SK t 3 (-1) 0 m.now.mode).feed SK t 0:=by
    unfold Rn.doo
    rw[if_neg (by rw[hw];decide),if_neg (by rw[hw];decide),if_pos hw]
   have hth:∀x,((r.event SK t 3 (-1) 0 m.now.mode).th SK x).m=(r.th SK x).m:=fun x=>event_th SK r t x 3 (-1) 0 m.now.mode
   have hR:RI nc (r.event SK t 3 (-1) 0 m.now.mode):=h.same (h.mem.event t 3 (-1) 0 m.now.mode (by decide)) hth (Grows.event SK r t 3 _ _ _).ths
   have hRl:=(Grows.event SK r t 3 (-1) 0 m.now.mode).ths
   rw[hd]
   refine⟨?_,hR.feed (by omega) 0 (by decide) (by rw[hth,hm];exact ha) (by rw[hth,hm];exact h5) (by rw[hth,hm];exact h6) (by rw[hth,hm];exact(hpl 0).2),?_⟩
   ·rw[feed_of lg pk 0 0 (by rw[hth,hm];exact(hpl 0).1),event_of]
    unfold RR.doo
    rw[if_neg (by rw[hw];decide),if_neg (by rw[hw];decide),if_pos hw]
   ·show(lg.length:Int)-lg.length≤((r.events++[_]).length:Int)-r.events.length
    rw[List.length_append]
    omega
  ·
   have hw:m.now.what=4:=by rw[hnow];simp[wantS,c]
   have hd:r.doo SK t m.now=(r.out t m.now.val).feed SK t 0:=by
    unfold Rn.doo
    rw[if_neg (by rw[hw];decide),if_neg (by rw[hw];decide),if_neg (by rw[hw];decide),if_pos hw]
   have hth:∀x,((r.out t m.now.val).th SK x).m=(r.th SK x).m:=fun x=>rfl
   have hR:RI nc (r.out t m.now.val):=h.same (h.mem.same rfl rfl rfl rfl) hth rfl
   rw[hd]
   refine⟨?_,hR.feed ht 0 (by decide) (by rw[hth,hm];exact ha) (by rw[hth,hm];exact h5) (by rw[hth,hm];exact h6) (by rw[hth,hm];exact(hpl 0).2),?_⟩
   ·rw[feed_of lg pk 0 0 (by rw[hth,hm];exact(hpl 0).1)]
    unfold RR.doo
    rw[if_neg (by rw[hw];decide),if_neg (by rw[hw];decide),if_neg (by rw[hw];decide),if_pos hw]
    rfl
   ·show(lg.length:Int)-lg.length≤(r.events.length:Int)-r.events.length
    simp
end
theorem noUse_can {nc:Nat} {r:Rn Mch} {w:Want} (hr:RnOk nc r) (h1:1≤w.what∧w.what≤6) (hl:w.what=1∨w.what=2→0≤w.loc∧w.loc<(nc:Int)):noUse nc w = !(r.can w):=by
 have hc:=hr.cells
 unfold noUse Rn.can
 by_cases c:w.what=1∨w.what=2
 ·have:=hl c
  rw[if_pos c,decide_eq_false (by omega),decide_eq_true (by omega)]
  rfl
 ·rw[if_neg c]
  by_cases c5:w.what=5
  ·rw[decide_eq_true (by omega),decide_eq_false (by omega)]
   rfl
  ·rw[decide_eq_false (by omega),decide_eq_true (by omega)]
   rfl
theorem did_of (r:Rn Mch) (lg pk:List Nat) (t:Nat):(RR.of r lg pk).did t=RR.of (r.did t) (lg++[t]) (pk++[t]):=rfl
theorem RnOk.thM {nc:Nat} {r:Rn Mch} (_hr:RnOk nc r) (h:RI nc r) (t:Nat):(nextS (r.th SK t).m).now.val<M64:=by
 by_cases ht:t<r.ths.length
 ·obtain⟨nl,hok⟩:=h.ok t ht
  exact(nextS_ok hok).nval
 ·have:r.th SK t=⟨noM,[],-1⟩:=by
   unfold Rn.th
   rw[Kit.gD,List.getElem?_eq_none (by omega)]
   rfl
  rw[this]
  decide +kernel
theorem now_range (x:Mch) (h:NowOk x) (hz:x.now.what=5∨x.now.what=6∨(x.now.what≠5∧x.now.what≠6)):1≤x.now.what∧x.now.what≤6:=by
 rcases hz with h5 | h6 | ⟨h5,h6⟩
 ·omega
 ·omega
 ·obtain⟨a,_,_,h3⟩:=h h5 h6
  rw[h3]
  have:=wantS_what x a
  omega
theorem step_of {nc:Nat} {r:Rn Mch} (h:RI nc r) (hr:RnOk nc r) (t:Int) (lg pk:List Nat) :
  ∃lg' pk',(RR.of r lg pk).step nc t=RR.of (r.pick SK t) lg' pk'∧RI nc (r.pick SK t)∧RnOk nc (r.pick SK t)∧(lg.length≤r.used+r.events.length→lg'.length≤(r.pick SK t).used+(r.pick SK t).events.length)∧(pk.length≤r.used→pk'.length≤(r.pick SK t).used):=by
 have hthv:∀t:Nat,((r.ask SK t).wants SK t).val<M64:=fun t=>by
  by_cases ht:t<r.ths.length
  ·show((r.ask SK t).th SK t).m.now.val<M64
   rw[ask_th r ht]
   exact hr.thM h t
  ·have:(r.ask SK t).th SK t=⟨noM,[],-1⟩:=by
    unfold Rn.th
    rw[Kit.gD,List.getElem?_eq_none (by rw[(Grows.ask SK r t).ths];omega)]
    rfl
   show((r.ask SK t).th SK t).m.now.val<M64
   rw[this]
   decide +kernel
 have hthv2:∀t:Nat,((r.ask SK t).wants SK t).what=1→(((((r.ask SK t).did t).load SK t ((r.ask SK t).wants SK t)).ask SK t).wants SK t).val<M64:=fun t hw=>by
  have ht:t<r.ths.length:=Nat.lt_of_not_le fun hge=>by
   have:(r.ask SK t).th SK t=⟨noM,[],-1⟩:=by
    unfold Rn.th
    rw[Kit.gD,List.getElem?_eq_none (by rw[(Grows.ask SK r t).ths];omega)]
    rfl
   have hw':((r.ask SK t).th SK t).m.now.what=1:=hw
   rw[this]at hw'
   revert hw'
   decide
  have hA:=h.ask t
  have hAl:(r.ask SK t).ths.length=r.ths.length:=(Grows.ask SK r t).ths
  have hm:((r.ask SK t).th SK t).m=nextS (r.th SK t).m:=ask_th r ht
  have hon:(nextS (r.th SK t).m).asked=true:=(next_ms (h.ms t)).2.2
  have hw':(nextS (r.th SK t).m).now.what=1:=by rw[←hm];exact hw
  obtain⟨nl,hok⟩:=h.ok t ht
  have hcv:(r.ask SK t).cell ((r.ask SK t).wants SK t)<M64:=(hr.ask t).cellV _
  have hf:=feedS_ok (nextS_ok hok) hon (by rw[hw'];decide) (by rw[hw'];decide) _ hcv
  have hL:((r.ask SK t).did t).load SK t ((r.ask SK t).wants SK t)=(((r.ask SK t).did t).lded t ((r.ask SK t).wants SK t)).feed SK t ((r.ask SK t).cell ((r.ask SK t).wants SK t)):=rfl
  have hLl:(((r.ask SK t).did t).lded t ((r.ask SK t).wants SK t)).ths.length=r.ths.length:=by
   rw[←hAl]
   exact(((Grows.event SK ((r.ask SK t).did t) t 1 _ _ _).trans (Grows.read _ _ ((r.ask SK t).wants SK t))).trans (Grows.exd SK _ t _)).ths
  have hLm:((((r.ask SK t).did t).lded t ((r.ask SK t).wants SK t)).th SK t).m=nextS (r.th SK t).m:=(lded_th _ t t _).trans hm
  rw[hL]
  show(((((((r.ask SK t).did t).lded t ((r.ask SK t).wants SK t)).feed SK t ((r.ask SK t).cell ((r.ask SK t).wants SK t))).ask SK t).th SK t)).m.now.val<M64
  rw[ask_th _ (by rw[(Grows.feed SK _ t _).ths];omega),feed_th _ (by omega),hLm]
  exact(nextS_ok hf).nval
 have hRn:=hr.pick t hthv hthv2
 unfold RR.step Rn.pick at *
 rw[show(RR.of r lg pk).ths.length=r.ths.length from by simp[RR.of]]
 split
 ·rename_i hc
  rw[if_pos hc]at hRn
  exact⟨lg,pk,rfl,h,hr,id,id⟩
 ·rename_i hc
  rw[if_neg hc]at hRn
  have ht:t.toNat<r.ths.length:=by omega
  have hA:=h.ask t.toNat
  have hAl:(r.ask SK t.toNat).ths.length=r.ths.length:=(Grows.ask SK r t.toNat).ths
  have hm:((r.ask SK t.toNat).th SK t.toNat).m=nextS (r.th SK t.toNat).m:=ask_th r ht
  have hon:((r.ask SK t.toNat).th SK t.toNat).m.asked=true:=by rw[hm];exact(next_ms (h.ms _)).2.2
  have hwn:(r.ask SK t.toNat).wants SK t.toNat=((r.ask SK t.toNat).th SK t.toNat).m.now:=rfl
  have hrA:=hr.ask (K:=SK) t.toNat
  obtain⟨nl,hok⟩:=hA.ok t.toNat (by omega)
  simp only
  rw[ask_of (h.ms _),←hm]
  simp only at hRn ⊢
  rw[hwn]at hRn ⊢
  have hq:(r.ask SK t.toNat).used=r.used∧(r.ask SK t.toNat).events=r.events:=⟨rfl,rfl⟩
  generalize r.ask SK t.toNat=r1 at *
  have hnow:=hok.now hon
  have hz:(r1.th SK t.toNat).m.now.what=5∨(r1.th SK t.toNat).m.now.what=6∨((r1.th SK t.toNat).m.now.what≠5∧(r1.th SK t.toNat).m.now.what≠6):=by omega
  have hloc:(r1.th SK t.toNat).m.now.what=1∨(r1.th SK t.toNat).m.now.what=2→0≤(r1.th SK t.toNat).m.now.loc∧(r1.th SK t.toNat).m.now.loc<(nc:Int):=fun hw=>by
   obtain⟨a,b1,b2,b3⟩:=hnow (by omega) (by omega)
   have hwell:=hok.toMchW.well b1
   rw[b3]at hw ⊢
   have hop:=hwell.parts.1
   unfold wantS at hw ⊢
   by_cases c2:a.op=2
   ·rw[if_pos c2];exact locS_range (hwell.place (by rw[c2];rfl)) _
   ·rw[if_neg c2]at hw ⊢
    by_cases c3:a.op=3
    ·rw[if_pos c3];exact locS_range (hwell.place (by rw[c3];rfl)) _
    ·rw[if_neg c3]at hw ⊢
     by_cases c7:a.op=7
     ·rw[if_pos c7]at hw;simp at hw
     ·rw[if_neg c7]at hw ⊢
      by_cases c8:a.op=8
      ·rw[if_pos c8]at hw;simp at hw
      ·rw[if_neg c8]
       have hp:hasPlace a.op=true:=by
        unfold ownB at b2
        simp at b2
        have:a.op=4∨a.op=5∨a.op=6:=by omega
        rcases this with h | h | h <;> rw[h] <;> rfl
       have:=locS_range (hwell.place hp) (r1.th SK t.toNat).m.locals
       split <;> exact this
  have hnc:=noUse_can (w:=(r1.th SK t.toNat).m.now) hrA (now_range _ hnow hz) hloc
  rw[hnc]
  cases hcan:r1.can (r1.th SK t.toNat).m.now with
  | false =>
   rw[hcan]at hRn
   simp only[Bool.not_false,if_true,Bool.false_eq_true,if_false]at hRn ⊢
   exact⟨lg,pk,rfl,hA,hRn,fun hl=>by rw[hq.1,hq.2];exact hl,fun hl=>by rw[hq.1];exact hl⟩
  | true =>
   rw[hcan]at hRn
   simp only[Bool.not_true,Bool.false_eq_true,if_false,if_true]at hRn ⊢
   have h5:(r1.th SK t.toNat).m.now.what≠5:=fun h5=>by
    unfold Rn.can at hcan
    rw[if_neg (by omega)]at hcan
    simp at hcan
    omega
   have hD:RI nc (r1.did t.toNat):=hA.same (hA.mem.same rfl rfl rfl rfl) (fun _=>rfl) rfl
   have hDl:(r1.did t.toNat).ths.length=r1.ths.length:=rfl
   obtain⟨lg',e1,e2,e3⟩:=doo_of (r:=r1.did t.toNat) hD (hrA.did _) (t:=t.toNat) (by omega) hon h5 (lg++[t.toNat]) (pk++[t.toNat])
   have e4:((r1.did t.toNat).th SK t.toNat).m=(r1.th SK t.toNat).m:=rfl
   rw[e4]at e1 e2 e3
   have hu:=doo_used (K:=SK) (r:=r1.did t.toNat) t.toNat (r1.th SK t.toNat).m.now
   have hu2:(r1.did t.toNat).used=r1.used+1:=rfl
   refine⟨lg',pk++[t.toNat],by rw[did_of];exact e1,e2,hRn,fun hl=>?_,fun hl=>?_⟩
   ·have e5:(r1.did t.toNat).events=r1.events:=rfl
    rw[e5,List.length_append,List.length_singleton]at e3
    rw[hu,hu2,hq.1]
    rw[hq.2]at e3
    omega
   ·rw[hu,hu2,hq.1,List.length_append,List.length_singleton]
    omega
theorem play_of {nc:Nat} (fuel:Int):∀(l:List Int) (r:Rn Mch) (lg pk:List Nat),RI nc r→RnOk nc r→lg.length≤r.used+r.events.length→pk.length≤r.used →
  ∃lg' pk',(RR.of r lg pk).play nc fuel l=(RR.of (SK.play fuel l r).1 lg' pk',(SK.play fuel l r).2)∧RI nc (SK.play fuel l r).1∧RnOk nc (SK.play fuel l r).1∧lg'.length≤(SK.play fuel l r).1.used+(SK.play fuel l r).1.events.length∧pk'.length≤(SK.play fuel l r).1.used
 | [],r,lg,pk,h,hr,h1,h2=>⟨lg,pk,rfl,h,hr,h1,h2⟩
 | t :: l,r,lg,pk,h,hr,h1,h2=>by
  unfold RR.play Kd.play
  rw[show(RR.of r lg pk).events.length=r.events.length from rfl,show(RR.of r lg pk).used=r.used from rfl]
  split
  ·exact⟨lg,pk,rfl,h,hr,h1,h2⟩
  ·split
   ·exact⟨lg,pk,rfl,h,hr,h1,h2⟩
   ·obtain⟨lg',pk',e,a1,a2,a3,a4⟩:=step_of h hr t lg pk
    rw[e]
    exact play_of fuel l _ lg' pk' a1 a2 (a3 h1) (a4 h2)
end Go.Proofs.YtmjilfamjlnigaaGreat.SrcP
