/- The state of a play of the reference; an assertion behind a block that is left by exits. -/
import Derived.Test.YtkcdehffcddciaaGreatDoorQ22
import Derived.Test.YtkcdehffcddciaaGreatDoorQ19
import Derived.Test.YtkcdehffcddciaaGreatDoorQ18
import Derived.Test.YtkcdehffcddciaaGreatDoorQ14
namespace Go.Proofs.YtkcdehffcddciaaGreatDoor.Vm
open Go Go.RowKit
theorem Es.toB {C:Cx} {K:List Fr} {a:Sc} {e:Env} {h:H} {id:Nat} {X:Type} (env:X→Env) (φ:X→H→Prop) (hs:Es C (.blk id :: .cut (fun e h=>∃x,Cov e (env x)∧φ x h) :: K) a e h) (hb:∀x h,φ x h→Nx C K (env x) h):Es C (.blk id :: K) a e h :=
 ⟨fun t ht=>(hs.run t ht).mono fun x t h ⟨e,ht,hk⟩=>by
  have hk:kont C (.cut (fun e h=>∃x,Cov e (env x)∧φ x h) :: K) (catch_ id x) e h:=hk
  have goal:∃e,Tm t e∧kont C K (catch_ id x) e h:=by
   cases hx:catch_ id x with
   | normal =>
    rw[hx]at hk
    exact let ⟨x,hc,hp⟩:=hk;⟨env x,ht.cov hc,(hb x h hp).run⟩
   | exit n=>rw[hx]at hk;exact⟨e,ht,hk⟩
   | ret=>rw[hx]at hk;exact⟨e,ht,hk⟩
  exact goal⟩
structure RC where
 hS:H
 nT:Nat
 nR:Nat
 P:Nat→Prop
 vq:V
 vo:V
 vf:V
 v6:V
 c1:∀k,P k→nT≤k
 c2:¬P vf.ba
 c3:nT≤vf.ba
 c4:v6.ba<nT
structure RS where
 i:Nat
 T:List (List Int)
 Q:List (List Int)
 O:List (List Int)
 F:List Int
 tv:List V
 qs:List V
 os:List V
structure RI (c:RC) (g:Gr) (n:Nat) (h:H) (x:RS):Prop where
 mac:Mac h c.nT c.P c.vq c.vo 27 27 1 3 icell x.Q x.O x.qs x.os
 gp:Gp g n x.T x.Q x.O x.F
 fr:Ar h c.nT c.vf 1 3 icell x.F
 td:Ar h c.nR c.v6 1 27 vcell x.tv
 tl:x.tv.length=n
 rows:∀t,t<n→Ro h (gt x.tv t) 1 icell (gt x.T t)∧(0<(gt x.T t).length→(gt x.tv t).ba<c.nT∧(gt x.tv t).ba≠c.v6.ba)
 pr:Pr (fun k=>c.P k∨k=c.vf.ba∨k=c.v6.ba) c.hS h
 wf:Wf h
section
variable {c:RC} {g:Gr} {n:Nat} {h h1 h2:H} {x:RS} {t:Nat}
theorem RI.flush (hI : RI c g n h x) (ht : t < n) {qs' os' : List V} (hm : Mac h1 c.nT c.P c.vq c.vo 27 27 1 3 icell (flushP g.ev x.Q x.O t).1 (flushP g.ev x.Q x.O t).2 qs' os') (p : Pr c.P h h1) (i : Nat) : RI c g n h1 ⟨i, x.T, (flushP g.ev x.Q x.O t).1, (flushP g.ev x.Q x.O t).2, x.F, x.tv, qs', os'⟩ :=
  { mac := hm
    gp := hI.gp.flush ht
    fr := p.ar hI.fr c.c2
    td := p.ar hI.td fun hp => by have := c.c1 _ hp; have := c.c4; omega
    tl := hI.tl
    rows := fun s hs => ⟨p.ro hI.wf Nat.zero_lt_one (hI.rows s hs).1 fun h0 hp => by have h5 : c.nT ≤ (gt x.tv s).ba := c.c1 _ hp; have h6 : (gt x.tv s).ba < c.nT := ((hI.rows s hs).2 h0).1; omega, (hI.rows s hs).2⟩
    pr := hI.pr.trans (p.sub fun k _ hp => .inl hp)
    wf := p.wf hI.wf }
theorem tlV_ba {v:V} {sz n k:Nat} (hl:Ln v sz n):(tlV v k).ba=v.ba:=by
 rcases hl.is with⟨rfl,_⟩ | ⟨b,o,cap,kn,rfl,_⟩ <;> rfl
theorem RI.step {b : Bool} (hI : RI c g n h x) (hw : WF g b) (ht : t < n) {k : Nat} (hl : (stepP g.ev g.rmw x.Q x.O x.F t (gt x.T t)).l = (gt x.T t).drop k) (hk : k ≤ (gt x.T t).length) {qs' os' : List V}
    (hm : Mac h1 c.nT c.P c.vq c.vo 27 27 1 3 icell (stepP g.ev g.rmw x.Q x.O x.F t (gt x.T t)).Q (stepP g.ev g.rmw x.Q x.O x.F t (gt x.T t)).O qs' os') (hf : Ar h1 c.nT c.vf 1 3 icell (stepP g.ev g.rmw x.Q x.O x.F t (gt x.T t)).F) (p : Pr (fun k => c.P k ∨ k = c.vf.ba) h h1)
    (hA : Ar h2 c.nR c.v6 1 27 vcell (x.tv.set t (tlV (gt x.tv t) k))) (m : Mo h1 h2 (some c.v6.ba)) (i : Nat) :
    RI c g n h2 ⟨i, x.T.set t (stepP g.ev g.rmw x.Q x.O x.F t (gt x.T t)).l, (stepP g.ev g.rmw x.Q x.O x.F t (gt x.T t)).Q, (stepP g.ev g.rmw x.Q x.O x.F t (gt x.T t)).O, (stepP g.ev g.rmw x.Q x.O x.F t (gt x.T t)).F, x.tv.set t (tlV (gt x.tv t) k), qs', os'⟩ := by
  have c1 := c.c1
  have c3 := c.c3
  have c4 := c.c4
  have p2 : Pr (fun k => c.P k ∨ k = c.vf.ba ∨ k = c.v6.ba) h h2 := (p.sub fun k _ hp => by rcases hp with h | h; exact .inl h; exact .inr (.inl h)).trans (Pr.of_mo m fun k hk => by injection hk with hk; exact .inr (.inr hk.symm))
  have htl : t < x.T.length := by rw [hI.gp.tl]; exact ht
  have hnp : ∀ k, k < c.nT → k ≠ c.v6.ba → ¬ (c.P k ∨ k = c.vf.ba ∨ k = c.v6.ba) := fun k h1 h2 h3 => by
    rcases h3 with h3 | h3 | h3
    · have := c1 k h3; omega
    · omega
    · exact h2 h3
  exact
  { mac := hm.mo m fun k hk hp => by injection hk with hk; subst hk; have := c1 _ hp; omega
    gp := hI.gp.step hw ht
    fr := hf.mo m fun e => by injection e with e; omega
    td := hA
    tl := by
      show (x.tv.set t _).length = n
      rw [List.length_set]; exact hI.tl
    rows := fun s hs => by
      show Ro h2 (gt (x.tv.set t _) s) 1 icell (gt (x.T.set t _) s) ∧ (0 < (gt (x.T.set t _) s).length → (gt (x.tv.set t _) s).ba < c.nT ∧ (gt (x.tv.set t _) s).ba ≠ c.v6.ba)
      rw [gt_set (by rw [hI.tl]; exact ht), gt_set htl]
      obtain ⟨hr1, hr2⟩ := hI.rows s hs
      by_cases e : s = t
      · subst e
        rw [if_pos rfl, if_pos rfl, hl, tlV_ba hr1.ln]
        have h3 := p2.ro hI.wf Nat.zero_lt_one hr1 fun h0 => hnp _ (hr2 h0).1 (hr2 h0).2
        exact ⟨h3.tl hk, fun h0 => hr2 (by rw [List.length_drop] at h0; omega)⟩
      · rw [if_neg e, if_neg e]
        exact ⟨p2.ro hI.wf Nat.zero_lt_one hr1 fun h0 => hnp _ (hr2 h0).1 (hr2 h0).2, hr2⟩
    pr := hI.pr.trans p2
    wf := p2.wf hI.wf }
theorem RI.at_ {i j:Nat} {T Q O:List (List Int)} {F:List Int} {tv qs os:List V} (hI:RI c g n h ⟨i,T,Q,O,F,tv,qs,os⟩):RI c g n h ⟨j,T,Q,O,F,tv,qs,os⟩ :=
 { mac:=hI.mac,gp:=hI.gp,fr:=hI.fr,td:=hI.td,tl:=hI.tl,rows:=hI.rows,pr:=hI.pr,wf:=hI.wf }
end
theorem step_less2 {ev:List Ev_} {rmw:List (Int × Int)} {T Q O:List (List Int)} {F:List Int} {t:Nat} (hq:t<Q.length) (hd:(stepP ev rmw Q O F t (gt T t)).done=true):2*(stepP ev rmw Q O F t (gt T t)).l.length+(gt (stepP ev rmw Q O F t (gt T t)).Q t).length<2*(gt T t).length+(gt Q t).length:=by
 cases hx:gt T t with
 | nil=>rw[hx]at hd;cases hd
 | cons x r =>
  rw[hx]at hd
  rw[stepP_cons]at hd ⊢
  by_cases h:waits ev rmw x∧gt Q t≠[]
  ·rw[if_pos h]at hd;cases hd
  ·rw[if_neg h]
   simp only
   have h1:(if 0≤secV x rmw then r.drop 1 else r).length≤r.length:=by
    split
    ·rw[List.length_drop];omega
    ·exact Nat.le_refl _
   have h2:(gt (if 0≤secV x rmw∨(gt ev x.toNat).kind≠2 then Q else Q.set t (gt Q t++[x])) t).length≤(gt Q t).length+1:=by
    split
    ·omega
    ·rw[gt_set hq,if_pos rfl];simp
   rw[List.length_cons]
   omega
theorem Gw.blk_some {α:Type} [Inhabited α] {h:H} {n0 sz:Nat} {v:V} {ty:TypeId} {c:α→Nat→V} {l:List α} (hg:Gw h n0 v sz ty c l) (h0:0<l.length):v.blk=some v.ba:=by
 rcases hg.own with⟨_,rfl⟩ | ⟨b,o,rfl,_⟩
 ·exact absurd h0 (Nat.lt_irrefl _)
 ·rfl
def s38:Sc:=(.seq (.region (
 ⟨none,some 3,.bx 83 (.t 1),[1]⟩ :: []))
(.mix (
 (⟨none,some 4,.mv (.t 0),[0]⟩,.q [none,(some 15),(some 16)]) ::
 (⟨none,some 5,.nc (.t 4),[4]⟩,.q [none,(some 15),(some 16)]) ::
 (⟨none,some 6,.fa (.t 5) 0,[5]⟩,.q [none,(some 15),(some 16)]) ::
 (⟨none,some 7,.ld (.t 6),[6]⟩,.q [none,(some 15),(some 16)]) ::
 (⟨none,some 8,.fa (.t 3) 0,[3]⟩,.q [none,(some 15),(some 16)]) ::
 (⟨none,some 9,.ld (.t 8),[8]⟩,.q [none,(some 15),(some 16)]) ::
 (⟨none,some 10,.mv (.t 0),[0]⟩,.q [none,(some 15)]) ::
 (⟨none,some 11,.nc (.t 10),[10]⟩,.q [none,(some 15)]) ::
 (⟨none,some 12,.fa (.t 11) 0,[11]⟩,.q [none,(some 15)]) ::
 (⟨none,some 13,.ld (.t 12),[12]⟩,.q [none,(some 15)]) ::
 (⟨none,some 14,.fa (.t 3) 0,[3]⟩,.q [none,(some 15)]) ::
 (⟨none,some 15,.ld (.t 14),[14]⟩,.q [none,(some 15)]) ::
 (⟨none,some 16,.ia (.t 13) (.t 15) 1,[13,15]⟩,.q [none,(some 15)]) ::
 (⟨none,some 17,.ld (.t 16),[16]⟩,.q [none,(some 15)]) ::
 (⟨none,some 18,.lds (.t 3) 3,[3]⟩,.q [none]) ::
 (⟨none,some 19,.bs 83 1 3 [(.i .i64 0),(.i .i64 0),(.i .u64 0)] [(0,3,(.t 18))],[18]⟩,.e) ::
 (⟨none,some 20,.ap 83 3 24 (.t 17) (.t 19),[17,19]⟩,.e) ::
 (⟨none,some 21,.ia (.t 7) (.t 9) 1,[7,9]⟩,.q [(some 16)]) ::
 (⟨none,none,.st (.t 21) (.t 20) 1,[21,20]⟩,.e) :: [])))
set_option maxRecDepth 100000 in
theorem c38:fnB Tryz.prog 38=some (22,s38,[]):=by kernel_rfl
def s100:Sc:=(.seq (.region (
 ⟨none,some 2,.al 83 [(.i .i64 0),(.i .i64 0),(.i .u64 0)],[]⟩ ::
 ⟨none,some 3,.mv (.c (.b false)),[]⟩ :: []))
(.seq (.region (
 ⟨none,some 4,.al 83 [(.i .i64 0),(.i .i64 0),(.i .u64 0)],[]⟩ :: []))
(.seq (.seq (.region (
 ⟨none,some 5,.mv (.t 0),[0]⟩ ::
 ⟨none,some 6,.nc (.t 5),[5]⟩ ::
 ⟨none,some 7,.fa (.t 6) 0,[6]⟩ ::
 ⟨none,some 8,.ld (.t 7),[7]⟩ ::
 ⟨none,some 9,.len (.t 8),[8]⟩ ::
 ⟨none,some 10,.eq .int false (.t 9) (.c (.i .i64 0)),[9]⟩ :: []))
(.cond (.t 10) (.seq (.region (
 ⟨none,some 11,.lds (.t 4) 3,[4]⟩ ::
 ⟨none,none,.st (.t 2) (.t 11) 3,[2,11]⟩ ::
 ⟨none,some 3,.mv (.c (.b false)),[]⟩ :: []))
.ret)
 .skip))
(.seq (.region (
 ⟨none,some 12,.mv (.t 0),[0]⟩ ::
 ⟨none,some 13,.nc (.t 12),[12]⟩ ::
 ⟨none,some 14,.fa (.t 13) 0,[13]⟩ ::
 ⟨none,some 15,.ld (.t 14),[14]⟩ ::
 ⟨none,some 16,.ia (.t 15) (.c (.i .i64 0)) 3,[15]⟩ ::
 ⟨none,some 17,.lds (.t 16) 3,[16]⟩ ::
 ⟨none,none,.st (.t 4) (.t 17) 3,[4,17]⟩ :: []))
(.seq (.region (
 ⟨none,some 18,.mv (.t 0),[0]⟩ ::
 ⟨none,some 19,.mv (.t 0),[0]⟩ ::
 ⟨none,some 20,.nc (.t 19),[19]⟩ ::
 ⟨none,some 21,.fa (.t 20) 0,[20]⟩ ::
 ⟨none,some 22,.ld (.t 21),[21]⟩ ::
 ⟨none,some 23,.s2 3 (.t 22) (some (.c (.i .i64 1))) none,[22]⟩ ::
 ⟨none,some 24,.nc (.t 18),[18]⟩ ::
 ⟨none,some 25,.fa (.t 24) 0,[24]⟩ ::
 ⟨none,none,.st (.t 25) (.t 23) 1,[25,23]⟩ :: []))
(.seq (.region (
 ⟨none,some 26,.lds (.t 4) 3,[4]⟩ ::
 ⟨none,none,.st (.t 2) (.t 26) 3,[2,26]⟩ ::
 ⟨none,some 3,.mv (.c (.b true)),[]⟩ :: []))
.ret))))))
set_option maxRecDepth 100000 in
theorem c100:fnB Tryz.prog 100=some (27,s100,[.c (.lds (.t 2) 3),.t 3]):=by kernel_rfl
def s41:Sc:=(.seq (.region (
 ⟨none,some 7,.mv (.t 0),[0]⟩ ::
 ⟨none,some 8,.nc (.t 7),[7]⟩ ::
 ⟨none,some 9,.fa (.t 8) 1,[8]⟩ ::
 ⟨none,some 10,.ld (.t 9),[9]⟩ ::
 ⟨none,some 11,.mv (.t 1),[1]⟩ ::
 ⟨none,some 12,.ia (.t 10) (.t 11) 1,[10,11]⟩ ::
 ⟨none,some 13,.call 100 [(.t 12)],[12]⟩ ::
 ⟨none,some 6,.mv (.t 13),[13]⟩ ::
 ⟨none,some 14,.ex (.t 6) 0,[6]⟩ ::
 ⟨none,some 15,.ex (.t 6) 1,[6]⟩ ::
 ⟨none,some 4,.al 83 [(.i .i64 0),(.i .i64 0),(.i .u64 0)],[]⟩ ::
 ⟨none,none,.st (.t 4) (.t 14) 3,[4,14]⟩ ::
 ⟨none,some 5,.mv (.t 15),[15]⟩ :: []))
(.seq (.region (
 ⟨none,some 16,.mv (.t 5),[5]⟩ :: []))
(.cond (.t 16) (.mix (
  (⟨none,some 17,.mv (.t 0),[0]⟩,.q [none]) ::
  (⟨none,some 18,.nc (.t 17),[17]⟩,.q [none]) ::
  (⟨none,some 19,.fa (.t 18) 0,[18]⟩,.q [none]) ::
  (⟨none,some 20,.lds (.t 4) 3,[4]⟩,.q [none]) ::
  (⟨none,some 21,.call 38 [(.t 19),(.t 20)],[19,20]⟩,.e) :: []))
 .skip)))
set_option maxRecDepth 100000 in
theorem c41:fnB Tryz.prog 41=some (22,s41,[]):=by kernel_rfl
def wc (ev:List Ev_) (x:Int):Nat→V
 | 0=>.i .i64 (gt ev x.toNat).loc
 | 1=>.i .i64 x
 | _=>.i .u64 (gt ev x.toNat).val
theorem wone (ev:List Ev_) (x:Int):allOne (upto (wc ev x) 3 0)=true:=rfl
theorem rw_new3 {h:H} {ty:TypeId} {l:List V} {n:Nat} (hn:l.length=n):Rw (h.new ty l false) h.next n 0 l:=⟨by
 have:=rowC_of (h:=h.new ty l false) (b:=h.next) (o:=0) (l:=l) fun j _=>by rw[new_cell,if_pos rfl,Nat.zero_add]
 rwa [hn]at this⟩
set_option maxHeartbeats 0 in
theorem come_spec {m:Bool} {h:H} {n0 bm:Nat} {P:Nat→Prop} {vq vo:V} {qs os:List V} {Q O:List (List Int)} {ev:List Ev_} {x:Int} {lc:Nat} (hw:Wf h) (hm:Mac h n0 P vq vo 94 92 3 83 (wc ev) Q O qs os) (hB:Bx h bm [vo,vq]) (hbm:bm<h.next) (hbP:¬P bm) (hlc:(gt ev x.toNat).loc=lc) (hl:lc<O.length)
  (hP:∀k,h.next≤k→P k) (hn0:n0≤h.next) (hsz:lenT O≤1000000):FX m Tryz.prog 38 [.p bm 0,.agg (upto (wc ev x) 3 0)] h fun v h'=>v=.u∧(∃os',Mac h' n0 P vq vo 94 92 3 83 (wc ev) Q (O.set lc (gt O lc++[x])) qs os')∧Pr P h h':=by
 refine Fn.env c38 rfl ?_
 unfold s38
 refine Es.seq (Es.region (ew_bx fun b3 h1 ob k1=>?_))
 have hw1:=k1.wf hw
 have hB1:=hB.kp k1 hw
 have hB3:=ob.bx
 have e1:=ob.lo
 have e2:=ob.hi
 have e3:=k1.le
 have hle:Ce h1 b3 0 (.i .i64 (lc:Int)):=⟨by rw[←hlc];exact(hB3.eq 0 _ rfl).eq⟩
 have hm1:=hm.kp k1
 have hLo:=hm1.o.ln
 rw[hm.ol]at hLo
 have hCo:=hm1.o.cs
 rw[hm.ol]at hCo
 have hl2:=lenT_le hl
 refine gol ?_
 refine em_bs (l:=upto (wc ev x) 3 0) rfl rfl rfl ⟨fun _=>FCe.of (Ce.kp kp_new hw1 (ce_s0 hCo hl (by decide))),⟨fun _=>FCe.of (Ce.kp kp_new hw1 hle),⟨fun _=>FCe.of (Ce.kp kp_new hw1 (ce_b hB1 rfl)),⟨fun _=>FCe.of (Ce.kp kp_new hw1 hle),⟨fun _=>FCe.of (Ce.kp kp_new hw1 (ce_b hB1 rfl)),trivial⟩⟩⟩⟩⟩ ?_
 have k2:Kp h1 (h1.new 83 (upto (wc ev x) 3 0) false):=kp_new
 have hrw:Rw (h1.new 83 (upto (wc ev x) 3 0) false) h1.next (1*3) 0 (upto (wc ev x) 3 0):=rw_new3 rfl
 have hm2:=hm1.kp k2
 have hB2:=hB1.kp k2 hw1
 have hle2:=hle.kp k2 hw1
 have e4:=k2.le
 have hbO:∀k,(gt os lc).blk=some k→k<h.next:=fun k hk=>((hm.or_ _ hl).blk k hk).2
 have hbO2:∀k,(gt os lc).blk=some k→P k:=fun k hk=>(hm.oa _ hl k hk).2.2
 refine em_gx (n0:=n0) x (hm2.or_ _ hl) rfl rfl hrw (wone ev) (by decide) (by omega) (by omega) (fun h9 m9=>⟨fun (hk:some 16∈[none,some 15])=>absurd hk (by decide),⟨fun (hk:some 16∈[none,some 15])=>absurd hk (by decide),⟨fun (hk:some 16∈[none,some 15])=>absurd hk (by decide),⟨fun _=>FCe.of ⟨(m9.cell (by omega) fun e=>by have:=hbO _ e;omega).trans hle2.eq⟩,⟨fun _=>FCe.of ⟨(m9.cell (by omega) fun e=>hbP (hbO2 _ e)).trans (hB2.eq 0 vo rfl).eq⟩,trivial⟩⟩⟩⟩⟩) fun v' h9 hbk9 hG9 m9=>?_
 refine go ?_
 have o4:=hG9.ln.one
 have hA9:=hm2.o.mo m9 fun e=>((hm.oa _ hl _ e).2.1 rfl)
 have ol0:=hm.ol
 refine em_arQ v' hA9 (i:=lc) (by omega) (fun h10 hA10 m10=>?_) (hv:=cells_one5 o4) (h1:=allOne_cons o4 rfl) (hl:=fun h' _=>⟨fun (hk:some 18∈[none,some 15])=>absurd hk (by decide),⟨fun (hk:some 18∈[none,some 15])=>absurd hk (by decide),⟨fun (hk:some 18∈[none,some 15])=>absurd hk (by decide),⟨fun (hk:some 18∈[none,some 15,some 16])=>absurd hk (by decide),⟨fun (hk:some 18∈[none,some 15,some 16])=>absurd hk (by decide),trivial⟩⟩⟩⟩⟩)
 have hG10:=hG9.mo m10 fun k hk e=>by
  rw[hbk9]at hk
  injection hk with hk
  injection e with e
  have:=hm.o.blk.2.2
  omega
 obtain⟨hm10,p10⟩:=hm.putO hl (k1.trans k2) m9 m10 hA10 hG10.gx fun k hk=>.inr (by
  rw[hbk9]at hk
  injection hk with hk
  exact⟨by omega,hP k (by omega)⟩)
 refine go ?_
 exact end_0 ⟨rfl,⟨_,hm10⟩,p10⟩
set_option maxHeartbeats 0 in
theorem take_nil {m:Bool} {h:H} {vq:V} {qs:List V} {t n0:Nat} (hw:Wf h) (hq:Ar h n0 vq 1 94 vcell qs) (ht:t<qs.length) (hl:Ln (gt qs t) 3 0):FX m Tryz.prog 100 [.p vq.ba (vq.of+t*1)] h fun v h'=>v=.tup [.agg [.i .i64 0,.i .i64 0,.i .u64 0],.b false]∧Kp h h':=by
 refine Fn.env c100 rfl ?_
 unfold s100
 refine Es.seq (Es.region (ew_al fun b2 h1 ob2 k1=>?_))
 refine go ?_
 refine ew_al fun b4 h2 ob4 k2=>?_
 have k02:=k1.trans k2
 have hC:Ce h2 vq.ba (vq.of+t*1) (gt qs t):=(hq.cs.eq t 0 ht (by decide)).kp k02 hw
 have hB4:=ob4.bx
 have ob2:=ob2.mo (Mo.of_kp k2 none) (fun e=>by cases e)
 have e1:=ob2.lo
 refine go ?_
 refine ew_st ob2 (fun h3 ob3 m3=>?_)
 have hB3:Bx h3 b2 [.i .i64 0,.i .i64 0,.i .u64 0]:=ob3.bx
 refine go ?_
 exact ret_ct (v:=.agg [.i .i64 0,.i .i64 0,.i .u64 0]) (od_lds rfl (rw_b hB3 rfl)) ⟨rfl,m3.kp k02 fun k hk=>by injection hk with hk;omega⟩
set_option maxHeartbeats 0 in
theorem take_cons {m:Bool} {h:H} {vq:V} {qs:List V} {t n0:Nat} {ev:List Ev_} {x:Int} {r:List Int} (hw:Wf h) (hq:Ar h n0 vq 1 94 vcell qs) (ht:t<qs.length) (hg:Gw h n0 (gt qs t) 3 83 (wc ev) (x :: r)) (hne:V.blk (gt qs t)≠some vq.ba):FX m Tryz.prog 100 [.p vq.ba (vq.of+t*1)] h fun v h'=>v=.tup [.agg (upto (wc ev x) 3 0),.b true]∧Ar h' n0 vq 1 94 vcell (qs.set t (tlV (gt qs t) 1))∧Gw h' n0 (tlV (gt qs t) 1) 3 83 (wc ev) r∧Pr (fun k=>k=vq.ba) h h':=by
 refine Fn.env c100 rfl ?_
 unfold s100
 refine Es.seq (Es.region (ew_al fun b2 h1 ob2 k1=>?_))
 refine go ?_
 refine ew_al fun b4 h2 ob4 k2=>?_
 have k02:=k1.trans k2
 have hC:Ce h2 vq.ba (vq.of+t*1) (gt qs t):=(hq.cs.eq t 0 ht (by decide)).kp k02 hw
 have e0:=ob2.hi
 have ob2:=ob2.mo (Mo.of_kp k2 none) (fun e=>by cases e)
 have e1:=ob2.lo
 have e2:=ob4.lo
 have e3:=ob2.hi
 have e4:=k1.le
 have e5:=hq.blk.2.2
 have hq2:=hq.mo (Mo.of_kp k02 none) (fun e=>by cases e)
 have hg2:=hg.mo (Mo.of_kp k02 none) (fun _ _ e=>by cases e)
 have hLr:=hg2.ln
 rw[List.length_cons]at hLr
 have hCr:=hg2.cs
 rw[List.length_cons]at hCr
 have hR:Rw h2 (gt qs t).ba 3 (gt qs t).of (upto (wc ev x) 3 0):=hCr.row0 (Nat.zero_lt_succ _)
 clear hCr
 refine go ?_
 refine ew_st ob4 (fun h3 ob5 m3=>?_)
 have k03:Kp h h3:=m3.kp k02 fun k hk=>by injection hk with hk;omega
 have hq3:=hq2.mo m3 (fun e=>by injection e with e;omega)
 have hC3:Ce h3 vq.ba (vq.of+t*1) (gt qs t):=hq3.cs.eq t 0 ht (by decide)
 have hg3:=hg2.mo m3 fun k hk e=>by injection e with e;have:=(hg.blk k hk).2;omega
 have ob2:=ob2.mo m3 (fun e=>by injection e with e;omega)
 have e6:=m3.le
 have e7:=k2.le
 clear hC hR
 refine go ?_
 refine ewN (stS (v:=tlV (gt qs t) 1) (hd:=by exact od_tl hLr (by omega) rfl rfl) ?_)
 obtain⟨hG',hbk⟩:=hg3.tl
 have o1:=hG'.ln.one
 refine go ?_
 refine ew_ar (tlV (gt qs t) 1) hq3 (i:=t) ht (fun h4 hA4 m4=>?_) (hv:=cells_one5 o1) (h1:=allOne_cons o1 rfl)
 have hG4:=hG'.mo m4 fun k hk e=>by rw[hbk]at hk;injection e with e;exact hne (by rw[hk,e])
 have ob2:=ob2.mo m4 (fun e=>by injection e with e;omega)
 have hB4:Bx h4 b4 (upto (wc ev x) 3 0):=(ob5.mo m4 (fun e=>by injection e with e;omega)).bx
 have p4:Pr (fun k=>k=vq.ba) h h4:=(Pr.of_kp k03).trans (Pr.of_mo m4 fun k hk=>by injection hk with hk;exact hk.symm)
 refine go ?_
 refine ew_st ob2 (fun h5 ob6 m5=>?_)
 have hB5:Bx h5 b2 (upto (wc ev x) 3 0):=ob6.bx
 refine go ?_
 exact ret_ct (v:=.agg (upto (wc ev x) 3 0)) (od_lds rfl (rw_b hB5 rfl)) ⟨rfl,hA4.mo m5 fun e=>by injection e with e;omega,hG4.mo m5 fun k hk e=>by injection e with e;rw[hbk]at hk;have:=(hg.blk k hk).2;omega,p4.mo_hi m5 fun k hk=>by injection hk with hk;exact .inr (by omega)⟩
set_option maxHeartbeats 0 in
theorem pflush_spec {m:Bool} {h:H} {n0 bm:Nat} {P:Nat→Prop} {vq vo:V} {qs os:List V} {Q O:List (List Int)} {ev:List Ev_} {t:Nat} (hw:Wf h) (hm:Mac h n0 P vq vo 94 92 3 83 (wc ev) Q O qs os) (hB:Bx h bm [vo,vq]) (hbm:bm<h.next) (hbP:¬P bm) (ht:t<Q.length) (hq:∀x∈gt Q t,0≤x∧x<ev.length∧0≤(gt ev x.toNat).loc∧(gt ev x.toNat).loc<O.length)
  (hP:∀k,h.next≤k→P k) (hn0:n0≤h.next) (hsz:lenT Q+lenT O≤1000000):FX m Tryz.prog 41 [.p bm 0,.i .i64 (t:Int)] h fun v h'=>v=.u∧(∃qs' os',Mac h' n0 P vq vo 94 92 3 83 (wc ev) (flushP ev Q O t).1 (flushP ev Q O t).2 qs' os')∧Pr P h h':=by
 refine Fn.env c41 rfl ?_
 unfold s41
 have hL:=hm.q.ln
 rw[hm.ql]at hL
 have hql:=hm.ql
 refine go ?_
 cases hqt:gt Q t with
 | nil =>
  have hG:=hm.qr t ht
  rw[hqt]at hG
  refine stC (take_nil hw hm.q (by omega) hG.ln) (fun v h1 ⟨hv,k1⟩=>?_)
  subst hv
  refine go ?_
  refine ew_al fun b4 h2 ob4 k2=>?_
  refine ew_st ob4 (fun h3 ob3 m3=>?_)
  have k03:=m3.kp (k1.trans k2) fun k hk=>by injection hk with hk;have:=ob4.lo;have:=k1.le;omega
  refine go ?_
  exact end_0 ⟨rfl,by rw[flushP_nil hqt];exact⟨qs,os,hm.kp k03⟩,Pr.of_kp k03⟩
 | cons w r =>
  have hG:=hm.qr t ht
  rw[hqt]at hG
  obtain⟨hx0,hx1,hx2,hx3⟩:=hq w (by rw[hqt];exact List.mem_cons_self)
  refine stC (take_cons hw hm.q (by omega) hG fun e=>(hm.qa t ht _ e).1 rfl) (fun v h1 ⟨hv,hA1,hG1,p1⟩=>?_)
  subst hv
  obtain⟨hm1,p1'⟩:=hm.setQ ht (p1.sub fun k _ hk=>.inl hk) hA1 hG1 fun k hk=>.inl (by rw[hG.tl.2]at hk;exact hk)
  have hw1:=p1'.wf hw
  have hB1:=p1'.bx hB hbm hbP
  have e1:=p1'.le
  refine go ?_
  refine ew_al fun b4 h2 ob4 k2=>?_
  refine ew_st ob4 (fun h3 ob3 m3=>?_)
  have e2:=ob4.lo
  have k3:Kp h1 h3:=m3.kp k2 fun k hk=>by injection hk with hk;omega
  have hB3:=hB1.kp k3 hw1
  have e3:=k3.le
  have hm3:=hm1.kp k3
  have hw3:=k3.wf hw1
  have hB4:Bx h3 b4 (upto (wc ev w) 3 0):=ob3.bx
  obtain⟨lc,hlc⟩:∃lc:Nat,(gt ev w.toNat).loc=lc:=⟨(gt ev w.toNat).loc.toNat,by omega⟩
  have hlk:(gt ev w.toNat).loc.toNat=lc:=by omega
  refine go ?_
  refine mC (come_spec (lc:=lc) hw3 hm3 hB3 (by omega) hbP hlc (by omega) (fun k hk=>hP k (by omega)) (by omega) (by omega)) (fun v h4 ⟨_,⟨os',hm4⟩,p4⟩=>⟨trivial,?_⟩)
  refine go ?_
  exact end_0 ⟨rfl,by rw[flushP_cons hqt,hlk];exact⟨_,os',hm4⟩,p1'.trans ((Pr.of_kp k3).trans p4)⟩
def s81:Sc:=(.seq (.region (
 ⟨none,some 1,.bx 22 (.t 0),[0]⟩ ::
 ⟨none,some 2,.mv (.c .nf),[]⟩ :: []))
(.seq (.region (
 ⟨none,some 3,.mf (.func 151) [] [(.t 1)],[1]⟩ ::
 ⟨none,some 2,.mv (.t 3),[3]⟩ :: []))
.ret))
set_option maxRecDepth 100000 in
theorem c81:fnB Tryz.prog 81=some (4,s81,[.t 2]):=by kernel_rfl
def s151:Sc:=(.seq (.region (
 ⟨none,some 4,.ld (.t 1),[1]⟩ ::
 ⟨none,some 5,.len (.t 4),[4]⟩ ::
 ⟨none,some 6,.ar .sub (.t 5) (.c (.i .i64 1)),[5]⟩ ::
 ⟨none,some 3,.mv (.t 6),[6]⟩ :: []))
(.block 0 (.loop (.seq (.seq (.region (
 ⟨none,some 7,.mv (.t 3),[3]⟩ ::
 ⟨none,some 8,.ar .geq (.t 7) (.c (.i .i64 0)),[7]⟩ :: []))
(.cond (.t 8) .skip
 (.exit 0)))
(.seq (.block 1 (.seq (.region (
 ⟨none,some 11,.mv (.t 0),[0]⟩ ::
 ⟨none,some 12,.mv (.t 3),[3]⟩ ::
 ⟨none,some 13,.ld (.t 1),[1]⟩ ::
 ⟨none,some 14,.mv (.t 3),[3]⟩ ::
 ⟨none,some 15,.ia (.t 13) (.t 14) 5,[13,14]⟩ ::
 ⟨none,some 16,.lds (.t 15) 5,[15]⟩ ::
 ⟨none,some 17,.callv (.t 11) [(.t 12),(.t 16)],[11,12,16]⟩ ::
 ⟨none,some 18,.nt (.t 17),[17]⟩ :: []))
(.cond (.t 18) .ret
 .skip)))
(.region (
 ⟨none,some 9,.mv (.t 3),[3]⟩ ::
 ⟨none,some 10,.ar .sub (.t 9) (.c (.i .i64 1)),[9]⟩ ::
 ⟨none,some 3,.mv (.t 10),[10]⟩ :: [])))))))
set_option maxRecDepth 100000 in
theorem c151:fnB Tryz.prog 151=some (19,s151,[]):=by kernel_rfl
theorem mo_put {h:H} {b:Nat} {o:Option O} (hb:b<h.next):Mo h ⟨h.next,h.t.set b o⟩ (some b):=⟨Nat.le_refl _,fun k _ hne=>by
 show(h.t.set b o).get k=_
 rw[Tr.get_set,if_neg (fun e=>hne (by rw[e]))],fun hw k O hk=>by
 have hk:(h.t.set b o).get k=some O:=hk
 rw[Tr.get_set]at hk
 show k<h.next
 by_cases e:k=b
 ·omega
 ·rw[if_neg e]at hk
  exact hw k O hk⟩
set_option maxHeartbeats 0 in
theorem back_spec {J:Nat→H→Prop} {h:H} {b bx:Nat} {v:V} {evs:List Ev_} (hn:evs.length<4611686018427387904) (h0:J evs.length h) (hJ:∀i h,J i h→Bx h bx [v]∧Ro h v 5 ecell evs)
  (hy:∀i h,i<evs.length→J (i+1) h→YX false Tryz.prog b [.i .i64 (i:Int),.agg (upto (ecell (gt evs i)) 5 0)] h fun v h'=>v=.b true∧J i h'):FX false Tryz.prog 151 [.y b,.p bx 0] h fun _ h'=>J 0 h':=by
 refine Fn.env c151 rfl ?_
 unfold s151
 obtain⟨hB,hL,hC⟩:=hJ _ _ h0
 refine go ?_
 refine Es.loop (X:=Nat) (fun x=>x) (fun x=>[(0,.y b),(1,.p bx 0),(3,.i .i64 ((x:Int)-1))]) (fun x h'=>x≤evs.length∧J x h') evs.length ⟨rfl,rfl,rfl,trivial⟩ ⟨Nat.le_refl _,h0⟩ fun x h2 hx=>?_
 obtain⟨hx,hJ2⟩:=hx
 obtain⟨hB,hL,hC⟩:=hJ _ _ hJ2
 cases x with
 | zero =>
  refine go ?_
  first | exact ret_0 (R:=fun _ h=>J 0 h) hJ2 | exact end_0 (R:=fun _ h=>J 0 h) hJ2
 | succ i =>
  have e1:(((i+1:Nat):Int)-1)=(i:Int):=by omega
  rw[e1]
  refine go ?_
  refine ew_y .n rfl rfl (hy i h2 (by omega) hJ2) fun v h3 hR=>?_
  obtain⟨rfl,hJ3⟩:=hR
  refine go ?_
  exact Nx.inv i (Nat.lt_succ_self i) ⟨rfl,rfl,rfl,trivial⟩ ⟨by omega,hJ3⟩
theorem Es.back {N:Nat} {R:Env→H→Prop} {K:List Fr} {e:Env} {h:H} {x:Rd} {p1 p2:Nat} {sa sb:Sc} {bx:Nat} {v:V} {evs:List Ev_} (φ:Nat→H→Prop) (hx:x.lk e=some (.fn (.func 151) [] [.p bx 0])) (hn:evs.length<4611686018427387904)
  (hφ:∀i h',φ i h'→Bx h' bx [v]∧Ro h' v 5 ecell evs)
  (hset:∀i h' o,h.next<h'.next→φ i h'→φ i ⟨h'.next,h'.t.set h.next (some o)⟩)
  (h0:∀o,φ evs.length ⟨h.next+1,h.t.set h.next (some o)⟩)
  (hb:∀r i h1,i<evs.length→h.next<h1.next→φ (i+1) h1→Es ⟨false,Tryz.prog,r,N,fun _ _=>False⟩ [.cut fun e2 h2=>h.next<h2.next∧h2.t.get h.next=h1.t.get h.next∧∀o,Es ⟨false,Tryz.prog,r,N,fun _ _=>False⟩ [.cut fun _ h4=>φ i h4∧h.next<h4.next∧h4.t.get h.next=some o] sb e2 ⟨h2.next,h2.t.set h.next (some o)⟩] sa ((p2,.agg (upto (ecell (gt evs i)) 5 0)) :: (p1,.i .i64 (i:Int)) :: e) h1)
  (hend:∀h',h.next<h'.next→φ 0 h'→Nx ⟨false,Tryz.prog,none,N,R⟩ K e ⟨h'.next,h'.t.set h.next none⟩):Es ⟨false,Tryz.prog,none,N,R⟩ K (.range x [p1,p2] sa sb) e h:=⟨fun t ht=>by
 show SW _ _ _ _ _ _ _
 refine SW.range (Rd.lk_val hx ht) fun sc bd has hbd=>?_
 refine Fn.mono (back_spec (J:=fun i h'=>φ i h'∧h.next<h'.next∧h'.t.get h.next=some (.loop .ready t N [p1,p2] sc bd)) hn ⟨h0 _,Nat.lt_succ_self _,by
  show(h.t.set h.next _).get h.next=_
  rw[Tr.get_set,if_pos rfl]⟩ (fun i h' hj=>hφ i h' hj.1) fun i h1 hi hj=>?_) fun _ h2 hj=>?_
 ·obtain⟨h3,h4,h5⟩:=hj
  show Yd _ _ _ _ _
  refine Yd.of h5 rfl has hbd fun r=>?_
  have h6:=(hb r i h1 hi h4 h3).run _ ((ht.set p1 (.i .i64 (i:Int))).set p2 (.agg (upto (ecell (gt evs i)) 5 0)))
  refine SW.mono h6 fun y t2 h2 ⟨e2,ht2,hk⟩=>?_
  cases y with
  | exit j=>exact hk.2.elim
  | ret=>exact hk.2.elim
  | normal =>
   obtain⟨h7,h8,h9⟩:=hk
   refine⟨rfl,t,N,[p1,p2],sc,bd,by rw[h8];exact h5,?_⟩
   refine SW.mono ((h9 _).run _ ht2) fun y t4 h4 ⟨e4,ht4,hk4⟩=>?_
   cases y with
   | exit j=>exact hk4.2.elim
   | ret=>exact hk4.2.elim
   | normal =>
    obtain⟨h10,h11,h12⟩:=hk4
    refine⟨t,N,[p1,p2],sc,bd,h12,rfl,hset i h4 _ h11 h10,h11,?_⟩
    show(h4.t.set h.next _).get h.next=_
    rw[Tr.get_set,if_pos rfl]
    rfl
 ·obtain⟨h3,h4,h5⟩:=hj
  exact⟨.ready,t,N,[p1,p2],sc,bd,h5,.inl ⟨rfl,e,ht,(hend h2 h4 h3).run⟩⟩⟩
end Go.Proofs.YtkcdehffcddciaaGreatDoor.Vm
