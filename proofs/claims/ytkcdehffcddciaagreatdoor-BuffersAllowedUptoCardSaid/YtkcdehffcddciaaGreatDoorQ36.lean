/- The program's machine: a write comes; the first that waits comes to memory. -/
import Derived.Test.YtkcdehffcddciaaGreatDoorQ28
import Derived.Test.YtkcdehffcddciaaGreatDoorQ22
import Derived.Test.YtkcdehffcddciaaGreatDoorQ25
import Derived.Test.YtkcdehffcddciaaGreatDoorQ21
namespace Go.Proofs.YtkcdehffcddciaaGreatDoor.Vm
open Go Go.RowKit
def s38 : Sc:=(.seq (.region [Y 3 (.bx 83 (.t 1)) [1]]) (.mix [(Y 4 (.mv (.t 0)) [0],.q [none,some 15,some 16]),
 (Y 5 (.nc (.t 4)) [4],.q [none,some 15,some 16]),(Y 6 (.fa (.t 5) 0) [5],.q [none,some 15,some 16]),
 (Y 7 (.ld (.t 6)) [6],.q [none,some 15,some 16]),(Y 8 (.fa (.t 3) 0) [3],.q [none,some 15,some 16]),
 (Y 9 (.ld (.t 8)) [8],.q [none,some 15,some 16]),(Y 10 (.mv (.t 0)) [0],.q [none,some 15]),
 (Y 11 (.nc (.t 10)) [10],.q [none,some 15]),(Y 12 (.fa (.t 11) 0) [11],.q [none,some 15]),
 (Y 13 (.ld (.t 12)) [12],.q [none,some 15]),(Y 14 (.fa (.t 3) 0) [3],.q [none,some 15]),
 (Y 15 (.ld (.t 14)) [14],.q [none,some 15]),(Y 16 (.ia (.t 13) (.t 15) 1) [13,15],.q [none,some 15]),
 (Y 17 (.ld (.t 16)) [16],.q [none,some 15]),(Y 18 (.lds (.t 3) 3) [3],.q [none]),
 (Y 19 (.bs 83 1 3 [.i .i64 0,.i .i64 0,.i .u64 0] [(0,3,.t 18)]) [18],.e),(Y 20 (.ap 83 3 24 (.t 17)
  (.t 19)) [17,19],.e),(Y 21 (.ia (.t 7) (.t 9) 1) [7,9],.q [some 16]),(⟨none,none,.st (.t 21)
  (.t 20) 1,[21,20]⟩,.e)]))
set_option maxRecDepth 100000 in
theorem c38:fnB Tryz.prog 38=some (22,s38,[]):=by kernel_rfl
def s100 : Sc:=(.seq (.region [Y 2 (.al 83 [.i .i64 0,.i .i64 0,.i .u64 0]) [],Y 3 (.mv (.c (.b false))) []])
  (.seq (.region [Y 4 (.al 83 [.i .i64 0,.i .i64 0,.i .u64 0]) []])
  (.seq (.seq (.region [Y 5 (.mv (.t 0)) [0],Y 6 (.nc (.t 5)) [5],Y 7 (.fa (.t 6) 0) [6],Y 8 (.ld (.t 7)) [7],
 Y 9 (.len (.t 8)) [8],Y 10 (.eq .int false (.t 9) (.c (.i .i64 0))) [9]]) (.cond (.t 10)
  (.seq (.region [Y 11 (.lds (.t 4) 3) [4],⟨none,none,.st (.t 2) (.t 11) 3,[2,11]⟩,
 Y 3 (.mv (.c (.b false))) []]) .ret) .skip)) (.seq (.region [Y 12 (.mv (.t 0)) [0],Y 13 (.nc (.t 12)) [12],
 Y 14 (.fa (.t 13) 0) [13],Y 15 (.ld (.t 14)) [14],Y 16 (.ia (.t 15) (.c (.i .i64 0)) 3) [15],
 Y 17 (.lds (.t 16) 3) [16],⟨none,none,.st (.t 4) (.t 17) 3,[4,17]⟩]) (.seq (.region [Y 18 (.mv (.t 0)) [0],
 Y 19 (.mv (.t 0)) [0],Y 20 (.nc (.t 19)) [19],Y 21 (.fa (.t 20) 0) [20],Y 22 (.ld (.t 21)) [21],
 Y 23 (.s2 3 (.t 22) (some (.c (.i .i64 1))) none) [22],Y 24 (.nc (.t 18)) [18],Y 25 (.fa (.t 24) 0) [24],
 ⟨none,none,.st (.t 25) (.t 23) 1,[25,23]⟩]) (.seq (.region [Y 26 (.lds (.t 4) 3) [4],⟨none,none,.st (.t 2)
  (.t 26) 3,[2,26]⟩,Y 3 (.mv (.c (.b true))) []]) .ret))))))
set_option maxRecDepth 100000 in
theorem c100:fnB Tryz.prog 100=some (27,s100,[.c (.lds (.t 2) 3),.t 3]):=by kernel_rfl
def s41 : Sc:=(.seq (.region [Y 7 (.mv (.t 0)) [0],Y 8 (.nc (.t 7)) [7],Y 9 (.fa (.t 8) 1) [8],Y 10 (.ld (.t 9)) [9],
 Y 11 (.mv (.t 1)) [1],Y 12 (.ia (.t 10) (.t 11) 1) [10,11],Y 13 (.call 100 [.t 12]) [12],
 Y 6 (.mv (.t 13)) [13],Y 14 (.ex (.t 6) 0) [6],Y 15 (.ex (.t 6) 1) [6],
 Y 4 (.al 83 [.i .i64 0,.i .i64 0,.i .u64 0]) [],⟨none,none,.st (.t 4) (.t 14) 3,[4,14]⟩,
 Y 5 (.mv (.t 15)) [15]]) (.seq (.region [Y 16 (.mv (.t 5)) [5]]) (.cond (.t 16)
  (.mix [(Y 17 (.mv (.t 0)) [0],.q [none]),(Y 18 (.nc (.t 17)) [17],.q [none]),
 (Y 19 (.fa (.t 18) 0) [18],.q [none]),(Y 20 (.lds (.t 4) 3) [4],.q [none]),
 (Y 21 (.call 38 [.t 19,.t 20]) [19,20],.e)]) .skip)))
set_option maxRecDepth 100000 in
theorem c41:fnB Tryz.prog 41=some (22,s41,[]):=by kernel_rfl
def wc (ev:List Ev_) (x:Int):Nat→V
 | 0=>.i .i64 (gt ev x.toNat).loc
 | 1=>.i .i64 x
 | _=>.i .u64 (gt ev x.toNat).val
theorem wone (ev:List Ev_) (x:Int):allOne (upto (wc ev x) 3 0)=true:=rfl
theorem rw_new3 {h:H} {ty:TypeId} {l:List V} {n:Nat} (hn:l.length=n):Rw (h.new ty l false) h.next n 0 l:=⟨by
 have:=rowC_of (h:=h.new ty l false) (b:=h.next) (o:=0) (l:=l) fun j _=>by rw[new_cell,if_pos rfl,Nat.zero_add]
 rwa [hn]at this⟩
set_option maxHeartbeats 0 in
theorem come_spec {m:Bool} {h:H} {n0 bm:Nat} {P:Nat→Prop} {vq vo:V} {qs os:List V} {Q O:List (List Int)} {ev:List Ev_} {x:Int} {lc:Nat} (hw:Wf h) (hm:Mac h n0 P vq vo 94 92 3 83 (wc ev) Q O qs os) (hB:Bx h bm [vo,vq]) (hbm:bm<h.next) (hbP:¬P bm) (hlc:(gt ev x.toNat).loc=lc) (hl:lc<O.length)
  (hP:∀k,h.next≤k→P k) (hn0:n0≤h.next) (hsz:lenT O≤1000000):FX m Tryz.prog 38 [.p bm 0,.agg (upto (wc ev x) 3 0)] h fun v h'=>v=.u∧(∃os',Mac h' n0 P vq vo 94 92 3 83 (wc ev) Q (O.set lc (gt O lc++[x])) qs os')∧Pr P h h':=by
 refine Fn.env c38 rfl ?_
 unfold s38
 refine Es.seq (Es.region (ew_bx fun b3 h1 ob k1=>?_))
 have hw1:=k1.wf hw
 have hB1:=hB.kp k1 hw
 have hB3:=ob.bx
 have e1:=ob.lo
 have e2:=ob.hi
 have e3:=k1.le
 have hle:Ce h1 b3 0 (.i .i64 (lc:Int)):=⟨by rw[←hlc];exact(hB3.eq 0 _ rfl).eq⟩
 have hm1:=hm.kp k1
 have hLo:=hm1.o.ln
 rw[hm.ol]at hLo
 have hCo:=hm1.o.cs
 rw[hm.ol]at hCo
 have hl2:=lenT_le hl
 refine gol ?_
 refine em_bs (l:=upto (wc ev x) 3 0) rfl rfl rfl ⟨fun _=>FCe.of (Ce.kp kp_new hw1 (ce_s0 hCo hl (by decide))),⟨fun _=>FCe.of (Ce.kp kp_new hw1 hle),⟨fun _=>FCe.of (Ce.kp kp_new hw1 (ce_b hB1 rfl)),⟨fun _=>FCe.of (Ce.kp kp_new hw1 hle),⟨fun _=>FCe.of (Ce.kp kp_new hw1 (ce_b hB1 rfl)),trivial⟩⟩⟩⟩⟩ ?_
 have k2:Kp h1 (h1.new 83 (upto (wc ev x) 3 0) false):=kp_new
 have hrw:Rw (h1.new 83 (upto (wc ev x) 3 0) false) h1.next (1*3) 0 (upto (wc ev x) 3 0):=rw_new3 rfl
 have hm2:=hm1.kp k2
 have hB2:=hB1.kp k2 hw1
 have hle2:=hle.kp k2 hw1
 have e4:=k2.le
 have hbO:∀k,(gt os lc).blk=some k→k<h.next:=fun k hk=>((hm.or_ _ hl).blk k hk).2
 have hbO2:∀k,(gt os lc).blk=some k→P k:=fun k hk=>(hm.oa _ hl k hk).2.2
 refine em_gx (n0:=n0) x (hm2.or_ _ hl) rfl rfl hrw (wone ev) (by decide) (by omega) (by omega) (fun h9 m9=>⟨fun (hk:some 16∈[none,some 15])=>absurd hk (by decide),⟨fun (hk:some 16∈[none,some 15])=>absurd hk (by decide),⟨fun (hk:some 16∈[none,some 15])=>absurd hk (by decide),⟨fun _=>FCe.of ⟨(m9.cell (by omega) fun e=>by have:=hbO _ e;omega).trans hle2.eq⟩,⟨fun _=>FCe.of ⟨(m9.cell (by omega) fun e=>hbP (hbO2 _ e)).trans (hB2.eq 0 vo rfl).eq⟩,trivial⟩⟩⟩⟩⟩) fun v' h9 hbk9 hG9 m9=>?_
 refine go ?_
 have o4:=hG9.ln.one
 have hA9:=hm2.o.mo m9 fun e=>((hm.oa _ hl _ e).2.1 rfl)
 have ol0:=hm.ol
 refine em_arQ v' hA9 (i:=lc) (by omega) (fun h10 hA10 m10=>?_) (hv:=cells_one5 o4) (h1:=allOne_cons o4 rfl) (hl:=fun h' _=>⟨fun (hk:some 18∈[none,some 15])=>absurd hk (by decide),⟨fun (hk:some 18∈[none,some 15])=>absurd hk (by decide),⟨fun (hk:some 18∈[none,some 15])=>absurd hk (by decide),⟨fun (hk:some 18∈[none,some 15,some 16])=>absurd hk (by decide),⟨fun (hk:some 18∈[none,some 15,some 16])=>absurd hk (by decide),trivial⟩⟩⟩⟩⟩)
 have hG10:=hG9.mo m10 fun k hk e=>by
  rw[hbk9]at hk
  injection hk with hk
  injection e with e
  have:=hm.o.blk.2.2
  omega
 obtain⟨hm10,p10⟩:=hm.putO hl (k1.trans k2) m9 m10 hA10 hG10.gx fun k hk=>.inr (by
  rw[hbk9]at hk
  injection hk with hk
  exact⟨by omega,hP k (by omega)⟩)
 refine go ?_
 exact end_0 ⟨rfl,⟨_,hm10⟩,p10⟩
set_option maxHeartbeats 0 in
theorem take_nil {m:Bool} {h:H} {vq:V} {qs:List V} {t n0:Nat} (hw:Wf h) (hq:Ar h n0 vq 1 94 vcell qs) (ht:t<qs.length) (hl:Ln (gt qs t) 3 0):FX m Tryz.prog 100 [.p vq.ba (vq.of+t*1)] h fun v h'=>v=.tup [.agg [.i .i64 0,.i .i64 0,.i .u64 0],.b false]∧Kp h h':=by
 refine Fn.env c100 rfl ?_
 unfold s100
 refine Es.seq (Es.region (ew_al fun b2 h1 ob2 k1=>?_))
 refine go ?_
 refine ew_al fun b4 h2 ob4 k2=>?_
 have k02:=k1.trans k2
 have hC:Ce h2 vq.ba (vq.of+t*1) (gt qs t):=(hq.cs.eq t 0 ht (by decide)).kp k02 hw
 have hB4:=ob4.bx
 have ob2:=ob2.mo (Mo.of_kp k2 none) (fun e=>by cases e)
 have e1:=ob2.lo
 refine go ?_
 refine ew_st ob2 (fun h3 ob3 m3=>?_)
 have hB3:Bx h3 b2 [.i .i64 0,.i .i64 0,.i .u64 0]:=ob3.bx
 refine go ?_
 exact ret_ct (v:=.agg [.i .i64 0,.i .i64 0,.i .u64 0]) (od_lds rfl (rw_b hB3 rfl)) ⟨rfl,m3.kp k02 fun k hk=>by injection hk with hk;omega⟩
set_option maxHeartbeats 0 in
theorem take_cons {m:Bool} {h:H} {vq:V} {qs:List V} {t n0:Nat} {ev:List Ev_} {x:Int} {r:List Int} (hw:Wf h) (hq:Ar h n0 vq 1 94 vcell qs) (ht:t<qs.length) (hg:Gw h n0 (gt qs t) 3 83 (wc ev) (x :: r)) (hne:V.blk (gt qs t)≠some vq.ba):FX m Tryz.prog 100 [.p vq.ba (vq.of+t*1)] h fun v h'=>v=.tup [.agg (upto (wc ev x) 3 0),.b true]∧Ar h' n0 vq 1 94 vcell (qs.set t (tlV (gt qs t) 1))∧Gw h' n0 (tlV (gt qs t) 1) 3 83 (wc ev) r∧Pr (fun k=>k=vq.ba) h h':=by
 refine Fn.env c100 rfl ?_
 unfold s100
 refine Es.seq (Es.region (ew_al fun b2 h1 ob2 k1=>?_))
 refine go ?_
 refine ew_al fun b4 h2 ob4 k2=>?_
 have k02:=k1.trans k2
 have hC:Ce h2 vq.ba (vq.of+t*1) (gt qs t):=(hq.cs.eq t 0 ht (by decide)).kp k02 hw
 have e0:=ob2.hi
 have ob2:=ob2.mo (Mo.of_kp k2 none) (fun e=>by cases e)
 have e1:=ob2.lo
 have e2:=ob4.lo
 have e3:=ob2.hi
 have e4:=k1.le
 have e5:=hq.blk.2.2
 have hq2:=hq.mo (Mo.of_kp k02 none) (fun e=>by cases e)
 have hg2:=hg.mo (Mo.of_kp k02 none) (fun _ _ e=>by cases e)
 have hLr:=hg2.ln
 rw[List.length_cons]at hLr
 have hCr:=hg2.cs
 rw[List.length_cons]at hCr
 have hR:Rw h2 (gt qs t).ba 3 (gt qs t).of (upto (wc ev x) 3 0):=hCr.row0 (Nat.zero_lt_succ _)
 clear hCr
 refine go ?_
 refine ew_st ob4 (fun h3 ob5 m3=>?_)
 have k03:Kp h h3:=m3.kp k02 fun k hk=>by injection hk with hk;omega
 have hq3:=hq2.mo m3 (fun e=>by injection e with e;omega)
 have hC3:Ce h3 vq.ba (vq.of+t*1) (gt qs t):=hq3.cs.eq t 0 ht (by decide)
 have hg3:=hg2.mo m3 fun k hk e=>by injection e with e;have:=(hg.blk k hk).2;omega
 have ob2:=ob2.mo m3 (fun e=>by injection e with e;omega)
 have e6:=m3.le
 have e7:=k2.le
 clear hC hR
 refine go ?_
 refine ewN (stS (v:=tlV (gt qs t) 1) (hd:=by exact od_tl hLr (by omega) rfl rfl) ?_)
 obtain⟨hG',hbk⟩:=hg3.tl
 have o1:=hG'.ln.one
 refine go ?_
 refine ew_ar (tlV (gt qs t) 1) hq3 (i:=t) ht (fun h4 hA4 m4=>?_) (hv:=cells_one5 o1) (h1:=allOne_cons o1 rfl)
 have hG4:=hG'.mo m4 fun k hk e=>by rw[hbk]at hk;injection e with e;exact hne (by rw[hk,e])
 have ob2:=ob2.mo m4 (fun e=>by injection e with e;omega)
 have hB4:Bx h4 b4 (upto (wc ev x) 3 0):=(ob5.mo m4 (fun e=>by injection e with e;omega)).bx
 have p4:Pr (fun k=>k=vq.ba) h h4:=(Pr.of_kp k03).trans (Pr.of_mo m4 fun k hk=>by injection hk with hk;exact hk.symm)
 refine go ?_
 refine ew_st ob2 (fun h5 ob6 m5=>?_)
 have hB5:Bx h5 b2 (upto (wc ev x) 3 0):=ob6.bx
 refine go ?_
 exact ret_ct (v:=.agg (upto (wc ev x) 3 0)) (od_lds rfl (rw_b hB5 rfl)) ⟨rfl,hA4.mo m5 fun e=>by injection e with e;omega,hG4.mo m5 fun k hk e=>by injection e with e;rw[hbk]at hk;have:=(hg.blk k hk).2;omega,p4.mo_hi m5 fun k hk=>by injection hk with hk;exact .inr (by omega)⟩
set_option maxHeartbeats 0 in
theorem pflush_spec {m:Bool} {h:H} {n0 bm:Nat} {P:Nat→Prop} {vq vo:V} {qs os:List V} {Q O:List (List Int)} {ev:List Ev_} {t:Nat} (hw:Wf h) (hm:Mac h n0 P vq vo 94 92 3 83 (wc ev) Q O qs os) (hB:Bx h bm [vo,vq]) (hbm:bm<h.next) (hbP:¬P bm) (ht:t<Q.length) (hq:∀x∈gt Q t,0≤x∧x<ev.length∧0≤(gt ev x.toNat).loc∧(gt ev x.toNat).loc<O.length)
  (hP:∀k,h.next≤k→P k) (hn0:n0≤h.next) (hsz:lenT Q+lenT O≤1000000):FX m Tryz.prog 41 [.p bm 0,.i .i64 (t:Int)] h fun v h'=>v=.u∧(∃qs' os',Mac h' n0 P vq vo 94 92 3 83 (wc ev) (flushP ev Q O t).1 (flushP ev Q O t).2 qs' os')∧Pr P h h':=by
 refine Fn.env c41 rfl ?_
 unfold s41
 have hL:=hm.q.ln
 rw[hm.ql]at hL
 have hql:=hm.ql
 refine go ?_
 cases hqt:gt Q t with
 | nil =>
  have hG:=hm.qr t ht
  rw[hqt]at hG
  refine stC (take_nil hw hm.q (by omega) hG.ln) (fun v h1 ⟨hv,k1⟩=>?_)
  subst hv
  refine go ?_
  refine ew_al fun b4 h2 ob4 k2=>?_
  refine ew_st ob4 (fun h3 ob3 m3=>?_)
  have k03:=m3.kp (k1.trans k2) fun k hk=>by injection hk with hk;have:=ob4.lo;have:=k1.le;omega
  refine go ?_
  exact end_0 ⟨rfl,by rw[flushP_nil hqt];exact⟨qs,os,hm.kp k03⟩,Pr.of_kp k03⟩
 | cons w r =>
  have hG:=hm.qr t ht
  rw[hqt]at hG
  obtain⟨hx0,hx1,hx2,hx3⟩:=hq w (by rw[hqt];exact List.mem_cons_self)
  refine stC (take_cons hw hm.q (by omega) hG fun e=>(hm.qa t ht _ e).1 rfl) (fun v h1 ⟨hv,hA1,hG1,p1⟩=>?_)
  subst hv
  obtain⟨hm1,p1'⟩:=hm.setQ ht (p1.sub fun k _ hk=>.inl hk) hA1 hG1 fun k hk=>.inl (by rw[hG.tl.2]at hk;exact hk)
  have hw1:=p1'.wf hw
  have hB1:=p1'.bx hB hbm hbP
  have e1:=p1'.le
  refine go ?_
  refine ew_al fun b4 h2 ob4 k2=>?_
  refine ew_st ob4 (fun h3 ob3 m3=>?_)
  have e2:=ob4.lo
  have k3:Kp h1 h3:=m3.kp k2 fun k hk=>by injection hk with hk;omega
  have hB3:=hB1.kp k3 hw1
  have e3:=k3.le
  have hm3:=hm1.kp k3
  have hw3:=k3.wf hw1
  have hB4:Bx h3 b4 (upto (wc ev w) 3 0):=ob3.bx
  obtain⟨lc,hlc⟩:∃lc:Nat,(gt ev w.toNat).loc=lc:=⟨(gt ev w.toNat).loc.toNat,by omega⟩
  have hlk:(gt ev w.toNat).loc.toNat=lc:=by omega
  refine go ?_
  refine mC (come_spec (lc:=lc) hw3 hm3 hB3 (by omega) hbP hlc (by omega) (fun k hk=>hP k (by omega)) (by omega) (by omega)) (fun v h4 ⟨_,⟨os',hm4⟩,p4⟩=>⟨trivial,?_⟩)
  refine go ?_
  exact end_0 ⟨rfl,by rw[flushP_cons hqt,hlk];exact⟨_,os',hm4⟩,p1'.trans ((Pr.of_kp k3).trans p4)⟩
def s99 : Sc:=(.seq (.region [Y 2 (.bx 83 (.t 0)) [0],Y 3 (.mv (.c (.b false))) []]) (.seq (.region [Y 4 (.fa (.t 2) 0) [2],
 Y 5 (.ld (.t 4)) [4],Y 6 (.ld (.t 1)) [1],Y 7 (.eq .int false (.t 5) (.t 6)) [5,6],
 Y 3 (.mv (.t 7)) [7]]) .ret))
set_option maxRecDepth 100000 in
theorem c99:fnB Tryz.prog 99=some (8,s99,[.t 3]):=by kernel_rfl
def s165 : Sc:=(.seq (.region [Y 1 (.bx 92 (.t 0)) [0],Y 2 (.mv (.c .nf)) []])
  (.seq (.region [Y 3 (.mf (.func 237) [] [.t 1]) [1],Y 2 (.mv (.t 3)) [3]]) .ret))
set_option maxRecDepth 100000 in
theorem c165:fnB Tryz.prog 165=some (4,s165,[.t 2]):=by kernel_rfl
def s237 : Sc:=(.seq (.region [Y 4 (.ld (.t 1)) [1],Y 5 (.len (.t 4)) [4],Y 6 (.ar .sub (.t 5) (.c (.i .i64 1))) [5],
 Y 3 (.mv (.t 6)) [6]]) (.block 0 (.loop (.seq (.seq (.region [Y 7 (.mv (.t 3)) [3],Y 8 (.ar .geq (.t 7)
  (.c (.i .i64 0))) [7]]) (.cond (.t 8) .skip (.exit 0)))
  (.seq (.block 1 (.seq (.region [Y 11 (.mv (.t 0)) [0],Y 12 (.mv (.t 3)) [3],Y 13 (.ld (.t 1)) [1],
 Y 14 (.mv (.t 3)) [3],Y 15 (.ia (.t 13) (.t 14) 3) [13,14],Y 16 (.lds (.t 15) 3) [15],
 Y 17 (.callv (.t 11) [.t 12,.t 16]) [11,12,16],Y 18 (.nt (.t 17)) [17]]) (.cond (.t 18) .ret .skip)))
  (.region [Y 9 (.mv (.t 3)) [3],Y 10 (.ar .sub (.t 9) (.c (.i .i64 1))) [9],Y 3 (.mv (.t 10)) [10]]))))))
set_option maxRecDepth 100000 in
theorem c237:fnB Tryz.prog 237=some (19,s237,[]):=by kernel_rfl
def s98 : Sc:=(.seq (.region [Y 3 (.bx 188 (.t 1)) [1],Y 4 (.al 83 [.i .i64 0,.i .i64 0,.i .u64 0]) [],
 Y 5 (.al 4 [.b false]) []]) (.seq (.seq (.region [Y 9 (.mv (.t 0)) [0],Y 10 (.nc (.t 9)) [9],
 Y 11 (.fa (.t 10) 0) [10],Y 12 (.ld (.t 11)) [11],Y 13 (.call 165 [.t 12]) [12]])
  (.block 0 (.range (.t 13) [14,15] (.region [Y 7 (.al 83 [.i .i64 0,.i .i64 0,.i .u64 0]) [],
 ⟨none,none,.st (.t 7) (.t 15) 3,[7,15]⟩]) (.block 1 (.seq (.region [Y 16 (.ld (.t 3)) [3],
 Y 17 (.lds (.t 7) 3) [7],Y 18 (.callv (.t 16) [.t 17]) [16,17]]) (.cond (.t 18)
  (.seq (.region [Y 19 (.lds (.t 7) 3) [7],⟨none,none,.st (.t 4) (.t 19) 3,[4,19]⟩,⟨none,none,.st (.t 5)
  (.c (.b true)) 1,[5]⟩]) .ret) .skip)))))) (.seq (.region [Y 8 (.al 83 [.i .i64 0,.i .i64 0,.i .u64 0]) []])
  (.seq (.region [Y 20 (.lds (.t 8) 3) [8],⟨none,none,.st (.t 4) (.t 20) 3,[4,20]⟩,⟨none,none,.st (.t 5)
  (.c (.b false)) 1,[5]⟩]) .ret))))
set_option maxRecDepth 100000 in
theorem c98:fnB Tryz.prog 98=some (21,s98,[.c (.lds (.t 4) 3),.c (.ld (.t 5))]):=by kernel_rfl
def s37 : Sc:=(.seq (.region [Y 5 (.bx 3 (.t 2)) [2],Y 6 (.al 83 [.i .i64 0,.i .i64 0,.i .u64 0]) []])
  (.seq (.seq (.region [Y 11 (.mv (.t 0)) [0],Y 12 (.nc (.t 11)) [11],Y 13 (.fa (.t 12) 1) [12],
 Y 14 (.ld (.t 13)) [13],Y 15 (.mv (.t 1)) [1],Y 16 (.ia (.t 14) (.t 15) 1) [14,15],
 Y 17 (.mf (.func 99) [] [.t 5]) [5],Y 18 (.call 98 [.t 16,.t 17]) [16,17],Y 10 (.mv (.t 18)) [18],
 Y 19 (.ex (.t 10) 0) [10],Y 20 (.ex (.t 10) 1) [10],Y 7 (.al 83 [.i .i64 0,.i .i64 0,.i .u64 0]) [],
 ⟨none,none,.st (.t 7) (.t 19) 3,[7,19]⟩,Y 8 (.mv (.t 20)) [20]]) (.seq (.region [Y 21 (.mv (.t 8)) [8]])
  (.cond (.t 21) (.seq (.region [Y 22 (.lds (.t 7) 3) [7],⟨none,none,.st (.t 6)
  (.t 22) 3,[6,22]⟩]) .ret) .skip))) (.seq (.mix [(Y 23 (.mv (.t 0)) [0],.q [none]),
 (Y 24 (.nc (.t 23)) [23],.q [none]),(Y 25 (.fa (.t 24) 0) [24],.q [none]),
 (Y 26 (.fa (.t 25) 0) [25],.q [none]),(Y 27 (.ld (.t 26)) [26],.q [none]),(Y 28 (.ld (.t 5)) [5],.q [none]),
 (Y 29 (.ia (.t 27) (.t 28) 1) [27,28],.q [none]),(Y 30 (.ld (.t 29)) [29],.q [none]),
 (Y 9 (.mv (.t 30)) [30],.q [none])]) (.seq (.region [Y 31 (.mv (.t 9)) [9],Y 32 (.mv (.t 9)) [9],
 Y 33 (.len (.t 32)) [32],Y 34 (.ar .sub (.t 33) (.c (.i .i64 1))) [33],Y 35 (.ia (.t 31) (.t 34) 3) [31,34],
 Y 36 (.lds (.t 35) 3) [35],⟨none,none,.st (.t 6) (.t 36) 3,[6,36]⟩]) .ret))))
set_option maxRecDepth 100000 in
theorem c37:fnB Tryz.prog 37=some (37,s37,[.c (.lds (.t 6) 3)]):=by kernel_rfl
def lastN (ev:List Ev_) (loc:Int) (q:List Int):Nat→Option Int
 | 0=>none
 | k+1=>if (gt ev (gt q k).toNat).loc=loc then some (gt q k)else lastN ev loc q k
theorem looksN_last {ev:List Ev_} {loc:Int} {q:List Int} {d:Int}:∀k,looksN ev loc q d k=(lastN ev loc q k).getD d
 | 0=>rfl
 | k+1=>by
  unfold looksN lastN
  split
  ·rfl
  ·exact looksN_last k
def lastV (ev:List Ev_):Option Int→V
 | none=>.tup [.agg [.i .i64 0,.i .i64 0,.i .u64 0],.b false]
 | some x=>.tup [.agg (upto (wc ev x) 3 0),.b true]
set_option maxHeartbeats 0 in
theorem look1_spec {m:Bool} {h:H} {bc:Nat} {ev:List Ev_} {x cell:Int} (hw:Wf h) (hB:Bx h bc [.i .i64 cell]):FX m Tryz.prog 99 [.agg (upto (wc ev x) 3 0),.p bc 0] h fun v h'=>v=.b (decide ((gt ev x.toNat).loc=cell))∧Kp h h':=by
 refine Fn.env c99 rfl ?_
 unfold s99
 refine Es.seq (Es.region (ew_bx fun b2 h1 ob2 k1=>?_))
 have hB1:=hB.kp k1 hw
 have hB2:=ob2.bx
 refine go ?_
 exact ret_1 ⟨rfl,k1⟩
set_option maxHeartbeats 0 in
theorem backw_new {m:Bool} {h:H} {v:V} (ho:v.one=true):FX m Tryz.prog 165 [v] h fun w h'=>(∃bx,w=.fn (.func 237) [] [.p bx 0]∧Ob h' h.next bx 92 [v])∧Kp h h':=by
 refine Fn.env c165 rfl ?_
 unfold s165
 refine Es.seq (Es.region (ew_bx (hv:=cells_one5 ho) (hz:=allOne_cons ho rfl) fun b2 h1 ob2 k1=>?_))
 refine go ?_
 exact ret_1 ⟨⟨b2,rfl,ob2⟩,k1⟩
section
variable {α:Type} [Inhabited α] {c:α→Nat→V}
set_option maxHeartbeats 0 in
theorem backw_spec {J:Nat→H→Prop} {D:H→Prop} {h:H} {b bx:Nat} {v:V} {rows:List α} (hn:rows.length<4611686018427387904) (h0:J rows.length h) (hJ:∀i h,J i h→Bx h bx [v]∧Ro h v 3 c rows)
  (hy:∀i h,i<rows.length→J (i+1) h→YX false Tryz.prog b [.i .i64 (i:Int),.agg (upto (c (gt rows i)) 3 0)] h fun v h'=>(v=.b true∧J i h')∨(v=.b false∧D h')):FX false Tryz.prog 237 [.y b,.p bx 0] h fun _ h'=>J 0 h'∨D h':=by
 refine Fn.env c237 rfl ?_
 unfold s237
 obtain⟨hB,hL,hC⟩:=hJ _ _ h0
 refine go ?_
 refine Es.loop (X:=Nat) (fun x=>x) (fun x=>[(0,.y b),(1,.p bx 0),(3,.i .i64 ((x:Int)-1))]) (fun x h'=>x≤rows.length∧J x h') rows.length ⟨rfl,rfl,rfl,trivial⟩ ⟨Nat.le_refl _,h0⟩ fun x h2 hx=>?_
 obtain⟨hx,hJ2⟩:=hx
 obtain⟨hB,hL,hC⟩:=hJ _ _ hJ2
 cases x with
 | zero =>
  refine go ?_
  first | exact ret_0 (R:=fun _ h=>J 0 h∨D h) (.inl hJ2) | exact end_0 (R:=fun _ h=>J 0 h∨D h) (.inl hJ2)
 | succ i =>
  have e1:(((i+1:Nat):Int)-1)=(i:Int):=by omega
  rw[e1]
  refine go ?_
  refine ew_y .n rfl rfl (hy i h2 (by omega) hJ2) fun v h3 hR=>?_
  rcases hR with⟨rfl,hJ3⟩ | ⟨rfl,hD⟩
  ·skip
   refine go ?_
   exact Nx.inv i (Nat.lt_succ_self i) ⟨rfl,rfl,rfl,trivial⟩ ⟨by omega,hJ3⟩
  ·skip
   refine go ?_
   first | exact ret_0 (R:=fun _ h=>J 0 h∨D h) (.inr hD) | exact end_0 (R:=fun _ h=>J 0 h∨D h) (.inr hD)
theorem Es.backR {N:Nat} {R:Env→H→Prop} {K:List Fr} {e:Env} {h:H} {x:Rd} {p1 p2:Nat} {sa sb:Sc} {bx:Nat} {v:V} {rows:List α} (φ:Nat→H→Prop) (ψ:H→Prop) (hx:x.lk e=some (.fn (.func 237) [] [.p bx 0])) (hn:rows.length<4611686018427387904)
  (hφ:∀i h',φ i h'→Bx h' bx [v]∧Ro h' v 3 c rows)
  (hset:∀i h' o,h.next<h'.next→φ i h'→φ i ⟨h'.next,h'.t.set h.next (some o)⟩)
  (hsetψ:∀h' o,h.next<h'.next→ψ h'→ψ ⟨h'.next,h'.t.set h.next (some o)⟩)
  (h0:∀o,φ rows.length ⟨h.next+1,h.t.set h.next (some o)⟩)
  (hb:∀r i h1,i<rows.length→h.next<h1.next→φ (i+1) h1→Es ⟨false,Tryz.prog,r,N,fun _ _=>False⟩ [.cut fun e2 h2=>h.next<h2.next∧h2.t.get h.next=h1.t.get h.next∧∀o,Es ⟨false,Tryz.prog,r,N,fun _ h4=>ψ h4∧h.next<h4.next∧h4.t.get h.next=some o⟩ [.cut fun _ h4=>φ i h4∧h.next<h4.next∧h4.t.get h.next=some o] sb e2 ⟨h2.next,h2.t.set h.next (some o)⟩] sa ((p2,.agg (upto (c (gt rows i)) 3 0)) :: (p1,.i .i64 (i:Int)) :: e) h1)
  (hend:∀h',h.next<h'.next→φ 0 h'→Nx ⟨false,Tryz.prog,none,N,R⟩ K e ⟨h'.next,h'.t.set h.next none⟩)
  (hret:∀h',h.next<h'.next→ψ h'→R e ⟨h'.next,h'.t.set h.next none⟩):Es ⟨false,Tryz.prog,none,N,R⟩ K (.range x [p1,p2] sa sb) e h:=⟨fun t ht=>by
 refine SX.range (m:=false) (Rd.lk_val hx ht) fun sc bd has hbd=>?_
 show Fn _ _ _ _ _
 refine Fn.mono (backw_spec (J:=fun i h'=>φ i h'∧h.next<h'.next∧h'.t.get h.next=some (.loop .ready t N [p1,p2] sc bd)) (D:=fun h'=>ψ h'∧h.next<h'.next∧∃t' N' ps' as' bd',h'.t.get h.next=some (.loop (.done .ret) t' N' ps' as' bd')) hn ⟨h0 _,Nat.lt_succ_self _,by
  show(h.t.set h.next _).get h.next=_
  rw[Tr.get_set,if_pos rfl]⟩ (fun i h' hj=>hφ i h' hj.1) fun i h1 hi hj=>?_) fun _ h2 hj=>?_
 ·obtain⟨h3,h4,h5⟩:=hj
  show Yd _ _ _ _ _
  refine Yd.of h5 rfl has hbd fun r=>?_
  have h6:=((hb r i h1 hi h4 h3).run _ ((ht.set p1 (.i .i64 (i:Int))).set p2 (.agg (upto (c (gt rows i)) 3 0)))).sw
  refine SW.mono h6 fun y t2 h2 ⟨e2,ht2,hk⟩=>?_
  cases y with
  | exit j=>exact hk.2.elim
  | ret=>exact hk.2.elim
  | normal =>
   obtain⟨h7,h8,h9⟩:=hk
   refine⟨rfl,t,N,[p1,p2],sc,bd,by rw[h8];exact h5,?_⟩
   refine SW.mono ((h9 _).run _ ht2).sw fun y t4 h4 ⟨e4,ht4,hk4⟩=>?_
   cases y with
   | exit j =>
    have:=hk4.1
    rcases this with h | h <;> cases h
   | ret =>
    obtain⟨h10,h11,h12⟩:=hk4.2
    refine⟨t,N,[p1,p2],sc,bd,h12,.inr ⟨rfl,hsetψ h4 _ h11 h10,h11,t,N,[p1,p2],sc,bd,?_⟩⟩
    show(h4.t.set h.next _).get h.next=_
    rw[Tr.get_set,if_pos rfl]
    rfl
   | normal =>
    obtain⟨h10,h11,h12⟩:=hk4
    refine⟨t,N,[p1,p2],sc,bd,h12,.inl ⟨rfl,hset i h4 _ h11 h10,h11,?_⟩⟩
    show(h4.t.set h.next _).get h.next=_
    rw[Tr.get_set,if_pos rfl]
    rfl
 ·rcases hj with⟨h3,h4,h5⟩ | ⟨h3,h4,t',N',ps',as',bd',h5⟩
  ·exact⟨.ready,t,N,[p1,p2],sc,bd,h5,.inl ⟨rfl,e,ht,(hend h2 h4 h3).run⟩⟩
  ·exact⟨.done .ret,t',N',ps',as',bd',h5,.inr ⟨.ret,rfl,e,ht,kont_ret (hret h2 h4 h3) K⟩⟩⟩
end
theorem rtcc_ {op op':Top} {e:Env} {h:H} {v w:V} (hd:Od op e h v h) (hd':Od op' e h w h):Rt [.c op,.c op'] e h (.tup [v,w]):=⟨fun t ht=>by
 show ob (ob (Rx.val t h (.c op)) fun a=>ob (ob (Rx.val t h (.c op')) fun b=>ob (some []) fun l=>some (b :: l)) fun l=>some (a :: l)) _=_
 rw[val_c_ hd ht,val_c_ hd' ht]
 rfl⟩
theorem ret_cc {m:Bool} {P:Program} {r:Option Nat} {N:Nat} {K:List Fr} {e:Env} {h:H} {R:V→H→Prop} {op op':Top} {v w:V} (hd:Od op e h v h) (hd':Od op' e h w h) (hR:R (.tup [v,w]) h):Es ⟨m,P,r,N,fun e h=>∃v,Rt [.c op,.c op'] e h v∧R v h⟩ K .ret e h:=Es.ret ⟨_,rtcc_ hd hd',hR⟩
set_option maxHeartbeats 0 in
theorem last_fn {h:H} {vq:V} {qs:List V} {t n0 bc:Nat} {ev:List Ev_} {rows:List Int} {cell:Int} (hw:Wf h) (hq:Ar h n0 vq 1 94 vcell qs) (ht:t<qs.length) (hg:Ro h (gt qs t) 3 (wc ev) rows) (hB:Bx h bc [.i .i64 cell]) (_hbc:bc<h.next) (hn:rows.length≤10000000):FX false Tryz.prog 98 [.p vq.ba (vq.of+t*1),.fn (.func 99) [] [.p bc 0]] h fun v h'=>v=lastV ev (lastN ev cell rows rows.length)∧Old h.next h h':=by
 refine Fn.env c98 rfl ?_
 unfold s98
 refine Es.seq (Es.region (ew_bx fun b3 h1 ob3 k1=>?_))
 refine ew_al fun b4 h2 ob4 k2=>?_
 refine ew_al fun b5 h3 ob5 k3=>?_
 have k03:=k1.trans (k2.trans k3)
 have hw1:=k1.wf hw
 have hw2:=k2.wf hw1
 have hw3:=k3.wf hw2
 have hC:Ce h3 vq.ba (vq.of+t*1) (gt qs t):=(hq.cs.eq t 0 ht (by decide)).kp k03 hw
 have hq3:=hg.kp k03 hw
 have o1:=hg.ln.one
 have e1:=ob3.lo
 have e2:=ob4.lo
 have e3:=ob5.lo
 have e4:=ob3.hi
 have e5:=ob4.hi
 have e6:=ob5.hi
 have e7:=k1.le
 have hB3:=(ob3.bx.kp k2 hw1).kp k3 hw2
 have ob4:=ob4.mo (Mo.of_kp k3 none) (fun e=>by cases e)
 have hBc:=hB.kp k03 hw
 refine go ?_
 refine stC (backw_new o1) (fun v hL ⟨⟨bx,hv,obx⟩,kL⟩=>?_)
 subst hv
 have hwL:=kL.wf hw3
 have hBcL:=hBc.kp kL hw3
 have hB3L:=hB3.kp kL hw3
 have ob4L:=ob4.mo (Mo.of_kp kL none) (fun e=>by cases e)
 have ob5L:=ob5.mo (Mo.of_kp kL none) (fun e=>by cases e)
 have hqL:=hq3.kp kL hw3
 have hBX:=obx.bx
 have e8:=kL.le
 have k0L:=k03.trans kL
 refine go ?_
 refine Es.backR (c:=wc ev) (p1:=14) (p2:=15) (bx:=bx) (v:=gt qs t) (rows:=rows) (fun i h'=>Kp hL h'∧lastN ev cell rows i=lastN ev cell rows rows.length) (fun h'=>Pr (fun k=>k=b4∨k=b5) hL h'∧∃x,lastN ev cell rows rows.length=some x∧Bx h' b4 (upto (wc ev x) 3 0)∧Bx h' b5 [.b true]) rfl (by omega) ?_ ?_ ?_ ?_ ?_ ?_ ?_
 ·rintro i h' ⟨k,-⟩
  exact⟨hBX.kp k hwL,hqL.kp k hwL⟩
 ·rintro i h' o hlt ⟨k,hl⟩
  exact⟨(mo_set (o:=o) hlt).kp k fun k hk=>by injection hk with hk;omega,hl⟩
 ·rintro h' o hlt ⟨p,x,hx,hB4,hB5⟩
  have m:=mo_set (o:=o) hlt
  exact⟨p.mo_hi m fun k hk=>by injection hk with hk;exact .inr (by omega),x,hx,⟨fun k v hk=>⟨(m.cell (by have:=p.le;omega) (fun e=>by injection e with e;omega)).trans (hB4.eq k v hk).eq⟩⟩,⟨fun k v hk=>⟨(m.cell (by have:=p.le;omega) (fun e=>by injection e with e;omega)).trans (hB5.eq k v hk).eq⟩⟩⟩
 ·intro o
  exact⟨kp_set,rfl⟩
 ·rintro r i h5 hi hlt ⟨k5,hl⟩
  have hw5:=k5.wf hwL
  refine go ?_
  refine ew_al fun b7 h6 ob7 k6=>?_
  refine ew_st ob7 fun h7 ob8 m7=>?_
  have k7:Kp h5 h7:=m7.kp k6 fun j hj=>by injection hj with hj;subst hj;exact ob7.lo
  have f1:=ob7.lo
  refine go ?_
  refine Nx.cut ⟨Nat.lt_of_lt_of_le hlt k7.le,k7.old.get _ hlt,fun o=>?_⟩
  have hlt7:=Nat.lt_of_lt_of_le hlt k7.le
  have m8:=mo_set (o:=o) hlt7
  have k8:Kp hL ⟨h7.next,h7.t.set hL.next (some o)⟩:=m8.kp (k5.trans k7) fun k hk=>by injection hk with hk;omega
  have ob9:=ob8.mo m8 (fun e=>by injection e with e;omega)
  have hgo:(⟨h7.next,h7.t.set hL.next (some o)⟩:H).t.get hL.next=some o:=by
   show(h7.t.set hL.next (some o)).get hL.next=_
   rw[Tr.get_set,if_pos rfl]
  have hlt8:hL.next<(⟨h7.next,h7.t.set hL.next (some o)⟩:H).next:=hlt7
  generalize (⟨h7.next,h7.t.set hL.next (some o)⟩:H)=h8 at k8 ob9 hgo hlt8 ⊢
  clear m8 m7 k7 k6 ob7 ob8
  have hw8:=k8.wf hwL
  have hB3:=hB3L.kp k8 hwL
  have hBc:=hBcL.kp k8 hwL
  have hB7:Bx h8 b7 (upto (wc ev (gt rows i)) 3 0):=ob9.bx
  refine go ?_
  refine ew_cv .n rfl rfl (look1_spec hw8 hBc) (fun v h9 ⟨hv,k9⟩=>?_)
  subst hv
  have hgo9:h9.t.get hL.next=some o:=(k9.old.get _ hlt8).trans hgo
  have hlt9:=Nat.lt_of_lt_of_le hlt8 k9.le
  have hB7:=hB7.kp k9 hw8
  have k89:=k8.trans k9
  have hstep:lastN ev cell rows (i+1)=if (gt ev (gt rows i).toNat).loc=cell then some (gt rows i)else lastN ev cell rows i:=rfl
  refine go ?_
  refine cD (fun hc=>?_) (fun hc=>?_)
  ·rw[if_pos hc]at hstep
   have ob4M:=ob4L.mo (Mo.of_kp k89 none) (fun e=>by cases e)
   have ob5M:=ob5L.mo (Mo.of_kp k89 none) (fun e=>by cases e)
   refine go ?_
   refine ew_st ob4M fun hA obA mA=>?_
   have ob5A:=ob5M.mo mA fun e=>by injection e with e;omega
   refine ew_st ob5A fun hB obB mB=>?_
   have hB4:Bx hB b4 (upto (wc ev (gt rows i)) 3 0):=(obA.mo mB fun e=>by injection e with e;omega).bx
   have hB5:Bx hB b5 [.b true]:=obB.bx
   refine go ?_
   refine Es.ret ⟨⟨((Pr.of_kp k89).trans (Pr.of_mo mA fun k hk=>by injection hk with hk;exact .inl hk.symm)).trans (Pr.of_mo mB fun k hk=>by injection hk with hk;exact .inr hk.symm),gt rows i,by rw[←hl,hstep],hB4,hB5⟩,by have:=mA.le;have:=mB.le;omega,?_⟩
   rw[mB.get _ (by have:=mA.le;omega) fun e=>by injection e with e;omega,mA.get _ hlt9 fun e=>by injection e with e;omega]
   exact hgo9
  ·rw[if_neg hc]at hstep
   refine go ?_
   exact Nx.cut ⟨⟨k89,by rw[←hl,hstep]⟩,hlt9,hgo9⟩
 ·rintro h5 hlt ⟨k5,hl⟩
  have m:=mo_put (o:=none) hlt
  have k6:=m.kp k5 fun k hk=>by injection hk with hk;omega
  generalize (⟨h5.next,h5.t.set hL.next none⟩:H)=h6 at k6 ⊢
  clear m
  have hw6:=k6.wf hwL
  have ob4M:=ob4L.mo (Mo.of_kp k6 none) (fun e=>by cases e)
  have ob5M:=ob5L.mo (Mo.of_kp k6 none) (fun e=>by cases e)
  have hn0:lastN ev cell rows rows.length=none:=hl.symm
  refine go ?_
  refine ew_al fun b8 h7 ob8 k7=>?_
  have ob4N:=ob4M.mo (Mo.of_kp k7 none) (fun e=>by cases e)
  have ob5N:=ob5M.mo (Mo.of_kp k7 none) (fun e=>by cases e)
  have hB8:=ob8.bx
  refine go ?_
  refine ew_st ob4N fun hA obA mA=>?_
  have ob5A:=ob5N.mo mA fun e=>by injection e with e;omega
  refine ew_st ob5A fun hB obB mB=>?_
  have hB4:Bx hB b4 [.i .i64 0,.i .i64 0,.i .u64 0]:=(obA.mo mB fun e=>by injection e with e;omega).bx
  have hB5:Bx hB b5 [.b false]:=obB.bx
  have kZ:=mB.kp (mA.kp (k0L.trans (k6.trans k7)) fun k hk=>by injection hk with hk;omega) fun k hk=>by injection hk with hk;omega
  refine go ?_
  exact ret_cc (v:=.agg [.i .i64 0,.i .i64 0,.i .u64 0]) (w:=.b false) (od_lds rfl (rw_b hB4 rfl)) (od_ld rfl (ce_b hB5 rfl)) ⟨by rw[hn0];rfl,kZ.old⟩
 ·rintro h5 hlt ⟨p,x,hx,hB4,hB5⟩
  have m:=mo_put (o:=none) hlt
  have hB4:Bx ⟨h5.next,h5.t.set hL.next none⟩ b4 (upto (wc ev x) 3 0):=⟨fun k v hk=>⟨(m.cell (by have:=p.le;omega) (fun e=>by injection e with e;omega)).trans (hB4.eq k v hk).eq⟩⟩
  have hB5:Bx ⟨h5.next,h5.t.set hL.next none⟩ b5 [.b true]:=⟨fun k v hk=>⟨(m.cell (by have:=p.le;omega) (fun e=>by injection e with e;omega)).trans (hB5.eq k v hk).eq⟩⟩
  have kZ:=(p.mo_hi m fun k hk=>by injection hk with hk;exact .inr (by omega)).kp k0L fun k hk=>by omega
  exact⟨_,rtcc_ (v:=.agg (upto (wc ev x) 3 0)) (w:=.b true) (od_lds rfl (rw_b hB4 rfl)) (od_ld rfl (ce_b hB5 rfl)),by rw[hx];rfl,kZ.old⟩
theorem last_spec {m:Bool} {h:H} {vq:V} {qs:List V} {t n0 bc:Nat} {ev:List Ev_} {rows:List Int} {cell:Int} (hw:Wf h) (hq:Ar h n0 vq 1 94 vcell qs) (ht:t<qs.length) (hg:Ro h (gt qs t) 3 (wc ev) rows) (hB:Bx h bc [.i .i64 cell]) (hbc:bc<h.next) (hn:rows.length≤10000000):FX m Tryz.prog 98 [.p vq.ba (vq.of+t*1),.fn (.func 99) [] [.p bc 0]] h fun v h'=>v=lastV ev (lastN ev cell rows rows.length)∧h'=h :=
 Fn.fx (last_fn hw hq ht hg hB hbc hn) (by cases lastN ev cell rows rows.length <;> rfl)
set_option maxHeartbeats 0 in
theorem plook_spec {m:Bool} {h:H} {n0 bm:Nat} {P:Nat→Prop} {vq vo:V} {qs os:List V} {Q O:List (List Int)} {ev:List Ev_} {t loc:Nat} (hw:Wf h) (hm:Mac h n0 P vq vo 94 92 3 83 (wc ev) Q O qs os) (hB:Bx h bm [vo,vq]) (ht:t<Q.length) (hl:loc<O.length) (hn:0<(gt O loc).length) (hsz:lenT Q+lenT O≤1000000):FX m Tryz.prog 37 [.p bm 0,.i .i64 (t:Int),.i .i64 (loc:Int)] h fun v h'=>v=.agg (upto (wc ev (looksV ev Q O t loc)) 3 0)∧Kp h h':=by
 have hlq:=lenT_le ht
 have hlo:=lenT_le hl
 refine Fn.env c37 rfl ?_
 unfold s37
 refine Es.seq (Es.region (ew_bx fun b5 h1 ob5 k1=>?_))
 refine ew_al fun b6 h2 ob6 k2=>?_
 have k02:=k1.trans k2
 have hw1:=k1.wf hw
 have hw2:=k2.wf hw1
 have hB2:=hB.kp k02 hw
 have hB5:=ob5.bx.kp k2 hw1
 have hm2:=hm.kp k02
 have hL:=hm2.q.ln
 rw[hm.ql]at hL
 have e1:=ob5.hi
 have e2:=k2.le
 have e3:=ob6.lo
 have e4:=k1.le
 have hql:=hm.ql
 refine go ?_
 refine stC (last_spec (bc:=b5) (cell:=(loc:Int)) hw2 hm2.q (by omega) (hm2.qr t ht).ro hB5 (by omega) (by omega)) (fun v h3 ⟨hv,e⟩=>?_)
 obtain rfl:=e.symm
 have hlook:looksV ev Q O t loc=(lastN ev loc (gt Q t) (gt Q t).length).getD (gt (gt O loc) ((gt O loc).length-1)):=looksN_last _
 cases hla:lastN ev loc (gt Q t) (gt Q t).length with
 | some x =>
  rw[hla]at hv hlook
  have hv:v=.tup [.agg (upto (wc ev x) 3 0),.b true]:=hv
  subst hv
  refine go ?_
  refine ew_al fun b7 h4 ob7 k4=>?_
  refine ew_st ob7 fun h5 ob8 m5=>?_
  have k5:Kp h2 h5:=m5.kp k4 fun j hj=>by injection hj with hj;subst hj;exact ob7.lo
  have hB7:Bx h5 b7 (upto (wc ev x) 3 0):=ob8.bx
  have ob6:=ob6.mo (Mo.of_kp k5 none) (fun e=>by cases e)
  refine go ?_
  refine ew_st ob6 fun h6 ob9 m6=>?_
  have hB6:Bx h6 b6 (upto (wc ev x) 3 0):=ob9.bx
  have kZ:=m6.kp (k02.trans k5) fun k hk=>by injection hk with hk;omega
  refine go ?_
  exact ret_c (v:=.agg (upto (wc ev x) 3 0)) (od_lds rfl (rw_b hB6 rfl)) ⟨by rw[hlook];rfl,kZ⟩
 | none =>
  rw[hla]at hv hlook
  have hv:v=.tup [.agg [.i .i64 0,.i .i64 0,.i .u64 0],.b false]:=hv
  subst hv
  refine go ?_
  refine ew_al fun b7 h4 ob7 k4=>?_
  refine ew_st ob7 fun h5 ob8 m5=>?_
  have k5:Kp h2 h5:=m5.kp k4 fun j hj=>by injection hj with hj;subst hj;exact ob7.lo
  have ob6:=ob6.mo (Mo.of_kp k5 none) (fun e=>by cases e)
  have hB2:=hB2.kp k5 hw2
  have hB5:=hB5.kp k5 hw2
  have hm5:=hm2.kp k5
  have hLo:=hm5.o.ln
  rw[hm.ol]at hLo
  have hCo:=hm5.o.cs
  rw[hm.ol]at hCo
  obtain⟨hLr,hCr⟩:=(hm5.or_ loc hl).ro
  have hLr:Ln (vcell (gt os loc) 0) 3 (gt O loc).length:=hLr
  have hR:Rw h5 (vcell (gt os loc) 0).ba 3 ((vcell (gt os loc) 0).of+(((gt O loc).length:Int)-1).toNat*3) (upto (wc ev (gt (gt O loc) ((gt O loc).length-1))) 3 0):=by
   have e1:(((gt O loc).length:Int)-1).toNat=(gt O loc).length-1:=by omega
   rw[e1]
   exact hCr.row (by omega)
  clear hCr
  refine go ?_
  refine ew_st ob6 fun h6 ob9 m6=>?_
  have hB6:Bx h6 b6 (upto (wc ev (gt (gt O loc) ((gt O loc).length-1))) 3 0):=ob9.bx
  have kZ:=m6.kp (k02.trans k5) fun k hk=>by injection hk with hk;omega
  refine go ?_
  exact ret_c (v:=.agg (upto (wc ev (gt (gt O loc) ((gt O loc).length-1))) 3 0)) (od_lds rfl (rw_b hB6 rfl)) ⟨by rw[hlook];rfl,kZ⟩
def s31 : Sc:=(.seq (.region [Y 1 (.bx 26 (.t 0)) [0],Y 2 (.mv (.c .nm)) []]) (.seq (.region [Y 6 (.mm) [],
 Y 3 (.mv (.t 6)) [6]]) (.seq (.seq (.region [Y 7 (.fa (.t 1) 4) [1],Y 8 (.ld (.t 7)) [7],
 Y 9 (.len (.t 8)) [8],Y 10 (.mv (.c (.i .i64 0))) []])
  (.block 0 (.loop (.seq (.region [Y 11 (.ar .lss (.t 10) (.t 9)) [10,9]])
  (.seq (.cond (.t 11) .skip (.exit 0)) (.seq (.block 1 (.seq (.region [Y 12 (.ia (.t 8) (.t 10) 2) [8,10],
 Y 13 (.lds (.t 12) 2) [12],Y 5 (.al 39 [.i .i64 0,.i .i64 0]) [],⟨none,none,.st (.t 5) (.t 13) 2,[5,13]⟩])
  (.region [Y 14 (.mv (.t 3)) [3],Y 15 (.fa (.t 5) 0) [5],Y 16 (.ld (.t 15)) [15],Y 17 (.fa (.t 5) 1) [5],
 Y 18 (.ld (.t 17)) [17],⟨none,none,.mu (.t 14) (.t 16) (.t 18),[14,16,18]⟩])))
  (.region [Y 19 (.ar .add (.t 10) (.c (.i .i64 1))) [10],Y 10 (.mv (.t 19)) [19]])))))))
  (.seq (.region [Y 20 (.mv (.t 3)) [3],Y 2 (.mv (.t 20)) [20]]) .ret))))
set_option maxRecDepth 100000 in
theorem c31:fnB Tryz.prog 31=some (21,s31,[.t 2]):=by kernel_rfl
def SecM (l:List (Int × Int)) (n:Nat) (ml:List (Int × V)):Prop:=∀i:Int,(mGet i ml=none∧∀j,j<n→(gt l j).1≠i)∨∃k,k<n∧(gt l k).1=i∧mGet i ml=some (.i .i64 (gt l k).2)∧∀j,k<j→j<n→(gt l j).1≠i
theorem SecM.step {l:List (Int × Int)} {n:Nat} {ml:List (Int × V)} (hm:SecM l n ml):SecM l (n+1) (mIns (gt l n).1 (.i .i64 (gt l n).2) ml):=fun i=>by
 rw[mGet_ins]
 by_cases e:i=(gt l n).1
 ·rw[if_pos e]
  exact .inr ⟨n,Nat.lt_succ_self _,e.symm,rfl,fun j h1 h2=>by omega⟩
 ·rw[if_neg e]
  rcases hm i with⟨h1,h2⟩ | ⟨k,h1,h2,h3,h4⟩
  ·exact .inl ⟨h1,fun j hj h=>by
    rcases Nat.lt_succ_iff_lt_or_eq.1 hj with h5 | h5
    ·exact h2 j h5 h
    ·subst h5;exact e h.symm⟩
  ·exact .inr ⟨k,by omega,h2,h3,fun j h5 h6 h=>by
    rcases Nat.lt_succ_iff_lt_or_eq.1 h6 with h7 | h7
    ·exact h4 j h5 h7 h
    ·subst h7;exact e h.symm⟩
theorem SecM.secV {l:List (Int × Int)} {ml:List (Int × V)} (hm:SecM l l.length ml) (hd:∀j k,j<k→k<l.length→(gt l j).1≠(gt l k).1) (i:Int):(mGet i ml=none∧secV i l = -1)∨mGet i ml=some (.i .i64 (secV i l)):=by
 rcases hm i with⟨h1,h2⟩ | ⟨k,h1,h2,h3,-⟩
 ·exact .inl ⟨h1,secV_no h2⟩
 ·exact .inr (by rw[h3,secV_at h1 (fun j hj=>by rw[←h2];exact hd j k hj h1) h2])
set_option maxHeartbeats 0 in
theorem seconds_spec {m:Bool} {h:H} {gl:List V} {g:Gr} (hw:Wf h) (hg:GrAt h gl g) (hn:g.rmw.length≤100000000):FX m Tryz.prog 31 [.agg gl] h fun v h'=>(∃bm ml,v=.m bm∧Mp h' h.next bm .i64 ml∧SecM g.rmw g.rmw.length ml)∧Kp h h':=by
 have hone:=hg.one
 obtain⟨ve,vrf,vco,vrmw,vad,vda,vct,rfl,-,-,-,hrm,-⟩:=hg.is
 refine Fn.env c31 rfl ?_
 unfold s31
 refine Es.seq (Es.region (ew_bx (hz:=hone) fun b h1 ob k1=>?_))
 have hw1:=k1.wf hw
 have hB:=ob.bx
 obtain⟨hL,hC1⟩:=hrm.kp k1 hw
 refine go ?_
 refine ew_mm .i64 fun bm h2 hM2 k2=>?_
 have hB:=hB.kp k2 hw1
 have q1:=k1.le
 refine go ?_
 refine Es.loop (X:=Nat × List (Int × V)) (fun x=>g.rmw.length-x.1) (fun x=>[(3,.m bm),(8,vrmw),(9,.i .i64 (g.rmw.length:Int)),(10,.i .i64 (x.1:Int))]) (fun x h'=>x.1≤g.rmw.length∧Kp h1 h'∧Mp h' h1.next bm .i64 x.2∧SecM g.rmw x.1 x.2) (0,[]) ⟨rfl,rfl,rfl,rfl,trivial⟩ ⟨Nat.zero_le _,k2,hM2,fun i=>.inl ⟨rfl,fun j hj=>absurd hj (Nat.not_lt_zero _)⟩⟩ fun x h3 hx=>?_
 obtain⟨r,ml⟩:=x
 clear hM2 hB k2
 obtain⟨hr,k3,hM,hS⟩:=hx
 simp only at hr hM hS ⊢
 have hw3:=k3.wf hw1
 have hC:=hC1.kp k3 hw1
 refine go ?_
 refine cD (fun hlt=>?_) (fun hge=>?_)
 ·skip
  refine go ?_
  refine ew_al fun b5 h4 ob5 k4=>?_
  refine go ?_
  refine ew_st ob5 fun h5 ob6 m5=>?_
  have k5:Kp h3 h5:=m5.kp k4 fun j hj=>by injection hj with hj;subst hj;exact ob5.lo
  have hB5:=ob6.bx
  have hM:=hM.kp k5
  have hkp:=k3.trans k5
  have hlo:=hM.lo
  clear k4 k5 ob5 ob6 m5
  refine go ?_
  refine ew_mu hM fun h6 hM6 m6=>?_
  refine go ?_
  exact Nx.inv (r+1,_) (by simp only;omega) ⟨rfl,rfl,rfl,rfl,trivial⟩ ⟨by simp only;omega,m6.kp hkp fun j hj=>by injection hj with hj;subst hj;exact hlo,hM6,hS.step⟩
 ·obtain rfl:r=g.rmw.length:=by omega
  refine go ?_
  exact ret_1 ⟨⟨bm,ml,rfl,⟨Nat.le_trans q1 hM.lo,hM.hi,hM.at_⟩,hS⟩,k1.trans k3⟩
end Go.Proofs.YtkcdehffcddciaaGreatDoor.Vm
