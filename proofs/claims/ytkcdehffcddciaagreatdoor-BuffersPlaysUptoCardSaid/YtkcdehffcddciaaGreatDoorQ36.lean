/- The reference's machine: a step of a thread. -/
import Derived.Test.YtkcdehffcddciaaGreatDoorQ28
import Derived.Test.YtkcdehffcddciaaGreatDoorQ21
import Derived.Test.YtkcdehffcddciaaGreatDoorQ31
namespace Go.Proofs.YtkcdehffcddciaaGreatDoor.Vm
open Go Go.RowKit
def s49:Sc:=(.seq (.region (
 ⟨none,some 5,.bx 26 (.t 0),[0]⟩ ::
 ⟨none,some 6,.bx 100 (.t 1),[1]⟩ ::
 ⟨none,some 10,.mv (.c .ns),[]⟩ ::
 ⟨none,some 11,.mv (.c (.b false)),[]⟩ :: []))
(.seq (.seq (.region (
 ⟨none,some 15,.mv (.t 4),[4]⟩ ::
 ⟨none,some 16,.len (.t 15),[15]⟩ ::
 ⟨none,some 17,.eq .int false (.t 16) (.c (.i .i64 0)),[16]⟩ :: []))
(.cond (.t 17) (.seq (.region (
 ⟨none,some 18,.mv (.t 4),[4]⟩ ::
 ⟨none,some 10,.mv (.t 18),[18]⟩ ::
 ⟨none,some 11,.mv (.c (.b false)),[]⟩ :: []))
.ret)
 .skip))
(.seq (.region (
 ⟨none,some 19,.mv (.t 4),[4]⟩ ::
 ⟨none,some 20,.ia (.t 19) (.c (.i .i64 0)) 1,[19]⟩ ::
 ⟨none,some 21,.ld (.t 20),[20]⟩ ::
 ⟨none,some 12,.mv (.t 21),[21]⟩ :: []))
(.seq (.region (
 ⟨none,some 22,.fa (.t 5) 1,[5]⟩ ::
 ⟨none,some 23,.ld (.t 22),[22]⟩ ::
 ⟨none,some 24,.mv (.t 12),[12]⟩ ::
 ⟨none,some 25,.ia (.t 23) (.t 24) 5,[23,24]⟩ ::
 ⟨none,some 26,.lds (.t 25) 5,[25]⟩ ::
 ⟨none,some 13,.al 37 [(.i .i64 0),(.i .i64 0),(.i .i64 0),(.i .u64 0),(.i .i64 0)],[]⟩ ::
 ⟨none,none,.st (.t 13) (.t 26) 5,[13,26]⟩ :: []))
(.seq (.region (
 ⟨none,some 27,.lds (.t 5) 8,[5]⟩ ::
 ⟨none,some 28,.mv (.t 12),[12]⟩ ::
 ⟨none,some 29,.call 64 [(.t 27),(.t 28)],[27,28]⟩ ::
 ⟨none,some 14,.mv (.t 29),[29]⟩ :: []))
(.seq (.seq (.region (
 ⟨none,some 30,.mv (.t 14),[14]⟩ ::
 ⟨none,some 31,.ar .geq (.t 30) (.c (.i .i64 0)),[30]⟩ ::
 ⟨none,some 32,.mv (.t 31),[31]⟩ ::
 ⟨some (32,false),some 33,.lds (.t 13) 5,[13,32]⟩ ::
 ⟨some (32,false),some 34,.call 62 [(.t 33)],[33,32]⟩ ::
 ⟨none,some 35,.pk (.t 32) (.c (.b true)) (.t 34),[32,34]⟩ ::
 ⟨none,some 36,.mv (.t 35),[35]⟩ ::
 ⟨some (36,true),some 37,.fa (.t 6) 0,[6,36]⟩ ::
 ⟨some (36,true),some 38,.ld (.t 37),[37,36]⟩ ::
 ⟨some (36,true),some 39,.mv (.t 3),[3,36]⟩ ::
 ⟨some (36,true),some 40,.ia (.t 38) (.t 39) 1,[38,39,36]⟩ ::
 ⟨some (36,true),some 41,.ld (.t 40),[40,36]⟩ ::
 ⟨some (36,true),some 42,.len (.t 41),[41,36]⟩ ::
 ⟨some (36,true),some 43,.ar .gtr (.t 42) (.c (.i .i64 0)),[42,36]⟩ ::
 ⟨none,some 44,.pk (.t 36) (.t 43) (.c (.b false)),[36,43]⟩ :: []))
(.cond (.t 44) (.seq (.region (
 ⟨none,some 45,.mv (.t 4),[4]⟩ ::
 ⟨none,some 10,.mv (.t 45),[45]⟩ ::
 ⟨none,some 11,.mv (.c (.b false)),[]⟩ :: []))
.ret)
 .skip))
(.seq (.seq (.region (
 ⟨none,some 46,.fa (.t 13) 1,[13]⟩ ::
 ⟨none,some 47,.ld (.t 46),[46]⟩ ::
 ⟨none,some 48,.eq .int false (.t 47) (.c (.i .i64 1)),[47]⟩ :: []))
(.cond (.t 48) (.region (
  ⟨none,some 49,.mv (.t 2),[2]⟩ ::
  ⟨none,some 50,.mv (.t 12),[12]⟩ ::
  ⟨none,some 51,.lds (.t 6) 2,[6]⟩ ::
  ⟨none,some 52,.fa (.t 5) 1,[5]⟩ ::
  ⟨none,some 53,.ld (.t 52),[52]⟩ ::
  ⟨none,some 54,.mv (.t 3),[3]⟩ ::
  ⟨none,some 55,.fa (.t 13) 2,[13]⟩ ::
  ⟨none,some 56,.ld (.t 55),[55]⟩ ::
  ⟨none,some 57,.call 103 [(.t 51),(.t 53),(.t 54),(.t 56)],[51,53,54,56]⟩ ::
  ⟨none,some 58,.ia (.t 49) (.t 50) 1,[49,50]⟩ ::
  ⟨none,none,.st (.t 58) (.t 57) 1,[58,57]⟩ :: []))
 .skip))
(.seq (.seq (.region (
 ⟨none,some 59,.mv (.t 14),[14]⟩ ::
 ⟨none,some 60,.ar .geq (.t 59) (.c (.i .i64 0)),[59]⟩ :: []))
(.cond (.t 60) (.seq (.mix (
 (⟨none,some 61,.fa (.t 6) 1,[6]⟩,.q [none,(some 11),(some 12)]) ::
 (⟨none,some 62,.ld (.t 61),[61]⟩,.q [none,(some 11),(some 12)]) ::
 (⟨none,some 63,.fa (.t 13) 2,[13]⟩,.q [none,(some 11),(some 12)]) ::
 (⟨none,some 64,.ld (.t 63),[63]⟩,.q [none,(some 11),(some 12)]) ::
 (⟨none,some 65,.fa (.t 6) 1,[6]⟩,.q [none,(some 11)]) ::
 (⟨none,some 66,.ld (.t 65),[65]⟩,.q [none,(some 11)]) ::
 (⟨none,some 67,.fa (.t 13) 2,[13]⟩,.q [none,(some 11)]) ::
 (⟨none,some 68,.ld (.t 67),[67]⟩,.q [none,(some 11)]) ::
 (⟨none,some 69,.ia (.t 66) (.t 68) 1,[66,68]⟩,.q [none,(some 11)]) ::
 (⟨none,some 70,.ld (.t 69),[69]⟩,.q [none,(some 11)]) ::
 (⟨none,some 71,.mv (.t 14),[14]⟩,.q [none]) ::
 (⟨none,some 72,.bs 3 1 1 [(.i .i64 0)] [(0,1,(.t 71))],[71]⟩,.e) ::
 (⟨none,some 73,.ap 3 1 8 (.t 70) (.t 72),[70,72]⟩,.e) ::
 (⟨none,some 74,.ia (.t 62) (.t 64) 1,[62,64]⟩,.q [(some 12)]) ::
 (⟨none,none,.st (.t 74) (.t 73) 1,[74,73]⟩,.e) :: []))
(.seq (.region (
 ⟨none,some 75,.mv (.t 4),[4]⟩ ::
 ⟨none,some 76,.s2 1 (.t 75) (some (.c (.i .i64 2))) none,[75]⟩ ::
 ⟨none,some 10,.mv (.t 76),[76]⟩ ::
 ⟨none,some 11,.mv (.c (.b true)),[]⟩ :: []))
.ret))
 .skip))
(.seq (.seq (.region (
 ⟨none,some 77,.fa (.t 13) 1,[13]⟩ ::
 ⟨none,some 78,.ld (.t 77),[77]⟩ ::
 ⟨none,some 79,.eq .int false (.t 78) (.c (.i .i64 2)),[78]⟩ :: []))
(.cond (.t 79) (.mix (
  (⟨none,some 80,.fa (.t 6) 0,[6]⟩,.q [none,(some 9),(some 10)]) ::
  (⟨none,some 81,.ld (.t 80),[80]⟩,.q [none,(some 9),(some 10)]) ::
  (⟨none,some 82,.mv (.t 3),[3]⟩,.q [none,(some 9),(some 10)]) ::
  (⟨none,some 83,.fa (.t 6) 0,[6]⟩,.q [none,(some 9)]) ::
  (⟨none,some 84,.ld (.t 83),[83]⟩,.q [none,(some 9)]) ::
  (⟨none,some 85,.mv (.t 3),[3]⟩,.q [none,(some 9)]) ::
  (⟨none,some 86,.ia (.t 84) (.t 85) 1,[84,85]⟩,.q [none,(some 9)]) ::
  (⟨none,some 87,.ld (.t 86),[86]⟩,.q [none,(some 9)]) ::
  (⟨none,some 88,.mv (.t 12),[12]⟩,.q [none]) ::
  (⟨none,some 89,.bs 3 1 1 [(.i .i64 0)] [(0,1,(.t 88))],[88]⟩,.e) ::
  (⟨none,some 90,.ap 3 1 8 (.t 87) (.t 89),[87,89]⟩,.e) ::
  (⟨none,some 91,.ia (.t 81) (.t 82) 1,[81,82]⟩,.q [(some 10)]) ::
  (⟨none,none,.st (.t 91) (.t 90) 1,[91,90]⟩,.e) :: []))
 .skip))
(.seq (.region (
 ⟨none,some 92,.mv (.t 4),[4]⟩ ::
 ⟨none,some 93,.s2 1 (.t 92) (some (.c (.i .i64 1))) none,[92]⟩ ::
 ⟨none,some 10,.mv (.t 93),[93]⟩ ::
 ⟨none,some 11,.mv (.c (.b true)),[]⟩ :: []))
.ret))))))))))
set_option maxRecDepth 100000 in
theorem c49:fnB Tryz.prog 49=some (94,s49,[.t 10,.t 11]):=by kernel_rfl
theorem tlV0 {v:V} {sz n:Nat} (hl:Ln v sz n):tlV v 0=v:=by
 rcases hl.is with⟨rfl,_⟩ | ⟨b,o,cap,kn,rfl,_⟩
 ·rfl
 ·show V.sl b (if kn=true∧cap=0 then o else o+0*sz) (n-0) (cap-0) kn sz=_
  rw[Nat.zero_mul,Nat.add_zero,ite_self,Nat.sub_zero,Nat.sub_zero]
theorem Mac.rosQ {h:H} {n0:Nat} {P:Nat→Prop} {vq vo:V} {tq to_ ty:TypeId} {Q O:List (List Int)} {qs os:List V} (hm:Mac h n0 P vq vo tq to_ 1 ty icell Q O qs os):Ros h vq Q:=⟨qs,hm.q.ro,hm.ql,fun i hi=>(hm.qr i hi).ro⟩
theorem Mac.rosO {h:H} {n0:Nat} {P:Nat→Prop} {vq vo:V} {tq to_ ty:TypeId} {Q O:List (List Int)} {qs os:List V} (hm:Mac h n0 P vq vo tq to_ 1 ty icell Q O qs os):Ros h vo O:=⟨os,hm.o.ro,hm.ol,fun i hi=>(hm.or_ i hi).ro⟩
set_option maxHeartbeats 0 in
theorem stepped_spec {m:Bool} {h:H} {n0 nf n:Nat} {P:Nat→Prop} {vq vo vf vl:V} {gl qs os:List V} {T Q O:List (List Int)} {F:List Int} {g:Gr} {b:Bool} {t:Nat} (hw:Wf h) (hm:Mac h n0 P vq vo 27 27 1 3 icell Q O qs os) (hG:GrAt h gl g) (hF:Ar h nf vf 1 3 icell F) (hfP:¬P vf.ba) (hl:Ro h vl 1 icell (gt T t)) (hg:Gp g n T Q O F) (hwf:WF g b) (ht:t<n) (hrm:g.rmw.length≤100000000)
  (hP:∀k,h.next≤k→P k) (hn0:n0≤h.next):FX m Tryz.prog 49 [.agg gl,.agg [vq,vo],vf,.i .i64 (t:Int),vl] h fun v h'=>(∃k,v=.tup [tlV vl k,.b (stepP g.ev g.rmw Q O F t (gt T t)).done]∧(stepP g.ev g.rmw Q O F t (gt T t)).l=(gt T t).drop k∧k≤(gt T t).length)∧(∃qs' os',Mac h' n0 P vq vo 27 27 1 3 icell (stepP g.ev g.rmw Q O F t (gt T t)).Q (stepP g.ev g.rmw Q O F t (gt T t)).O qs' os')∧Ar h' nf vf 1 3 icell (stepP g.ev g.rmw Q O F t (gt T t)).F∧Pr (fun k=>P k∨k=vf.ba) h h':=by
 have o1:=hm.q.ln.one
 have o2:=hm.o.ln.one
 have hone:=hG.one
 have tql:t<Q.length:=by rw[hg.ql];exact ht
 refine Fn.env c49 rfl ?_
 unfold s49
 refine Es.seq (Es.region (ew_bx (hz:=hone) fun b5 h1 ob5 k1=>?_))
 refine ew_bx (hz:=allOne_cons o1 (allOne_cons o2 rfl)) fun b6 h2 ob6 k2=>?_
 have hw1:=k1.wf hw
 have hw2:=k2.wf hw1
 have k02:=k1.trans k2
 obtain⟨hLl,hCl⟩:=hl.kp k02 hw
 have e5:=ob5.lo
 have e6:=ob6.lo
 have e7:=k1.le
 have e8:=k2.le
 have e9:=ob5.hi
 have e10:=ob6.hi
 have hm2:=hm.kp k02
 have hF2:=hF.mo (Mo.of_kp k02 none) (fun h=>by cases h)
 have e11:=hF.blk.2.2
 cases hT:gt T t with
 | nil =>
  rw[hT]at hLl hCl
  refine go ?_
  exact ret_2 ⟨⟨0,by rw[tlV0 hLl,stepP_nil],rfl,Nat.zero_le _⟩,⟨qs,os,hm2⟩,hF2,Pr.of_kp k02⟩
 | cons x r =>
 rw[hT]at hLl hCl
 rw[List.length_cons]at hLl hCl
 have hrow:=hg.row ht hT
 obtain⟨x0,x1,x2,x3⟩:=ev_wf hwf hrow
 have hxc:Ce h2 vl.ba vl.of (.i .i64 x):=hCl.hd0 (Nat.zero_lt_succ _) (by decide)
 have hG2:=hG.kp k02 hw
 obtain⟨ve,vrf,vco,vrmw,vad,vda,vct,rfl,hev,-⟩:=hG2.is
 have hB5:Bx h2 b5 [.i .i64 g.cells,ve,vrf,vco,vrmw,vad,vda,vct]:=ob5.bx.kp k2 hw1
 have hB6:=ob6.bx
 obtain⟨hLe,hCe⟩:=hev
 clear hCl
 refine go ?_
 refine ew_al fun b13 h3 ob13 k3=>?_
 refine ew_st ob13 (fun h4 ob14 m4=>?_)
 have k4:Kp h2 h4:=m4.kp k3 fun j hj=>by injection hj with hj;subst hj;exact ob13.lo
 have hw4:=k4.wf hw2
 have hB5:=hB5.kp k4 hw2
 have hB6:=hB6.kp k4 hw2
 have hBe:Bx h4 b13 (upto (ecell (gt g.ev x.toNat)) 5 0):=ob14.bx
 have hG4:=hG2.kp k4 hw2
 have e13:=ob13.lo
 have e14:=ob14.hi
 have e15:=k4.le
 have k04:=k02.trans k4
 clear ob13 m4 k3 hG2 hLe hCe hxc
 refine go ?_
 refine stC (second_spec (i:=x) hw4 hG4 hrm) (fun v h5 ⟨hv,k5⟩=>?_)
 subst hv
 have hw5:=k5.wf hw4
 have hB5:=hB5.kp k5 hw4
 have hB6:=hB6.kp k5 hw4
 have hBe:=hBe.kp k5 hw4
 have e16:=k5.le
 have k05:=k04.trans k5
 have hm5:=hm.kp k05
 have hG5:=hG4.kp k5 hw4
 have hF5:=hF.mo (Mo.of_kp k05 none) (fun h=>by cases h)
 obtain⟨ve',vrf',vco',vrmw',vad',vda',vct',hgl,hev5,-⟩:=hG5.is
 injection hgl with _ hgl
 injection hgl with hgl _
 subst hgl
 have hLq:=hm5.q.ln
 rw[hm.ql]at hLq
 have hCq:=hm5.q.cs
 rw[hm.ql]at hCq
 have hLr:Ln (vcell (gt qs t) 0) 1 (gt Q t).length:=(hm5.qr t tql).ln
 clear hG4 hG5 k2 k1 k4 hF2 hm2 k02 k04
 refine go ?_
 have hE2:∀(R:Prop),R→R:=fun _ h=>h
 have hQ0:gt Q t = []∨0<(gt Q t).length:=by
  cases gt Q t with
  | nil=>exact .inl rfl
  | cons=>exact .inr (Nat.zero_lt_succ _)
 by_cases hs:0≤secV x g.rmw
 ·rcases hQ0 with hq | hq
  ·have hlq:(gt Q t).length=0:=by rw[hq];rfl
   obtain⟨hx1,hx2,hx3,hx4⟩:=sec_wf hwf hs
   have hk:(gt g.ev x.toNat).kind=1:=hx1.2.2
   have hst:=stepP_pair (Q:=Q) (O:=O) (F:=F) (t:=t) (r:=r) hq hs hk
   obtain⟨r',hr'⟩:=hg.next ht hT hx3
   obtain⟨lc,hlc⟩:∃lc:Nat,(gt g.ev x.toNat).loc=lc:=⟨(gt g.ev x.toNat).loc.toNat,by omega⟩
   have hlO:lc<O.length:=by have:=hg.ol;omega
   have hlk:(gt g.ev x.toNat).loc.toNat=lc:=by omega
   rw[hlk]at hst
   have hLf:=hF5.ln
   have hfl:=hg.fl
   rw[hfl]at hLf
   refine go ?_
   refine stC (looks_spec (loc:=lc) hw5 hm5.rosQ hm5.rosO hev5 tql hlO (hg.o lc hlO).1 (by have:=lenT_le hlO;have:=hg.sz;omega) (by omega) (fun j hj=>by have:=hg.q t ht _ (gt_mem hj);exact⟨this.1,this.2.1⟩)) (fun v h6 ⟨hv,k6⟩=>?_) (ha:=congrArg (fun z:Int=>some [V.agg [vq,vo],ve,.i .i64 (t:Int),.i .i64 z]) hlc)
   subst hv
   have hw6:=k6.wf hw5
   have hB6:=hB6.kp k6 hw5
   have hBe:=hBe.kp k6 hw5
   have hF6:=hF5.mo (Mo.of_kp k6 none) (fun h=>by cases h)
   have e17:=k6.le
   have k06:=k05.trans k6
   refine go ?_
   refine ew_ar (looksV g.ev Q O t lc) hF6 (i:=x.toNat) (by omega) (fun h7 hF7 m7=>?_)
   have hw7:=m7.wf hw6
   have p7:Pr (fun k=>k=vf.ba) h h7:=(Pr.of_kp k06).trans (Pr.of_mo m7 fun k hk=>by injection hk with hk;exact hk.symm)
   have hm7:=(hm.kp k06).mo m7 (fun k hk=>by injection hk with hk;subst hk;exact hfP)
   have hB6:Bx h7 b6 [vq,vo]:=⟨fun k v hk=>⟨(m7.cell (by omega) fun e=>by injection e with e;omega).trans (hB6.eq k v hk).eq⟩⟩
   have hBe:Bx h7 b13 (upto (ecell (gt g.ev x.toNat)) 5 0):=⟨fun k v hk=>⟨(m7.cell (by omega) fun e=>by injection e with e;omega).trans (hBe.eq k v hk).eq⟩⟩
   have e18:=m7.le
   have hLo:=hm7.o.ln
   rw[hm.ol]at hLo
   have hCo:=hm7.o.cs
   rw[hm.ol]at hCo
   have hle4:Ce h7 b13 2 (.i .i64 (lc:Int)):=⟨by rw[←hlc];exact(hBe.eq 2 _ rfl).eq⟩
   have hl2:=lenT_le hlO
   have hsz:=hg.sz
   clear hF6 k6 k5
   refine gol ?_
   refine em_bs (l:=upto (icell (secV x g.rmw)) 1 0) rfl rfl rfl ⟨fun _=>FCe.of (Ce.kp kp_new hw7 (ce_s0 hCo hlO (by decide))),⟨fun _=>FCe.of (Ce.kp kp_new hw7 hle4),⟨fun _=>FCe.of (Ce.kp kp_new hw7 (ce_b hB6 rfl)),⟨fun _=>FCe.of (Ce.kp kp_new hw7 hle4),⟨fun _=>FCe.of (Ce.kp kp_new hw7 (ce_b hB6 rfl)),trivial⟩⟩⟩⟩⟩ ?_
   have k8:Kp h7 (h7.new 3 (upto (icell (secV x g.rmw)) 1 0) false):=kp_new
   have hrw:Rw (h7.new 3 (upto (icell (secV x g.rmw)) 1 0) false) h7.next (1*1) 0 (upto (icell (secV x g.rmw)) 1 0):=rw_new1 rfl
   have hm8:=hm7.kp k8
   have hB8:=hB6.kp k8 hw7
   have hle8:=hle4.kp k8 hw7
   have k8le:=k8.le
   have hbO:∀k,(gt os lc).blk=some k→k<h.next:=fun k hk=>((hm.or_ _ hlO).blk k hk).2
   refine em_gx (n0:=n0) (secV x g.rmw) (hm8.or_ _ hlO) rfl rfl hrw ione (by decide) (by omega) (by omega) (fun h9 m9=>⟨fun (hk:some 12∈[none,some 11])=>absurd hk (by decide),⟨fun (hk:some 12∈[none,some 11])=>absurd hk (by decide),⟨fun (hk:some 12∈[none,some 11])=>absurd hk (by decide),⟨fun _=>FCe.of ⟨(m9.cell (by omega) fun e=>by have:=hbO _ e;omega).trans hle8.eq⟩,⟨fun _=>FCe.of ⟨(m9.cell (by omega) fun e=>by have:=hbO _ e;omega).trans (hB8.eq 1 vo rfl).eq⟩,trivial⟩⟩⟩⟩⟩) fun v' h9 hbk9 hG9 m9=>?_
   refine go ?_
   have o4:=hG9.ln.one
   have hA9:=hm8.o.mo m9 fun e=>((hm.oa _ hlO _ e).2.1 rfl)
   have ol0:=hm.ol
   refine em_arQ v' hA9 (i:=lc) (by omega) (fun h10 hA10 m10=>?_) (hv:=cells_one4 o4) (h1:=by show(v'.one&&true)=true;rw[o4];rfl) (hl:=fun h' _=>⟨fun (hk:some 14∈[none,some 11])=>absurd hk (by decide),⟨fun (hk:some 14∈[none,some 11])=>absurd hk (by decide),⟨fun (hk:some 14∈[none,some 11])=>absurd hk (by decide),⟨fun (hk:some 14∈[none,some 11,some 12])=>absurd hk (by decide),⟨fun (hk:some 14∈[none,some 11,some 12])=>absurd hk (by decide),trivial⟩⟩⟩⟩⟩)
   have hG10:=hG9.mo m10 fun k hk e=>by
    rw[hbk9]at hk
    injection hk with hk
    injection e with e
    have:=hm.o.blk.2.2
    omega
   obtain⟨hm10,p10⟩:=hm7.putO hlO k8 m9 m10 hA10 hG10.gx fun k hk=>.inr (by
    rw[hbk9]at hk
    injection hk with hk
    exact⟨by omega,hP k (by omega)⟩)
   have hF10:=p10.ar hF7 hfP
   refine go ?_
   refine ewN (stS (v:=tlV vl 2) (hd:=by exact od_tl hLl (by rw[hr',List.length_cons];omega) rfl rfl) ?_)
   refine go ?_
   exact ret_2 ⟨⟨2,by rw[hst],by rw[hst];rfl,by rw[hr'];simp⟩,by rw[hst];exact⟨_,_,hm10⟩,by rw[hst];exact hF10,(p7.sub fun k _ h=>.inr h).trans (p10.sub fun k _ h=>.inl h)⟩
  ·have hst:=stepP_wait (Q:=Q) (O:=O) (F:=F) (t:=t) (r:=r) (ev:=g.ev) ⟨.inl hs,fun e=>by rw[e]at hq;exact absurd hq (Nat.lt_irrefl _)⟩
   refine go ?_
   exact ret_2 ⟨⟨0,by rw[tlV0 hLl,hst],by rw[hst];rfl,Nat.zero_le _⟩,by rw[hst];exact⟨qs,os,hm5⟩,by rw[hst];exact hF5,Pr.of_kp k05⟩
 ·rcases x2 with hk | hk | hk
  ·have hst:=stepP_read (Q:=Q) (O:=O) (F:=F) (t:=t) (r:=r) hs hk
   obtain⟨lc,hlc⟩:∃lc:Nat,(gt g.ev x.toNat).loc=lc:=⟨(gt g.ev x.toNat).loc.toNat,by omega⟩
   have hlO:lc<O.length:=by have:=hg.ol;omega
   have hlk:(gt g.ev x.toNat).loc.toNat=lc:=by omega
   rw[hlk]at hst
   have hLf:=hF5.ln
   have hfl:=hg.fl
   rw[hfl]at hLf
   refine go ?_
   refine stC (rfull_spec (x:=gt g.ev x.toNat)) (fun v h5' ⟨hv,k5'⟩=>?_)
   obtain rfl:v=.b false:=hv.trans (B_f fun h=>by omega).symm
   have hw5:=k5'.wf hw5
   have hB6:=hB6.kp k5' (k5.wf hw4)
   have hBe:=hBe.kp k5' (k5.wf hw4)
   have hm5:=hm5.kp k5'
   have hF5:=hF5.mo (Mo.of_kp k5' none) (fun h=>by cases h)
   have k05:=k05.trans k5'
   have hev5:=hev5.kp k5' (k5.wf hw4)
   have hB5:=hB5.kp k5' (k5.wf hw4)
   refine go ?_
   refine stC (looks_spec (loc:=lc) hw5 hm5.rosQ hm5.rosO hev5 tql hlO (hg.o lc hlO).1 (by have:=lenT_le hlO;have:=hg.sz;omega) (by have:=lenT_le tql;have:=hg.sz;omega) (fun j hj=>by have:=hg.q t ht _ (gt_mem hj);exact⟨this.1,this.2.1⟩)) (fun v h6 ⟨hv,k6⟩=>?_) (ha:=congrArg (fun z:Int=>some [V.agg [vq,vo],ve,.i .i64 (t:Int),.i .i64 z]) hlc)
   subst hv
   have hw6:=k6.wf hw5
   have hBe:=hBe.kp k6 hw5
   have hF6:=hF5.mo (Mo.of_kp k6 none) (fun h=>by cases h)
   have e17:=k6.le
   have e17':=k5'.le
   have k06:=k05.trans k6
   refine go ?_
   refine ew_ar (looksV g.ev Q O t lc) hF6 (i:=x.toNat) (by omega) (fun h7 hF7 m7=>?_)
   have p7:Pr (fun k=>k=vf.ba) h h7:=(Pr.of_kp k06).trans (Pr.of_mo m7 fun k hk=>by injection hk with hk;exact hk.symm)
   have hm7:=(hm.kp k06).mo m7 (fun k hk=>by injection hk with hk;subst hk;exact hfP)
   have hBe:Bx h7 b13 (upto (ecell (gt g.ev x.toNat)) 5 0):=⟨fun k v hk=>⟨(m7.cell (by omega) fun e=>by injection e with e;omega).trans (hBe.eq k v hk).eq⟩⟩
   refine go ?_
   refine ewN (stS (v:=tlV vl 1) (hd:=by exact od_tl hLl (by omega) rfl rfl) ?_)
   refine go ?_
   exact ret_2 ⟨⟨1,by rw[hst],by rw[hst];rfl,by simp⟩,by rw[hst];exact⟨_,_,hm7⟩,by rw[hst];exact hF7,p7.sub fun k _ h=>.inr h⟩
  ·have hst:=stepP_write (Q:=Q) (O:=O) (F:=F) (t:=t) (r:=r) hs hk
   refine go ?_
   refine stC (rfull_spec (x:=gt g.ev x.toNat)) (fun v h7 ⟨hv,k7⟩=>?_)
   obtain rfl:v=.b false:=hv.trans (B_f fun h=>by omega).symm
   have hw7:=k7.wf hw5
   have hB6:=hB6.kp k7 hw5
   have hBe:=hBe.kp k7 hw5
   have hm7:=hm5.kp k7
   have hF7:=hF5.mo (Mo.of_kp k7 none) (fun h=>by cases h)
   have k07:=k05.trans k7
   have e18:=k7.le
   have hLq:=hm7.q.ln
   rw[hm.ql]at hLq
   have hCq:=hm7.q.cs
   rw[hm.ql]at hCq
   have hl2:=lenT_le tql
   have hsz:=hg.sz
   have q1:=hm.q.blk.2.2
   have q2:=hm.o.blk.2.2
   refine gol ?_
   refine em_bs (l:=upto (icell x) 1 0) rfl rfl rfl ⟨fun _=>FCe.of (Ce.kp kp_new hw7 (ce_s0 hCq tql (by decide))),⟨fun _=>FCe.of (Ce.kp kp_new hw7 (ce_b hB6 rfl)),⟨fun _=>FCe.of (Ce.kp kp_new hw7 (ce_b hB6 rfl)),trivial⟩⟩⟩ ?_
   have k8:Kp h7 (h7.new 3 (upto (icell x) 1 0) false):=kp_new
   have hrw:Rw (h7.new 3 (upto (icell x) 1 0) false) h7.next (1*1) 0 (upto (icell x) 1 0):=rw_new1 rfl
   have hm8:=hm7.kp k8
   have hB8:=hB6.kp k8 hw7
   have k8le:=k8.le
   have hbO:∀k,(gt qs t).blk=some k→k<h.next:=fun k hk=>((hm.qr _ tql).blk k hk).2
   refine em_gx (n0:=n0) x (hm8.qr _ tql).gx rfl rfl hrw ione (by decide) (by omega) (by omega) (fun h9 m9=>⟨fun (hk:some 10∈[none,some 9])=>absurd hk (by decide),⟨fun (hk:some 10∈[none,some 9])=>absurd hk (by decide),⟨fun _=>FCe.of ⟨(m9.cell (by omega) fun e=>by have:=hbO _ e;omega).trans (hB8.eq 0 vq rfl).eq⟩,trivial⟩⟩⟩) fun v' h9 hbk9 hG9 m9=>?_
   refine go ?_
   have o4:=hG9.ln.one
   have hA9:=hm8.q.mo m9 fun e=>((hm.qa _ tql _ e).1 rfl)
   have ol0:=hm.ql
   refine em_arQ v' hA9 (i:=t) (by omega) (fun h10 hA10 m10=>?_) (hv:=cells_one4 o4) (h1:=by show(v'.one&&true)=true;rw[o4];rfl) (hl:=fun h' _=>⟨fun (hk:some 12∈[none,some 9])=>absurd hk (by decide),⟨fun (hk:some 12∈[none,some 9])=>absurd hk (by decide),⟨fun (hk:some 12∈[none,some 9,some 10])=>absurd hk (by decide),trivial⟩⟩⟩)
   have hG10:=hG9.mo m10 fun k hk e=>by
    rw[hbk9]at hk
    injection hk with hk
    injection e with e
    omega
   obtain⟨hm10,p10⟩:=hm7.putQ tql k8 m9 m10 hA10 hG10 fun k hk=>.inr (by
    rw[hbk9]at hk
    injection hk with hk
    exact⟨by omega,hP k (by omega)⟩)
   have hF10:=p10.ar hF7 hfP
   refine go ?_
   refine ewN (stS (v:=tlV vl 1) (hd:=by exact od_tl hLl (by omega) rfl rfl) ?_)
   refine go ?_
   exact ret_2 ⟨⟨1,by rw[hst],by rw[hst];rfl,by simp⟩,by rw[hst];exact⟨_,_,hm10⟩,by rw[hst];exact hF10,(Pr.of_kp k07).trans (p10.sub fun k _ h=>.inl h)⟩
  ·skip
   refine go ?_
   refine stC (rfull_spec (x:=gt g.ev x.toNat)) (fun v h7 ⟨hv,k7⟩=>?_)
   have hw7:=k7.wf hw5
   have hB6:=hB6.kp k7 hw5
   have hBe:=hBe.kp k7 hw5
   have hm7:=hm5.kp k7
   have hF7:=hF5.mo (Mo.of_kp k7 none) (fun h=>by cases h)
   have k07:=k05.trans k7
   have hLq:=hm7.q.ln
   rw[hm.ql]at hLq
   have hCq:=hm7.q.cs
   rw[hm.ql]at hCq
   by_cases hf:(gt g.ev x.toNat).kind=3∧((gt g.ev x.toNat).mode=5∨(gt g.ev x.toNat).mode=15)
   ·obtain rfl:v=.b true:=hv.trans (B_t hf).symm
    rcases hQ0 with hq | hq
    ·have hlq:(gt Q t).length=0:=by rw[hq];rfl
     have hst:=stepP_fence (Q:=Q) (O:=O) (F:=F) (t:=t) (r:=r) (rmw:=g.rmw) hs hk fun h=>h.2 hq
     refine go ?_
     refine ewN (stS (v:=tlV vl 1) (hd:=by exact od_tl hLl (by omega) rfl rfl) ?_)
     refine go ?_
     exact ret_2 ⟨⟨1,by rw[hst],by rw[hst];rfl,by simp⟩,by rw[hst];exact⟨_,_,hm7⟩,by rw[hst];exact hF7,Pr.of_kp k07⟩
    ·have hst:=stepP_wait (Q:=Q) (O:=O) (F:=F) (t:=t) (r:=r) (rmw:=g.rmw) ⟨.inr hf,fun e=>by rw[e]at hq;exact absurd hq (Nat.lt_irrefl _)⟩
     refine go ?_
     exact ret_2 ⟨⟨0,by rw[tlV0 hLl,hst],by rw[hst];rfl,Nat.zero_le _⟩,by rw[hst];exact⟨qs,os,hm7⟩,by rw[hst];exact hF7,Pr.of_kp k07⟩
   ·obtain rfl:v=.b false:=hv.trans (B_f hf).symm
    have hst:=stepP_fence (Q:=Q) (O:=O) (F:=F) (t:=t) (r:=r) (rmw:=g.rmw) hs hk fun h=>by
     rcases h.1 with h | h
     ·exact hs h
     ·exact hf h
    refine go ?_
    refine ewN (stS (v:=tlV vl 1) (hd:=by exact od_tl hLl (by omega) rfl rfl) ?_)
    refine go ?_
    exact ret_2 ⟨⟨1,by rw[hst],by rw[hst];rfl,by simp⟩,by rw[hst];exact⟨_,_,hm7⟩,by rw[hst];exact hF7,Pr.of_kp k07⟩
def s9:Sc:=(.seq (.region (
 ⟨none,some 1,.bx 26 (.t 0),[0]⟩ ::
 ⟨none,some 2,.al 26 [(.i .i64 0),.ns,.ns,.ns,.ns,.ns,.ns,.ns],[]⟩ :: []))
(.seq (.region (
 ⟨none,some 7,.fa (.t 1) 0,[1]⟩ ::
 ⟨none,some 8,.ld (.t 7),[7]⟩ ::
 ⟨none,some 9,.bd [(.i .i64 0),.ns,.ns,.ns,.ns,.ns,.ns,.ns] [(0,1,(.t 8))],[8]⟩ ::
 ⟨none,some 3,.al 26 [(.i .i64 0),.ns,.ns,.ns,.ns,.ns,.ns,.ns],[]⟩ ::
 ⟨none,none,.st (.t 3) (.t 9) 8,[3,9]⟩ :: []))
(.seq (.region (
 ⟨none,some 10,.fa (.t 3) 1,[3]⟩ ::
 ⟨none,some 11,.ld (.t 10),[10]⟩ ::
 ⟨none,some 12,.fa (.t 1) 1,[1]⟩ ::
 ⟨none,some 13,.ld (.t 12),[12]⟩ ::
 ⟨none,some 14,.ap 37 5 40 (.t 11) (.t 13),[11,13]⟩ ::
 ⟨none,some 15,.fa (.t 3) 1,[3]⟩ ::
 ⟨none,none,.st (.t 15) (.t 14) 1,[15,14]⟩ :: []))
(.seq (.region (
 ⟨none,some 16,.fa (.t 3) 2,[3]⟩ ::
 ⟨none,some 17,.ld (.t 16),[16]⟩ ::
 ⟨none,some 18,.fa (.t 1) 2,[1]⟩ ::
 ⟨none,some 19,.ld (.t 18),[18]⟩ ::
 ⟨none,some 20,.ap 39 2 16 (.t 17) (.t 19),[17,19]⟩ ::
 ⟨none,some 21,.fa (.t 3) 2,[3]⟩ ::
 ⟨none,none,.st (.t 21) (.t 20) 1,[21,20]⟩ :: []))
(.seq (.region (
 ⟨none,some 22,.fa (.t 3) 4,[3]⟩ ::
 ⟨none,some 23,.ld (.t 22),[22]⟩ ::
 ⟨none,some 24,.fa (.t 1) 4,[1]⟩ ::
 ⟨none,some 25,.ld (.t 24),[24]⟩ ::
 ⟨none,some 26,.ap 39 2 16 (.t 23) (.t 25),[23,25]⟩ ::
 ⟨none,some 27,.fa (.t 3) 4,[3]⟩ ::
 ⟨none,none,.st (.t 27) (.t 26) 1,[27,26]⟩ :: []))
(.seq (.region (
 ⟨none,some 28,.fa (.t 3) 5,[3]⟩ ::
 ⟨none,some 29,.ld (.t 28),[28]⟩ ::
 ⟨none,some 30,.fa (.t 1) 5,[1]⟩ ::
 ⟨none,some 31,.ld (.t 30),[30]⟩ ::
 ⟨none,some 32,.ap 39 2 16 (.t 29) (.t 31),[29,31]⟩ ::
 ⟨none,some 33,.fa (.t 3) 5,[3]⟩ ::
 ⟨none,none,.st (.t 33) (.t 32) 1,[33,32]⟩ :: []))
(.seq (.region (
 ⟨none,some 34,.fa (.t 3) 6,[3]⟩ ::
 ⟨none,some 35,.ld (.t 34),[34]⟩ ::
 ⟨none,some 36,.fa (.t 1) 6,[1]⟩ ::
 ⟨none,some 37,.ld (.t 36),[36]⟩ ::
 ⟨none,some 38,.ap 39 2 16 (.t 35) (.t 37),[35,37]⟩ ::
 ⟨none,some 39,.fa (.t 3) 6,[3]⟩ ::
 ⟨none,none,.st (.t 39) (.t 38) 1,[39,38]⟩ :: []))
(.seq (.region (
 ⟨none,some 40,.fa (.t 3) 7,[3]⟩ ::
 ⟨none,some 41,.ld (.t 40),[40]⟩ ::
 ⟨none,some 42,.fa (.t 1) 7,[1]⟩ ::
 ⟨none,some 43,.ld (.t 42),[42]⟩ ::
 ⟨none,some 44,.ap 39 2 16 (.t 41) (.t 43),[41,43]⟩ ::
 ⟨none,some 45,.fa (.t 3) 7,[3]⟩ ::
 ⟨none,none,.st (.t 45) (.t 44) 1,[45,44]⟩ :: []))
(.seq (.seq (.region (
 ⟨none,some 4,.mv (.c (.i .i64 0)),[]⟩ :: []))
(.block 0 (.loop (.seq (.seq (.region (
 ⟨none,some 46,.mv (.t 4),[4]⟩ ::
 ⟨none,some 47,.fa (.t 1) 3,[1]⟩ ::
 ⟨none,some 48,.ld (.t 47),[47]⟩ ::
 ⟨none,some 49,.len (.t 48),[48]⟩ ::
 ⟨none,some 50,.ar .lss (.t 46) (.t 49),[46,49]⟩ :: []))
(.cond (.t 50) .skip
 (.exit 0)))
(.seq (.block 1 (.seq (.region (
 ⟨none,some 5,.mv (.c .ns),[]⟩ :: []))
(.seq (.seq (.region (
 ⟨none,some 6,.mv (.c (.i .i64 0)),[]⟩ :: []))
(.block 2 (.loop (.seq (.seq (.region (
 ⟨none,some 53,.mv (.t 6),[6]⟩ ::
 ⟨none,some 54,.fa (.t 1) 3,[1]⟩ ::
 ⟨none,some 55,.ld (.t 54),[54]⟩ ::
 ⟨none,some 56,.mv (.t 4),[4]⟩ ::
 ⟨none,some 57,.ia (.t 55) (.t 56) 1,[55,56]⟩ ::
 ⟨none,some 58,.ld (.t 57),[57]⟩ ::
 ⟨none,some 59,.len (.t 58),[58]⟩ ::
 ⟨none,some 60,.ar .lss (.t 53) (.t 59),[53,59]⟩ :: []))
(.cond (.t 60) .skip
 (.exit 2)))
(.seq (.block 3 (.region (
 ⟨none,some 63,.mv (.t 5),[5]⟩ ::
 ⟨none,some 64,.fa (.t 1) 3,[1]⟩ ::
 ⟨none,some 65,.ld (.t 64),[64]⟩ ::
 ⟨none,some 66,.mv (.t 4),[4]⟩ ::
 ⟨none,some 67,.ia (.t 65) (.t 66) 1,[65,66]⟩ ::
 ⟨none,some 68,.ld (.t 67),[67]⟩ ::
 ⟨none,some 69,.mv (.t 6),[6]⟩ ::
 ⟨none,some 70,.ia (.t 68) (.t 69) 1,[68,69]⟩ ::
 ⟨none,some 71,.ld (.t 70),[70]⟩ ::
 ⟨none,some 72,.bs 3 1 1 [(.i .i64 0)] [(0,1,(.t 71))],[71]⟩ ::
 ⟨none,some 73,.ap 3 1 8 (.t 63) (.t 72),[63,72]⟩ ::
 ⟨none,some 5,.mv (.t 73),[73]⟩ :: [])))
(.region (
 ⟨none,some 61,.mv (.t 6),[6]⟩ ::
 ⟨none,some 62,.ar .add (.t 61) (.c (.i .i64 1)),[61]⟩ ::
 ⟨none,some 6,.mv (.t 62),[62]⟩ :: [])))))))
(.region (
 ⟨none,some 74,.fa (.t 3) 3,[3]⟩ ::
 ⟨none,some 75,.ld (.t 74),[74]⟩ ::
 ⟨none,some 76,.mv (.t 5),[5]⟩ ::
 ⟨none,some 77,.bs 27 1 1 [.ns] [(0,1,(.t 76))],[76]⟩ ::
 ⟨none,some 78,.ap 27 1 24 (.t 75) (.t 77),[75,77]⟩ ::
 ⟨none,some 79,.fa (.t 3) 3,[3]⟩ ::
 ⟨none,none,.st (.t 79) (.t 78) 1,[79,78]⟩ :: [])))))
(.region (
 ⟨none,some 51,.mv (.t 4),[4]⟩ ::
 ⟨none,some 52,.ar .add (.t 51) (.c (.i .i64 1)),[51]⟩ ::
 ⟨none,some 4,.mv (.t 52),[52]⟩ :: [])))))))
(.seq (.region (
 ⟨none,some 80,.lds (.t 3) 8,[3]⟩ ::
 ⟨none,none,.st (.t 2) (.t 80) 8,[2,80]⟩ :: []))
.ret))))))))))
set_option maxRecDepth 100000 in
theorem c9:fnB Tryz.prog 9=some (81,s9,[.c (.lds (.t 2) 8)]):=by kernel_rfl
theorem gw_pr {α:Type} [Inhabited α] {h h':H} {b n0:Nat} {v:V} {sz:Nat} {ty:TypeId} {c:α→Nat→V} {l:List α} (p:Pr (fun k=>k=b) h h') (hg:Gw h n0 v sz ty c l) (hb:b<n0):Gw h' n0 v sz ty c l:=p.gw hg fun k hk e=>by have:=(hg.blk k hk).1;omega
set_option maxHeartbeats 0 in
theorem copied_spec {m:Bool} {h:H} {gl:List V} {g:Gr} (hw:Wf h) (hg:GrAt h gl g) (ht:∀v∈gl,Th h v) (hs:Sm g):FX m Tryz.prog 9 [.agg gl] h fun v h'=>(∃ve vrf vco vrmw vad vda vct,v=.agg [.i .i64 g.cells,ve,vrf,vco,vrmw,vad,vda,vct]∧GrAt h' [.i .i64 g.cells,ve,vrf,vco,vrmw,vad,vda,vct] g∧(∀w∈[V.i .i64 g.cells,ve,vrf,vco,vrmw,vad,vda,vct],Th h' w)∧Gw h' h.next ve 5 37 ecell g.ev∧Gw h' h.next vrmw 2 39 pcell g.rmw∧Gw h' h.next vad 2 39 pcell g.addr∧Gw h' h.next vda 2 39 pcell g.data∧Gw h' h.next vct 2 39 pcell g.ctrl∧Nil_ [.i .i64 g.cells,ve,vrf,vco,vrmw,vad,vda,vct] g)∧Kp h h':=by
 have hone:=hg.one
 obtain⟨ve,vrf,vco,vrmw,vad,vda,vct,rfl,g1,g2,g3,g4,g5,g6,g7⟩:=hg.is
 have t1:=ht ve (by simp)
 have t2:=ht vrf (by simp)
 have t4:=ht vrmw (by simp)
 have t5:=ht vad (by simp)
 have t6:=ht vda (by simp)
 have t7:=ht vct (by simp)
 refine Fn.env c9 rfl ?_
 unfold s9
 refine Es.seq (Es.region (ew_bx (hz:=hone) fun b1 h1 ob1 k1=>?_))
 refine ew_al fun b2 h2 ob2 k2=>?_
 have hBg:=ob1.bx.kp k2 (k1.wf hw)
 refine go ?_
 refine ew_al fun b3 h3 ob3 k3=>?_
 refine ew_st ob3 (fun h4 ob4 m4=>?_)
 have q1:=ob1.lo
 have q2:=ob1.hi
 have q3:=ob2.lo
 have q4:=ob2.hi
 have q5:=ob3.lo
 have q6:=k1.le
 have q7:=k2.le
 have q8:=ob4.hi
 have k4:Kp h2 h4:=m4.kp k3 fun j hj=>by injection hj with hj;subst hj;exact ob3.lo
 have kk:=(k1.trans k2).trans k4
 have hBg:=hBg.kp k4 (k2.wf (k1.wf hw))
 have hle:h2.next≤h4.next:=k4.le
 have ob:Ob h4 h2.next b3 26 [.i .i64 g.cells,.ns,.ns,.ns,.ns,.ns,.ns,.ns]:=ob4
 have hB3:=ob.bx
 have kk4:=k4
 clear ob3 ob4 k3 m4 k4 ob1
 refine go ?_
 refine ew_apR (g1.kp kk hw) (t1.kp kk hw) (by decide) eone (by have:=hs.ev;omega) fun ue ha G1 uen ka=>?_
 have obA:=ob.mo (Mo.of_kp ka none) (fun e=>by cases e)
 have o1:=G1.ln.one
 refine go ?_
 refine ew_st obA (fun hb obB mb=>?_) (hv:=cells_one4 o1) (h1:=allOne_cons o1 rfl)
 have pb:Pr (fun k=>k=b3) h4 hb:=(Pr.of_kp ka).trans (Pr.of_mo mb fun k hk=>by injection hk with hk;exact hk.symm)
 have G1:Gw hb (b3+1) ue _ _ _ _:=(G1.mo mb fun k hk e=>by injection e with e;have:=(G1.blk k hk).1;have:=ob.hi;omega).low (by have:=ob.hi;omega)
 have kk:=pb.kp kk fun k hk=>by omega
 have hBg:=pb.bx hBg (by omega) (by omega)
 have hle:=Nat.le_trans hle pb.le
 clear ob obA mb ka
 have ob:Ob hb h2.next b3 26 [.i .i64 g.cells,ue,.ns,.ns,.ns,.ns,.ns,.ns]:=obB
 have hB3:=ob.bx
 have p1:=pb
 rename_i h5x
 clear obB hB3
 have hB3:=ob.bx
 obtain⟨h5,rfl⟩:∃h5:H,h5=hb:=⟨_,rfl⟩
 refine go ?_
 refine ew_apR (g2.kp kk hw) (t2.kp kk hw) (by decide) pone (by have:=hs.rf;omega) fun urf ha G2 urfn ka=>?_
 have obA:=ob.mo (Mo.of_kp ka none) (fun e=>by cases e)
 have o1:=G2.ln.one
 refine go ?_
 refine ew_st obA (fun hb obB mb=>?_) (hv:=cells_one4 o1) (h1:=allOne_cons o1 rfl)
 have pb:Pr (fun k=>k=b3) h5 hb:=(Pr.of_kp ka).trans (Pr.of_mo mb fun k hk=>by injection hk with hk;exact hk.symm)
 have G2:Gw hb (b3+1) urf _ _ _ _:=(G2.mo mb fun k hk e=>by injection e with e;have:=(G2.blk k hk).1;have:=ob.hi;omega).low (by have:=ob.hi;omega)
 have kk:=pb.kp kk fun k hk=>by omega
 have hBg:=pb.bx hBg (by omega) (by omega)
 have hle:=Nat.le_trans hle pb.le
 clear ob obA mb ka
 have ob:Ob hb h2.next b3 26 [.i .i64 g.cells,ue,urf,.ns,.ns,.ns,.ns,.ns]:=obB
 have G1:=gw_pr pb G1 (by omega)
 have p1:=p1.trans pb
 clear obB hB3 pb
 have hB3:=ob.bx
 obtain⟨h6,rfl⟩:∃h6:H,h6=hb:=⟨_,rfl⟩
 refine go ?_
 refine ew_apR (g4.kp kk hw) (t4.kp kk hw) (by decide) pone (by have:=hs.rmw;omega) fun urm ha G4 urmn ka=>?_
 have obA:=ob.mo (Mo.of_kp ka none) (fun e=>by cases e)
 have o1:=G4.ln.one
 refine go ?_
 refine ew_st obA (fun hb obB mb=>?_) (hv:=cells_one4 o1) (h1:=allOne_cons o1 rfl)
 have pb:Pr (fun k=>k=b3) h6 hb:=(Pr.of_kp ka).trans (Pr.of_mo mb fun k hk=>by injection hk with hk;exact hk.symm)
 have G4:Gw hb (b3+1) urm _ _ _ _:=(G4.mo mb fun k hk e=>by injection e with e;have:=(G4.blk k hk).1;have:=ob.hi;omega).low (by have:=ob.hi;omega)
 have kk:=pb.kp kk fun k hk=>by omega
 have hBg:=pb.bx hBg (by omega) (by omega)
 have hle:=Nat.le_trans hle pb.le
 clear ob obA mb ka
 have ob:Ob hb h2.next b3 26 [.i .i64 g.cells,ue,urf,.ns,urm,.ns,.ns,.ns]:=obB
 have G1:=gw_pr pb G1 (by omega)
 have G2:=gw_pr pb G2 (by omega)
 have p1:=p1.trans pb
 clear obB hB3 pb
 have hB3:=ob.bx
 obtain⟨h7,rfl⟩:∃h7:H,h7=hb:=⟨_,rfl⟩
 refine go ?_
 refine ew_apR (g5.kp kk hw) (t5.kp kk hw) (by decide) pone (by have:=hs.addr;omega) fun uad ha G5 uadn ka=>?_
 have obA:=ob.mo (Mo.of_kp ka none) (fun e=>by cases e)
 have o1:=G5.ln.one
 refine go ?_
 refine ew_st obA (fun hb obB mb=>?_) (hv:=cells_one4 o1) (h1:=allOne_cons o1 rfl)
 have pb:Pr (fun k=>k=b3) h7 hb:=(Pr.of_kp ka).trans (Pr.of_mo mb fun k hk=>by injection hk with hk;exact hk.symm)
 have G5:Gw hb (b3+1) uad _ _ _ _:=(G5.mo mb fun k hk e=>by injection e with e;have:=(G5.blk k hk).1;have:=ob.hi;omega).low (by have:=ob.hi;omega)
 have kk:=pb.kp kk fun k hk=>by omega
 have hBg:=pb.bx hBg (by omega) (by omega)
 have hle:=Nat.le_trans hle pb.le
 clear ob obA mb ka
 have ob:Ob hb h2.next b3 26 [.i .i64 g.cells,ue,urf,.ns,urm,uad,.ns,.ns]:=obB
 have G1:=gw_pr pb G1 (by omega)
 have G2:=gw_pr pb G2 (by omega)
 have G4:=gw_pr pb G4 (by omega)
 have p1:=p1.trans pb
 clear obB hB3 pb
 have hB3:=ob.bx
 obtain⟨h8,rfl⟩:∃h8:H,h8=hb:=⟨_,rfl⟩
 refine go ?_
 refine ew_apR (g6.kp kk hw) (t6.kp kk hw) (by decide) pone (by have:=hs.data;omega) fun uda ha G6 udan ka=>?_
 have obA:=ob.mo (Mo.of_kp ka none) (fun e=>by cases e)
 have o1:=G6.ln.one
 refine go ?_
 refine ew_st obA (fun hb obB mb=>?_) (hv:=cells_one4 o1) (h1:=allOne_cons o1 rfl)
 have pb:Pr (fun k=>k=b3) h8 hb:=(Pr.of_kp ka).trans (Pr.of_mo mb fun k hk=>by injection hk with hk;exact hk.symm)
 have G6:Gw hb (b3+1) uda _ _ _ _:=(G6.mo mb fun k hk e=>by injection e with e;have:=(G6.blk k hk).1;have:=ob.hi;omega).low (by have:=ob.hi;omega)
 have kk:=pb.kp kk fun k hk=>by omega
 have hBg:=pb.bx hBg (by omega) (by omega)
 have hle:=Nat.le_trans hle pb.le
 clear ob obA mb ka
 have ob:Ob hb h2.next b3 26 [.i .i64 g.cells,ue,urf,.ns,urm,uad,uda,.ns]:=obB
 have G1:=gw_pr pb G1 (by omega)
 have G2:=gw_pr pb G2 (by omega)
 have G4:=gw_pr pb G4 (by omega)
 have G5:=gw_pr pb G5 (by omega)
 have p1:=p1.trans pb
 clear obB hB3 pb
 have hB3:=ob.bx
 obtain⟨h9,rfl⟩:∃h9:H,h9=hb:=⟨_,rfl⟩
 refine go ?_
 refine ew_apR (g7.kp kk hw) (t7.kp kk hw) (by decide) pone (by have:=hs.ctrl;omega) fun uct ha G7 uctn ka=>?_
 have obA:=ob.mo (Mo.of_kp ka none) (fun e=>by cases e)
 have o1:=G7.ln.one
 refine go ?_
 refine ew_st obA (fun hb obB mb=>?_) (hv:=cells_one4 o1) (h1:=allOne_cons o1 rfl)
 have pb:Pr (fun k=>k=b3) h9 hb:=(Pr.of_kp ka).trans (Pr.of_mo mb fun k hk=>by injection hk with hk;exact hk.symm)
 have G7:Gw hb (b3+1) uct _ _ _ _:=(G7.mo mb fun k hk e=>by injection e with e;have:=(G7.blk k hk).1;have:=ob.hi;omega).low (by have:=ob.hi;omega)
 have kk:=pb.kp kk fun k hk=>by omega
 have hBg:=pb.bx hBg (by omega) (by omega)
 have hle:=Nat.le_trans hle pb.le
 clear ob obA mb ka
 have ob:Ob hb h2.next b3 26 [.i .i64 g.cells,ue,urf,.ns,urm,uad,uda,uct]:=obB
 have G1:=gw_pr pb G1 (by omega)
 have G2:=gw_pr pb G2 (by omega)
 have G4:=gw_pr pb G4 (by omega)
 have G5:=gw_pr pb G5 (by omega)
 have G6:=gw_pr pb G6 (by omega)
 have p1:=p1.trans pb
 clear obB hB3 pb
 obtain⟨hL,rfl⟩:∃hL:H,hL=hb:=⟨_,rfl⟩
 have hwL:=kk.wf hw
 have hBL:=hBg
 have b3L:=ob.hi
 obtain⟨vs,hvs,hvl,hrows⟩:=g3.is
 have obc:=ob2.mo (Mo.of_kp kk4 none) (fun e=>by cases e)
 have obc:=p1.ob obc (fun e=>by omega)
 refine go ?_
 refine Es.loop (X:=Nat × V × List V) (fun x=>g.co.length-x.1) (fun x=>[(1,.p b1 0),(2,.p b2 0),(3,.p b3 0),(4,.i .i64 (x.1:Int))]) (fun x h'=>x.1≤g.co.length∧Pr (fun k=>k=b3) hL h'∧Ob h' h2.next b3 26 [.i .i64 g.cells,ue,urf,x.2.1,urm,uad,uda,uct]∧Gw h' hL.next x.2.1 1 27 vcell x.2.2∧x.2.2.length=x.1∧∀j,j<x.1→Gw h' hL.next (gt x.2.2 j) 1 3 icell (gt g.co j)) (0,.ns,[]) ⟨rfl,rfl,rfl,rfl,trivial⟩ ⟨Nat.zero_le _,.refl _ _,ob,.nil,rfl,fun j hj=>absurd hj (Nat.not_lt_zero _)⟩ fun x hx hI=>?_
 obtain⟨i,vc,cs⟩:=x
 clear ob hBg
 obtain⟨hi,pX,ob,hGc,hcl,hGr⟩:=hI
 simp only at hi ob hGc hcl hGr ⊢
 have kX:=pX.kp kk fun k hk=>by omega
 have hwX:=pX.wf hwL
 have hBg:=pX.bx hBL (by omega) (by omega)
 have hB3:=ob.bx
 obtain⟨hLv,hCv⟩:=hvs.kp kX hw
 rw[hvl]at hLv hCv
 refine go ?_
 refine cD (fun hlt=>?_) (fun hge=>?_)
 ·have hR:=(hrows i (by omega)).kp kX hw
  clear hB3
  refine go ?_
  refine Es.loop (X:=Nat × V) (fun y=>(gt g.co i).length-y.1) (fun y=>[(1,.p b1 0),(2,.p b2 0),(3,.p b3 0),(4,.i .i64 (i:Int)),(5,y.2),(6,.i .i64 (y.1:Int))]) (fun y h'=>y.1≤(gt g.co i).length∧Kp hx h'∧Gw h' hx.next y.2 1 3 icell ((gt g.co i).take y.1)) (0,.ns) ⟨rfl,rfl,rfl,rfl,rfl,rfl,trivial⟩ ⟨Nat.zero_le _,.refl _,by rw[List.take_zero];exact .nil⟩ fun y hy hJ=>?_
  obtain⟨j,v5⟩:=y
  obtain⟨hj,kY,hG5⟩:=hJ
  simp only at hj hG5 ⊢
  have hwY:=kY.wf hwX
  have hBgY:=hBg.kp kY hwX
  have obY:=ob.mo (Mo.of_kp kY none) (fun e=>by cases e)
  have hCvY:=hCv.kp kY hwX
  obtain⟨hLr,hCr⟩:=hR.kp kY hwX
  have hLr:Ln (vcell (gt vs i) 0) 1 (gt g.co i).length:=hLr
  have hCr:Cs hy (vcell (gt vs i) 0) 1 (gt g.co i).length fun j k=>icell (gt (gt g.co i) j) k:=hCr
  have hB3:=obY.bx
  clear hCv
  have hrow:=hs.row i (by omega)
  refine go ?_
  refine cD (fun hlt2=>?_) (fun hge2=>?_)
  ·skip
   refine go ?_
   have htk:((gt g.co i).take j).length=j:=by rw[List.length_take];omega
   refine ew_app (x:=gt (gt g.co i) j) hG5 rfl rfl rfl rfl rfl (by decide) (by omega) kY.le fun v' h' hG' m'=>?_
   rw[←take_gt (by omega)]at hG'
   refine go ?_
   exact Nx.inv (j+1,v') (by simp only;omega) ⟨rfl,rfl,rfl,rfl,rfl,rfl,trivial⟩ ⟨by simp only;omega,m'.kp kY fun k hk=>(hG5.blk k hk).1,hG'⟩
  ·obtain rfl:j=(gt g.co i).length:=by omega
   rw[List.take_length]at hG5
   have hGcY:=hGc.mo (Mo.of_kp kY none) (fun _ _ e=>by cases e)
   have o5:=hG5.ln.one
   have hco:=hs.co
   have kYle:=kY.le
   refine go ?_
   refine ew_app (x:=v5) (rows:=cs) hGcY rfl (by simp only[fillL,cells_one4 o5];rfl) rfl (allOne_cons o5 rfl) rfl (by decide) (by omega) (by have:=pX.le;omega) fun v' h' hG' m'=>?_
   have hG5':=hG5.mo m' fun k hk=>hG5.ne hGcY (by decide) k hk
   have hGr':∀j,j<i→Gw h' hL.next (gt cs j) 1 3 icell (gt g.co j):=fun j hj=>by
    have:=(hGr j hj).mo (Mo.of_kp kY none) (fun _ _ e=>by cases e)
    exact this.mo m' fun k hk=>this.ne hGcY (by decide) k hk
   have obZ:=obY.mo m' fun e=>by have:=(hGcY.blk _ e).1;omega
   have hB3:=obZ.bx
   have o6:=hG'.ln.one
   have pZ:=(pX.trans (Pr.of_kp (P:=fun k=>k=b3) kY)).mo_hi m' fun k hk=>.inr (hGcY.blk k hk).1
   clear hG5 hGcY hLr hCr hCvY hBgY
   refine go ?_
   refine ew_st obZ (fun h'' obW mW=>?_) (hv:=cells_one4 o6) (h1:=allOne_cons o6 rfl)
   have obW:Ob h'' h2.next b3 26 [.i .i64 g.cells,ue,urf,v',urm,uad,uda,uct]:=obW
   refine go ?_
   have hne:∀k,hL.next≤k→some b3≠some k:=fun k hk e=>by injection e with e;omega
   exact Nx.inv (i+1,v',cs++[v5]) (by simp only;omega) ⟨rfl,rfl,rfl,rfl,trivial⟩ ⟨by simp only;omega,pZ.trans (Pr.of_mo mW fun k hk=>by injection hk with hk;exact hk.symm),obW,hG'.mo mW fun k hk=>hne k (hG'.blk k hk).1,by rw[List.length_append,hcl];rfl,fun s hsl=>by
    simp only at hsl ⊢
    by_cases e:s=i
    ·subst e
     rw[←hcl,gt_new,hcl]
     exact(hG5'.mo mW fun k hk e=>by injection e with e;have:=(hG5'.blk k hk).1;have:=pX.le;omega).low pX.le
    ·rw[gt_app (by omega)]
     exact(hGr' s (by omega)).mo mW fun k hk=>hne k ((hGr' s (by omega)).blk k hk).1⟩
 ·obtain rfl:i=g.co.length:=by omega
  have G1:=gw_pr pX G1 (by omega)
  have G2:=gw_pr pX G2 (by omega)
  have G4:=gw_pr pX G4 (by omega)
  have G5:=gw_pr pX G5 (by omega)
  have G6:=gw_pr pX G6 (by omega)
  have G7:=gw_pr pX G7 (by omega)
  have obc:=pX.ob obc (fun e=>by omega)
  have oL:allOne [V.i .i64 g.cells,ue,urf,vc,urm,uad,uda,uct]=true:=allOne_cons rfl (allOne_cons G1.ln.one (allOne_cons G2.ln.one (allOne_cons hGc.ln.one (allOne_cons G4.ln.one (allOne_cons G5.ln.one (allOne_cons G6.ln.one (allOne_cons G7.ln.one rfl)))))))
  refine go ?_
  refine ew_st obc (fun h' obd m'=>?_) (h1:=oL)
  have kE:=m'.kp kX fun k hk=>by injection hk with hk;omega
  have hne:∀k,b3+1≤k→some b2≠some k:=fun k hk e=>by injection e with e;omega
  have G1:=G1.mo m' fun k hk=>hne k (G1.blk k hk).1
  have G2:=G2.mo m' fun k hk=>hne k (G2.blk k hk).1
  have G4:=G4.mo m' fun k hk=>hne k (G4.blk k hk).1
  have G5:=G5.mo m' fun k hk=>hne k (G5.blk k hk).1
  have G6:=G6.mo m' fun k hk=>hne k (G6.blk k hk).1
  have G7:=G7.mo m' fun k hk=>hne k (G7.blk k hk).1
  have hGc:=hGc.mo m' fun k hk=>hne k (by have:=(hGc.blk k hk).1;omega)
  have hBd:Bx h' b2 [.i .i64 g.cells,ue,urf,vc,urm,uad,uda,uct]:=obd.bx
  refine go ?_
  refine ret_c (v:=.agg [.i .i64 g.cells,ue,urf,vc,urm,uad,uda,uct]) (od_lds rfl (rw_b hBd rfl)) ⟨⟨ue,urf,vc,urm,uad,uda,uct,rfl,⟨ue,urf,vc,urm,uad,uda,uct,rfl,G1.ro,G2.ro,⟨cs,hGc.ro,hcl,fun s hsl=>((hGr s (by omega)).mo m' fun k hk=>hne k (by have:=((hGr s (by omega)).blk k hk).1;omega)).ro⟩,G4.ro,G5.ro,G6.ro,G7.ro⟩,fun w hwm=>?_,G1.low (by omega),G4.low (by omega),G5.low (by omega),G6.low (by omega),G7.low (by omega),⟨fun _ _ _ _ _ _ _ he=>by
   injection he with _ he
   injection he with e1 he
   injection he with e2 he
   injection he with e3 he
   injection he with e4 he
   injection he with e5 he
   injection he with e6 he
   injection he with e7 he
   subst e1 e2 e3 e4 e5 e6 e7
   exact⟨uen,urmn,uadn,udan,uctn⟩⟩⟩,kE⟩
  simp only[List.mem_cons,List.not_mem_nil,or_false]at hwm
  rcases hwm with rfl | rfl | rfl | rfl | rfl | rfl | rfl | rfl
  ·exact .i
  ·exact G1.th
  ·exact G2.th
  ·exact hGc.th
  ·exact G4.th
  ·exact G5.th
  ·exact G6.th
  ·exact G7.th
def s45:Sc:=(.seq (.region (
 ⟨none,some 1,.bx 26 (.t 0),[0]⟩ ::
 ⟨none,some 2,.mv (.c (.b false)),[]⟩ :: []))
(.seq (.region (
 ⟨none,some 8,.lds (.t 1) 8,[1]⟩ ::
 ⟨none,some 9,.call 101 [(.t 8),(.c (.b false))],[8]⟩ ::
 ⟨none,some 7,.mv (.t 9),[9]⟩ ::
 ⟨none,some 10,.ex (.t 7) 0,[7]⟩ ::
 ⟨none,some 11,.ex (.t 7) 1,[7]⟩ ::
 ⟨none,some 3,.mv (.t 10),[10]⟩ ::
 ⟨none,some 4,.mv (.t 11),[11]⟩ :: []))
(.seq (.region (
 ⟨none,some 13,.lds (.t 1) 8,[1]⟩ ::
 ⟨none,some 14,.call 101 [(.t 13),(.c (.b true))],[13]⟩ ::
 ⟨none,some 12,.mv (.t 14),[14]⟩ ::
 ⟨none,some 15,.ex (.t 12) 0,[12]⟩ ::
 ⟨none,some 16,.ex (.t 12) 1,[12]⟩ ::
 ⟨none,some 5,.mv (.t 15),[15]⟩ ::
 ⟨none,some 6,.mv (.t 16),[16]⟩ :: []))
(.seq (.region (
 ⟨none,some 17,.mv (.t 3),[3]⟩ ::
 ⟨none,some 18,.eq .int false (.t 17) (.c (.i .i64 0)),[17]⟩ ::
 ⟨none,some 19,.mv (.t 18),[18]⟩ ::
 ⟨some (19,false),some 20,.mv (.t 5),[5,19]⟩ ::
 ⟨some (19,false),some 21,.eq .int false (.t 20) (.c (.i .i64 0)),[20,19]⟩ ::
 ⟨none,some 22,.pk (.t 19) (.c (.b true)) (.t 21),[19,21]⟩ ::
 ⟨none,some 2,.mv (.t 22),[22]⟩ :: []))
.ret))))
set_option maxRecDepth 100000 in
theorem c45:fnB Tryz.prog 45=some (23,s45,[.t 2]):=by kernel_rfl
set_option maxHeartbeats 0 in
theorem good_spec {m:Bool} {h:H} {gl:List V} {g:Gr} (hw:Wf h) (hg:GrAt h gl g) (hs:Sm g):FX m Tryz.prog 45 [.agg gl] h fun v h'=>v=B (WF g false∨WF g true)∧Kp h h':=by
 have hone:=hg.one
 obtain⟨ve,vrf,vco,vrmw,vad,vda,vct,rfl,he,-⟩:=hg.is
 refine Fn.env c45 rfl ?_
 unfold s45
 refine Es.seq (Es.region (ew_bx (hz:=hone) fun b h1 ob k1=>?_))
 have hw1:=k1.wf hw
 have hB:=ob.bx
 have hg1:=hg.kp k1 hw
 clear hg he hone
 refine go ?_
 refine stC (check_spec hw1 hg1 hs) fun v h2 hR=>?_
 obtain⟨⟨r1,a1,rfl,hr1⟩,k2⟩:=hR
 have hw2:=k2.wf hw1
 have hB:=hB.kp k2 hw1
 have hg2:=hg1.kp k2 hw1
 have hkp:=k1.trans k2
 refine go ?_
 refine stC (check_spec hw2 hg2 hs) fun v h3 hR=>?_
 obtain⟨⟨r2,a2,rfl,hr2⟩,k3⟩:=hR
 have hkp:=hkp.trans k3
 clear k2 k3
 refine go ?_
 repeat' ((first | refine wgd (fun _=>?_) fun _=>?_ | refine wgn (fun _=>?_) fun _=>?_ | refine wgb (fun _=>?_) fun _=>?_ | refine mgd (fun _=>?_) fun _=>?_ | refine mgn (fun _=>?_) fun _=>?_ | refine mgb (fun _=>?_) fun _=>?_ | refine cD (fun _=>?_) fun _=>?_ | refine cN (fun _=>?_) fun _=>?_ | refine cB (fun _=>?_) fun _=>?_) <;> refine go ?_)
 all_goals exact ret_1 ⟨by first | exact B_t (Or.inl (hr1.1 (by assumption))) | exact B_d ⟨fun hx=>Or.inr (hr2.1 hx),fun hx=>hx.elim (fun hx=>absurd (hr1.2 hx) (by assumption)) hr2.2⟩,hkp⟩
end Go.Proofs.YtkcdehffcddciaaGreatDoor.Vm
