/- What both of two relations have. -/
import Derived.Test.YtkcdehffcddciaaGreatDoorQ28
import Derived.Test.YtkcdehffcddciaaGreatDoorQ27
namespace Go.Proofs.YtkcdehffcddciaaGreatDoor.Vm
open Go Go.RowKit
def s157 : Sc:=(.seq (.region [Y 4 (.bx 111 (.t 1)) [1],Y 5 (.bx 4 (.t 2)) [2],Y 6 (.mv (.c .np)) []])
  (.seq (.region [Y 11 (.mv (.t 0)) [0],Y 12 (.ld (.t 4)) [4],Y 13 (.nc (.t 12)) [12],
 Y 14 (.fa (.t 13) 0) [13],Y 15 (.ld (.t 14)) [14],Y 16 (.call 225 [.t 11,.t 15]) [11,15],
 Y 7 (.al 111 [.np]) [],⟨none,none,.st (.t 7) (.t 16) 1,[7,16]⟩]) (.seq (.seq (.region [Y 17 (.ld (.t 7)) [7],
 Y 18 (.nc (.t 17)) [17],Y 19 (.fa (.t 18) 1) [18],Y 20 (.ld (.t 19)) [19],Y 21 (.len (.t 20)) [20],
 Y 22 (.mv (.c (.i .i64 0))) []]) (.block 0 (.loop (.seq (.region [Y 23 (.ar .lss (.t 22) (.t 21)) [22,21]])
  (.seq (.cond (.t 23) .skip (.exit 0)) (.seq (.block 1 (.seq (.region [Y 24 (.mv (.t 22)) [22],
 Y 25 (.ia (.t 20) (.t 22) 1) [20,22],Y 26 (.ld (.t 25)) [25],Y 8 (.al 3 [.i .i64 0]) [],⟨none,none,.st (.t 8)
  (.t 24) 1,[8,24]⟩,Y 9 (.mv (.t 26)) [26]]) (.seq (.region [Y 27 (.mv (.t 9)) [9],
 Y 28 (.call 184 [.t 27]) [27],Y 29 (.call 227 [.t 28]) [28],Y 30 (.call 226 [.t 29]) [29]])
  (.block 2 (.range (.t 30) [31] (.region [Y 10 (.mv (.t 31)) [31]])
  (.block 3 (.seq (.mix [(Y 32 (.ld (.t 4)) [4],.q [none]),(Y 33 (.ld (.t 8)) [8],.q [none]),
 (Y 34 (.mv (.t 10)) [10],.q [none]),(Y 35 (.call 158 [.t 32,.t 33,.t 34]) [32,33,34],.e),
 (Y 36 (.ld (.t 5)) [5],.q [none,some 3]),(Y 37 (.eq .bool true (.t 35) (.t 36)) [35,36],.q [some 3])])
  (.cond (.t 37) (.region [Y 38 (.ld (.t 7)) [7],Y 39 (.ld (.t 8)) [8],Y 40 (.mv (.t 10)) [10],
 Y 41 (.call 109 [.t 38,.t 39,.t 40,.c (.b false)]) [38,39,40]]) .skip))))))))
  (.region [Y 42 (.ar .add (.t 22) (.c (.i .i64 1))) [22],Y 22 (.mv (.t 42)) [42]])))))))
  (.seq (.region [Y 43 (.ld (.t 7)) [7],Y 6 (.mv (.t 43)) [43]]) .ret))))
set_option maxRecDepth 100000 in
theorem c157:fnB Tryz.prog 157=some (44,s157,[.t 6]):=by kernel_rfl
def s89 : Sc:=(.seq (.region [Y 4 (.mv (.c .np)) []]) (.seq (.region [Y 5 (.mv (.t 0)) [0],Y 6 (.mv (.t 1)) [1],
 Y 7 (.call 157 [.t 5,.t 6,.c (.b true)]) [5,6],Y 4 (.mv (.t 7)) [7]]) .ret))
set_option maxRecDepth 100000 in
theorem c89:fnB Tryz.prog 89=some (8,s89,[.t 4]):=by kernel_rfl
theorem pts_iv {x nw:Nat}:(ptsF x nw 0).map ci=((ptsF x nw 0).map Int.ofNat).map iv:=by
 rw[List.map_map]
 rfl
set_option maxHeartbeats 0 in
theorem keep_spec {m:Bool} {h:H} {v w:V} {n:Nat} {R RB:List Nat} {hs:Bool} (hw:Wf h) (hT:TabP h) (hR:RelAt h v n R) (hQ:RelAt h w n RB):FX m Tryz.prog 157 [v,w,.b hs] h fun r h'=>RelS h' r n (fun a c=>bt R a c=true∧bt RB a c=hs)∧Kp h h':=by
 obtain⟨bQ,vrQ,vsQ,eQ,hBQ,hrQ,hvlQ,hrowsQ⟩:=hQ.is
 subst eQ
 have oA:=hR.one
 have hsz:=hR.sz
 refine Fn.env c157 rfl ?_
 unfold s157
 refine go ?_
 refine ew_bx fun b4 hy ob4 ky=>?_
 refine go ?_
 refine ew_bx fun b5 hz ob5 kz'=>?_
 have kz:=ky.trans kz'
 have hwz:=kz.wf hw
 have hB4z:=ob4.bx.kp kz' (ky.wf hw)
 have hB5z:=ob5.bx
 have hBQz:=hBQ.kp kz hw
 refine go ?_
 refine stC (wide_spec (w:=n) hwz (hR.kp kz hw) (by omega)) (fun r h1 ⟨b,vr,vs,R0,e,hN,k1,hb0⟩=>?_)
 subst e
 obtain⟨hi,hhi⟩:∃hi,hi=h1.next:=⟨_,rfl⟩
 rw[←hhi]at hN
 refine ew_al fun b3 h2 ob3 k2=>?_
 refine go ?_
 refine ew_st ob3 (vs:=[.p b 0]) (fun h3 ob3' m3=>?_)
 have k3:Kp h1 h3:=m3.kp k2 (fun k e=>by injection e with e;rw[←e];exact ob3.lo)
 have hP:RP hz hi b vr vs n [(b3,[.p b 0])] h3 R0:=⟨hN.kp k3,k1.trans k3,by rw[hhi];exact k3.le,fun q hq=>by
  rw[List.mem_singleton.1 hq]
  exact⟨ob3'.bx,by rw[hhi];exact ob3.lo,ob3'.hi⟩⟩
 have hB3:=ob3'.bx
 have hBr:=hP.rl.ob.bx
 have hLr:=hP.rl.ar.ln
 rw[hP.rl.vl]at hLr
 clear hB4z hB5z hBQz
 refine go ?_
 refine Es.loop (X:=Nat × List Nat) (fun x=>n-x.1) (fun x=>[(4,.p b4 0),(5,.p b5 0),(7,.p b3 0),(20,vr),(21,.i .i64 (n:Int)),(22,.i .i64 (x.1:Int))]) (fun x h'=>x.1≤n∧RP hz hi b vr vs n [(b3,[.p b 0])] h' x.2∧∀a c,a<n→c<n→(bt x.2 a c=true↔bt R a c=true∧(a<x.1→bt RB a c=hs))) (0,R0) ⟨rfl,rfl,rfl,rfl,rfl,rfl,trivial⟩ ⟨Nat.zero_le _,hP,fun a c ha _=>(hb0 a c ha).trans ⟨fun h=>⟨h,fun h=>absurd h (Nat.not_lt_zero _)⟩,fun h=>h.1⟩⟩ fun x h4 hx=>?_
 clear hP m3 ob3' ob3 hN k2 k3 k1 hhi hb0 hBr hLr hB3
 obtain⟨i,R1⟩:=x
 obtain⟨hin,hP,hbt⟩:=hx
 simp only at hin hP hbt
 have kp4:=kz.trans hP.kp
 have hw4:=kp4.wf hw
 have hlo:=hP.lt
 have hLr:=hP.rl.ar.ln
 rw[hP.rl.vl]at hLr
 refine go ?_
 refine cD (fun hlt=>?_) (fun hge=>?_)
 ·have hlt:i<n:=by omega
  have hc1:Ce h4 vr.ba (vr.of+i*1) (gt vs i):=hP.rl.ar.cs.eq i 0 (by rw[hP.rl.vl];exact hlt) Nat.zero_lt_one
  refine go ?_
  refine ew_al fun b8 h5 ob8 k5=>?_
  refine go ?_
  refine ew_st ob8 (vs:=[.i .i64 (i:Int)]) (fun h6 ob8' m6=>?_)
  have k6:Kp h4 h6:=m6.kp k5 (fun k e=>by injection e with e;rw[←e];exact ob8.lo)
  have hP6:=(hP.step k6).add ob8'.bx (Nat.le_trans hP.le ob8.lo) ob8'.hi
  have hw6:=k6.wf hw4
  refine go ?_
  refine stC (points_spec hw6 (hP6.rl.rows i hlt).ro) (fun r h7 ⟨bx,e,obx,k7⟩=>?_)
  subst e
  have hP7:=hP6.step k7
  have hw7:=k7.wf hw6
  have hT7:=hT.kp (kz.trans hP7.kp)
  have hit:=points_it (m:=m) (bx:=bx) (v:=gt vs i) (x:=gt R1 i) (nW_le hsz)
  rw[pts_iv]at hit
  refine go ?_
  refine stC (collect_spec hw7 hit (fun h' k=>⟨obx.bx.kp k hw7,((hP7.rl.kp k).rows i hlt).ro,hT7.kp k⟩) (by rw[List.length_map];exact Nat.le_trans ptsF_len (by unfold nW;omega))) (fun qv h8 ⟨hG8,k8⟩=>?_)
  have hw8:=k8.wf hw7
  have hP8:=hP7.step k8
  have o8:=hG8.ln.one
  refine go ?_
  refine stC (values_spec hw8 o8) (fun r h9 ⟨bw,e,obw,k9⟩=>?_)
  subst e
  have hP9:=(hP8.step k9).add obw.bx (Nat.le_trans hP8.le obw.lo) obw.hi
  have hG9:=hG8.mo (Mo.of_kp k9 none) (fun _ _ e=>by cases e)
  have hib:=hP7.le
  clear hP8 hP7 hP6 hP hc1 ob8 ob8' m6 k5 k6 obx hit hT7 hG8
  have hpm:∀p,p∈((ptsF (gt R1 i) (nW n) 0).map Int.ofNat).map iv↔∃q,p=ci q∧q<n∧bt R1 i q=true:=fun p=>by
   rw[←pts_iv]
   exact pts_mem hP9.rl.at_ hlt
  refine go ?_
  refine Es.rangeI (fun d h'=>∃R2,RP hz hi b vr vs n [(bw,[qv]),(b8,[.i .i64 (i:Int)]),(b3,[.p b 0])] h' R2∧Gw h' h7.next qv 1 3 icell ((ptsF (gt R1 i) (nW n) 0).map Int.ofNat)∧∀a c,a<n→c<n→(bt R2 a c=true↔bt R1 a c=true∧((a=i∧ci c∈d)→bt RB a c=hs))) rfl (values_it (v:=qv) (qs:=(ptsF (gt R1 i) (nW n) 0).map Int.ofNat) (by rw[List.length_map];exact Nat.lt_of_le_of_lt ptsF_len (by unfold nW;omega))) ?_ ?_ ?_ ?_ ?_
  ·rintro d h' ⟨R2,hP,hG,-⟩
   exact⟨(hP.bx (bw,[qv]) (by simp)).1,hG.ro⟩
  ·rintro d h' o hlt' ⟨R2,hP,hG,hb⟩
   refine⟨R2,hP.put (Nat.le_trans hP9.le (Nat.le_refl _)) hlt' (fun q hq=>?_) hlo,hG.mo (mo_put hlt') (fun j hj e=>?_),hb⟩
   ·have:=(hP9.bx q hq).2.2
    omega
   ·injection e with e
    have:=(hG9.blk j hj).2
    omega
  ·intro o
   refine⟨R1,hP9.step kp_set,hG9.mo (Mo.of_kp kp_set none) (fun _ _ e=>by cases e),fun a c ha hc=>⟨fun h=>⟨h,fun h=>absurd h.2 List.not_mem_nil⟩,fun h=>h.1⟩⟩
  ·rintro d p r h10 hl hlt10 ⟨R2,hP,hG,hb⟩
   obtain⟨q,rfl,hq,hbq⟩:=(hpm p).1 (by rw[hl];simp)
   have k10:=kz.trans hP.kp
   have hw10:=k10.wf hw
   have hB3:=(hP.bx (b3,[.p b 0]) (by simp)).1
   have hB8:=(hP.bx (b8,[.i .i64 (i:Int)]) (by simp)).1
   have hB4:=(ob4.bx.kp kz' (ky.wf hw)).kp hP.kp hwz
   have hB5:=ob5.bx.kp hP.kp hwz
   have hm:=fun a=>ci_mem (d:=d) (p:=ci q) rfl a
   unfold ci at hm ⊢
   refine go ?_
   refine mC (rhas_spec (m:=true) (p:=i) (q:=q) (hQ.kp k10 hw)) (fun r h11 ⟨w',e1,e2,hiff⟩=>⟨Lv.nil,?_⟩)
   subst e1 e2
   rw[Int.toNat_natCast,Int.toNat_natCast]at hiff
   have hww:w'=bt RB i q:=by
    cases hx:bt RB i q with
    | true=>exact hiff.2 ⟨by omega,by omega,by omega,by omega,hx⟩
    | false =>
     cases hw':w' with
     | false=>rfl
     | true=>have:=(hiff.1 hw').2.2.2.2;rw[hx]at this;cases this
   subst hww
   refine go ?_
   refine em_f .n ⟨fun _=>od_neB rfl rfl⟩ ?_
   refine go ?_
   refine cB (fun hne=>?_) (fun heq=>?_)
   ·have hne:bt RB i q≠hs:=by simpa using hne
    refine go ?_
    refine stC (put_spec_ (p:=i) (q:=q) (w:=false) hP.rl) (fun r h12 ⟨R',hR12,p12,hb12⟩=>?_)
    have hP12:=hP.pr hR12 p12
    refine go ?_
    refine Nx.cut ⟨⟨R',hP12,p12.gw hG (fun j hj hk=>by have:=(hG.blk j hj).1;omega),fun a c ha hc=>?_⟩,Nat.lt_of_lt_of_le hlt10 p12.le,p12.get _ hlt10 (fun hk=>by have:=hP9.le;omega)⟩
    rw[hb12 a c ha hc]
    by_cases e:(a:Int)=(i:Int)∧(c:Int)=(q:Int)
    ·rw[if_pos e]
     have e1:a=i:=by omega
     have e2:c=q:=by omega
     constructor
     ·intro h;cases h
     ·rintro⟨-,h⟩
      have:=h ⟨e1,(hm c).2 (.inr e2)⟩
      rw[e1,e2]at this
      exact absurd this hne
    ·rw[if_neg e,hb a c ha hc]
     unfold ci
     constructor
     ·rintro⟨h1,h2⟩
      refine⟨h1,fun ⟨h3,h4⟩=>?_⟩
      rcases (hm c).1 h4 with h4 | h4
      ·exact h2 ⟨h3,h4⟩
      ·exact absurd ⟨by omega,by omega⟩ e
     ·rintro⟨h1,h2⟩
      exact⟨h1,fun ⟨h3,h4⟩=>h2 ⟨h3,(hm c).2 (.inl h4)⟩⟩
   ·have heq:bt RB i q=hs:=by simpa using heq
    refine go ?_
    refine Nx.cut ⟨⟨R2,hP,hG,fun a c ha hc=>?_⟩,hlt10,rfl⟩
    rw[hb a c ha hc]
    unfold ci
    constructor
    ·rintro⟨h1,h2⟩
     refine⟨h1,fun ⟨h3,h4⟩=>?_⟩
     rcases (hm c).1 h4 with h4 | h4
     ·exact h2 ⟨h3,h4⟩
     ·rw[h3,h4];exact heq
    ·rintro⟨h1,h2⟩
     exact⟨h1,fun ⟨h3,h4⟩=>h2 ⟨h3,(hm c).2 (.inl h4)⟩⟩
  ·rintro h10 hlt10 ⟨R2,hP,hG,hb⟩
   have hP10:=hP.put (o:=none) (Nat.le_trans hP9.le (Nat.le_refl _)) hlt10 (fun q hq=>by have:=(hP9.bx q hq).2.2;omega) hlo
   refine go ?_
   refine Nx.inv (i+1,R2) (by simp only;omega) ⟨rfl,rfl,rfl,rfl,rfl,rfl,trivial⟩ ⟨by simp only;omega,hP10.drop.drop,fun a c ha hc=>?_⟩
   simp only
   rw[hb a c ha hc,hpm,hbt a c ha hc]
   constructor
   ·rintro⟨⟨h1,h2⟩,h3⟩
    refine⟨h1,fun h4=>?_⟩
    by_cases e:a=i
    ·subst e
     exact h3 ⟨rfl,c,rfl,hc,(hbt a c ha hc).2 ⟨h1,h2⟩⟩
    ·exact h2 (by omega)
   ·rintro⟨h1,h2⟩
    exact⟨⟨h1,fun h=>h2 (by omega)⟩,fun h=>h2 (by omega)⟩
 ·have hB3:=(hP.bx (b3,[.p b 0]) (by simp)).1
  refine go ?_
  refine ret_1 ⟨⟨R1,hP.rl.at_,fun a c ha hc=>(hbt a c ha hc).trans ⟨fun h=>⟨h.1,h.2 (by omega)⟩,fun h=>⟨h.1,fun _=>h.2⟩⟩⟩,kp4⟩
set_option maxHeartbeats 0 in
theorem inter_spec {m:Bool} {h:H} {v w:V} {n:Nat} {R RB:List Nat} (hw:Wf h) (hT:TabP h) (hR:RelAt h v n R) (hQ:RelAt h w n RB):FX m Tryz.prog 89 [v,w] h fun r h'=>RelS h' r n (fun a c=>bt R a c=true∧bt RB a c=true)∧Kp h h':=by
 refine Fn.env c89 rfl ?_
 unfold s89
 refine go ?_
 refine stC (keep_spec (hs:=true) hw hT hR hQ) (fun r h1 ⟨hS,k⟩=>?_)
 refine go ?_
 exact ret_1 ⟨hS,k⟩
def s223 : Sc:=(.seq (.region [Y 2 (.mv (.c .np)) []]) (.seq (.region [Y 6 (.mv (.t 0)) [0],Y 7 (.call 272 [.t 6]) [6],
 Y 3 (.mv (.t 7)) [7]]) (.seq (.seq (.region [Y 8 (.mv (.t 3)) [3],Y 9 (.nc (.t 8)) [8],
 Y 10 (.fa (.t 9) 0) [9],Y 11 (.ld (.t 10)) [10],Y 12 (.mv (.c (.i .i64 0))) []])
  (.block 0 (.loop (.seq (.region [Y 13 (.ar .lss (.t 12) (.t 11)) [12,11]])
  (.seq (.cond (.t 13) .skip (.exit 0)) (.seq (.block 1 (.seq (.region [Y 14 (.mv (.t 12)) [12],
 Y 4 (.mv (.t 14)) [14]]) (.seq (.region [Y 15 (.mv (.t 3)) [3],Y 16 (.nc (.t 15)) [15],
 Y 17 (.fa (.t 16) 0) [16],Y 18 (.ld (.t 17)) [17],Y 19 (.mv (.c (.i .i64 0))) []])
  (.block 2 (.loop (.seq (.region [Y 20 (.ar .lss (.t 19) (.t 18)) [19,18]])
  (.seq (.cond (.t 20) .skip (.exit 2)) (.seq (.block 3 (.seq (.region [Y 21 (.mv (.t 19)) [19],
 Y 5 (.mv (.t 21)) [21]]) (.seq (.region [Y 22 (.mv (.t 3)) [3],Y 23 (.nc (.t 22)) [22],
 Y 24 (.fa (.t 23) 1) [23],Y 25 (.ld (.t 24)) [24],Y 26 (.mv (.t 5)) [5],Y 27 (.ia (.t 25) (.t 26) 1) [25,26],
 Y 28 (.ld (.t 27)) [27],Y 29 (.mv (.t 4)) [4],Y 30 (.call 183 [.t 28,.t 29]) [28,29]]) (.cond (.t 30)
  (.mix [(Y 31 (.mv (.t 3)) [3],.q [none,some 14]),(Y 32 (.nc (.t 31)) [31],.q [none,some 14]),
 (Y 33 (.fa (.t 32) 1) [32],.q [none,some 14]),(Y 34 (.ld (.t 33)) [33],.q [none,some 14]),
 (Y 35 (.mv (.t 5)) [5],.q [none,some 14]),(Y 36 (.ia (.t 34) (.t 35) 1) [34,35],.q [none,some 14]),
 (Y 37 (.ld (.t 36)) [36],.q [none,some 14]),(Y 38 (.mv (.t 3)) [3],.q [none]),
 (Y 39 (.nc (.t 38)) [38],.q [none]),(Y 40 (.fa (.t 39) 1) [39],.q [none]),
 (Y 41 (.ld (.t 40)) [40],.q [none]),(Y 42 (.mv (.t 4)) [4],.q [none]),(Y 43 (.ia (.t 41)
  (.t 42) 1) [41,42],.q [none]),(Y 44 (.ld (.t 43)) [43],.q [none]),
 (Y 45 (.bs 296 1 1 [.ns] [(0,1,.t 44)]) [44],.e),(Y 46 (.call 185 [.t 37,.t 45]) [37,45],.e)]) .skip))))
  (.region [Y 47 (.ar .add (.t 19) (.c (.i .i64 1))) [19],Y 19 (.mv (.t 47)) [47]])))))))))
  (.region [Y 48 (.ar .add (.t 12) (.c (.i .i64 1))) [12],Y 12 (.mv (.t 48)) [48]])))))))
  (.seq (.region [Y 49 (.mv (.t 3)) [3],Y 2 (.mv (.t 49)) [49]]) .ret))))
set_option maxRecDepth 100000 in
theorem c223:fnB Tryz.prog 223=some (50,s223,[.t 2]):=by kernel_rfl
def s156 : Sc:=(.seq (.region [Y 2 (.mv (.c .ns)) []]) (.seq (.region [Y 5 (.mv (.t 0)) [0],Y 6 (.call 223 [.t 5]) [5],
 Y 3 (.mv (.t 6)) [6]]) (.seq (.seq (.region [Y 7 (.mv (.t 0)) [0],Y 8 (.nc (.t 7)) [7],
 Y 9 (.fa (.t 8) 0) [8],Y 10 (.ld (.t 9)) [9],Y 11 (.mv (.c (.i .i64 0))) []])
  (.block 0 (.loop (.seq (.region [Y 12 (.ar .lss (.t 11) (.t 10)) [11,10]])
  (.seq (.cond (.t 12) .skip (.exit 0)) (.seq (.block 1 (.seq (.region [Y 13 (.mv (.t 11)) [11],
 Y 4 (.mv (.t 13)) [13]]) (.seq (.region [Y 14 (.mv (.t 3)) [3],Y 15 (.nc (.t 14)) [14],
 Y 16 (.fa (.t 15) 1) [15],Y 17 (.ld (.t 16)) [16],Y 18 (.mv (.t 4)) [4],Y 19 (.ia (.t 17) (.t 18) 1) [17,18],
 Y 20 (.ld (.t 19)) [19],Y 21 (.mv (.t 4)) [4],Y 22 (.call 183 [.t 20,.t 21]) [20,21]]) (.cond (.t 22)
  (.seq (.region [Y 23 (.mv (.t 0)) [0],Y 24 (.mv (.t 4)) [4],Y 25 (.call 224 [.t 23,.t 24]) [23,24],
 Y 2 (.mv (.t 25)) [25]]) .ret) .skip)))) (.region [Y 26 (.ar .add (.t 11) (.c (.i .i64 1))) [11],
 Y 11 (.mv (.t 26)) [26]]))))))) (.seq (.region [Y 2 (.mv (.c .ns)) []]) .ret))))
set_option maxRecDepth 100000 in
theorem c156:fnB Tryz.prog 156=some (27,s156,[.t 2]):=by kernel_rfl
def Rise (n:Nat) (R:List Nat) (rk:Nat→Nat):Prop:=∀a c,a<n→c<n→bt R a c=true→rk a<rk c
set_option maxHeartbeats 0 in
theorem plus_rise {m:Bool} {h:H} {v:V} {n:Nat} {R:List Nat} {rk:Nat→Nat} (hw:Wf h) (hR:RelAt h v n R) (hk:Rise n R rk):FX m Tryz.prog 223 [v] h fun r h'=>∃R',RelAt h' r n R'∧Rise n R' rk∧Kp h h':=by
 have hsz:=hR.sz
 refine Fn.env c223 rfl ?_
 unfold s223
 refine go ?_
 refine stC (copy_spec_ hw hR) (fun r h1 ⟨b,vr,vs,R0,e,hN,k1,hb0⟩=>?_)
 subst e
 obtain⟨hi,hhi⟩:∃hi,hi=h1.next:=⟨_,rfl⟩
 rw[←hhi]at hN
 have hB1:=hN.ob.bx
 have hk0:Rise n R0 rk:=fun a c ha hc h=>hk a c ha hc ((hb0 a c ha).1 h)
 refine go ?_
 refine Es.loop (X:=Nat × List Nat) (fun x=>n-x.1) (fun x=>[(3,.p b 0),(11,.i .i64 (n:Int)),(12,.i .i64 (x.1:Int))]) (fun x h'=>x.1≤n∧Rl h' h.next hi b vr vs n x.2∧Kp h h'∧hi≤h'.next∧Rise n x.2 rk) (0,R0) ⟨rfl,rfl,rfl,trivial⟩ ⟨Nat.zero_le _,hN,k1,Nat.le_of_eq hhi,hk0⟩ fun x h2 hx=>?_
 clear hB1 hN hk0 k1 hhi hb0
 obtain⟨k,R1⟩:=x
 obtain⟨hkn,hRl,k2,hle,hk1⟩:=hx
 simp only at hkn hRl hk1
 have hB2:=hRl.ob.bx
 refine go ?_
 refine cD (fun hlt=>?_) (fun hge=>?_)
 ·have hlt:k<n:=by omega
  refine go ?_
  refine Es.loop (X:=Nat × List Nat) (fun x=>n-x.1) (fun x=>[(3,.p b 0),(4,.i .i64 (k:Int)),(11,.i .i64 (n:Int)),(12,.i .i64 (k:Int)),(18,.i .i64 (n:Int)),(19,.i .i64 (x.1:Int))]) (fun x h'=>x.1≤n∧Rl h' h.next hi b vr vs n x.2∧Kp h h'∧hi≤h'.next∧Rise n x.2 rk) (0,R1) ⟨rfl,rfl,rfl,rfl,rfl,rfl,trivial⟩ ⟨Nat.zero_le _,hRl,k2,hle,hk1⟩ fun x h3 hx=>?_
  clear hRl k2 hle hk1 hB2
  obtain⟨p,R2⟩:=x
  obtain⟨hpn,hRl,k3,hle,hk2⟩:=hx
  simp only at hpn hRl hk2
  have hB3:=hRl.ob.bx
  have hw3:=k3.wf hw
  have hLr:=hRl.ar.ln
  rw[hRl.vl]at hLr
  refine go ?_
  refine cD (fun hlt2=>?_) (fun hge2=>?_)
  ·have hp:p<n:=by omega
   have hc1:Ce h3 vr.ba (vr.of+p*1) (gt vs p):=hRl.ar.cs.eq p 0 (by rw[hRl.vl];exact hp) Nat.zero_lt_one
   have hc2:Ce h3 vr.ba (vr.of+k*1) (gt vs k):=hRl.ar.cs.eq k 0 (by rw[hRl.vl];exact hlt) Nat.zero_lt_one
   have hrk:=(hRl.rows k hlt).ro
   refine go ?_
   refine stC (has_spec (p:=k) (hRl.rows p hp).ro (nW_lt hlt) (by omega)) (fun r h4 ⟨e1,e2⟩=>?_)
   subst e1 e2
   refine go ?_
   refine cB (fun hy=>?_) (fun hn'=>?_)
   ·have hbp:bt R2 p k=true:=hy
    have hne:p≠k:=fun e=>by
     have:=hk2 p k hp hlt hbp
     rw[e]at this
     exact Nat.lt_irrefl _ this
    refine gol ?_
    refine em_one hrk.ln.one (fun h9 k9=>?_) (fun vl h9 hA9 k9=>?_)
    ·repeat first | exact Lv.nil | refine Lv.cons (fun _=>FCe.of (Ce.kp k9 hw3 (by first | assumption | exact ce_b (by assumption) rfl))) ?_
    have hRl9:=hRl.kp k9
    have hblk:(gt vs p).ba<h4.next:=(hRl.rows p hp).blk.2.2
    have hdis:(gt vs k).ba≠(gt vs p).ba:=hRl.dis k p hlt hp (fun e=>hne e.symm)
    have hne2:vl.ba≠(gt vs p).ba:=fun e=>by have:=hA9.blk.2.1;omega
    have hj:=join_spec (m:=true) (k9.wf hw3) (hRl9.rows p hp) hA9.ro hne2 (hRl9.rows k hlt).ro (nW_le hsz) (.inl hdis)
    refine mC hj (fun r h10 ⟨e4,hA10,m10⟩=>⟨?_,?_⟩)
    ·repeat first | exact Lv.nil | refine Lv.cons (fun hk=>absurd hk (by decide)) ?_
    obtain⟨hR10,p10,hb10⟩:=hRl9.or hp hA10 m10 (fun c hc=>hRl.fit k hlt c hc)
    refine go ?_
    refine Nx.inv (p+1,_) (by simp only;omega) ⟨rfl,rfl,rfl,rfl,rfl,rfl,trivial⟩ ⟨by simp only;omega,hR10,p10.kp (k3.trans k9) (fun j hj=>hj.1),by have:=k9.le;have:=p10.le;omega,fun a c ha hc hac=>?_⟩
    rcases (hb10 a c).1 hac with h5 | ⟨rfl,h5⟩
    ·exact hk2 a c ha hc h5
    ·exact Nat.lt_trans (hk2 a k ha hlt hbp) (hk2 k c hlt hc h5)
   ·skip
    refine go ?_
    exact Nx.inv (p+1,R2) (by simp only;omega) ⟨rfl,rfl,rfl,rfl,rfl,rfl,trivial⟩ ⟨by simp only;omega,hRl,k3,hle,hk2⟩
  ·skip
   refine go ?_
   exact Nx.inv (k+1,R2) (by simp only;omega) ⟨rfl,rfl,rfl,trivial⟩ ⟨by simp only;omega,hRl,k3,hle,hk2⟩
 ·skip
  refine go ?_
  exact ret_1 ⟨R1,hRl.at_,hk1,k2⟩
set_option maxHeartbeats 0 in
theorem cycle_rise {m:Bool} {h:H} {v:V} {n:Nat} {R:List Nat} {rk:Nat→Nat} (hw:Wf h) (hR:RelAt h v n R) (hk:Rise n R rk):FX m Tryz.prog 156 [v] h fun r h'=>r=.ns∧Kp h h':=by
 have hsz:=hR.sz
 obtain⟨bA,vrA,vsA,e,hBA,hrA,hvlA,hrowsA⟩:=hR.is
 refine Fn.env c156 rfl ?_
 unfold s156
 refine go ?_
 refine stC (plus_rise hw hR hk) (fun r h1 ⟨R',hR',hk',k1⟩=>?_)
 subst e
 obtain⟨b,vr,vs,e,hB,hr,hvl,hrows⟩:=hR'.is
 subst e
 have hBA1:=hBA.kp k1 hw
 have hLr:=hr.ln
 rw[hvl]at hLr
 refine go ?_
 refine Es.loop (X:=Nat) (fun x=>n-x) (fun x=>[(3,.p b 0),(10,.i .i64 (n:Int)),(11,.i .i64 (x:Int)),(2,.ns)]) (fun x h'=>x≤n∧h'=h1) 0 ⟨rfl,rfl,rfl,rfl,trivial⟩ ⟨Nat.zero_le _,rfl⟩ fun p h2 hx=>?_
 obtain⟨hpn,rfl⟩:=hx
 refine go ?_
 refine cD (fun hlt=>?_) (fun hge=>?_)
 ·have hlt:p<n:=by omega
  have hc1:Ce h2 vr.ba (vr.of+p*1) (gt vs p):=hr.cs.eq p 0 (by rw[hvl];exact hlt) Nat.zero_lt_one
  refine go ?_
  refine stC (has_spec (p:=p) (hrows p hlt) (nW_lt hlt) (by omega)) (fun r h4 ⟨e1,e2⟩=>?_)
  subst e1 e2
  have hno:(gt R' p).testBit p=false:=by
   cases hx:(gt R' p).testBit p with
   | false=>rfl
   | true=>exact absurd (hk' p p hlt hlt hx) (Nat.lt_irrefl _)
  rw[hno]
  refine go ?_
  exact Nx.inv (p+1) (by omega) ⟨rfl,rfl,rfl,rfl,trivial⟩ ⟨by omega,rfl⟩
 ·skip
  refine go ?_
  exact ret_1 ⟨rfl,k1⟩
end Go.Proofs.YtkcdehffcddciaaGreatDoor.Vm
