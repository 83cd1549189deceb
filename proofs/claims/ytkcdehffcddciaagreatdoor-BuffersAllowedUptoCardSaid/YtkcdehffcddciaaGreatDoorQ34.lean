/- What joins the threads; torn pairs; which events have a mode. -/
import Derived.Test.YtkcdehffcddciaaGreatDoorQ33
import Derived.Test.YtkcdehffcddciaaGreatDoorQ19
import Derived.Test.YtkcdehffcddciaaGreatDoorQ24
import Derived.Test.YtkcdehffcddciaaGreatDoorQ21
namespace Go.Proofs.YtkcdehffcddciaaGreatDoor.Vm
open Go Go.RowKit
def s88 : Sc:=(.seq (.region [Y 2 (.bx 172 (.t 0)) [0],Y 4 (.mv (.c .ns)) []]) (.seq (.region [Y 5 (.mv (.t 1)) [1],
 Y 6 (.fa (.t 2) 8) [2],Y 7 (.fa (.t 6) 1) [6],Y 8 (.ld (.t 7)) [7],Y 9 (.fa (.t 2) 8) [2],
 Y 10 (.fa (.t 9) 2) [9],Y 11 (.ld (.t 10)) [10],Y 12 (.fa (.t 2) 8) [2],Y 13 (.fa (.t 12) 3) [12],
 Y 14 (.ld (.t 13)) [13],Y 15 (.bs 111 4 1 [.np] [(0,1,.t 5),(1,1,.t 8),(2,1,.t 11),(3,1,.t 14)]) [5,8,11,14],
 Y 16 (.call 116 [.t 15]) [15],Y 17 (.call 156 [.t 16]) [16],Y 4 (.mv (.t 17)) [17]]) .ret))
set_option maxRecDepth 100000 in
theorem c88:fnB Tryz.prog 88=some (18,s88,[.t 4]):=by kernel_rfl
def s87 : Sc:=(.seq (.region [Y 1 (.bx 172 (.t 0)) [0],Y 2 (.mv (.c .ns)) []])
  (.seq (.mix [(Y 3 (.lds (.t 1) 21) [1],.q [none,some 7]),(Y 4 (.fa (.t 1) 8) [1],.q [none]),
 (Y 5 (.fa (.t 4) 0) [4],.q [none]),(Y 6 (.ld (.t 5)) [5],.q [none]),(Y 7 (.fa (.t 1) 8) [1],.q [none]),
 (Y 8 (.fa (.t 7) 5) [7],.q [none]),(Y 9 (.ld (.t 8)) [8],.q [none]),(Y 10 (.call 89 [.t 6,.t 9]) [6,9],.e),
 (Y 11 (.call 88 [.t 3,.t 10]) [3,10],.e),(Y 2 (.mv (.t 11)) [11],.q [some 8])]) .ret))
set_option maxRecDepth 100000 in
theorem c87:fnB Tryz.prog 87=some (12,s87,[.t 2]):=by kernel_rfl
def s91 : Sc:=(.seq (.region [Y 1 (.bx 172 (.t 0)) [0],Y 2 (.mv (.c .ns)) []]) (.seq (.region [Y 6 (.fa (.t 1) 8) [1],
 Y 7 (.fa (.t 6) 3) [6],Y 8 (.ld (.t 7)) [7],Y 9 (.fa (.t 1) 8) [1],Y 10 (.fa (.t 9) 2) [9],
 Y 11 (.ld (.t 10)) [10],Y 12 (.call 110 [.t 8,.t 11]) [8,11],Y 3 (.mv (.t 12)) [12]])
  (.seq (.seq (.region [Y 13 (.fa (.t 1) 0) [1],Y 14 (.fa (.t 13) 4) [13],Y 15 (.ld (.t 14)) [14],
 Y 16 (.len (.t 15)) [15],Y 17 (.mv (.c (.i .i64 0))) []])
  (.block 0 (.loop (.seq (.region [Y 18 (.ar .lss (.t 17) (.t 16)) [17,16]])
  (.seq (.cond (.t 18) .skip (.exit 0)) (.seq (.block 1 (.seq (.region [Y 19 (.ia (.t 15) (.t 17) 2) [15,17],
 Y 20 (.lds (.t 19) 2) [19],Y 5 (.al 39 [.i .i64 0,.i .i64 0]) [],⟨none,none,.st (.t 5) (.t 20) 2,[5,20]⟩])
  (.seq (.region [Y 21 (.mv (.t 3)) [3],Y 22 (.fa (.t 5) 0) [5],Y 23 (.ld (.t 22)) [22],
 Y 24 (.fa (.t 5) 1) [5],Y 25 (.ld (.t 24)) [24],Y 26 (.call 158 [.t 21,.t 23,.t 25]) [21,23,25]])
  (.cond (.t 26) (.seq (.region [Y 27 (.fa (.t 5) 0) [5],Y 28 (.ld (.t 27)) [27],Y 29 (.fa (.t 5) 1) [5],
 Y 30 (.ld (.t 29)) [29],Y 31 (.bs 3 2 1 [.i .i64 0] [(0,1,.t 28),(1,1,.t 30)]) [28,30],
 Y 2 (.mv (.t 31)) [31]]) .ret) .skip)))) (.region [Y 32 (.ar .add (.t 17) (.c (.i .i64 1))) [17],
 Y 17 (.mv (.t 32)) [32]]))))))) (.seq (.region [Y 2 (.mv (.c .ns)) []]) .ret))))
set_option maxRecDepth 100000 in
theorem c91:fnB Tryz.prog 91=some (33,s91,[.t 2]):=by kernel_rfl
def s159 : Sc:=(.seq (.region [Y 2 (.bx 26 (.t 0)) [0],Y 4 (.mv (.c .ns)) []]) (.seq (.region [Y 8 (.fa (.t 2) 1) [2],
 Y 9 (.ld (.t 8)) [8],Y 10 (.len (.t 9)) [9],Y 11 (.ms 4 1 1 [.b false] (.t 10) (.t 10)) [10,10],
 Y 5 (.mv (.t 11)) [11]]) (.seq (.seq (.region [Y 12 (.fa (.t 2) 1) [2],Y 13 (.ld (.t 12)) [12],
 Y 14 (.len (.t 13)) [13],Y 15 (.mv (.c (.i .i64 0))) []])
  (.block 0 (.loop (.seq (.region [Y 16 (.ar .lss (.t 15) (.t 14)) [15,14]])
  (.seq (.cond (.t 16) .skip (.exit 0)) (.seq (.block 1 (.seq (.region [Y 17 (.mv (.t 15)) [15],
 Y 18 (.ia (.t 13) (.t 15) 5) [13,15],Y 19 (.lds (.t 18) 5) [18],
 Y 7 (.al 37 [.i .i64 0,.i .i64 0,.i .i64 0,.i .u64 0,.i .i64 0]) [],Y 6 (.mv (.t 17)) [17],
 ⟨none,none,.st (.t 7) (.t 19) 5,[7,19]⟩]) (.region [Y 20 (.mv (.t 5)) [5],Y 21 (.mv (.t 6)) [6],
 Y 22 (.mv (.t 1)) [1],Y 23 (.fa (.t 7) 4) [7],Y 24 (.ld (.t 23)) [23],Y 25 (.call 152 [.t 22,.t 24]) [22,24],
 Y 26 (.ia (.t 20) (.t 21) 1) [20,21],⟨none,none,.st (.t 26) (.t 25) 1,[26,25]⟩])))
  (.region [Y 27 (.ar .add (.t 15) (.c (.i .i64 1))) [15],Y 15 (.mv (.t 27)) [27]])))))))
  (.seq (.region [Y 28 (.mv (.t 5)) [5],Y 4 (.mv (.t 28)) [28]]) .ret))))
set_option maxRecDepth 100000 in
theorem c159:fnB Tryz.prog 159=some (29,s159,[.t 4]):=by kernel_rfl
theorem row_ar {α:Type} [Inhabited α] {h:H} {ty:TypeId} {c:α→Nat→V} {l:List α} (hc:∀i,i<l.length→gt (l.map fun x=>c x 0) i=c (gt l i) 0):Ar (h.new ty (l.map fun x=>c x 0) false) h.next (.sl h.next 0 l.length l.length true 1) 1 ty c l:=by
 have hlen:(l.map fun x=>c x 0).length=l.length:=List.length_map ..
 refine⟨.sl (Nat.le_refl _),⟨fun i k hi hk=>⟨?_⟩⟩,h.next,false,rfl,Nat.le_refl _,Nat.lt_succ_self _,by rw[new_row,if_pos rfl,hlen,Nat.mul_one]⟩
 obtain rfl:k=0:=by omega
 show(h.new ty (l.map fun x=>c x 0) false).cell h.next (0+i*1+0)=_
 rw[new_cell,if_pos rfl,Nat.zero_add,Nat.mul_one,Nat.add_zero,←hc i hi,gt_lt (by rw[hlen];exact hi)]
 exact List.getElem?_eq_getElem (by rw[hlen];exact hi)
theorem row_v {h:H} {ty:TypeId} {l:List V}:Ar (h.new ty l false) h.next (.sl h.next 0 l.length l.length true 1) 1 ty vcell l:=by
 have:=row_ar (h:=h) (ty:=ty) (c:=vcell) (l:=l) fun i hi=>by
  rw[show(l.map fun x=>vcell x 0)=l from List.map_id l]
  rfl
 rwa [show(l.map fun x=>vcell x 0)=l from List.map_id l]at this
theorem ew_row {C:Cx} {d len:Nat} {ty:TypeId} {us:List Nat} {ll:List So} {e:Env} {h:H} {Q:Env→H→Prop} {zs:List V} {qs:List (Nat × Nat × Rd)} {vs:List (Nat × Nat × V)} (l:List V) (hr:∀vl h1,Ar h1 h.next vl 1 ty vcell l→Kp h h1→Ew C ll ((d,vl) :: e) h1 Q) (hp:partsE e qs=some vs:=by exact rfl) (hf:fillL (rep zs len) vs=some l:=by exact rfl) (hl:l.length=len:=by exact rfl) (hz:allOne l=true:=by exact rfl):Ew C (⟨none,some d,.bs ty len 1 zs qs,us⟩ :: ll) e h Q:=by
 subst hl
 exact ew_s .n (od_bs hp hf hz) (hr _ _ row_v kp_new)
theorem em_row {C:Cx} {d j len:Nat} {ty:TypeId} {us:List Nat} {lm:List (So × Kd)} {e:Env} {hs h:H} {st:List (Option Nat × H)} {ps:List Pd} {Q:Env→H→Prop} {zs:List V} {qs:List (Nat × Nat × Rd)} {vs:List (Nat × Nat × V)} (l:List V) (hr:∀vl h1,Ar h1 h.next vl 1 ty vcell l→Kp h h1→Em C lm (j+1) ((d,vl) :: e) h1 h1 ((some j,h1) :: st) ps Q) (hl':∀h1,Kp h h1→Lv j h1.t ps) (hp:partsE e qs=some vs:=by exact rfl) (hf:fillL (rep zs len) vs=some l:=by exact rfl) (hl:l.length=len:=by exact rfl) (hz:allOne l=true:=by exact rfl):Em C ((⟨none,some d,.bs ty len 1 zs qs,us⟩,.e) :: lm) j e hs h st ps Q:=by
 subst hl
 exact em_bs hp hf hz (hl' _ kp_new) (hr _ _ row_v kp_new)
theorem RelS.p {h:H} {v:V} {n:Nat} {S:Nat→Nat→Prop} (hr:RelS h v n S):∃b,v=.p b 0:=by
 obtain⟨R,h1,h2⟩:=hr.is
 obtain⟨b,vr,vs,h3,_⟩:=h1.is
 exact⟨b,h3⟩
structure MoAt (h:H) (ml:List V) (g:Gr):Prop where
 is:∃(ve vrf vco vrmw vad vda vct:V) (po rf co fr:Nat) (rmw:V) (same ext:Nat) (addr data ctrl vR vW vF:V),ml = [.i .i64 g.cells,ve,vrf,vco,vrmw,vad,vda,vct,.p po 0,.p rf 0,.p co 0,.p fr 0,rmw,.p same 0,.p ext 0,addr,data,ctrl,vR,vW,vF] ∧
  GrAt h [.i .i64 g.cells,ve,vrf,vco,vrmw,vad,vda,vct] g∧RelS h (.p po 0) g.ev.length (POr g)∧RelS h (.p rf 0) g.ev.length (RF g)∧RelS h (.p co 0) g.ev.length (CO g)∧RelS h (.p fr 0) g.ev.length (fun a c=>∃q,q<g.ev.length∧RF g q a∧CO g q c)∧RelS h (.p same 0) g.ev.length (SAME g)∧RelS h (.p ext 0) g.ev.length (EXT g) ∧
  Ro h vR 1 bcell (flg g 1 g.ev.length)∧Ro h vW 1 bcell (flg g 2 g.ev.length)∧Ro h vF 1 bcell (flg g 3 g.ev.length)∧allOne ml=true
theorem MoAt.kp {h h':H} {ml:List V} {g:Gr} (k:Kp h h') (hw:Wf h) (hm:MoAt h ml g):MoAt h' ml g:=by
 obtain⟨ve,vrf,vco,vrmw,vad,vda,vct,po,rf,co,fr,rmw,same,ext,addr,data,ctrl,vR,vW,vF,h0,h1,h2,h3,h4,h5,h6,h7,h8,h9,h10,h11⟩:=hm.is
 exact⟨ve,vrf,vco,vrmw,vad,vda,vct,po,rf,co,fr,rmw,same,ext,addr,data,ctrl,vR,vW,vF,h0,h1.kp k hw,h2.kp k hw,h3.kp k hw,h4.kp k hw,h5.kp k hw,h6.kp k hw,h7.kp k hw,h8.kp k hw,h9.kp k hw,h10.kp k hw,h11⟩
theorem MoAt.one {h:H} {ml:List V} {g:Gr} (hm:MoAt h ml g):allOne ml=true:=by
 obtain⟨ve,vrf,vco,vrmw,vad,vda,vct,po,rf,co,fr,rmw,same,ext,addr,data,ctrl,vR,vW,vF,h0,h1,h2,h3,h4,h5,h6,h7,h8,h9,h10,h11⟩:=hm.is
 exact h11
def RiseS (n:Nat) (S:Nat→Nat→Prop) (rk:Nat→Nat):Prop:=∀a c,a<n→c<n→S a c→rk a<rk c
set_option maxHeartbeats 0 in
theorem together_spec {m:Bool} {h:H} {ml:List V} {g:Gr} {w:V} {S:Nat→Nat→Prop} {rk:Nat→Nat} (hw:Wf h) (hm:MoAt h ml g) (_hn:g.ev.length≤256) (hS:RelS h w g.ev.length S) (k0:RiseS g.ev.length S rk) (k1:∀a c,RF g a c→rk a<rk c) (k2:∀a c,CO g a c→rk a<rk c) (k3:∀a c,FR g a c→rk a<rk c):FX m Tryz.prog 88 [.agg ml,w] h fun r h'=>r=.ns∧Kp h h':=by
 have hml:=hm.one
 obtain⟨ve,vrf,vco,vrmw,vad,vda,vct,po,rf,co,fr,rmw,same,ext,addr,data,ctrl,vR,vW,vF,rfl,g1,s1,s2,s3,s4,s5,s6,f1,f2,f3,-⟩:=hm.is
 obtain⟨bw,rfl⟩:=hS.p
 obtain⟨R0,a0,b0⟩:=hS.is
 obtain⟨R1,a1,b1⟩:=s2.is
 obtain⟨R2,a2,b2⟩:=s3.is
 obtain⟨R3,a3,b3⟩:=s4.is
 refine Fn.env c88 rfl ?_
 unfold s88
 refine go ?_
 refine ew_bx (hz:=hml) fun b2x h1 ob k1'=>?_
 have hB:=ob.bx
 refine go ?_
 refine ew_row [.p bw 0,.p rf 0,.p co 0,.p fr 0] (fun vl h2 hA k2'=>?_)
 have k12:=k1'.trans k2'
 have hw2:=k12.wf hw
 refine stC (union_spec (K:=4) (n:=g.ev.length) (RS:=[R0,R1,R2,R3]) hw2 hA.ro rfl (by decide) (by decide) (fun k hk=>?_)) (fun r h3 ⟨hU,k3'⟩=>?_)
 ·match k,hk with
  | 0,_=>exact a0.kp k12 hw
  | 1,_=>exact a1.kp k12 hw
  | 2,_=>exact a2.kp k12 hw
  | 3,_=>exact a3.kp k12 hw
 obtain⟨RU,aU,bU⟩:=hU.is
 refine stC (cycle_rise (rk:=rk) (k3'.wf hw2) aU (fun a c ha hc h=>?_)) (fun r h4 ⟨e,k4⟩=>?_)
 ·obtain⟨k,hk,h5⟩:=(bU a c ha hc).1 h
  match k,hk,h5 with
  | 0,_,h5=>exact k0 a c ha hc ((b0 a c ha hc).1 h5)
  | 1,_,h5=>exact k1 a c ((b1 a c ha hc).1 h5)
  | 2,_,h5=>exact k2 a c ((b2 a c ha hc).1 h5)
  | 3,_,h5 =>
   obtain⟨q,_,h6,h7⟩:=(b3 a c ha hc).1 h5
   exact k3 a c ⟨q,h6,h7⟩
 subst e
 refine go ?_
 exact ret_1 ⟨rfl,k12.trans (k3'.trans k4)⟩
set_option maxHeartbeats 0 in
theorem percell_spec {m:Bool} {h:H} {ml:List V} {g:Gr} (hw:Wf h) (hT:TabP h) (hm:MoAt h ml g) (hn:g.ev.length≤256) (hc:TsoR g):FX m Tryz.prog 87 [.agg ml] h fun r h'=>r=.ns∧Kp h h':=by
 have hml:=hm.one
 have hm':=hm
 obtain⟨ve,vrf,vco,vrmw,vad,vda,vct,po,rf,co,fr,rmw,same,ext,addr,data,ctrl,vR,vW,vF,rfl,g1,s1,s2,s3,s4,s5,s6,f1,f2,f3,-⟩:=hm.is
 obtain⟨R0,a0,b0⟩:=s1.is
 obtain⟨R1,a1,b1⟩:=s5.is
 obtain⟨rk,r1,r2,r3,r4⟩:=hc.cell
 refine Fn.env c87 rfl ?_
 unfold s87
 refine go ?_
 refine ew_bx (hz:=hml) fun b1x h1 ob k1=>?_
 have hB:=ob.bx
 have hw1:=k1.wf hw
 refine gol ?_
 refine mC (inter_spec (m:=true) hw1 (hT.kp k1) (a0.kp k1 hw) (a1.kp k1 hw)) (fun v h2 ⟨hI,k2⟩=>⟨?_,?_⟩)
 ·have hB2:=hB.kp k2 hw1
  repeat first | exact Lv.nil | refine Lv.cons (fun _=>FRw.of (rw_b hB2 rfl)) ?_ | refine Lv.cons (fun hk=>absurd hk (by decide)) ?_
 have k12:=k1.trans k2
 refine mC (together_spec (m:=true) (rk:=rk) (k2.wf hw1) (hm'.kp k12 hw) hn hI (fun a c ha hc' ⟨h1,h2⟩=>r1 a c ((b0 a c ha hc').1 h1) ((b1 a c ha hc').1 h2)) r2 r3 r4) (fun r h3 ⟨e,k3⟩=>⟨?_,?_⟩)
 ·repeat first | exact Lv.nil | refine Lv.cons (fun hk=>absurd hk (by decide)) ?_
 subst e
 refine go ?_
 exact ret_1 ⟨rfl,k12.trans k3⟩
set_option maxHeartbeats 0 in
theorem torn_spec {m:Bool} {h:H} {ml:List V} {g:Gr} (hw:Wf h) (hT:TabP h) (hm:MoAt h ml g) (_hn:g.ev.length≤256) (hs:Sm g) (hc:TsoR g):FX m Tryz.prog 91 [.agg ml] h fun r h'=>r=.ns∧Kp h h':=by
 have hml:=hm.one
 obtain⟨ve,vrf,vco,vrmw,vad,vda,vct,po,rf,co,fr,rmw,same,ext,addr,data,ctrl,vR,vW,vF,rfl,g1,s1,s2,s3,s4,s5,s6,f1,f2,f3,-⟩:=hm.is
 obtain⟨R0,a0,b0⟩:=s4.is
 obtain⟨R1,a1,b1⟩:=s3.is
 obtain⟨_,_,_,_,_,_,_,eg,_,_,_,rrmw,_⟩:=g1.is
 injection eg with _ eg
 injection eg with _ eg
 injection eg with _ eg
 injection eg with _ eg
 injection eg with eg1 eg
 subst eg1
 have hLm:=rrmw.ln
 have hsr:=hs.rmw
 refine Fn.env c91 rfl ?_
 unfold s91
 refine go ?_
 refine ew_bx (hz:=hml) fun b1x h1 ob k1=>?_
 have hB:=ob.bx
 have hw1:=k1.wf hw
 refine go ?_
 refine stC (comp_spec hw1 (hT.kp k1) (a0.kp k1 hw) (a1.kp k1 hw)) (fun vb h2 ⟨hI,k2⟩=>?_)
 obtain⟨RI,aI,bI⟩:=hI.is
 have k12:=k1.trans k2
 have hB2:=hB.kp k2 hw1
 clear hB
 refine go ?_
 refine Es.loop (X:=Nat) (fun x=>g.rmw.length-x) (fun x=>[(1,.p b1x 0),(3,vb),(15,vrmw),(16,.i .i64 (g.rmw.length:Int)),(17,.i .i64 (x:Int))]) (fun x h'=>x≤g.rmw.length∧Kp h2 h') 0 ⟨rfl,rfl,rfl,rfl,rfl,trivial⟩ ⟨Nat.zero_le _,.refl _⟩ fun i h3 hx=>?_
 obtain⟨hi,k3⟩:=hx
 have k13:=k12.trans k3
 have hw3:=k13.wf hw
 have rr:=rrmw.kp k13 hw
 have hC:=rr.cs
 refine go ?_
 refine cD (fun hlt=>?_) (fun hge=>?_)
 ·have hlt:i<g.rmw.length:=by omega
  refine go ?_
  refine ew_al fun b5 h4 ob5 k4=>?_
  refine go ?_
  refine ew_st ob5 (vs:=[.i .i64 (gt g.rmw i).1,.i .i64 (gt g.rmw i).2]) (fun h5 ob5' m5=>?_)
  have k5:Kp h3 h5:=m5.kp k4 (fun k e=>by injection e with e;rw[←e];exact ob5.lo)
  have hB5:=ob5'.bx
  have k35:=k3.trans k5
  refine go ?_
  refine stC (rhas_spec (p:=(gt g.rmw i).1) (q:=(gt g.rmw i).2) (aI.kp k35 (k12.wf hw))) (fun r h6 ⟨w',e1,e2,hiff⟩=>?_)
  subst e1 e2
  have hno:w'=false:=by
   cases hw':w' with
   | false=>rfl
   | true =>
    exfalso
    obtain⟨h7,h8,h9,h10,h11⟩:=hiff.1 hw'
    obtain⟨q,h12,h13,h14⟩:=(bI _ _ (by omega) (by omega)).1 h11
    obtain⟨q',_,h15,h16⟩:=(b0 _ q (by omega) h12).1 h13
    exact hc.torn i hlt (gt g.rmw i).1.toNat q (gt g.rmw i).2.toNat (by omega) (by omega) ⟨q',h15,h16⟩ ((b1 q _ h12 (by omega)).1 h14)
  subst hno
  refine go ?_
  exact Nx.inv (i+1) (by omega) ⟨rfl,rfl,rfl,rfl,rfl,trivial⟩ ⟨by omega,k35⟩
 ·skip
  refine go ?_
  exact ret_1 ⟨rfl,k13⟩
set_option maxHeartbeats 0 in
theorem with_spec {m:Bool} {h:H} {gl:List V} {g:Gr} {vm:V} (hw:Wf h) (hg:GrAt h gl g) (hn:g.ev.length≤256) (hm:Ro h vm 1 icell [5,15]):FX m Tryz.prog 159 [.agg gl,vm] h fun r h'=>(∃l:List Bool,l.length=g.ev.length∧Ar h' h.next r 1 4 bcell l∧∀a,a<g.ev.length→(gt l a=true↔(gt g.ev a).mode=5∨(gt g.ev a).mode=15))∧Kp h h':=by
 have ogl:=hg.one
 obtain⟨ve,vrf,vco,vrmw,vad,vda,vct,rfl,rev,-⟩:=hg.is
 have hLe:=rev.ln
 refine Fn.env c159 rfl ?_
 unfold s159
 refine go ?_
 refine ew_bx (hz:=ogl) fun b2 h1 ob k1=>?_
 have hB:=ob.bx
 refine go ?_
 refine ew_ms (n:=g.ev.length) (α:=Bool) (c:=bcell) false (fun vl h2 hA k2=>?_) (by omega) (by omega)
 have k12:=k1.trans k2
 have hB2:=hB.kp k2 (k1.wf hw)
 have hA:=hA.low (n1:=h.next) k1.le
 clear hB
 refine go ?_
 refine Es.loop (X:=Nat × List Bool) (fun x=>g.ev.length-x.1) (fun x=>[(1,vm),(5,vl),(13,ve),(14,.i .i64 (g.ev.length:Int)),(15,.i .i64 (x.1:Int))]) (fun x h'=>x.1≤g.ev.length∧x.2.length=g.ev.length∧Ar h' h.next vl 1 4 bcell x.2∧Kp h h'∧∀a,a<x.1→(gt x.2 a=true↔(gt g.ev a).mode=5∨(gt g.ev a).mode=15)) (0,List.replicate g.ev.length false) ⟨rfl,rfl,rfl,rfl,rfl,trivial⟩ ⟨Nat.zero_le _,List.length_replicate,hA,k12,fun a ha=>absurd ha (Nat.not_lt_zero _)⟩ fun x h3 hx=>?_
 clear hA hB2
 obtain⟨i,l⟩:=x
 obtain⟨hi,hll,hA,k3,hq⟩:=hx
 simp only at hi hll hA hq
 have hL:=hA.ln
 rw[hll]at hL
 have rv:=rev.kp k3 hw
 have hC:=rv.cs
 refine go ?_
 refine cD (fun hlt=>?_) (fun hge=>?_)
 ·have hlt:i<g.ev.length:=by omega
  refine go ?_
  refine ew_al fun b7 h4 ob7 k4=>?_
  refine go ?_
  refine ew_st ob7 (vs:=evc (gt g.ev i)) (fun h5 ob7' m5=>?_)
  have k5:Kp h3 h5:=m5.kp k4 (fun k e=>by injection e with e;rw[←e];exact ob7.lo)
  have hB7:Bx h5 b7 (evc (gt g.ev i)):=ob7'.bx
  have k35:=k3.trans k5
  refine go ?_
  refine stC (contains_spec (x:=(gt g.ev i).mode) (hm.kp k35 hw) (by decide)) (fun r h6 ⟨e1,e2⟩=>?_)
  subst e1 e2
  have hA6:=hA.mo (Mo.of_kp k5 none) (fun e=>by cases e)
  refine go ?_
  refine ew_ar (@decide ((gt g.ev i).mode∈([5,15]:List Int)) (Classical.propDecidable _)) hA6 (i:=i) (by omega) (fun h7 hA7 m7=>?_)
  refine go ?_
  refine Nx.inv (i+1,_) (by simp only;omega) ⟨rfl,rfl,rfl,rfl,rfl,trivial⟩ ⟨by simp only;omega,by simp only;rw[List.length_set];exact hll,hA7,m7.kp k35 (fun k e=>by injection e with e;rw[←e];exact hA6.blk.2.1),fun a ha=>?_⟩
  simp only at ha ⊢
  rw[gt_set (by omega)]
  by_cases e:a=i
  ·rw[if_pos e,e]
   have:∀x:Int,x∈([5,15]:List Int)↔x=5∨x=15:=fun x=>by simp
   rw[←this]
   exact @decide_eq_true_iff _ (Classical.propDecidable _)
  ·rw[if_neg e];exact hq a (by omega)
 ·have e:i=g.ev.length:=by omega
  subst e
  refine go ?_
  exact ret_1 ⟨⟨l,hll,hA,hq⟩,k3⟩
def s160 : Sc:=(.seq (.region [Y 2 (.mv (.c .ns)) []]) (.seq (.region [Y 3 (.mv (.c (.i .i64 0))) []])
  (.seq (.seq (.region [Y 9 (.mv (.t 0)) [0],Y 10 (.len (.t 9)) [9],Y 11 (.mv (.c (.i .i64 0))) []])
  (.block 0 (.loop (.seq (.region [Y 12 (.ar .lss (.t 11) (.t 10)) [11,10]])
  (.seq (.cond (.t 12) .skip (.exit 0)) (.seq (.block 1 (.seq (.region [Y 13 (.ia (.t 9) (.t 11) 1) [9,11],
 Y 14 (.ld (.t 13)) [13],Y 5 (.mv (.t 14)) [14]]) (.seq (.region [Y 15 (.mv (.t 3)) [3],Y 16 (.mv (.t 5)) [5],
 Y 17 (.len (.t 16)) [16],Y 18 (.ar .add (.t 15) (.t 17)) [15,17],Y 3 (.mv (.t 18)) [18]])
  (.seq (.region [Y 19 (.mv (.t 3)) [3],Y 20 (.ar .lss (.t 19) (.c (.i .i64 0))) [19]])
  (.cond (.t 20) .bad .skip))))) (.region [Y 22 (.ar .add (.t 11) (.c (.i .i64 1))) [11],
 Y 11 (.mv (.t 22)) [22]]))))))) (.seq (.region [Y 23 (.mv (.t 3)) [3],Y 24 (.call 228 [(.c .ns),.t 23]) [23],
 Y 6 (.mv (.t 24)) [24]]) (.seq (.seq (.region [Y 25 (.mv (.t 0)) [0],Y 26 (.len (.t 25)) [25],
 Y 27 (.mv (.c (.i .i64 0))) []]) (.block 2 (.loop (.seq (.region [Y 28 (.ar .lss (.t 27) (.t 26)) [27,26]])
  (.seq (.cond (.t 28) .skip (.exit 2)) (.seq (.block 3 (.seq (.region [Y 29 (.ia (.t 25) (.t 27) 1) [25,27],
 Y 30 (.ld (.t 29)) [29],Y 8 (.mv (.t 30)) [30]]) (.region [Y 31 (.mv (.t 6)) [6],Y 32 (.mv (.t 8)) [8],
 Y 33 (.ap 111 1 8 (.t 31) (.t 32)) [31,32],Y 6 (.mv (.t 33)) [33]]))) (.region [Y 34 (.ar .add (.t 27)
  (.c (.i .i64 1))) [27],Y 27 (.mv (.t 34)) [34]]))))))) (.seq (.region [Y 35 (.mv (.t 6)) [6],
 Y 2 (.mv (.t 35)) [35]]) .ret))))))
set_option maxRecDepth 100000 in
theorem c160:fnB Tryz.prog 160=some (36,s160,[.t 2]):=by kernel_rfl
def s228 : Sc:=(.seq (.region [Y 4 (.mv (.c .ns)) []]) (.seq (.seq (.region [Y 5 (.mv (.t 1)) [1],Y 6 (.ar .lss (.t 5)
  (.c (.i .i64 0))) [5]]) (.cond (.t 6) .bad .skip)) (.seq (.seq (.region [Y 8 (.mv (.t 1)) [1],
 Y 9 (.mv (.t 0)) [0],Y 10 (.cap (.t 9)) [9],Y 11 (.mv (.t 0)) [0],Y 12 (.len (.t 11)) [11],
 Y 13 (.ar .sub (.t 10) (.t 12)) [10,12],Y 14 (.ar .sub (.t 8) (.t 13)) [8,13],Y 1 (.mv (.t 14)) [14]])
  (.seq (.region [Y 15 (.mv (.t 1)) [1],Y 16 (.ar .gtr (.t 15) (.c (.i .i64 0))) [15]]) (.cond (.t 16)
  (.region [Y 17 (.mv (.t 0)) [0],Y 18 (.mv (.t 0)) [0],Y 19 (.cap (.t 18)) [18],
 Y 20 (.s2 1 (.t 17) none (some (.t 19))) [17,19],Y 21 (.mv (.t 1)) [1],Y 22 (.apz 111 1 8 [.np] (.t 20)
  (.t 21)) [20,21],Y 23 (.mv (.t 0)) [0],Y 24 (.len (.t 23)) [23],
 Y 25 (.s2 1 (.t 22) none (some (.t 24))) [22,24],Y 0 (.mv (.t 25)) [25]]) .skip)))
  (.seq (.region [Y 26 (.mv (.t 0)) [0],Y 4 (.mv (.t 26)) [26]]) .ret))))
set_option maxRecDepth 100000 in
theorem c228:fnB Tryz.prog 228=some (27,s228,[.t 4]):=by kernel_rfl
theorem od_capn {e:Env} {h:H} {x:Rd} (hx:x.lk e=some .ns):Od (.cap x) e h (.i .i64 0) h:=⟨fun t ht=>⟨by
 simp only[tdo,Rd.lk_val hx ht]
 rfl⟩⟩
theorem od_apz {e:Env} {h:H} {x y:Rd} {k:IntKind} {ty:TypeId} {sz by_ n:Nat} {z:List V} (hx:x.lk e=some .ns) (hy:y.lk e=some (.i k (n:Int))) (hn:0<n) (hb:n*by_≤4294967296) (h1:allOne (rep z n)=true):Od (.apz ty sz by_ z x y) e h (.sl h.next 0 n n false sz) (h.new ty (rep z n) true):=⟨fun t ht=>⟨by
 simp only[tdo,Rd.lk_val hx ht,Rd.lk_val hy ht,asN_cast]
 cases n with
 | zero=>exact absurd hn (Nat.lt_irrefl _)
 | succ n =>
  show bb (Nat.ble ((n+1)*by_) 4294967296) (growK sz ty h (n+1) (rep z (n+1)) pr)=_
  rw[ble_t hb,bb_t]
  unfold growK
  rw[newRow_eq,h1,bb_t]
  rfl⟩⟩
theorem storeL_eq {β:Type} {h:H} {b o hi:Nat} {l:List V} {ty:TypeId} {p:Bool} (hr:h.row b=some (ty,hi,p)) (h1:allOne l=true) (hle:o+l.length≤hi) (K:H→Option β):storeL h b o l K=K (h.st b o l):=by
 obtain⟨c,hb⟩:=row_some hr
 unfold storeL rowK
 rw[hb,st_eq hb]
 show bb (Nat.ble (o+l.length) hi) (bb (allOne l) (Tr.putL l c o fun c=>Tr.put (some (.cells ty hi p c)) h.t b fun t=>K (⟨h.next,t⟩:H)))=_
 rw[ble_t hle,h1,bb_t,bb_t,Tr.putL_eq,Tr.put_set]
theorem od_api {e:Env} {h:H} {x y:Rd} {ty ty':TypeId} {by_ b len cap m yb yo yc hi:Nat} {kn yk p:Bool} {news:List V} (hx:x.lk e=some (.sl b 0 len cap kn 1)) (hy:y.lk e=some (.sl yb yo m yc yk 1)) (hm:0<m) (hle:len+m≤cap) (hn:Rw h yb (m*1) yo news) (hr:h.row b=some (ty',hi,p)) (hhi:len+m≤hi) (h1:allOne news=true) (hb:(len+m+cap)*by_≤4294967296) :
  Od (.ap ty 1 by_ x y) e h (.sl b 0 (len+m) cap kn 1) (h.st b len news):=⟨fun t ht=>⟨by
 have hnl:news.length=m:=by
  have:=(hn.ce).1
  rw[this,Nat.mul_one]
 simp only[tdo,Rd.lk_val hx ht,Rd.lk_val hy ht]
 unfold appendK newsK
 show bb (Nat.beq 1 1) (loadRow h yb yo (m*1) fun l=>_)=_
 rw[show Nat.beq 1 1=true from rfl,bb_t,load_eq (Nat.mul_pos hm Nat.zero_lt_one) hn.eq]
 show bb (Nat.beq 1 1) (bb (Nat.ble ((len+m+cap)*by_) 4294967296) (fN (len+m) fun m'=>br (Nat.ble m' cap) (storeL h b (0+len*1) news fun h=>pr (.sl b 0 m' cap kn 1) h) _))=_
 rw[show Nat.beq 1 1=true from rfl,bb_t,ble_t hb,bb_t,fN_eq,ble_t hle,br_t,Nat.zero_add,Nat.mul_one,storeL_eq hr h1 (by rw[hnl];exact hhi)]
 rfl⟩⟩
theorem flat_v:∀l:List V,flat vcell 1 l=l
 | []=>rfl
 | x :: l=>by
  show upto (vcell x) 1 0++flat vcell 1 l=x :: l
  rw[flat_v l]
  rfl
theorem allOne_np:∀n,allOne (rep [V.np] n)=true:=allOne_rep rfl
set_option maxHeartbeats 0 in
theorem grow_spec {m:Bool} {h:H} {n:Nat} (h0:0<n) (hn:n≤10000):FX m Tryz.prog 228 [.ns,.i .i64 (n:Int)] h fun r h'=>r=.sl h.next 0 0 n false 1∧h'=h.new 111 (rep [.np] n) true:=by
 have e0:(n:Int)-(0-((0:Nat):Int))=(n:Int):=by omega
 have hl:Ln .ns 1 0:=.ns
 refine Fn.env c228 rfl ?_
 unfold s228
 refine go ?_
 refine ew_s .n (od_capn rfl) ?_
 refine go ?_
 rw[e0]
 refine go ?_
 refine ew_s .n (od_capn rfl) ?_
 refine ew_s .n (od_s2n rfl .no (Bd.at (k:=.i64) (n:=0) rfl)) ?_
 refine go ?_
 refine ew_s .n (od_apz rfl rfl h0 (by omega) (allOne_np n)) ?_
 refine go ?_
 refine ew_s .n (od_s2 (l:=0) (r:=0) rfl .no (Bd.at (k:=.i64) (n:=0) rfl) (Nat.le_refl _) (Nat.zero_le _)) ?_
 refine go ?_
 exact ret_1 ⟨rfl,rfl⟩
set_option maxHeartbeats 0 in
theorem concat_spec {m:Bool} {h:H} {v:V} {ss:List V} {ll:List (List V)} (hw:Wf h) (hv:Ro h v 1 vcell ss) (hl:ss.length=ll.length) (h0:0<ll.length) (hK:ll.length≤1000) (hs:∀k,k<ll.length→Ro h (gt ss k) 1 vcell (gt ll k)∧0<(gt ll k).length∧allOne (gt ll k)=true) (hn:ll.flatten.length≤10000):FX m Tryz.prog 160 [v] h fun r h'=>Ro h' r 1 vcell ll.flatten∧Kp h h':=by
 have hL:=hv.ln
 rw[hl]at hL
 have tk:∀k,k<ll.length→(ll.take (k+1)).flatten=(ll.take k).flatten++gt ll k:=fun k hk=>by
  rw[take_gt hk,List.flatten_append]
  simp
 have tl:∀k,(ll.take k).flatten.length≤ll.flatten.length:=fun k=>by
  have:=congrArg List.length (congrArg List.flatten (List.take_append_drop k ll))
  rw[List.flatten_append,List.length_append]at this
  omega
 obtain⟨n,hnn⟩:∃n,n=ll.flatten.length:=⟨_,rfl⟩
 have hpos:0<n:=by
  have h1:=tk 0 h0
  have h2:=tl 1
  rw[h1,List.length_append]at h2
  have:=(hs 0 h0).2.1
  omega
 refine Fn.env c160 rfl ?_
 unfold s160
 refine go ?_
 refine Es.loop (X:=Nat) (fun x=>ll.length-x) (fun x=>[(0,v),(9,v),(10,.i .i64 (ll.length:Int)),(11,.i .i64 (x:Int)),(3,.i .i64 ((ll.take x).flatten.length:Int))]) (fun x h'=>x≤ll.length∧h'=h) 0 ⟨rfl,rfl,rfl,rfl,rfl,trivial⟩ ⟨Nat.zero_le _,rfl⟩ fun k h1 hx=>?_
 obtain⟨hk,rfl⟩:=hx
 refine go ?_
 refine cD (fun hlt=>?_) (fun hge=>?_)
 ·have hlt:k<ll.length:=by omega
  have hc:Ce h1 v.ba (v.of+k*1) (gt ss k):=hv.cs.eq k 0 (by rw[hl];exact hlt) Nat.zero_lt_one
  have hLk:=(hs k hlt).1.ln
  have e1:=tk k hlt
  have e2:=tl (k+1)
  rw[e1,List.length_append]at e2
  refine go ?_
  have e3:(((ll.take k).flatten.length+(gt ll k).length:Nat):Int)=(((ll.take (k+1)).flatten.length:Nat):Int):=by rw[e1,List.length_append]
  rw[e3]
  exact Nx.inv (k+1) (by omega) ⟨rfl,rfl,rfl,rfl,rfl,trivial⟩ ⟨by omega,rfl⟩
 ·have e:k=ll.length:=by omega
  subst e
  rw[List.take_length,←hnn]
  refine go ?_
  refine stC (grow_spec (n:=n) hpos (by omega)) (fun r h2 ⟨e1,e2⟩=>?_)
  subst e1 e2
  have k2:Kp h1 (h1.new 111 (rep [.np] n) true):=kp_new
  have hrl:(rep [V.np] n).length=n:=by rw[rep_len];simp
  refine go ?_
  refine Es.loop (X:=Nat) (fun x=>ll.length-x) (fun x=>[(0,v),(25,v),(26,.i .i64 (ll.length:Int)),(27,.i .i64 (x:Int)),(6,.sl h1.next 0 (ll.take x).flatten.length n false 1)]) (fun x h'=>x≤ll.length∧Kp h1 h'∧h'.row h1.next=some (111,n,true)∧h1.next<h'.next∧∀j w,(ll.take x).flatten[j]?=some w→h'.cell h1.next j=some w) 0 ⟨rfl,rfl,rfl,rfl,rfl,trivial⟩ ⟨Nat.zero_le _,k2,by rw[new_row,if_pos rfl,hrl],Nat.lt_succ_self _,fun j w hj=>by cases hj⟩ fun k h3 hx=>?_
  obtain⟨hk,k3,hrow,hlt3,hcell⟩:=hx
  have hv3:=hv.kp k3 hw
  refine go ?_
  refine cD (fun hlt=>?_) (fun hge=>?_)
  ·have hlt:k<ll.length:=by omega
   have hc:Ce h3 v.ba (v.of+k*1) (gt ss k):=hv3.cs.eq k 0 (by rw[hl];exact hlt) Nat.zero_lt_one
   obtain⟨hs1,hs2,hs3⟩:=hs k hlt
   have hs4:=hs1.kp k3 hw
   obtain⟨cap,kn,es,hcap⟩:=hs4.ln.at_ hs2
   have e1:=tk k hlt
   have e2:=tl (k+1)
   rw[e1,List.length_append]at e2
   have hrw:=hs4.rows
   rw[flat_v]at hrw
   refine go ?_
   refine ew_s .n (od_api rfl (by show some (gt ss k)=_;exact congrArg some es) hs2 (by omega) hrw hrow (by omega) hs3 (by omega)) ?_
   have mS:Mo h3 (h3.st h1.next (ll.take k).flatten.length (gt ll k)) (some h1.next):=⟨Nat.le_of_eq st_next.symm,fun j _ hne=>st_other fun e=>hne (congrArg some e.symm),wf_st⟩
   rw[←List.length_append,←e1]
   refine go ?_
   refine Nx.inv (k+1) (by omega) ⟨rfl,rfl,rfl,rfl,rfl,trivial⟩ ⟨by omega,mS.kp k3 (fun j e=>by injection e with e;omega),st_row.trans hrow,by rw[st_next];exact hlt3,fun j w hj=>?_⟩
   rw[e1]at hj
   rw[st_cell hrow (by omega)]
   by_cases hjl:j<(ll.take k).flatten.length
   ·rw[if_neg (by omega)]
    rw[List.getElem?_append_left hjl]at hj
    exact hcell j w hj
   ·rw[List.getElem?_append_right (by omega)]at hj
    have:=(List.getElem?_eq_some_iff.1 hj).1
    rw[if_pos ⟨by omega,by omega⟩]
    exact hj
  ·have e:k=ll.length:=by omega
   subst e
   rw[List.take_length,←hnn]
   rw[List.take_length]at hcell
   refine go ?_
   refine ret_1 (v:=.sl h1.next 0 n n false 1) ⟨⟨by rw[←hnn];exact .sl (Nat.le_refl _),⟨fun i j hi hj=>⟨?_⟩⟩⟩,k3⟩
   obtain rfl:j=0:=by omega
   show h3.cell h1.next (0+i*1+0)=_
   rw[Nat.zero_add,Nat.mul_one,Nat.add_zero,hcell i (gt ll.flatten i) (by rw[gt_lt hi];exact List.getElem?_eq_getElem hi)]
   rfl
def s39 : Sc:=(.seq (.region [Y 3 (.bx 83 (.t 1)) [1]]) (.mix [(Y 4 (.mv (.t 0)) [0],.q [none,some 6,some 7]),
 (Y 5 (.mv (.t 0)) [0],.q [none,some 6]),(Y 6 (.nc (.t 5)) [5],.q [none,some 6]),
 (Y 7 (.fa (.t 6) 0) [6],.q [none,some 6]),(Y 8 (.ld (.t 7)) [7],.q [none,some 6]),
 (Y 9 (.lds (.t 3) 3) [3],.q [none]),(Y 10 (.bs 83 1 3 [.i .i64 0,.i .i64 0,.i .u64 0] [(0,3,.t 9)]) [9],.e),
 (Y 11 (.ap 83 3 24 (.t 8) (.t 10)) [8,10],.e),(Y 12 (.nc (.t 4)) [4],.q [some 7]),
 (Y 13 (.fa (.t 12) 0) [12],.q [some 7]),(⟨none,none,.st (.t 13) (.t 11) 1,[13,11]⟩,.e)]))
set_option maxRecDepth 100000 in
theorem c39:fnB Tryz.prog 39=some (14,s39,[]):=by kernel_rfl
theorem em_arL {α:Type} [Inhabited α] {C:Cx} {n0 sz i j:Nat} {us:List Nat} {lm:List (So × Kd)} {e:Env} {hs h:H} {st:List (Option Nat × H)} {ps:List Pd} {Q:Env→H→Prop} {v w:V} {ty:TypeId} {c:α→Nat→V} {l:List α} {a xr:Rd} {vs:List V} {g:Option (Nat × Bool)} (x:α) (ho:Ar h n0 v sz ty c l) (hi:i<l.length) (hr:∀h1,Ar h1 n0 v sz ty c (l.set i x)→Mo h h1 (some v.ba)→Em C lm (j+1) e h1 h1 ((some j,h1) :: st) ps Q)
  (hw:Gd e g true:=by first | exact .n | exact .tt rfl | exact .ff rfl) (ha:a.lk e=some (.p v.ba (v.of+i*sz)):=by exact rfl) (hx:xr.lk e=some w:=by exact rfl) (hv:w.cells=vs:=by exact rfl) (hu:vs=upto (c x) sz 0:=by exact rfl) (h1:allOne vs=true:=by exact rfl) (hl:∀h1,Mo h h1 (some v.ba)→Lv j h1.t ps):Em C ((⟨g,none,.st a xr sz,us⟩,.e) :: lm) j e hs h st ps Q:=by
 have h3:=ho.st (x:=x) hi hu
 obtain⟨b,p,hb,h4,h5,h6⟩:=ho.own
 have hle:v.of+i*sz+sz≤l.length*sz:=by
  have:(i+1)*sz≤l.length*sz:=Nat.mul_le_mul_right _ hi
  rw[Nat.add_mul]at this
  rw[hb]
  show 0+i*sz+sz≤_
  omega
 have h7:h.row v.ba=some (ty,l.length*sz,p):=by rw[hb];exact h6
 exact em_eu hw (od_st ha hx hv (by rw[hu,upto_len]) h1 h7 hle) (hl _ h3.2) (hr _ h3.1 h3.2)
structure Wr where
 loc:Int
 ev:Int
 val:Int
instance:Inhabited Wr:=⟨⟨0,0,0⟩⟩
theorem cells_one3 {v:V} (h:v.one=true):v.cells = [v]:=by
 cases v <;> first | rfl | cases h
end Go.Proofs.YtkcdehffcddciaaGreatDoor.Vm
