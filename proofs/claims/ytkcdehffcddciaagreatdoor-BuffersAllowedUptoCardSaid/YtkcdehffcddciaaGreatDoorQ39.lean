/- The program's copy of a graph, without reads-from and orders. -/
import Derived.Test.YtkcdehffcddciaaGreatDoorQ28
import Derived.Test.YtkcdehffcddciaaGreatDoorQ38
import Derived.Test.YtkcdehffcddciaaGreatDoorQ25
import Derived.Test.YtkcdehffcddciaaGreatDoorQ22
import Derived.Test.YtkcdehffcddciaaGreatDoorQ34
namespace Go.Proofs.YtkcdehffcddciaaGreatDoor.Vm
open Go Go.RowKit
def s70 : Sc:=(.seq (.region [Y 2 (.mv (.c .ns)) []]) (.seq (.seq (.region [Y 3 (.mv (.t 0)) [0],
 Y 4 (.eq .slice false (.t 3) (.c .ns)) [3]]) (.cond (.t 4)
  (.seq (.region [Y 2 (.mv (.c .ns)) []]) .ret) .skip))
  (.seq (.region [Y 5 (.bs 37 0 5 [.i .i64 0,.i .i64 0,.i .i64 0,.i .u64 0,.i .i64 0] []) [],
 Y 6 (.mv (.t 0)) [0],Y 7 (.ap 37 5 40 (.t 5) (.t 6)) [5,6],Y 2 (.mv (.t 7)) [7]]) .ret)))
set_option maxRecDepth 100000 in
theorem c70:fnB Tryz.prog 70=some (8,s70,[.t 2]):=by kernel_rfl
def s96 : Sc:=(.seq (.region [Y 2 (.mv (.c .ns)) []]) (.seq (.seq (.region [Y 3 (.mv (.t 0)) [0],
 Y 4 (.eq .slice false (.t 3) (.c .ns)) [3]]) (.cond (.t 4)
  (.seq (.region [Y 2 (.mv (.c .ns)) []]) .ret) .skip))
  (.seq (.region [Y 5 (.bs 39 0 2 [.i .i64 0,.i .i64 0] []) [],Y 6 (.mv (.t 0)) [0],Y 7 (.ap 39 2 16 (.t 5)
  (.t 6)) [5,6],Y 2 (.mv (.t 7)) [7]]) .ret)))
set_option maxRecDepth 100000 in
theorem c96:fnB Tryz.prog 96=some (8,s96,[.t 2]):=by kernel_rfl
def s32 : Sc:=(.seq (.region [Y 1 (.bx 26 (.t 0)) [0],Y 2 (.al 26 [.i .i64 0,.ns,.ns,.ns,.ns,.ns,.ns,.ns]) []])
  (.seq (.mix [(Y 3 (.fa (.t 1) 0) [1],.q [none,some 4,some 7,some 10,some 13,some 16]),
 (Y 4 (.ld (.t 3)) [3],.q [none,some 4,some 7,some 10,some 13,some 16]),(Y 5 (.fa (.t 1) 1) [1],.q [none]),
 (Y 6 (.ld (.t 5)) [5],.q [none]),(Y 7 (.call 70 [.t 6]) [6],.e),(Y 8 (.fa (.t 1) 4) [1],.q [none,some 4]),
 (Y 9 (.ld (.t 8)) [8],.q [none,some 4]),(Y 10 (.call 96 [.t 9]) [9],.e),
 (Y 11 (.fa (.t 1) 5) [1],.q [none,some 4,some 7]),(Y 12 (.ld (.t 11)) [11],.q [none,some 4,some 7]),
 (Y 13 (.call 96 [.t 12]) [12],.e),(Y 14 (.fa (.t 1) 6) [1],.q [none,some 4,some 7,some 10]),
 (Y 15 (.ld (.t 14)) [14],.q [none,some 4,some 7,some 10]),(Y 16 (.call 96 [.t 15]) [15],.e),
 (Y 17 (.fa (.t 1) 7) [1],.q [none,some 4,some 7,some 10,some 13]),
 (Y 18 (.ld (.t 17)) [17],.q [none,some 4,some 7,some 10,some 13]),(Y 19 (.call 96 [.t 18]) [18],.e),
 (Y 20 (.bd [.i .i64 0,.ns,.ns,.ns,.ns,.ns,.ns,.ns] [(0,1,.t 4),(1,1,.t 7),(4,1,.t 10),(5,1,.t 13),
 (6,1,.t 16),(7,1,.t 19)]) [4,7,10,13,16,19],.q [some 16]),(⟨none,none,.st (.t 2) (.t 20) 8,[2,20]⟩,
 .e)]) .ret))
set_option maxRecDepth 100000 in
theorem c32:fnB Tryz.prog 32=some (21,s32,[.c (.lds (.t 2) 8)]):=by kernel_rfl
theorem ew_clone {α:Type} [Inhabited α] {C:Cx} {d1 d2 sz by_:Nat} {ty:TypeId} {zs:List V} {us us' us'':List Nat} {l:List So} {e:Env} {h:H} {Q:Env→H→Prop} {c:α→Nat→V} {rows:List α} {v:V} {y:Rd}
  (hr:Ro h v sz c rows) (hw:Wf h) (h0:0<rows.length) (hy:y.lk ((d2,v) :: (d1,.sl h.next 0 0 0 true sz) :: e)=some v) (h1:∀x:α,allOne (upto (c x) sz 0)=true) (hsz:0<sz) (hb:rows.length*by_≤4294967296) (hd:d1≠d2)
  (hq:∀v' h',Gw h' h.next v' sz ty c rows→Kp h h'→Ew C l ((d2+1,v') :: (d2,v) :: (d1,.sl h.next 0 0 0 true sz) :: e) h' Q) (hyv:Rd.lk ((d1,V.sl h.next 0 0 0 true sz) :: e) (.t 0)=some v:=by exact rfl) :
  Ew C (⟨none,some d1,.bs ty 0 sz zs [],us⟩ :: ⟨none,some d2,.mv (.t 0),us''⟩ :: ⟨none,some (d2+1),.ap ty sz by_ (.t d1) y,us'⟩ :: l) e h Q:=by
 refine ew_s .n (od_bs (l:=[]) (vs:=[]) rfl rfl rfl) ?_
 have k1:Kp h (h.new ty [] false):=kp_new
 refine ew_s .n (od_mv hyv) ?_
 obtain⟨cap,kn,hv,hc⟩:=hr.ln.at_ h0
 have hr1:=hr.kp k1 hw
 have hy2:y.lk ((d2,v) :: (d1,V.sl h.next 0 0 0 true sz) :: e)=some (.sl v.ba v.of rows.length cap kn sz):=by rw[hy,←hv]
 have hx:Rd.lk ((d2,v) :: (d1,V.sl h.next 0 0 0 true sz) :: e) (.t d1)=some (.sl h.next 0 0 0 true sz):=by
  show look _ d1=_
  rw[look_c,if_neg (fun h=>hd h.symm),look_c,if_pos rfl]
 have hfl:=allOne_flat (sz:=sz) h1 rows
 have h3:=od_apk0 (h:=h.new ty [] false) (ty:=ty) (by_:=by_) (b:=h.next) hx hy2 (hi:=0) (p:=false) (ty':=ty) (by rw[new_row,if_pos rfl];rfl) h0 hsz hr1.rows hfl hb
 refine ew_s .n h3 ?_
 have k2:Kp (h.new ty [] false) ((h.new ty [] false).new ty (flat c sz rows) true):=kp_new
 refine hq _ _ ⟨.sl (Nat.le_refl _),⟨fun i k hi hk=>⟨?_⟩⟩,.inr ⟨_,0,rfl,Nat.le_succ _,Nat.lt_succ_self _,?_⟩⟩ (k1.trans k2)
 ·show((h.new ty [] false).new ty (flat c sz rows) true).cell (h.new ty [] false).next (0+i*sz+k)=_
  rw[new_cell,if_pos rfl,Nat.zero_add,flatG_get _ _ _ hi hk]
 ·rw[new_row,if_pos rfl,flatG_len,Nat.zero_add]
theorem od_ap00 {e:Env} {h:H} {x y:Rd} {ty ty':TypeId} {by_ sz b yb yo yc:Nat} {yk p:Bool} (hx:x.lk e=some (.sl b 0 0 0 true sz)) (hy:y.lk e=some (.sl yb yo 0 yc yk sz)) (ht:Th h (.sl yb yo 0 yc yk sz)) (hr:h.row b=some (ty',0,p)):Od (.ap ty sz by_ x y) e h (.sl b 0 0 0 true sz) (h.st b 0 []):=⟨fun t htm=>⟨by
 simp only[tdo,Rd.lk_val hx htm,Rd.lk_val hy htm]
 unfold appendK newsK
 show bb (Nat.beq sz sz) (loadRow h yb yo (0*sz) fun l=>_)=_
 rw[show Nat.beq sz sz=true from Nat.beq_refl _,bb_t,Nat.zero_mul,ht.load]
 show bb (Nat.beq sz sz) (bb (Nat.ble ((0+0+0)*by_) 4294967296) (fN (0+0) fun m'=>br (Nat.ble m' 0) (storeL h b (0+0*sz) [] fun h=>pr (.sl b 0 m' 0 true sz) h) _))=_
 rw[show Nat.beq sz sz=true from Nat.beq_refl _,bb_t,ble_t (by rw[Nat.zero_mul];exact Nat.zero_le _),bb_t,fN_eq,ble_t (Nat.le_refl _),br_t,Nat.zero_mul,storeL_eq (l:=[]) hr rfl (Nat.le_refl _)]
 rfl⟩⟩
theorem ew_clone0 {α:Type} [Inhabited α] {C:Cx} {d1 d2 sz by_:Nat} {ty:TypeId} {zs:List V} {us us' us'':List Nat} {l:List So} {e:Env} {h:H} {Q:Env→H→Prop} {c:α→Nat→V} {v:V} {y:Rd} {yb yo yc:Nat} {yk:Bool}
  (hv:v=.sl yb yo 0 yc yk sz) (ht:Th h v) (hw:Wf h) (hy:y.lk ((d2,v) :: (d1,.sl h.next 0 0 0 true sz) :: e)=some v) (hd:d1≠d2)
  (hq:∀v' h',Gy h' h.next v' sz ty c ([]:List α)→Kp h h'→Ew C l ((d2+1,v') :: (d2,v) :: (d1,.sl h.next 0 0 0 true sz) :: e) h' Q) (hyv:Rd.lk ((d1,V.sl h.next 0 0 0 true sz) :: e) (.t 0)=some v:=by exact rfl) :
  Ew C (⟨none,some d1,.bs ty 0 sz zs [],us⟩ :: ⟨none,some d2,.mv (.t 0),us''⟩ :: ⟨none,some (d2+1),.ap ty sz by_ (.t d1) y,us'⟩ :: l) e h Q:=by
 refine ew_s .n (od_bs (l:=[]) (vs:=[]) rfl rfl rfl) ?_
 have k1:Kp h (h.new ty [] false):=kp_new
 refine ew_s .n (od_mv hyv) ?_
 have hx:Rd.lk ((d2,v) :: (d1,V.sl h.next 0 0 0 true sz) :: e) (.t d1)=some (.sl h.next 0 0 0 true sz):=by
  show look _ d1=_
  rw[look_c,if_neg (fun h=>hd h.symm),look_c,if_pos rfl]
 have hrw:(h.new ty [] false).row h.next=some (ty,0,false):=by rw[new_row,if_pos rfl];rfl
 refine ew_s .n (od_ap00 (h:=h.new ty [] false) (ty:=ty) (by_:=by_) (b:=h.next) hx (hy.trans (congrArg some hv)) (by rw[←hv];exact ht.kp k1 hw) hrw) ?_
 have mS:Mo (h.new ty [] false) ((h.new ty [] false).st h.next 0 []) (some h.next):=⟨Nat.le_of_eq st_next.symm,fun j _ hne=>st_other fun e=>hne (congrArg some e.symm),wf_st⟩
 exact hq _ _ ⟨.sl (Nat.le_refl _),⟨fun i k hi=>absurd hi (Nat.not_lt_zero _)⟩,.inr (.inr ⟨h.next,rfl,rfl,Nat.le_refl _,by rw[st_next];exact Nat.lt_succ_self _,st_row.trans hrw⟩)⟩ (mS.kp k1 fun j e=>by injection e with e;omega)
set_option maxHeartbeats 0 in
theorem clone70 {m:Bool} {h:H} {v:V} {l:List Ev_} (hw:Wf h) (hr:Ro h v 5 ecell l) (ht:Th h v) (hs:l.length≤10000000):FX m Tryz.prog 70 [v] h fun w h'=>Gy h' h.next w 5 37 ecell l∧(l = []→v=.ns→w=.ns)∧Kp h h':=by
 refine Fn.env c70 rfl ?_
 unfold s70
 cases l with
 | nil =>
  rcases hr.ln.is with⟨rfl,_⟩ | ⟨b,o,cap,kn,rfl,hc⟩
  ·have hL:Ln .ns 5 0:=.ns
   refine go ?_
   exact ret_1 ⟨Gw.gy .nil,fun _ h=>h,.refl h⟩
  ·have hL:=hr.ln
   refine go ?_
   refine ew_clone0 (α:=Ev_) (c:=ecell) rfl ht hw rfl (by decide) fun v' h' hG k=>?_
   refine go ?_
   exact ret_1 ⟨hG,(fun _ e=>by cases e),k⟩
 | cons a l =>
  obtain⟨cap,kn,hv,hc⟩:=hr.ln.at_ (Nat.zero_lt_succ _)
  obtain⟨b,o,rfl⟩:∃b o,v=.sl b o (a :: l).length cap kn 5:=⟨_,_,hv⟩
  have hL:=hr.ln
  rw[List.length_cons]at hs
  refine go ?_
  refine ew_clone (c:=ecell) (rows:=a :: l) hr hw (Nat.zero_lt_succ _) rfl eone (by decide) (by rw[List.length_cons];omega) (by decide) fun v' h' hG k=>?_
  refine go ?_
  exact ret_1 ⟨hG.gy,(fun e=>by cases e),k⟩
set_option maxHeartbeats 0 in
theorem clone96 {m:Bool} {h:H} {v:V} {l:List (Int × Int)} (hw:Wf h) (hr:Ro h v 2 pcell l) (ht:Th h v) (hs:l.length≤10000000):FX m Tryz.prog 96 [v] h fun w h'=>Gy h' h.next w 2 39 pcell l∧(l = []→v=.ns→w=.ns)∧Kp h h':=by
 refine Fn.env c96 rfl ?_
 unfold s96
 cases l with
 | nil =>
  rcases hr.ln.is with⟨rfl,_⟩ | ⟨b,o,cap,kn,rfl,hc⟩
  ·have hL:Ln .ns 2 0:=.ns
   refine go ?_
   exact ret_1 ⟨Gw.gy .nil,fun _ h=>h,.refl h⟩
  ·have hL:=hr.ln
   refine go ?_
   refine ew_clone0 (α:=(Int × Int)) (c:=pcell) rfl ht hw rfl (by decide) fun v' h' hG k=>?_
   refine go ?_
   exact ret_1 ⟨hG,(fun _ e=>by cases e),k⟩
 | cons a l =>
  obtain⟨cap,kn,hv,hc⟩:=hr.ln.at_ (Nat.zero_lt_succ _)
  obtain⟨b,o,rfl⟩:∃b o,v=.sl b o (a :: l).length cap kn 2:=⟨_,_,hv⟩
  have hL:=hr.ln
  rw[List.length_cons]at hs
  refine go ?_
  refine ew_clone (c:=pcell) (rows:=a :: l) hr hw (Nat.zero_lt_succ _) rfl pone (by decide) (by rw[List.length_cons];omega) (by decide) fun v' h' hG k=>?_
  refine go ?_
  exact ret_1 ⟨hG.gy,(fun e=>by cases e),k⟩
set_option maxHeartbeats 0 in
theorem pcopied_spec {m:Bool} {h:H} {gl:List V} {g:Gr} (hw:Wf h) (hg:GrAt h gl g) (hth:∀v∈gl,Th h v) (hs:Sm g):FX m Tryz.prog 32 [.agg gl] h fun v h'=>(∃ve vrmw vad vda vct,v=.agg [.i .i64 g.cells,ve,.ns,.ns,vrmw,vad,vda,vct]∧Gy h' h.next ve 5 37 ecell g.ev∧Gy h' h.next vrmw 2 39 pcell g.rmw∧Gy h' h.next vad 2 39 pcell g.addr∧Gy h' h.next vda 2 39 pcell g.data∧Gy h' h.next vct 2 39 pcell g.ctrl∧(Nil_ gl g→(g.ev = []→ve=.ns)∧(g.rmw = []→vrmw=.ns)))∧Kp h h':=by
 have hone:=hg.one
 obtain⟨ve,vrf,vco,vrmw,vad,vda,vct,rfl,g1,g2,g3,g4,g5,g6,g7⟩:=hg.is
 have t1:Th h ve:=hth _ (by simp)
 have t4:Th h vrmw:=hth _ (by simp)
 have t5:Th h vad:=hth _ (by simp)
 have t6:Th h vda:=hth _ (by simp)
 have t7:Th h vct:=hth _ (by simp)
 refine Fn.env c32 rfl ?_
 unfold s32
 refine Es.seq (Es.region (ew_bx (hz:=hone) fun b1 h1 ob1 k1=>?_))
 refine ew_al fun b2 h2 ob2 k2=>?_
 have hw1:=k1.wf hw
 have hw2:=k2.wf hw1
 have k02:=k1.trans k2
 have hBa:=ob1.bx.kp k2 hw1
 have q1:=ob1.lo
 have q2:=ob1.hi
 have q3:=ob2.lo
 have q4:=ob2.hi
 have q5:=k1.le
 have q6:=k2.le
 refine gol ?_
 refine mC (clone70 hw2 (g1.kp k02 hw) (t1.kp k02 hw) hs.ev) (fun u1 h3 ⟨G1,e1,k3⟩=>⟨⟨fun _=>FCe.of (Ce.kp k3 hw2 (ce_b hBa rfl)),trivial⟩,?_⟩)
 have hw3:=k3.wf hw2
 have k03:=k02.trans k3
 have hBb:=hBa.kp k3 hw2
 have q7:=k3.le
 refine gol ?_
 refine mC (clone96 hw3 (g4.kp k03 hw) (t4.kp k03 hw) hs.rmw) (fun u4 h4 ⟨G4,e4,k4⟩=>⟨⟨fun _=>FCe.of (Ce.kp k4 hw3 (ce_b hBb rfl)),trivial⟩,?_⟩)
 have hw4:=k4.wf hw3
 have k04:=k03.trans k4
 have hBc:=hBb.kp k4 hw3
 have G1:=G1.mo (Mo.of_kp k4 none) (fun _ _ e=>by cases e)
 have q8:=k4.le
 refine gol ?_
 refine mC (clone96 hw4 (g5.kp k04 hw) (t5.kp k04 hw) hs.addr) (fun u5 h5 ⟨G5,e5,k5⟩=>⟨⟨fun _=>FCe.of (Ce.kp k5 hw4 (ce_b hBc rfl)),trivial⟩,?_⟩)
 have hw5:=k5.wf hw4
 have k05:=k04.trans k5
 have hBd:=hBc.kp k5 hw4
 have G1:=G1.mo (Mo.of_kp k5 none) (fun _ _ e=>by cases e)
 have G4:=G4.mo (Mo.of_kp k5 none) (fun _ _ e=>by cases e)
 have q9:=k5.le
 refine gol ?_
 refine mC (clone96 hw5 (g6.kp k05 hw) (t6.kp k05 hw) hs.data) (fun u6 h6 ⟨G6,e6,k6⟩=>⟨⟨fun _=>FCe.of (Ce.kp k6 hw5 (ce_b hBd rfl)),trivial⟩,?_⟩)
 have hw6:=k6.wf hw5
 have k06:=k05.trans k6
 have hBe:=hBd.kp k6 hw5
 have G1:=G1.mo (Mo.of_kp k6 none) (fun _ _ e=>by cases e)
 have G4:=G4.mo (Mo.of_kp k6 none) (fun _ _ e=>by cases e)
 have G5:=G5.mo (Mo.of_kp k6 none) (fun _ _ e=>by cases e)
 have q10:=k6.le
 refine gol ?_
 refine mC (clone96 hw6 (g7.kp k06 hw) (t7.kp k06 hw) hs.ctrl) (fun u7 h7 ⟨G7,e7,k7⟩=>⟨⟨fun _=>FCe.of (Ce.kp k7 hw6 (ce_b hBe rfl)),trivial⟩,?_⟩)
 have k07:=k06.trans k7
 have G1:=G1.mo (Mo.of_kp k7 none) (fun _ _ e=>by cases e)
 have G4:=G4.mo (Mo.of_kp k7 none) (fun _ _ e=>by cases e)
 have G5:=G5.mo (Mo.of_kp k7 none) (fun _ _ e=>by cases e)
 have G6:=G6.mo (Mo.of_kp k7 none) (fun _ _ e=>by cases e)
 have q11:=k7.le
 have o1:=G1.ln.one
 have o4:=G4.ln.one
 have o5:=G5.ln.one
 have o6:=G6.ln.one
 have o7:=G7.ln.one
 have hfl:fillL [.i .i64 0,.ns,.ns,.ns,.ns,.ns,.ns,.ns] [(0,1,.i .i64 g.cells),(1,1,u1),(4,1,u4),(5,1,u5),(6,1,u6),(7,1,u7)]=some [.i .i64 g.cells,u1,.ns,.ns,u4,u5,u6,u7]:=by
  simp only[fillL,cells_one5 o1,cells_one5 o4,cells_one5 o5,cells_one5 o6,cells_one5 o7]
  rfl
 refine emN (mS (v:=.agg [.i .i64 g.cells,u1,.ns,.ns,u4,u5,u6,u7]) (hd:=⟨fun _=>od_bd rfl hfl⟩) ?_)
 have ob2:=ob2.mo (Mo.of_kp (k3.trans (k4.trans (k5.trans (k6.trans k7)))) none) (fun e=>by cases e)
 refine em_stL ob2 (fun h8 ob8 m8=>?_) (hl:=fun h' _=>⟨fun (hk:some 18∈[none,some 4,some 7,some 10,some 13,some 16])=>absurd hk (by decide),trivial⟩) (h1:=(allOne_cons rfl (allOne_cons o1 (allOne_cons rfl (allOne_cons rfl (allOne_cons o4 (allOne_cons o5 (allOne_cons o6 (allOne_cons o7 rfl))))))):allOne [V.i .i64 g.cells,u1,.ns,.ns,u4,u5,u6,u7]=true))
 have hB8:Bx h8 b2 [.i .i64 g.cells,u1,.ns,.ns,u4,u5,u6,u7]:=ob8.bx
 have hne:∀k,h2.next≤k→some b2≠some k:=fun k hk e=>by injection e with e;omega
 refine go ?_
 exact ret_c (v:=.agg [.i .i64 g.cells,u1,.ns,.ns,u4,u5,u6,u7]) (od_lds rfl (rw_b hB8 rfl)) ⟨⟨u1,u4,u5,u6,u7,rfl,(G1.mo m8 fun k hk=>hne k (by have:=(G1.blk k hk).1;omega)).low (by omega),(G4.mo m8 fun k hk=>hne k (by have:=(G4.blk k hk).1;omega)).low (by omega),(G5.mo m8 fun k hk=>hne k (by have:=(G5.blk k hk).1;omega)).low (by omega),(G6.mo m8 fun k hk=>hne k (by have:=(G6.blk k hk).1;omega)).low (by omega),(G7.mo m8 fun k hk=>hne k (by have:=(G7.blk k hk).1;omega)).low (by omega),fun hnn=>⟨fun e=>e1 e ((hnn.is _ _ _ _ _ _ _ rfl).1 e),fun e=>e4 e ((hnn.is _ _ _ _ _ _ _ rfl).2.1 e)⟩⟩,m8.kp k07 fun k hk=>by injection hk with hk;omega⟩
end Go.Proofs.YtkcdehffcddciaaGreatDoor.Vm
