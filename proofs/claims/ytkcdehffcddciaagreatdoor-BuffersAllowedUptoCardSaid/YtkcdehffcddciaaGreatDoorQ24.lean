/- The functions of a row of bits. -/
import Derived.Test.YtkcdehffcddciaaGreatDoorQ18
import Derived.Test.YtkcdehffcddciaaGreatDoorQ19
import Derived.Test.YtkcdehffcddciaaGreatDoorQ23
import Derived.Test.YtkcdehffcddciaaGreatDoorQ21
import Derived.Test.YtkcdehffcddciaaGreatDoorProg
import Derived.KernelRfl
namespace Go.Proofs.YtkcdehffcddciaaGreatDoor.Vm
open Go Go.RowKit
def s183 : Sc:=(.seq (.region [Y 4 (.mv (.c (.b false))) []]) (.seq (.region [Y 5 (.mv (.t 0)) [0],Y 6 (.mv (.t 1)) [1],
 Y 7 (.ar .quo (.t 6) (.c (.i .i64 64))) [6],Y 8 (.ia (.t 5) (.t 7) 1) [5,7],Y 9 (.ld (.t 8)) [8],
 Y 10 (.mv (.t 1)) [1],Y 11 (.ar .rem (.t 10) (.c (.i .i64 64))) [10],Y 12 (.sh .shr (.t 9) (.t 11)) [9,11],
 Y 13 (.ar .and (.t 12) (.c (.i .u64 1))) [12],Y 14 (.eq .int false (.t 13) (.c (.i .u64 1))) [13],
 Y 4 (.mv (.t 14)) [14]]) .ret))
set_option maxRecDepth 100000 in
theorem c183:fnB Tryz.prog 183=some (15,s183,[.t 4]):=by kernel_rfl
def s182 : Sc:=(.seq (.region [Y 6 (.mv (.c (.b false))) []]) (.seq (.region [Y 7 (.mv (.t 1)) [1],Y 8 (.ar .geq (.t 7)
  (.c (.i .i64 0))) [7],Y 9 (.mv (.t 8)) [8],Z 9 true 10 (.mv (.t 1)) [1,9],Z 9 true 11 (.mv (.t 0)) [0,9],
 Z 9 true 12 (.nc (.t 11)) [11,9],Z 9 true 13 (.fa (.t 12) 0) [12,9],Z 9 true 14 (.ld (.t 13)) [13,9],
 Z 9 true 15 (.ar .lss (.t 10) (.t 14)) [10,14,9],Y 16 (.pk (.t 9) (.t 15) (.c (.b false))) [9,15],
 Y 17 (.mv (.t 16)) [16],Z 17 true 18 (.mv (.t 2)) [2,17],Z 17 true 19 (.ar .geq (.t 18)
  (.c (.i .i64 0))) [18,17],Y 20 (.pk (.t 17) (.t 19) (.c (.b false))) [17,19],Y 21 (.mv (.t 20)) [20],
 Z 21 true 22 (.mv (.t 2)) [2,21],Z 21 true 23 (.mv (.t 0)) [0,21],Z 21 true 24 (.nc (.t 23)) [23,21],
 Z 21 true 25 (.fa (.t 24) 0) [24,21],Z 21 true 26 (.ld (.t 25)) [25,21],Z 21 true 27 (.ar .lss (.t 22)
  (.t 26)) [22,26,21],Y 28 (.pk (.t 21) (.t 27) (.c (.b false))) [21,27],Y 6 (.mv (.t 28)) [28]]) .ret))
set_option maxRecDepth 100000 in
theorem c182:fnB Tryz.prog 182=some (29,s182,[.t 6]):=by kernel_rfl
def s186 : Sc:=(.mix [(Y 4 (.mv (.t 0)) [0],.q [none]),(Y 5 (.mv (.t 1)) [1],.q [none]),(Y 6 (.ar .quo (.t 5)
  (.c (.i .i64 64))) [5],.q [none]),(Y 7 (.ia (.t 4) (.t 6) 1) [4,6],.q [none]),
 (Y 8 (.ld (.t 7)) [7],.q [none]),(Y 9 (.mv (.t 1)) [1],.q [none]),(Y 10 (.ar .rem (.t 9)
  (.c (.i .i64 64))) [9],.q [none]),(Y 11 (.sh .shl (.c (.i .u64 1)) (.t 10)) [10],.q [none]),
 (Y 12 (.ar .or (.t 8) (.t 11)) [8,11],.q [none]),(Y 13 (.ia (.t 4) (.t 6) 1) [4,6],.q [none]),
 (⟨none,none,.st (.t 13) (.t 12) 1,[13,12]⟩,.e)])
set_option maxRecDepth 100000 in
theorem c186:fnB Tryz.prog 186=some (14,s186,[]):=by kernel_rfl
def s185 : Sc:=(.seq (.region [Y 7 (.mv (.t 1)) [1],Y 8 (.len (.t 7)) [7],Y 9 (.mv (.c (.i .i64 0))) []])
  (.block 0 (.loop (.seq (.region [Y 10 (.ar .lss (.t 9) (.t 8)) [9,8]]) (.seq (.cond (.t 10) .skip (.exit 0))
  (.seq (.block 1 (.seq (.region [Y 11 (.ia (.t 7) (.t 9) 1) [7,9],Y 12 (.ld (.t 11)) [11],
 Y 5 (.mv (.t 12)) [12]]) (.seq (.region [Y 13 (.mv (.t 0)) [0],Y 14 (.len (.t 13)) [13],
 Y 15 (.mv (.t 5)) [5],Y 16 (.len (.t 15)) [15],Y 17 (.mn (.t 14) [.t 16]) [14,16],
 Y 18 (.mv (.c (.i .i64 0))) []]) (.block 2 (.loop (.seq (.region [Y 19 (.ar .lss (.t 18) (.t 17)) [18,17]])
  (.seq (.cond (.t 19) .skip (.exit 2)) (.seq (.block 3 (.seq (.region [Y 20 (.mv (.t 18)) [18],
 Y 6 (.mv (.t 20)) [20]]) (.mix [(Y 21 (.mv (.t 0)) [0],.q [none]),(Y 22 (.mv (.t 6)) [6],.q [none]),
 (Y 23 (.ia (.t 21) (.t 22) 1) [21,22],.q [none]),(Y 24 (.ld (.t 23)) [23],.q [none]),
 (Y 25 (.mv (.t 5)) [5],.q [none]),(Y 26 (.mv (.t 6)) [6],.q [none]),(Y 27 (.ia (.t 25)
  (.t 26) 1) [25,26],.q [none]),(Y 28 (.ld (.t 27)) [27],.q [none]),(Y 29 (.ar .or (.t 24)
  (.t 28)) [24,28],.q [none]),(Y 30 (.ia (.t 21) (.t 22) 1) [21,22],.q [none]),(⟨none,none,.st (.t 30)
  (.t 29) 1,[30,29]⟩,.e)]))) (.region [Y 31 (.ar .add (.t 18) (.c (.i .i64 1))) [18],
 Y 18 (.mv (.t 31)) [31]]))))))))) (.region [Y 32 (.ar .add (.t 9) (.c (.i .i64 1))) [9],
 Y 9 (.mv (.t 32)) [32]])))))))
set_option maxRecDepth 100000 in
theorem c185:fnB Tryz.prog 185=some (33,s185,[]):=by kernel_rfl
def s260 : Sc:=(.seq (.region [Y 2 (.mv (.c (.i .i64 0))) []]) (.seq (.seq (.region [Y 3 (.mv (.t 0)) [0],
 Y 4 (.eq .int false (.t 3) (.c (.i .u64 0))) [3]]) (.cond (.t 4)
  (.seq (.region [Y 2 (.mv (.c (.i .i64 64))) []]) .ret) .skip)) (.seq (.region [Y 5 (.mv (.t 0)) [0],
 Y 6 (.mv (.t 0)) [0],Y 7 (.ng (.t 6)) [6],Y 8 (.ar .and (.t 5) (.t 7)) [5,7],Y 9 (.ar .mul (.t 8)
  (.c (.i .u64 285870213051353865))) [8],Y 10 (.sh .shr (.t 9) (.c (.i .u64 58))) [9],
 Y 11 (.tb 0 (.t 10) 64 1) [10],Y 12 (.ld (.t 11)) [11],Y 13 (.cv .i64 (.t 12)) [12],
 Y 2 (.mv (.t 13)) [13]]) .ret)))
set_option maxRecDepth 100000 in
theorem c260:fnB Tryz.prog 260=some (14,s260,[.t 2]):=by kernel_rfl
def uc (w:Int) (_:Nat):V:=.i .u64 w
theorem Ro.wd {h:H} {v:V} {x nw i:Nat} (hr:Ro h v 1 uc (wds x nw)) (hi:i<nw):Ce h v.ba (v.of+i*1) (.i .u64 ((wd x i:Nat):Int)):=by
 have h1:=hr.cs.eq i 0 (by rw[wds_len];exact hi) Nat.zero_lt_one
 rw[wds_gt hi]at h1
 exact h1
theorem Ro.wl {h:H} {v:V} {x nw:Nat} (hr:Ro h v 1 uc (wds x nw)):Ln v 1 nw:=by
 have:=hr.ln
 rwa [wds_len]at this
theorem has_dec {x p:Nat}:decide ((((wd x (p / 64) >>> (p % 64)) &&& 1:Nat):Int)=1)=x.testBit p:=by
 rw[bit_one,←bit_at]
 cases x.testBit p <;> rfl
set_option maxHeartbeats 0 in
theorem has_spec {m:Bool} {h:H} {v:V} {x nw p:Nat} (hr:Ro h v 1 uc (wds x nw)) (hp:p / 64<nw) (hb:p<4611686018427387904):FX m Tryz.prog 183 [v,.i .i64 (p:Int)] h fun r h'=>r=.b (x.testBit p)∧h'=h:=by
 have hL:=hr.wl
 have hC:=hr.wd hp
 have hm:p % 64≤64:=by omega
 have hwl:=wd_lt x (p / 64)
 have hwl2:wd x (p / 64) >>> (p % 64)<18446744073709551616:=Nat.lt_of_le_of_lt (Nat.shiftRight_le _ _) hwl
 refine Fn.env c183 rfl ?_
 unfold s183
 refine go ?_
 refine ew_s .n ((of_quo rfl rfl hb).eq _) ?_
 refine go ?_
 refine ew_s .n ((of_rem rfl rfl).eq _) ?_
 refine go ?_
 refine ew_s .n ((of_shr rfl rfl hm).eq _) ?_
 refine go ?_
 refine ew_s .n ((of_and (v:=1) rfl rfl hwl2 (by decide)).eq _) ?_
 refine go ?_
 exact ret_1 ⟨congrArg V.b has_dec,rfl⟩
set_option maxHeartbeats 0 in
theorem inside_spec {m:Bool} {h:H} {b:Nat} {n p q:Int} (hc:Ce h b 0 (.i .i64 n)):FX m Tryz.prog 182 [.p b 0,.i .i64 p,.i .i64 q] h fun r h'=>r=.b (decide (0≤p∧p<n∧0≤q∧q<n))∧h'=h:=by
 refine Fn.env c182 rfl ?_
 unfold s182
 refine go ?_
 repeat' ((first|refine wgd ?_ ?_|refine wgn ?_ ?_|refine wgb ?_ ?_|refine mgd ?_ ?_|refine mgn ?_ ?_|refine mgb ?_ ?_|refine cD ?_ ?_|refine cN ?_ ?_|refine cB ?_ ?_)<;>intro _<;>refine go ?_)
 all_goals (first | refine ret_1 ⟨?_,rfl⟩)
 all_goals first | exact congrArg V.b (decide_eq_false (by omega)).symm | exact congrArg V.b (decide_eq_decide.2 (by omega))
set_option maxHeartbeats 0 in
theorem set_spec {m:Bool} {h:H} {n0:Nat} {v:V} {x nw p:Nat} (hr:Ar h n0 v 1 35 uc (wds x nw)) (hp:p / 64<nw) (hb:p<4611686018427387904):FX m Tryz.prog 186 [v,.i .i64 (p:Int)] h fun r h'=>r=.u∧Ar h' n0 v 1 35 uc (wds (x ||| 1 <<< p) nw)∧Mo h h' (some v.ba):=by
 have hL:=hr.ro.wl
 have hC:=hr.ro.wd hp
 have hm:p % 64<64:=by omega
 have hwl:=wd_lt x (p / 64)
 have hwl2:1 <<< (p % 64)<18446744073709551616:=by rw[Nat.one_shiftLeft];exact Nat.pow_lt_pow_right (by decide) hm
 refine Fn.env c186 rfl ?_
 unfold s186
 refine go ?_
 refine em_f .n (of_quo rfl rfl hb) ?_
 refine go ?_
 refine em_f .n (of_rem rfl rfl) ?_
 refine em_f .n (of_shl rfl rfl hm) ?_
 refine em_f .n (of_or rfl rfl hwl hwl2) ?_
 refine go ?_
 refine em_ar (((wd x (p / 64) ||| 1 <<< (p % 64):Nat):Int)) hr (i:=p / 64) (by rw[wds_len];exact hp) fun h1 hA m1=>?_
 rw[wds_or hp]at hA
 refine go ?_
 first | exact ret_0 (R:=fun r h'=>r=.u∧Ar h' n0 v 1 35 uc (wds (x ||| 1 <<< p) nw)∧Mo h h' (some v.ba)) ⟨rfl,hA,m1⟩ | exact end_0 (R:=fun r h'=>r=.u∧Ar h' n0 v 1 35 uc (wds (x ||| 1 <<< p) nw)∧Mo h h' (some v.ba)) ⟨rfl,hA,m1⟩
def jn (x y nw i:Nat):List Int:=(List.range nw).map fun j=>if j<i then((wd (x ||| y) j:Nat):Int)else((wd x j:Nat):Int)
theorem jn_len {x y nw i:Nat}:(jn x y nw i).length=nw:=by unfold jn;rw[List.length_map,List.length_range]
theorem jn_gt {x y nw i j:Nat} (h:j<nw):gt (jn x y nw i) j=if j<i then((wd (x ||| y) j:Nat):Int)else((wd x j:Nat):Int):=by
 unfold jn
 rw[gt_lt (by rw[List.length_map,List.length_range];exact h),List.getElem_map,List.getElem_range]
theorem jn_0 {x y nw:Nat}:jn x y nw 0=wds x nw:=wds_ext jn_len fun i hi=>by rw[jn_gt hi,if_neg (Nat.not_lt_zero _)]
theorem jn_n {x y nw:Nat}:jn x y nw nw=wds (x ||| y) nw:=wds_ext jn_len fun i hi=>by rw[jn_gt hi,if_pos hi]
theorem jn_s {x y nw i:Nat} (hi:i<nw):(jn x y nw i).set i ((wd x i ||| wd y i:Nat):Int)=jn x y nw (i+1):=gt_ext (by rw[List.length_set,jn_len,jn_len]) fun j hj=>by
 rw[List.length_set,jn_len]at hj
 rw[gt_set (by rw[jn_len];exact hi),jn_gt hj,jn_gt hj,←wd_or]
 by_cases e:j=i
 ·rw[if_pos e,e,if_pos (Nat.lt_succ_self _)]
 ·rw[if_neg e]
  by_cases e2:j<i
  ·rw[if_pos e2,if_pos (by omega)]
  ·rw[if_neg e2,if_neg (by omega)]
theorem jn_x {x nw i:Nat}:jn x x nw i=wds x nw:=wds_ext jn_len fun j hj=>by
 rw[jn_gt hj,Nat.or_self]
 split <;> rfl
set_option maxHeartbeats 0 in
theorem join_spec {m:Bool} {h:H} {n0:Nat} {v vl vy:V} {x y nw:Nat} (hw:Wf h) (hr:Ar h n0 v 1 35 uc (wds x nw)) (hl:Ro h vl 1 vcell [vy]) (hlb:vl.ba≠v.ba) (hy:Ro h vy 1 uc (wds y nw)) (hn:nw≤1000) (ho:vy.ba≠v.ba∨(vy=v∧x=y)):FX m Tryz.prog 185 [v,vl] h fun r h'=>r=.u∧Ar h' n0 v 1 35 uc (wds (x ||| y) nw)∧Mo h h' (some v.ba):=by
 have hL:=hr.ro.wl
 have hLy:=hy.wl
 have hLl:Ln vl 1 1:=hl.ln
 have oy:vy.one=true:=hy.ln.one
 refine Fn.env c185 rfl ?_
 unfold s185
 refine go ?_
 refine Es.loop (X:=Nat) (fun k=>1-k) (fun k=>[(0,v),(1,vl),(7,vl),(8,.i .i64 ((1:Nat):Int)),(9,.i .i64 (k:Int))]) (fun k h'=>(k=0∧h'=h)∨(k=1∧Ar h' n0 v 1 35 uc (wds (x ||| y) nw)∧Mo h h' (some v.ba))) 0 ⟨rfl,rfl,rfl,rfl,rfl,trivial⟩ (.inl ⟨rfl,rfl⟩) fun k h1 hk=>?_
 rcases hk with⟨rfl,rfl⟩ | ⟨rfl,hA,m1⟩
 ·have hc0:Ce h1 vl.ba (vl.of+0*1) vy:=hl.cs.eq 0 0 Nat.zero_lt_one Nat.zero_lt_one
  refine go ?_
  refine Es.loop (X:=Nat) (fun i=>nw-i) (fun i=>[(0,v),(1,vl),(5,vy),(7,vl),(8,.i .i64 ((1:Nat):Int)),(9,.i .i64 ((0:Nat):Int)),(17,.i .i64 (min (nw:Int) nw)),(18,.i .i64 (i:Int))]) (fun i h'=>i≤nw∧Ar h' n0 v 1 35 uc (jn x y nw i)∧Mo h1 h' (some v.ba)) 0 ⟨rfl,rfl,rfl,rfl,rfl,rfl,rfl,rfl,trivial⟩ ⟨Nat.zero_le _,by rw[jn_0];exact hr,.refl _⟩ fun i h2 hi=>?_
  obtain⟨hin,hA,m2⟩:=hi
  refine go ?_
  refine cD (fun hlt=>?_) (fun hge=>?_)
  ·have hlt:i<nw:=by omega
   have hy2:Ro h2 vy 1 uc (wds y nw):=by
    rcases ho with ho | ⟨e1,e2⟩
    ·exact hy.mo hw Nat.zero_lt_one m2 fun _ e=>ho (by injection e with e;exact e.symm)
    ·subst e1 e2
     rw[jn_x]at hA
     exact hA.ro
   have hCy:=hy2.wd hlt
   have hCx:Ce h2 v.ba (v.of+i*1) (.i .u64 ((wd x i:Nat):Int)):=by
    have h3:=hA.cs.eq i 0 (by rw[jn_len];exact hlt) Nat.zero_lt_one
    rw[jn_gt hlt,if_neg (Nat.lt_irrefl _)]at h3
    exact h3
   refine go ?_
   refine em_f .n (of_or rfl rfl (wd_lt _ _) (wd_lt _ _)) ?_
   refine go ?_
   refine em_ar (((wd x i ||| wd y i:Nat):Int)) hA (i:=i) (by rw[jn_len];exact hlt) fun h3 hA3 m3=>?_
   rw[jn_s hlt]at hA3
   refine go ?_
   exact Nx.inv (i+1) (by omega) ⟨rfl,rfl,rfl,rfl,rfl,rfl,rfl,rfl,trivial⟩ ⟨by omega,hA3,m2.trans m3 (.inl rfl)⟩
  ·have e:i=nw:=by omega
   subst e
   rw[jn_n]at hA
   refine go ?_
   exact Nx.inv 1 (by decide) ⟨rfl,rfl,rfl,rfl,rfl,trivial⟩ (.inr ⟨rfl,hA,m2⟩)
 ·skip
  refine go ?_
  first | exact ret_0 (R:=fun r h'=>r=.u∧Ar h' n0 v 1 35 uc (wds (x ||| y) nw)∧Mo h h' (some v.ba)) ⟨rfl,hA,m1⟩ | exact end_0 (R:=fun r h'=>r=.u∧Ar h' n0 v 1 35 uc (wds (x ||| y) nw)∧Mo h h' (some v.ba)) ⟨rfl,hA,m1⟩
set_option maxHeartbeats 0 in
theorem ctz_spec {m:Bool} {h:H} {w:Nat} (ht:TabP h) (h0:0<w) (hw:w<18446744073709551616):FX m Tryz.prog 260 [.i .u64 (w:Int)] h fun r h'=>r=.i .i64 ((low w:Nat):Int)∧h'=h:=by
 obtain⟨hl1,-,-⟩:=low_at 64 w h0 hw
 have hl1:low w<64:=hl1
 have hl2:1 <<< low w<18446744073709551616:=by rw[Nat.one_shiftLeft];exact Nat.pow_lt_pow_right (by decide) hl1
 have hne:¬(w:Int)=0:=by omega
 have hs:(1 <<< low w*285870213051353865 % 18446744073709551616) >>> 58<64:=by
  rw[Nat.shiftRight_eq_div_pow]
  have:=Nat.mod_lt (1 <<< low w*285870213051353865) (show 0<18446744073709551616 by decide)
  omega
 have htab:tabN.getD ((1 <<< low w*285870213051353865 % 18446744073709551616) >>> 58) 0=((low w:Nat):Int):=tab_low tabN rfl _ hl1
 have hce:=ht.ce hs
 rw[htab]at hce
 refine Fn.env c260 rfl ?_
 unfold s260
 refine go ?_
 refine ew_s .n ((of_neg rfl h0 hw).eq _) ?_
 refine ew_s .n ((of_and rfl rfl hw (by omega)).eq _) ?_
 rw[low_neg h0 hw]
 refine ew_s .n ((of_mulC rfl rfl).eq _) ?_
 refine ew_s .n ((of_shr (s:=58) rfl rfl (by decide)).eq _) ?_
 refine ew_s .n (od_tb ht rfl hs) ?_
 refine go ?_
 refine ew_s .n ((of_cv8 rfl (by omega) (by omega)).eq _) ?_
 refine go ?_
 exact ret_1 ⟨rfl,rfl⟩
theorem load_eq {β:Type} {h:H} {b o n:Nat} {l:List V} (hn:0<n) (hl:rowC h b n o=some l) (K:List V→Option β):loadRow h b o n K=K l:=by
 have hld:=(tdo_lds (C:=noC) (a:=.c (.p b o)) (t:=.e) rfl hn hl)
 simp only[tdo,Rd.val,asP]at hld
 have:ob (loadRow h b o n fun l=>some (V.agg l,h)) (fun p=>match p.1 with | .agg l=>K l | _=>none)=K l:=by
  rw[show loadRow h b o n (fun l=>some (V.agg l,h))=some (.agg l,h)from hld]
  rfl
 rw[ob_loadRow]at this
 exact this
theorem od_apk {e:Env} {h:H} {x y:Rd} {ty:TypeId} {by_ sz b o len cap m yb yo yc:Nat} {yk:Bool} {olds news:List V} (hx:x.lk e=some (.sl b o len cap true sz)) (hy:y.lk e=some (.sl yb yo m yc yk sz)) (hl0:0<len) (hm:0<m) (hsz:0<sz) (hc:cap<len+m) (ho:Rw h b (len*sz) o olds) (hn:Rw h yb (m*sz) yo news) (h1:allOne (olds++news)=true) (hb:(len+m+cap)*by_≤4294967296) :
  Od (.ap ty sz by_ x y) e h (.sl h.next 0 (len+m) (len+m) false sz) (h.new ty (olds++news) true):=⟨fun t ht=>⟨by
 simp only[tdo,Rd.lk_val hx ht,Rd.lk_val hy ht]
 unfold appendK newsK
 show bb (Nat.beq sz sz) (loadRow h yb yo (m*sz) fun l=>_)=_
 rw[show Nat.beq sz sz=true from Nat.beq_refl _,bb_t,load_eq (Nat.mul_pos hm hsz) hn.eq]
 show bb (Nat.beq sz sz) (bb (Nat.ble ((len+m+cap)*by_) 4294967296) (fN (len+m) fun m'=>br (Nat.ble m' cap) _ (br true (loadRow h b o (len*sz) fun olds=>growK sz ty h m' (olds++news) _) _)))=_
 rw[show Nat.beq sz sz=true from Nat.beq_refl _,bb_t,ble_t hb,bb_t,fN_eq,show Nat.ble (len+m) cap=false by
  cases hq:Nat.ble (len+m) cap with
  | false=>rfl
  | true=>exact absurd (Nat.le_of_ble_eq_true hq) (by omega),br_f,br_t,load_eq (Nat.mul_pos hl0 hsz) ho.eq]
 unfold growK
 rw[newRow_eq,h1,bb_t]
 rfl⟩⟩
theorem od_apk0 {e:Env} {h:H} {x y:Rd} {ty ty':TypeId} {by_ sz b hi m yb yo yc:Nat} {p yk:Bool} {news:List V} (hx:x.lk e=some (.sl b 0 0 0 true sz)) (hy:y.lk e=some (.sl yb yo m yc yk sz)) (hr:h.row b=some (ty',hi,p)) (hm:0<m) (hsz:0<sz) (hn:Rw h yb (m*sz) yo news) (h1:allOne news=true) (hb:m*by_≤4294967296) :
  Od (.ap ty sz by_ x y) e h (.sl h.next 0 m m false sz) (h.new ty news true):=⟨fun t ht=>⟨by
 simp only[tdo,Rd.lk_val hx ht,Rd.lk_val hy ht]
 unfold appendK newsK
 show bb (Nat.beq sz sz) (loadRow h yb yo (m*sz) fun l=>_)=_
 rw[show Nat.beq sz sz=true from Nat.beq_refl _,bb_t,load_eq (Nat.mul_pos hm hsz) hn.eq]
 show bb (Nat.beq sz sz) (bb (Nat.ble ((0+m+0)*by_) 4294967296) (fN (0+m) fun m'=>br (Nat.ble m' 0) _ (br true (loadRow h b 0 (0*sz) fun olds=>growK sz ty h m' (olds++news) _) _)))=_
 rw[show Nat.beq sz sz=true from Nat.beq_refl _,bb_t,Nat.zero_add,Nat.add_zero,ble_t hb,bb_t,fN_eq,show Nat.ble m 0=false by
  cases hq:Nat.ble m 0 with
  | false=>rfl
  | true=>exact absurd (Nat.le_of_ble_eq_true hq) (by omega),br_f,br_t,Nat.zero_mul]
 obtain⟨c,hbg⟩:=row_some hr
 unfold loadRow rowR
 rw[hbg,ob_s]
 show bb (Nat.ble (0+0) hi) (ob (some []) fun olds=>growK sz ty h m (olds++news) _)=_
 rw[ble_t (Nat.zero_le _),bb_t,ob_s,List.nil_append]
 unfold growK
 rw[newRow_eq,h1,bb_t]
 rfl⟩⟩
theorem val_c_ {op:Top} {e:Env} {h:H} {v:V} {t:Tr V} (hd:Od op e h v h) (ht:Tm t e):Rx.val t h (.c op)=some v:=by
 show ob (tdo noC op t h) _=_
 rw[(hd.eq t ht).eq,ob_s]
theorem rtc_ {op:Top} {e:Env} {h:H} {v:V} (hd:Od op e h v h):Rt [.c op] e h v:=⟨fun t ht=>by
 show ob (ob (Rx.val t h (.c op)) fun a=>ob (some []) fun l=>some (a :: l)) _=_
 rw[val_c_ hd ht]
 rfl⟩
theorem rtct_ {op:Top} {e:Env} {h:H} {v w:V} {j:Nat} (hd:Od op e h v h) (hj:look e j=some w):Rt [.c op,.t j] e h (.tup [v,w]):=⟨fun t ht=>by
 have h1:=ht.eq _ _ hj
 subst h1
 show ob (ob (Rx.val t h (.c op)) fun a=>ob (ob (some (orU (t.get j))) fun b=>ob (some []) fun l=>some (b :: l)) fun l=>some (a :: l)) _=_
 rw[val_c_ hd ht]
 rfl⟩
section
variable {m:Bool} {P:Program} {r:Option Nat} {N:Nat} {K:List Fr} {e:Env} {h:H} {R:V→H→Prop}
theorem ret_c {op:Top} {v:V} (hd:Od op e h v h) (hR:R v h):Es ⟨m,P,r,N,fun e h=>∃v,Rt [.c op] e h v∧R v h⟩ K .ret e h:=Es.ret ⟨_,rtc_ hd,hR⟩
theorem ret_ct {op:Top} {v w:V} {j:Nat} (hd:Od op e h v h) (hR:R (.tup [v,w]) h) (hj:look e j=some w:=by exact rfl):Es ⟨m,P,r,N,fun e h=>∃v,Rt [.c op,.t j] e h v∧R v h⟩ K .ret e h:=Es.ret ⟨_,rtct_ hd hj,hR⟩
end
theorem em_bs {C:Cx} {d j len sz:Nat} {ty:TypeId} {us:List Nat} {lm:List (So × Kd)} {e:Env} {hs h:H} {st:List (Option Nat × H)} {ps:List Pd} {Q:Env→H→Prop} {zs l:List V} {qs:List (Nat × Nat × Rd)} {vs:List (Nat × Nat × V)} (hp:partsE e qs=some vs) (hf:fillL (rep zs len) vs=some l) (hz:allOne l=true) (hl:Lv j (h.new ty l false).t ps)
  (hr:Em C lm (j+1) ((d,.sl h.next 0 len len true sz) :: e) (h.new ty l false) (h.new ty l false) ((some j,h.new ty l false) :: st) ps Q):Em C ((⟨none,some d,.bs ty len sz zs qs,us⟩,.e) :: lm) j e hs h st ps Q:=em_e .n (od_bs hp hf hz) hl hr
theorem em_ap {α:Type} [Inhabited α] {C:Cx} {d j sz by_ n0 b:Nat} {ty:TypeId} {us:List Nat} {lm:List (So × Kd)} {e:Env} {hs h:H} {st:List (Option Nat × H)} {ps:List Pd} {Q:Env→H→Prop} {c:α→Nat→V} {rows:List α} {v:V} {x y:Rd} (a:α)
  (hg:Gw h n0 v sz ty c rows) (hx:x.lk e=some v) (hy:y.lk e=some (.sl b 0 1 1 true sz)) (hrw:Rw h b (1*sz) 0 (upto (c a) sz 0)) (hz:allOne (upto (c a) sz 0)=true) (hsz:0<sz) (hb:(2*rows.length+1)*by_≤4294967296) (hn0:n0≤h.next)
  (hl:∀h',Mo h h' v.blk→Lv j h'.t ps) (hr:∀v' h',v'.blk=some h.next→Gw h' n0 v' sz ty c (rows++[a])→Mo h h' v.blk→Em C lm (j+1) ((d,v') :: e) h' h' ((some j,h') :: st) ps Q):Em C ((⟨none,some d,.ap ty sz by_ x y,us⟩,.e) :: lm) j e hs h st ps Q:=by
 obtain⟨h',h2,h3,h4,h5,h6⟩:=od_ap (by_:=by_) hg.grow hx hy Nat.one_pos hsz hrw hz hb
 have hlen:rows.length+1=(rows++[a]).length:=by simp
 have h4':Grow h' (.sl h.next 0 (rows++[a]).length (rows++[a]).length false sz) sz ty (flat c sz (rows++[a])) (rows++[a]).length:=by
  rw[←hlen,flatG_app]
  show Grow h' _ sz ty (flat c sz rows++(upto (c a) sz 0++[])) _
  rw[List.append_nil]
  exact h4
 have hm:Mo h h' v.blk:=⟨by rw[h3];omega,fun k hk hne=>h5 k (by omega) hne,h6⟩
 have hv:(.sl h.next 0 (rows.length+1) (rows.length+1) false sz:V)=.sl h.next 0 (rows++[a]).length (rows++[a]).length false sz:=by rw[hlen]
 rw[hv]at h2
 exact em_e .n h2 (hl h' hm) (hr _ h' rfl (Gw.of_grow h4' hn0 (by rw[h3];omega)) hm)
noncomputable section
structure Pr (P:Nat→Prop) (h h':H):Prop where
 le:h.next≤h'.next
 get:∀k,k<h.next→¬P k→h'.t.get k=h.t.get k
 wf:Wf h→Wf h'
section
variable {P:Nat→Prop} {h h' h2:H}
theorem Pr.refl (P:Nat→Prop) (h:H):Pr P h h:=⟨Nat.le_refl _,fun _ _ _=>rfl,id⟩
theorem Pr.of_mo {b:Option Nat} (m:Mo h h' b) (hb:∀k,b=some k→P k):Pr P h h':=⟨m.le,fun k hk hn=>m.get k hk fun e=>hn (hb k e),m.wf⟩
theorem Pr.of_kp (k:Kp h h'):Pr P h h':=⟨k.le,fun j hj _=>k.old.get j hj,k.wf⟩
theorem Pr.trans (a:Pr P h h') (b:Pr P h' h2):Pr P h h2:=⟨Nat.le_trans a.le b.le,fun k hk hn=>(b.get k (Nat.lt_of_lt_of_le hk a.le) hn).trans (a.get k hk hn),fun hw=>b.wf (a.wf hw)⟩
theorem Pr.sub {P':Nat→Prop} (a:Pr P h h') (hs:∀k,k<h.next→P k→P' k):Pr P' h h':=⟨a.le,fun k hk hn=>a.get k hk fun hp=>hn (hs k hk hp),a.wf⟩
theorem Pr.cell (a:Pr P h h') {b o:Nat} (hb:b<h.next) (hP:¬P b):h'.cell b o=h.cell b o:=by
 unfold H.cell
 rw[a.get b hb hP]
theorem Pr.row (a:Pr P h h') {b:Nat} (hb:b<h.next) (hP:¬P b):h'.row b=h.row b:=by
 unfold H.row
 rw[a.get b hb hP]
theorem Pr.bx {b:Nat} {l:List V} (a:Pr P h h') (hb:Bx h b l) (hl:b<h.next) (hP:¬P b):Bx h' b l:=⟨fun k v hk=>⟨by
 rw[a.cell hl hP]
 exact(hb.eq k v hk).eq⟩⟩
theorem Pr.ob {n0 b:Nat} {ty:TypeId} {l:List V} (a:Pr P h h') (ho:Ob h n0 b ty l) (hP:¬P b):Ob h' n0 b ty l:=⟨ho.lo,Nat.lt_of_lt_of_le ho.hi a.le,by
 obtain⟨p,hp⟩:=ho.row
 exact⟨p,by rw[a.row ho.hi hP];exact hp⟩,a.bx ho.bx ho.hi hP⟩
theorem Pr.mp {n0 b:Nat} {k:IntKind} {ml:List (Int × V)} (a:Pr P h h') (hm:Mp h n0 b k ml) (hP:¬P b):Mp h' n0 b k ml:=⟨hm.lo,Nat.lt_of_lt_of_le hm.hi a.le,by
 have:=hm.at_
 unfold MapAt at this ⊢
 rw[a.get b hm.hi hP]
 exact this⟩
theorem Pr.kp {h0:H} (a:Pr P h h') (k:Kp h0 h) (hP:∀k,P k→h0.next≤k):Kp h0 h':=⟨⟨Nat.le_trans k.le a.le,fun j hj=>(a.get j (Nat.lt_of_lt_of_le hj k.le) fun hp=>by have:=hP j hp;omega).trans (k.old.get j hj)⟩,fun hw=>a.wf (k.wf hw)⟩
section
variable {α:Type} [Inhabited α] {v:V} {sz n0:Nat} {ty:TypeId} {c:α→Nat→V} {l:List α}
theorem Pr.ar (a:Pr P h h') (hg:Ar h n0 v sz ty c l) (hP:¬P v.ba):Ar h' n0 v sz ty c l:=by
 obtain⟨b',p,rfl,h1,h2,h3⟩:=hg.own
 exact⟨hg.ln,⟨fun i k hi hk=>⟨(a.cell (b:=b') h2 hP).trans (hg.cs.eq i k hi hk).eq⟩⟩,b',p,rfl,h1,Nat.lt_of_lt_of_le h2 a.le,by rw[a.row h2 hP];exact h3⟩
theorem Pr.ro (a:Pr P h h') (hw:Wf h) (_hsz:0<sz) (hr:Ro h v sz c l) (hP:0<l.length→¬P v.ba):Ro h' v sz c l:=⟨hr.ln,⟨fun i k hi hk=>⟨by
 have h1:=hr.cs.eq i k hi hk
 rw[a.cell (h1.lt hw) (hP (by omega))]
 exact h1.eq⟩⟩⟩
structure Gx (h:H) (n0:Nat) (v:V) (sz:Nat) (ty:TypeId) (c:α→Nat→V) (l:List α):Prop where
 ln:Ln v sz l.length
 cs:Cs h v sz l.length fun i k=>c (gt l i) k
 own:(v=.ns∧l = [])∨(∃b o,v=.sl b o l.length l.length false sz∧n0≤b∧b<h.next∧h.row b=some (ty,o+l.length*sz,true))∨∃b,v=.sl b 0 l.length l.length true sz∧0<l.length∧n0≤b∧b<h.next
theorem Gx.ro (hg:Gx h n0 v sz ty c l):Ro h v sz c l:=⟨hg.ln,hg.cs⟩
theorem Gw.gx (hg:Gw h n0 v sz ty c l):Gx h n0 v sz ty c l:=⟨hg.ln,hg.cs,hg.own.imp id .inl⟩
theorem Gx.blk (hg:Gx h n0 v sz ty c l):∀k,V.blk v=some k→n0≤k∧k<h.next:=fun k hk=>by
 rcases hg.own with⟨rfl,_⟩ | ⟨b,o,rfl,h1,h2,_⟩ | ⟨b,rfl,_,h1,h2⟩
 ·cases hk
 ·injection hk with hk
  subst hk
  exact⟨h1,h2⟩
 ·injection hk with hk
  subst hk
  exact⟨h1,h2⟩
theorem Gx.low {n1:Nat} (hg:Gx h n0 v sz ty c l) (hn:n1≤n0):Gx h n1 v sz ty c l:=⟨hg.ln,hg.cs,by
 rcases hg.own with h1 | ⟨b,o,h1,h2,h3⟩ | ⟨b,h1,h2,h3,h4⟩
 ·exact .inl h1
 ·exact .inr (.inl ⟨b,o,h1,Nat.le_trans hn h2,h3⟩)
 ·exact .inr (.inr ⟨b,h1,h2,Nat.le_trans hn h3,h4⟩)⟩
theorem Gx.mo {b:Option Nat} (hg:Gx h n0 v sz ty c l) (m:Mo h h' b) (hb:∀k,V.blk v=some k→b≠some k):Gx h' n0 v sz ty c l:=by
 rcases hg.own with⟨rfl,rfl⟩ | ⟨b',o,rfl,h1,h2,h3⟩ | ⟨b',rfl,h0,h1,h2⟩
 ·exact Gw.gx .nil
 ·have hne:=hb b' rfl
  exact⟨hg.ln,hg.cs.mo m fun _=>⟨h2,hne⟩,.inr (.inl ⟨b',o,rfl,h1,Nat.lt_of_lt_of_le h2 m.le,by rw[m.row h2 hne];exact h3⟩)⟩
 ·have hne:=hb b' rfl
  exact⟨hg.ln,hg.cs.mo m fun _=>⟨h2,hne⟩,.inr (.inr ⟨b',rfl,h0,h1,Nat.lt_of_lt_of_le h2 m.le⟩)⟩
theorem Pr.gx (a:Pr P h h') (hg:Gx h n0 v sz ty c l) (hP:∀k,v.blk=some k→¬P k):Gx h' n0 v sz ty c l:=by
 rcases hg.own with⟨rfl,rfl⟩ | ⟨b',o,rfl,h1,h2,h3⟩ | ⟨b',rfl,h0,h1,h2⟩
 ·exact Gw.gx .nil
 ·have hne:=hP b' rfl
  exact⟨hg.ln,⟨fun i k hi hk=>⟨(a.cell (b:=b') h2 hne).trans (hg.cs.eq i k hi hk).eq⟩⟩,.inr (.inl ⟨b',o,rfl,h1,Nat.lt_of_lt_of_le h2 a.le,by rw[a.row h2 hne];exact h3⟩)⟩
 ·have hne:=hP b' rfl
  exact⟨hg.ln,⟨fun i k hi hk=>⟨(a.cell (b:=b') h2 hne).trans (hg.cs.eq i k hi hk).eq⟩⟩,.inr (.inr ⟨b',rfl,h0,h1,Nat.lt_of_lt_of_le h2 a.le⟩)⟩
theorem Pr.gw (a:Pr P h h') (hg:Gw h n0 v sz ty c l) (hP:∀k,v.blk=some k→¬P k):Gw h' n0 v sz ty c l:=by
 rcases hg.own with⟨rfl,rfl⟩ | ⟨b',o,rfl,h1,h2,h3⟩
 ·exact .nil
 ·have hne:=hP b' rfl
  exact⟨hg.ln,⟨fun i k hi hk=>⟨(a.cell (b:=b') h2 hne).trans (hg.cs.eq i k hi hk).eq⟩⟩,.inr ⟨b',o,rfl,h1,Nat.lt_of_lt_of_le h2 a.le,by rw[a.row h2 hne];exact h3⟩⟩
theorem allOne_flat {α:Type} {c:α→Nat→V} {sz:Nat} (h1:∀x:α,allOne (upto (c x) sz 0)=true):∀l:List α,allOne (flat c sz l)=true
 | []=>rfl
 | x :: l=>allOne_append (h1 x) (allOne_flat h1 l)
theorem Gx.app {e:Env} {x y:Rd} {by_ b:Nat} {rows:List α} (a:α) (hg:Gx h n0 v sz ty c rows) (hx:x.lk e=some v) (hy:y.lk e=some (.sl b 0 1 1 true sz)) (hrw:Rw h b (1*sz) 0 (upto (c a) sz 0)) (h1:∀x:α,allOne (upto (c x) sz 0)=true) (hsz:0<sz) (hb:(2*rows.length+1)*by_≤4294967296) (hn0:n0≤h.next) :
  ∃v' h',Od (.ap ty sz by_ x y) e h v' h'∧v'.blk=some h.next∧Gw h' n0 v' sz ty c (rows++[a])∧Mo h h' v.blk:=by
 have hlen:rows.length+1=(rows++[a]).length:=by simp
 have key:Gw h n0 v sz ty c rows→∃v' h',Od (.ap ty sz by_ x y) e h v' h'∧v'.blk=some h.next∧Gw h' n0 v' sz ty c (rows++[a])∧Mo h h' v.blk:=by
  intro hg
  obtain⟨h',h2,h3,h4,h5,h6⟩:=od_ap (by_:=by_) hg.grow hx hy Nat.one_pos hsz hrw (h1 a) hb
  have h4':Grow h' (.sl h.next 0 (rows++[a]).length (rows++[a]).length false sz) sz ty (flat c sz (rows++[a])) (rows++[a]).length:=by
   rw[←hlen,flatG_app]
   show Grow h' _ sz ty (flat c sz rows++(upto (c a) sz 0++[])) _
   rw[List.append_nil]
   exact h4
  have hv:(.sl h.next 0 (rows.length+1) (rows.length+1) false sz:V)=.sl h.next 0 (rows++[a]).length (rows++[a]).length false sz:=by rw[hlen]
  rw[hv]at h2
  exact⟨_,h',h2,rfl,Gw.of_grow h4' hn0 (by rw[h3];omega),by rw[h3];omega,fun k hk hne=>h5 k (by omega) hne,h6⟩
 rcases hg.own with h2 | ⟨b',o,h2,h3,h4,h5⟩ | ⟨b',rfl,h2,h3,h4⟩
 ·exact key ⟨hg.ln,hg.cs,.inl h2⟩
 ·exact key ⟨hg.ln,hg.cs,.inr ⟨b',o,h2,h3,h4,h5⟩⟩
 ·have hfl:=allOne_flat (sz:=sz) h1 (rows++[a])
  have hfe:flat c sz (rows++[a])=flat c sz rows++upto (c a) sz 0:=by
   rw[flatG_app]
   show flat c sz rows++(upto (c a) sz 0++[])=_
   rw[List.append_nil]
  have h6:=od_apk (e:=e) (h:=h) (x:=x) (y:=y) (ty:=ty) (by_:=by_) hx hy h2 Nat.one_pos hsz (Nat.lt_succ_self _) hg.ro.rows hrw (by rw[←hfe];exact hfl) (by rw[show rows.length+1+rows.length=2*rows.length+1 by omega];exact hb)
  rw[←hfe,hlen]at h6
  have hk:Mo h (h.new ty (flat c sz (rows++[a])) true) (V.blk (.sl b' 0 rows.length rows.length true sz)):=Mo.of_kp kp_new _
  refine⟨_,_,h6,rfl,⟨.sl (Nat.le_refl _),⟨fun i k hi hk=>⟨?_⟩⟩,.inr ⟨h.next,0,rfl,hn0,Nat.lt_succ_self _,?_⟩⟩,hk⟩
  ·show(h.new ty (flat c sz (rows++[a])) true).cell h.next (0+i*sz+k)=_
   rw[new_cell,if_pos rfl,Nat.zero_add,flatG_get _ _ _ hi hk]
  ·rw[new_row,if_pos rfl,flatG_len,Nat.zero_add]
theorem em_gx {C:Cx} {d j by_ b:Nat} {us:List Nat} {lm:List (So × Kd)} {e:Env} {hs:H} {st:List (Option Nat × H)} {ps:List Pd} {Q:Env→H→Prop} {rows:List α} {x y:Rd} (a:α)
  (hg:Gx h n0 v sz ty c rows) (hx:x.lk e=some v) (hy:y.lk e=some (.sl b 0 1 1 true sz)) (hrw:Rw h b (1*sz) 0 (upto (c a) sz 0)) (h1:∀x:α,allOne (upto (c x) sz 0)=true) (hsz:0<sz) (hb:(2*rows.length+1)*by_≤4294967296) (hn0:n0≤h.next)
  (hl:∀h',Mo h h' v.blk→Lv j h'.t ps) (hr:∀v' h',v'.blk=some h.next→Gw h' n0 v' sz ty c (rows++[a])→Mo h h' v.blk→Em C lm (j+1) ((d,v') :: e) h' h' ((some j,h') :: st) ps Q):Em C ((⟨none,some d,.ap ty sz by_ x y,us⟩,.e) :: lm) j e hs h st ps Q:=by
 obtain⟨v',h',h2,h3,h4,h5⟩:=hg.app a hx hy hrw h1 hsz hb hn0
 exact em_e .n h2 (hl h' h5) (hr v' h' h3 h4 h5)
def tlV (v:V) (m:Nat):V:=match v with
 | .sl b o n cap kn sz=>.sl b (if kn=true∧cap=m then o else o+m*sz) (n-m) (cap-m) kn sz
 | v=>v
theorem Ro.tl {m:Nat} (hr:Ro h v sz c l) (hm:m≤l.length):Ro h (tlV v m) sz c (l.drop m):=by
 rcases hr.ln.is with⟨rfl,h0⟩ | ⟨b,o,cap,kn,rfl,h1⟩
 ·have:l = []:=List.length_eq_zero_iff.1 h0
  subst this
  rw[List.drop_nil]
  exact .nil
 ·refine⟨by rw[List.length_drop];exact .sl (by omega),⟨fun i k hi hk=>?_⟩⟩
  rw[List.length_drop]at hi
  have:=hr.cs.eq (m+i) k (by omega) hk
  rw[gt_drop]
  show Ce h b ((if kn=true∧cap=m then o else o+m*sz)+i*sz+k) _
  rw[if_neg (by omega),show o+m*sz+i*sz+k=o+(m+i)*sz+k by rw[Nat.add_mul];omega]
  exact this
theorem Gw.tl {x:α} {l:List α} (hg:Gw h n0 v sz ty c (x :: l)):Gw h n0 (tlV v 1) sz ty c l∧(tlV v 1).blk=v.blk:=by
 rcases hg.own with⟨_,h⟩ | ⟨b,o,rfl,h1,h2,h3⟩
 ·cases h
 ·have e:tlV (.sl b o (x :: l).length (x :: l).length false sz) 1=.sl b (o+sz) l.length l.length false sz:=by
   show V.sl b (if false=true∧(x :: l).length=1 then o else o+1*sz) ((x :: l).length-1) ((x :: l).length-1) false sz=_
   rw[if_neg (fun h=>by cases h.1),Nat.one_mul,List.length_cons,Nat.add_sub_cancel]
  rw[e]
  refine⟨⟨.sl (Nat.le_refl _),⟨fun i k hi hk=>?_⟩,.inr ⟨b,o+sz,rfl,h1,h2,?_⟩⟩,rfl⟩
  ·have:=hg.cs.eq (i+1) k (by rw[List.length_cons];omega) hk
   show Ce h b (o+sz+i*sz+k) _
   rw[show o+sz+i*sz+k=o+(i+1)*sz+k by rw[Nat.add_mul];omega]
   exact this
  ·rw[h3,List.length_cons,Nat.add_mul,Nat.one_mul,show o+(l.length*sz+sz)=o+sz+l.length*sz by omega]
theorem od_tl {e:Env} {x y:Rd} {n m:Nat} (hl:Ln v sz n) (hm:m≤n) (hx:x.lk e=some v) (hy:y.lk e=some (.i .i64 (m:Int))):Od (.s2 sz x (some y) none) e h (tlV v m) h:=by
 rcases hl.is with⟨rfl,rfl⟩ | ⟨b,o,cap,kn,rfl,h1⟩
 ·obtain rfl:m=0:=by omega
  exact od_s2n hx (.at hy) .no
 ·exact od_s2 hx (.at hy) .no hm h1
end
end
theorem em_arQ {α:Type} [Inhabited α] {C:Cx} {n0 sz i j:Nat} {us:List Nat} {lm:List (So × Kd)} {e:Env} {hs h:H} {st:List (Option Nat × H)} {ps:List Pd} {Q:Env→H→Prop} {v w:V} {ty:TypeId} {c:α→Nat→V} {l:List α} {a xr:Rd} {vs:List V} {g:Option (Nat × Bool)} (x:α) (ho:Ar h n0 v sz ty c l) (hi:i<l.length) (hr:∀h1,Ar h1 n0 v sz ty c (l.set i x)→Mo h h1 (some v.ba)→Em C lm (j+1) e h1 h1 ((some j,h1) :: st) ps Q)
  (hw:Gd e g true:=by first | exact .n | exact .tt rfl | exact .ff rfl) (ha:a.lk e=some (.p v.ba (v.of+i*sz)):=by exact rfl) (hx:xr.lk e=some w:=by exact rfl) (hv:w.cells=vs:=by exact rfl) (hu:vs=upto (c x) sz 0:=by exact rfl) (h1:allOne vs=true:=by exact rfl) (hl:∀h1,Mo h h1 (some v.ba)→Lv j h1.t ps):Em C ((⟨g,none,.st a xr sz,us⟩,.e) :: lm) j e hs h st ps Q:=by
 have h3:=ho.st (x:=x) hi hu
 obtain⟨b,p,hb,h4,h5,h6⟩:=ho.own
 have hle:v.of+i*sz+sz≤l.length*sz:=by
  have:(i+1)*sz≤l.length*sz:=Nat.mul_le_mul_right _ hi
  rw[Nat.add_mul]at this
  rw[hb]
  show 0+i*sz+sz≤_
  omega
 have h7:h.row v.ba=some (ty,l.length*sz,p):=by rw[hb];exact h6
 exact em_eu hw (od_st ha hx hv (by rw[hu,upto_len]) h1 h7 hle) (hl _ h3.2) (hr _ h3.1 h3.2)
structure Mac {α:Type} [Inhabited α] (h:H) (n0:Nat) (P:Nat→Prop) (vq vo:V) (tq to_:TypeId) (sz:Nat) (ty:TypeId) (c:α→Nat→V) (Q O:List (List α)) (qs os:List V):Prop where
 q:Ar h n0 vq 1 tq vcell qs
 o:Ar h n0 vo 1 to_ vcell os
 ql:qs.length=Q.length
 ol:os.length=O.length
 qr:∀t,t<Q.length→Gw h n0 (gt qs t) sz ty c (gt Q t)
 or_:∀x,x<O.length→Gx h n0 (gt os x) sz ty c (gt O x)
 hd:vq.ba≠vo.ba
 qa:∀t,t<Q.length→∀k,(gt qs t).blk=some k→k≠vq.ba∧k≠vo.ba∧P k
 oa:∀x,x<O.length→∀k,(gt os x).blk=some k→k≠vq.ba∧k≠vo.ba∧P k
 qq:∀s t,s<Q.length→t<Q.length→s≠t→∀k,(gt qs s).blk=some k→(gt qs t).blk≠some k
 oo:∀s t,s<O.length→t<O.length→s≠t→∀k,(gt os s).blk=some k→(gt os t).blk≠some k
 qo:∀s t,s<Q.length→t<O.length→∀k,(gt qs s).blk=some k→(gt os t).blk≠some k
 pq:P vq.ba
 po:P vo.ba
section
variable {α:Type} [Inhabited α] {h h':H} {n0:Nat} {P:Nat→Prop} {vq vo:V} {tq to_:TypeId} {sz:Nat} {ty:TypeId} {c:α→Nat→V} {Q O:List (List α)} {qs os:List V}
theorem Mac.kp (k:Kp h h') (hm:Mac h n0 P vq vo tq to_ sz ty c Q O qs os):Mac h' n0 P vq vo tq to_ sz ty c Q O qs os :=
 { hm with q:=hm.q.mo (Mo.of_kp k none) (fun e=>by cases e),o:=hm.o.mo (Mo.of_kp k none) (fun e=>by cases e),qr:=fun t ht=>(hm.qr t ht).mo (Mo.of_kp k none) (fun _ _ e=>by cases e),or_:=fun t ht=>(hm.or_ t ht).mo (Mo.of_kp k none) (fun _ _ e=>by cases e) }
theorem Mac.mo {b:Option Nat} (m:Mo h h' b) (hm:Mac h n0 P vq vo tq to_ sz ty c Q O qs os) (hb:∀k,b=some k→¬P k):Mac h' n0 P vq vo tq to_ sz ty c Q O qs os :=
 { hm with q:=hm.q.mo m (fun e=>hb _ e hm.pq),o:=hm.o.mo m (fun e=>hb _ e hm.po),qr:=fun t ht=>(hm.qr t ht).mo m (fun k hk e=>hb k e (hm.qa t ht k hk).2.2),or_:=fun t ht=>(hm.or_ t ht).mo m (fun k hk e=>hb k e (hm.oa t ht k hk).2.2) }
theorem Mac.setQ {t : Nat} {v' : V} {l : List α} (hm : Mac h n0 P vq vo tq to_ sz ty c Q O qs os) (ht : t < Q.length) (p : Pr (fun k => k = vq.ba ∨ (gt qs t).blk = some k) h h') (hA : Ar h' n0 vq 1 tq vcell (qs.set t v')) (hG : Gw h' n0 v' sz ty c l)
    (hf : ∀ k, v'.blk = some k → (gt qs t).blk = some k ∨ (h.next ≤ k ∧ P k)) : Mac h' n0 P vq vo tq to_ sz ty c (Q.set t l) O (qs.set t v') os ∧ Pr P h h' := by
  have l0 := hm.ql
  have lo1 := hm.q.blk.2.2
  have lo2 := hm.o.blk.2.2
  have hqa := hm.qa t ht
  have hnew : ∀ k, v'.blk = some k → k ≠ vq.ba ∧ k ≠ vo.ba ∧ P k := fun k hk => by
    rcases hf k hk with e | ⟨h1, h2⟩
    · exact hqa k e
    · exact ⟨by omega, by omega, h2⟩
  refine ⟨?_, p.sub fun k _ hk => by
    rcases hk with e | e
    · rw [e]; exact hm.pq
    · exact (hqa k e).2.2⟩
  exact
  { q := hA
    o := p.ar hm.o fun hk => by
      rcases hk with e | e
      · exact hm.hd e.symm
      · exact (hqa _ e).2.1 rfl
    ql := by rw [List.length_set, List.length_set]; exact hm.ql
    ol := hm.ol
    qr := fun s hs => by
      rw [List.length_set] at hs
      rw [gt_set (by omega), gt_set ht]
      by_cases e : s = t
      · rw [if_pos e, if_pos e]; exact hG
      · rw [if_neg e, if_neg e]
        exact p.gw (hm.qr s hs) fun k hk e2 => by
          rcases e2 with e2 | e2
          · exact (hm.qa s hs k hk).1 e2
          · exact hm.qq s t hs ht e k hk e2
    or_ := fun s hs => p.gx (hm.or_ s hs) fun k hk e2 => by
      rcases e2 with e2 | e2
      · exact (hm.oa s hs k hk).1 e2
      · exact hm.qo t s ht hs k e2 hk
    hd := hm.hd
    qa := fun s hs k hk => by
      rw [List.length_set] at hs
      rw [gt_set (by omega)] at hk
      by_cases e : s = t
      · rw [if_pos e] at hk; exact hnew k hk
      · rw [if_neg e] at hk; exact hm.qa s hs k hk
    oa := hm.oa
    qq := fun s r hs hr hne k hk => by
      rw [List.length_set] at hs hr
      rw [gt_set (by omega)] at hk ⊢
      by_cases e : s = t
      · rw [if_pos e] at hk
        rw [if_neg (by omega)]
        rcases hf k hk with e2 | ⟨h1, h2⟩
        · exact hm.qq t r ht hr (by omega) k e2
        · exact fun e2 => by have := ((hm.qr r hr).blk k e2).2; omega
      · rw [if_neg e] at hk
        by_cases e3 : r = t
        · rw [if_pos e3]
          intro e4
          rcases hf k e4 with e2 | ⟨h1, h2⟩
          · exact hm.qq s t hs ht e k hk e2
          · have := ((hm.qr s hs).blk k hk).2; omega
        · rw [if_neg e3]; exact hm.qq s r hs hr hne k hk
    oo := hm.oo
    qo := fun s r hs hr k hk => by
      rw [List.length_set] at hs
      rw [gt_set (by omega)] at hk
      by_cases e : s = t
      · rw [if_pos e] at hk
        rcases hf k hk with e2 | ⟨h1, h2⟩
        · exact hm.qo t r ht hr k e2
        · exact fun e2 => by have := ((hm.or_ r hr).blk k e2).2; omega
      · rw [if_neg e] at hk; exact hm.qo s r hs hr k hk
    pq := hm.pq
    po := hm.po }
theorem Mac.setO {t : Nat} {v' : V} {l : List α} (hm : Mac h n0 P vq vo tq to_ sz ty c Q O qs os) (ht : t < O.length) (p : Pr (fun k => k = vo.ba ∨ (gt os t).blk = some k) h h') (hA : Ar h' n0 vo 1 to_ vcell (os.set t v')) (hG : Gx h' n0 v' sz ty c l)
    (hf : ∀ k, v'.blk = some k → (gt os t).blk = some k ∨ (h.next ≤ k ∧ P k)) : Mac h' n0 P vq vo tq to_ sz ty c Q (O.set t l) qs (os.set t v') ∧ Pr P h h' := by
  have l0 := hm.ol
  have lo1 := hm.q.blk.2.2
  have lo2 := hm.o.blk.2.2
  have hoa := hm.oa t ht
  have hnew : ∀ k, v'.blk = some k → k ≠ vq.ba ∧ k ≠ vo.ba ∧ P k := fun k hk => by
    rcases hf k hk with e | ⟨h1, h2⟩
    · exact hoa k e
    · exact ⟨by omega, by omega, h2⟩
  refine ⟨?_, p.sub fun k _ hk => by
    rcases hk with e | e
    · rw [e]; exact hm.po
    · exact (hoa k e).2.2⟩
  exact
  { q := p.ar hm.q fun hk => by
      rcases hk with e | e
      · exact hm.hd e
      · exact (hoa _ e).1 rfl
    o := hA
    ql := hm.ql
    ol := by rw [List.length_set, List.length_set]; exact hm.ol
    qr := fun s hs => p.gw (hm.qr s hs) fun k hk e2 => by
      rcases e2 with e2 | e2
      · exact (hm.qa s hs k hk).2.1 e2
      · exact hm.qo s t hs ht k hk e2
    or_ := fun s hs => by
      rw [List.length_set] at hs
      rw [gt_set (by omega), gt_set ht]
      by_cases e : s = t
      · rw [if_pos e, if_pos e]; exact hG
      · rw [if_neg e, if_neg e]
        exact p.gx (hm.or_ s hs) fun k hk e2 => by
          rcases e2 with e2 | e2
          · exact (hm.oa s hs k hk).2.1 e2
          · exact hm.oo s t hs ht e k hk e2
    hd := hm.hd
    qa := hm.qa
    oa := fun s hs k hk => by
      rw [List.length_set] at hs
      rw [gt_set (by omega)] at hk
      by_cases e : s = t
      · rw [if_pos e] at hk; exact hnew k hk
      · rw [if_neg e] at hk; exact hm.oa s hs k hk
    qq := hm.qq
    oo := fun s r hs hr hne k hk => by
      rw [List.length_set] at hs hr
      rw [gt_set (by omega)] at hk ⊢
      by_cases e : s = t
      · rw [if_pos e] at hk
        rw [if_neg (by omega)]
        rcases hf k hk with e2 | ⟨h1, h2⟩
        · exact hm.oo t r ht hr (by omega) k e2
        · exact fun e2 => by have := ((hm.or_ r hr).blk k e2).2; omega
      · rw [if_neg e] at hk
        by_cases e3 : r = t
        · rw [if_pos e3]
          intro e4
          rcases hf k e4 with e2 | ⟨h1, h2⟩
          · exact hm.oo s t hs ht e k hk e2
          · have := ((hm.or_ s hs).blk k hk).2; omega
        · rw [if_neg e3]; exact hm.oo s r hs hr hne k hk
    qo := fun s r hs hr k hk => by
      rw [List.length_set] at hr
      rw [gt_set (by omega)]
      by_cases e : r = t
      · rw [if_pos e]
        intro e4
        rcases hf k e4 with e2 | ⟨h1, h2⟩
        · exact hm.qo s t hs ht k hk e2
        · have := ((hm.qr s hs).blk k hk).2; omega
      · rw [if_neg e]; exact hm.qo s r hs hr k hk
    pq := hm.pq
    po := hm.po }
theorem Mac.putO {h1 h2 h3:H} {t:Nat} {v':V} {l:List α} (hm:Mac h n0 P vq vo tq to_ sz ty c Q O qs os) (ht:t<O.length) (k1:Kp h h1) (m2:Mo h1 h2 (gt os t).blk) (m3:Mo h2 h3 (some vo.ba)) (hA:Ar h3 n0 vo 1 to_ vcell (os.set t v')) (hG:Gx h3 n0 v' sz ty c l)
  (hf:∀k,v'.blk=some k→(gt os t).blk=some k∨(h.next≤k∧P k)):Mac h3 n0 P vq vo tq to_ sz ty c Q (O.set t l) qs (os.set t v')∧Pr P h h3 :=
 hm.setO ht ((Pr.of_kp k1).trans ((Pr.of_mo m2 fun k e=>.inr e).trans (Pr.of_mo m3 fun k e=>.inl (by injection e with e;exact e.symm)))) hA hG hf
theorem Mac.chP {P':Nat→Prop} (hm:Mac h n0 P vq vo tq to_ sz ty c Q O qs os) (hs:∀k,k<h.next→P k→P' k):Mac h n0 P' vq vo tq to_ sz ty c Q O qs os :=
 { hm with qa:=fun t ht k hk=>⟨(hm.qa t ht k hk).1,(hm.qa t ht k hk).2.1,hs k ((hm.qr t ht).blk k hk).2 (hm.qa t ht k hk).2.2⟩,oa:=fun t ht k hk=>⟨(hm.oa t ht k hk).1,(hm.oa t ht k hk).2.1,hs k ((hm.or_ t ht).blk k hk).2 (hm.oa t ht k hk).2.2⟩,pq:=hs _ hm.q.blk.2.2 hm.pq,po:=hs _ hm.o.blk.2.2 hm.po }
theorem Mac.pr {P':Nat→Prop} (p:Pr P' h h') (hm:Mac h n0 P vq vo tq to_ sz ty c Q O qs os) (hb:∀k,P k→¬P' k):Mac h' n0 P vq vo tq to_ sz ty c Q O qs os :=
 { hm with q:=p.ar hm.q (hb _ hm.pq),o:=p.ar hm.o (hb _ hm.po),qr:=fun t ht=>p.gw (hm.qr t ht) fun k hk=>hb k (hm.qa t ht k hk).2.2,or_:=fun t ht=>p.gx (hm.or_ t ht) fun k hk=>hb k (hm.oa t ht k hk).2.2 }
end
end
def s40 : Sc:=(.seq (.region [Y 4 (.mv (.c (.i .i64 0))) [],Y 5 (.mv (.c (.b false))) []])
  (.seq (.region [Y 7 (.mv (.t 1)) [1],Y 8 (.ar .mul (.c (.i .i64 2)) (.t 7)) [7],Y 6 (.mv (.t 8)) [8]])
  (.seq (.region [Y 9 (.mv (.t 0)) [0],Y 10 (.mv (.t 6)) [6],Y 11 (.ar .rem (.t 9) (.t 10)) [9,10],
 Y 12 (.mv (.t 6)) [6],Y 13 (.ar .add (.t 11) (.t 12)) [11,12],Y 14 (.mv (.t 6)) [6],Y 15 (.ar .rem (.t 13)
  (.t 14)) [13,14],Y 0 (.mv (.t 15)) [15]]) (.seq (.region [Y 16 (.mv (.t 0)) [0],Y 17 (.ar .quo (.t 16)
  (.c (.i .i64 2))) [16],Y 18 (.mv (.t 0)) [0],Y 19 (.ar .rem (.t 18) (.c (.i .i64 2))) [18],
 Y 20 (.eq .int false (.t 19) (.c (.i .i64 0))) [19],Y 4 (.mv (.t 17)) [17],Y 5 (.mv (.t 20)) [20]]) .ret))))
set_option maxRecDepth 100000 in
theorem c40:fnB Tryz.prog 40=some (21,s40,[.t 4,.t 5]):=by kernel_rfl
def pickV (p n:Int):V:=.tup [.i .i64 (p % (2*n) / 2),.b (decide (p % (2*n) % 2=0))]
theorem tmod_fix {p m:Int} (hm:0<m):(if p.tmod m<0 then p.tmod m+m else p.tmod m)=p % m:=by
 have h1:=Int.emod_nonneg p (Int.ne_of_gt hm)
 have h2:=Int.emod_lt_of_pos p hm
 have h3:=Int.tmod_eq_emod (a:=p) (b:=m)
 split at h3
 ·split <;> omega
 ·split <;> omega
set_option maxHeartbeats 0 in
theorem ppick_spec {m:Bool} {h:H} {p n:Int} (h0:0<n) (h1:n≤64):FX m Tryz.prog 40 [.i .i64 p,.i .i64 n] h fun v h'=>v=pickV p n∧h'=h:=by
 refine Fn.env c40 rfl ?_
 unfold s40
 have hf:=tmod_fix (p:=p) (m:=2*n) (by omega)
 have e1:=Int.emod_nonneg p (show(2*n)≠0 by omega)
 have e2:=Int.emod_lt_of_pos p (show 0<2*n by omega)
 have e3:=Int.tmod_lt_of_pos p (show 0<2*n by omega)
 have e4:=Int.lt_tmod_of_pos p (show 0<2*n by omega)
 have hg:(p.tmod (2*n)+2*n).tmod (2*n)=p % (2*n):=by
  rw[Int.tmod_eq_emod_of_nonneg (by omega),Int.add_emod_right,←hf]
  split
  ·rw[←Int.add_emod_right]
   exact Int.emod_eq_of_lt (by omega) (by omega)
  ·exact Int.emod_eq_of_lt (by omega) e3
 refine go ?_
 refine ew_s .n (od_mul rfl rfl ⟨by omega,by omega⟩) ?_
 refine go ?_
 refine ew_s .n (od_rem rfl rfl (by omega)) ?_
 refine go ?_
 refine ew_s .n (od_rem rfl rfl (by omega)) ?_
 rw[hg]
 refine go ?_
 refine ew_s .n (od_quo rfl rfl (by decide) (by rw[Int.tdiv_eq_ediv_of_nonneg e1];omega)) ?_
 refine go ?_
 refine ew_s .n (od_rem rfl rfl (by decide)) ?_
 rw[Int.tdiv_eq_ediv_of_nonneg e1,Int.tmod_eq_emod_of_nonneg e1]
 refine go ?_
 exact ret_2 ⟨rfl,rfl⟩
end Go.Proofs.YtkcdehffcddciaaGreatDoor.Vm
