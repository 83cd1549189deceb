/- WALKS: the closures: a load, and perhaps a store behind it. -/
import Derived.Test.YtmjilfamjlnigaaGreatQ27
import Derived.Test.YtmjilfamjlnigaaGreatQ16
namespace Go.Proofs.YtmjilfamjlnigaaGreat.RunW
open Go Go.RowKit Kit SrcP SrcW MchW OwnR
section
variable {M:Type} {X:Mk M} {K:Kd M} {base gr nc:Nat} {w w' w1:World} {who who':Nat→Option Pt} {V V':RV} {r r':Rn M}
theorem Clo.moves {gr t gt:Nat} {wt:Want} {b1 b2 b3 b4:Nat} (h:Clo w gr t gt wt b1 b2 b3 b4) (hn:who b1=none∧who b2=none∧who b3=none∧who b4=none) (hm:Moves who who' w w') :
  Clo w' gr t gt wt b1 b2 b3 b4∧(who' b1=none∧who' b2=none∧who' b3=none∧who' b4=none):=by
 obtain⟨h1,n1⟩:=hm.blk h.cr hn.1
 obtain⟨h2,n2⟩:=hm.blk h.ct hn.2.1
 obtain⟨h3,n3⟩:=hm.blk h.cw hn.2.2.1
 obtain⟨h4,n4⟩:=hm.blk h.cx hn.2.2.2
 exact⟨⟨h1,h2,h3,h4⟩,n1,n2,n3,n4⟩
theorem load_th {t:Nat} {x:Th M} (hx:r.ths[t]?=some x) (wt:Want):(r.load K t wt).ths[t]?=some ⟨K.feed x.m (r.cell wt),x.nums++[r.events.length],if wt.ex then(r.lastW wt:Int)else x.ex⟩:=by
 have hl:=(List.getElem?_eq_some_iff.1 hx).1
 have h1:((r.event K t 1 wt.loc (r.cell wt) wt.mode).read r.events.length wt).ths[t]?=some { x with nums:=x.nums++[r.events.length] }:=by
  show(r.ths.set t _)[t]?=_
  rw[List.getElem?_set_self hl]
  simp only[Rn.th,List.getD_eq_getElem?_getD,hx,Option.getD_some]
 have h2:(((r.event K t 1 wt.loc (r.cell wt) wt.mode).read r.events.length wt).exd K t wt).ths[t]?=some { x with nums:=x.nums++[r.events.length],ex:=if wt.ex then(r.lastW wt:Int)else x.ex }:=by
  unfold Rn.exd
  cases hex:wt.ex with
  | false=>rw[if_neg Bool.false_ne_true,h1];simp
  | true =>
   rw[if_pos rfl]
   show(List.set _ t _)[t]?=_
   rw[List.getElem?_set_self (List.getElem?_eq_some_iff.1 h1).1]
   simp only[Rn.th,List.getD_eq_getElem?_getD,h1,Option.getD_some,if_true]
   rfl
 unfold Rn.load
 rw[feed_eq h2]
 show(List.set _ t _)[t]?=_
 rw[List.getElem?_set_self (List.getElem?_eq_some_iff.1 h2).1]
theorem ask_eq {t:Nat} {x:Th M} (hx:r.ths[t]?=some x):r.ask K t = { r with ths:=r.ths.set t { x with m:=K.next x.m } }:=by
 unfold Rn.ask Rn.setM Rn.setT Rn.th
 simp only[List.getD_eq_getElem?_getD,hx,Option.getD_some]
theorem ask_th {t:Nat} {x:Th M} (hx:r.ths[t]?=some x):(r.ask K t).ths[t]?=some { x with m:=K.next x.m }:=by
 rw[ask_eq hx]
 show(List.set _ t _)[t]?=_
 rw[List.getElem?_set_self (List.getElem?_eq_some_iff.1 hx).1]
theorem wants_eq {t:Nat} {x:Th M} (hx:r.ths[t]?=some x):r.wants K t=K.now x.m:=by
 unfold Rn.wants Rn.th
 simp only[List.getD_eq_getElem?_getD,hx,Option.getD_some]
theorem load_used (t:Nat) (wt:Want):(r.load K t wt).used=r.used:=by
 have:∀r':Rn M,(r'.exd K t wt).used=r'.used:=fun r'=>by unfold Rn.exd;split <;> rfl
 show(((r.event K t 1 wt.loc (r.cell wt) wt.mode).read r.events.length wt).exd K t wt).used=_
 rw[this];rfl
theorem second_stop {t n:Nat} (h:(r.wants K t).what≠2∨(r.wants K t).ex=K.words∨(r.wants K t).one≠K.words):r.second K t n=r:=if_pos h
theorem second_words {t n:Nat} (h1:(r.wants K t).what=2) (h2:(r.wants K t).ex≠K.words) (h3:(r.wants K t).one=K.words) (hw:K.words=true):r.second K t n=r.store K t (r.wants K t):=by
 unfold Rn.second
 simp only
 rw[if_neg (fun h=>by rcases h with h | h | h;exact h h1;exact h2 h;exact h h3),if_pos hw]
theorem second_src {t n:Nat} (h1:(r.wants K t).what=2) (h2:(r.wants K t).ex≠K.words) (h3:(r.wants K t).one=K.words) (hw:K.words=false) :
  r.second K t n=if K.lse then { r.store K t (r.wants K t)with rmw:=(r.store K t (r.wants K t)).rmw++[(n,r.events.length)] }else { r.store K t (r.wants K t)with rmw:=(r.store K t (r.wants K t)).rmw++[(n,r.events.length)],log:=(r.store K t (r.wants K t)).log++[t] }:=by
 unfold Rn.second
 simp only
 rw[if_neg (fun h=>by rcases h with h | h | h;exact h h1;exact h2 h;exact h h3),if_neg (by rw[hw];exact Bool.false_ne_true)]
set_option maxRecDepth 100000 in
set_option maxHeartbeats 0 in
theorem do1_any (hX:MkC X K nc) (h:RunW X K base gr nc w who V r) (hok:RnOk nc r) {t:Nat} {x:Th M} (hx:r.ths[t]?=some x) (hask:X.asked x.m) {gt:Nat} (hgt:V.gt[t]?=some gt) (hev:r.events.length≤1000) (hus:r.used≤4194304) (hth:r.ths.length≤1048576)
  {wt:Want} (hwt:K.now x.m=wt) (hq:wt.what=1) (hcan:r.can wt=true) {b1 b2 b3 b4:Nat} (hC:Clo w gr t gt wt b1 b2 b3 b4) (hn:who b1=none∧who b2=none∧who b3=none∧who b4=none) :
  Calls Tryz.prog 84 #[ptrV b1,ptrV b2,ptrV b3,ptrV b4] w fun e w'=>e=.returned (.tuple #[])∧Step X K base gr nc w who V w' (r.doo K t wt):=by
 have hcan2:=hcan
 rw[can_loc (.inl hq),decide_eq_true_eq]at hcan2
 obtain⟨c,hc⟩:=Int.eq_ofNat_of_zero_le hcan2.1
 have hcl:c<r.cells.length:=by omega
 have hcv:r.cell wt=r.cells.getD c 0:=by unfold Rn.cell;rw[hc,Int.toNat_natCast]
 obtain⟨gt',gm,hgt',hgm,_,_,hrep⟩:=h.thOf hx
 rw[hgt]at hgt'
 obtain rfl:=Option.some.inj hgt'
 have hxn:=hok.nums x (List.mem_of_getElem? hx)
 have hrf:=hok.rf
 have HSEC:=fun (e:(if K.words then wt.one else wt.ex)=true)=>hX.second hrep hask (by rw[hwt];exact hq) (by rw[hwt];exact e) (by rw[hwt];exact hcan2.1) (by rw[hwt,←hok.cells];exact hcan2.2) (hok.cellV c)
 rw[←hcv]at HSEC
 have HLD:=Lib.hid (load_any hX h hx hask (by rw[hwt,hq];decide) (by rw[hwt,hq];decide) (hok.cellV c) (by omega) (by omega) (by omega) (by omega) wt hc hcl (by rw[hok.last,←hok.cells];exact hcl))
 unfold ptrV at HLD ⊢
 have HDO:Hid (r.doo K t wt=if (if K.words then wt.one else wt.ex)=false then r.load K t wt else((r.load K t wt).ask K t).second K t r.events.length):=Lib.hid (if_pos hq)
 have hok1:=hok.load (K:=K) t wt
 have hev1:=load_events (K:=K) (r:=r) t wt
 have hx1:=load_th (K:=K) hx wt
 generalize hxe:(⟨K.feed x.m (r.cell wt),x.nums++[r.events.length],if wt.ex then(r.lastW wt:Int)else x.ex⟩:Th M)=x1 at hx1
 have hm1:x1.m=K.feed x.m (r.cell wt):=by rw[←hxe]
 have hth1:(r.load K t wt).ths.length=r.ths.length:=(Grows.load K r t wt).ths
 have hus1:(r.load K t wt).used=r.used:=load_used t wt
 generalize r.load K t wt=r1 at *
 generalize r.doo K t wt=rz at *
 generalize r.cell wt=cv at *
 rw[←hm1]at HSEC
 have HSEC:=Lib.hid HSEC
 have hask1:=hX.asked_next x1.m
 have HM1:=Lib.hid hm1
 have HQ:=Lib.hid hq
 clear hwt hxe hcv hrep hm1 hcan hcan2 hc hcl hxn hrf hok hx hask hgm hgt' hq
 have k1:w.cell? ⟨b1,0,none⟩=some (.pointer (some ⟨gr,0,none⟩)):=hC.cr.cell 0
 have k2:w.cell? ⟨b2,0,none⟩=some (.int .i64 (t:Int)):=hC.ct.cell 0
 obtain⟨c0,c1,c2,c3,c4,c5⟩:=Kit.cells6 hC.cw
 go_enter Tryz.func84,Tryz.ntmps84
 go_upto_region 1 with (go_at_call 85;refine HLD.out.mono ?_;rintro e w1 ⟨rfl,who1,V1,hR1,hm1,hg1,hgm1⟩)
 clear k1 k2 c0 c1 c2 c3 c4 c5 HLD h
 obtain⟨hC1,hn1⟩:=hC.moves hn hm1
 have k1:w1.cell? ⟨b1,0,none⟩=some (.pointer (some ⟨gr,0,none⟩)):=hC1.cr.cell 0
 have kw:w1.cell? ⟨gr,0,none⟩=some (.bool K.words):=hR1.run.2.cell 0
 have c4:w1.cell? ⟨b3,4,none⟩=some (.bool wt.ex):=hC1.cw.cell 4
 have c5:w1.cell? ⟨b3,5,none⟩=some (.bool wt.one):=hC1.cw.cell 5
 cases hwd:K.words with
 | true =>
  rw[hwd]at kw
  cases hone:wt.one with
  | false =>
   rw[hone]at c5
   go_wp2_with fail
   first | go_end0 | refine bodyPost_ret (v:=.tuple #[]) (by simp[results,Tryz.results84,go_sem]) rfl ?_
   exact⟨rfl,who1,V1,by rw[HDO.out,hwd,if_pos rfl,if_pos hone];exact hR1,hm1,hg1,hgm1⟩
  | true =>
   rw[hone]at c5
   have HG0:=Lib.hid (show(if K.words then wt.one else wt.ex)=true by rw[hwd];exact hone)
   go_upto_region 2 with fail
   obtain⟨gt',gm1,hgt1,hgm1',_,_,hrep1⟩:=hR1.thOf hx1
   have e:=hgt1
   rw[hg1,hgt]at e
   obtain rfl:=Option.some.inj e
   have k4:w1.cell? ⟨b4,0,none⟩=some (.pointer (some ⟨gt,0,none⟩)):=hC1.cx.cell 0
   have km:w1.cell? ⟨gt,0,none⟩=some (.iface X.T (.pointer (some ⟨gm1,0,none⟩))):=by
    rw[hR1.seeTh (w':=w1) (P:=fun _=>False) (fun _ _ _ _=>rfl) (fun e=>e) hx1 hgt1 hgm1' 0];rfl
   obtain⟨s,hs⟩:∃y,y=K.now (K.next x1.m):=⟨_,rfl⟩
   have HNX:Hid (Calls Tryz.prog X.nextF #[.pointer (some ⟨gm1,0,none⟩)] w1 fun e w'=>e=.returned (.agg #[.int .i64 s.what,.int .i64 s.loc,.int .i64 s.mode,.int .u64 s.val,.bool s.ex,.bool s.one])∧MOp X w1 (fun k=>who1 k=some (.mach t)) gm1 (K.next x1.m) w'):=by
    rw[hs];exact Lib.hid (hX.next hrep1)
   have HS2:=Lib.hid hs
   have hmN:=hX.nextM gm1
   have hmE:=hX.nextE
   have hts:=types_size
   clear hrep1 hs c4 c5 k1 kw
   go_wp2_with fail
   refine HNX.out.mono ?_
   rintro e w2 ⟨rfl,S',hS',hrep2,hk2,hst2⟩
   obtain⟨who2,hR2,hm2⟩:=hR1.machOp hX.toMkM hx1 hgm1' hS' hrep2 hk2 hst2
   rw[←ask_eq hx1]at hR2
   clear hS' hrep2 hk2 hst2 HNX hmN hmE k4 km hR1
   go_upto_region 3 with fail
   obtain⟨w3,hw3⟩:∃y,y=w2.alloc (.cells #[.int .i64 s.what,.int .i64 s.loc,.int .i64 s.mode,.int .u64 s.val,.bool s.ex,.bool s.one] 100):=⟨_,rfl⟩
   have hb3:Below w2.heap.size w2 w3:=by rw[hw3];exact Kit.bl1
   have hE3:Blk w3 w2.heap.size 100 #[.int .i64 s.what,.int .i64 s.loc,.int .i64 s.mode,.int .u64 s.val,.bool s.ex,.bool s.one]:=by rw[hw3];exact Blk.new w2 _ _
   obtain⟨hR3,hm3⟩:=hR2.below' hX.toMkM hb3
   have hn5:who2 w2.heap.size=none:=hR2.noOne (Nat.le_refl _)
   rw[←hw3]
   clear hw3
   obtain⟨b5,hb5⟩:∃y,y=w2.heap.size:=⟨_,rfl⟩
   rw[←hb5]at hE3 hn5 ⊢
   have hm13:=hm1.trans (hm2.trans hm3)
   obtain⟨hC3,hn3⟩:=hC.moves hn hm13
   have hx2:(r1.ask K t).ths[t]?=some { x1 with m:=K.next x1.m }:=ask_th hx1
   have hwn:(r1.ask K t).wants K t=s:=by rw[wants_eq hx2];exact HS2.out.symm
   have hok2:=hok1.ask (K:=K) t
   have hev2:(r1.ask K t).events.length=r.events.length+1:=hev1
   have hus2:(r1.ask K t).used≤4194304:=by show r1.used≤_;rw[hus1];exact hus
   have hth2:(r1.ask K t).ths.length=r.ths.length:=(Grows.ask K r1 t).ths.trans hth1
   have hs1:X.asked (K.next x1.m):=hask1
   have HDO2:Hid (rz=(r1.ask K t).second K t r.events.length):=Lib.hid (by rw[HDO.out,if_neg (by rw[HG0.out];exact Bool.noConfusion)])
   have HWN:=Lib.hid hwn
   clear hR2 hm2 hm3 hb3 hb5 hwn hok1 hask1 hgt1 hgm1' hC1 hn1 hm1
   have HX2:=Lib.hid hx2
   have HEV2:=Lib.hid hev2
   have HOK2:=Lib.hid hok2
   clear hx1 hx2 hev2 hev1 hok2 hus1 hth1
   generalize r1.ask K t=r2 at *
   have f4:∀p:Cls (Below w3.heap.size w3),p.w.cell? ⟨b5,4,none⟩=some (.bool s.ex):=fun p=>hE3.cls 4 p
   have f5:∀p:Cls (Below w3.heap.size w3),p.w.cell? ⟨b5,5,none⟩=some (.bool s.one):=fun p=>hE3.cls 5 p
   have kR:∀p:Cls (Below w3.heap.size w3),p.w.cell? ⟨b1,0,none⟩=some (.pointer (some ⟨gr,0,none⟩)):=fun p=>hC3.cr.cls 0 p
   have kw:∀p:Cls (Below w3.heap.size w3),p.w.cell? ⟨gr,0,none⟩=some (.bool true):=fun p=>by
    rw[hR3.seeRun (hR3.seesB p) (fun e=>e) 0,←hwd];rfl
   by_cases q2:s.what=2
   ·have f0:∀p:Cls (Below w3.heap.size w3),p.w.cell? ⟨b5,0,none⟩=some (.int .i64 2):=fun p=>by rw[hE3.cls 0 p,←q2];rfl
    have q2':=Lib.hid q2
    clear q2
    cases hse:s.ex with
    | true =>
     rw[hse]at f4
     refine wp_region_cls (Below w3.heap.size w3) (Below_drewN _ 1) (by kernel_rfl) (by kernel_rfl) ?_
     intro hne
     repeat (go_big_quiet_step ((fail)))
     refine wpQuiet_nil ?_
     intro w4 h4
     clear hne
     clear f0 f4 f5 kR kw
     obtain⟨hR4,hm4⟩:=hR3.below' hX.toMkM h4
     go_wp2_with fail
     first | go_end0 | refine bodyPost_ret (v:=.tuple #[]) (by simp[results,Tryz.results84,go_sem]) rfl ?_
     exact⟨rfl,who2,V1,by rw[HDO2.out,second_stop (.inr (.inl (by rw[HWN.out,hse,hwd])))];exact hR4,hm13.trans hm4,hg1,hgm1⟩
    | false =>
     rw[hse]at f4
     cases hso:s.one with
     | false =>
      rw[hso]at f5
      refine wp_region_cls (Below w3.heap.size w3) (Below_drewN _ 1) (by kernel_rfl) (by kernel_rfl) ?_
      intro hne
      repeat (go_big_quiet_step ((fail)))
      refine wpQuiet_nil ?_
      intro w4 h4
      clear hne
      clear f0 f4 f5 kR kw
      obtain⟨hR4,hm4⟩:=hR3.below' hX.toMkM h4
      go_wp2_with fail
      first | go_end0 | refine bodyPost_ret (v:=.tuple #[]) (by simp[results,Tryz.results84,go_sem]) rfl ?_
      exact⟨rfl,who2,V1,by rw[HDO2.out,second_stop (.inr (.inr (by rw[HWN.out,hso,hwd];decide)))];exact hR4,hm13.trans hm4,hg1,hgm1⟩
     | true =>
      rw[hso]at f5
      refine wp_region_cls (Below w3.heap.size w3) (Below_drewN _ 1) (by kernel_rfl) (by kernel_rfl) ?_
      intro hne
      repeat (go_big_quiet_step ((fail)))
      refine wpQuiet_nil ?_
      intro w4 h4
      clear hne
      clear f0 f4 f5 kR kw
      obtain⟨hR4,hm4⟩:=hR3.below' hX.toMkM h4
      have hE4:=hE3.below' h4
      have hm4:=hm13.trans hm4
      clear hR3 hE3 h4 hC3 hn3 hm13
      obtain⟨hC4,hn4⟩:=hC.moves hn hm4
      have hsec:=HSEC.out HG0.out (by rw[←HS2.out];exact q2'.out) (by rw[←HS2.out,hse,hwd];decide) (by rw[←HS2.out,hso,hwd])
      rw[←HS2.out]at hsec
      obtain⟨d,hd⟩:=Int.eq_ofNat_of_zero_le hsec.1
      have hdn:d<nc:=by omega
      have hok2:=HOK2.out
      have hxn2:=hok2.nums _ (List.mem_of_getElem? HX2.out)
      have hcon:=mem_getD (P:=fun l=>l.length≤r2.events.length) hok2.coi [] (Nat.zero_le _) d
      have hev3:=HEV2.out
      have HST:=Lib.hid (store_any hX hR4 HX2.out hs1 (by show 1≤(K.now (K.next x1.m)).what;rw[←HS2.out,q2'.out];decide) (by show(K.now (K.next x1.m)).what≤4;rw[←HS2.out,q2'.out];decide) (by omega) (by omega) (by omega) (by omega) s hd (by rw[hok2.cells];exact hdn) (by rw[hok2.last];exact hdn) (by rw[hok2.co];exact hdn))
      unfold ptrV at HST
      have k1:w4.cell? ⟨b1,0,none⟩=some (.pointer (some ⟨gr,0,none⟩)):=hC4.cr.cell 0
      have k2:w4.cell? ⟨b2,0,none⟩=some (.int .i64 (t:Int)):=hC4.ct.cell 0
      obtain⟨c0,c1,c2,c3,c4,c5⟩:=Kit.cells6 hE4
      clear hsec hd hdn hok2 hxn2 hcon hev3 hE4
      have HSE:=Lib.hid hse
      have HSO:=Lib.hid hso
      clear hse hso
      go_upto_region 5 with (go_at_call 86;refine HST.out.mono ?_;rintro e w5 ⟨rfl,who5,V5,hR5,hm5,hg5,hgm5⟩)
      clear k1 k2 c0 c1 c2 c3 c4 c5 HST hR4
      have hm5:=hm4.trans hm5
      obtain⟨hC5,hn5⟩:=hC.moves hn hm5
      have k1:w5.cell? ⟨b1,0,none⟩=some (.pointer (some ⟨gr,0,none⟩)):=hC5.cr.cell 0
      have kw:w5.cell? ⟨gr,0,none⟩=some (.bool true):=by rw[hR5.run.2.cell 0,←hwd];rfl
      go_wp2_with fail
      first | go_end0 | refine bodyPost_ret (v:=.tuple #[]) (by simp[results,Tryz.results84,go_sem]) rfl ?_
      exact⟨rfl,who5,V5,by rw[HDO2.out,second_words (by rw[HWN.out];exact q2'.out) (by rw[HWN.out,HSE.out,hwd];decide) (by rw[HWN.out,HSO.out,hwd]) hwd,HWN.out];exact hR5,hm5,hg5.trans hg1,hgm5.trans hgm1⟩
   ·have f0:∀p:Cls (Below w3.heap.size w3),p.w.cell? ⟨b5,0,none⟩=some (.int .i64 s.what):=fun p=>hE3.cls 0 p
    have hd2:(s.what != 2)=true:=bne_iff_ne.2 q2
    have q2:=Lib.hid q2
    refine wp_region_cls (Below w3.heap.size w3) (Below_drewN _ 1) (by kernel_rfl) (by kernel_rfl) ?_
    intro hne
    repeat (go_big_quiet_step ((fail)))
    refine wpQuiet_nil ?_
    intro w4 h4
    clear hne
    clear f0 f4 f5 kR kw
    obtain⟨hR4,hm4⟩:=hR3.below' hX.toMkM h4
    go_wp2_with fail
    first | go_end0 | refine bodyPost_ret (v:=.tuple #[]) (by simp[results,Tryz.results84,go_sem]) rfl ?_
    exact⟨rfl,who2,V1,by rw[HDO2.out,second_stop (.inl (by rw[HWN.out];exact q2.out))];exact hR4,hm13.trans hm4,hg1,hgm1⟩
 | false =>
  rw[hwd]at kw
  cases hex:wt.ex with
  | false =>
   rw[hex]at c4
   go_wp2_with fail
   first | go_end0 | refine bodyPost_ret (v:=.tuple #[]) (by simp[results,Tryz.results84,go_sem]) rfl ?_
   exact⟨rfl,who1,V1,by rw[HDO.out,hwd,if_neg Bool.false_ne_true,if_pos hex];exact hR1,hm1,hg1,hgm1⟩
  | true =>
   rw[hex]at c4
   have HG0:=Lib.hid (show(if K.words then wt.one else wt.ex)=true by rw[hwd];exact hex)
   go_upto_region 2 with fail
   obtain⟨gt',gm1,hgt1,hgm1',_,_,hrep1⟩:=hR1.thOf hx1
   have e:=hgt1
   rw[hg1,hgt]at e
   obtain rfl:=Option.some.inj e
   have k4:w1.cell? ⟨b4,0,none⟩=some (.pointer (some ⟨gt,0,none⟩)):=hC1.cx.cell 0
   have km:w1.cell? ⟨gt,0,none⟩=some (.iface X.T (.pointer (some ⟨gm1,0,none⟩))):=by
    rw[hR1.seeTh (w':=w1) (P:=fun _=>False) (fun _ _ _ _=>rfl) (fun e=>e) hx1 hgt1 hgm1' 0];rfl
   obtain⟨s,hs⟩:∃y,y=K.now (K.next x1.m):=⟨_,rfl⟩
   have HNX:Hid (Calls Tryz.prog X.nextF #[.pointer (some ⟨gm1,0,none⟩)] w1 fun e w'=>e=.returned (.agg #[.int .i64 s.what,.int .i64 s.loc,.int .i64 s.mode,.int .u64 s.val,.bool s.ex,.bool s.one])∧MOp X w1 (fun k=>who1 k=some (.mach t)) gm1 (K.next x1.m) w'):=by
    rw[hs];exact Lib.hid (hX.next hrep1)
   have HS2:=Lib.hid hs
   have hmN:=hX.nextM gm1
   have hmE:=hX.nextE
   have hts:=types_size
   clear hrep1 hs c4 c5 k1 kw
   go_wp2_with fail
   refine HNX.out.mono ?_
   rintro e w2 ⟨rfl,S',hS',hrep2,hk2,hst2⟩
   obtain⟨who2,hR2,hm2⟩:=hR1.machOp hX.toMkM hx1 hgm1' hS' hrep2 hk2 hst2
   rw[←ask_eq hx1]at hR2
   clear hS' hrep2 hk2 hst2 HNX hmN hmE k4 km hR1
   go_upto_region 3 with fail
   obtain⟨w3,hw3⟩:∃y,y=w2.alloc (.cells #[.int .i64 s.what,.int .i64 s.loc,.int .i64 s.mode,.int .u64 s.val,.bool s.ex,.bool s.one] 100):=⟨_,rfl⟩
   have hb3:Below w2.heap.size w2 w3:=by rw[hw3];exact Kit.bl1
   have hE3:Blk w3 w2.heap.size 100 #[.int .i64 s.what,.int .i64 s.loc,.int .i64 s.mode,.int .u64 s.val,.bool s.ex,.bool s.one]:=by rw[hw3];exact Blk.new w2 _ _
   obtain⟨hR3,hm3⟩:=hR2.below' hX.toMkM hb3
   have hn5:who2 w2.heap.size=none:=hR2.noOne (Nat.le_refl _)
   rw[←hw3]
   clear hw3
   obtain⟨b5,hb5⟩:∃y,y=w2.heap.size:=⟨_,rfl⟩
   rw[←hb5]at hE3 hn5 ⊢
   have hm13:=hm1.trans (hm2.trans hm3)
   obtain⟨hC3,hn3⟩:=hC.moves hn hm13
   have hx2:(r1.ask K t).ths[t]?=some { x1 with m:=K.next x1.m }:=ask_th hx1
   have hwn:(r1.ask K t).wants K t=s:=by rw[wants_eq hx2];exact HS2.out.symm
   have hok2:=hok1.ask (K:=K) t
   have hev2:(r1.ask K t).events.length=r.events.length+1:=hev1
   have hus2:(r1.ask K t).used≤4194304:=by show r1.used≤_;rw[hus1];exact hus
   have hth2:(r1.ask K t).ths.length=r.ths.length:=(Grows.ask K r1 t).ths.trans hth1
   have hs1:X.asked (K.next x1.m):=hask1
   have HDO2:Hid (rz=(r1.ask K t).second K t r.events.length):=Lib.hid (by rw[HDO.out,if_neg (by rw[HG0.out];exact Bool.noConfusion)])
   have HWN:=Lib.hid hwn
   clear hR2 hm2 hm3 hb3 hb5 hwn hok1 hask1 hgt1 hgm1' hC1 hn1 hm1
   have HX2:=Lib.hid hx2
   have HEV2:=Lib.hid hev2
   have HOK2:=Lib.hid hok2
   clear hx1 hx2 hev2 hev1 hok2 hus1 hth1
   generalize r1.ask K t=r2 at *
   have f4:∀p:Cls (Below w3.heap.size w3),p.w.cell? ⟨b5,4,none⟩=some (.bool s.ex):=fun p=>hE3.cls 4 p
   have f5:∀p:Cls (Below w3.heap.size w3),p.w.cell? ⟨b5,5,none⟩=some (.bool s.one):=fun p=>hE3.cls 5 p
   have kR:∀p:Cls (Below w3.heap.size w3),p.w.cell? ⟨b1,0,none⟩=some (.pointer (some ⟨gr,0,none⟩)):=fun p=>hC3.cr.cls 0 p
   have kw:∀p:Cls (Below w3.heap.size w3),p.w.cell? ⟨gr,0,none⟩=some (.bool false):=fun p=>by
    rw[hR3.seeRun (hR3.seesB p) (fun e=>e) 0,←hwd];rfl
   by_cases q2:s.what=2
   ·have f0:∀p:Cls (Below w3.heap.size w3),p.w.cell? ⟨b5,0,none⟩=some (.int .i64 2):=fun p=>by rw[hE3.cls 0 p,←q2];rfl
    have q2':=Lib.hid q2
    clear q2
    cases hse:s.ex with
    | false =>
     rw[hse]at f4
     refine wp_region_cls (Below w3.heap.size w3) (Below_drewN _ 1) (by kernel_rfl) (by kernel_rfl) ?_
     intro hne
     repeat (go_big_quiet_step ((fail)))
     refine wpQuiet_nil ?_
     intro w4 h4
     clear hne
     clear f0 f4 f5 kR kw
     obtain⟨hR4,hm4⟩:=hR3.below' hX.toMkM h4
     go_wp2_with fail
     first | go_end0 | refine bodyPost_ret (v:=.tuple #[]) (by simp[results,Tryz.results84,go_sem]) rfl ?_
     exact⟨rfl,who2,V1,by rw[HDO2.out,second_stop (.inr (.inl (by rw[HWN.out,hse,hwd])))];exact hR4,hm13.trans hm4,hg1,hgm1⟩
    | true =>
     rw[hse]at f4
     cases hso:s.one with
     | true =>
      rw[hso]at f5
      refine wp_region_cls (Below w3.heap.size w3) (Below_drewN _ 1) (by kernel_rfl) (by kernel_rfl) ?_
      intro hne
      repeat (go_big_quiet_step ((fail)))
      refine wpQuiet_nil ?_
      intro w4 h4
      clear hne
      clear f0 f4 f5 kR kw
      obtain⟨hR4,hm4⟩:=hR3.below' hX.toMkM h4
      go_wp2_with fail
      first | go_end0 | refine bodyPost_ret (v:=.tuple #[]) (by simp[results,Tryz.results84,go_sem]) rfl ?_
      exact⟨rfl,who2,V1,by rw[HDO2.out,second_stop (.inr (.inr (by rw[HWN.out,hso,hwd];decide)))];exact hR4,hm13.trans hm4,hg1,hgm1⟩
     | false =>
      rw[hso]at f5
      refine wp_region_cls (Below w3.heap.size w3) (Below_drewN _ 1) (by kernel_rfl) (by kernel_rfl) ?_
      intro hne
      repeat (go_big_quiet_step ((fail)))
      refine wpQuiet_nil ?_
      intro w4 h4
      clear hne
      clear f0 f4 f5 kR kw
      obtain⟨hR4,hm4⟩:=hR3.below' hX.toMkM h4
      have hE4:=hE3.below' h4
      have hm4:=hm13.trans hm4
      clear hR3 hE3 h4 hC3 hn3 hm13
      obtain⟨hC4,hn4⟩:=hC.moves hn hm4
      have hsec:=HSEC.out HG0.out (by rw[←HS2.out];exact q2'.out) (by rw[←HS2.out,hse,hwd];decide) (by rw[←HS2.out,hso,hwd])
      rw[←HS2.out]at hsec
      obtain⟨d,hd⟩:=Int.eq_ofNat_of_zero_le hsec.1
      have hdn:d<nc:=by omega
      have hok2:=HOK2.out
      have hxn2:=hok2.nums _ (List.mem_of_getElem? HX2.out)
      have hcon:=mem_getD (P:=fun l=>l.length≤r2.events.length) hok2.coi [] (Nat.zero_le _) d
      have hev3:=HEV2.out
      have HST:=Lib.hid (store_any hX hR4 HX2.out hs1 (by show 1≤(K.now (K.next x1.m)).what;rw[←HS2.out,q2'.out];decide) (by show(K.now (K.next x1.m)).what≤4;rw[←HS2.out,q2'.out];decide) (by omega) (by omega) (by omega) (by omega) s hd (by rw[hok2.cells];exact hdn) (by rw[hok2.last];exact hdn) (by rw[hok2.co];exact hdn))
      unfold ptrV at HST
      have k1:w4.cell? ⟨b1,0,none⟩=some (.pointer (some ⟨gr,0,none⟩)):=hC4.cr.cell 0
      have k2:w4.cell? ⟨b2,0,none⟩=some (.int .i64 (t:Int)):=hC4.ct.cell 0
      obtain⟨c0,c1,c2,c3,c4,c5⟩:=Kit.cells6 hE4
      clear hsec hd hdn hok2 hxn2 hcon hev3 hE4
      have HSE:=Lib.hid hse
      have HSO:=Lib.hid hso
      clear hse hso
      go_upto_region 5 with (go_at_call 86;refine HST.out.mono ?_;rintro e w5 ⟨rfl,who5,V5,hR5,hm5,hg5,hgm5⟩)
      clear k1 k2 c0 c1 c2 c3 c4 c5 HST hR4
      have hm5:=hm4.trans hm5
      obtain⟨hC5,hn5⟩:=hC.moves hn hm5
      have k1:w5.cell? ⟨b1,0,none⟩=some (.pointer (some ⟨gr,0,none⟩)):=hC5.cr.cell 0
      have kw:w5.cell? ⟨gr,0,none⟩=some (.bool false):=by rw[hR5.run.2.cell 0,←hwd];rfl
      go_upto_region 6 with fail
      clear kw
      obtain⟨r5,hr5⟩:∃y,y=r2.store K t s:=⟨_,rfl⟩
      rw[←hr5]at hR5
      have hf5:r5.rmw=r2.rmw∧r5.log=r2.log:=by rw[hr5];exact⟨rfl,rfl⟩
      obtain⟨A,cA,hev,hcA⟩:=own_slice (hR5.own .rmw)
      simp only[RV.val,rowN,hf5.1]at hev hcA
      have hlm:=HOK2.out.rmw
      have hll:=HOK2.out.log
      have hle:=HEV2.out
      rw[hle]at hlm hll
      clear hle
      obtain⟨S,hS⟩:∃S:Nat→Prop,∀k,S k↔(RV.val V5 .rmw).ownBlock=some k:=⟨_,fun _=>Iff.rfl⟩
      have nS:∀{k:Nat},who5 k≠some (.row .rmw)→¬S k:=fun hk hs=>hk (RunW.ownW hR5 .rmw _ ((hS _).1 hs))
      have hgrn:¬S gr:=nS (by rw[(RunW.run hR5).1];exact fun e=>by cases e)
      have hb1n:¬S b1:=nS (by rw[hn5.1];exact fun e=>by cases e)
      have k9:∀p:Cls (KeptS S w5),p.w.cell? ⟨gr,9,none⟩=some (.slice A r2.rmw.length cA):=fun p=>by
       rw[hR5.seeRun (hR5.sees hS p) (fun e=>by cases e) 9,←hev];rfl
      have kR:∀p:Cls (KeptS S w5),p.w.cell? ⟨b1,0,none⟩=some (.pointer (some ⟨gr,0,none⟩)):=fun p=>(p.h.blk hC5.cr hb1n).cell 0
      have HF5:=Lib.hid hf5
      have HR5:=Lib.hid hr5
      clear hf5 hr5 k1
      obtain⟨i0,hi0,hz0,hz1,hz2⟩:=info_parts info_pair
      have HEV:=Lib.hid hev
      have HS:=Lib.hid hS
      clear hev hS nS
      refine wp_region_float_at (KeptS S w5) 11 2 [0,1,2,3,4,5,6,7,8] [] ((KeptS.refl _ w5).dn 1) (by kernel_rfl) (by kernel_rfl) ?_
      intro hne
      simp only[pickL,List.map_cons,List.map_nil,List.getElem?_cons_succ,List.getElem?_cons_zero,Option.getD_some]
      repeat (go_big_quiet_step (fail))
      refine wpQuiet_nil ?_
      refine fG (i:=9) rfl ?_
      go_wp2_with fail
      have hk7:KeptS S w5 ((World.drewN w5 1).alloc (.cells #[.int .i64 (r.events.length:Nat),.int .i64 (r2.events.length:Nat)] 51)):=((KeptS.refl _ w5).dn 1).al _
      refine Kit.oG hk7 ?_
      obtain⟨w7,hw7⟩:∃y,y=(World.drewN w5 1).alloc (.cells #[.int .i64 (r.events.length:Nat),.int .i64 (r2.events.length:Nat)] 51):=⟨_,rfl⟩
      have hb7:Below (w5).heap.size w5 w7:=by rw[hw7];exact Kit.Below.al (Kit.Below.dn (Below.refl _ _)) _
      have hN7:Blk w7 (w5).heap.size 51 (List.toArray (pairC (r.events.length,r2.events.length))):=by rw[hw7];exact Blk.new (World.drewN w5 1) _ _
      obtain⟨hR7,hm7⟩:=RunW.below' hX.toMkM hR5 hb7
      have hev7:=RunW.own hR7 .rmw
      simp only[RV.val,rowN,rowX,rowT,rowS]at hev7
      rw[HEV.out,HF5.out.1]at hev7
      have HEO:=Lib.hid hev7
      rw[←hw7]at hk7 ⊢
      have hbs:=RunW.base_le hR7
      have hml:(16*1048576:Nat)≤maxLen:=by decide
      clear hw7 hev7 k9 kR
      refine fG (i:=10) rfl ?_
      refine wpList_append_lies _ (by rfl) _ _ _ (by rfl) base 51 i0 _ 2 16 Tryz.underlying28 hi0 hz0 hz1 hz2 rfl (by omega) _ r2.rmw.length _ (by rfl) HEO.out ⟨(w5).heap.size,0,none⟩ 1 1 (pairC (r.events.length,r2.events.length)) (by rfl) rfl (news_one hN7) (pairC_one _) (by omega) (by omega) (by omega) hbs _ rfl ?_
      intro g8 cap8 w8 hown8 hgrow8 hat8 hlt8
      have hk8:=kept_grown hk7 hgrow8 (fun k hk=>(HS.out k).2 (by rw[show RV.val V5 .rmw=_ from HEV.out];exact hk))
      refine Kit.oG hk8 ?_
      refine(show tailG _ _ _ _ _ _ _ from⟨by kernel_rfl,?_⟩)
      simp only[List.drop_succ_cons,List.drop_zero]
      have hB8:=hk8.blk hR5.run.2 hgrn
      have kf:=fun i=>hB8.frozen i
      have k6:w8.cell? ⟨gr,9,none⟩=some (.slice A r2.rmw.length cA):=by rw[hB8.cell 9,←HEV.out];rfl
      go_upto_region 7 with fail
      have hst:=hR7.rmws hX.toMkM (r.events.length,r2.events.length) (by rw[HEV.out];exact hgrow8) (by rw[HEV.out];exact hat8) hlt8 (by rw[HF5.out.1];exact hown8)
      rw[HF5.out.1]at hst
      obtain⟨who9,V9,hR9,hm9,hg9,hgm9⟩:=Step.trans hm7 rfl rfl hst
      replace hm9:=hm5.trans hm9
      generalize w8.setCell ⟨gr,9,none⟩ _=w9 at *
      clear hst hm5 hm7 hR7 hR5 hk8 hk7 hB8 kf k6 hgrow8 hat8 hlt8 hown8 HEO HEV HS hgrn hb1n hN7 hb7 hne hi0 hz0 hz1 hz2 hC5 hn5 hcA
      obtain⟨hC9,hn9⟩:=hC.moves hn hm9
      have k1:w9.cell? ⟨b1,0,none⟩=some (.pointer (some ⟨gr,0,none⟩)):=hC9.cr.cell 0
      have kl:w9.cell? ⟨gr,1,none⟩=some (.bool K.lse):=hR9.run.2.cell 1
      have HSC:=Lib.hid (second_src (K:=K) (r:=r2) (t:=t) (n:=r.events.length) (by rw[HWN.out];exact q2'.out) (by rw[HWN.out,HSE.out,hwd];decide) (by rw[HWN.out,HSO.out,hwd]) hwd)
      cases hls:K.lse with
      | true =>
       rw[hls]at kl
       go_wp2_with fail
       first | go_end0 | refine bodyPost_ret (v:=.tuple #[]) (by simp[results,Tryz.results84,go_sem]) rfl ?_
       exact⟨rfl,who9,V9,by rw[HDO2.out,HSC.out,if_pos hls,HWN.out];rw[HR5.out]at hR9;exact hR9,hm9,hg9.trans (hg5.trans hg1),hgm9.trans (hgm5.trans hgm1)⟩
      | false =>
       rw[hls]at kl
       go_upto_region 8 with fail
       clear k1 kl
       obtain⟨r9,hr9⟩:∃y,y = { r5 with rmw:=r2.rmw++[(r.events.length,r2.events.length)] }:=⟨_,rfl⟩
       rw[←hr9]at hR9
       have hf9:r9.log=r2.log:=by rw[hr9];exact HF5.out.2
       obtain⟨A',cA',hev,hcA⟩:=own_slice (hR9.own .log)
       simp only[RV.val,rowN,hf9]at hev hcA
       obtain⟨S',hS⟩:∃S:Nat→Prop,∀k,S k↔(RV.val V9 .log).ownBlock=some k:=⟨_,fun _=>Iff.rfl⟩
       have nS:∀{k:Nat},who9 k≠some (.row .log)→¬S' k:=fun hk hs=>hk (RunW.ownW hR9 .log _ ((hS _).1 hs))
       have hgrn:¬S' gr:=nS (by rw[(RunW.run hR9).1];exact fun e=>by cases e)
       have hb1n:¬S' b1:=nS (by rw[hn9.1];exact fun e=>by cases e)
       have hb2n:¬S' b2:=nS (by rw[hn9.2.1];exact fun e=>by cases e)
       have k14:∀p:Cls (KeptS S' w9),p.w.cell? ⟨gr,14,none⟩=some (.slice A' r2.log.length cA'):=fun p=>by
        rw[hR9.seeRun (hR9.sees hS p) (fun e=>by cases e) 14,←hev];rfl
       have kR:∀p:Cls (KeptS S' w9),p.w.cell? ⟨b1,0,none⟩=some (.pointer (some ⟨gr,0,none⟩)):=fun p=>(p.h.blk hC9.cr hb1n).cell 0
       have kT:∀p:Cls (KeptS S' w9),p.w.cell? ⟨b2,0,none⟩=some (.int .i64 (t:Int)):=fun p=>(p.h.blk hC9.ct hb2n).cell 0
       have HF9:=Lib.hid hf9
       have HR9:=Lib.hid hr9
       clear hf9 hr9
       obtain⟨i0,hi0,hz0,hz1,hz2⟩:=info_parts info_int
       have HEV:=Lib.hid hev
       have HS:=Lib.hid hS
       clear hev hS nS
       refine wp_region_float_at (KeptS S' w9) 8 2 [0,1,2,3,4,5] [] ((KeptS.refl _ w9).dn 1) (by kernel_rfl) (by kernel_rfl) ?_
       intro hne
       simp only[pickL,List.map_cons,List.map_nil,List.getElem?_cons_succ,List.getElem?_cons_zero,Option.getD_some]
       repeat (go_big_quiet_step (fail))
       refine wpQuiet_nil ?_
       refine fG (i:=6) rfl ?_
       go_wp2_with fail
       have hk7:KeptS S' w9 ((World.drewN w9 1).alloc (.cells #[.int .i64 (t:Int)] 3)):=((KeptS.refl _ w9).dn 1).al _
       refine Kit.oG hk7 ?_
       obtain⟨w7',hw7⟩:∃y,y=(World.drewN w9 1).alloc (.cells #[.int .i64 (t:Int)] 3):=⟨_,rfl⟩
       have hb7:Below (w9).heap.size w9 w7':=by rw[hw7];exact Kit.Below.al (Kit.Below.dn (Below.refl _ _)) _
       have hN7:Blk w7' (w9).heap.size 3 (List.toArray [i64V t]):=by rw[hw7];exact Blk.new (World.drewN w9 1) _ _
       obtain⟨hR7,hm7⟩:=RunW.below' hX.toMkM hR9 hb7
       have hev7:=RunW.own hR7 .log
       simp only[RV.val,rowN,rowX,rowT,rowS]at hev7
       rw[HEV.out,HF9.out]at hev7
       have HEO:=Lib.hid hev7
       rw[←hw7]at hk7 ⊢
       have hbs:=RunW.base_le hR7
       have hml:(16*1048576:Nat)≤maxLen:=by decide
       clear hw7 hev7 k14 kR kT
       refine fG (i:=7) rfl ?_
       refine wpList_append_lies _ (by rfl) _ _ _ (by rfl) base 3 i0 _ 1 8 Tryz.underlying25 hi0 hz0 hz1 hz2 rfl (by omega) _ r2.log.length _ (by rfl) HEO.out ⟨(w9).heap.size,0,none⟩ 1 1 [i64V t] (by rfl) rfl (news_one hN7) (one_one rfl) (by omega) (by omega) (by omega) hbs _ rfl ?_
       intro g8' cap8' w8' hown8 hgrow8' hat8 hlt8
       have hk8:=kept_grown hk7 hgrow8' (fun k hk=>(HS.out k).2 (by rw[show RV.val V9 .log=_ from HEV.out];exact hk))
       refine Kit.oG hk8 ?_
       refine(show tailG _ _ _ _ _ _ _ from⟨by kernel_rfl,?_⟩)
       simp only[List.drop_succ_cons,List.drop_zero]
       have hB8:=hk8.blk hR9.run.2 hgrn
       have kf:=fun i=>hB8.frozen i
       have k6:w8'.cell? ⟨gr,14,none⟩=some (.slice A' r2.log.length cA'):=by rw[hB8.cell 14,←HEV.out];rfl
       go_wp2_with fail
       first | go_end0 | refine bodyPost_ret (v:=.tuple #[]) (by simp[results,Tryz.results84,go_sem]) rfl ?_
       have hst:=hR7.logs hX.toMkM t (by rw[HEV.out];exact hgrow8') (by rw[HEV.out];exact hat8) hlt8 (by rw[HF9.out];exact hown8)
       rw[HF9.out]at hst
       obtain⟨who10,V10,hR10,hm10,hg10,hgm10⟩:=Step.trans hm7 rfl rfl hst
       exact⟨rfl,who10,V10,by rw[HDO2.out,HSC.out,if_neg (by rw[hls];exact Bool.false_ne_true),HWN.out];rw[HR9.out,HR5.out]at hR10;exact hR10,hm9.trans hm10,hg10.trans (hg9.trans (hg5.trans hg1)),hgm10.trans (hgm9.trans (hgm5.trans hgm1))⟩
   ·have f0:∀p:Cls (Below w3.heap.size w3),p.w.cell? ⟨b5,0,none⟩=some (.int .i64 s.what):=fun p=>hE3.cls 0 p
    have hd2:(s.what != 2)=true:=bne_iff_ne.2 q2
    have q2:=Lib.hid q2
    refine wp_region_cls (Below w3.heap.size w3) (Below_drewN _ 1) (by kernel_rfl) (by kernel_rfl) ?_
    intro hne
    repeat (go_big_quiet_step ((fail)))
    refine wpQuiet_nil ?_
    intro w4 h4
    clear hne
    clear f0 f4 f5 kR kw
    obtain⟨hR4,hm4⟩:=hR3.below' hX.toMkM h4
    go_wp2_with fail
    first | go_end0 | refine bodyPost_ret (v:=.tuple #[]) (by simp[results,Tryz.results84,go_sem]) rfl ?_
    exact⟨rfl,who2,V1,by rw[HDO2.out,second_stop (.inl (by rw[HWN.out];exact q2.out))];exact hR4,hm13.trans hm4,hg1,hgm1⟩
end
end Go.Proofs.YtmjilfamjlnigaaGreat.RunW
