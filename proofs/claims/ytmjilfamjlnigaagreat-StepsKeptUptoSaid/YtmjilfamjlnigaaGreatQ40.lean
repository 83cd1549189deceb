/- MEMORY: rows of the document's own run that grow; WALKS: two beginnings (chapters 13 and 19). -/
import Derived.Test.YtmjilfamjlnigaaGreatQ39
namespace Go.Proofs.YtmjilfamjlnigaaGreat.RefW
open Go Go.RowKit Kit SrcP SrcW Go.Proofs.YtmjilfamjlnigaaGreat.MchW
section
variable {mz:List Value} {w0:World} {nc:Nat} {w w':World} {who:Nat→Option Dq} {V:DV} {r:RR}
theorem RunAt.app_rf (h:RunAt mz w0 nc w who V r) (e:(Nat × Nat)) {g8 cap8:Nat}
  (hown:w'.ownsRow w0.heap.size 51 2 (.slice (some ⟨g8,0,none⟩) (r.rf.length+1) cap8) (r.rf.length+1) (r.rf.flatMap RunW.pairC++RunW.pairC e)) (hg:w.grownBy w' V.rf.ownBlock) (hat:V.rf.ownBlock=some g8∨w.heap.size≤g8) :
  ∃who',RunAt mz w0 nc w' who' { V with rf:=.slice (some ⟨g8,0,none⟩) (r.rf.length+1) cap8 } { r with rf:=r.rf++[e] }∧(∀k,k<w.heap.size→who' k=who k):=by
 refine h.turn (V':={ V with rf:=.slice (some ⟨g8,0,none⟩) (r.rf.length+1) cap8 }) (r':={ r with rf:=r.rf++[e] }) .rf (row:=V.rf.ownBlock) rfl ⟨hg.os,hg.tape,hg.output,hg.size,fun k hk hn=>hg.block k hk (fun e=>hn e.symm)⟩ (fun p hp=>?_) ?_ (fun k hk2=>?_) h.ths (fun y hy=>.inl hy) h.outl (fun t v l h1 h2=>.inl ⟨h1,h2⟩)
 ·cases p with
  | rf=>exact absurd rfl hp
  | _=>exact⟨rfl,rfl,rfl⟩
 ·show World.ownsRow _ _ _ _ (.slice (some ⟨g8,0,none⟩) (r.rf.length+1) cap8) (r.rf++[e]).length ((r.rf++[e]).flatMap RunW.pairC)
  rw[List.length_append,List.flatMap_append]
  simpa [dT,dS]using hown
 ·have:g8=k:=by simpa [DV.val,Value.ownBlock]using hk2
  subst this
  exact hat
theorem RunAt.app_rmw (h:RunAt mz w0 nc w who V r) (e:(Nat × Nat)) {g8 cap8:Nat}
  (hown:w'.ownsRow w0.heap.size 51 2 (.slice (some ⟨g8,0,none⟩) (r.rmw.length+1) cap8) (r.rmw.length+1) (r.rmw.flatMap RunW.pairC++RunW.pairC e)) (hg:w.grownBy w' V.rmw.ownBlock) (hat:V.rmw.ownBlock=some g8∨w.heap.size≤g8) :
  ∃who',RunAt mz w0 nc w' who' { V with rmw:=.slice (some ⟨g8,0,none⟩) (r.rmw.length+1) cap8 } { r with rmw:=r.rmw++[e] }∧(∀k,k<w.heap.size→who' k=who k):=by
 refine h.turn (V':={ V with rmw:=.slice (some ⟨g8,0,none⟩) (r.rmw.length+1) cap8 }) (r':={ r with rmw:=r.rmw++[e] }) .rmw (row:=V.rmw.ownBlock) rfl ⟨hg.os,hg.tape,hg.output,hg.size,fun k hk hn=>hg.block k hk (fun e=>hn e.symm)⟩ (fun p hp=>?_) ?_ (fun k hk2=>?_) h.ths (fun y hy=>.inl hy) h.outl (fun t v l h1 h2=>.inl ⟨h1,h2⟩)
 ·cases p with
  | rmw=>exact absurd rfl hp
  | _=>exact⟨rfl,rfl,rfl⟩
 ·show World.ownsRow _ _ _ _ (.slice (some ⟨g8,0,none⟩) (r.rmw.length+1) cap8) (r.rmw++[e]).length ((r.rmw++[e]).flatMap RunW.pairC)
  rw[List.length_append,List.flatMap_append]
  simpa [dT,dS]using hown
 ·have:g8=k:=by simpa [DV.val,Value.ownBlock]using hk2
  subst this
  exact hat
theorem RunAt.app_log (h:RunAt mz w0 nc w who V r) (e:Nat) {g8 cap8:Nat}
  (hown:w'.ownsRow w0.heap.size 3 1 (.slice (some ⟨g8,0,none⟩) (r.log.length+1) cap8) (r.log.length+1) (r.log.map RunW.i64V++[RunW.i64V e])) (hg:w.grownBy w' V.log.ownBlock) (hat:V.log.ownBlock=some g8∨w.heap.size≤g8) :
  ∃who',RunAt mz w0 nc w' who' { V with log:=.slice (some ⟨g8,0,none⟩) (r.log.length+1) cap8 } { r with log:=r.log++[e] }∧(∀k,k<w.heap.size→who' k=who k):=by
 refine h.turn (V':={ V with log:=.slice (some ⟨g8,0,none⟩) (r.log.length+1) cap8 }) (r':={ r with log:=r.log++[e] }) .log (row:=V.log.ownBlock) rfl ⟨hg.os,hg.tape,hg.output,hg.size,fun k hk hn=>hg.block k hk (fun e=>hn e.symm)⟩ (fun p hp=>?_) ?_ (fun k hk2=>?_) h.ths (fun y hy=>.inl hy) h.outl (fun t v l h1 h2=>.inl ⟨h1,h2⟩)
 ·cases p with
  | log=>exact absurd rfl hp
  | _=>exact⟨rfl,rfl,rfl⟩
 ·show World.ownsRow _ _ _ _ (.slice (some ⟨g8,0,none⟩) (r.log.length+1) cap8) (r.log++[e]).length ((r.log++[e]).map RunW.i64V)
  rw[List.length_append,List.map_append]
  simpa [dT,dS]using hown
 ·have:g8=k:=by simpa [DV.val,Value.ownBlock]using hk2
  subst this
  exact hat
theorem RunAt.app_pks (h:RunAt mz w0 nc w who V r) (e:Nat) {g8 cap8:Nat}
  (hown:w'.ownsRow w0.heap.size 3 1 (.slice (some ⟨g8,0,none⟩) (r.picks.length+1) cap8) (r.picks.length+1) (r.picks.map RunW.i64V++[RunW.i64V e])) (hg:w.grownBy w' V.pks.ownBlock) (hat:V.pks.ownBlock=some g8∨w.heap.size≤g8) :
  ∃who',RunAt mz w0 nc w' who' { V with pks:=.slice (some ⟨g8,0,none⟩) (r.picks.length+1) cap8 } { r with picks:=r.picks++[e] }∧(∀k,k<w.heap.size→who' k=who k):=by
 refine h.turn (V':={ V with pks:=.slice (some ⟨g8,0,none⟩) (r.picks.length+1) cap8 }) (r':={ r with picks:=r.picks++[e] }) .pks (row:=V.pks.ownBlock) rfl ⟨hg.os,hg.tape,hg.output,hg.size,fun k hk hn=>hg.block k hk (fun e=>hn e.symm)⟩ (fun p hp=>?_) ?_ (fun k hk2=>?_) h.ths (fun y hy=>.inl hy) h.outl (fun t v l h1 h2=>.inl ⟨h1,h2⟩)
 ·cases p with
  | pks=>exact absurd rfl hp
  | _=>exact⟨rfl,rfl,rfl⟩
 ·show World.ownsRow _ _ _ _ (.slice (some ⟨g8,0,none⟩) (r.picks.length+1) cap8) (r.picks++[e]).length ((r.picks++[e]).map RunW.i64V)
  rw[List.length_append,List.map_append]
  simpa [dT,dS]using hown
 ·have:g8=k:=by simpa [DV.val,Value.ownBlock]using hk2
  subst this
  exact hat
theorem RunAt.app_out (h:RunAt mz w0 nc w who V r) {t:Nat} (ht:t<r.outs.length) {g cap:Nat} (hv:V.outs=.slice (some ⟨g,0,none⟩) V.vo.length cap) {v:Value} {l:List Nat} (hU:U64O w v l) :
  ∃who',RunAt mz w0 nc (w.setCell ⟨g,t,none⟩ v) who' { V with vo:=V.vo.set t v } { r with outs:=r.outs.set t l }∧(∀k,k<w.heap.size→who' k=who k):=by
 have ho:=h.own .outs
 simp only[dT,dS,DV.val,dN,dX]at ho
 rw[hv]at ho
 have hown:=OwnR.own_set ho (j:=t) (by rw[h.outl];exact ht) v
 have hk:KeptS (fun k=>k=g) w (w.setCell ⟨g,t,none⟩ v):=(KeptS.refl (fun k=>k=g) w).set rfl _ _
 obtain⟨cur,hcur⟩:∃cur,Blk w g 32 cur:=by
  rcases ho.2 with⟨h1,_⟩ | ⟨g',cap',cur,h1,_,h2,_⟩
  ·cases h1
  ·injection h1 with h1
   injection h1 with h1
   injection h1 with h1
   subst h1
   exact⟨cur,h2⟩
 refine h.turn (V':={ V with vo:=V.vo.set t v }) (r':={ r with outs:=r.outs.set t l }) .outs (row:=some g) (by simp[DV.val,hv,Value.ownBlock]) (hk.mono fun k e=>by rw[e]) (fun p hp=>?_) ?_ (fun k hk2=>?_) h.ths (fun y hy=>.inl hy) (by rw[List.length_set,List.length_set];exact h.outl) (fun t2 v2 l2 h1 h2=>?_)
 ·cases p with
  | outs=>exact absurd rfl hp
  | _=>exact⟨rfl,rfl,rfl⟩
 ·show World.ownsRow _ _ _ _ V.outs (V.vo.set t v).length _
  rw[List.length_set,hv]
  exact hown
 ·left
  have hk3:V.outs.ownBlock=some k:=hk2
  rw[hv]at hk3
  exact hk3
 ·simp only[List.getElem?_set]at h1 h2
  by_cases he:t=t2
  ·subst he
   rw[if_pos rfl]at h1 h2
   rw[if_pos (by rw[h.outl];exact ht)]at h1
   rw[if_pos ht]at h2
   injection h1 with h1
   injection h2 with h2
   subst h1 h2
   exact .inr (hU.kept hcur (by decide) fun k hk2=>Below.heap_setCell _ _ _ _ hk2)
  ·rw[if_neg he]at h1 h2
   exact .inl ⟨h1,h2⟩
theorem RunAt.used (h:RunAt mz w0 nc w who V r) (n:Nat):RunAt mz w0 nc w who V { r with used:=n }:=⟨fun q=>by cases q <;> exact h.own _,h.mine,h.lt,h.ths,h.tc,h.outl,h.outi,h.start⟩
theorem DRet.trans {w1:World} {who1:Nat→Option Dq} {V':DV} {r':RR} (hk:KeptS (fun k=>who k≠none) w w1) (hw:∀k,k<w.heap.size→who1 k=who k) (h:DRet mz w0 nc w1 who1 w' V' r'):DRet mz w0 nc w who w' V' r':=by
 obtain⟨who',h1,h2⟩:=h.run
 have hs:=hk.size
 refine⟨⟨who',h1,fun k hk2=>(h2 k (by omega)).trans (hw k hk2)⟩,⟨h.kept.1.trans hk.1,h.kept.2.1.trans hk.2.1,h.kept.2.2.1.trans hk.2.2.1,Nat.le_trans hs h.kept.size,fun k hk2 hn=>?_⟩⟩
 exact(h.kept.2.2.2.2 k (by omega) (by show ¬(who1 k≠none);rw[hw k hk2];exact hn)).trans (hk.2.2.2.2 k hk2 hn)
end
set_option maxRecDepth 100000 in
set_option maxHeartbeats 4000000 in
theorem Begin13_any (lc:Nat) (hl:lc≤1048576) (A:Option Addr) (n c:Nat) (w:World) :
  Calls Tryz.prog 26 #[.agg #[.int .i64 (lc:Int),.slice A n c]] w fun e w'=>∃vl,e=.returned (.agg #[.int .i64 (lc:Int),.slice A n c,.int .i64 0,vl])∧U64O w' vl (List.replicate lc 0)∧Below w.heap.size w w':=by
 go_enter Tryz.func26,Tryz.ntmps26
 go_upto_region 1 with fail
 obtain⟨w1,hw1⟩:∃yy:World,yy=(w.alloc (.cells #[.int .i64 lc,.slice A n c] 60)).alloc (.cells #[.int .i64 0,.slice none 0 0,.int .i64 0,.slice none 0 0] 82):=⟨_,rfl⟩
 have hb1:Below w.heap.size w w1:=by rw[hw1];exact Kit.bl2
 have hT1:Blk w1 w.heap.size 60 #[.int .i64 lc,.slice A n c]:=by rw[hw1];exact(Blk.new _ _ _).alloc _
 have hS1:Blk w1 (w.heap.size+1) 82 #[.int .i64 0,.slice none 0 0,.int .i64 0,.slice none 0 0]:=by rw[hw1];exact Blk.newAt (sizeA _ _) _ _
 rw[←hw1]
 clear hw1
 obtain⟨S,hS⟩:∃S:Nat→Prop,∀k,S k↔k=w.heap.size+1:=⟨_,fun _=>Iff.rfl⟩
 have HSS:=Lib.hid hS
 clear hS
 have kd0:∀p:Cls (KeptS S w1),p.w.cell? ⟨w.heap.size,0,none⟩=some (.int .i64 lc):=fun p=>(p.h.blk hT1 (by rw[HSS.out];omega)).cell 0
 have kd1:∀p:Cls (KeptS S w1),p.w.cell? ⟨w.heap.size,1,none⟩=some (.slice A n c):=fun p=>(p.h.blk hT1 (by rw[HSS.out];omega)).cell 1
 have hne:Nonempty (Cls (KeptS S w1)):=⟨⟨w1,KeptS.refl _ _⟩⟩
 have hbd:Below w1.heap.size w1 (w1.drewN 1):=Below_drewN _ 1
 refine wp_region_float_go (fun w'=>∃p:Cls (KeptS S w1),w'=p.w) 6 (by kernel_rfl) rfl ?_
 refine floatG_reads 3 [0,1,2] ⟨⟨_,KeptS.of_below hbd⟩,rfl⟩ rfl (by kernel_rfl) ?_
 simp only[pickL,List.map_cons,List.map_nil,List.getElem?_cons_succ,List.getElem?_cons_zero,Option.getD_some]
 repeat (go_big_quiet_step (fail))
 refine wpQuiet_nil ?_
 clear hne kd0 kd1
 have hSd:Blk (w1.drewN 1) (w.heap.size+1) 82 #[.int .i64 0,.slice none 0 0,.int .i64 0,.slice none 0 0]:=hS1.drewN 1
 generalize w1.drewN 1=w2 at *
 have hmk:=make_u64 lc hl w2
 refine fG (i:=3) rfl ?_
 go_wp2_with fail
 obtain⟨w3,hw3⟩:∃yy:World,yy=w2.alloc (.cells (Array.replicate lc (.int .u64 0)) 40):=⟨_,rfl⟩
 have hb23:Below w2.heap.size w2 w3:=by rw[hw3];exact Kit.bl1
 have hU3:Blk w3 w2.heap.size 40 (Array.replicate lc (.int .u64 0)):=by rw[hw3];exact Blk.new _ _ _
 rw[←hw3]
 clear hw3 hmk
 have hS3:=hSd.below' hb23
 have hb3:=Kit.Below.then hbd hb23
 have hlu:=hU3.lt
 have hls:=hSd.lt
 generalize w2.heap.size=gu at *
 refine onG_mk (fun _=>⟨⟨_,KeptS.of_below hb3⟩,rfl⟩) ?_
 refine fG (i:=4) rfl ?_
 go_wp2_with fail
 refine onG_mk (fun _=>⟨⟨_,KeptS.of_below hb3⟩,rfl⟩) ?_
 obtain⟨z0,z1,z2,z3⟩:=Kit.cells4 hS3
 have zf:=fun i=>hS3.frozen i
 refine fG (i:=5) rfl ?_
 go_wp2_with fail
 have hUf:U64O w3 (.slice (some ⟨gu,0,none⟩) lc lc) (List.replicate lc 0):=by
  have h1:(List.replicate lc 0).length=lc:=by simp
  unfold U64O
  rw[h1]
  have hml:(16*1048576:Nat)≤maxLen:=by decide
  exact⟨by simp,.inr ⟨gu,lc,Array.replicate lc (.int .u64 0),rfl,Nat.zero_le _,hU3,Nat.le_refl _,by omega,by simp,by simp[u64V]⟩⟩
 obtain⟨wf,hwf⟩:∃yy:World,yy=(((w3.setCell ⟨w.heap.size+1,0,none⟩ (.int .i64 lc)).setCell ⟨w.heap.size+1,1,none⟩ (.slice A n c)).setCell ⟨w.heap.size+1,2,none⟩ (.int .i64 0)).setCell ⟨w.heap.size+1,3,none⟩ (.slice (some ⟨gu,0,none⟩) lc lc):=⟨_,rfl⟩
 have hSf:Blk wf (w.heap.size+1) 82 #[.int .i64 lc,.slice A n c,.int .i64 0,.slice (some ⟨gu,0,none⟩) lc lc]:=by rw[hwf];exact blk_set4 hS3 _ _ _ _
 have hkf:∀k,k≠w.heap.size+1→wf.heap[k]?=w3.heap[k]?:=fun k hk=>by rw[hwf,keep_set4 hk]
 have hUf:=hUf.kept hS3 (by decide) hkf
 have hbf:Below w.heap.size w wf:=by rw[hwf];exact below_set4 (hb1.trans (hb3.mono hb1.size)) (by omega) _ _ _ _
 rw[←hwf]
 have hCf:KeptS S w1 wf:=(KeptS.of_below hb3:KeptS S w1 w3).trans ⟨by rw[hwf];rfl,by rw[hwf];rfl,by rw[hwf];rfl,by rw[hwf];simp[World.setCell],fun k hk hn=>hkf k (fun e=>hn ((HSS.out k).2 e))⟩
 clear hwf z0 z1 z2 z3 zf
 refine Kit.oG hCf ?_
 refine(show tailG _ _ _ _ _ _ _ from⟨by kernel_rfl,?_⟩)
 simp only[List.drop_succ_cons,List.drop_nil]
 go_wp2_with fail
 obtain⟨e0,e1,e2,e3⟩:=Kit.cells4 hSf
 exact bodyPost_ret (v:=.agg #[.int .i64 lc,.slice A n c,.int .i64 0,.slice (some ⟨gu,0,none⟩) lc lc]) (by simp[results,Tryz.results26,go_sem,e0,e1,e2,e3]) rfl ⟨_,rfl,hUf,hbf⟩
def evs0 (n:Nat):List Ev:=(List.range n).map RunW.ev0
theorem evs0_len (n:Nat):(evs0 n).length=n:=by simp[evs0]
theorem evs0_succ (n:Nat):(evs0 (n+1)).flatMap RunW.evC=(evs0 n).flatMap RunW.evC++RunW.evC ⟨-1,2,(n:Int),0,1⟩:=by
 unfold evs0
 rw[List.range_succ,List.map_append,List.flatMap_append]
 simp[RunW.ev0]
def BegRel (w:World) (nc:Nat) (mm:Nat) (s7:Value) (wr:World):Prop :=
 ∃(i:Nat) (ae:Option Addr) (ce:Nat),s7=.int .i64 i∧i≤nc∧mm=nc-i∧wr.ownsRow w.heap.size 42 5 (.slice ae i ce) i ((evs0 i).flatMap RunW.evC)∧Blk wr (w.heap.size+1) 47 #[.bool false,.int .i64 nc,.slice none 0 0,.slice ae i ce,.slice none 0 0,.slice none 0 0,.slice none 0 0,.slice none 0 0,.slice none 0 0,.int .i64 0]∧Blk wr w.heap.size 47 #[.bool false,.int .i64 0,.slice none 0 0,.slice none 0 0,.slice none 0 0,.slice none 0 0,.slice none 0 0,.slice none 0 0,.slice none 0 0,.int .i64 0]∧Below w.heap.size w wr
set_option maxRecDepth 100000 in
set_option maxHeartbeats 0 in
theorem Begin19_any (nc:Nat) (hnc:nc≤4096) (w:World) :
  Calls Tryz.prog 25 #[.bool false,.int .i64 (nc:Int)] w fun e w'=>∃ae ce,e=.returned (.agg #[.bool false,.int .i64 (nc:Int),.slice none 0 0,.slice ae nc ce,.slice none 0 0,.slice none 0 0,.slice none 0 0,.slice none 0 0,.slice none 0 0,.int .i64 0])∧w'.ownsRow w.heap.size 42 5 (.slice ae nc ce) nc ((evs0 nc).flatMap RunW.evC)∧Below w.heap.size w w':=by
 obtain⟨i0,hi0,hz0,hz1,hz2⟩:=info_parts RunW.info_event
 have hml:(16*1048576:Nat)≤maxLen:=by decide
 go_enter Tryz.func25,Tryz.ntmps25
 go_upto_region 6 with fail
 obtain⟨w1,hw1⟩:∃yy:World,yy=(w.alloc (.cells #[.bool false,.int .i64 0,.slice none 0 0,.slice none 0 0,.slice none 0 0,.slice none 0 0,.slice none 0 0,.slice none 0 0,.slice none 0 0,.int .i64 0] 47)).alloc (.cells #[.bool false,.int .i64 nc,.slice none 0 0,.slice none 0 0,.slice none 0 0,.slice none 0 0,.slice none 0 0,.slice none 0 0,.slice none 0 0,.int .i64 0] 47):=⟨_,rfl⟩
 have hD1:Blk w1 (w.heap.size+1) 47 #[.bool false,.int .i64 nc,.slice none 0 0,.slice none 0 0,.slice none 0 0,.slice none 0 0,.slice none 0 0,.slice none 0 0,.slice none 0 0,.int .i64 0]:=by rw[hw1];exact Blk.newAt (sizeA _ _) _ _
 have hR1:Blk w1 w.heap.size 47 #[.bool false,.int .i64 0,.slice none 0 0,.slice none 0 0,.slice none 0 0,.slice none 0 0,.slice none 0 0,.slice none 0 0,.slice none 0 0,.int .i64 0]:=by rw[hw1];exact(Blk.new _ _ _).alloc _
 have hb1:Below w.heap.size w w1:=by rw[hw1];exact Kit.bl2
 rw[←hw1]
 clear hw1
 go_loopg [7] nc (fun mm s7 wr=>BegRel w nc mm s7 wr)
 case atStart=>exact⟨0,none,0,rfl,Nat.zero_le _,rfl,⟨rfl,.inl ⟨rfl,rfl⟩⟩,hD1,hR1,hb1⟩
 case round =>
  clear hD1 hR1 hb1
  obtain⟨i,ae,ce,rfl,hi,hmm,hown,hD,hR,hb⟩:=hrel
  have HM:=Lib.hid hmm
  clear hmm
  by_cases hke:i<nc
  ·have q1:(i:Int)<(nc:Int):=by omega
   have k3:wr.cell? ⟨w.heap.size+1,3,none⟩=some (.slice ae i ce):=Blk.cell hD 3
   obtain⟨wa,hwa⟩:∃yy:World,yy=wr.alloc (.cells #[.int .i64 (-1),.int .i64 2,.int .i64 i,.int .u64 0,.int .i64 1] 42):=⟨_,rfl⟩
   have hba:Below wr.heap.size wr wa:=by rw[hwa];exact Kit.bl1
   have hNa:Blk wa wr.heap.size 42 (List.toArray (RunW.evC ⟨-1,2,(i:Int),0,1⟩)):=by rw[hwa];exact Blk.new _ _ _
   have hDa:=hD.below' hba
   have hRa:=hR.below' hba
   have HOA:=Lib.hid (OwnR.own_stays hown fun k hk=>hba.block k (OwnR.own_lt hown hk))
   have HDN:=Lib.hid (OwnR.own_type HOA.out hDa (by decide))
   have HDa:=Lib.hid hDa
   have hbs:w.heap.size≤wa.heap.size:=by have:=hb.size;have:=hba.size;omega
   have hbwa:=hb.trans (hba.mono hb.size)
   subst hwa
   clear hown
   go_wp2_with (at_builtin;refine wpList_append_lies _ (by rfl) _ _ _ (by rfl) w.heap.size 42 i0 _ 5 40 Tryz.underlying27 hi0 hz0 hz1 hz2 rfl (by omega) _ i _ (by rfl) HOA.out ⟨wr.heap.size,0,none⟩ 1 1 (RunW.evC ⟨-1,2,(i:Int),0,1⟩) (by rfl) rfl (RunW.news_one hNa) (RunW.evC_one _) (by omega) (by omega) (by omega) hbs _ rfl ?_;intro g8 cap8 w8 hown8 hgrow8 hat8 hlt8;have c3:w8.cell? ⟨w.heap.size+1,3,none⟩=some (.slice ae i ce):=Blk.cell (HDa.out.grown hgrow8 HDN.out) 3;have cf3:=Blk.frozen (HDa.out.grown hgrow8 HDN.out) 3)
   have hD8:=HDa.out.grown hgrow8 HDN.out
   have hR8:=hRa.grown hgrow8 (OwnR.own_type HOA.out hRa (by decide))
   have hb8:=hbwa.grown hgrow8 hbs (fun k hk=>OwnR.own_base HOA.out hk)
   rw[←evs0_succ]at hown8
   clear c3 cf3 k3
   go_roundg (nc-(i+1))
   case measure=>have:=HM.out;omega
   case rel =>
    have hkt:KeptS (fun k=>k=w.heap.size+1) w8 (w8.setCell ⟨w.heap.size+1,3,none⟩ (.slice (some ⟨g8,0,none⟩) (i+1) cap8)):=(KeptS.refl (fun k=>k=w.heap.size+1) w8).set rfl _ _
    refine⟨i+1,some ⟨g8,0,none⟩,cap8,by push_cast;rfl,hke,rfl,OwnR.own_stays hown8 fun k hk=>hkt.2.2.2.2 k (OwnR.own_lt hown8 hk) (fun e=>OwnR.own_type hown8 hD8 (by decide) (by rw[hk,e])),hD8.set 3 _,hkt.blk hR8 (by omega),?_⟩
    exact NewW.kept_below hb8 hkt (fun j hj=>by rw[hj];exact Nat.le_succ _)
  ·obtain rfl:i=nc:=by omega
   have q1:¬((i:Int)<(i:Int)):=by omega
   clear hi HM hke
   obtain⟨d0,d1,d2,d3,d4,d5,d6,d7,d8,d9⟩:=Kit.cells10 hD
   obtain⟨y0,y1,y2,y3,y4,y5,y6,y7,y8,y9⟩:=Kit.cells10 hR
   have zf:=fun j=>Blk.frozen hR j
   go_wp2_with fail
   clear zf y0 y1 y2 y3 y4 y5 y6 y7 y8 y9 d0 d1 d2 d3 d4 d5 d6 d7 d8 d9
   refine(show bodyPost _ _ _ _ _ (RunW.putL wr w.heap.size 0 [.bool false,.int .i64 i,.slice none 0 0,.slice ae i ce,.slice none 0 0,.slice none 0 0,.slice none 0 0,.slice none 0 0,.slice none 0 0,.int .i64 0])from RunW.putL_go hR rfl fun wf hEf hkf=>?_)
   obtain⟨e0,e1,e2,e3,e4,e5,e6,e7,e8,e9⟩:=Kit.cells10 hEf
   refine bodyPost_ret (v:=.agg #[.bool false,.int .i64 i,.slice none 0 0,.slice ae i ce,.slice none 0 0,.slice none 0 0,.slice none 0 0,.slice none 0 0,.slice none 0 0,.int .i64 0]) (by simp[results,Tryz.results25,go_sem,e0,e1,e2,e3,e4,e5,e6,e7,e8,e9]) rfl ?_
   exact⟨ae,ce,rfl,OwnR.own_stays hown fun k hk=>hkf.2.2.2.2 k (OwnR.own_lt hown hk) (fun e=>OwnR.own_type hown hR (by decide) (by rw[hk,e])),NewW.kept_below hb hkf (fun j hj=>by rw[hj];exact Nat.le_refl _)⟩
end Go.Proofs.YtmjilfamjlnigaaGreat.RefW
