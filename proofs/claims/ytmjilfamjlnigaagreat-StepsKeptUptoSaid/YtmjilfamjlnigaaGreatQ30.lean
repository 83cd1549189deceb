/- WALKS: a run begins. -/
import Derived.Test.YtmjilfamjlnigaaGreatQ29
import Derived.Test.YtmjilfamjlnigaaGreatQ10
namespace Go.Proofs.YtmjilfamjlnigaaGreat.RunW
open Go Go.RowKit Kit SrcP SrcW MchW OwnR
section
variable {M:Type} {X:Mk M} {K:Kd M} {base gr nc:Nat} {w w' w1:World} {who who':Nat→Option Pt} {V V':RV} {r r':Rn M}
def BegPost (X:Mk M) (K:Kd M) (nc:Nat) (w:World) (e:Ending) (w':World):Prop :=
 ∃gr who V,e=.returned (.pointer (some ⟨gr,0,none⟩))∧RunW X K w.heap.size gr nc w' who V (K.beginR nc)∧Below w.heap.size w w'
def BegRel (X:Mk M) (K:Kd M) (nc gr:Nat) (w:World) (mm:Nat) (s17:Value) (wr:World):Prop :=
 ∃(c:Nat) (who':Nat→Option Pt) (V':RV),s17=.int .i64 c∧c≤nc∧mm=nc-c∧RunW X K w.heap.size gr nc wr who' V' (Kd.at_ K nc c)∧Below w.heap.size w wr
theorem at_succ (K:Kd M) (n c:Nat):({ { { Kd.at_ K n c with events:=(Kd.at_ K n c).events++[(⟨-1,2,(c:Int),0,K.mode⟩:Ev)] }with co:=(Kd.at_ K n c).co++[[c]] }with last:=(Kd.at_ K n c).last++[c] }:Rn M)=Kd.at_ K n (c+1):=by
 unfold Kd.at_
 simp only[List.range_succ,List.map_append,List.map_cons,List.map_nil]
set_option maxRecDepth 100000 in
set_option maxHeartbeats 0 in
theorem begin_any (hX:MkM X) (K:Kd M) (hls:K.lse=false) (nc:Nat) (hn:nc≤4096) (w:World) :
  Calls Tryz.prog 34 #[.bool K.words,.int .i64 nc] w fun e w'=>BegPost X K nc w e w':=by
 have hmk:=fun w=>make_u64 nc (by omega) w
 have hml:(16*1048576:Nat)≤maxLen:=by decide
 cases hwd:K.words with
 | true =>
  go_enter Tryz.func34,Tryz.ntmps34
  go_upto_region 5 with fail
  obtain⟨w0,hw0⟩:∃y,y=(w.alloc (.cells (Array.replicate nc (.int .u64 0)) 40)).alloc (.cells #[.bool true,.bool false,.slice none 0 0,.slice (some ⟨w.heap.size,0,none⟩) nc nc,.slice none 0 0,.int .i64 nc,.slice none 0 0,.slice none 0 0,.slice none 0 0,.slice none 0 0,.slice none 0 0,.slice none 0 0,.slice none 0 0,.slice none 0 0,.slice none 0 0,.int .i64 0] 115):=⟨_,rfl⟩
  have hb0:Below w.heap.size w w0:=by rw[hw0];exact Kit.bl2
  have hc0:Blk w0 w.heap.size 40 (Array.replicate nc (u64V 0)):=by rw[hw0];exact(Blk.new w _ _).alloc _
  have hr0:Blk w0 (w.heap.size+1) 115 (runC K nc (V0 w.heap.size nc) (Kd.at_ K nc 0)):=by
   rw[hw0]
   unfold runC
   rw[hwd,hls]
   exact Blk.newAt (sizeA w _) _ _
  rw[←hw0]
  have hR0:RunW X K w.heap.size (w.heap.size+1) nc w0 _ _ _:=RunW.new (by omega) (Nat.le_refl _) (by omega) (by omega) hr0 hc0
  obtain⟨gr,hgr⟩:∃y,y=w.heap.size+1:=⟨_,rfl⟩
  rw[←hgr]at hR0 ⊢
  have hgb:w.heap.size≤gr:=by omega
  clear hw0 hc0 hr0 hgr
  have hmode:Hid (K.mode=11):=Lib.hid (by unfold Kd.mode;rw[hwd];rfl)
  go_upto_region 6 with fail
  go_loopg [17] nc (fun mm s17 wr=>BegRel X K nc gr w mm s17 wr)
  case atStart=>exact⟨0,_,_,rfl,Nat.zero_le _,rfl,hR0,hb0⟩
  case round =>
   obtain⟨c,who1,V1,rfl,hc,hmm,hR1,hb1⟩:=hrel
   have HM:=Lib.hid hmm
   clear hmm hR0 hb0
   by_cases hke:c<nc
   ·have q1:(c:Int)<(nc:Int):=by omega
    have he1:(Kd.at_ K nc c).events.length=c:=by simp[Kd.at_]
    have he2:(Kd.at_ K nc c).co.length=c:=by simp[Kd.at_]
    have he3:(Kd.at_ K nc c).last.length=c:=by simp[Kd.at_]
    have HSU:=Lib.hid (at_succ K nc c)
    generalize Kd.at_ K nc c=r1 at *
    go_upto_region 8 with fail
    obtain⟨A,cA,hev,_⟩:=own_slice (RunW.own hR1 .ev)
    simp only[RV.val,rowN,he1]at hev
    have k6:World.cell? wr ⟨gr,6,none⟩=some (.slice A c cA):=by rw[(RunW.run hR1).2.cell 6,←hev];rfl
    obtain⟨i0,hi0,hz0,hz1,hz2⟩:=info_parts info_event
    obtain⟨S,hS⟩:∃S:Nat→Prop,∀k,S k↔(RV.val V1 .ev).ownBlock=some k:=⟨_,fun _=>Iff.rfl⟩
    have nS:∀{k:Nat},who1 k≠some (.row .ev)→¬S k:=fun hk hs=>hk (RunW.ownW hR1 .ev _ ((hS _).1 hs))
    have hgrn:¬S gr:=nS (by rw[(RunW.run hR1).1];exact fun e=>by cases e)
    have hk7:KeptS S wr (World.alloc wr (.cells #[.int .i64 (-1),.int .i64 2,.int .i64 (c:Int),.int .u64 0,.int .i64 11] 42)):=(KeptS.refl _ wr).al _
    have hb7:Below (wr).heap.size wr (World.alloc wr (.cells #[.int .i64 (-1),.int .i64 2,.int .i64 (c:Int),.int .u64 0,.int .i64 11] 42)):=Kit.bl1
    have hN7:Blk (World.alloc wr (.cells #[.int .i64 (-1),.int .i64 2,.int .i64 (c:Int),.int .u64 0,.int .i64 11] 42)) (wr).heap.size 42 (List.toArray (evC ⟨-1,2,c,0,K.mode⟩)):=(by rw[hmode.out];exact Blk.new wr _ _)
    obtain⟨hR7,hm7⟩:=RunW.below' hX hR1 hb7
    have hev7:=RunW.own hR7 .ev
    simp only[RV.val,rowN,rowX,rowT,rowS]at hev7
    rw[hev,he1]at hev7
    have HEO:=Lib.hid hev7
    have HEV:=Lib.hid hev
    have HS:=Lib.hid hS
    have hbs:=RunW.base_le hR7
    clear hev hev7 hS nS
    go_upto_region 9 with (at_builtin;refine wpList_append_lies _ (by rfl) _ _ _ (by rfl) w.heap.size 42 i0 _ 5 40 Tryz.underlying27 hi0 hz0 hz1 hz2 rfl (by omega) _ c _ (by rfl) HEO.out ⟨(wr).heap.size,0,none⟩ 1 1 (evC ⟨-1,2,c,0,K.mode⟩) (by rfl) rfl (news_one hN7) (evC_one _) (by omega) (by omega) (by omega) hbs _ rfl ?_;intro g8 cap8 w8 hown8 hgrow8 hat8 hlt8;have hk8:=kept_grown hk7 hgrow8 (fun k hk=>(HS.out k).2 (by rw[show RV.val V1 .ev=_ from HEV.out];exact hk));have hB8:=hk8.blk (RunW.run hR1).2 hgrn;have kf:=fun i=>hB8.frozen i;have k6':w8.cell? ⟨gr,6,none⟩=some (.slice A c cA):=by rw[hB8.cell 6,←HEV.out];rfl)
    have hst:=hR7.evs hX ⟨-1,2,c,0,K.mode⟩ (by rw[HEV.out];exact hgrow8) (by rw[HEV.out];exact hat8) hlt8 (by rw[he1];exact hown8)
    rw[he1]at hst
    obtain⟨who2,V2,hR2,hm2,_,_⟩:=Step.trans hm7 rfl rfl hst
    have hb2:=hb1.trans (hm2.belowBase hR1 hb1.size)
    generalize w8.setCell ⟨gr,6,none⟩ _=w2 at *
    clear hst hm7 hR7 hk8 hk7 hB8 kf k6' k6 hgrow8 hat8 hlt8 hown8 HEO HEV HS hgrn hN7 hb7 hi0 hz0 hz1 hz2 hbs hm2 hR1 hb1
    obtain⟨r2,hr2⟩:∃y,y=({ r1 with events:=r1.events++[⟨-1,2,(c:Int),0,K.mode⟩] }:Rn M):=⟨_,rfl⟩
    rw[←hr2]at hR2
    have hf2:r2.co.length=c∧r2.last.length=c:=by rw[hr2];exact⟨he2,he3⟩
    have HR2:=Lib.hid hr2
    clear hr2
    have hcol2:V2.coi.length=c:=by rw[hR2.col];exact hf2.1
    obtain⟨A2,cA2,hev,_⟩:=own_slice (hR2.own .co)
    simp only[RV.val,rowN,hcol2]at hev
    have k8:w2.cell? ⟨gr,8,none⟩=some (.slice A2 c cA2):=by rw[hR2.run.2.cell 8,←hev];rfl
    obtain⟨i0,hi0,hz0,hz1,hz2⟩:=info_parts info_ints
    obtain⟨S,hS⟩:∃S:Nat→Prop,∀k,S k↔(RV.val V2 .co).ownBlock=some k:=⟨_,fun _=>Iff.rfl⟩
    have nS:∀{k:Nat},who2 k≠some (.row .co)→¬S k:=fun hk hs=>hk (RunW.ownW hR2 .co _ ((hS _).1 hs))
    have hgrn:¬S gr:=nS (by rw[(RunW.run hR2).1];exact fun e=>by cases e)
    obtain⟨gi,hgi⟩:∃y,y=w2.heap.size:=⟨_,rfl⟩
    have hia:(w2.alloc (.cells #[.int .i64 (c:Int)] 3)).heap.size=gi+1:=by rw[sizeA,hgi]
    have hk7:KeptS S w2 ((w2.alloc (.cells #[.int .i64 (c:Int)] 3)).alloc (.cells #[.slice (some ⟨gi,0,none⟩) 1 1] 25)):=((KeptS.refl _ w2).al _).al _
    have hb7:Below w2.heap.size w2 ((w2.alloc (.cells #[.int .i64 (c:Int)] 3)).alloc (.cells #[.slice (some ⟨gi,0,none⟩) 1 1] 25)):=Kit.bl2
    have hI7:Blk ((w2.alloc (.cells #[.int .i64 (c:Int)] 3)).alloc (.cells #[.slice (some ⟨gi,0,none⟩) 1 1] 25)) gi 3 #[i64V c]:=by rw[hgi];exact(Blk.new w2 _ _).alloc _
    have hN7:Blk ((w2.alloc (.cells #[.int .i64 (c:Int)] 3)).alloc (.cells #[.slice (some ⟨gi,0,none⟩) 1 1] 25)) (gi+1) 25 (List.toArray [.slice (some ⟨gi,0,none⟩) 1 1]):=Blk.newAt hia _ _
    obtain⟨hR7,hm7⟩:=RunW.below' hX hR2 hb7
    have hev7:=hR7.own .co
    simp only[RV.val,rowN,rowX,rowT,rowS]at hev7
    rw[hev,hcol2]at hev7
    have HEO:=Lib.hid hev7
    have HEV:=Lib.hid hev
    have HS:=Lib.hid hS
    have hbs:=RunW.base_le hR7
    have HIA:=Lib.hid hia
    have hni:who2 gi=none:=hR2.noOne (by omega)
    have hgib:w.heap.size≤gi:=by rw[hgi];exact hb2.size
    have hb7w:=hb2.trans (hb7.mono hb2.size)
    have HGI:=Lib.hid hgi
    rw[hgi]at HEO hN7 hI7 hk7 hR7 hb7w hni hgib hbs
    clear hev hev7 hS nS hia hb7 hgi
    go_upto_region 10 with (at_builtin;refine wpList_append_lies _ (by rfl) _ _ _ (by rfl) w.heap.size 25 i0 _ 1 24 Tryz.underlying29 hi0 hz0 hz1 hz2 rfl (by omega) _ c _ (by rfl) HEO.out ⟨w2.heap.size+1,0,none⟩ 1 1 [.slice (some ⟨w2.heap.size,0,none⟩) 1 1] (by rfl) rfl (news_one hN7) (one_one rfl) (by omega) (by omega) (by omega) hbs _ rfl ?_;intro g8 cap8 w8 hown8 hgrow8 hat8 hlt8;have hk8:=kept_grown hk7 hgrow8 (fun k hk=>(HS.out k).2 (by rw[show RV.val V2 .co=_ from HEV.out];exact hk));have hB8:=hk8.blk hR2.run.2 hgrn;have kf:=fun i=>hB8.frozen i;have k6':w8.cell? ⟨gr,8,none⟩=some (.slice A2 c cA2):=by rw[hB8.cell 8,←HEV.out];rfl)
    obtain⟨who3,V3,hR3,_,_,_⟩:=hR7.coAdd hX c hgib hni hI7 (by rw[HEV.out];exact hgrow8) (by rw[HEV.out];exact hat8) hlt8 (by rw[hcol2];exact hown8)
    rw[hcol2]at hR3
    have hb3:Below w.heap.size w (w8.setCell ⟨gr,8,none⟩ (.slice (some ⟨g8,0,none⟩) (c+1) cap8)):=Kit.Below.setN (hb7w.grown hgrow8 hbs (fun k hk=>OwnR.own_base HEO.out hk)) hgb _
    generalize w8.setCell ⟨gr,8,none⟩ _=w3 at *
    clear hm7 hR7 hk8 hk7 hB8 kf k6' k8 hgrow8 hat8 hlt8 hown8 HEO HEV HS hgrn hN7 hi0 hz0 hz1 hz2 hbs hR2 hb2 hI7 hni hgib hb7w HIA HGI hcol2
    obtain⟨r3,hr3⟩:∃y,y=({ r2 with co:=r2.co++[[c]] }:Rn M):=⟨_,rfl⟩
    rw[←hr3]at hR3
    have hf3:r3.last.length=c:=by rw[hr3];exact hf2.2
    have HR3:=Lib.hid hr3
    clear hr3
    obtain⟨A3,cA3,hev,_⟩:=own_slice (RunW.own hR3 .last)
    simp only[RV.val,rowN,hf3]at hev
    have k4:World.cell? w3 ⟨gr,4,none⟩=some (.slice A3 c cA3):=by rw[(RunW.run hR3).2.cell 4,←hev];rfl
    obtain⟨i0,hi0,hz0,hz1,hz2⟩:=info_parts info_int
    obtain⟨S,hS⟩:∃S:Nat→Prop,∀k,S k↔(RV.val V3 .last).ownBlock=some k:=⟨_,fun _=>Iff.rfl⟩
    have nS:∀{k:Nat},who3 k≠some (.row .last)→¬S k:=fun hk hs=>hk (RunW.ownW hR3 .last _ ((hS _).1 hs))
    have hgrn:¬S gr:=nS (by rw[(RunW.run hR3).1];exact fun e=>by cases e)
    have hk7:KeptS S w3 (World.alloc w3 (.cells #[.int .i64 (c:Int)] 3)):=(KeptS.refl _ w3).al _
    have hb7:Below (w3).heap.size w3 (World.alloc w3 (.cells #[.int .i64 (c:Int)] 3)):=Kit.bl1
    have hN7:Blk (World.alloc w3 (.cells #[.int .i64 (c:Int)] 3)) (w3).heap.size 3 (List.toArray [i64V c]):=Blk.new w3 _ _
    obtain⟨hR7,hm7⟩:=RunW.below' hX hR3 hb7
    have hev7:=RunW.own hR7 .last
    simp only[RV.val,rowN,rowX,rowT,rowS]at hev7
    rw[hev,hf3]at hev7
    have HEO:=Lib.hid hev7
    have HEV:=Lib.hid hev
    have HS:=Lib.hid hS
    have hbs:=RunW.base_le hR7
    clear hev hev7 hS nS
    go_upto_region 11 with (at_builtin;refine wpList_append_lies _ (by rfl) _ _ _ (by rfl) w.heap.size 3 i0 _ 1 8 Tryz.underlying25 hi0 hz0 hz1 hz2 rfl (by omega) _ c _ (by rfl) HEO.out ⟨(w3).heap.size,0,none⟩ 1 1 [i64V c] (by rfl) rfl (news_one hN7) (one_one rfl) (by omega) (by omega) (by omega) hbs _ rfl ?_;intro g8 cap8 w8 hown8 hgrow8 hat8 hlt8;have hk8:=kept_grown hk7 hgrow8 (fun k hk=>(HS.out k).2 (by rw[show RV.val V3 .last=_ from HEV.out];exact hk));have hB8:=hk8.blk (RunW.run hR3).2 hgrn;have kf:=fun i=>hB8.frozen i;have k6':w8.cell? ⟨gr,4,none⟩=some (.slice A3 c cA3):=by rw[hB8.cell 4,←HEV.out];rfl)
    have hst:=hR7.lasts hX c (by rw[HEV.out];exact hgrow8) (by rw[HEV.out];exact hat8) hlt8 (by rw[hf3];exact hown8)
    rw[hf3]at hst
    obtain⟨who4,V4,hR4,hm4,_,_⟩:=Step.trans hm7 rfl rfl hst
    have hb4:=hb3.trans (hm4.belowBase hR3 hb3.size)
    generalize w8.setCell ⟨gr,4,none⟩ _=w4 at *
    clear hst hm7 hR7 hk8 hk7 hB8 kf k6' k4 hgrow8 hat8 hlt8 hown8 HEO HEV HS hgrn hN7 hb7 hi0 hz0 hz1 hz2 hbs hm4 hR3 hb3
    have hR5:RunW X K w.heap.size gr nc w4 who4 V4 (Kd.at_ K nc (c+1)):=by
     have e3:=HR3.out
     have e2:=HR2.out
     rw[←HSU.out]
     rw[e3,e2]at hR4
     exact hR4
    clear hR4 HR2 HR3 HSU he1 he2 he3 hf2 hf3
    go_wp2_with fail
    go_roundg (nc-(c+1))
    case measure=>have:=HM.out;omega
    case rel=>exact⟨c+1,who4,V4,by push_cast;rfl,hke,rfl,hR5,hb4⟩
   ·obtain rfl:c=nc:=by omega
    go_wp2_with fail
    go_ret
    exact⟨gr,who1,V1,rfl,hR1,hb1⟩
 | false =>
  go_enter Tryz.func34,Tryz.ntmps34
  go_upto_region 5 with fail
  obtain⟨w0,hw0⟩:∃y,y=(w.alloc (.cells (Array.replicate nc (.int .u64 0)) 40)).alloc (.cells #[.bool false,.bool false,.slice none 0 0,.slice (some ⟨w.heap.size,0,none⟩) nc nc,.slice none 0 0,.int .i64 nc,.slice none 0 0,.slice none 0 0,.slice none 0 0,.slice none 0 0,.slice none 0 0,.slice none 0 0,.slice none 0 0,.slice none 0 0,.slice none 0 0,.int .i64 0] 115):=⟨_,rfl⟩
  have hb0:Below w.heap.size w w0:=by rw[hw0];exact Kit.bl2
  have hc0:Blk w0 w.heap.size 40 (Array.replicate nc (u64V 0)):=by rw[hw0];exact(Blk.new w _ _).alloc _
  have hr0:Blk w0 (w.heap.size+1) 115 (runC K nc (V0 w.heap.size nc) (Kd.at_ K nc 0)):=by
   rw[hw0]
   unfold runC
   rw[hwd,hls]
   exact Blk.newAt (sizeA w _) _ _
  rw[←hw0]
  have hR0:RunW X K w.heap.size (w.heap.size+1) nc w0 _ _ _:=RunW.new (by omega) (Nat.le_refl _) (by omega) (by omega) hr0 hc0
  obtain⟨gr,hgr⟩:∃y,y=w.heap.size+1:=⟨_,rfl⟩
  rw[←hgr]at hR0 ⊢
  have hgb:w.heap.size≤gr:=by omega
  clear hw0 hc0 hr0 hgr
  have hmode:Hid (K.mode=1):=Lib.hid (by unfold Kd.mode;rw[hwd];rfl)
  go_upto_region 6 with fail
  go_loopg [17] nc (fun mm s17 wr=>BegRel X K nc gr w mm s17 wr)
  case atStart=>exact⟨0,_,_,rfl,Nat.zero_le _,rfl,hR0,hb0⟩
  case round =>
   obtain⟨c,who1,V1,rfl,hc,hmm,hR1,hb1⟩:=hrel
   have HM:=Lib.hid hmm
   clear hmm hR0 hb0
   by_cases hke:c<nc
   ·have q1:(c:Int)<(nc:Int):=by omega
    have he1:(Kd.at_ K nc c).events.length=c:=by simp[Kd.at_]
    have he2:(Kd.at_ K nc c).co.length=c:=by simp[Kd.at_]
    have he3:(Kd.at_ K nc c).last.length=c:=by simp[Kd.at_]
    have HSU:=Lib.hid (at_succ K nc c)
    generalize Kd.at_ K nc c=r1 at *
    go_upto_region 8 with fail
    obtain⟨A,cA,hev,_⟩:=own_slice (RunW.own hR1 .ev)
    simp only[RV.val,rowN,he1]at hev
    have k6:World.cell? wr ⟨gr,6,none⟩=some (.slice A c cA):=by rw[(RunW.run hR1).2.cell 6,←hev];rfl
    obtain⟨i0,hi0,hz0,hz1,hz2⟩:=info_parts info_event
    obtain⟨S,hS⟩:∃S:Nat→Prop,∀k,S k↔(RV.val V1 .ev).ownBlock=some k:=⟨_,fun _=>Iff.rfl⟩
    have nS:∀{k:Nat},who1 k≠some (.row .ev)→¬S k:=fun hk hs=>hk (RunW.ownW hR1 .ev _ ((hS _).1 hs))
    have hgrn:¬S gr:=nS (by rw[(RunW.run hR1).1];exact fun e=>by cases e)
    have hk7:KeptS S wr (World.alloc wr (.cells #[.int .i64 (-1),.int .i64 2,.int .i64 (c:Int),.int .u64 0,.int .i64 1] 42)):=(KeptS.refl _ wr).al _
    have hb7:Below (wr).heap.size wr (World.alloc wr (.cells #[.int .i64 (-1),.int .i64 2,.int .i64 (c:Int),.int .u64 0,.int .i64 1] 42)):=Kit.bl1
    have hN7:Blk (World.alloc wr (.cells #[.int .i64 (-1),.int .i64 2,.int .i64 (c:Int),.int .u64 0,.int .i64 1] 42)) (wr).heap.size 42 (List.toArray (evC ⟨-1,2,c,0,K.mode⟩)):=(by rw[hmode.out];exact Blk.new wr _ _)
    obtain⟨hR7,hm7⟩:=RunW.below' hX hR1 hb7
    have hev7:=RunW.own hR7 .ev
    simp only[RV.val,rowN,rowX,rowT,rowS]at hev7
    rw[hev,he1]at hev7
    have HEO:=Lib.hid hev7
    have HEV:=Lib.hid hev
    have HS:=Lib.hid hS
    have hbs:=RunW.base_le hR7
    clear hev hev7 hS nS
    go_upto_region 9 with (at_builtin;refine wpList_append_lies _ (by rfl) _ _ _ (by rfl) w.heap.size 42 i0 _ 5 40 Tryz.underlying27 hi0 hz0 hz1 hz2 rfl (by omega) _ c _ (by rfl) HEO.out ⟨(wr).heap.size,0,none⟩ 1 1 (evC ⟨-1,2,c,0,K.mode⟩) (by rfl) rfl (news_one hN7) (evC_one _) (by omega) (by omega) (by omega) hbs _ rfl ?_;intro g8 cap8 w8 hown8 hgrow8 hat8 hlt8;have hk8:=kept_grown hk7 hgrow8 (fun k hk=>(HS.out k).2 (by rw[show RV.val V1 .ev=_ from HEV.out];exact hk));have hB8:=hk8.blk (RunW.run hR1).2 hgrn;have kf:=fun i=>hB8.frozen i;have k6':w8.cell? ⟨gr,6,none⟩=some (.slice A c cA):=by rw[hB8.cell 6,←HEV.out];rfl)
    have hst:=hR7.evs hX ⟨-1,2,c,0,K.mode⟩ (by rw[HEV.out];exact hgrow8) (by rw[HEV.out];exact hat8) hlt8 (by rw[he1];exact hown8)
    rw[he1]at hst
    obtain⟨who2,V2,hR2,hm2,_,_⟩:=Step.trans hm7 rfl rfl hst
    have hb2:=hb1.trans (hm2.belowBase hR1 hb1.size)
    generalize w8.setCell ⟨gr,6,none⟩ _=w2 at *
    clear hst hm7 hR7 hk8 hk7 hB8 kf k6' k6 hgrow8 hat8 hlt8 hown8 HEO HEV HS hgrn hN7 hb7 hi0 hz0 hz1 hz2 hbs hm2 hR1 hb1
    obtain⟨r2,hr2⟩:∃y,y=({ r1 with events:=r1.events++[⟨-1,2,(c:Int),0,K.mode⟩] }:Rn M):=⟨_,rfl⟩
    rw[←hr2]at hR2
    have hf2:r2.co.length=c∧r2.last.length=c:=by rw[hr2];exact⟨he2,he3⟩
    have HR2:=Lib.hid hr2
    clear hr2
    have hcol2:V2.coi.length=c:=by rw[hR2.col];exact hf2.1
    obtain⟨A2,cA2,hev,_⟩:=own_slice (hR2.own .co)
    simp only[RV.val,rowN,hcol2]at hev
    have k8:w2.cell? ⟨gr,8,none⟩=some (.slice A2 c cA2):=by rw[hR2.run.2.cell 8,←hev];rfl
    obtain⟨i0,hi0,hz0,hz1,hz2⟩:=info_parts info_ints
    obtain⟨S,hS⟩:∃S:Nat→Prop,∀k,S k↔(RV.val V2 .co).ownBlock=some k:=⟨_,fun _=>Iff.rfl⟩
    have nS:∀{k:Nat},who2 k≠some (.row .co)→¬S k:=fun hk hs=>hk (RunW.ownW hR2 .co _ ((hS _).1 hs))
    have hgrn:¬S gr:=nS (by rw[(RunW.run hR2).1];exact fun e=>by cases e)
    obtain⟨gi,hgi⟩:∃y,y=w2.heap.size:=⟨_,rfl⟩
    have hia:(w2.alloc (.cells #[.int .i64 (c:Int)] 3)).heap.size=gi+1:=by rw[sizeA,hgi]
    have hk7:KeptS S w2 ((w2.alloc (.cells #[.int .i64 (c:Int)] 3)).alloc (.cells #[.slice (some ⟨gi,0,none⟩) 1 1] 25)):=((KeptS.refl _ w2).al _).al _
    have hb7:Below w2.heap.size w2 ((w2.alloc (.cells #[.int .i64 (c:Int)] 3)).alloc (.cells #[.slice (some ⟨gi,0,none⟩) 1 1] 25)):=Kit.bl2
    have hI7:Blk ((w2.alloc (.cells #[.int .i64 (c:Int)] 3)).alloc (.cells #[.slice (some ⟨gi,0,none⟩) 1 1] 25)) gi 3 #[i64V c]:=by rw[hgi];exact(Blk.new w2 _ _).alloc _
    have hN7:Blk ((w2.alloc (.cells #[.int .i64 (c:Int)] 3)).alloc (.cells #[.slice (some ⟨gi,0,none⟩) 1 1] 25)) (gi+1) 25 (List.toArray [.slice (some ⟨gi,0,none⟩) 1 1]):=Blk.newAt hia _ _
    obtain⟨hR7,hm7⟩:=RunW.below' hX hR2 hb7
    have hev7:=hR7.own .co
    simp only[RV.val,rowN,rowX,rowT,rowS]at hev7
    rw[hev,hcol2]at hev7
    have HEO:=Lib.hid hev7
    have HEV:=Lib.hid hev
    have HS:=Lib.hid hS
    have hbs:=RunW.base_le hR7
    have HIA:=Lib.hid hia
    have hni:who2 gi=none:=hR2.noOne (by omega)
    have hgib:w.heap.size≤gi:=by rw[hgi];exact hb2.size
    have hb7w:=hb2.trans (hb7.mono hb2.size)
    have HGI:=Lib.hid hgi
    rw[hgi]at HEO hN7 hI7 hk7 hR7 hb7w hni hgib hbs
    clear hev hev7 hS nS hia hb7 hgi
    go_upto_region 10 with (at_builtin;refine wpList_append_lies _ (by rfl) _ _ _ (by rfl) w.heap.size 25 i0 _ 1 24 Tryz.underlying29 hi0 hz0 hz1 hz2 rfl (by omega) _ c _ (by rfl) HEO.out ⟨w2.heap.size+1,0,none⟩ 1 1 [.slice (some ⟨w2.heap.size,0,none⟩) 1 1] (by rfl) rfl (news_one hN7) (one_one rfl) (by omega) (by omega) (by omega) hbs _ rfl ?_;intro g8 cap8 w8 hown8 hgrow8 hat8 hlt8;have hk8:=kept_grown hk7 hgrow8 (fun k hk=>(HS.out k).2 (by rw[show RV.val V2 .co=_ from HEV.out];exact hk));have hB8:=hk8.blk hR2.run.2 hgrn;have kf:=fun i=>hB8.frozen i;have k6':w8.cell? ⟨gr,8,none⟩=some (.slice A2 c cA2):=by rw[hB8.cell 8,←HEV.out];rfl)
    obtain⟨who3,V3,hR3,_,_,_⟩:=hR7.coAdd hX c hgib hni hI7 (by rw[HEV.out];exact hgrow8) (by rw[HEV.out];exact hat8) hlt8 (by rw[hcol2];exact hown8)
    rw[hcol2]at hR3
    have hb3:Below w.heap.size w (w8.setCell ⟨gr,8,none⟩ (.slice (some ⟨g8,0,none⟩) (c+1) cap8)):=Kit.Below.setN (hb7w.grown hgrow8 hbs (fun k hk=>OwnR.own_base HEO.out hk)) hgb _
    generalize w8.setCell ⟨gr,8,none⟩ _=w3 at *
    clear hm7 hR7 hk8 hk7 hB8 kf k6' k8 hgrow8 hat8 hlt8 hown8 HEO HEV HS hgrn hN7 hi0 hz0 hz1 hz2 hbs hR2 hb2 hI7 hni hgib hb7w HIA HGI hcol2
    obtain⟨r3,hr3⟩:∃y,y=({ r2 with co:=r2.co++[[c]] }:Rn M):=⟨_,rfl⟩
    rw[←hr3]at hR3
    have hf3:r3.last.length=c:=by rw[hr3];exact hf2.2
    have HR3:=Lib.hid hr3
    clear hr3
    obtain⟨A3,cA3,hev,_⟩:=own_slice (RunW.own hR3 .last)
    simp only[RV.val,rowN,hf3]at hev
    have k4:World.cell? w3 ⟨gr,4,none⟩=some (.slice A3 c cA3):=by rw[(RunW.run hR3).2.cell 4,←hev];rfl
    obtain⟨i0,hi0,hz0,hz1,hz2⟩:=info_parts info_int
    obtain⟨S,hS⟩:∃S:Nat→Prop,∀k,S k↔(RV.val V3 .last).ownBlock=some k:=⟨_,fun _=>Iff.rfl⟩
    have nS:∀{k:Nat},who3 k≠some (.row .last)→¬S k:=fun hk hs=>hk (RunW.ownW hR3 .last _ ((hS _).1 hs))
    have hgrn:¬S gr:=nS (by rw[(RunW.run hR3).1];exact fun e=>by cases e)
    have hk7:KeptS S w3 (World.alloc w3 (.cells #[.int .i64 (c:Int)] 3)):=(KeptS.refl _ w3).al _
    have hb7:Below (w3).heap.size w3 (World.alloc w3 (.cells #[.int .i64 (c:Int)] 3)):=Kit.bl1
    have hN7:Blk (World.alloc w3 (.cells #[.int .i64 (c:Int)] 3)) (w3).heap.size 3 (List.toArray [i64V c]):=Blk.new w3 _ _
    obtain⟨hR7,hm7⟩:=RunW.below' hX hR3 hb7
    have hev7:=RunW.own hR7 .last
    simp only[RV.val,rowN,rowX,rowT,rowS]at hev7
    rw[hev,hf3]at hev7
    have HEO:=Lib.hid hev7
    have HEV:=Lib.hid hev
    have HS:=Lib.hid hS
    have hbs:=RunW.base_le hR7
    clear hev hev7 hS nS
    go_upto_region 11 with (at_builtin;refine wpList_append_lies _ (by rfl) _ _ _ (by rfl) w.heap.size 3 i0 _ 1 8 Tryz.underlying25 hi0 hz0 hz1 hz2 rfl (by omega) _ c _ (by rfl) HEO.out ⟨(w3).heap.size,0,none⟩ 1 1 [i64V c] (by rfl) rfl (news_one hN7) (one_one rfl) (by omega) (by omega) (by omega) hbs _ rfl ?_;intro g8 cap8 w8 hown8 hgrow8 hat8 hlt8;have hk8:=kept_grown hk7 hgrow8 (fun k hk=>(HS.out k).2 (by rw[show RV.val V3 .last=_ from HEV.out];exact hk));have hB8:=hk8.blk (RunW.run hR3).2 hgrn;have kf:=fun i=>hB8.frozen i;have k6':w8.cell? ⟨gr,4,none⟩=some (.slice A3 c cA3):=by rw[hB8.cell 4,←HEV.out];rfl)
    have hst:=hR7.lasts hX c (by rw[HEV.out];exact hgrow8) (by rw[HEV.out];exact hat8) hlt8 (by rw[hf3];exact hown8)
    rw[hf3]at hst
    obtain⟨who4,V4,hR4,hm4,_,_⟩:=Step.trans hm7 rfl rfl hst
    have hb4:=hb3.trans (hm4.belowBase hR3 hb3.size)
    generalize w8.setCell ⟨gr,4,none⟩ _=w4 at *
    clear hst hm7 hR7 hk8 hk7 hB8 kf k6' k4 hgrow8 hat8 hlt8 hown8 HEO HEV HS hgrn hN7 hb7 hi0 hz0 hz1 hz2 hbs hm4 hR3 hb3
    have hR5:RunW X K w.heap.size gr nc w4 who4 V4 (Kd.at_ K nc (c+1)):=by
     have e3:=HR3.out
     have e2:=HR2.out
     rw[←HSU.out]
     rw[e3,e2]at hR4
     exact hR4
    clear hR4 HR2 HR3 HSU he1 he2 he3 hf2 hf3
    go_wp2_with fail
    go_roundg (nc-(c+1))
    case measure=>have:=HM.out;omega
    case rel=>exact⟨c+1,who4,V4,by push_cast;rfl,hke,rfl,hR5,hb4⟩
   ·obtain rfl:c=nc:=by omega
    go_wp2_with fail
    go_ret
    exact⟨gr,who1,V1,rfl,hR1,hb1⟩
end
end Go.Proofs.YtmjilfamjlnigaaGreat.RunW
