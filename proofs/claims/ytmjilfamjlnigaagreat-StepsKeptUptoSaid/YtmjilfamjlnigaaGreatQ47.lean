/- WALKS: what the document's whole program is. -/
import Derived.Test.YtmjilfamjlnigaaGreatQ46
import Derived.Test.YtmjilfamjlnigaaGreatQ36
namespace Go.Proofs.YtmjilfamjlnigaaGreat.RefW
open Go Go.RowKit Kit SrcP SrcW
set_option maxRecDepth 100000 in
set_option maxHeartbeats 4000000 in
theorem rWhole_any (p:SrcP.Prog) (vt:Value) (hlen:p.threads.length≤1048576) (w:World) (h:ThreadsAt w vt p.threads) :
  Calls Tryz.prog 24 #[.agg #[.int .i64 p.cells,vt]] w fun r w'=>r=.returned (.bool (wholeP p))∧Below w.heap.size w w':=by
 have HT:=Lib.hid h
 obtain⟨A,c,rfl,hE⟩:=h
 have HE:=Lib.hid hE
 clear hE
 by_cases h1:p.cells<0
 ·skip
  go_enter Tryz.func24,Tryz.ntmps24
  go_wp2_with fail
  go_ret
  refine⟨Kit.cB (?_:false=wholeP _),by repeat (first | exact Below.refl _ _ | refine Kit.Below.al ?_ _)⟩
  simp[wholeP];omega
 by_cases h2:4096<p.cells
 ·skip
  go_enter Tryz.func24,Tryz.ntmps24
  go_wp2_with fail
  go_ret
  refine⟨Kit.cB (?_:false=wholeP _),by repeat (first | exact Below.refl _ _ | refine Kit.Below.al ?_ _)⟩
  simp[wholeP];omega
 by_cases h3:64<p.threads.length
 ·have h3':(64:Int)<(p.threads.length:Int):=by omega
  go_enter Tryz.func24,Tryz.ntmps24
  go_wp2_with fail
  go_ret
  refine⟨Kit.cB (?_:false=wholeP _),by repeat (first | exact Below.refl _ _ | refine Kit.Below.al ?_ _)⟩
  simp[wholeP];omega
 have h3':¬(64:Int)<(p.threads.length:Int):=by omega
 have hwp:wholeP p=p.threads.all (threadOk p.cells):=by
  unfold wholeP
  rw[decide_eq_true (by omega),Bool.true_and]
 have HWP:=Lib.hid hwp
 clear hwp
 go_enter Tryz.func24,Tryz.ntmps24
 go_wp2_with fail
 obtain⟨w1,hw1⟩:∃x,x=w.alloc (.cells #[.int .i64 p.cells,.slice A p.threads.length c] 24):=⟨_,rfl⟩
 have hb1:Below w.heap.size w w1:=by rw[hw1];exact Kit.bl1
 have hP1:Blk w1 w.heap.size 24 #[.int .i64 p.cells,.slice A p.threads.length c]:=by rw[hw1];exact Blk.new _ _ _
 rw[←hw1]
 clear hw1
 go_loopg [3] p.threads.length (fun m s24 wr=>WhRel p w1 m s24 wr)
 case atStart=>exact⟨0,rfl,Nat.zero_le _,rfl,Below.refl _ _,rfl⟩
 case round =>
  obtain⟨k,rfl,hk,hm,hb,hok⟩:=hrel
  have hPr:=hP1.below' hb
  have p0:wr.cell? ⟨w.heap.size,0,none⟩=some (.int .i64 p.cells):=hPr.cell 0
  have p1:wr.cell? ⟨w.heap.size,1,none⟩=some (.slice A p.threads.length c):=hPr.cell 1
  clear hPr
  have HM:=Lib.hid hm
  clear hm
  by_cases hke:k<p.threads.length
  ·obtain⟨ad,va,rfl,hC,hAc,hal,_⟩:=HE.out k p.threads[k] (by simp[hke])
   rw[List.drop_eq_getElem_cons hke,List.all_cons]at hok
   have HOK:=Lib.hid hok
   clear hok
   generalize hn:p.threads[k]=t at *
   obtain⟨tl,acts⟩:=t
   have hbw:=Kit.Below.then hb1 hb
   replace hC:=hC.below hbw
   have hAw:=hAc.below hbw
   clear hAc
   simp only at hC hAw hal
   have n0:wr.cell? (ad.add (k*2))=some (.int .i64 tl):=hC 0 _ rfl
   have n1:wr.cell? ⟨(ad.add (k*2)).block,(ad.add (k*2)).off+1,none⟩=some va:=hC 1 _ rfl
   have a1:(k:Int)<(p.threads.length:Int):=by omega
   have a2:(0:Int)≤(k:Int):=by omega
   have HAW:=Lib.hid hAw
   obtain⟨B,d,rfl,hD⟩:=hAw
   have HD:=Lib.hid hD
   clear hD
   go_upto_region 7 with fail
   obtain⟨wx,hwx⟩:∃x,x=wr.alloc (.cells #[.int .i64 tl,.slice B acts.length d] 60):=⟨_,rfl⟩
   have hbx:Below w1.heap.size w1 wx:=by rw[hwx];exact Kit.Below.al hb _
   have hrx:Below wr.heap.size wr wx:=by rw[hwx];exact Kit.bl1
   have hTX:Blk wx wr.heap.size 60 #[.int .i64 tl,.slice B acts.length d]:=by rw[hwx];exact Blk.new _ _ _
   have hPX:=hP1.below' hbx
   have hglt:=hTX.lt
   generalize hgl:wr.heap.size=gl at *
   rw[←hwx]
   clear hwx n0 n1 hC p0 p1
   have n0:wx.cell? ⟨gl,0,none⟩=some (.int .i64 tl):=hTX.cell 0
   have n1:wx.cell? ⟨gl,1,none⟩=some (.slice B acts.length d):=hTX.cell 1
   by_cases g1:tl<0
   ·skip
    go_wp2_with fail
    go_ret
    refine⟨Kit.cB (?_:false=wholeP p),Kit.Below.then hb1 hbx⟩
    rw[HWP.out,←HOK.out]
    simp[threadOk] <;> omega
   by_cases g2:24<tl
   ·skip
    go_wp2_with fail
    go_ret
    refine⟨Kit.cB (?_:false=wholeP p),Kit.Below.then hb1 hbx⟩
    rw[HWP.out,←HOK.out]
    simp[threadOk] <;> omega
   by_cases g3:65536<acts.length
   ·have g3':(65536:Int)<(acts.length:Int):=by omega
    go_wp2_with fail
    go_ret
    refine⟨Kit.cB (?_:false=wholeP p),Kit.Below.then hb1 hbx⟩
    rw[HWP.out,←HOK.out]
    simp[threadOk] <;> omega
   have g3':¬(65536:Int)<(acts.length:Int):=by omega
   obtain⟨nl,rfl⟩:=Int.eq_ofNat_of_zero_le (Int.not_lt.1 g1)
   have hto:threadOk p.cells ⟨nl,acts⟩=acts.all (actOk p.cells nl acts.length):=by
    unfold threadOk
    simp only
    rw[decide_eq_true (by omega),Bool.true_and]
   rw[hto]at HOK
   clear hto
   have hWA:∀(j:Nat) (a:SrcP.Act) (vi ve vf:Value) (w2:World),ActV w2 vi ve vf a→Hid (Calls Tryz.prog 48 #[.agg (actC a vi ve vf),.agg #[.int .i64 p.cells,.slice (some ad) p.threads.length c],.agg #[.int .i64 nl,.slice B acts.length d]] w2 fun r w'=>r=.returned (.bool (actOk p.cells nl acts.length a))∧Below w2.heap.size w2 w') :=
    fun j a vi ve vf w2 ha=>Lib.hid (whole_any a vi ve vf _ p.cells (by omega) nl acts.length (by omega) (by omega) B d w2 ha)
   generalize hokf:actOk p.cells nl acts.length=okf at *
   go_wp2_with fail
   go_loopg [5] acts.length (fun m s45 w3=>WhRel2 okf acts wx m s45 w3)
   case atStart=>exact⟨0,rfl,Nat.zero_le _,rfl,Below.refl _ _,rfl⟩
   case round =>
    obtain⟨j,rfl,hj,hm2,hb3,hok2⟩:=hrel
    have n1:wr.cell? ⟨gl,1,none⟩=some (.slice B acts.length d):=(hTX.below' hb3).cell 1
    have HM2:=Lib.hid hm2
    clear hm2
    by_cases hje:j<acts.length
    ·obtain⟨ad2,vi,ve,vf,rfl,hC2,hAV⟩:=HD.out j acts[j] (by simp[hje])
     rw[List.drop_eq_getElem_cons hje,List.all_cons]at hok2
     have HOK2:=Lib.hid hok2
     clear hok2
     generalize hna:acts[j]=a at *
     have hbr3:=hrx.trans (hb3.mono (Nat.le_of_lt hglt))
     have hC3:=hC2.below (w':=wr) (by rw[hgl];exact hbr3)
     have hAV3:=hAV.below (w':=wr) (by rw[hgl];exact hbr3)
     clear hC2 hAV
     have HAV3:=Lib.hid hAV3
     obtain⟨I,ci,rfl,_⟩:=hAV3.index
     obtain⟨E,ce,rfl,_⟩:=hAV3.e
     obtain⟨F,cf,rfl,_⟩:=hAV3.f
     clear hAV3
     generalize a.index.length=li at *
     generalize a.e.length=le at *
     generalize a.f.length=lf at *
     have n2:wr.cell? (ad2.add (j*11))=some (.int .i64 a.op):=hC3 0 _ rfl
     have r1:wr.cell? ⟨(ad2.add (j*11)).block,(ad2.add (j*11)).off+1,none⟩=some (.int .i64 a.dst):=hC3 1 _ rfl
     have r2:wr.cell? ⟨(ad2.add (j*11)).block,(ad2.add (j*11)).off+2,none⟩=some (.int .i64 a.base):=hC3 2 _ rfl
     have r3:wr.cell? ⟨(ad2.add (j*11)).block,(ad2.add (j*11)).off+3,none⟩=some (.int .i64 a.size):=hC3 3 _ rfl
     have r4:wr.cell? ⟨(ad2.add (j*11)).block,(ad2.add (j*11)).off+4,none⟩=some (.slice I li ci):=hC3 4 _ rfl
     have r5:wr.cell? ⟨(ad2.add (j*11)).block,(ad2.add (j*11)).off+5,none⟩=some (.slice E le ce):=hC3 5 _ rfl
     have r6:wr.cell? ⟨(ad2.add (j*11)).block,(ad2.add (j*11)).off+6,none⟩=some (.slice F lf cf):=hC3 6 _ rfl
     have r7:wr.cell? ⟨(ad2.add (j*11)).block,(ad2.add (j*11)).off+7,none⟩=some (.int .i64 a.mode):=hC3 7 _ rfl
     have r8:wr.cell? ⟨(ad2.add (j*11)).block,(ad2.add (j*11)).off+8,none⟩=some (.int .i64 a.to):=hC3 8 _ rfl
     have r9:wr.cell? ⟨(ad2.add (j*11)).block,(ad2.add (j*11)).off+9,none⟩=some (.int .i64 a.line):=hC3 9 _ rfl
     have r10:wr.cell? ⟨(ad2.add (j*11)).block,(ad2.add (j*11)).off+10,none⟩=some (.int .i64 a.col):=hC3 10 _ rfl
     have b1:(j:Int)<(acts.length:Int):=by omega
     have b2:(0:Int)≤(j:Int):=by omega
     clear n2 r1 r2 r3 r4 r5 r6 r7 r8 r9 r10
     have hTr:=hTX.below' hb3
     have hPr:=hPX.below' hb3
     have HC3:=Lib.hid hC3
     have HTR:=Lib.hid hTr
     have HPR:=Lib.hid hPr
     clear hC3 hTr hPr
     have cz0:∀p':Cls (Below wr.heap.size wr),p'.w.cell? (ad2.add (j*11))=some (.int .i64 a.op):=fun p'=>(HC3.out.below p'.h) 0 _ rfl
     have cz1:∀p':Cls (Below wr.heap.size wr),p'.w.cell? ⟨(ad2.add (j*11)).block,(ad2.add (j*11)).off+1,none⟩=some (.int .i64 a.dst):=fun p'=>(HC3.out.below p'.h) 1 _ rfl
     have cz2:∀p':Cls (Below wr.heap.size wr),p'.w.cell? ⟨(ad2.add (j*11)).block,(ad2.add (j*11)).off+2,none⟩=some (.int .i64 a.base):=fun p'=>(HC3.out.below p'.h) 2 _ rfl
     have cz3:∀p':Cls (Below wr.heap.size wr),p'.w.cell? ⟨(ad2.add (j*11)).block,(ad2.add (j*11)).off+3,none⟩=some (.int .i64 a.size):=fun p'=>(HC3.out.below p'.h) 3 _ rfl
     have cz4:∀p':Cls (Below wr.heap.size wr),p'.w.cell? ⟨(ad2.add (j*11)).block,(ad2.add (j*11)).off+4,none⟩=some (.slice I li ci):=fun p'=>(HC3.out.below p'.h) 4 _ rfl
     have cz5:∀p':Cls (Below wr.heap.size wr),p'.w.cell? ⟨(ad2.add (j*11)).block,(ad2.add (j*11)).off+5,none⟩=some (.slice E le ce):=fun p'=>(HC3.out.below p'.h) 5 _ rfl
     have cz6:∀p':Cls (Below wr.heap.size wr),p'.w.cell? ⟨(ad2.add (j*11)).block,(ad2.add (j*11)).off+6,none⟩=some (.slice F lf cf):=fun p'=>(HC3.out.below p'.h) 6 _ rfl
     have cz7:∀p':Cls (Below wr.heap.size wr),p'.w.cell? ⟨(ad2.add (j*11)).block,(ad2.add (j*11)).off+7,none⟩=some (.int .i64 a.mode):=fun p'=>(HC3.out.below p'.h) 7 _ rfl
     have cz8:∀p':Cls (Below wr.heap.size wr),p'.w.cell? ⟨(ad2.add (j*11)).block,(ad2.add (j*11)).off+8,none⟩=some (.int .i64 a.to):=fun p'=>(HC3.out.below p'.h) 8 _ rfl
     have cz9:∀p':Cls (Below wr.heap.size wr),p'.w.cell? ⟨(ad2.add (j*11)).block,(ad2.add (j*11)).off+9,none⟩=some (.int .i64 a.line):=fun p'=>(HC3.out.below p'.h) 9 _ rfl
     have cz10:∀p':Cls (Below wr.heap.size wr),p'.w.cell? ⟨(ad2.add (j*11)).block,(ad2.add (j*11)).off+10,none⟩=some (.int .i64 a.col):=fun p'=>(HC3.out.below p'.h) 10 _ rfl
     have ct0:∀p':Cls (Below wr.heap.size wr),p'.w.cell? ⟨gl,0,none⟩=some (.int .i64 nl):=fun p'=>(HTR.out.below' p'.h).cell 0
     have ct1:∀p':Cls (Below wr.heap.size wr),p'.w.cell? ⟨gl,1,none⟩=some (.slice (some ad2) acts.length d):=fun p'=>(HTR.out.below' p'.h).cell 1
     have cp0:∀p':Cls (Below wr.heap.size wr),p'.w.cell? ⟨w.heap.size,0,none⟩=some (.int .i64 p.cells):=fun p'=>(HPR.out.below' p'.h).cell 0
     have cp1:∀p':Cls (Below wr.heap.size wr),p'.w.cell? ⟨w.heap.size,1,none⟩=some (.slice (some ad) p.threads.length c):=fun p'=>(HPR.out.below' p'.h).cell 1
     have hne:Nonempty (Cls (Below wr.heap.size wr)):=⟨⟨wr,Below.refl _ _⟩⟩
     have hbd:Below wr.heap.size wr (wr.drewN 1):=Below_drewN _ 1
     have HW:=hWA j a _ _ _ (wr.drewN 1) (HAV3.out.below hbd)
     unfold actC at HW
     go_upto_region 12 with fail
     clear n1
     refine wp_region_float_go (fun w'=>∃p':Cls (Below wr.heap.size wr),w'=p'.w) 9 (by kernel_rfl) rfl ?_
     refine floatG_reads 2 [0,1,2,3,4,5,6] ⟨⟨_,hbd⟩,rfl⟩ rfl (by kernel_rfl) ?_
     simp only[pickL,List.map_cons,List.map_nil,List.getElem?_cons_succ,List.getElem?_cons_zero,Option.getD_some]
     repeat (go_big_quiet_step (fail))
     refine wpQuiet_nil ?_
     clear cz0 cz1 cz2 cz3 cz4 cz5 cz6 cz7 cz8 cz9 cz10 ct0 ct1 cp0 cp1 hne hWA
     generalize wr.drewN 1=wd at *
     generalize okf a=b at *
     cases b with
     | false =>
      refine fG (i:=7) rfl ?_
      go_wp2_with (go_at_call 48;refine HW.out.mono ?_;rintro e w5 ⟨rfl,hb5⟩)
      have hb5r:Below wr.heap.size wr w5:=hbd.trans (hb5.mono hbd.size)
      refine Kit.oG hb5r ?_
      refine fG (i:=8) rfl ?_
      go_wp2_with fail
      refine Kit.oG hb5r ?_
      refine(show tailG _ _ _ _ _ _ _ from⟨by kernel_rfl,?_⟩)
      simp only[List.drop_succ_cons,List.drop_nil]
      go_wp2_with fail
      go_ret
      refine⟨Kit.cB (?_:false=wholeP p),Kit.Below.then hb1 (Kit.Below.then hbx (Kit.Below.then hb3 hb5r))⟩
      rw[HWP.out,←HOK.out,←HOK2.out]
      rfl
     | true =>
      refine fG (i:=7) rfl ?_
      go_wp2_with (go_at_call 48;refine HW.out.mono ?_;rintro e w5 ⟨rfl,hb5⟩)
      have hb5r:Below wr.heap.size wr w5:=hbd.trans (hb5.mono hbd.size)
      refine Kit.oG hb5r ?_
      refine fG (i:=8) rfl ?_
      go_wp2_with fail
      refine Kit.oG hb5r ?_
      refine(show tailG _ _ _ _ _ _ _ from⟨by kernel_rfl,?_⟩)
      simp only[List.drop_succ_cons,List.drop_nil]
      go_wp2_with fail
      go_roundg (acts.length-(j+1))
      case measure=>have:=HM2.out;omega
      case rel=>exact⟨j+1,by push_cast;rfl,hje,rfl,Kit.Below.then hb3 hb5r,HOK2.out⟩
    ·obtain rfl:j=acts.length:=by omega
     rw[List.drop_length]at hok2
     have HOK2:=Lib.hid hok2
     clear hok2
     go_wp2_with fail
     go_roundg (p.threads.length-(k+1))
     case measure=>have:=HM.out;omega
     case rel=>exact⟨k+1,by push_cast;rfl,hke,rfl,Kit.Below.then hbx hb3,by rw[←HOK.out,←HOK2.out];rfl⟩
  ·obtain rfl:k=p.threads.length:=by omega
   rw[List.drop_length]at hok
   have HOK:=Lib.hid hok
   clear hok
   go_wp2_with fail
   go_ret
   exact⟨Kit.cB (show true=wholeP p by rw[HWP.out,←HOK.out];rfl),Kit.Below.then hb1 hb⟩
end Go.Proofs.YtmjilfamjlnigaaGreat.RefW
