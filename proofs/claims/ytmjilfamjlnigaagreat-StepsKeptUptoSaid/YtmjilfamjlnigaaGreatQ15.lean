/- WALKS: what the document calls an expression. -/
import Derived.Test.YtmjilfamjlnigaaGreatQ14
import Derived.Test.YtmjilfamjlnigaaGreatQ04
import Derived.Test.YtmjilfamjlnigaaGreatQ06
namespace Go.Proofs.YtmjilfamjlnigaaGreat.RefW
open Go Go.RowKit Kit SrcP SrcW
theorem info_bool:(Tryz.prog.info? 4).map (fun i=>(i.zero,i.size,i.bytes))=some (some (.bool false),1,1):=by kernel_rfl
theorem make_bools (n:Nat) (hn:n≤1048576) (w:World):(Instr.makeSlice 34 (.int .i64 (n:Int)) (.int .i64 (n:Int))).run Tryz.prog w=.ok (.slice (some ⟨w.heap.size,0,none⟩) n n) (w.alloc (.cells (Array.replicate n (.bool false)) 4)):=by
 obtain⟨i0,hi0,hz0,hz1,hz2⟩:=info_parts info_bool
 have hr:=run_make (P:=Tryz.prog) w 34 4 i0 (.bool false) Tryz.underlying34 hi0 hz0 .i64 .i64 n n (by omega) (Int.le_refl _) (by rw[hz2];omega) (by omega)
 rw[hr,hz1]
 have e:madeCells (Value.bool false).cells ((n:Int).toNat*1)=Array.replicate n (.bool false):=by
  apply Array.ext
  ·simp[madeCells]
  ·intro j h1 h2
   simp only[madeCells,Array.getElem_map,Array.getElem_range,Array.getElem_replicate]
   have:∀x:Nat,x % (Value.bool false).cells.size=0:=fun x=>Nat.mod_one x
   rw[this]
   rfl
 rw[e]
 simp
def boolC (l:List Bool):Array Value:=(l.map Value.bool).toArray
def XRel (l:List SrcP.Node) (locals:Int) (w:World) (gU:Nat) (m:Nat) (s6:Value) (wr:World):Prop :=
 ∃(k:Nat) (used:List Bool),s6=.int .i64 k∧k≤l.length∧m=l.length-k∧used.length=l.length∧Blk wr gU 4 (boolC used)∧Below w.heap.size w wr∧goN locals k (l.drop k) used=goN locals 0 l (List.replicate l.length false)
theorem boolC_set (l:List Bool) (i:Nat) (b:Bool):(boolC l).setIfInBounds i (.bool b)=boolC (l.set i b):=by
 unfold boolC
 apply Array.ext'
 simp[List.map_set]
theorem boolC_get (l:List Bool) (i:Nat) (h:i<l.length) (d:Bool):(boolC l)[i]?=some (.bool (l.getD i d)):=by
 unfold boolC
 simp[List.getD_eq_getElem?_getD,h]
def YRel (l:List SrcP.Node) (u:List Bool) (w:World) (gU:Nat) (m:Nat) (s8:Value) (wr:World):Prop :=
 ∃k:Nat,s8=.int .i64 k∧k≤l.length-1∧m=l.length-k∧(∀j,j<k→u.getD j false=true)∧Blk wr gU 4 (boolC u)∧Below w.heap.size w wr
set_option maxRecDepth 100000 in
set_option maxHeartbeats 0 in
theorem Expression_any (A:Option Addr) (c:Nat) (l:List SrcP.Node) (locals:Nat) (hloc:locals≤24) (hlen:l.length≤1048576) (w:World) (hl:NodesAt w (.slice A l.length c) l) :
  Calls Tryz.prog 73 #[.slice A l.length c,.int .i64 locals] w fun r w'=>r=.returned (.bool (exprR l locals))∧Below w.heap.size w w':=by
 have HNA:=Lib.hid hl
 obtain⟨A',c',hv,hE⟩:=hl
 obtain⟨rfl,rfl⟩:A=A'∧c=c':=by simpa using hv
 have HE:=Lib.hid hE
 clear hE hv
 by_cases h0:l.length=0
 ·have HX:Hid (exprR l locals=false):=Lib.hid (by unfold exprR;simp[h0])
  rw[h0]
  go_enter Tryz.func73,Tryz.ntmps73
  go_wp2_with fail
  go_ret
  exact⟨by rw[HX.out];rfl,Below.refl _ _⟩
 by_cases h6:65536<l.length
 ·have HX:Hid (exprR l locals=false):=Lib.hid (by unfold exprR;rw[decide_eq_false (by omega)];rfl)
  have e1:((l.length:Int) == 0)=false:=by rw[beq_eq_false_iff_ne];omega
  have e2:decide ((65536:Int)<(l.length:Int))=true:=by simp;omega
  have e3:(65536:Int)<(l.length:Int):=by omega
  go_enter Tryz.func73,Tryz.ntmps73
  go_wp2_with fail
  go_ret
  exact⟨by rw[HX.out];rfl,Below.refl _ _⟩
 have HBD:Hid (0<l.length∧l.length≤65536):=Lib.hid (by omega)
 have e1:((l.length:Int) == 0)=false:=by rw[beq_eq_false_iff_ne];omega
 have e2:decide ((65536:Int)<(l.length:Int))=false:=by simp;omega
 have e3:¬((65536:Int)<(l.length:Int)):=by omega
 have hmk:=make_bools l.length hlen
 have hl6:l.length≤65536:=by omega
 have hl1:1≤l.length:=by omega
 clear h0 h6
 go_enter Tryz.func73,Tryz.ntmps73
 go_upto_region 5 with fail
 clear e1 e2 e3 hmk
 obtain⟨w1,hw1⟩:∃y,y=w.alloc (.cells (Array.replicate l.length (.bool false)) 4):=⟨_,rfl⟩
 have hU1:Blk w1 w.heap.size 4 (boolC (List.replicate l.length false)):=by rw[hw1,show boolC (List.replicate l.length false)=Array.replicate l.length (.bool false) by unfold boolC;apply Array.ext';simp];exact Blk.new _ _ _
 have hb1:Below w.heap.size w w1:=by rw[hw1];exact Kit.bl1
 rw[←hw1]
 clear hw1
 obtain⟨gU,hgU⟩:∃y,y=w.heap.size:=⟨_,rfl⟩
 have hgw:w.heap.size≤gU:=by omega
 rw[←hgU]at hU1 ⊢
 clear hgU
 go_loopg [6] l.length (fun m s6 wr=>XRel l locals w gU m s6 wr)
 case atStart=>exact⟨0,_,rfl,Nat.zero_le _,rfl,by simp,hU1,hb1,rfl⟩
 case round =>
  obtain⟨k,used,rfl,hk,hm,hul,hU,hb,hgo⟩:=hrel
  have HM:=Lib.hid hm
  clear hm hU1 hb1
  have HUL:=Lib.hid hul
  clear hul
  by_cases hke:k<l.length
  ·obtain⟨hvl,ad,rfl,hC⟩:=HE.out k l[k] (by simp[hke])
   rw[List.drop_eq_getElem_cons hke]at hgo
   generalize hn:l[k]=n at *
   have HNO:Hid (stepN locals k n used=none→exprR l locals=false):=Lib.hid (fun h=>by
    unfold exprR
    rw[←hgo]
    simp only[goN,h,Bool.and_false])
   have HYES:Hid (∀u,stepN locals k n used=some u→goN locals (k+1) (l.drop (k+1)) u=goN locals 0 l (List.replicate l.length false)):=Lib.hid (fun u h=>by
    rw[←hgo]
    simp only[goN,h])
   clear hgo hn
   obtain⟨op,val,na,nb⟩:=n
   replace hC:=hC.below hb
   have n0:wr.cell? (ad.add (k*4))=some (.int .i64 op):=hC 0 _ rfl
   have n1:wr.cell? ⟨(ad.add (k*4)).block,(ad.add (k*4)).off+1,none⟩=some (.int .u64 val):=hC 1 _ rfl
   have n2:wr.cell? ⟨(ad.add (k*4)).block,(ad.add (k*4)).off+2,none⟩=some (.int .i64 na):=hC 2 _ rfl
   have n3:wr.cell? ⟨(ad.add (k*4)).block,(ad.add (k*4)).off+3,none⟩=some (.int .i64 nb):=hC 3 _ rfl
   have a1:(k:Int)<(l.length:Int):=by omega
   have a2:(0:Int)≤(k:Int):=by omega
   go_upto_region 8 with fail
   obtain⟨wx,hwx⟩:∃x,x=wr.alloc (.cells #[.int .i64 op,.int .u64 val,.int .i64 na,.int .i64 nb] 112):=⟨_,rfl⟩
   have hbx:Below w.heap.size w wx:=by rw[hwx];exact Kit.Below.al hb _
   have hBL:Blk wx wr.heap.size 112 #[.int .i64 op,.int .u64 val,.int .i64 na,.int .i64 nb]:=by rw[hwx];exact Blk.new _ _ _
   have hUx:Blk wx gU 4 (boolC used):=by rw[hwx];exact hU.alloc _
   have hgl:wr.heap.size≠gU:=by have:=hU.lt;omega
   generalize wr.heap.size=gl at *
   rw[←hwx]
   clear hwx n0 n1 n2 n3 hC hb hU
   obtain⟨n0,n1,n2,n3⟩:=Kit.cells4 hBL
   have b0:(0:Int)≤(locals:Int):=by omega
   have b1:(locals:Int)≤24:=by omega
   have hvl2:val<M64:=hvl
   unfold M64 at hvl2
   have b2:(0:Int)≤(val:Int):=by omega
   have b3:(val:Int)<18446744073709551616:=by omega
   clear hBL hvl
   by_cases p1:op=1
   ·subst p1
    by_cases pa:na=0
    ·subst pa
     by_cases pb:nb=0
     ·subst pb
      have HYU:=Lib.hid (HYES.out used (by simp[stepN]))
      go_wp2_with fail
      go_roundg (l.length-(k+1))
      case measure=>have:=HM.out;omega
      case rel=>exact⟨k+1,_,by push_cast;rfl,hke,rfl,HUL.out,hUx,hbx,HYU.out⟩
     ·have f1:(nb != 0)=true:=by simpa using pb
      have HN:=Lib.hid (HNO.out (by simp[stepN,pb]))
      go_wp2_with fail
      go_ret
      exact⟨by rw[HN.out];rfl,hbx⟩
    ·have f1:(na != 0)=true:=by simpa using pa
     have HN:=Lib.hid (HNO.out (by simp[stepN,pa]))
     go_wp2_with fail
     go_ret
     exact⟨by rw[HN.out];rfl,hbx⟩
   by_cases p2:op=2
   ·subst p2
    by_cases pa:na=0
    ·subst pa
     by_cases pb:nb=0
     ·subst pb
      by_cases pc:locals≤val
      ·have f1:¬(val<locals):=by omega
       have pc':(locals:Int)≤(val:Int):=by omega
       have HN:=Lib.hid (HNO.out (by simp[stepN,pc]))
       go_wp2_with fail
       go_ret
       exact⟨by rw[HN.out];rfl,hbx⟩
      ·have f1:val<locals:=by omega
       have f2:¬((locals:Int)≤(val:Int)):=by omega
       have HYU:=Lib.hid (HYES.out used (by simp[stepN,f1]))
       go_wp2_with fail
       go_roundg (l.length-(k+1))
       case measure=>have:=HM.out;omega
       case rel=>exact⟨k+1,_,by push_cast;rfl,hke,rfl,HUL.out,hUx,hbx,HYU.out⟩
     ·have f1:(nb != 0)=true:=by simpa using pb
      have HN:=Lib.hid (HNO.out (by simp[stepN,pb]))
      go_wp2_with fail
      go_ret
      exact⟨by rw[HN.out];rfl,hbx⟩
    ·have f1:(na != 0)=true:=by simpa using pa
     have HN:=Lib.hid (HNO.out (by simp[stepN,pa]))
     go_wp2_with fail
     go_ret
     exact⟨by rw[HN.out];rfl,hbx⟩
   have g1:(op == 1)=false:=by simpa using p1
   have g2:(op == 2)=false:=by simpa using p2
   by_cases q1:op<1
   ·skip
    have HN:=Lib.hid (HNO.out (by simp[stepN,p1,p2,q1]))
    go_wp2_with fail
    go_ret
    exact⟨by rw[HN.out];rfl,hbx⟩
   by_cases q2:19<op
   ·skip
    have HN:=Lib.hid (HNO.out (by simp[stepN,p1,p2,q2]))
    go_wp2_with fail
    go_ret
    exact⟨by rw[HN.out];rfl,hbx⟩
   by_cases q3:val=0
   case neg =>
    have f1:((val:Int) != 0)=true:=by simp[q3]
    have HN:=Lib.hid (HNO.out (by simp[stepN,p1,p2,q3]))
    go_wp2_with fail
    go_ret
    exact⟨by rw[HN.out];rfl,hbx⟩
   subst q3
   by_cases q4:na<0
   ·skip
    have HN:=Lib.hid (HNO.out (by simp[stepN,p1,p2,q4]))
    go_wp2_with fail
    go_ret
    exact⟨by rw[HN.out];rfl,hbx⟩
   by_cases q5:(k:Int)≤na
   ·skip
    have HN:=Lib.hid (HNO.out (by simp[stepN,p1,p2,q5]))
    go_wp2_with fail
    go_ret
    exact⟨by rw[HN.out];rfl,hbx⟩
   obtain⟨a,rfl⟩:=Int.eq_ofNat_of_zero_le (show 0≤na by omega)
   have hal:a<used.length:=by rw[HUL.out];omega
   have ca:wx.cell? ⟨gU,a,none⟩=some (.bool (used.getD a true)):=by rw[hUx.cell a];exact boolC_get used a hal true
   have r1:(a:Int)<(l.length:Int):=by omega
   have r2:(0:Int)≤(a:Int):=by omega
   have r3:¬((k:Int)≤(a:Int)):=q5
   cases hb:used.getD a true with
   | true =>
    have hb':used[a]?.getD true=true:=by rw[←Kit.gD];exact hb
    rw[hb]at ca
    have HB:=Lib.hid hb
    clear hb
    have HN0:=Lib.hid (show stepN locals k ⟨op,0,(a:Int),nb⟩ used=none by simp[stepN,p1,p2,q1,q2,hb'])
    clear hb'
    have HN:=Lib.hid (HNO.out HN0.out)
    go_wp2_with fail
    go_ret
    exact⟨by rw[HN.out];rfl,hbx⟩
   | false =>
    have hb':used[a]?.getD true=false:=by rw[←Kit.gD];exact hb
    rw[hb]at ca
    have HB:=Lib.hid hb'
    clear hb hb'
    have kf:=fun i=>hUx.frozen i
    go_upto_region 14 with fail
    have hU2:Blk (wx.setCell ⟨gU,a,none⟩ (.bool true)) gU 4 (boolC (used.set a true)):=by rw[←boolC_set];exact hUx.set a (.bool true)
    have hb2:Below w.heap.size w (wx.setCell ⟨gU,a,none⟩ (.bool true)):=hbx.setCell (p:=⟨gU,a,none⟩) hgw _
    have m0:(wx.setCell ⟨gU,a,none⟩ (.bool true)).cell? ⟨gl,0,none⟩=some (.int .i64 op):=cellS n0 hgl
    have m3:(wx.setCell ⟨gU,a,none⟩ (.bool true)).cell? ⟨gl,3,none⟩=some (.int .i64 nb):=cellS n3 hgl
    generalize wx.setCell ⟨gU,a,none⟩ (.bool true)=wy at *
    clear n0 n1 n2 n3 ca kf hUx hbx
    have hl2:(used.set a true).length=l.length:=by rw[List.length_set];exact HUL.out
    have HL2:=Lib.hid hl2
    clear hl2
    by_cases q6:op≤5
    ·by_cases pb:nb=0
     ·subst pb
      have HYS:=Lib.hid (show stepN locals k ⟨op,0,(a:Int),0⟩ used=some (used.set a true) by have hb':=HB.out;simp[stepN,p1,p2,q1,q2,hb',q6];omega)
      have HYU:=Lib.hid (HYES.out (used.set a true) HYS.out)
      go_wp2_with fail
      go_roundg (l.length-(k+1))
      case measure=>have:=HM.out;omega
      case rel=>exact⟨k+1,_,by push_cast;rfl,hke,rfl,HL2.out,hU2,hb2,HYU.out⟩
     ·have f1:(nb != 0)=true:=by simpa using pb
      have HNS:=Lib.hid (show stepN locals k ⟨op,0,(a:Int),nb⟩ used=none by have hb':=HB.out;simp[stepN,p1,p2,q1,q2,hb',q6,pb])
      have HN:=Lib.hid (HNO.out HNS.out)
      go_wp2_with fail
      go_ret
      exact⟨by rw[HN.out];rfl,hb2⟩
    by_cases q7:nb<0
    ·have HNS:=Lib.hid (show stepN locals k ⟨op,0,(a:Int),nb⟩ used=none by have hb':=HB.out;simp[stepN,p1,p2,q1,q2,hb',q6,q7])
     have HN:=Lib.hid (HNO.out HNS.out)
     go_wp2_with fail
     go_ret
     exact⟨by rw[HN.out];rfl,hb2⟩
    by_cases q8:(k:Int)≤nb
    ·have HNS:=Lib.hid (show stepN locals k ⟨op,0,(a:Int),nb⟩ used=none by have hb':=HB.out;simp[stepN,p1,p2,q1,q2,hb',q6,q8])
     have HN:=Lib.hid (HNO.out HNS.out)
     go_wp2_with fail
     go_ret
     exact⟨by rw[HN.out];rfl,hb2⟩
    obtain⟨b,rfl⟩:=Int.eq_ofNat_of_zero_le (show 0≤nb by omega)
    have hbl:b<(used.set a true).length:=by rw[HL2.out];omega
    have cb:wy.cell? ⟨gU,b,none⟩=some (.bool ((used.set a true).getD b true)):=by rw[hU2.cell b];exact boolC_get _ b hbl true
    have r4:(b:Int)<(l.length:Int):=by omega
    have r5:(0:Int)≤(b:Int):=by omega
    cases hb3:(used.set a true).getD b true with
    | true =>
     rw[hb3]at cb
     have HNS:=Lib.hid (show stepN locals k ⟨op,0,(a:Int),(b:Int)⟩ used=none by
      have hb':=HB.out
      rw[Kit.gD]at hb3
      simp[stepN,p1,p2,q1,q2,hb',q6,hb3])
     clear hb3
     have HN:=Lib.hid (HNO.out HNS.out)
     go_wp2_with fail
     go_ret
     exact⟨by rw[HN.out];rfl,hb2⟩
    | false =>
     rw[hb3]at cb
     have HYS:=Lib.hid (show stepN locals k ⟨op,0,(a:Int),(b:Int)⟩ used=some ((used.set a true).set b true) by
      have hb':=HB.out
      rw[Kit.gD]at hb3
      simp[stepN,p1,p2,q1,q2,hb',q6,hb3]
      omega)
     clear hb3
     have kf:=fun i=>hU2.frozen i
     have hU4:Blk (wy.setCell ⟨gU,b,none⟩ (.bool true)) gU 4 (boolC ((used.set a true).set b true)):=by rw[←boolC_set];exact hU2.set b (.bool true)
     have hb4:Below w.heap.size w (wy.setCell ⟨gU,b,none⟩ (.bool true)):=hb2.setCell (p:=⟨gU,b,none⟩) hgw _
     have HL4:Hid (((used.set a true).set b true).length=l.length):=Lib.hid (by rw[List.length_set];exact HL2.out)
     have HYU:=Lib.hid (HYES.out ((used.set a true).set b true) HYS.out)
     go_wp2_with fail
     go_roundg (l.length-(k+1))
     case measure=>have:=HM.out;omega
     case rel=>exact⟨k+1,_,by push_cast;rfl,hke,rfl,HL4.out,hU4,hb4,HYU.out⟩
  ·obtain rfl:k=l.length:=by omega
   rw[List.drop_length]at hgo
   have HGO:Hid (goN locals 0 l (List.replicate l.length false)=some used):=Lib.hid hgo.symm
   clear hgo hke hk HM
   go_upto_region 21 with fail
   go_loopg [8] l.length (fun m s8 wr=>YRel l used w gU m s8 wr)
   case atStart=>exact⟨0,rfl,Nat.zero_le _,rfl,fun j hj=>by omega,hU,hb⟩
   case round =>
    obtain⟨j,rfl,hj,hm2,hall,hU2,hb2⟩:=hrel
    have HM2:=Lib.hid hm2
    have HAL:=Lib.hid hall
    clear hm2 hU hb hall
    have e4:((l.length:Int)-1)=((l.length-1:Nat):Int):=by omega
    by_cases hke:j<l.length-1
    ·have r1:(j:Int)<(l.length:Int)-1:=by omega
     have r2:(0:Int)≤(j:Int):=by omega
     have r3:(j:Int)<(l.length:Int):=by omega
     have cj:wr.cell? ⟨gU,j,none⟩=some (.bool (used.getD j false)):=by rw[hU2.cell j];exact boolC_get _ j (by rw[HUL.out];omega) false
     clear e4
     cases hv:used.getD j false with
     | true =>
      rw[hv]at cj
      have HV:=Lib.hid hv
      clear hv
      go_wp2_with fail
      go_roundg (l.length-(j+1))
      case measure=>have:=HM2.out;omega
      case rel =>
       refine⟨j+1,by push_cast;rfl,hke,rfl,fun i hi=>?_,hU2,hb2⟩
       rcases Nat.lt_or_ge i j with h | h
       ·exact HAL.out i h
       ·obtain rfl:i=j:=by omega
        exact HV.out
     | false =>
      rw[hv]at cj
      have HX:Hid (exprR l locals=false):=Lib.hid (by
       unfold exprR
       rw[HGO.out]
       rw[Bool.and_eq_false_iff]
       right
       rw[List.all_eq_false]
       exact⟨j,List.mem_range.2 hke,by rw[hv];decide⟩)
      clear hv
      go_wp2_with fail
      go_ret
      exact⟨by rw[HX.out];rfl,hb2⟩
    ·have r1:¬((j:Int)<(l.length:Int)-1):=by omega
     have HX:Hid (exprR l locals=true):=Lib.hid (by
      unfold exprR
      rw[HGO.out,decide_eq_true HBD.out]
      simp only[Bool.true_and,List.all_eq_true,List.mem_range]
      intro i hi
      exact HAL.out i (by omega))
     clear e4
     go_wp2_with fail
     go_ret
     exact⟨by rw[HX.out];rfl,hb2⟩
set_option maxRecDepth 100000 in
set_option maxHeartbeats 4000000 in
theorem May_any (op mode:Int) (w:World):Calls Tryz.prog 69 #[.int .i64 op,.int .i64 mode] w fun e w'=>e=.returned (.bool (mayB op mode))∧w'=w:=by
 by_cases h2:op=2
 ·subst h2
  by_cases h1:mode=1
  ·subst h1
   go_enter Tryz.func69,Tryz.ntmps69
   go_wp2_with fail
   go_ret
   refine⟨Kit.cB ?_,rfl⟩
   rfl
  ·have q1:(mode == 1)=false:=by simp[h1]
   by_cases h2:mode=2
   ·subst h2
    go_enter Tryz.func69,Tryz.ntmps69
    go_wp2_with fail
    go_ret
    refine⟨Kit.cB ?_,rfl⟩
    rfl
   ·have q2:(mode == 2)=false:=by simp[h2]
    go_enter Tryz.func69,Tryz.ntmps69
    go_wp2_with fail
    go_ret
    refine⟨Kit.cB ?_,rfl⟩
    simp[mayB,q1,q2]
 have q2:(op == 2)=false:=by simp[h2]
 by_cases h3:op=3
 ·subst h3
  by_cases h1:mode=1
  ·subst h1
   go_enter Tryz.func69,Tryz.ntmps69
   go_wp2_with fail
   go_ret
   refine⟨Kit.cB ?_,rfl⟩
   rfl
  ·have q1:(mode == 1)=false:=by simp[h1]
   by_cases h2:mode=3
   ·subst h2
    go_enter Tryz.func69,Tryz.ntmps69
    go_wp2_with fail
    go_ret
    refine⟨Kit.cB ?_,rfl⟩
    rfl
   ·have q2:(mode == 3)=false:=by simp[h2]
    go_enter Tryz.func69,Tryz.ntmps69
    go_wp2_with fail
    go_ret
    refine⟨Kit.cB ?_,rfl⟩
    simp[mayB,q1,q2]
 have q3:(op == 3)=false:=by simp[h3]
 by_cases h4:op=4
 ·subst h4
  by_cases h1:1≤mode
  ·skip
   go_enter Tryz.func69,Tryz.ntmps69
   go_wp2_with fail
   go_ret
   refine⟨Kit.cB ?_,rfl⟩
   simp[mayB,h1]
  ·skip
   go_enter Tryz.func69,Tryz.ntmps69
   go_wp2_with fail
   go_ret
   refine⟨Kit.cB ?_,rfl⟩
   simp[mayB];omega
 have q4:(op == 4)=false:=by simp[h4]
 by_cases h5:op=5
 ·subst h5
  by_cases h1:1≤mode
  ·skip
   go_enter Tryz.func69,Tryz.ntmps69
   go_wp2_with fail
   go_ret
   refine⟨Kit.cB ?_,rfl⟩
   simp[mayB,h1]
  ·skip
   go_enter Tryz.func69,Tryz.ntmps69
   go_wp2_with fail
   go_ret
   refine⟨Kit.cB ?_,rfl⟩
   simp[mayB];omega
 have q5:(op == 5)=false:=by simp[h5]
 by_cases h6:op=6
 ·subst h6
  by_cases h1:1≤mode
  ·skip
   go_enter Tryz.func69,Tryz.ntmps69
   go_wp2_with fail
   go_ret
   refine⟨Kit.cB ?_,rfl⟩
   simp[mayB,h1]
  ·skip
   go_enter Tryz.func69,Tryz.ntmps69
   go_wp2_with fail
   go_ret
   refine⟨Kit.cB ?_,rfl⟩
   simp[mayB];omega
 have q6:(op == 6)=false:=by simp[h6]
 by_cases h7:op=7
 ·subst h7
  by_cases h1:2≤mode
  ·skip
   go_enter Tryz.func69,Tryz.ntmps69
   go_wp2_with fail
   go_ret
   refine⟨Kit.cB ?_,rfl⟩
   simp[mayB,h1]
  ·skip
   go_enter Tryz.func69,Tryz.ntmps69
   go_wp2_with fail
   go_ret
   refine⟨Kit.cB ?_,rfl⟩
   simp[mayB];omega
 have q7:(op == 7)=false:=by simp[h7]
 go_enter Tryz.func69,Tryz.ntmps69
 go_wp2_with fail
 go_ret
 refine⟨Kit.cB ?_,rfl⟩
 simp[mayB,h2,h3,h4,h5,h6,h7]
set_option maxRecDepth 100000 in
set_option maxHeartbeats 4000000 in
theorem sets_any (op:Int) (w:World):Calls Tryz.prog 70 #[.int .i64 op] w fun e w'=>e=.returned (.bool (hasDst op))∧w'=w:=by
 by_cases h1:op=1
 ·subst h1
  go_enter Tryz.func70,Tryz.ntmps70
  go_wp2_with fail
  go_ret
  refine⟨Kit.cB ?_,rfl⟩
  rfl
 have q1:(op == 1)=false:=by simp[h1]
 by_cases h2:op=2
 ·subst h2
  go_enter Tryz.func70,Tryz.ntmps70
  go_wp2_with fail
  go_ret
  refine⟨Kit.cB ?_,rfl⟩
  rfl
 have q2:(op == 2)=false:=by simp[h2]
 by_cases h4:op=4
 ·subst h4
  go_enter Tryz.func70,Tryz.ntmps70
  go_wp2_with fail
  go_ret
  refine⟨Kit.cB ?_,rfl⟩
  rfl
 have q4:(op == 4)=false:=by simp[h4]
 by_cases h5:op=5
 ·subst h5
  go_enter Tryz.func70,Tryz.ntmps70
  go_wp2_with fail
  go_ret
  refine⟨Kit.cB ?_,rfl⟩
  rfl
 have q5:(op == 5)=false:=by simp[h5]
 by_cases h6:op=6
 ·subst h6
  go_enter Tryz.func70,Tryz.ntmps70
  go_wp2_with fail
  go_ret
  refine⟨Kit.cB ?_,rfl⟩
  rfl
 have q6:(op == 6)=false:=by simp[h6]
 go_enter Tryz.func70,Tryz.ntmps70
 go_wp2_with fail
 go_ret
 refine⟨Kit.cB ?_,rfl⟩
 simp[hasDst,h1,h2,h4,h5,h6]
set_option maxRecDepth 100000 in
set_option maxHeartbeats 4000000 in
theorem placed_any (op:Int) (w:World):Calls Tryz.prog 71 #[.int .i64 op] w fun e w'=>e=.returned (.bool (hasPlace op))∧w'=w:=by
 by_cases h2:op=2
 ·subst h2
  go_enter Tryz.func71,Tryz.ntmps71
  go_wp2_with fail
  go_ret
  refine⟨Kit.cB ?_,rfl⟩
  rfl
 have q2:(op == 2)=false:=by simp[h2]
 by_cases h3:op=3
 ·subst h3
  go_enter Tryz.func71,Tryz.ntmps71
  go_wp2_with fail
  go_ret
  refine⟨Kit.cB ?_,rfl⟩
  rfl
 have q3:(op == 3)=false:=by simp[h3]
 by_cases h4:op=4
 ·subst h4
  go_enter Tryz.func71,Tryz.ntmps71
  go_wp2_with fail
  go_ret
  refine⟨Kit.cB ?_,rfl⟩
  rfl
 have q4:(op == 4)=false:=by simp[h4]
 by_cases h5:op=5
 ·subst h5
  go_enter Tryz.func71,Tryz.ntmps71
  go_wp2_with fail
  go_ret
  refine⟨Kit.cB ?_,rfl⟩
  rfl
 have q5:(op == 5)=false:=by simp[h5]
 by_cases h6:op=6
 ·subst h6
  go_enter Tryz.func71,Tryz.ntmps71
  go_wp2_with fail
  go_ret
  refine⟨Kit.cB ?_,rfl⟩
  rfl
 have q6:(op == 6)=false:=by simp[h6]
 go_enter Tryz.func71,Tryz.ntmps71
 go_wp2_with fail
 go_ret
 refine⟨Kit.cB ?_,rfl⟩
 simp[hasPlace,h2,h3,h4,h5,h6]
def pows:List Int:=[1,2,4,8,16,32,64,128,256,512,1024,2048]
def powB (n:Int):Bool:=(pows.take 11).contains n
theorem powB_some (n:Int) (j:Nat) (hj:j<11) (h:n=pows.getD j 0):powB n=true:=by
 have:j=0∨j=1∨j=2∨j=3∨j=4∨j=5∨j=6∨j=7∨j=8∨j=9∨j=10:=by omega
 rcases this with rfl | rfl | rfl | rfl | rfl | rfl | rfl | rfl | rfl | rfl | rfl <;> subst h <;> decide
theorem powB_none (n:Int) (h:∀j,j<11→n≠pows.getD j 0):powB n=false:=by
 unfold powB
 rw[List.contains_eq_any_beq,List.any_eq_false]
 intro x hx hb
 have hb:n=x:=by simpa using hb
 subst hb
 obtain⟨j,hj,he⟩:=List.getElem_of_mem hx
 have hj':j<11:=by simpa [pows]using hj
 refine h j hj' ?_
 rw[←he,List.getElem_take,Kit.gD,Kit.eG]
 rfl
def PwRel (n:Int) (w:World) (m:Nat) (s3:Value) (wr:World):Prop :=
 ∃k:Nat,k≤11∧m=11-k∧s3=.int .i64 (pows.getD k 0)∧(∀j,j<k→n≠pows.getD j 0)∧wr=w
set_option maxRecDepth 100000 in
set_option maxHeartbeats 4000000 in
theorem Power_any (n:Int) (w:World):Calls Tryz.prog 72 #[.int .i64 n] w fun e w'=>e=.returned (.bool (powB n))∧w'=w:=by
 go_enter Tryz.func72,Tryz.ntmps72
 go_wp2_with fail
 go_loopg [3] 11 (fun m s3 wr=>PwRel n w m s3 wr)
 case atStart=>exact⟨0,by omega,rfl,rfl,fun j hj=>absurd hj (Nat.not_lt_zero _),rfl⟩
 case round =>
  obtain⟨k,hk,hm,rfl,hno,rfl⟩:=hrel
  have HM:=Lib.hid hm
  have HNO:=Lib.hid hno
  clear hm hno
  have h:k=0∨k=1∨k=2∨k=3∨k=4∨k=5∨k=6∨k=7∨k=8∨k=9∨k=10∨k=11:=by omega
  rcases h with rfl | rfl | rfl | rfl | rfl | rfl | rfl | rfl | rfl | rfl | rfl | rfl
  ·skip
   have hv:pows.getD 0 0=1:=rfl
   rw[hv]
   by_cases hn:n=1
   ·have HX:=Lib.hid (powB_some n 0 (by omega) hn)
    subst hn
    go_wp2_with fail
    go_ret
    exact⟨by rw[HX.out];rfl,rfl⟩
   ·have HN:=Lib.hid hn
    have q1:((1:Int) == n)=false:=by simp;omega
    clear hn hv
    go_wp2_with fail
    go_roundg (11-(0+1))
    case measure=>have:=HM.out;omega
    case rel=>exact⟨0+1,by omega,rfl,rfl,fun j hj=>by
     rcases Nat.lt_or_eq_of_le (Nat.le_of_lt_succ hj)with h | rfl
     ·exact HNO.out j h
     ·exact HN.out,rfl⟩
  ·skip
   have hv:pows.getD 1 0=2:=rfl
   rw[hv]
   by_cases hn:n=2
   ·have HX:=Lib.hid (powB_some n 1 (by omega) hn)
    subst hn
    go_wp2_with fail
    go_ret
    exact⟨by rw[HX.out];rfl,rfl⟩
   ·have HN:=Lib.hid hn
    have q1:((2:Int) == n)=false:=by simp;omega
    clear hn hv
    go_wp2_with fail
    go_roundg (11-(1+1))
    case measure=>have:=HM.out;omega
    case rel=>exact⟨1+1,by omega,rfl,rfl,fun j hj=>by
     rcases Nat.lt_or_eq_of_le (Nat.le_of_lt_succ hj)with h | rfl
     ·exact HNO.out j h
     ·exact HN.out,rfl⟩
  ·skip
   have hv:pows.getD 2 0=4:=rfl
   rw[hv]
   by_cases hn:n=4
   ·have HX:=Lib.hid (powB_some n 2 (by omega) hn)
    subst hn
    go_wp2_with fail
    go_ret
    exact⟨by rw[HX.out];rfl,rfl⟩
   ·have HN:=Lib.hid hn
    have q1:((4:Int) == n)=false:=by simp;omega
    clear hn hv
    go_wp2_with fail
    go_roundg (11-(2+1))
    case measure=>have:=HM.out;omega
    case rel=>exact⟨2+1,by omega,rfl,rfl,fun j hj=>by
     rcases Nat.lt_or_eq_of_le (Nat.le_of_lt_succ hj)with h | rfl
     ·exact HNO.out j h
     ·exact HN.out,rfl⟩
  ·skip
   have hv:pows.getD 3 0=8:=rfl
   rw[hv]
   by_cases hn:n=8
   ·have HX:=Lib.hid (powB_some n 3 (by omega) hn)
    subst hn
    go_wp2_with fail
    go_ret
    exact⟨by rw[HX.out];rfl,rfl⟩
   ·have HN:=Lib.hid hn
    have q1:((8:Int) == n)=false:=by simp;omega
    clear hn hv
    go_wp2_with fail
    go_roundg (11-(3+1))
    case measure=>have:=HM.out;omega
    case rel=>exact⟨3+1,by omega,rfl,rfl,fun j hj=>by
     rcases Nat.lt_or_eq_of_le (Nat.le_of_lt_succ hj)with h | rfl
     ·exact HNO.out j h
     ·exact HN.out,rfl⟩
  ·skip
   have hv:pows.getD 4 0=16:=rfl
   rw[hv]
   by_cases hn:n=16
   ·have HX:=Lib.hid (powB_some n 4 (by omega) hn)
    subst hn
    go_wp2_with fail
    go_ret
    exact⟨by rw[HX.out];rfl,rfl⟩
   ·have HN:=Lib.hid hn
    have q1:((16:Int) == n)=false:=by simp;omega
    clear hn hv
    go_wp2_with fail
    go_roundg (11-(4+1))
    case measure=>have:=HM.out;omega
    case rel=>exact⟨4+1,by omega,rfl,rfl,fun j hj=>by
     rcases Nat.lt_or_eq_of_le (Nat.le_of_lt_succ hj)with h | rfl
     ·exact HNO.out j h
     ·exact HN.out,rfl⟩
  ·skip
   have hv:pows.getD 5 0=32:=rfl
   rw[hv]
   by_cases hn:n=32
   ·have HX:=Lib.hid (powB_some n 5 (by omega) hn)
    subst hn
    go_wp2_with fail
    go_ret
    exact⟨by rw[HX.out];rfl,rfl⟩
   ·have HN:=Lib.hid hn
    have q1:((32:Int) == n)=false:=by simp;omega
    clear hn hv
    go_wp2_with fail
    go_roundg (11-(5+1))
    case measure=>have:=HM.out;omega
    case rel=>exact⟨5+1,by omega,rfl,rfl,fun j hj=>by
     rcases Nat.lt_or_eq_of_le (Nat.le_of_lt_succ hj)with h | rfl
     ·exact HNO.out j h
     ·exact HN.out,rfl⟩
  ·skip
   have hv:pows.getD 6 0=64:=rfl
   rw[hv]
   by_cases hn:n=64
   ·have HX:=Lib.hid (powB_some n 6 (by omega) hn)
    subst hn
    go_wp2_with fail
    go_ret
    exact⟨by rw[HX.out];rfl,rfl⟩
   ·have HN:=Lib.hid hn
    have q1:((64:Int) == n)=false:=by simp;omega
    clear hn hv
    go_wp2_with fail
    go_roundg (11-(6+1))
    case measure=>have:=HM.out;omega
    case rel=>exact⟨6+1,by omega,rfl,rfl,fun j hj=>by
     rcases Nat.lt_or_eq_of_le (Nat.le_of_lt_succ hj)with h | rfl
     ·exact HNO.out j h
     ·exact HN.out,rfl⟩
  ·skip
   have hv:pows.getD 7 0=128:=rfl
   rw[hv]
   by_cases hn:n=128
   ·have HX:=Lib.hid (powB_some n 7 (by omega) hn)
    subst hn
    go_wp2_with fail
    go_ret
    exact⟨by rw[HX.out];rfl,rfl⟩
   ·have HN:=Lib.hid hn
    have q1:((128:Int) == n)=false:=by simp;omega
    clear hn hv
    go_wp2_with fail
    go_roundg (11-(7+1))
    case measure=>have:=HM.out;omega
    case rel=>exact⟨7+1,by omega,rfl,rfl,fun j hj=>by
     rcases Nat.lt_or_eq_of_le (Nat.le_of_lt_succ hj)with h | rfl
     ·exact HNO.out j h
     ·exact HN.out,rfl⟩
  ·skip
   have hv:pows.getD 8 0=256:=rfl
   rw[hv]
   by_cases hn:n=256
   ·have HX:=Lib.hid (powB_some n 8 (by omega) hn)
    subst hn
    go_wp2_with fail
    go_ret
    exact⟨by rw[HX.out];rfl,rfl⟩
   ·have HN:=Lib.hid hn
    have q1:((256:Int) == n)=false:=by simp;omega
    clear hn hv
    go_wp2_with fail
    go_roundg (11-(8+1))
    case measure=>have:=HM.out;omega
    case rel=>exact⟨8+1,by omega,rfl,rfl,fun j hj=>by
     rcases Nat.lt_or_eq_of_le (Nat.le_of_lt_succ hj)with h | rfl
     ·exact HNO.out j h
     ·exact HN.out,rfl⟩
  ·skip
   have hv:pows.getD 9 0=512:=rfl
   rw[hv]
   by_cases hn:n=512
   ·have HX:=Lib.hid (powB_some n 9 (by omega) hn)
    subst hn
    go_wp2_with fail
    go_ret
    exact⟨by rw[HX.out];rfl,rfl⟩
   ·have HN:=Lib.hid hn
    have q1:((512:Int) == n)=false:=by simp;omega
    clear hn hv
    go_wp2_with fail
    go_roundg (11-(9+1))
    case measure=>have:=HM.out;omega
    case rel=>exact⟨9+1,by omega,rfl,rfl,fun j hj=>by
     rcases Nat.lt_or_eq_of_le (Nat.le_of_lt_succ hj)with h | rfl
     ·exact HNO.out j h
     ·exact HN.out,rfl⟩
  ·skip
   have hv:pows.getD 10 0=1024:=rfl
   rw[hv]
   by_cases hn:n=1024
   ·have HX:=Lib.hid (powB_some n 10 (by omega) hn)
    subst hn
    go_wp2_with fail
    go_ret
    exact⟨by rw[HX.out];rfl,rfl⟩
   ·have HN:=Lib.hid hn
    have q1:((1024:Int) == n)=false:=by simp;omega
    clear hn hv
    go_wp2_with fail
    go_roundg (11-(10+1))
    case measure=>have:=HM.out;omega
    case rel=>exact⟨10+1,by omega,rfl,rfl,fun j hj=>by
     rcases Nat.lt_or_eq_of_le (Nat.le_of_lt_succ hj)with h | rfl
     ·exact HNO.out j h
     ·exact HN.out,rfl⟩
  ·have hv:pows.getD 11 0=2048:=rfl
   rw[hv]
   have HX:=Lib.hid (powB_none n HNO.out)
   clear hv
   go_wp2_with fail
   go_ret
   exact⟨by rw[HX.out];rfl,rfl⟩
theorem powB_key:∀m:Nat,m≤1024→m≠0→powB (m:Int) = !(decide ((m &&& (m-1))≠0)):=by
 have h:(List.range 1025).all (fun m=>m == 0 ||(powB (m:Int) == !(decide ((m &&& (m-1))≠0))))=true:=by kernel_rfl
 intro m hm h0
 have:=List.all_eq_true.1 h m (List.mem_range.2 (by omega))
 simpa [h0]using this
theorem powB_iff (n:Int) (h0:n≠0):powB n = !(decide (n<0) || decide (1024<n) || decide ((n.toNat &&& (n-1).toNat)≠0)):=by
 by_cases h1:n<0
 ·rw[powB_none n (fun j hj h=>by
   have:j=0∨j=1∨j=2∨j=3∨j=4∨j=5∨j=6∨j=7∨j=8∨j=9∨j=10:=by omega
   rcases this with rfl | rfl | rfl | rfl | rfl | rfl | rfl | rfl | rfl | rfl | rfl <;> (simp[pows]at h;omega))]
  simp[h1]
 by_cases h2:1024<n
 ·rw[powB_none n (fun j hj h=>by
   have:j=0∨j=1∨j=2∨j=3∨j=4∨j=5∨j=6∨j=7∨j=8∨j=9∨j=10:=by omega
   rcases this with rfl | rfl | rfl | rfl | rfl | rfl | rfl | rfl | rfl | rfl | rfl <;> (simp[pows]at h;omega))]
  simp[h2]
 obtain⟨m,rfl⟩:=Int.eq_ofNat_of_zero_le (Int.not_lt.1 h1)
 have hm:m≤1024:=by omega
 have key:=powB_key
 rw[key m hm (by omega)]
 have e:((m:Int)-1).toNat=m-1:=by omega
 rw[e]
 simp[h1,h2]
end Go.Proofs.YtmjilfamjlnigaaGreat.RefW
