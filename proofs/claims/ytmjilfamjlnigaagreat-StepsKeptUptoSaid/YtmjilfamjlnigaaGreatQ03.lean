/- WALKS: what a whole program is: may, parts, once. -/
import Derived.Test.YtmjilfamjlnigaaGreatQ02
namespace Go.Proofs.YtmjilfamjlnigaaGreat.SrcW
open Go Go.RowKit Kit SrcP
set_option maxRecDepth 100000 in
set_option maxHeartbeats 4000000 in
theorem may_any (op mode:Int) (w:World):Calls Tryz.prog 95 #[.int .i64 op,.int .i64 mode] w fun e w'=>e=.returned (.bool (mayB op mode))∧w'=w:=by
 by_cases h2:op=2
 ·subst h2
  by_cases h1:mode=1
  ·subst h1
   go_enter Tryz.func95,Tryz.ntmps95
   go_wp2_with fail
   go_ret
   refine⟨Kit.cB ?_,rfl⟩
   rfl
  ·have q1:(mode == 1)=false:=by simp[h1]
   by_cases h2:mode=2
   ·subst h2
    go_enter Tryz.func95,Tryz.ntmps95
    go_wp2_with fail
    go_ret
    refine⟨Kit.cB ?_,rfl⟩
    rfl
   ·have q2:(mode == 2)=false:=by simp[h2]
    go_enter Tryz.func95,Tryz.ntmps95
    go_wp2_with fail
    go_ret
    refine⟨Kit.cB ?_,rfl⟩
    simp[mayB,q1,q2]
 have q2:(op == 2)=false:=by simp[h2]
 by_cases h3:op=3
 ·subst h3
  by_cases h1:mode=1
  ·subst h1
   go_enter Tryz.func95,Tryz.ntmps95
   go_wp2_with fail
   go_ret
   refine⟨Kit.cB ?_,rfl⟩
   rfl
  ·have q1:(mode == 1)=false:=by simp[h1]
   by_cases h2:mode=3
   ·subst h2
    go_enter Tryz.func95,Tryz.ntmps95
    go_wp2_with fail
    go_ret
    refine⟨Kit.cB ?_,rfl⟩
    rfl
   ·have q2:(mode == 3)=false:=by simp[h2]
    go_enter Tryz.func95,Tryz.ntmps95
    go_wp2_with fail
    go_ret
    refine⟨Kit.cB ?_,rfl⟩
    simp[mayB,q1,q2]
 have q3:(op == 3)=false:=by simp[h3]
 by_cases h4:op=4
 ·subst h4
  by_cases h1:1≤mode
  ·skip
   go_enter Tryz.func95,Tryz.ntmps95
   go_wp2_with fail
   go_ret
   refine⟨Kit.cB ?_,rfl⟩
   simp[mayB,h1]
  ·skip
   go_enter Tryz.func95,Tryz.ntmps95
   go_wp2_with fail
   go_ret
   refine⟨Kit.cB ?_,rfl⟩
   simp[mayB];omega
 have q4:(op == 4)=false:=by simp[h4]
 by_cases h5:op=5
 ·subst h5
  by_cases h1:1≤mode
  ·skip
   go_enter Tryz.func95,Tryz.ntmps95
   go_wp2_with fail
   go_ret
   refine⟨Kit.cB ?_,rfl⟩
   simp[mayB,h1]
  ·skip
   go_enter Tryz.func95,Tryz.ntmps95
   go_wp2_with fail
   go_ret
   refine⟨Kit.cB ?_,rfl⟩
   simp[mayB];omega
 have q5:(op == 5)=false:=by simp[h5]
 by_cases h6:op=6
 ·subst h6
  by_cases h1:1≤mode
  ·skip
   go_enter Tryz.func95,Tryz.ntmps95
   go_wp2_with fail
   go_ret
   refine⟨Kit.cB ?_,rfl⟩
   simp[mayB,h1]
  ·skip
   go_enter Tryz.func95,Tryz.ntmps95
   go_wp2_with fail
   go_ret
   refine⟨Kit.cB ?_,rfl⟩
   simp[mayB];omega
 have q6:(op == 6)=false:=by simp[h6]
 by_cases h7:op=7
 ·subst h7
  by_cases h1:2≤mode
  ·skip
   go_enter Tryz.func95,Tryz.ntmps95
   go_wp2_with fail
   go_ret
   refine⟨Kit.cB ?_,rfl⟩
   simp[mayB,h1]
  ·skip
   go_enter Tryz.func95,Tryz.ntmps95
   go_wp2_with fail
   go_ret
   refine⟨Kit.cB ?_,rfl⟩
   simp[mayB];omega
 have q7:(op == 7)=false:=by simp[h7]
 go_enter Tryz.func95,Tryz.ntmps95
 go_wp2_with fail
 go_ret
 refine⟨Kit.cB ?_,rfl⟩
 simp[mayB,h2,h3,h4,h5,h6,h7]
def hasV (op:Int):Array Value:=#[.bool (hasDst op),.bool (hasPlace op),.bool (hasE op),.bool (hasF op),.bool (hasTo op)]
theorem tab_ix (op:Int) (h1:1≤op) (h2:op≤10) (w:World):(Instr.index 247 (.agg #[.bool false,.bool false,.bool false,.bool false,.bool false,.bool true,.bool false,.bool true,.bool false,.bool false,.bool true,.bool true,.bool false,.bool false,.bool false,.bool false,.bool true,.bool true,.bool false,.bool false,.bool true,.bool true,.bool true,.bool false,.bool false,.bool true,.bool true,.bool true,.bool false,.bool false,.bool true,.bool true,.bool true,.bool true,.bool false,.bool false,.bool false,.bool false,.bool false,.bool false,.bool false,.bool false,.bool true,.bool false,.bool false,.bool false,.bool false,.bool false,.bool false,.bool true,.bool false,.bool false,.bool true,.bool false,.bool true]) (.int .i64 op)).run Tryz.prog w=.ok (.agg #[.bool (hasDst op),.bool (hasPlace op),.bool (hasE op),.bool (hasF op),.bool (hasTo op)]) w:=by
 have t1:(Instr.index 247 (.agg #[.bool false,.bool false,.bool false,.bool false,.bool false,.bool true,.bool false,.bool true,.bool false,.bool false,.bool true,.bool true,.bool false,.bool false,.bool false,.bool false,.bool true,.bool true,.bool false,.bool false,.bool true,.bool true,.bool true,.bool false,.bool false,.bool true,.bool true,.bool true,.bool false,.bool false,.bool true,.bool true,.bool true,.bool true,.bool false,.bool false,.bool false,.bool false,.bool false,.bool false,.bool false,.bool false,.bool true,.bool false,.bool false,.bool false,.bool false,.bool false,.bool false,.bool true,.bool false,.bool false,.bool true,.bool false,.bool true]) (.int .i64 1)).run Tryz.prog w=.ok (.agg #[.bool (hasDst 1),.bool (hasPlace 1),.bool (hasE 1),.bool (hasF 1),.bool (hasTo 1)]) w:=by kernel_rfl
 have t2:(Instr.index 247 (.agg #[.bool false,.bool false,.bool false,.bool false,.bool false,.bool true,.bool false,.bool true,.bool false,.bool false,.bool true,.bool true,.bool false,.bool false,.bool false,.bool false,.bool true,.bool true,.bool false,.bool false,.bool true,.bool true,.bool true,.bool false,.bool false,.bool true,.bool true,.bool true,.bool false,.bool false,.bool true,.bool true,.bool true,.bool true,.bool false,.bool false,.bool false,.bool false,.bool false,.bool false,.bool false,.bool false,.bool true,.bool false,.bool false,.bool false,.bool false,.bool false,.bool false,.bool true,.bool false,.bool false,.bool true,.bool false,.bool true]) (.int .i64 2)).run Tryz.prog w=.ok (.agg #[.bool (hasDst 2),.bool (hasPlace 2),.bool (hasE 2),.bool (hasF 2),.bool (hasTo 2)]) w:=by kernel_rfl
 have t3:(Instr.index 247 (.agg #[.bool false,.bool false,.bool false,.bool false,.bool false,.bool true,.bool false,.bool true,.bool false,.bool false,.bool true,.bool true,.bool false,.bool false,.bool false,.bool false,.bool true,.bool true,.bool false,.bool false,.bool true,.bool true,.bool true,.bool false,.bool false,.bool true,.bool true,.bool true,.bool false,.bool false,.bool true,.bool true,.bool true,.bool true,.bool false,.bool false,.bool false,.bool false,.bool false,.bool false,.bool false,.bool false,.bool true,.bool false,.bool false,.bool false,.bool false,.bool false,.bool false,.bool true,.bool false,.bool false,.bool true,.bool false,.bool true]) (.int .i64 3)).run Tryz.prog w=.ok (.agg #[.bool (hasDst 3),.bool (hasPlace 3),.bool (hasE 3),.bool (hasF 3),.bool (hasTo 3)]) w:=by kernel_rfl
 have t4:(Instr.index 247 (.agg #[.bool false,.bool false,.bool false,.bool false,.bool false,.bool true,.bool false,.bool true,.bool false,.bool false,.bool true,.bool true,.bool false,.bool false,.bool false,.bool false,.bool true,.bool true,.bool false,.bool false,.bool true,.bool true,.bool true,.bool false,.bool false,.bool true,.bool true,.bool true,.bool false,.bool false,.bool true,.bool true,.bool true,.bool true,.bool false,.bool false,.bool false,.bool false,.bool false,.bool false,.bool false,.bool false,.bool true,.bool false,.bool false,.bool false,.bool false,.bool false,.bool false,.bool true,.bool false,.bool false,.bool true,.bool false,.bool true]) (.int .i64 4)).run Tryz.prog w=.ok (.agg #[.bool (hasDst 4),.bool (hasPlace 4),.bool (hasE 4),.bool (hasF 4),.bool (hasTo 4)]) w:=by kernel_rfl
 have t5:(Instr.index 247 (.agg #[.bool false,.bool false,.bool false,.bool false,.bool false,.bool true,.bool false,.bool true,.bool false,.bool false,.bool true,.bool true,.bool false,.bool false,.bool false,.bool false,.bool true,.bool true,.bool false,.bool false,.bool true,.bool true,.bool true,.bool false,.bool false,.bool true,.bool true,.bool true,.bool false,.bool false,.bool true,.bool true,.bool true,.bool true,.bool false,.bool false,.bool false,.bool false,.bool false,.bool false,.bool false,.bool false,.bool true,.bool false,.bool false,.bool false,.bool false,.bool false,.bool false,.bool true,.bool false,.bool false,.bool true,.bool false,.bool true]) (.int .i64 5)).run Tryz.prog w=.ok (.agg #[.bool (hasDst 5),.bool (hasPlace 5),.bool (hasE 5),.bool (hasF 5),.bool (hasTo 5)]) w:=by kernel_rfl
 have t6:(Instr.index 247 (.agg #[.bool false,.bool false,.bool false,.bool false,.bool false,.bool true,.bool false,.bool true,.bool false,.bool false,.bool true,.bool true,.bool false,.bool false,.bool false,.bool false,.bool true,.bool true,.bool false,.bool false,.bool true,.bool true,.bool true,.bool false,.bool false,.bool true,.bool true,.bool true,.bool false,.bool false,.bool true,.bool true,.bool true,.bool true,.bool false,.bool false,.bool false,.bool false,.bool false,.bool false,.bool false,.bool false,.bool true,.bool false,.bool false,.bool false,.bool false,.bool false,.bool false,.bool true,.bool false,.bool false,.bool true,.bool false,.bool true]) (.int .i64 6)).run Tryz.prog w=.ok (.agg #[.bool (hasDst 6),.bool (hasPlace 6),.bool (hasE 6),.bool (hasF 6),.bool (hasTo 6)]) w:=by kernel_rfl
 have t7:(Instr.index 247 (.agg #[.bool false,.bool false,.bool false,.bool false,.bool false,.bool true,.bool false,.bool true,.bool false,.bool false,.bool true,.bool true,.bool false,.bool false,.bool false,.bool false,.bool true,.bool true,.bool false,.bool false,.bool true,.bool true,.bool true,.bool false,.bool false,.bool true,.bool true,.bool true,.bool false,.bool false,.bool true,.bool true,.bool true,.bool true,.bool false,.bool false,.bool false,.bool false,.bool false,.bool false,.bool false,.bool false,.bool true,.bool false,.bool false,.bool false,.bool false,.bool false,.bool false,.bool true,.bool false,.bool false,.bool true,.bool false,.bool true]) (.int .i64 7)).run Tryz.prog w=.ok (.agg #[.bool (hasDst 7),.bool (hasPlace 7),.bool (hasE 7),.bool (hasF 7),.bool (hasTo 7)]) w:=by kernel_rfl
 have t8:(Instr.index 247 (.agg #[.bool false,.bool false,.bool false,.bool false,.bool false,.bool true,.bool false,.bool true,.bool false,.bool false,.bool true,.bool true,.bool false,.bool false,.bool false,.bool false,.bool true,.bool true,.bool false,.bool false,.bool true,.bool true,.bool true,.bool false,.bool false,.bool true,.bool true,.bool true,.bool false,.bool false,.bool true,.bool true,.bool true,.bool true,.bool false,.bool false,.bool false,.bool false,.bool false,.bool false,.bool false,.bool false,.bool true,.bool false,.bool false,.bool false,.bool false,.bool false,.bool false,.bool true,.bool false,.bool false,.bool true,.bool false,.bool true]) (.int .i64 8)).run Tryz.prog w=.ok (.agg #[.bool (hasDst 8),.bool (hasPlace 8),.bool (hasE 8),.bool (hasF 8),.bool (hasTo 8)]) w:=by kernel_rfl
 have t9:(Instr.index 247 (.agg #[.bool false,.bool false,.bool false,.bool false,.bool false,.bool true,.bool false,.bool true,.bool false,.bool false,.bool true,.bool true,.bool false,.bool false,.bool false,.bool false,.bool true,.bool true,.bool false,.bool false,.bool true,.bool true,.bool true,.bool false,.bool false,.bool true,.bool true,.bool true,.bool false,.bool false,.bool true,.bool true,.bool true,.bool true,.bool false,.bool false,.bool false,.bool false,.bool false,.bool false,.bool false,.bool false,.bool true,.bool false,.bool false,.bool false,.bool false,.bool false,.bool false,.bool true,.bool false,.bool false,.bool true,.bool false,.bool true]) (.int .i64 9)).run Tryz.prog w=.ok (.agg #[.bool (hasDst 9),.bool (hasPlace 9),.bool (hasE 9),.bool (hasF 9),.bool (hasTo 9)]) w:=by kernel_rfl
 have t10:(Instr.index 247 (.agg #[.bool false,.bool false,.bool false,.bool false,.bool false,.bool true,.bool false,.bool true,.bool false,.bool false,.bool true,.bool true,.bool false,.bool false,.bool false,.bool false,.bool true,.bool true,.bool false,.bool false,.bool true,.bool true,.bool true,.bool false,.bool false,.bool true,.bool true,.bool true,.bool false,.bool false,.bool true,.bool true,.bool true,.bool true,.bool false,.bool false,.bool false,.bool false,.bool false,.bool false,.bool false,.bool false,.bool true,.bool false,.bool false,.bool false,.bool false,.bool false,.bool false,.bool true,.bool false,.bool false,.bool true,.bool false,.bool true]) (.int .i64 10)).run Tryz.prog w=.ok (.agg #[.bool (hasDst 10),.bool (hasPlace 10),.bool (hasE 10),.bool (hasF 10),.bool (hasTo 10)]) w:=by kernel_rfl
 have h:op=1∨op=2∨op=3∨op=4∨op=5∨op=6∨op=7∨op=8∨op=9∨op=10:=by omega
 rcases h with rfl | rfl | rfl | rfl | rfl | rfl | rfl | rfl | rfl | rfl
 ·exact t1
 ·exact t2
 ·exact t3
 ·exact t4
 ·exact t5
 ·exact t6
 ·exact t7
 ·exact t8
 ·exact t9
 ·exact t10
set_option maxRecDepth 100000 in
set_option maxHeartbeats 4000000 in
theorem parts_any (op:Int) (h1:1≤op) (h2:op≤10) (w:World):Calls Tryz.prog 96 #[.int .i64 op] w fun e w'=>e=.returned (.agg (hasV op))∧Below w.heap.size w w':=by
 have hix:=fun w=>tab_ix op h1 h2 w
 unfold hasV
 generalize hasDst op=b0 at *
 generalize hasPlace op=b1 at *
 generalize hasE op=b2 at *
 generalize hasF op=b3 at *
 generalize hasTo op=b4 at *
 go_enter Tryz.func96,Tryz.ntmps96
 go_wp2_with fail
 refine bodyPost_ret (v:=.agg #[.bool b0,.bool b1,.bool b2,.bool b3,.bool b4]) (by simp[results,Tryz.results96,go_sem]) rfl ⟨rfl,?_⟩
 exact(by repeat (first | exact Below.refl _ _ | refine Kit.Below.setN ?_ (Nat.le_refl _) _ | refine Kit.Below.al ?_ _))
end Go.Proofs.YtmjilfamjlnigaaGreat.SrcW
namespace Go.Proofs.YtmjilfamjlnigaaGreat.SrcP
theorem uses_snoc (l:List SrcP.Node) (n:SrcP.Node) (i:Nat):uses (l++[n]) i=uses l i+(if 3≤n.op∧n.a=(i:Int)then 1 else 0)+(if 6≤n.op∧n.b=(i:Int)then 1 else 0):=by
 unfold uses
 simp only[List.countP_append,List.countP_cons,List.countP_nil]
 by_cases h1:3≤n.op∧n.a=(i:Int) <;> by_cases h2:6≤n.op∧n.b=(i:Int) <;> simp[h1,h2] <;> omega
end Go.Proofs.YtmjilfamjlnigaaGreat.SrcP
namespace Go.Proofs.YtmjilfamjlnigaaGreat.SrcW
open Go Go.RowKit Kit SrcP
theorem info_int:(Tryz.prog.info? 3).map (fun i=>(i.zero,i.size,i.bytes))=some (some (.int .i64 0),1,8):=by kernel_rfl
theorem make_int (n:Nat) (hn:n≤1048576) (w:World):(Instr.makeSlice 25 (.int .i64 (n:Int)) (.int .i64 (n:Int))).run Tryz.prog w=.ok (.slice (some ⟨w.heap.size,0,none⟩) n n) (w.alloc (.cells (Array.replicate n (.int .i64 0)) 3)):=by
 obtain⟨i0,hi0,hz0,hz1,hz2⟩:=info_parts info_int
 have hr:=run_make (P:=Tryz.prog) w 25 3 i0 (.int .i64 0) Tryz.underlying25 hi0 hz0 .i64 .i64 n n (by omega) (Int.le_refl _) (by rw[hz2];omega) (by omega)
 rw[hr,hz1]
 have e:madeCells (Value.int .i64 0).cells ((n:Int).toNat*1)=Array.replicate n (.int .i64 0):=by
  apply Array.ext
  ·simp[madeCells]
  ·intro j h1 h2
   simp only[madeCells,Array.getElem_map,Array.getElem_range,Array.getElem_replicate]
   have:∀x:Nat,x % (Value.int .i64 0).cells.size=0:=fun x=>Nat.mod_one x
   rw[this]
   rfl
 rw[e]
 simp
def cellsF (f:Nat→Nat) (n:Nat):Array Value:=((List.range n).map fun i=>Value.int .i64 (f i:Nat)).toArray
theorem cellsF_get (f:Nat→Nat) (n j:Nat) (h:j<n):(cellsF f n)[j]?=some (.int .i64 (f j:Nat)):=by simp[cellsF,h]
theorem cellsF_set (f g:Nat→Nat) (n j:Nat) (v:Int) (hv:v=(g j:Nat)) (hg:∀i,i≠j→g i=f i):(cellsF f n).setIfInBounds j (.int .i64 v)=cellsF g n:=by
 apply Array.ext_getElem?
 intro i
 subst hv
 rw[Array.getElem?_setIfInBounds]
 by_cases hi:i<n
 ·rw[cellsF_get f n i hi,cellsF_get g n i hi]
  by_cases hj:j=i
  ·subst hj;simp[cellsF,hi]
  ·rw[if_neg hj,hg i (fun e=>hj e.symm)]
 ·have h1:(cellsF f n)[i]?=none:=by simp[cellsF];omega
  have h2:(cellsF g n)[i]?=none:=by simp[cellsF];omega
  rw[h1,h2]
  split
  ·rename_i h
   subst h
   have:¬j<(cellsF f n).size:=by simp[cellsF];omega
   rw[if_neg this]
  ·rfl
def OnRel (l:List SrcP.Node) (w:World) (m:Nat) (s13:Value) (wr:World):Prop :=
 ∃k:Nat,s13=.int .i64 k∧k≤l.length∧m=l.length-k∧Below w.heap.size w wr∧Blk wr w.heap.size 3 (cellsF (uses (l.take k)) l.length)
def On2Rel (l:List SrcP.Node) (_w w1:World) (m:Nat) (s40:Value) (wr:World):Prop :=
 ∃k:Nat,s40=.int .i64 k∧k≤l.length∧m=l.length-k∧wr=w1∧((List.range l.length).drop k).all (fun i=>uses l i == if i+1<l.length then 1 else 0)=onceB l
set_option maxRecDepth 100000 in
set_option maxHeartbeats 4000000 in
theorem once_any (A:Option Addr) (c:Nat) (l:List SrcP.Node) (w:World) (hl:NodesAt w (.slice A l.length c) l) (h6:0<l.length∧l.length≤65536)
  (hok:∀(i:Nat) (n:SrcP.Node),l[i]?=some n→(3≤n.op→0≤n.a∧n.a<l.length)∧(6≤n.op→0≤n.b∧n.b<l.length)) :
  Calls Tryz.prog 138 #[.slice A l.length c] w fun r w'=>r=.returned (.bool (onceB l))∧Below w.heap.size w w':=by
 obtain⟨h0,h6⟩:=h6
 have hmk:=make_int l.length (by omega) w
 obtain⟨A',c',hv,hE⟩:=hl
 obtain⟨rfl,rfl⟩:A=A'∧c=c':=by simpa using hv
 obtain⟨_,ad,rfl,_⟩:=hE 0 l[0] (by simp)
 have HE:=Lib.hid hE
 have HV:=Lib.hid hok
 clear hE hok hv
 go_enter Tryz.func138,Tryz.ntmps138
 go_wp2_with fail
 go_loopg [13] l.length (fun m s13 wr=>OnRel l w m s13 wr)
 case atStart =>
  refine⟨0,rfl,Nat.zero_le _,rfl,Kit.bl1,?_⟩
  have:=Blk.new w 3 (Array.replicate l.length (.int .i64 0))
  have e:cellsF (uses (l.take 0)) l.length=Array.replicate l.length (.int .i64 0):=by
   apply Array.ext
   ·simp[cellsF]
   ·intro j h1 h2
    simp[cellsF,uses]
  rwa [e]
 case round =>
  obtain⟨k,rfl,hk,hm,hb,hB⟩:=hrel
  have HM:=Lib.hid hm
  have HB:=Lib.hid hB
  clear hm hB
  by_cases hke:k<l.length
  ·obtain⟨_,ad',hh,hC⟩:=HE.out k l[k] (by simp[hke])
   obtain rfl:ad=ad':=by simpa using hh
   have hE:=HV.out k l[k] (by simp[hke])
   have hsn:∀i:Nat,uses (l.take (k+1)) i=uses (l.take k) i+(if 3≤l[k].op∧l[k].a=(i:Int)then 1 else 0)+(if 6≤l[k].op∧l[k].b=(i:Int)then 1 else 0):=fun i=>by
    rw[List.take_add_one,Kit.eG hke]
    exact uses_snoc (l.take k) l[k] i
   generalize hn:l[k]=n at *
   obtain⟨op,val,na,nb⟩:=n
   replace hC:=hC.below hb
   have n0:wr.cell? (ad.add (k*4))=some (.int .i64 op):=hC 0 _ rfl
   have n1:wr.cell? ⟨(ad.add (k*4)).block,(ad.add (k*4)).off+1,none⟩=some (.int .u64 val):=hC 1 _ rfl
   have n2:wr.cell? ⟨(ad.add (k*4)).block,(ad.add (k*4)).off+2,none⟩=some (.int .i64 na):=hC 2 _ rfl
   have n3:wr.cell? ⟨(ad.add (k*4)).block,(ad.add (k*4)).off+3,none⟩=some (.int .i64 nb):=hC 3 _ rfl
   have a1:(k:Int)<(l.length:Int):=by omega
   have a2:(0:Int)≤(k:Int):=by omega
   have hgs:=HB.out.lt
   go_upto_region 5 with fail
   obtain⟨wx,hwx⟩:∃x,x=wr.alloc (.cells #[.int .i64 op,.int .u64 val,.int .i64 na,.int .i64 nb] 112):=⟨_,rfl⟩
   have hbx:Below w.heap.size w wx:=by rw[hwx];exact Kit.Below.al hb _
   have hBx:Blk wx w.heap.size 3 (cellsF (uses (l.take k)) l.length):=by rw[hwx];exact HB.out.alloc _
   have hBL:Blk wx wr.heap.size 112 #[.int .i64 op,.int .u64 val,.int .i64 na,.int .i64 nb]:=by rw[hwx];exact Blk.new _ _ _
   have hgne:wr.heap.size≠w.heap.size:=by omega
   generalize wr.heap.size=gl at *
   rw[←hwx]
   clear hwx n0 n1 n2 n3 hC hb
   have n0:wx.cell? ⟨gl,0,none⟩=some (.int .i64 op):=hBL.cell 0
   have n2:wx.cell? ⟨gl,2,none⟩=some (.int .i64 na):=hBL.cell 2
   simp only at hE hsn
   have HS:=Lib.hid hsn
   clear hsn
   by_cases h3:3≤op
   ·obtain⟨e1,e2⟩:=hE.1 h3
    obtain⟨x,rfl⟩:=Int.eq_ofNat_of_zero_le e1
    have hx:x<l.length:=by omega
    have c1:wx.cell? ⟨w.heap.size,x,none⟩=some (.int .i64 (uses (l.take k) x:Nat)):=(hBx.cell x).trans (cellsF_get _ _ _ hx)
    have c2:wx.frozen? ⟨w.heap.size,x,none⟩=false:=hBx.frozen x
    have hB1:=hBx.set x (.int .i64 ((uses (l.take k) x:Nat)+1))
    rw[cellsF_set (uses (l.take k)) (fun i=>uses (l.take k) i+if i=x then 1 else 0) l.length x _ (by simp) (fun i hi=>by simp[hi])]at hB1
    have hbu:(uses (l.take k) x:Nat)≤131072:=by
     have h1:=List.countP_le_length (p:=fun n:SrcP.Node=>decide (3≤n.op)&&decide (n.a=(x:Int))) (l:=l.take k)
     have h2:=List.countP_le_length (p:=fun n:SrcP.Node=>decide (6≤n.op)&&decide (n.b=(x:Int))) (l:=l.take k)
     have h3:(l.take k).length≤65536:=by simp;omega
     unfold uses
     omega
    have b1:(0:Int)≤(x:Int):=by omega
    have b2:(x:Int)<(l.length:Int):=by omega
    have HB1:=Lib.hid hB1
    clear hB1
    go_upto_region 7 with fail
    obtain⟨wy,hwy⟩:∃y,y=wx.setCell ⟨w.heap.size,x,none⟩ (.int .i64 ((uses (l.take k) x:Nat)+1)):=⟨_,rfl⟩
    have hB2:=HB1.out
    have hby:Below w.heap.size w wy:=by rw[hwy];exact Kit.Below.setN hbx (Nat.le_refl _) _
    have hBM:Blk wy gl 112 #[.int .i64 op,.int .u64 val,.int .i64 x,.int .i64 nb]:=by rw[hwy];exact hBL.farN hgne _
    rw[←hwy]at hB2 ⊢
    clear HB1 hwy c1 c2 n0 n2
    have n0:wy.cell? ⟨gl,0,none⟩=some (.int .i64 op):=hBM.cell 0
    have n3:wy.cell? ⟨gl,3,none⟩=some (.int .i64 nb):=hBM.cell 3
    by_cases h6:6≤op
    ·obtain⟨e3,e4⟩:=hE.2 h6
     obtain⟨y,rfl⟩:=Int.eq_ofNat_of_zero_le e3
     have hy:y<l.length:=by omega
     have c1:wy.cell? ⟨w.heap.size,y,none⟩=some (.int .i64 ((uses (l.take k) y+if y=x then 1 else 0:Nat))):=(hB2.cell y).trans (cellsF_get _ _ _ hy)
     have c2:wy.frozen? ⟨w.heap.size,y,none⟩=false:=hB2.frozen y
     have hB3:=hB2.set y (.int .i64 ((uses (l.take k) y+if y=x then 1 else 0:Nat)+1))
     have hg1:∀i:Nat,uses (l.take (k+1)) i=(uses (l.take k) i+if i=x then 1 else 0)+if i=y then 1 else 0:=fun i=>by
      rw[HS.out]
      by_cases e1:i=x
      ·subst e1
       by_cases e2:i=y
       ·subst e2;simp[h3,h6]
       ·have e2':¬((y:Int)=(i:Int)):=by omega
        simp[h3,e2,e2']
      ·have e1':¬((x:Int)=(i:Int)):=by omega
       by_cases e2:i=y
       ·subst e2;simp[h6,e1,e1']
       ·have e2':¬((y:Int)=(i:Int)):=by omega
        simp[e1,e1',e2,e2']
     rw[cellsF_set _ (uses (l.take (k+1))) l.length y _ (by rw[hg1];simp) (fun i hi=>by rw[hg1];simp[hi])]at hB3
     clear hg1
     have hbv:((uses (l.take k) y+if y=x then 1 else 0:Nat))≤131073:=by
      have h1:=List.countP_le_length (p:=fun n:SrcP.Node=>decide (3≤n.op)&&decide (n.a=(y:Int))) (l:=l.take k)
      have h2:=List.countP_le_length (p:=fun n:SrcP.Node=>decide (6≤n.op)&&decide (n.b=(y:Int))) (l:=l.take k)
      have h3:(l.take k).length≤65536:=by simp;omega
      unfold uses
      split <;> omega
     generalize (uses (l.take k) y+if y=x then 1 else 0:Nat)=u at *
     have b3:(0:Int)≤(y:Int):=by omega
     have b4:(y:Int)<(l.length:Int):=by omega
     have HB3:=Lib.hid hB3
     clear hB3
     go_wp2_with fail
     go_roundg (l.length-(k+1))
     case measure=>have:=HM.out;omega
     case rel=>exact⟨k+1,by push_cast;rfl,hke,rfl,Kit.Below.setN hby (Nat.le_refl _) _,HB3.out⟩
    ·have hB3:Blk wy w.heap.size 3 (cellsF (uses (l.take (k+1))) l.length):=by
      have:uses (l.take (k+1))=fun i=>uses (l.take k) i+if i=x then 1 else 0:=by
       funext i
       rw[HS.out]
       by_cases hxy:i=x <;> simp[h3,h6,hxy]
       omega
      rw[this];exact hB2
     have HB3:=Lib.hid hB3
     clear hB3
     go_wp2_with fail
     go_roundg (l.length-(k+1))
     case measure=>have:=HM.out;omega
     case rel=>exact⟨k+1,by push_cast;rfl,hke,rfl,hby,HB3.out⟩
   ·have h6:¬6≤op:=by omega
    have hB3:Blk wx w.heap.size 3 (cellsF (uses (l.take (k+1))) l.length):=by
     have:uses (l.take (k+1))=uses (l.take k):=by
      funext i
      rw[HS.out]
      simp[h3,h6]
     rw[this];exact hBx
    have HB3:=Lib.hid hB3
    clear hB3
    go_wp2_with fail
    go_roundg (l.length-(k+1))
    case measure=>have:=HM.out;omega
    case rel=>exact⟨k+1,by push_cast;rfl,hke,rfl,hbx,HB3.out⟩
  ·obtain rfl:k=l.length:=by omega
   have hB2:=HB.out
   rw[List.take_length]at hB2
   have HB2:=Lib.hid hB2
   obtain⟨w1,rfl⟩:∃x,x=wr:=⟨_,rfl⟩
   clear hB2
   go_wp2_with fail
   go_loopg [40] l.length (fun m s40 wr=>On2Rel l w w1 m s40 wr)
   case atStart=>exact⟨0,rfl,Nat.zero_le _,rfl,rfl,rfl⟩
   case round =>
    obtain⟨k,rfl,hk,hm2,rfl,hall⟩:=hrel
    have HM2:=Lib.hid hm2
    clear hm2
    by_cases hke:k<l.length
    ·have c1:wr.cell? ⟨w.heap.size,k,none⟩=some (.int .i64 (uses l k:Nat)):=(HB2.out.cell k).trans (cellsF_get _ _ _ hke)
     have a1:(k:Int)<(l.length:Int):=by omega
     have a2:(0:Int)≤(k:Int):=by omega
     rw[List.drop_eq_getElem_cons (by simpa using hke),List.all_cons,List.getElem_range]at hall
     generalize uses l k=u at *
     have HA:=Lib.hid hall
     clear hall
     by_cases hk1:k+1<l.length
     ·have b1:(k:Int)<(l.length:Int)-1:=by omega
      by_cases hu:u=1
      ·subst hu
       go_wp2_with fail
       go_roundg (l.length-(k+1))
       case measure=>have:=HM2.out;omega
       case rel =>
        refine⟨k+1,by push_cast;rfl,hke,rfl,rfl,?_⟩
        rw[←HA.out]
        simp[hk1]
      ·have b2:((u:Int) == 1)=false:=by simp;omega
       go_wp2_with fail
       go_ret
       refine⟨Kit.cB (?_:false=onceB l),hb⟩
       rw[←HA.out]
       simp[hk1,hu]
     ·have b1:¬((k:Int)<(l.length:Int)-1):=by omega
      by_cases hu:u=1
      ·subst hu
       go_wp2_with fail
       go_ret
       refine⟨Kit.cB (?_:false=onceB l),hb⟩
       rw[←HA.out]
       simp[hk1]
      ·have b2:((u:Int) == 1)=false:=by simp;omega
       by_cases hu2:1<u
       ·have b3:(1:Int)<(u:Int):=by omega
        have hu0:¬u=0:=by omega
        go_wp2_with fail
        go_ret
        refine⟨Kit.cB (?_:false=onceB l),hb⟩
        rw[←HA.out]
        simp[hk1,hu0]
       ·obtain rfl:u=0:=by omega
        go_wp2_with fail
        go_roundg (l.length-(k+1))
        case measure=>have:=HM2.out;omega
        case rel =>
         refine⟨k+1,by push_cast;rfl,hke,rfl,rfl,?_⟩
         rw[←HA.out]
         simp[hk1]
    ·obtain rfl:k=l.length:=by omega
     rw[List.drop_eq_nil_of_le (by simp)]at hall
     have HA:=Lib.hid hall
     clear hall
     go_wp2_with fail
     go_ret
     exact⟨Kit.cB (HA.out:true=onceB l),hb⟩
end Go.Proofs.YtmjilfamjlnigaaGreat.SrcW
