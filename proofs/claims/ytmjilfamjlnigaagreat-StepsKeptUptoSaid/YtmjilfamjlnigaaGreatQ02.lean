/- MEMORY: a program of the source, as it lies. -/
import Derived.Test.YtmjilfamjlnigaaGreatQ01
import Derived.Test.YtmjilfamjlnigaaGreatProg
import Derived.WalkKit
import Derived.Deep.LoopGhost
import Derived.Deep.DeepCutAuto
import Derived.Deep.CutBlock
import Derived.Outline
import Derived.BigQuiet
import Derived.Deep.QuietTactic
import Derived.OwnWalk
import Derived.Laws.MakeOwn
import Derived.Lib.Hide
import Derived.Laws.BitsAllLaws
import Derived.StillTail
import Derived.StillTailTactics
namespace Go.Proofs.YtmjilfamjlnigaaGreat.SrcW
open Go Go.RowKit Kit SrcP
def CellsAt (w:World) (a:Addr) (cs:List Value):Prop:=∀j u,cs[j]?=some u→w.cell? (a.add j)=some u
theorem CellsAt.below {w w':World} {a:Addr} {cs:List Value} (h:CellsAt w a cs) (hb:Below w.heap.size w w'):CellsAt w' a cs:=fun j u hj =>
 (hb.cell (World.block_lt_of_cell? w _ (h j u hj))).trans (h j u hj)
def nodeC (n:SrcP.Node):List Value:=[.int .i64 n.op,.int .u64 n.val,.int .i64 n.a,.int .i64 n.b]
def NodesAt (w:World) (v:Value) (l:List SrcP.Node):Prop :=
 ∃A c,v=.slice A l.length c∧∀i n,l[i]?=some n→n.val<M64∧∃ad,A=some ad∧CellsAt w (ad.add (i*4)) (nodeC n)
theorem NodesAt.below {w w':World} {v:Value} {l:List SrcP.Node} (h:NodesAt w v l) (hb:Below w.heap.size w w'):NodesAt w' v l:=by
 obtain⟨A,c,rfl,h⟩:=h
 refine⟨A,c,rfl,fun i n hi=>?_⟩
 obtain⟨h1,ad,h2,h3⟩:=h i n hi
 exact⟨h1,ad,h2,h3.below hb⟩
theorem info_u64:(Tryz.prog.info? 40).map (fun i=>(i.zero,i.size,i.bytes))=some (some (.int .u64 0),1,8):=by kernel_rfl
theorem make_u64 (n:Nat) (hn:n≤1048576) (w:World):(Instr.makeSlice 32 (.int .i64 (n:Int)) (.int .i64 (n:Int))).run Tryz.prog w=.ok (.slice (some ⟨w.heap.size,0,none⟩) n n) (w.alloc (.cells (Array.replicate n (.int .u64 0)) 40)):=by
 obtain⟨i0,hi0,hz0,hz1,hz2⟩:=info_parts info_u64
 have hr:=run_make (P:=Tryz.prog) w 32 40 i0 (.int .u64 0) Tryz.underlying32 hi0 hz0 .i64 .i64 n n (by omega) (Int.le_refl _) (by rw[hz2];omega) (by omega)
 rw[hr,hz1]
 have e:madeCells (Value.int .u64 0).cells ((n:Int).toNat*1)=Array.replicate n (.int .u64 0):=by
  apply Array.ext
  ·simp[madeCells]
  ·intro j h1 h2
   simp only[madeCells,Array.getElem_map,Array.getElem_range,Array.getElem_replicate]
   have:∀x:Nat,x % (Value.int .u64 0).cells.size=0:=fun x=>Nat.mod_one x
   rw[this]
   rfl
 rw[e]
 simp
end Go.Proofs.YtmjilfamjlnigaaGreat.SrcW
namespace Go.Proofs.YtmjilfamjlnigaaGreat.SrcP
theorem evalL_append (locals:List Nat) (a b:List SrcP.Node) (v:List Nat):evalL locals (a++b) v=evalL locals b (evalL locals a v):=by
 induction a generalizing v with
 | nil=>rfl
 | cons n a ih=>exact ih _
theorem evalL_len (locals:List Nat) (a:List SrcP.Node) (v:List Nat):(evalL locals a v).length=v.length+a.length:=by
 induction a generalizing v with
 | nil=>rfl
 | cons n a ih=>rw[evalL,ih];simp;omega
theorem evalL_take (locals:List Nat) (a:List SrcP.Node) (k:Nat) (h:k<a.length):evalL locals (a.take (k+1)) []=evalL locals (a.take k) []++[nodeV locals (evalL locals (a.take k) []) a[k]]:=by
 rw[List.take_add_one,Kit.eG h,evalL_append]
 rfl
end Go.Proofs.YtmjilfamjlnigaaGreat.SrcP
namespace Go.Proofs.YtmjilfamjlnigaaGreat.SrcW
open Go Go.RowKit Kit SrcP
theorem truth_any (b:Bool) (w:World):Calls Tryz.prog 230 #[.bool b] w fun e w'=>e=.returned (.int .u64 (truth b:Nat))∧w'=w:=by
 cases b
 all_goals
  go_enter Tryz.func230,Tryz.ntmps230
  go_wp2_with fail
  go_ret
  exact⟨rfl,rfl⟩
theorem and63 (b:Nat) (hb:b<M64):bits .and .u64 (b:Int) 63=((b % 64:Nat):Int):=by
 have h:=u64_and_nat b 63 hb (by decide)
 rw[show(63:Int)=((63:Nat):Int)from rfl,h]
 congr 1
 exact Nat.and_two_pow_sub_one_eq_mod b 6
theorem wrap_sub (a b:Nat) (_ha:a<M64) (hb:b<M64):IntKind.u64.wrap ((a:Int)-b)=((a+(M64-b)) % M64:Nat):=by
 rw[IntKind.wrap_u64]
 unfold M64 at *
 omega
theorem beq_cast (a b:Nat):((a:Int) == (b:Int))=(a == b):=by
 by_cases h:a=b
 ·simp[h]
 ·have:¬((a:Int)=b):=by omega
  rw[beq_eq_false_iff_ne.2 this,beq_eq_false_iff_ne.2 h]
theorem two_lt (op:Int) (a b:Nat) (ha:a<M64) (hb:b<M64):two op a b<M64:=by
 have ht:∀b,truth b<M64:=fun b=>by cases b <;> decide
 unfold two
 by_cases h6:op=6
 ·rw[if_pos h6];exact Nat.mod_lt _ (by decide)
 rw[if_neg h6]
 by_cases h7:op=7
 ·rw[if_pos h7];exact Nat.mod_lt _ (by decide)
 rw[if_neg h7]
 by_cases h8:op=8
 ·rw[if_pos h8];exact Nat.mod_lt _ (by decide)
 rw[if_neg h8]
 by_cases h9:op=9
 ·rw[if_pos h9];exact Nat.mod_lt _ (by decide)
 rw[if_neg h9]
 by_cases h10:op=10
 ·rw[if_pos h10];exact Nat.lt_of_le_of_lt (Nat.div_le_self _ _) ha
 rw[if_neg h10]
 by_cases h11:op=11
 ·rw[if_pos h11];exact Nat.lt_of_le_of_lt Nat.and_le_left ha
 rw[if_neg h11]
 by_cases h12:op=12
 ·rw[if_pos h12];exact Nat.xor_lt_two_pow (n:=64) ha hb
 rw[if_neg h12]
 by_cases h13:op=13
 ·rw[if_pos h13];exact Nat.or_lt_two_pow (n:=64) ha hb
 rw[if_neg h13]
 by_cases h14:op=14
 ·rw[if_pos h14];exact ht _
 rw[if_neg h14]
 by_cases h15:op=15
 ·rw[if_pos h15];exact ht _
 rw[if_neg h15]
 by_cases h16:op=16
 ·rw[if_pos h16];exact ht _
 rw[if_neg h16]
 by_cases h17:op=17
 ·rw[if_pos h17];exact ht _
 rw[if_neg h17]
 by_cases h18:op=18
 ·rw[if_pos h18];exact ht _
 rw[if_neg h18]
 exact ht _
theorem one_lt (op:Int) (a:Nat) (ha:a<M64):one op a<M64:=by
 have ht:∀b,truth b<M64:=fun b=>by cases b <;> decide
 unfold one
 split;·exact Nat.mod_lt _ (by decide)
 split;·unfold M64 at *;omega
 exact ht _
set_option maxRecDepth 100000 in
set_option maxHeartbeats 1000000 in
theorem one_any (op:Int) (a:Nat) (ha:a<M64) (w:World):Calls Tryz.prog 220 #[.int .i64 op,.int .u64 a] w fun e w'=>e=.returned (.int .u64 (one op a:Nat))∧w'=w:=by
 have ht:=fun b=>truth_any b w
 by_cases h3:op=3
 ·subst h3
  go_enter Tryz.func220,Tryz.ntmps220
  go_wp2_with fail
  go_ret
  refine⟨congrArg (fun x:Int=>Ending.returned (.int .u64 x)) ?_,rfl⟩
  show IntKind.u64.wrap (-(a:Int))=(((M64-a) % M64:Nat):Int)
  rw[IntKind.wrap_u64]
  unfold M64 at *
  omega
 ·by_cases h4:op=4
  ·subst h4
   go_enter Tryz.func220,Tryz.ntmps220
   go_wp2_with fail
   go_ret
   refine⟨congrArg (fun x:Int=>Ending.returned (.int .u64 x)) ?_,rfl⟩
   show bits .xor .u64 ((18446744073709551615:Nat):Int) (a:Int)=((M64-1-a:Nat):Int)
   rw[u64_xor_nat _ _ (by decide) ha]
   congr 1
   exact Nat.eq_of_testBit_eq fun i=>by
    rw[Nat.testBit_xor,show M64-1-a=2 ^ 64-(a+1) by unfold M64;omega,Nat.testBit_two_pow_sub_succ ha,show(18446744073709551615:Nat)=2 ^ 64-1 by rfl,Nat.testBit_two_pow_sub_one]
    by_cases hi:i<64
    ·simp[hi]
    ·have:a.testBit i=false:=Nat.testBit_lt_two_pow (Nat.lt_of_lt_of_le ha (show 2 ^ 64≤2 ^ i from Nat.pow_le_pow_right (by decide) (Nat.le_of_not_lt hi)))
     simp[hi,this]
  ·have q3:(op == 3)=false:=by simp[h3]
   have q4:(op == 4)=false:=by simp[h4]
   go_enter Tryz.func220,Tryz.ntmps220
   go_wp2_with (go_at_call 230;refine(ht _).mono ?_;rintro e w' ⟨rfl,rfl⟩)
   go_ret
   refine⟨congrArg (fun x:Int=>Ending.returned (.int .u64 x)) ?_,rfl⟩
   show((truth ((a:Int) == ((0:Nat):Int)):Nat):Int)=_
   rw[beq_cast]
   simp[one,h3,h4]
set_option maxRecDepth 100000 in
set_option maxHeartbeats 4000000 in
theorem two_any (op:Int) (a b:Nat) (ha:a<M64) (hb:b<M64) (w:World):Calls Tryz.prog 221 #[.int .i64 op,.int .u64 a,.int .u64 b] w fun e w'=>e=.returned (.int .u64 (two op a b:Nat))∧w'=w:=by
 have ht:=fun b=>truth_any b w
 have k63:=and63 b hb
 have k1:0≤bits .and .u64 (b:Int) 63:=by omega
 have k2:bits .and .u64 (b:Int) 63≤64:=by omega
 by_cases h6:op=6
 ·subst h6
  go_enter Tryz.func221,Tryz.ntmps221
  go_wp2_with (go_at_call 230;refine(ht _).mono ?_;rintro e w' ⟨rfl,rfl⟩)
  go_ret
  refine⟨congrArg (fun x:Int=>Ending.returned (.int .u64 x)) ?_,rfl⟩
  exact(show _=((a*b % M64:Nat):Int) by rw[IntKind.wrap_u64,Int.natCast_emod,Int.natCast_mul];rfl)
 have q6:(op == 6)=false:=by simp[h6]
 by_cases h7:op=7
 ·subst h7
  go_enter Tryz.func221,Tryz.ntmps221
  go_wp2_with (go_at_call 230;refine(ht _).mono ?_;rintro e w' ⟨rfl,rfl⟩)
  go_ret
  refine⟨congrArg (fun x:Int=>Ending.returned (.int .u64 x)) ?_,rfl⟩
  exact(show _=(((a+b) % M64:Nat):Int) by rw[IntKind.wrap_u64,Int.natCast_emod,Int.natCast_add];rfl)
 have q7:(op == 7)=false:=by simp[h7]
 by_cases h8:op=8
 ·subst h8
  go_enter Tryz.func221,Tryz.ntmps221
  go_wp2_with (go_at_call 230;refine(ht _).mono ?_;rintro e w' ⟨rfl,rfl⟩)
  go_ret
  refine⟨congrArg (fun x:Int=>Ending.returned (.int .u64 x)) ?_,rfl⟩
  exact wrap_sub a b ha hb
 have q8:(op == 8)=false:=by simp[h8]
 by_cases h9:op=9
 ·subst h9
  go_enter Tryz.func221,Tryz.ntmps221
  go_wp2_with (go_at_call 230;refine(ht _).mono ?_;rintro e w' ⟨rfl,rfl⟩)
  go_ret
  refine⟨congrArg (fun x:Int=>Ending.returned (.int .u64 x)) ?_,rfl⟩
  exact(show _=((a*2 ^ (b % 64) % M64:Nat):Int) by rw[IntKind.wrap_u64];unfold M64;simp)
 have q9:(op == 9)=false:=by simp[h9]
 by_cases h10:op=10
 ·subst h10
  go_enter Tryz.func221,Tryz.ntmps221
  go_wp2_with (go_at_call 230;refine(ht _).mono ?_;rintro e w' ⟨rfl,rfl⟩)
  go_ret
  refine⟨congrArg (fun x:Int=>Ending.returned (.int .u64 x)) ?_,rfl⟩
  exact(show _=((a / 2 ^ (b % 64):Nat):Int) by simp)
 have q10:(op == 10)=false:=by simp[h10]
 by_cases h11:op=11
 ·subst h11
  go_enter Tryz.func221,Tryz.ntmps221
  go_wp2_with (go_at_call 230;refine(ht _).mono ?_;rintro e w' ⟨rfl,rfl⟩)
  go_ret
  refine⟨congrArg (fun x:Int=>Ending.returned (.int .u64 x)) ?_,rfl⟩
  exact u64_and_nat a b ha hb
 have q11:(op == 11)=false:=by simp[h11]
 by_cases h12:op=12
 ·subst h12
  go_enter Tryz.func221,Tryz.ntmps221
  go_wp2_with (go_at_call 230;refine(ht _).mono ?_;rintro e w' ⟨rfl,rfl⟩)
  go_ret
  refine⟨congrArg (fun x:Int=>Ending.returned (.int .u64 x)) ?_,rfl⟩
  exact u64_xor_nat a b ha hb
 have q12:(op == 12)=false:=by simp[h12]
 by_cases h13:op=13
 ·subst h13
  go_enter Tryz.func221,Tryz.ntmps221
  go_wp2_with (go_at_call 230;refine(ht _).mono ?_;rintro e w' ⟨rfl,rfl⟩)
  go_ret
  refine⟨congrArg (fun x:Int=>Ending.returned (.int .u64 x)) ?_,rfl⟩
  exact u64_or_nat a b ha hb
 have q13:(op == 13)=false:=by simp[h13]
 by_cases h14:op=14
 ·subst h14
  go_enter Tryz.func221,Tryz.ntmps221
  go_wp2_with (go_at_call 230;refine(ht _).mono ?_;rintro e w' ⟨rfl,rfl⟩)
  go_ret
  refine⟨congrArg (fun x:Int=>Ending.returned (.int .u64 x)) ?_,rfl⟩
  exact(show((truth ((a:Int) == (b:Int)):Nat):Int)=((truth (a == b):Nat):Int) by rw[beq_cast])
 have q14:(op == 14)=false:=by simp[h14]
 by_cases h15:op=15
 ·subst h15
  go_enter Tryz.func221,Tryz.ntmps221
  go_wp2_with (go_at_call 230;refine(ht _).mono ?_;rintro e w' ⟨rfl,rfl⟩)
  go_ret
  refine⟨congrArg (fun x:Int=>Ending.returned (.int .u64 x)) ?_,rfl⟩
  exact(show((truth ((a:Int) != (b:Int)):Nat):Int)=((truth (a != b):Nat):Int) by rw[bne,bne,beq_cast])
 have q15:(op == 15)=false:=by simp[h15]
 by_cases h16:op=16
 ·subst h16
  go_enter Tryz.func221,Tryz.ntmps221
  go_wp2_with (go_at_call 230;refine(ht _).mono ?_;rintro e w' ⟨rfl,rfl⟩)
  go_ret
  refine⟨congrArg (fun x:Int=>Ending.returned (.int .u64 x)) ?_,rfl⟩
  rfl
 have q16:(op == 16)=false:=by simp[h16]
 by_cases h17:op=17
 ·subst h17
  go_enter Tryz.func221,Tryz.ntmps221
  go_wp2_with (go_at_call 230;refine(ht _).mono ?_;rintro e w' ⟨rfl,rfl⟩)
  go_ret
  refine⟨congrArg (fun x:Int=>Ending.returned (.int .u64 x)) ?_,rfl⟩
  rfl
 have q17:(op == 17)=false:=by simp[h17]
 by_cases h18:op=18
 ·subst h18
  go_enter Tryz.func221,Tryz.ntmps221
  go_wp2_with (go_at_call 230;refine(ht _).mono ?_;rintro e w' ⟨rfl,rfl⟩)
  go_ret
  refine⟨congrArg (fun x:Int=>Ending.returned (.int .u64 x)) ?_,rfl⟩
  rfl
 have q18:(op == 18)=false:=by simp[h18]
 go_enter Tryz.func221,Tryz.ntmps221
 go_wp2_with (go_at_call 230;refine(ht _).mono ?_;rintro e w' ⟨rfl,rfl⟩)
 go_ret
 refine⟨congrArg (fun x:Int=>Ending.returned (.int .u64 x)) ?_,rfl⟩
 show((truth (decide (b≤a)):Nat):Int)=_
 simp[two, *]
end Go.Proofs.YtmjilfamjlnigaaGreat.SrcW
namespace Go.Proofs.YtmjilfamjlnigaaGreat.Kit
open Go Go.RowKit
section
variable {P:Program} {ops:Array Oper} {md:Region.Mode} {C:World→Prop}
def headQ (P:Program) (md:Region.Mode) (ops:Array Oper) (C:World→Prop) (n:Nat) (T:Array Bool→Act→Prop):Nat→Array Bool→Act→Prop
 | 0,listed,a=>T listed a
 | f+1,listed,a=>Region.ready md ops listed≠[]∧∀i,i∈Region.ready md ops listed→i<n∧qOp P ops C i (headQ P md ops C n T f (listed.setIfInBounds i true)) a
theorem headQ_run {n g:Nat} {T:Array Bool→Act→Prop} {Q:Exit→Act→World→Prop} (hT:∀listed a w,C w→T listed a→wpAny P md ops Q g listed a w) (f:Nat) :
  ∀(listed:Array Bool) (a:Act) (w:World),C w→headQ P md ops C n T f listed a→wpAny P md ops Q (f+g) listed a w:=by
 induction f with
 | zero=>intro listed a w hC h;rw[Nat.zero_add];exact hT _ _ _ hC h
 | succ f ih =>
  intro listed a w hC h
  have e:f+1+g=(f+g)+1:=by omega
  rw[e]
  refine⟨fun h0=>absurd h0 h.1,fun i hi=>?_⟩
  exact wpOp_of_qOp hC (fun a' w' hC' h'=>ih _ a' w' hC' h') (h.2 i hi).2
theorem head_first {n i j:Nat} {listed:Array Bool} (hs:Region.sinkB md ops n=true) (hc:Region.chainB md ops n=true) (hn:n<ops.size) (inv:HeadInv md ops n listed) (hi:i<n)
  (hr:i∈Region.ready md ops listed) (hj:j∈Region.ready md ops listed):j<n:=by
 rcases Nat.lt_or_ge j n with h | h
 ·exact h
 ·exact absurd hj (tail_waits hs hc hn inv (n-i) i rfl hi (mem_ready.1 hr).1 j h)
theorem headQ_take {n i:Nat} {oi:Oper} {v:Value} {T:Array Bool→Act→Prop} (hi:ops[i]?=some oi) (hsel:∀(j:Nat) (o:Oper) cs b,ops[j]?=some o→o.op≠.select cs b)
  (hs:Region.sinkB md ops n=true) (hc:Region.chainB md ops n=true) (hn:n<ops.size) (hin:i<n) (hT:∀listed a,T listed a→∀j∈Region.ready md ops listed,n≤j) (f:Nat) :
  ∀(listed:Array Bool) (a:Act),HeadInv md ops n listed →
   (∀j oj,ops[j]?=some oj→j≠i→listed.getD j true=false→(∀e∈oj.after,Region.binds md e=true→e.on≠i)→oi.apart ops oj=true) →
   i∈Region.ready md ops listed→YieldsIn P ops C oi v a→headQ P md ops C n T f (listed.setIfInBounds i true) (a.put oi.dst v)→headQ P md ops C n T (f+1) listed a:=by
 induction f with
 | zero =>
  intro listed a inv _ hr hy H
  refine⟨List.ne_nil_of_mem hr,fun j hj=>?_⟩
  have hjn:=head_first hs hc hn inv hin hr hj
  by_cases hji:j=i
  ·subst hji;exact⟨hjn,hy.qOp hi H⟩
  ·have:=hT _ _ H j (ready_mono hj hji)
   omega
 | succ f ih =>
  intro listed a inv hap hr hy H
  refine⟨List.ne_nil_of_mem hr,fun j hj=>?_⟩
  have hjn:=head_first hs hc hn inv hin hr hj
  refine⟨hjn,?_⟩
  by_cases hji:j=i
  ·subst hji;exact hy.qOp hi H
  ·obtain⟨hun,oj,hoj,hall⟩:=mem_ready.1 hj
   have hwait:∀e∈oj.after,Region.binds md e=true→e.on≠i:=by
    intro e he hb heq
    have h1:=hall e he hb
    rw[heq,getD_both (mem_ready.1 hr).1]at h1
    cases h1
   have step:=qOp_put hoj (hap j oj hoj hji hun hwait) (fun cs b=>hsel i oi cs b hi) (fun cs b=>hsel j oj cs b hoj) hy ((H.2 j (ready_mono hj hji)).2)
   refine qOp_mono (fun a' h3=>?_) step
   refine ih (listed.setIfInBounds j true) a' (inv.set hj hjn) (fun k ok hk hki hkun hno=>?_) (ready_mono hr (Ne.symm hji)) h3.1 ?_
   ·refine hap k ok hk hki ?_ hno
    by_cases hjk:j=k
    ·subst hjk;exact hun
    ·rwa [getD_set_ne true hjk]at hkun
   ·rw[Array.setIfInBounds_comm _ _ hji]
    exact h3.2
theorem headQ_lex {n g:Nat} {R:Act→Prop} (hsel:Region.noSelect ops=true) (hs:Region.sinkB md ops n=true) (hc:Region.chainB md ops n=true) (hn:n<ops.size) (l:List Oper) :
  ∀(k:Nat) (listed:Array Bool) (a:Act),(∀j,j<l.length→l[j]?=ops[k+j]?)→k+l.length=n→HeadInv md ops n listed →
   Region.lexHead md ops g l.length k listed=true→wpQuiet P ops C R l a→headQ P md ops C n (fun listed' a'=>Region.seqB md ops g n listed'=true∧R a') l.length listed a:=by
 induction l with
 | nil =>
  intro k listed a _ hk _ hB h
  obtain rfl:k=n:=by simpa using hk
  exact⟨by simpa [Region.lexHead]using hB,h⟩
 | cons o l ih =>
  intro k listed a hl hk inv hB h
  have h0:ops[k]?=some o:=by
   have:=hl 0 (by simp)
   simpa using this.symm
  simp only[List.length_cons,Region.lexHead,Bool.and_eq_true]at hB
  obtain⟨⟨hr,hf⟩,hB'⟩:=hB
  simp only[List.length_cons]at hk
  have hr':k∈Region.ready md ops listed:=by simpa using hr
  have hq:qOp P ops C k (wpQuiet P ops C R l) a:=by
   unfold qOp
   simp only[h0]
   exact h
  obtain⟨v,hy,hK⟩:=yieldsIn_of_qOp h0 hq
  refine headQ_take h0 (Region.noSelect_spec hsel) hs hc hn (by omega) (fun _ _ hT=>seqB_ready hT.1) l.length listed a inv (Region.free_spec h0 hf) hr' hy ?_
  refine ih (k+1) _ _ (fun j hj=>?_) (by omega) (inv.set hr' (by omega)) hB' hK
  have:=hl (j+1) (by simp;omega)
  simpa [Nat.add_assoc,Nat.add_comm 1 j]using this
end
theorem wp_region_cls_tail (C:World→Prop) (n:Nat) {P:Program} {id:Nat} {Q:Exit→Act→World→Prop} {a:Act} {w:World} {l:List Oper} (hC:C { w with drawn:=w.drawn+1 })
  (hm:P.follows .mixedOrders=true) (hB:Region.lexTailB .any l.toArray n=true)
  (h:Nonempty (Cls C)→wpQuiet P l.toArray (fun w'=>∃p:Cls C,w'=p.w) (fun a'=>∀w',C w'→wpList P l.toArray Q (l.drop n) a' w') (l.take n) a):(Code.region id l.toArray true).wp P Q a w:=by
 simp only[Region.lexTailB,Bool.and_eq_true,decide_eq_true_eq]at hB
 obtain⟨⟨⟨⟨hsel,hn⟩,hs⟩,hc⟩,hlex⟩:=hB
 have hn':n<l.length:=by simpa using hn
 have htl:(l.take n).length=n:=by simp;omega
 have hdl:(l.drop n).length=l.toArray.size-n:=by simp
 have inv0:HeadInv .any l.toArray n (Array.replicate l.toArray.size false):=by
  refine⟨by simp,fun j oj _ hl=>?_,fun t _ ht=>getD_in (by simpa using ht) (getD_replicate_false _ _)⟩
  rw[getD_replicate_false]at hl
  cases hl
 have H:=headQ_lex (md:=.any) (g:=l.toArray.size-n) hsel hs hc hn (l.take n) 0 _ a (fun j hj=>by
  rw[htl]at hj
  simp[hj]) (by simpa using htl) inv0 (by rw[htl];exact hlex) (h ⟨⟨_,hC⟩⟩)
 refine wp_region_any hm ?_
 have:=headQ_run (Q:=Q) (g:=l.toArray.size-n) (fun listed a' w' hC' hT=>by
  obtain⟨p,rfl⟩:=hC'
  have:=wpAny_of_seq (md:=.any) (Q':=Q) (l.drop n) n listed a' p.w (fun j=>by simp[List.getElem?_drop]) (by rw[hdl];exact hT.1) (hT.2 p.w p.h)
  rwa [hdl]at this) _ _ _ _ ⟨⟨_,hC⟩,rfl⟩ H
 rw[htl,show n+(l.toArray.size-n)=l.toArray.size by omega]at this
 exact this
end Go.Proofs.YtmjilfamjlnigaaGreat.Kit
namespace Go.Proofs.YtmjilfamjlnigaaGreat.SrcP
def Evals (nl:Nat) (i:Nat) (n:SrcP.Node):Prop :=
 n.op=1∨(n.op=2∧n.val<nl)∨(3≤n.op∧n.op≤5∧0≤n.a∧n.a<i)∨(6≤n.op∧0≤n.a∧n.a<i∧0≤n.b∧n.b<i)
def EvalsAll (nl:Nat) (l:List SrcP.Node):Prop:=(0<l.length∧l.length≤65536)∧∀i n,l[i]?=some n→Evals nl i n
end Go.Proofs.YtmjilfamjlnigaaGreat.SrcP
namespace Go.Proofs.YtmjilfamjlnigaaGreat.SrcW
open Go Go.RowKit Kit SrcP
def U64At (w:World) (v:Value) (l:List Nat):Prop:=∃A c,v=.slice A l.length c∧∀(i x:Nat),l[i]?=some x→x<M64∧∃ad,A=some ad∧w.cell? (ad.add i)=some (.int .u64 x)
theorem U64At.below {w w':World} {v:Value} {l:List Nat} (h:U64At w v l) (hb:Below w.heap.size w w'):U64At w' v l:=by
 obtain⟨A,c,rfl,h⟩:=h
 refine⟨A,c,rfl,fun i n hi=>?_⟩
 obtain⟨h1,ad,h2,h3⟩:=h i n hi
 exact⟨h1,ad,h2,(hb.cell (World.block_lt_of_cell? w _ h3)).trans h3⟩
def u64V (x:Nat):Value:=.int .u64 (x:Int)
def ValRel (e:List SrcP.Node) (locals:List Nat) (w:World) (m:Nat) (s13:Value) (wr:World):Prop :=
 ∃k:Nat,s13=.int .i64 k∧k≤e.length∧m=e.length-k∧Below w.heap.size w wr ∧
  Blk wr w.heap.size 40 (((evalL locals (e.take k) []).map u64V)++List.replicate (e.length-k) (Value.int .u64 0)).toArray∧∀x∈evalL locals (e.take k) [],x<M64
set_option maxRecDepth 100000 in
set_option maxHeartbeats 4000000 in
theorem value_any (A B:Option Addr) (c d:Nat) (e:List SrcP.Node) (locals:List Nat) (w:World) (he:NodesAt w (.slice A e.length c) e) (hl:U64At w (.slice B locals.length d) locals) (hev:EvalsAll locals.length e) :
  Calls Tryz.prog 217 #[.slice A e.length c,.slice B locals.length d] w fun r w'=>r=.returned (.int .u64 (value e locals:Nat))∧Below w.heap.size w w'∧value e locals<M64:=by
 obtain⟨⟨h0,h6⟩,hev⟩:=hev
 have hmk:=make_u64 e.length (by omega) w
 obtain⟨A',c',hv,hE⟩:=he
 obtain⟨rfl,rfl⟩:A=A'∧c=c':=by simpa using hv
 obtain⟨B',d',hv2,hL⟩:=hl
 obtain⟨rfl,rfl⟩:B=B'∧d=d':=by simpa using hv2
 obtain⟨_,ad,rfl,_⟩:=hE 0 e[0] (by simp)
 have HE:=Lib.hid hE
 have HL:=Lib.hid hL
 have HV:=Lib.hid hev
 have h00:(0:Int)<(e.length:Int):=by omega
 clear hE hL hev hv hv2
 go_enter Tryz.func217,Tryz.ntmps217
 go_wp2_with fail
 go_loopg [13] e.length (fun m s13 wr=>ValRel e locals w m s13 wr)
 case atStart =>
  refine⟨0,rfl,Nat.zero_le _,rfl,(Below.refl _ _).alloc (Nat.le_refl _) _,?_,fun x h=>by simp[evalL]at h⟩
  have:=Blk.new w 40 (Array.replicate e.length (.int .u64 0))
  simpa [evalL]using this
 case round =>
  obtain⟨k,rfl,hk,hm,hb,hB,hlt⟩:=hrel
  have HM:=Lib.hid hm
  have HB:=Lib.hid hB
  clear hm hB
  by_cases hke:k<e.length
  ·obtain⟨hvl,ad',hh,hC⟩:=HE.out k e[k] (by simp[hke])
   obtain rfl:ad=ad':=by simpa using hh
   have hE:=HV.out k e[k] (by simp[hke])
   have htk:=evalL_take locals e k hke
   have hlen:=evalL_len locals (e.take k) []
   have hkk:(e.take k).length=k:=by simp;omega
   rw[hkk]at hlen
   simp only[List.length_nil,Nat.zero_add]at hlen
   generalize hvs:evalL locals (e.take k) []=vs at *
   generalize hn:e[k]=n at *
   obtain⟨op,val,na,nb⟩:=n
   replace hC:=hC.below hb
   have n0:wr.cell? (ad.add (k*4))=some (.int .i64 op):=hC 0 _ rfl
   have n1:wr.cell? ⟨(ad.add (k*4)).block,(ad.add (k*4)).off+1,none⟩=some (.int .u64 val):=hC 1 _ rfl
   have n2:wr.cell? ⟨(ad.add (k*4)).block,(ad.add (k*4)).off+2,none⟩=some (.int .i64 na):=hC 2 _ rfl
   have n3:wr.cell? ⟨(ad.add (k*4)).block,(ad.add (k*4)).off+3,none⟩=some (.int .i64 nb):=hC 3 _ rfl
   have a1:(k:Int)<(e.length:Int):=by omega
   have a2:(0:Int)≤(k:Int):=by omega
   have hgs:=HB.out.lt
   go_upto_region 6 with fail
   obtain⟨wx,hwx⟩:∃x,x=wr.alloc (.cells #[.int .i64 op,.int .u64 val,.int .i64 na,.int .i64 nb] 112):=⟨_,rfl⟩
   have hbx:Below w.heap.size w wx:=by rw[hwx];exact Kit.Below.al hb _
   have hBx:Blk wx w.heap.size 40 (vs.map u64V++List.replicate (e.length-k) (Value.int .u64 0)).toArray:=by rw[hwx];exact HB.out.alloc _
   have hBL:Blk wx wr.heap.size 112 #[.int .i64 op,.int .u64 val,.int .i64 na,.int .i64 nb]:=by rw[hwx];exact Blk.new _ _ _
   have hgne:w.heap.size≠wr.heap.size:=by omega
   generalize wr.heap.size=gl at *
   rw[←hwx]
   clear hwx n0 n1 n2 n3 hC
   obtain⟨n0,n1,n2,n3⟩:=Kit.cells4 hBL
   have hcv:∀w2,Below wx.heap.size wx w2→∀(j:Nat),j<k→w2.cell? ⟨w.heap.size,j,none⟩=some (.int .u64 (vs.getD j 0:Nat)):=fun w2 h2 j hj=>by
    rw[(hBx.below' h2).cell j]
    have hj2:j<vs.length:=by omega
    simp[List.getElem?_append,hj2,u64V,List.getD]
   have hck:∀w2,Below wx.heap.size wx w2→w2.cell? ⟨w.heap.size,k,none⟩=some (.int .u64 0)∧w2.frozen? ⟨w.heap.size,k,none⟩=false:=fun w2 h2=>by
    refine⟨?_,(hBx.below' h2).frozen k⟩
    rw[(hBx.below' h2).cell k]
    have:0<e.length-k:=by omega
    simp[hlen,this]
   have hfin:∀x:Nat,x=nodeV locals vs ⟨op,val,na,nb⟩→x<M64→∀w2,Below wx.heap.size wx w2→ValRel e locals w (e.length-(k+1)) (.int .i64 ((k:Int)+1)) (w2.setCell ⟨w.heap.size,k,none⟩ (.int .u64 x)):=fun x hx hx2 w2 h2=>by
    refine⟨k+1,by push_cast;rfl,hke,rfl,Kit.Below.setN (Kit.Below.then hbx h2) (Nat.le_refl _) _,?_,?_⟩
    ·have h3:=(hBx.below' h2).set k (.int .u64 x)
     have e1:((vs.map u64V++List.replicate (e.length-k) (Value.int .u64 0)).toArray).setIfInBounds k (.int .u64 x)=((evalL locals (e.take (k+1)) []).map u64V++List.replicate (e.length-(k+1)) (Value.int .u64 0)).toArray:=by
      rw[htk,←hx]
      have e2:e.length-k=(e.length-(k+1))+1:=by omega
      rw[e2,List.replicate_succ]
      simp only[List.setIfInBounds_toArray]
      congr 1
      rw[List.set_append_right _ _ (by simp[hlen])]
      simp[hlen,u64V]
     rwa [e1]at h3
    ·rw[htk,←hx]
     intro y hy
     simp only[List.mem_append,List.mem_singleton]at hy
     rcases hy with hy | rfl
     ·exact hlt y hy
     ·exact hx2
   have hlv:∀j,j<k→vs.getD j 0<M64:=fun j hj=>by
    have hj2:j<vs.length:=by omega
    rw[show vs.getD j 0=vs[j] by simp[List.getD,hj2]]
    exact hlt _ (List.getElem_mem hj2)
   have HF:=Lib.hid hfin
   have HVS:=Lib.hid hlv
   have HCV:=Lib.hid hcv
   have HCK:=Lib.hid hck
   clear hlen hkk htk hfin hlt hlv hcv hck
   simp only[Evals]at hE
   rcases hE with h1 | ⟨h1,h2⟩ | ⟨h1,h2,h3,h4⟩ | ⟨h1,h2,h3,h4,h5⟩
   ·subst h1
    obtain⟨c1,c2⟩:=HCK.out wx (Below.refl _ _)
    go_wp2_with fail
    go_roundg (e.length-(k+1))
    case measure=>have:=HM.out;omega
    case rel=>exact HF.out val (by simp[nodeV]) hvl wx (Below.refl _ _)
   ·subst h1
    obtain⟨c1,c2⟩:=HCK.out wx (Below.refl _ _)
    obtain⟨hvv,ld,rfl,c3⟩:=HL.out val (locals.getD val 0) (by simp[List.getD,h2])
    replace c3:=(hbx.cell (World.block_lt_of_cell? w _ c3)).trans c3
    have b1:(val:Int)<(locals.length:Int):=by omega
    have b2:(0:Int)≤(val:Int):=by omega
    have hq:locals.getD val 0=nodeV locals vs ⟨2,val,na,nb⟩:=by simp[nodeV]
    generalize locals.getD val 0=lv at *
    have HQ:=Lib.hid hq
    clear hq
    go_wp2_with fail
    go_roundg (e.length-(k+1))
    case measure=>have:=HM.out;omega
    case rel=>exact HF.out lv HQ.out hvv wx (Below.refl _ _)
   ·obtain⟨x,rfl⟩:=Int.eq_ofNat_of_zero_le h3
    have hx:x<k:=by omega
    have q1:(op == 1)=false:=by simp;omega
    have q2:(op == 2)=false:=by simp;omega
    have q3:op≤5:=h2
    have hxv:=HVS.out x hx
    have hq:one op (vs.getD x 0)=nodeV locals vs ⟨op,val,x,nb⟩:=by
     have d1:¬op=1:=by omega
     have d2:¬op=2:=by omega
     simp[nodeV,d1,d2,q3]
    have c1:∀p:Cls (Below wx.heap.size wx),p.w.cell? ⟨w.heap.size,x,none⟩=some (.int .u64 (vs.getD x 0:Nat)):=fun p=>HCV.out p.w p.h x hx
    have hone:∀p:Cls (Below wx.heap.size wx),Hid (Calls Tryz.prog 220 #[.int .i64 op,.int .u64 (vs.getD x 0:Nat)] p.w fun e w'=>e=.returned (.int .u64 (one op (vs.getD x 0):Nat))∧∃q:Cls (Below wx.heap.size wx),w'=q.w) :=
     fun p=>Calls.cls ((one_any op _ hxv p.w).mono fun e w' ⟨h1,h2⟩=>⟨h1,h2 ▸ p.h⟩)
    have m0:∀p:Cls (Below wx.heap.size wx),p.w.cell? ⟨gl,0,none⟩=some (.int .i64 op):=fun p=>hBL.cls 0 p
    have m2:∀p:Cls (Below wx.heap.size wx),p.w.cell? ⟨gl,2,none⟩=some (.int .i64 x):=fun p=>hBL.cls 2 p
    have hov:=one_lt op _ hxv
    generalize one op (vs.getD x 0)=ov at *
    have HQ:=Lib.hid hq
    clear hq
    generalize vs.getD x 0=vx at *
    have b1:(x:Int)<(e.length:Int):=by omega
    have b2:(0:Int)≤(x:Int):=by omega
    go_wp2_with fail
    refine wp_region_cls_tail (Below wx.heap.size wx) 11 (Below_drewN _ 1) (by kernel_rfl) (by kernel_rfl) ?_
    intro hne
    simp only[List.take_succ_cons,List.take_zero,List.drop_succ_cons,List.drop_zero]
    repeat (go_big_quiet_step ((go_at_call 220;exact(hone _).out)))
    refine wpQuiet_nil ?_
    intro w8 h8
    clear hne
    obtain⟨c2,c3⟩:=HCK.out w8 h8
    clear c1 hone m0 m2
    go_wp2_with fail
    go_roundg (e.length-(k+1))
    case measure=>have:=HM.out;omega
    case rel=>exact HF.out ov HQ.out hov w8 h8
   ·obtain⟨x,rfl⟩:=Int.eq_ofNat_of_zero_le h2
    obtain⟨y,rfl⟩:=Int.eq_ofNat_of_zero_le h4
    have hx:x<k:=by omega
    have hy:y<k:=by omega
    have q1:(op == 1)=false:=by simp;omega
    have q2:(op == 2)=false:=by simp;omega
    have q3:¬(op≤5):=by omega
    have hxv:=HVS.out x hx
    have hyv:=HVS.out y hy
    have hq:two op (vs.getD x 0) (vs.getD y 0)=nodeV locals vs ⟨op,val,x,y⟩:=by
     have d1:¬op=1:=by omega
     have d2:¬op=2:=by omega
     simp[nodeV,d1,d2,q3]
    have c1:∀p:Cls (Below wx.heap.size wx),p.w.cell? ⟨w.heap.size,x,none⟩=some (.int .u64 (vs.getD x 0:Nat)):=fun p=>HCV.out p.w p.h x hx
    have c4:∀p:Cls (Below wx.heap.size wx),p.w.cell? ⟨w.heap.size,y,none⟩=some (.int .u64 (vs.getD y 0:Nat)):=fun p=>HCV.out p.w p.h y hy
    have htwo:∀p:Cls (Below wx.heap.size wx),Hid (Calls Tryz.prog 221 #[.int .i64 op,.int .u64 (vs.getD x 0:Nat),.int .u64 (vs.getD y 0:Nat)] p.w fun e w'=>e=.returned (.int .u64 (two op (vs.getD x 0) (vs.getD y 0):Nat))∧∃q:Cls (Below wx.heap.size wx),w'=q.w) :=
     fun p=>Calls.cls ((two_any op _ _ hxv hyv p.w).mono fun e w' ⟨h1,h2⟩=>⟨h1,h2 ▸ p.h⟩)
    have m0:∀p:Cls (Below wx.heap.size wx),p.w.cell? ⟨gl,0,none⟩=some (.int .i64 op):=fun p=>hBL.cls 0 p
    have m2:∀p:Cls (Below wx.heap.size wx),p.w.cell? ⟨gl,2,none⟩=some (.int .i64 x):=fun p=>hBL.cls 2 p
    have m3:∀p:Cls (Below wx.heap.size wx),p.w.cell? ⟨gl,3,none⟩=some (.int .i64 y):=fun p=>hBL.cls 3 p
    have hov:=two_lt op _ _ hxv hyv
    generalize two op (vs.getD x 0) (vs.getD y 0)=ov at *
    have HQ:=Lib.hid hq
    clear hq
    generalize vs.getD x 0=vx at *
    generalize vs.getD y 0=vy at *
    have b1:(x:Int)<(e.length:Int):=by omega
    have b2:(0:Int)≤(x:Int):=by omega
    have b3:(y:Int)<(e.length:Int):=by omega
    have b4:(0:Int)≤(y:Int):=by omega
    go_wp2_with fail
    refine wp_region_cls_tail (Below wx.heap.size wx) 16 (Below_drewN _ 1) (by kernel_rfl) (by kernel_rfl) ?_
    intro hne
    simp only[List.take_succ_cons,List.take_zero,List.drop_succ_cons,List.drop_zero]
    repeat (go_big_quiet_step ((go_at_call 221;exact(htwo _).out)))
    refine wpQuiet_nil ?_
    intro w8 h8
    clear hne
    obtain⟨c2,c3⟩:=HCK.out w8 h8
    clear c1 c4 htwo m0 m2 m3
    go_wp2_with fail
    go_roundg (e.length-(k+1))
    case measure=>have:=HM.out;omega
    case rel=>exact HF.out ov HQ.out hov w8 h8
  ·obtain rfl:k=e.length:=by omega
   rw[List.take_length]at hlt
   have hB2:=HB.out
   rw[List.take_length,Nat.sub_self,List.replicate_zero,List.append_nil]at hB2
   have hlen:=evalL_len locals e []
   simp only[List.length_nil,Nat.zero_add]at hlen
   have hlast:value e locals=(evalL locals e []).getD (e.length-1) 0:=by
    unfold value
    rw[←hlen,List.getLastD_eq_getLast?,List.getLast?_eq_getElem?]
    simp[List.getD]
   have hj2:e.length-1<(evalL locals e []).length:=by omega
   have hvl:value e locals<M64:=by
    rw[hlast,List.getD,Kit.eG hj2]
    exact hlt _ (List.getElem_mem hj2)
   have c1:wr.cell? ⟨w.heap.size,e.length-1,none⟩=some (.int .u64 (value e locals:Nat)):=by
    rw[hB2.cell,hlast]
    simp[hj2,u64V,List.getD]
   have b1:(0:Int)≤(e.length:Int)-1:=by omega
   have b2:((e.length:Int)-1)<(e.length:Int):=by omega
   have b3:((e.length:Int)-1).toNat=e.length-1:=by omega
   clear hlast hlt
   go_wp2_with fail
   go_ret
   exact⟨rfl,hb,hvl⟩
end Go.Proofs.YtmjilfamjlnigaaGreat.SrcW
