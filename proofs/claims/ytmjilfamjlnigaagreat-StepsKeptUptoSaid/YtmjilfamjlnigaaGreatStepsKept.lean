/- THE LAW StepsKept holds, up to a bound on what comes in. -/
import Derived.Test.YtmjilfamjlnigaaGreatQ14
import Derived.Test.YtmjilfamjlnigaaGreatQ54
import Derived.JoinedCond
namespace Go.Proofs.YtmjilfamjlnigaaGreat.StepsKept
open Go Go.ChangeShapes Go.WideShapes Go.ChangeAt Go.RowKit SrcP SrcW RunW Open
set_option maxRecDepth 1000000 in
theorem own:ownKnob Tryz.prog.godebug=none:=by kernel_rfl
set_option maxRecDepth 1000000 in
theorem laidOut:laidOutB Tryz.prog=true:=by kernel_rfl
set_option maxRecDepth 1000000 in
theorem cellsI:Tryz.prog.cellsOf 3=1:=by kernel_rfl
set_option maxRecDepth 1000000 in
theorem ok_block {W:World} {r:Reach} {b0 len cap:Nat} {a:Addr} (h:Value.okWide Tryz.prog W r b0 25 (.slice (some a) len cap)):a.block<W.heap.size:=by
 simp only[Value.okWide,Tryz.underlying25,Cell.okWide,Cell.ok,World.has]at h
 obtain⟨_,_,_,_,row,cells,hs,_⟩:=h
 rcases Nat.lt_or_ge a.block W.heap.size with h1 | h1
 ·exact h1
 ·unfold World.shape? at hs
  rw[Array.getElem?_eq_none h1]at hs
  cases hs
set_option maxRecDepth 1000000 in
theorem ints_of {H:Type} {enc:TypeId × Value→H} {W:World} {b0:Nat} {v:Value} {d:DataW H} {ps:List MemPlace} (hv:Value.okWide Tryz.prog W .any b0 25 v) (h:DataW.Trod enc Tryz.prog W 0 (fun _=>true) true 25 v d ps) :
  ∃(A:Option Addr) (l:List Int) (c:Nat),v=.slice A l.length c∧l.length≤c∧IntsAt W A l∧(∀ad,A=some ad→ad.block<W.heap.size)∧l.length≤Rows.uptoBulk d:=by
 obtain⟨a0,len,cap,rfl⟩:=okWide_slice Tryz.underlying25 hv
 obtain⟨fuel,hf⟩:=h
 rcases open_ints Tryz.underlying25 Tryz.underlying3 cellsI hf with⟨hcs,_⟩ | ⟨a,len',cap',zs,hcs,_,hl,_,hz,hx,hcell,_⟩
 ·simp[Value.cells]at hcs
  obtain⟨rfl,rfl,rfl⟩:=hcs
  exact⟨none,[],0,rfl,Nat.le_refl _,fun i x hi=>by simp at hi,fun ad h=>(by cases h),Nat.zero_le _⟩
 ·simp[Value.cells]at hcs
  obtain⟨rfl,rfl,rfl⟩:=hcs
  simp only[if_true]at hz
  simp only[Prod.mk.injEq]at hx
  have hlen:(zs.take len).length=len:=by rw[List.length_take];omega
  refine⟨some a,zs.take len,cap,by rw[hlen],by rw[hlen];exact hl,fun i x hi=>⟨a,rfl,?_⟩,fun ad h=>(by injection h with h;subst h;exact ok_block hv),?_⟩
  ·have hil:=(List.getElem?_eq_some_iff.1 hi).1
   rw[hlen]at hil
   have h1:=hcell i (by omega)
   rw[List.getElem?_take,if_pos hil]at hi
   rw[h1,Kit.gD,hi]
   rfl
  ·rw[hx.1,hlen]
   have h1:=length_le (lits (H:=H) .i64 (zs.take len))
   have h2:(lits (H:=H) .i64 (zs.take len)).length=len:=by simp[lits];omega
   simp only[Rows.uptoBulk]
   omega
set_option maxRecDepth 1000000 in
theorem contract (H:Type) (enc:TypeId × Value→H) (W:World) (base:Nat) (args:Array Value) (ds gs:List (DataW H)) (before:List MemPlace)
  (hval:∀(j:Nat) t v,Tryz.f4.params[j]?=some t→args[j]?=some v→Value.okWide Tryz.prog W .any base t v)
  (hcond:Rows.uptoSmall H (ds++gs)=true)
  (hW:DataW.Whole enc Tryz.prog Tryz.f4.params.toList Rows.stepsKeptSpec.vars false W args.toList ds gs before) :
  Calls Tryz.prog 4 args W fun e W'=>∃v,e=.returned v∧Rows.stepsKeptSpec.post enc Tryz.prog Tryz.f4 false true false false W args v W':=by
 have hW':=hW
 obtain⟨p,q,hA0,hV,rfl,hfz,hnd⟩:=hW
 have hA:DataW.TrodAll enc Tryz.prog W 0 (fun _=>true) true Tryz.f4.params.toList args.toList ds p:=hA0
 rw[Tryz.params4]at hA hval
 obtain⟨v0,v1,d0,d1,p0,p1,rfl,rfl,rfl,h0,h1⟩:=trodAll_two hA
 obtain⟨rfl,rfl⟩:=trodVars_none hV
 have h0k:=h0
 have h1k:=h1
 have hb:Rows.uptoBulkAll ([d0,d1]++([]:List (DataW H)))≤1048576:=of_decide_eq_true hcond
 simp only[List.append_nil,Rows.uptoBulkAll]at hb
 obtain⟨c0,c1,y0,y1,m,rfl,rfl,hp0,t0,t1⟩:=Joins.open_agg2 Tryz.underlying24 (by kernel_rfl) (by kernel_rfl) (hval 0 24 v0 rfl rfl) h0
 simp only[Rows.uptoBulk,Rows.uptoBulkAll]at hb
 obtain⟨z,rfl⟩:=int_of t0
 obtain⟨l,hth,hlb,hvl⟩:=threads_of t1 (by omega)
 obtain⟨A,picks,cA,rfl,hcA,hI,hAl,hpb⟩:=ints_of (hval 1 25 v1 rfl rfl) h1
 clear hA0 hval h0 h1 hA
 simp only[List.append_nil]at hW'
 have hlt:∀x∈p0++p1,x.block<W.heap.size:=fun x hx=>by simpa using hW'.lt x (by simpa using hx)
 have hres:Calls Tryz.prog 4 #[.agg #[.int .i64 z,c1],.slice A picks.length cA] W fun e w'=>e=.returned (.bool true)∧Below W.heap.size W w':=by
  cases hS:sourceS ⟨z,l⟩ picks 1000 false with
  | error en=>exact RefW.Kept_err ⟨z,l⟩ hvl c1 (by show l.length≤_;omega) picks (by omega) W hth A cA hI hAl en hS
  | ok x=>exact RefW.Kept_ok ⟨z,l⟩ hvl c1 (by show l.length≤_;omega) picks (by omega) W hth A cA hI hAl x hS
 refine hres.mono fun e W' ⟨he,hg⟩=>?_
 subst he
 have t0':=Below.trod laidOut (by kernel_rfl) (of_decide_eq_true (by kernel_rfl)) h0k hg (fun x hx=>hlt x (by simp[hx]))
 have t1':=Below.trod laidOut (by kernel_rfl) (of_decide_eq_true (by kernel_rfl)) h1k hg (fun x hx=>hlt x (by simp[hx]))
 exact⟨_,rfl,_,_,_,[],_,[],hW',trodAll_cons_mk (shut_bool Tryz.underlying4 _) trodAll_mk0,trodAll_mk2 t0' t1',rfl,hg.frame _,fun h=>by cases h⟩
set_option maxRecDepth 1000000 in
theorem lifted (os:Os) (started:os.Started) (H:Type) (enc:TypeId × Value→H) (F:Stop.Interp) :
  ReturnsInHanded {} Tryz.checked os 4 .any ((Rows.OpenSpec.upto Rows.stepsKeptSpec).pre6 enc Tryz.prog Tryz.f4 Rows.stepsKeptUptoRow.domain false) (((Rows.OpenSpec.upto Rows.stepsKeptSpec).at F).post enc Tryz.prog Tryz.f4 false true false false):=by
 refine returnsInHanded_of_cond (C:=Tryz.checked) (s:=Rows.OpenSpec.upto Rows.stepsKeptSpec) (k:=Rows.uptoSmall) rfl own started (by kernel_rfl) Tryz.func4
  (OpenSpec.witness (enc:=enc) (C:=Tryz.checked) (s:=Rows.OpenSpec.upto Rows.stepsKeptSpec) (k:=Rows.uptoSmall) rfl false ⟨#[],#[.agg #[.int .i64 0,.slice none 0 0],.slice none 0 0],[]⟩ 8 (by kernel_rfl) (by kernel_rfl) (by kernel_rfl)
   (x:=([.agg [.lit (.int .i64 0),.nil],.nil],[],[])) (by kernel_rfl) rfl (by kernel_rfl)) ?_
 intro W base args ds gs before hval hW _ hk _
 exact contract H enc W base args ds gs before hval hk hW
set_option maxRecDepth 1000000 in
theorem over:Rows.stepsKeptUptoRow.holds Tryz.pinned (Rows.OpenSpec.upto Rows.stepsKeptSpec) :=
 OpenClaim.holds_of_cond 4 Tryz.f4 rfl rfl rfl rfl rfl rfl rfl ⟨rfl,rfl,rfl,rfl,rfl⟩ rfl rfl rfl rfl rfl (by kernel_rfl) Tryz.func4 (by kernel_rfl)
  (of_decide_eq_true (by kernel_rfl)) (by unfold Func.isWrapper;first |(rw[if_pos (by decide +kernel)];kernel_rfl) |(rw[if_neg (by decide +kernel)];exact⟨rfl,rfl⟩))
  (fun os started H enc _ F=>lifted os started H enc F)
theorem saidUpto:Rows.StepsKeptUptoSaid:=over
#print axioms saidUpto
end Go.Proofs.YtmjilfamjlnigaaGreat.StepsKept
