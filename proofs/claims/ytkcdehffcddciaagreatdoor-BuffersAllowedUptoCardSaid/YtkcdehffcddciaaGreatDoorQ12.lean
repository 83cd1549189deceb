/- Code of the small machine, prepared; what is owed for it to end so (by rules: values may be variables). -/
import Derived.Test.YtkcdehffcddciaaGreatDoorQ11
namespace Go.Proofs.YtkcdehffcddciaaGreatDoor.Vm
open Go Go.RowKit
structure So where
 g:Option (Nat × Bool)
 d:Option Nat
 op:Top
 us:List Nat
@[reducible] def Y(d:Nat)(o:Top)(u:List Nat):So:=⟨none,some d,o,u⟩
@[reducible] def Z(a:Nat)(b:Bool)(d:Nat)(o:Top)(u:List Nat):So:=⟨some (a,b),some d,o,u⟩
inductive Kd where
 | e
 | soft
 | q (ks:List (Option Nat))
inductive Sc where
 | skip
 | exit (n:Nat)
 | ret
 | seq (a b:Sc)
 | cond (x:Rd) (a b:Sc)
 | block (id:Nat) (b:Sc)
 | loop (b:Sc)
 | scope (b:Sc)
 | region (l:List So)
 | mix (l:List (So × Kd))
 | range (x:Rd) (ps:List Nat) (a b:Sc)
 | bad
noncomputable section
def Top.far:Top→Bool
 | .call _ _=>true
 | .callv _ _=>true
 | .nx _=>true
 | _=>false
def calleeB:Op→Option (Operand × List Operand)
 | .call c=>match c.callee with
  | .value g=>some (g,c.args.toList)
  | _=>none
 | _=>none
def calB (g:Operand) (args:List Rd):Option Top:=match g with
 | .func f=>some (.call f args)
 | g=>ob (rdB g) fun g=>some (.callv g args)
def topB (P:Program) (o:Op):Option Top:=match nextB o with
 | some x=>ob (rdB x) fun x=>some (.nx x)
 | none=>match calleeB o with
  | some (g,l)=>ob (mapO rdB l) fun args=>calB g args
  | none=>ob (opT P o) fun top=>bb (!top.far) (some top)
def soB (P:Program) (ops:Array Oper) (N:Nat) (o:Oper):Option So:=ob (guardB ops o) fun g=>ob (dstB N o.dst) fun d=>ob (topB P o.op) fun top=>some ⟨g,d,top,usesT ops o⟩
def kdB (P:Program) (b hd:List Nat) (j:Nat) (o:Op):Option Kd:=br (isE o) (some .e) (match o with
 | .alloc _=>some .soft
 | .makeSlice _ _ _=>some .soft
 | o=>bb (quietB P o) (some (.q ((none :: hd.map some).filter (mayStand b hd j)))))
def Top.rds:Top→List Rd
 | .mv x=>[x]
 | .ld a=>[a]
 | .lds a _=>[a]
 | .st a x _=>[a,x]
 | .ar _ x y=>[x,y]
 | .sh _ x y=>[x,y]
 | .eq _ _ x y=>[x,y]
 | .fa x _=>[x]
 | .ia x i _=>[x,i]
 | .iaa x i _ _=>[x,i]
 | .tb _ i _ _=>[i]
 | .nc x=>[x]
 | .ex x _=>[x]
 | .pk c a b=>[c,a,b]
 | .nt x=>[x]
 | .ng x=>[x]
 | .al _ _=>[]
 | .bx _ x=>[x]
 | .bd _ ps=>ps.map fun x=>x.2.2
 | .bs _ _ _ _ ps=>ps.map fun x=>x.2.2
 | .ms _ _ _ _ l c=>[l,c]
 | .s2 _ x lo hi=>x :: (lo.toList++hi.toList)
 | .fl x _=>[x]
 | .fls x _ _=>[x]
 | .cv _ x=>[x]
 | .mf _ a b=>a++b
 | .mm=>[]
 | .mu m k v=>[m,k,v]
 | .lk m k _ _=>[m,k]
 | .len x=>[x]
 | .slen x=>[x]
 | .mn x l=>x :: l
 | .mx x l=>x :: l
 | .ap _ _ _ x y=>[x,y]
 | .cap x=>[x]
 | .apz _ _ _ _ x y=>[x,y]
 | .call _ args=>args
 | .callv g args=>g :: args
 | .nx x=>[x]
 | .rg x=>[x]
 | .en x=>[x]
def Rd.inB (us:List Nat):Rd→Bool
 | .t k=>us.contains k
 | .c _=>true
def So.covers (s:So):Bool:=s.op.rds.all (Rd.inB s.us)&&(match s.g with | some (d,_)=>s.us.contains d | none=>true)
def mixB (P:Program) (ops:Array Oper) (N:Nat):Option (List (So × Kd)) :=
 let b:=bef ops.toList []
 let hd:=idxs isE ops.toList
 mapO (fun x=>ob (soB P ops N x.1) fun s=>ob (kdB P b hd x.2 x.1.op) fun k=>bb s.covers (some (s,k))) ops.toList.zipIdx
def scB (P:Program) (N:Nat):Code→Option Sc
 | .skip=>some .skip
 | .label _=>some .skip
 | .exit n=>some (.exit n)
 | .ret=>some .ret
 | .seq a b=>ob (scB P N a) fun a=>ob (scB P N b) fun b=>some (.seq a b)
 | .cond x a b=>ob (rdB x) fun x=>ob (scB P N a) fun a=>ob (scB P N b) fun b=>some (.cond x a b)
 | .block id b=>ob (scB P N b) fun b=>some (.block id b)
 | .loop b=>ob (scB P N b) fun b=>some (.loop b)
 | .scope b=>ob (scB P N b) fun b=>some (.scope b)
 | .region _ ops false=>orr (mapO (soB P ops N) ops.toList) (some .bad) fun l=>some (.region l)
 | .region _ ops true=>bb (drawOk ops) (bb (drB P ops N).isSome (ob (mixB P ops N) fun l=>some (.mix l)))
 | .rangeFunc x ps a b=>bb (ps.toList.all fun p=>Nat.blt p N) (bb (dokC 0 a&&dokC 0 b) (ob (rdB x) fun x=>ob (scB P N a) fun a=>ob (scB P N b) fun b=>some (.range x ps.toList a b)))
 | _=>none
inductive ScOf (P:Program) (N:Nat):Code→Sc→Prop
 | bad (c:Code):ScOf P N c .bad
 | skip:ScOf P N .skip .skip
 | label (l:Nat):ScOf P N (.label l) .skip
 | exit (n:Nat):ScOf P N (.exit n) (.exit n)
 | ret:ScOf P N .ret .ret
 | seq {a b:Code} {a' b':Sc}:ScOf P N a a'→ScOf P N b b'→ScOf P N (.seq a b) (.seq a' b')
 | cond {x:Operand} {rx:Rd} {a b:Code} {a' b':Sc}:rdB x=some rx→ScOf P N a a'→ScOf P N b b'→ScOf P N (.cond x a b) (.cond rx a' b')
 | block {id:Nat} {b:Code} {b':Sc}:ScOf P N b b'→ScOf P N (.block id b) (.block id b')
 | loop {b:Code} {b':Sc}:ScOf P N b b'→ScOf P N (.loop b) (.loop b')
 | scope {b:Code} {b':Sc}:ScOf P N b b'→ScOf P N (.scope b) (.scope b')
 | region {id:Nat} {ops:Array Oper} {l:List So}:mapO (soB P ops N) ops.toList=some l→ScOf P N (.region id ops false) (.region l)
 | range {x:Operand} {rx:Rd} {ps:Array Nat} {a b:Code} {a' b':Sc}:(ps.toList.all fun p=>Nat.blt p N)=true→(dokC 0 a&&dokC 0 b)=true→rdB x=some rx→ScOf P N a a'→ScOf P N b b'→ScOf P N (.rangeFunc x ps a b) (.range rx ps.toList a' b')
 | mix {id:Nat} {ops:Array Oper} {l:List (So × Kd)}:drawOk ops=true→(drB P ops N).isSome=true→mixB P ops N=some l→ScOf P N (.region id ops true) (.mix l)
theorem scB_of {P:Program} {N:Nat}:∀(c:Code) (s:Sc),scB P N c=some s→ScOf P N c s
 | .skip,s,h=>by injection h with h;subst h;exact .skip
 | .label l,s,h=>by injection h with h;subst h;exact .label l
 | .exit n,s,h=>by injection h with h;subst h;exact .exit n
 | .ret,s,h=>by injection h with h;subst h;exact .ret
 | .seq a b,s,h=>by
  obtain⟨x,hx,h⟩:=ob_some h
  obtain⟨y,hy,h⟩:=ob_some h
  injection h with h
  subst h
  exact .seq (scB_of a x hx) (scB_of b y hy)
 | .cond c a b,s,h=>by
  obtain⟨r,hr,h⟩:=ob_some h
  obtain⟨x,hx,h⟩:=ob_some h
  obtain⟨y,hy,h⟩:=ob_some h
  injection h with h
  subst h
  exact .cond hr (scB_of a x hx) (scB_of b y hy)
 | .block id b,s,h=>by
  obtain⟨x,hx,h⟩:=ob_some h
  injection h with h
  subst h
  exact .block (scB_of b x hx)
 | .loop b,s,h=>by
  obtain⟨x,hx,h⟩:=ob_some h
  injection h with h
  subst h
  exact .loop (scB_of b x hx)
 | .scope b,s,h=>by
  obtain⟨x,hx,h⟩:=ob_some h
  injection h with h
  subst h
  exact .scope (scB_of b x hx)
 | .region id ops false,s,h=>by
  unfold scB at h
  cases hx:mapO (soB P ops N) ops.toList with
  | none =>
   rw[hx]at h
   injection h with h
   subst h
   exact .bad _
  | some x =>
   rw[hx]at h
   injection h with h
   subst h
   exact .region hx
 | .region id ops true,s,h=>by
  obtain⟨h1,h⟩:=bb_some h
  obtain⟨h3,h⟩:=bb_some h
  obtain⟨x,hx,h⟩:=ob_some h
  injection h with h
  subst h
  exact .mix h1 h3 hx
 | .rangeFunc x ps a b,s,h=>by
  obtain⟨h1,h⟩:=bb_some h
  obtain⟨h2,h⟩:=bb_some h
  obtain⟨rx,hx,h⟩:=ob_some h
  obtain⟨a',ha,h⟩:=ob_some h
  obtain⟨b',hb,h⟩:=ob_some h
  injection h with h
  subst h
  exact .range h1 h2 hx (scB_of a a' ha) (scB_of b b' hb)
 | .goto _,s,h=>by cases h
 | .refuse _,s,h=>by cases h
/-! ### Calls -/
def Exact (P:Program) (f:FuncId) (args:List V) (h:H) (r:V × H):Prop:=(∀(xs:Array Value) (w:World),(callFunc f xs).run P w=.ok (.enter f xs) w) ∧
 ∀(A:Sub) (w:World) (xs:List Value),Mt A h w→RelL A h.next args xs→Calls P f xs.toArray w fun e w'=>∃x,e=.returned x∧Post A h w r.1 r.2 x w'
def Fn (P:Program) (f:FuncId) (args:List V) (h:H) (R:V→H→Prop):Prop:=(∀(xs:Array Value) (w:World),(callFunc f xs).run P w=.ok (.enter f xs) w) ∧
 ∀(A:Sub) (w:World) (xs:List Value),Mt A h w→RelL A h.next args xs→Calls P f xs.toArray w fun e w'=>∃x,e=.returned x∧∃v h',Post A h w v h' x w'∧R v h'
theorem Fn.mono {P:Program} {f:FuncId} {args:List V} {h:H} {R S:V→H→Prop} (hf:Fn P f args h R) (hs:∀v h',R v h'→S v h'):Fn P f args h S :=
 ⟨hf.1,fun A w xs hm hx=>(hf.2 A w xs hm hx).mono fun _ _ ⟨x,he,v,h',hp,hr⟩=>⟨x,he,v,h',hp,hs v h' hr⟩⟩
theorem Exact.fn {P:Program} {f:FuncId} {args:List V} {h:H} {r:V × H} {R:V→H→Prop} (he:Exact P f args h r) (hr:R r.1 r.2):Fn P f args h R :=
 ⟨he.1,fun A w xs hm hx=>(he.2 A w xs hm hx).mono fun _ _ ⟨x,he,hp⟩=>⟨x,he,r.1,r.2,hp,hr⟩⟩
theorem noC_ok (P:Program):CallOk P noC:=⟨fun _ _ _ _ h=>(by cases h),fun _ _ _ _ h=>(by cases h)⟩
def Yd (P:Program) (b:Nat) (args:List V) (h:H) (R:V→H→Prop):Prop:=∀(A:Sub) (w:World) (xs:List Value),Mt A h w→RelL A h.next args xs →
 ∃fn tmps assign body,(Instr.yield (A.ι b) xs.toArray).run P w=.ok (.round (A.ι b) fn tmps assign body) w∧∀(k:Option Nat) (n:Nat),RoundIn (Wide k) n P (A.ι b) fn tmps assign body w fun e w'=>∃x,e=.returned x∧∃v h',Post A h w v h' x w'∧R v h'
def HTo (P:Program) (op:Op) (t:Tr V) (h:H) (R:V→H→Prop):Prop:=(∀c,op≠.defer c)∧∀(o:Oper),o.op=op→∀(A:Sub) (w:World) (N:Nat) (a:Act),Mt A h w→TRel A h.next N t a.tmps→Does P o a w fun x w'=>∃v h',Post A h w v h' x w'∧R v h'
theorem OTo.to {P:Program} {op:Op} {t:Tr V} {h h':H} {v:V} {R:V→H→Prop} (ho:OTo P op t h v h') (hr:R v h'):HTo P op t h R :=
 ⟨ho.1,fun o e A w N a hm ht=>(ho.2 o e A w N a hm ht).mono fun _ _ hp=>⟨v,h',hp,hr⟩⟩
theorem call_to {P:Program} {c:Call} {g:Operand} {rg:Rd} {args:List Rd} {t:Tr V} {h:H} {R:V→H→Prop} {f:FuncId} {first cap:List V} (hcal:c.callee=.value g) (ha:mapO rdB c.args.toList=some args) (hg:rdB g=some rg) (hv:rg.val t=.fn (.func f) first cap)
  (hf:Fn P f (first++(vals t args++cap)) h R):HTo P (.call c) t h R:=by
 refine⟨fun c h=>(by cases h),fun o ho A w N a hm ht=>?_⟩
 have hrf:=rd_rel ht hg
 have hargs:=rdL_some ht _ _ _ ha (rdL_vals t args)
 rw[hv]at hrf
 obtain⟨xs,ys,h1,h2,h3⟩:=hrf.of_fn
 have h6:=hf.2 A w _ hm (h2.append (hargs.append h3))
 refine .enter (w':=w) (f:=f) (args:=(xs.toList++(c.args.toList.map a.eval++ys.toList)).toArray) ?_ h6
 have e:(xs++c.args.map a.eval)++ys=(xs.toList++(c.args.toList.map a.eval++ys.toList)).toArray:=by
  apply arr_of
  simp
 have h4:=hf.1
 simp only[execOp,ho,resolve,hcal,h1,Deferred.ofValue,Sem.run_bind,Sem.run_pure,Result.andThen_ok,invoke,e,h4]
theorem round_to {P:Program} {c:Call} {g:Operand} {rg:Rd} {args:List Rd} {t:Tr V} {h:H} {R:V→H→Prop} {b:Nat} (hcal:c.callee=.value g) (ha:mapO rdB c.args.toList=some args) (hg:rdB g=some rg) (hv:rg.val t=.y b) (hf:Yd P b (vals t args) h R):HTo P (.call c) t h R:=by
 refine⟨fun c h=>(by cases h),fun o ho A w N a hm ht=>?_⟩
 have hrf:=rd_rel ht hg
 have hargs:=rdL_some ht _ _ _ ha (rdL_vals t args)
 rw[hv]at hrf
 obtain⟨h1,_⟩:=hrf.of_y
 obtain⟨fn,tmps,assign,body,h2,h3⟩:=hf A w _ hm hargs
 refine .round (w':=w) ?_ h3
 have e:#[]++c.args.map a.eval=(c.args.toList.map a.eval).toArray:=by
  apply arr_of
  simp
 simp only[execOp,ho,resolve,hcal,h1,Deferred.ofValue,Sem.run_bind,Sem.run_pure,Result.andThen_ok,invoke,e,h2]
/-! ### Regions -/
section
variable (P:Program)
def doP (op:Top) (t:Tr V) (h:H) (R:V→H→Prop):Prop:=match op with
 | .call f args=>Fn P f (vals t args) h R
 | .callv g args=>match g.val t with
  | .fn (.func f) first cap=>Fn P f (first++(vals t args++cap)) h R
  | .y b=>Yd P b (vals t args) h R
  | _=>False
 | .nx x=>match x.val t with
  | .p b o=>o=0∧match nextC h b with
   | some cs=>∀c∈cs,R c.1 c.2
   | none=>False
  | _=>False
 | op=>match tdo noC op t h with
  | some p=>R p.1 p.2
  | none=>False
def wpL:List So→Tr V→H→(Tr V→H→Prop)→Prop
 | [],t,h,Q=>Q t h
 | s :: l,t,h,Q=>if wantK t s.g=true then doP P s.op t h fun v h'=>wpL l (setT t s.d v) h' Q else wpL l (setT t s.d .u) h Q
end
variable {P:Program}
theorem calleeB_some {o:Op} {g:Operand} {l:List Operand} (h:calleeB o=some (g,l)):∃c:Call,o=.call c∧c.callee=.value g∧c.args.toList=l:=by
 cases o <;> first |(cases h;done) | skip
 case call c =>
  have h:(match c.callee with | .value g=>some (g,c.args.toList) | _=>none)=some (g,l):=h
  split at h
  ·rename_i g' hc
   injection h with h
   injection h with h1 h2
   subst h1 h2
   exact⟨c,rfl,hc,rfl⟩
  ·cases h
theorem topB_opT {o:Op} {top:Top} (hn:nextB o=none) (ht:topB P o=some top):opT P o=some top:=by
 unfold topB at ht
 rw[hn]at ht
 simp only at ht
 split at ht
 ·rename_i g l hc
  obtain⟨c,rfl,hcal,rfl⟩:=calleeB_some hc
  obtain⟨args,ha,ht⟩:=ob_some ht
  have h1:opT P (.call c)=ob (mapO rdB c.args.toList) fun args=>match c.callee with
   | .value (.func f)=>some (.call f args)
   | .value g=>ob (rdB g) fun g=>some (.callv g args)
   | .builtin b=>match b,args with
    | .len,[x]=>match c.argTypes.toList with
     | [ty]=>match P.underlying ty with
      | some (.slice _)=>some (.len x)
      | some .string=>some (.slen x)
      | _=>none
     | _=>none
    | .cap,[x]=>match c.argTypes.toList with
     | [ty]=>match P.underlying ty with
      | some (.slice _)=>some (.cap x)
      | _=>none
     | _=>none
    | .min,x :: l=>some (.mn x l)
    | .max,x :: l=>some (.mx x l)
    | .append,[x,y]=>match c.argTypes.toList with
     | [ty,xt]=>ob (elemB P ty) fun e=>orr (elemB P xt) (zerosT P xt e x y) fun _=>ob (sizeB P e) fun sz=>ob (bytesB P e) fun by_=>ob (zeroB P e) fun z=>bb (Nat.blt 0 sz) (bb (Nat.blt 0 by_) (bb (Nat.beq z.cells.length sz) (some (.ap e sz by_ x y))))
     | _=>none
    | _,_=>none
   | _=>none:=rfl
  rw[h1,ha,ob_s]
  rw[hcal]
  cases g <;> exact ht
 ·obtain⟨top',ht',ht⟩:=ob_some ht
  obtain⟨_,ht⟩:=bb_some ht
  injection ht with ht
  subst ht
  exact ht'
theorem doP_near {top:Top} (hf:top.far=false) (t:Tr V) (h:H) (R:V→H→Prop):doP P top t h R=(match tdo noC top t h with | some p=>R p.1 p.2 | none=>False):=by
 cases top <;> first | rfl | cases hf
theorem near_to {op:Op} {top:Top} (ht:opT P op=some top) (hf:top.far=false) {t:Tr V} {h:H} {R:V→H→Prop} (hd:doP P top t h R):HTo P op t h R:=by
 rw[doP_near hf]at hd
 split at hd
 ·rename_i p hp
  exact(tdo_to (noC_ok P) ht hp).to hd
 ·cases hd
theorem doP_to {op:Op} {top:Top} (ht:topB P op=some top) {t:Tr V} {h:H} {R:V→H→Prop} (hd:doP P top t h R):HTo P op t h R:=by
 unfold topB at ht
 split at ht
 ·rename_i x hx
  obtain⟨rx,hrx,ht⟩:=ob_some ht
  injection ht with ht
  subst ht
  have hop:=nextB_some hx
  subst hop
  refine⟨fun c h=>(by cases h),fun o ho A w N a hm htr=>?_⟩
  unfold doP at hd
  simp only at hd
  split at hd
  ·rename_i b o' hv
   obtain⟨rfl,hd⟩:=hd
   split at hd
   ·rename_i cs hcs
    obtain⟨c,hc,hdo⟩:=next_ok ho hrx hm htr hv hcs
    exact hdo.mono fun _ _ hp=>⟨c.1,c.2,hp,hd c hc⟩
   ·cases hd
  ·cases hd
 ·split at ht
  ·rename_i g l hc
   obtain⟨c,rfl,hcal,rfl⟩:=calleeB_some hc
   obtain⟨args,ha,ht⟩:=ob_some ht
   have hg:∀rg,rdB g=some rg→top=.callv rg args→HTo P (.call c) t h R:=fun rg hg he=>by
    subst he
    unfold doP at hd
    simp only at hd
    split at hd
    ·rename_i f first cap hv
     exact call_to hcal ha hg hv hd
    ·rename_i b hv
     exact round_to hcal ha hg hv hd
    ·cases hd
   cases g with
   | func f =>
    injection ht with ht
    subst ht
    have hd:Fn P f (vals t args) h R:=hd
    exact call_to hcal ha rfl rfl (by simpa only[List.nil_append,List.append_nil]using hd)
   | tmp k =>
    obtain⟨rg,h2,ht⟩:=ob_some (show ob (rdB (.tmp k)) (fun g=>some (.callv g args))=some top from ht)
    injection ht with ht
    exact hg rg h2 ht.symm
   | const v =>
    obtain⟨rg,h2,ht⟩:=ob_some (show ob (rdB (.const v)) (fun g=>some (.callv g args))=some top from ht)
    injection ht with ht
    exact hg rg h2 ht.symm
   | global v=>cases ht
  ·obtain⟨top',ht',ht⟩:=ob_some ht
   obtain⟨hf,ht⟩:=bb_some ht
   injection ht with ht
   subst ht
   exact near_to ht' (by simpa using hf) hd
theorem wpL_to {ops:Array Oper} {N:Nat}:∀(os:List Oper) (l:List So) (t:Tr V) (h:H) (Q:Tr V→H→Prop),mapO (soB P ops N) os=some l→wpL P l t h Q →
  ∀(lo:Nat) (r:Option Nat) (n:Nat) (A:Sub) (w:World) (a:Act) (K:Exit→Act→World→Prop),Mt A h w→TRel A h.next N t a.tmps→Marks lo A h w a.defers→(∀t' h',Q t' h'→∀a' w',Res lo A h w N ⟨.normal,t',h'⟩ a' w'→K .normal a' w')→wpListIn (Wide r) n P ops K os a w
 | [],l,t,h,Q,hl,hq=>by
  obtain rfl:=mapO_nil hl
  exact fun lo r n A w a K hm ht hd hK=>hK t h hq _ _ ⟨A,.refl hm,ht,hd⟩
 | o :: os,l,t,h,Q,hl,hq=>by
  intro lo r n A w a K hm ht hd hK
  obtain⟨s,l',hs,hl',rfl⟩:=mapO_cons hl
  obtain⟨g,hg,hs⟩:=ob_some hs
  obtain⟨d,hd',hs⟩:=ob_some hs
  obtain⟨top,htop,hs⟩:=ob_some hs
  injection hs with hs
  subst hs
  unfold wpL at hq
  simp only at hq
  show if Region.wanted o (yielded ops a.tmps)then _ else _
  by_cases hw:wantK t g=true
  ·rw[if_pos hw]at hq
   have hto:=doP_to htop hq
   rw[want_eq ht hg,hw,if_pos rfl]
   refine(hto.2 o rfl A w N a hm ht).wpIn hto.1 fun x w' hp=>?_
   obtain⟨v,h',hp,hq'⟩:=hp
   obtain⟨A',hev,hr⟩:=hp
   exact wpL_to os l' _ _ Q hl' hq' lo r n A' w' _ K hev.mt ((ht.mono hev.old hev.next).dst hd' hr) (by rw[put_defers];exact hd.ev hev) fun t2 h2 hQ a2 w2 hres=>hK t2 h2 hQ a2 w2 (hres.trans hev)
  ·rw[if_neg hw]at hq
   rw[want_eq ht hg,if_neg hw]
   exact⟨fun _ _=>trivial,wpL_to os l' _ _ Q hl' hq lo r n A w _ K hm (ht.dst hd' .u) (by rw[put_defers];exact hd) hK⟩
/-! ### Code -/
def Ends (N:Nat) (t:Tr V) (h:H) (Q:Ex→Tr V→H→Prop) (W:(Exit→Act→World→Prop)→Act→World→Prop):Prop :=
 ∀(lo:Nat) (A:Sub) (w:World) (a:Act) (K:Exit→Act→World→Prop),Mt A h w→TRel A h.next N t a.tmps→Marks lo A h w a.defers→(∀o:Out,Q o.x o.t o.h→∀a' w',Res lo A h w N o a' w'→K (exitOf o.x) a' w')→W K a w
structure SW (P:Program) (r:Option Nat) (N:Nat) (s:Sc) (t:Tr V) (h:H) (Q:Ex→Tr V→H→Prop):Prop where
 run:∀c,ScOf P N c s→∀k,Ends N t h Q (fun K a w=>c.wpIn (Wide r) k P K a w)
section
variable {r:Option Nat} {N:Nat} {t:Tr V} {h:H} {Q:Ex→Tr V→H→Prop}
theorem ends_one {W:(Exit→Act→World→Prop)→Act→World→Prop} {x:Ex} (hw:∀(K:Exit→Act→World→Prop) a w,K (exitOf x) a w→W K a w) (hq:Q x t h):Ends N t h Q W :=
 fun _lo A w a K hm ht hd hK=>hw K a w (hK ⟨x,t,h⟩ hq a w ⟨A,.refl hm,ht,hd⟩)
def andN (S:Tr V→H→Prop) (Q:Ex→Tr V→H→Prop):Ex→Tr V→H→Prop
 | .normal,t,h=>S t h
 | x,t,h=>Q x t h
theorem ends_then {S:Tr V→H→Prop} {W next:(Exit→Act→World→Prop)→Act→World→Prop} (h1:Ends N t h (andN S Q) W) (h2:∀t h,S t h→Ends N t h Q next):Ends N t h Q (fun K a w=>W (Exit.then (next K) K) a w):=by
 intro lo A w a K hm ht hd hK
 refine h1 lo A w a _ hm ht hd fun q hq a' w' hr=>?_
 obtain⟨x,t',h'⟩:=q
 obtain⟨A',hev,ht',hd'⟩:=hr
 cases x with
 | normal=>exact h2 t' h' hq lo A' w' a' K hev.mt ht' hd' fun o2 ho2 a2 w2 hr2=>hK o2 ho2 a2 w2 (hr2.trans hev)
 | exit j=>exact hK ⟨.exit j,t',h'⟩ hq a' w' ⟨A',hev,ht',hd'⟩
 | ret=>exact hK ⟨.ret,t',h'⟩ hq a' w' ⟨A',hev,ht',hd'⟩
theorem SW.mono {s:Sc} {Q':Ex→Tr V→H→Prop} (hs:SW P r N s t h Q) (hq:∀x t h,Q x t h→Q' x t h):SW P r N s t h Q':=⟨fun c hc k lo A w a K hm ht hd hK =>
 hs.run c hc k lo A w a K hm ht hd fun o ho=>hK o (hq _ _ _ ho)⟩
theorem SW.skip (hq:Q .normal t h):SW P r N .skip t h Q:=⟨fun c hc k=>by
 cases hc with
 | skip=>exact ends_one (x:=.normal) (fun K a w hk=>wpIn_skip hk) hq
 | label l=>exact ends_one (x:=.normal) (fun K a w hk=>wpIn_label hk) hq⟩
theorem SW.exit {n:Nat} (hq:Q (.exit n) t h):SW P r N (.exit n) t h Q:=⟨fun c hc k=>by
 cases hc with
 | exit=>exact ends_one (x:=.exit n) (fun K a w hk=>wpIn_exit hk) hq⟩
theorem SW.ret (hq:Q .ret t h):SW P r N .ret t h Q:=⟨fun c hc k=>by
 cases hc with
 | ret=>exact ends_one (x:=.ret) (fun K a w hk=>wpIn_ret hk) hq⟩
theorem SW.seq {a b:Sc} (hs:SW P r N a t h (andN (fun t h=>SW P r N b t h Q) Q)):SW P r N (.seq a b) t h Q:=⟨fun c hc k=>by
 cases hc with
 | seq ha hb=>exact fun lo A w ac K hm ht hd hK=>wpIn_seq (ends_then (hs.run _ ha k) (fun t h h2=>h2.run _ hb k) lo A w ac K hm ht hd hK)⟩
theorem SW.cond {x:Rd} {a b:Sc} {v:Bool} (hv:x.val t=.b v) (h1:v=true→SW P r N a t h Q) (h2:v=false→SW P r N b t h Q):SW P r N (.cond x a b) t h Q:=⟨fun c hc k=>by
 cases hc with
 | cond hr ha hb =>
  intro lo A w ac K hm ht hd hK
  have hrel:=rd_rel ht hr
  rw[hv]at hrel
  cases v with
  | true=>exact wpIn_cond hrel.of_b ((h1 rfl).run _ ha k lo A w ac K hm ht hd hK)
  | false=>exact wpIn_cond hrel.of_b ((h2 rfl).run _ hb k lo A w ac K hm ht hd hK)⟩
def catch_ (id:Nat):Ex→Ex
 | .exit j=>if j=id then .normal else .exit j
 | x=>x
theorem SW.block {id:Nat} {b:Sc} (hs:SW P r N b t h fun x t h=>Q (catch_ id x) t h):SW P r N (.block id b) t h Q:=⟨fun c hc k=>by
 cases hc with
 | block hb =>
  intro lo A w ac K hm ht hd hK
  refine wpIn_block (hs.run _ hb k lo A w ac _ hm ht hd fun q hq a' w' hr=>?_)
  have h3:=hK ⟨catch_ id q.x,q.t,q.h⟩ hq a' w' hr
  cases hx:q.x with
  | normal=>rw[hx]at h3;exact h3
  | ret=>rw[hx]at h3;exact h3
  | exit i =>
   rw[hx]at h3
   show if i=id then K .normal a' w' else K (.exit i) a' w'
   have h3:K (exitOf (if i=id then .normal else .exit i)) a' w':=h3
   by_cases e:i=id
   ·rw[if_pos e]at h3
    rw[if_pos e]
    exact h3
   ·rw[if_neg e]at h3
    rw[if_neg e]
    exact h3⟩
theorem SW.scope {b:Sc} (hs:SW P r N b t h Q):SW P r N (.scope b) t h Q:=⟨fun c hc k=>by
 cases hc with
 | scope hb =>
  intro lo A w ac K hm ht hd hK
  refine wpIn_scope (hs.run _ hb k lo A w ac _ hm ht hd fun q hq a' w' hr=>?_)
  have h3:=hK q hq a' w' hr
  cases hx:q.x <;> (rw[hx]at h3;exact h3)⟩
theorem SW.region {l:List So} (hs:wpL P l t h fun t h=>Q .normal t h):SW P r N (.region l) t h Q:=⟨fun c hc k=>by
 cases hc with
 | region hl=>exact fun lo A w a K hm ht hd hK=>wpIn_region_list (wpL_to _ l t h _ hl hs lo r k A w a K hm ht hd fun t' h' hq a' w' hr=>hK ⟨.normal,t',h'⟩ hq a' w' hr)⟩
theorem loop_ends {b:Code} {s:Sc} (hb:ScOf P N b s) (I:Nat→Tr V→H→Prop) (hI:∀m t h,I m t h→SW P r N s t h (andN (fun t' h'=>∃m',m'<m∧I m' t' h') Q)) (k:Nat) :
  ∀(n m:Nat) (t:Tr V) (h:H),m<n→I m t h→Ends N t h Q (fun K a w=>Code.roundsIn (Wide r) k P b K n a w)
 | 0,m,t,h,hm,hi=>absurd hm (Nat.not_lt_zero _)
 | n+1,m,t,h,hm,hi=>ends_then (next:=fun K a w=>Code.roundsIn (Wide r) k P b K n a w) ((hI m t h hi).run b hb k) fun t' h' ⟨m',hlt,hi'⟩=>loop_ends hb I hI k n m' t' h' (by omega) hi'
theorem SW.loop {b:Sc} (I:Nat→Tr V→H→Prop) (m:Nat) (h0:I m t h) (hI:∀m t h,I m t h→SW P r N b t h (andN (fun t' h'=>∃m',m'<m∧I m' t' h') Q)):SW P r N (.loop b) t h Q:=⟨fun c hc k=>by
 cases hc with
 | loop hb=>exact fun lo A w a K hm ht hd hK=>wpIn_loop_rounds (m+1) (loop_ends hb I hI k (m+1) m t h (Nat.lt_succ_self m) h0 lo A w a K hm ht hd hK)⟩
/-! ### Functions -/
inductive Rx where
 | t (k:Nat)
 | c (op:Top)
def rxB (P:Program):ResultVar→Option Rx
 | .tmp k=>some (.t k)
 | .cell a ty=>ob (opT P (.load ty (.tmp a))) fun top=>some (.c top)
def resT (P:Program) (l:List ResultVar):Option (List Rx):=mapO (rxB P) l
def Rx.val (t:Tr V) (h:H):Rx→Option V
 | .t k=>some (orU (t.get k))
 | .c op=>ob (tdo noC op t h) fun p=>some p.1
def retV (t:Tr V) (h:H) (ks:List Rx):Option V:=ob (mapO (Rx.val t h) ks) fun l=>match l with
 | []=>some .u
 | [v]=>some v
 | l=>some (.tup l)
theorem rxB_ok {x:ResultVar} {k:Rx} (hx:rxB P x=some k):∃f,resB P x=some f∧∀t h v,Rx.val t h k=some v→f t h=some v:=by
 cases x with
 | tmp n =>
  injection hx with hx
  subst hx
  refine⟨_,rfl,fun t h v hv=>?_⟩
  show orr (Tr.getP (path n) t) (some V.u) (fun v=>some v)=_
  rw[Tr.getP_path]
  rw[show orr (t.get n) (some V.u) (fun v=>some v)=some (orU (t.get n)) by cases t.get n <;> rfl]
  exact hv
 | cell a ty =>
  obtain⟨top,ht,hx⟩:=ob_some hx
  injection hx with hx
  subst hx
  obtain⟨f,hf,hs⟩:=opT_same ht
  have hf:loadB P ty (.t a)=some f:=hf
  refine⟨_,by show ob (loadB P ty (.t a)) _=_;rw[hf];rfl,fun t h v hv=>?_⟩
  obtain⟨p,hp,hv⟩:=ob_some hv
  injection hv with hv
  subst hv
  show(match f.f noC t h tell with | some [⟨_,.n _ v _,_⟩]=>v | _=>none)=_
  rw[hs,hp]
  rfl
theorem resT_ok:∀(l:List ResultVar) (ks:List Rx),resT P l=some ks→∃fs,mapO (resB P) l=some fs∧∀t h vs,mapO (Rx.val t h) ks=some vs→mapO (fun f:Tr V→H→Option V=>f t h) fs=some vs
 | [],ks,h=>by
  injection h with h
  subst h
  exact⟨[],rfl,fun _ _ _ h=>h⟩
 | x :: l,ks,h=>by
  obtain⟨k,ks',hk,hks,rfl⟩:=mapO_cons h
  obtain⟨f,h1,h2⟩:=rxB_ok hk
  obtain⟨fs,h3,h4⟩:=resT_ok l ks' hks
  refine⟨f :: fs,by rw[mapO_c,h1,ob_s,h3];rfl,fun t h vs hv=>?_⟩
  obtain⟨v,vs',h5,h6,rfl⟩:=mapO_cons hv
  rw[mapO_c,h2 _ _ _ h5,ob_s,h4 _ _ _ h6]
  rfl
theorem Fn.ofc {f:FuncId} {fn:Func} {c:Code} {ks:List Rx} {args:List V} {h:H} {R:V→H→Prop} (hfn:P.funcs[f]?=some fn) (hname:(fn.name == "runtime.NumGoroutine")=false) (hc:fn.body=some c) (hr:resT P fn.results.toList=some ks)
  (hle:args.length≤fn.ntmps) (hw:∀k,Ends fn.ntmps (Tr.putsL args .e 0) h (fun x t h=>(x=.normal∨x=.ret)∧∃v,retV t h ks=some v∧R v h) (fun K a w=>c.wpIn (Wide none) k P K a w)):Fn P f args h R:=by
 refine⟨fun xs w=>Go.MuLone.run_callFunc_enter hfn hname hc xs w,fun A w xs hm hrel=>(callsIn_wide (n:=0)).1 (callsIn_of_wp_marks (F:=Wide none) hfn hc trivial ?_)⟩
 obtain⟨fs,h4,h5⟩:=resT_ok (P:=P) _ _ hr
 refine hw 0 w.heap.size A w _ _ hm (trel_args hrel hle) (.nil (Nat.le_refl _)) fun q hq a' w' hres=>?_
 obtain⟨h2,v,hv,h3⟩:=hq
 obtain⟨A',hev,ht',hd'⟩:=hres
 obtain⟨vs,hvs,hv⟩:=ob_some hv
 have hrv:resultsV fs q=some (v,q.h):=by
  unfold resultsV
  rw[h5 _ _ _ hvs]
  rcases h2 with h2 | h2 <;> rw[h2] <;> (match vs,hv with
   | [],hv=>injection hv with hv;subst hv;rfl
   | [w],hv=>injection hv with hv;subst hv;rfl
   | _ :: _ :: _,hv=>injection hv with hv;subst hv;rfl)
 have key:LeavesInM (Wide none) 0 P fn a'.tmps (fun e w'=>∃x',e=Ending.returned x'∧∃v h',Post A h w v h' x' w'∧R v h') a'.defers .returning w':=leaves (fun w2 hev2=>by
  obtain⟨_,_,y,hy,hrel'⟩:=resultsV_ok hev2.mt ht' h4 hrv
  exact⟨y,hy,y,rfl,_,_,⟨A',hev2,hrel'⟩,h3⟩) a'.defers w' hev hd'
 rcases h2 with hox | hox <;> rw[hox] <;> exact key
theorem Fn.of {f:FuncId} {fn:Func} {c:Code} {s:Sc} {ks:List Rx} {args:List V} {h:H} {R:V→H→Prop} (hfn:P.funcs[f]?=some fn) (hname:(fn.name == "runtime.NumGoroutine")=false) (hc:fn.body=some c) (hs:scB P fn.ntmps c=some s) (hr:resT P fn.results.toList=some ks)
  (hle:args.length≤fn.ntmps) (hw:SW P none fn.ntmps s (Tr.putsL args .e 0) h fun x t h=>(x=.normal∨x=.ret)∧∃v,retV t h ks=some v∧R v h):Fn P f args h R:=Fn.ofc hfn hname hc hr hle (hw.run c (scB_of c s hs))
end
end
noncomputable section
def tv (t:Tr V) (k:Nat):V:=orU (t.get k)
theorem tv_set (t:Tr V) (d k:Nat) (v:V):tv (t.set d (some v)) k=if k=d then v else tv t k:=by
 unfold tv
 rw[Tr.get_set]
 split <;> rfl
theorem tv_puts (l:List V) (k:Nat):tv (Tr.putsL l .e 0) k=(l[k]?).getD .u:=by
 unfold tv
 rw[Tr.get_putsL]
 by_cases h:k<l.length
 ·rw[if_pos ⟨Nat.zero_le _,by omega⟩,Nat.sub_zero,List.getElem?_eq_getElem h]
  rfl
 ·rw[if_neg (by omega),List.getElem?_eq_none (by omega)]
  rfl
theorem want_n (t:Tr V):wantK t none=true:=rfl
theorem want_s (t:Tr V) (d:Nat) (w:Bool):wantK t (some (d,w))=match tv t d with | .b x=>x == w | _=>false:=by
 show(match Tr.getP (path d) t with | some (.b x)=>x == w | _=>false)=_
 rw[Tr.getP_path]
 unfold tv
 cases t.get d with
 | none=>rfl
 | some v=>cases v <;> rfl
theorem smalls_tv (t:Tr V) (us:List Nat) (k:Nat):tv (smalls t us .e) k=if k∈us then tv t k else .u:=smalls_get t us k
/-! ### Memory, cell by cell -/
def _root_.Go.Proofs.YtkcdehffcddciaaGreatDoor.Vm.H.cell (h:H) (b o:Nat):Option V:=match h.t.get b with
 | some (.cells _ hi _ c)=>if o<hi then c.get o else none
 | some (.ro _ _ hi c)=>if o<hi then c.get o else none
 | _=>none
theorem rowR_cell {β:Type} (h:H) (b o:Nat) (K:V→Option β):(rowR h b fun _ hi c=>bb (Nat.blt o hi) (ob (c.get o) K))=ob (h.cell b o) K:=by
 have key:∀(hi:Nat) (c:Tr V),bb (Nat.blt o hi) (ob (c.get o) K)=ob (if o<hi then c.get o else none) K:=fun hi c=>by
  by_cases hlt:o<hi
  ·rw[if_pos hlt,blt_iff.2 hlt];rfl
  ·rw[if_neg hlt,show Nat.blt o hi=false by cases hb:Nat.blt o hi with | false=>rfl | true=>exact absurd (blt_iff.1 hb) hlt];rfl
 unfold rowR H.cell
 cases h.t.get b with
 | none=>rfl
 | some x =>
  cases x with
  | cells e hi p c=>exact key hi c
  | ro pin e hi c=>exact key hi c
  | _=>rfl
theorem tdo_ld (C:CallF) (a:Rd) (t:Tr V) (h:H):tdo C (.ld a) t h=match a.val t with | .p b o=>ob (h.cell b o) fun v=>some (v,h) | _=>none:=by
 simp only[tdo]
 cases a.val t with
 | p b o=>exact rowR_cell h b o _
 | _=>rfl
def rowC (h:H) (b:Nat):Nat→Nat→Option (List V)
 | 0,_=>some []
 | n+1,o=>ob (h.cell b o) fun v=>ob (rowC h b n (o+1)) fun l=>some (v :: l)
theorem rowC_load {h:H} {b e hi:Nat} {c:Tr V} (hc:∀o,h.cell b o=if o<hi then c.get o else none):∀(n o:Nat) (l:List V),rowC h b n o=some l→loadN c n o=some l∧(0<n→o+n≤hi)
 | 0,o,l,hl=>by
  injection hl with hl
  subst hl
  exact⟨rfl,fun h=>by omega⟩
 | n+1,o,l,hl=>by
  obtain⟨v,hv,hl⟩:=ob_some hl
  obtain⟨q,hq,hl⟩:=ob_some hl
  injection hl with hl
  subst hl
  rw[hc]at hv
  split at hv
  ·rename_i hlt
   obtain⟨h1,h2⟩:=rowC_load (e:=e) hc n (o+1) q hq
   refine⟨by rw[loadN_c,hv,ob_s,h1];rfl,fun _=>?_⟩
   rcases Nat.eq_zero_or_pos n with h3 | h3
   ·omega
   ·have:=h2 h3;omega
  ·cases hv
theorem tdo_lds {C:CallF} {a:Rd} {n:Nat} {t:Tr V} {h:H} {b o:Nat} {l:List V} (ha:a.val t=.p b o) (hn:0<n) (hl:rowC h b n o=some l):tdo C (.lds a n) t h=some (.agg l,h):=by
 simp only[tdo,ha]
 show loadRow h b o n _=_
 unfold loadRow rowR
 have hc:∃e hi c,(∃x,h.t.get b=some x∧((∃p,x=.cells e hi p c)∨∃pin,x=.ro pin e hi c))∧∀o,h.cell b o=if o<hi then c.get o else none:=by
  cases hb:h.t.get b with
  | none =>
   have h0:h.cell b o=none:=by unfold H.cell;rw[hb]
   obtain⟨m,rfl⟩:∃m,n=m+1:=⟨n-1,by omega⟩
   obtain⟨v,hv,_⟩:=ob_some hl
   rw[h0]at hv
   cases hv
  | some x =>
   have key:(∃e hi c,(∃p,x=.cells e hi p c)∨∃pin,x=.ro pin e hi c):=by
    cases x with
    | cells e hi p c=>exact⟨e,hi,c,.inl ⟨p,rfl⟩⟩
    | ro pin e hi c=>exact⟨e,hi,c,.inr ⟨pin,rfl⟩⟩
    | _ =>
     have h0:h.cell b o=none:=by unfold H.cell;rw[hb]
     obtain⟨m,rfl⟩:∃m,n=m+1:=⟨n-1,by omega⟩
     obtain⟨v,hv,_⟩:=ob_some hl
     rw[h0]at hv
     cases hv
   obtain⟨e,hi,c,hx⟩:=key
   refine⟨e,hi,c,⟨x,rfl,hx⟩,fun o=>?_⟩
   unfold H.cell
   rw[hb]
   rcases hx with⟨p,rfl⟩ | ⟨pin,rfl⟩ <;> rfl
 obtain⟨e,hi,c,⟨x,hx,hk⟩,hcell⟩:=hc
 obtain⟨h1,h2⟩:=rowC_load (e:=e) hcell n o l hl
 have h3:=Nat.ble_eq_true_of_le (h2 hn)
 rw[hx]
 rcases hk with⟨p,rfl⟩ | ⟨pin,rfl⟩
 ·show bb (Nat.ble (o+n) hi) (ob (loadN c n o) _)=_
  rw[h3,h1];rfl
 ·show bb (Nat.ble (o+n) hi) (ob (loadN c n o) _)=_
  rw[h3,h1];rfl
/-! ### One operation at a time -/
section
variable {P:Program} {s:So} {l:List So} {t:Tr V} {h h':H} {v:V} {Q:Tr V→H→Prop}
theorem doP_of {op:Top} {R:V→H→Prop} (hd:tdo noC op t h=some (v,h')) (hr:R v h'):doP P op t h R:=by
 have hf:op.far=false:=by
  cases op <;> first | rfl | skip
  ·cases hd
  ·simp only[tdo]at hd
   split at hd <;> cases hd
  ·cases hd
 rw[doP_near hf,hd]
 exact hr
end
theorem asN_cast {β:Type} (k:IntKind) (n:Nat) (K:Nat→Option β):asN (.i k (n:Int)) K=K n:=rfl
theorem bb_if {β:Type} {c:Bool} (hc:c=true) (x:Option β):bb c x=x:=by rw[hc];rfl
theorem blt_t {a b:Nat} (h:a<b):Nat.blt a b=true:=blt_iff.2 h
theorem ble_t {a b:Nat} (h:a≤b):Nat.ble a b=true:=Nat.ble_eq_true_of_le h
def fnB (P:Program) (f:FuncId):Option (Nat × Sc × List Rx):=ob P.funcs[f]? fun fn=>ob fn.body fun c=>bb (!(fn.name == "runtime.NumGoroutine")) (ob (scB P fn.ntmps c) fun s=>ob (resT P fn.results.toList) fun ks=>some (fn.ntmps,s,ks))
theorem Fn.at {P:Program} {f:FuncId} {n:Nat} {s:Sc} {ks:List Rx} (hf:fnB P f=some (n,s,ks)) {args:List V} {h:H} {R:V→H→Prop} (hle:Nat.ble args.length n=true) (hw:SW P none n s (Tr.putsL args .e 0) h fun x t h=>(x=.normal∨x=.ret)∧∃v,retV t h ks=some v∧R v h):Fn P f args h R:=by
 obtain⟨fn,h1,hf⟩:=ob_some hf
 obtain⟨c,h2,hf⟩:=ob_some hf
 obtain⟨h3,hf⟩:=bb_some hf
 obtain⟨s',h4,hf⟩:=ob_some hf
 obtain⟨ks',h5,hf⟩:=ob_some hf
 injection hf with hf
 injection hf with hf1 hf
 injection hf with hf2 hf3
 subst hf1 hf2 hf3
 exact Fn.of h1 (by simpa using h3) h2 h4 h5 (Nat.le_of_ble_eq_true hle) hw
end
end Go.Proofs.YtkcdehffcddciaaGreatDoor.Vm
