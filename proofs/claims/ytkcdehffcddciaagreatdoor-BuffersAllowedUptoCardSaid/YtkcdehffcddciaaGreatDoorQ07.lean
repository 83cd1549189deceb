/- The small machine's operations do what the model's do: calls; all operations. -/
import Derived.Test.YtkcdehffcddciaaGreatDoorQ06
import Derived.Conc.MuLone
import Derived.TacticsIn
namespace Go.Proofs.YtkcdehffcddciaaGreatDoor.Vm
open Go Go.RowKit
structure CallOk (P:Program) (C:CallF):Prop where
 f:∀(f:FuncId) (args:List V) (h:H) (r:V × H),C (.f f) args h=some r→(∀(xs:Array Value) (w:World),(callFunc f xs).run P w=.ok (.enter f xs) w) ∧
  ∀(A:Sub) (w:World) (xs:List Value),Mt A h w→RelL A h.next args xs→Calls P f xs.toArray w fun e w'=>∃x,e=.returned x∧Post A h w r.1 r.2 x w'
 y:∀(b:Nat) (args:List V) (h:H) (r:V × H),C (.y b) args h=some r→∀(A:Sub) (w:World) (xs:List Value),Mt A h w→RelL A h.next args xs →
  ∃fn tmps assign body,(Instr.yield (A.ι b) xs.toArray).run P w=.ok (.round (A.ι b) fn tmps assign body) w∧∀(k:Option Nat) (n:Nat),RoundIn (Wide k) n P (A.ι b) fn tmps assign body w fun e w'=>∃x,e=.returned x∧Post A h w r.1 r.2 x w'
section
variable {P:Program} {C:CallF} {β:Type}
theorem mapO2 {α γ:Type} {f:α→Option γ} {l:List α} {x y:γ} (h:mapO f l=some [x,y]):∃a b,l = [a,b]∧f a=some x∧f b=some y:=by
 cases l with
 | nil=>cases mapO_nil h
 | cons a l =>
  obtain⟨u9,q,h1,h2,h3⟩:=mapO_cons h
  injection h3 with h3 h4
  subst h3 h4
  cases l with
  | nil=>cases mapO_nil h2
  | cons b l =>
   obtain⟨u9,q,h3,h4,h5⟩:=mapO_cons h2
   injection h5 with h5 h6
   subst h5 h6
   cases l with
   | nil=>exact⟨a,b,rfl,h1,h3⟩
   | cons c l =>
    obtain⟨_,_,_,_,h⟩:=mapO_cons h4
    cases h
theorem mapO1 {α γ:Type} {f:α→Option γ} {l:List α} {x:γ} (h:mapO f l=some [x]):∃a,l = [a]∧f a=some x:=by
 cases l with
 | nil=>cases mapO_nil h
 | cons a l =>
  obtain⟨u9,q,h1,h2,h3⟩:=mapO_cons h
  injection h3 with h3 h4
  subst h3 h4
  cases l with
  | nil=>exact⟨a,rfl,h1⟩
  | cons b l =>
   obtain⟨_,_,_,_,h⟩:=mapO_cons h2
   cases h
theorem arr_of {α:Type} {a:Array α} {l:List α} (h:a.toList=l):a=l.toArray:=by subst h;simp
theorem callB_value {c:Call} {f:Operand} {rf:Rd} {args:List Rd} (hC:CallOk P C) (hcal:c.callee=.value f) (ha:mapO rdB c.args.toList=some args) (hf:rdB f=some rf):OpOk P C (.call c) ⟨fun C t h K=>ob (rdL t args) fun args=>rdK t rf fun f=>match f with
   | .fn (.func f) first cap=>ob (C (.f f) (first++(args++cap)) h) fun r=>K r.1 r.2
   | .y b=>ob (C (.y b) args h) fun r=>K r.1 r.2
   | _=>none⟩:=by
 intro o ho A h w N t a K q hm ht hk
 obtain⟨vs,hvs,hk⟩:=ob_some hk
 simp only[rdK_eq]at hk
 have hrf:=rd_rel ht hf
 have hargs:=rdL_some ht _ _ _ ha hvs
 split at hk
 ·rename_i g first cap hv
  obtain⟨r,hr,hk⟩:=ob_some hk
  rw[hv]at hrf
  obtain⟨xs,ys,h1,h2,h3⟩:=hrf.of_fn
  obtain⟨h4,h5⟩:=hC.f _ _ _ _ hr
  have h6:=h5 A w _ hm (h2.append (hargs.append h3))
  refine⟨_,_,hk,.enter (w':=w) (f:=g) (args:=(xs.toList++(c.args.toList.map a.eval++ys.toList)).toArray) ?_ h6⟩
  have e:(xs++c.args.map a.eval)++ys=(xs.toList++(c.args.toList.map a.eval++ys.toList)).toArray:=by
   apply arr_of
   simp
  simp only[execOp,ho,resolve,hcal,h1,Deferred.ofValue,Sem.run_bind,Sem.run_pure,Result.andThen_ok,invoke,e,h4]
 ·rename_i b hv
  obtain⟨r,hr,hk⟩:=ob_some hk
  rw[hv]at hrf
  obtain⟨h1,_⟩:=hrf.of_y
  obtain⟨fn,tmps,assign,body,h2,h3⟩:=hC.y _ _ _ _ hr A w _ hm hargs
  refine⟨_,_,hk,.round (w':=w) ?_ h3⟩
  have e:#[]++c.args.map a.eval=(c.args.toList.map a.eval).toArray:=by
   apply arr_of
   simp
  simp only[execOp,ho,resolve,hcal,h1,Deferred.ofValue,Sem.run_bind,Sem.run_pure,Result.andThen_ok,invoke,e,h2]
 ·cases hk
theorem method_run {t:TypeId} {name:String} {f:FuncId} {v:Value} {w:World} (h:methodV P t name=some f):(method (P.types.size+Made.depth) t v name).run P w=.ok (f,v) w:=by
 unfold methodV at h
 obtain⟨i,hi,h⟩:=ob_some h
 obtain⟨m,hm,h⟩:=ob_some h
 obtain⟨hp,h⟩:=bb_some h
 split at h
 ·rename_i g e hf hu
  injection h with h
  subst h
  have hp:m.path=#[]:=by simpa using hp
  rw[show P.types.size+Made.depth=(P.types.size+99)+1 from rfl]
  generalize P.types.size+99=n
  simp only[method,Sem.run_bind,typeInfo,run_program,Result.andThen_ok,hi,Sem.run_pure,hm,hp,Array.toList_empty,follow,hf,receiverAt,run_und hu,Place.get]
 ·cases h
theorem callB_invoke {c:Call} {r:Operand} {rr:Rd} {name:String} {args:List Rd} (hC:CallOk P C) (hcal:c.callee=.invoke r name) (ha:mapO rdB c.args.toList=some args) (hr:rdB r=some rr):OpOk P C (.call c) ⟨fun C t h K=>ob (rdL t args) fun args=>rdK t rr fun r=>match r with
   | .iface ty v=>ob (methodV P ty name) fun f=>ob (C (.f f) (v :: args) h) fun r=>K r.1 r.2
   | _=>none⟩:=by
 intro o ho A h w N t a K q hm ht hk
 obtain⟨vs,hvs,hk⟩:=ob_some hk
 simp only[rdK_eq]at hk
 have hrr:=rd_rel ht hr
 have hargs:=rdL_some ht _ _ _ ha hvs
 split at hk
 ·rename_i ty v hv
  obtain⟨g,hg,hk⟩:=ob_some hk
  obtain⟨r',hr',hk⟩:=ob_some hk
  rw[hv]at hrr
  obtain⟨y,h1,h2⟩:=hrr.of_iface
  obtain⟨h4,h5⟩:=hC.f _ _ _ _ hr'
  have h6:=h5 A w _ hm (.cons _ _ _ _ h2 hargs)
  refine⟨_,_,hk,.enter (w':=w) (f:=g) (args:=(y :: c.args.toList.map a.eval).toArray) ?_ h6⟩
  have e0:(#[Value.iface ty y]++c.args.map a.eval)[0]?=some (.iface ty y):=by rw[Array.getElem?_append_left (by simp)];rfl
  have e:#[y]++(#[Value.iface ty y]++c.args.map a.eval).extract 1 (#[Value.iface ty y]++c.args.map a.eval).size=(y :: c.args.toList.map a.eval).toArray:=by
   apply arr_of
   simp[List.extract_eq_take_drop]
   exact List.take_of_length_le (by simp)
  simp only[execOp,ho,resolve,hcal,h1,Sem.run_bind,Sem.run_pure,Result.andThen_ok,invoke,e0,callMethod,run_program,method_run hg]
  rw[e,h4]
 ·cases hk
theorem call_builtin {c:Call} {b:Builtin} {o:Oper} {a:Act} {w w':World} {x:Value} (ho:o.op=.call c) (hcal:c.callee=.builtin b) (h:(builtin b c.argTypes o.type (c.args.map fun | .const _=>true | _=>false) (c.args.map a.eval)).run P w=.ok (.value x) w') :
  (execOp a.eval o).run P w=.ok (.value x) w':=by
 simp only[execOp,ho,resolve,hcal,Sem.run_bind,Sem.run_pure,Result.andThen_ok,invoke]
 exact h
theorem foldI_min {A:Sub} {n:Nat} {k:IntKind} {w:World}:∀(l:List V) (xs:List Value) (m r:Int),RelL A n l xs→foldI (fun a c=>if c<a then c else a) k m l=some r→(xs.foldlM Builtin.min2 (.int k m)).run P w=.ok (.int k r) w
 | [],xs,m,r,hl,h=>by
  cases hl
  injection h with h
  subst h
  rfl
 | v :: l,xs,m,r,hl,h=>by
  cases hl with
  | cons _ x _ xs h1 h2 =>
   cases v <;> simp only[foldI]at h <;> first | cases h | skip
   obtain⟨hk,h3⟩:=bb_some h
   clear h
   have hk:=of_decide_eq_true hk
   subst hk
   rw[fI_eq]at h3
   obtain rfl:=h1.of_i
   rw[List.foldlM_cons]
   simp only[Sem.run_bind,Builtin.min2,Sem.run_pure,Result.andThen_ok]
   exact foldI_min l xs _ r h2 h3
theorem foldI_max {A:Sub} {n:Nat} {k:IntKind} {w:World}:∀(l:List V) (xs:List Value) (m r:Int),RelL A n l xs→foldI (fun a c=>if c > a then c else a) k m l=some r→(xs.foldlM Builtin.max2 (.int k m)).run P w=.ok (.int k r) w
 | [],xs,m,r,hl,h=>by
  cases hl
  injection h with h
  subst h
  rfl
 | v :: l,xs,m,r,hl,h=>by
  cases hl with
  | cons _ x _ xs h1 h2 =>
   cases v <;> simp only[foldI]at h <;> first | cases h | skip
   obtain⟨hk,h3⟩:=bb_some h
   clear h
   have hk:=of_decide_eq_true hk
   subst hk
   rw[fI_eq]at h3
   obtain rfl:=h1.of_i
   rw[List.foldlM_cons]
   simp only[Sem.run_bind,Builtin.max2,Sem.run_pure,Result.andThen_ok]
   exact foldI_max l xs _ r h2 h3
theorem callB_min {c:Call} {rx:Rd} {l:List Rd} (hcal:c.callee=.builtin .min) (ha:mapO rdB c.args.toList=some (rx :: l)):OpQ P C (.call c) ⟨fun _ t h K=>rdK t rx fun x=>asI x fun k a=>ob (rdL t l) fun l=>ob (foldI (fun a c=>if c<a then c else a) k a l) fun a=>K (.i k a) h⟩:=by
 intro o ho A h w N t a K q hm ht hk
 simp only[rdK_eq]at hk
 obtain⟨k,m,h1,hk⟩:=asI_some hk
 obtain⟨vs,h2,hk⟩:=ob_some hk
 obtain⟨r,h3,hk⟩:=ob_some hk
 have hargs:=rdL_some ht _ _ (.i k m :: vs) ha (by rw[rdL_c,rdK_eq,h1,h2];rfl)
 have h4:c.args.map a.eval=(c.args.toList.map a.eval).toArray:=arr_of (by simp)
 generalize c.args.toList.map a.eval=xs at hargs h4
 cases hargs with
 | cons _ x _ xs h5 h6 =>
  obtain rfl:=h5.of_i
  refine⟨_,hk,_,(call_builtin ho hcal ?_),(.i _ _)⟩
  rw[h4]
  simp only[builtin,Builtin.min_,Sem.run_bind,foldI_min (P:=P) (w:=w) vs xs m r h6 h3,Result.andThen_ok,Sem.run_pure]
theorem callB_max {c:Call} {rx:Rd} {l:List Rd} (hcal:c.callee=.builtin .max) (ha:mapO rdB c.args.toList=some (rx :: l)):OpQ P C (.call c) ⟨fun _ t h K=>rdK t rx fun x=>asI x fun k a=>ob (rdL t l) fun l=>ob (foldI (fun a c=>if c > a then c else a) k a l) fun a=>K (.i k a) h⟩:=by
 intro o ho A h w N t a K q hm ht hk
 simp only[rdK_eq]at hk
 obtain⟨k,m,h1,hk⟩:=asI_some hk
 obtain⟨vs,h2,hk⟩:=ob_some hk
 obtain⟨r,h3,hk⟩:=ob_some hk
 have hargs:=rdL_some ht _ _ (.i k m :: vs) ha (by rw[rdL_c,rdK_eq,h1,h2];rfl)
 have h4:c.args.map a.eval=(c.args.toList.map a.eval).toArray:=arr_of (by simp)
 generalize c.args.toList.map a.eval=xs at hargs h4
 cases hargs with
 | cons _ x _ xs h5 h6 =>
  obtain rfl:=h5.of_i
  refine⟨_,hk,_,(call_builtin ho hcal ?_),(.i _ _)⟩
  rw[h4]
  simp only[builtin,Builtin.max_,Sem.run_bind,foldI_max (P:=P) (w:=w) vs xs m r h6 h3,Result.andThen_ok,Sem.run_pure]
theorem callB_len {c:Call} {rx:Rd} {f:Fx} (hcal:c.callee=.builtin .len) (ha:mapO rdB c.args.toList=some [rx]) (h:(match c.argTypes.toList with
    | [ty]=>match P.underlying ty with
     | some (.slice _)=>some ⟨fun _ t h K=>rdK t rx fun x=>match x with
      | .sl _ _ n _ _ _=>K (.i .i64 (.ofNat n)) h
      | .ns=>K (.i .i64 (.ofNat 0)) h
      | .se=>K (.i .i64 (.ofNat 0)) h
      | _=>none⟩
     | some .string=>some ⟨fun _ t h K=>rdK t rx fun x=>match x with
      | .s x=>mkI .i64 x.size fun v=>K v h
      | _=>none⟩
     | _=>none
    | _=>none)=some f):OpQ P C (.call c) f:=by
 obtain⟨x,hx,hrx⟩:=mapO1 ha
 split at h
 ·rename_i ty hty
  have hty:=arr_of hty
  split at h
  ·rename_i e hu
   injection h with h
   subst h
   intro o ho A h w N t a K q hm ht hk
   have hr:=rd_rel ht hrx
   simp only[rdK_eq]at hk
   split at hk
   ·rename_i hv
    rw[hv]at hr
    obtain⟨c',off,h1,_⟩:=hr.of_sl
    refine⟨_,hk,_,call_builtin ho hcal ?_,.i _ _⟩
    simp[builtin,Builtin.len_,hty,arr_of hx,h1,run_und hu,goInt]
   ·rename_i hv
    rw[hv]at hr
    have h1:=hr.of_ns
    refine⟨_,hk,_,call_builtin ho hcal ?_,.i _ _⟩
    simp[builtin,Builtin.len_,hty,arr_of hx,h1,run_und hu,goInt]
   ·rename_i hv
    rw[hv]at hr
    obtain⟨ad,c',h1⟩:=hr.of_se
    refine⟨_,hk,_,call_builtin ho hcal ?_,.i _ _⟩
    simp[builtin,Builtin.len_,hty,arr_of hx,h1,run_und hu,goInt]
   ·cases hk
  ·rename_i hu
   injection h with h
   subst h
   intro o ho A h w N t a K q hm ht hk
   have hr:=rd_rel ht hrx
   simp only[rdK_eq]at hk
   split at hk
   ·rename_i s hv
    rw[hv]at hr
    have h1:=hr.of_s
    rw[mkI_eq]at hk
    refine⟨_,hk,_,call_builtin ho hcal ?_,.i _ _⟩
    simp[builtin,Builtin.len_,hty,arr_of hx,h1,run_und hu,goInt]
   ·cases hk
  ·cases h
 ·cases h
theorem callB_cap {c:Call} {rx:Rd} {f:Fx} (hcal:c.callee=.builtin .cap) (ha:mapO rdB c.args.toList=some [rx]) (h:(match c.argTypes.toList with
    | [ty]=>match P.underlying ty with
     | some (.slice _)=>some ⟨fun _ t h K=>rdK t rx fun x=>match x with
      | .sl _ _ _ n true _=>K (.i .i64 (.ofNat n)) h
      | .ns=>K (.i .i64 (.ofNat 0)) h
      | _=>none⟩
     | _=>none
    | _=>none)=some f):OpQ P C (.call c) f:=by
 obtain⟨x,hx,hrx⟩:=mapO1 ha
 split at h
 ·rename_i ty hty
  have hty:=arr_of hty
  split at h
  ·rename_i e hu
   injection h with h
   subst h
   intro o ho A h w N t a K q hm ht hk
   have hr:=rd_rel ht hrx
   simp only[rdK_eq]at hk
   split at hk
   ·rename_i hv
    rw[hv]at hr
    obtain⟨c',off,h1,_,h2,_⟩:=hr.of_sl
    have h2:=h2 rfl
    subst h2
    refine⟨_,hk,_,call_builtin ho hcal ?_,.i _ _⟩
    simp[builtin,Builtin.cap_,hty,arr_of hx,h1,run_und hu,goInt]
   ·rename_i hv
    rw[hv]at hr
    have h1:=hr.of_ns
    refine⟨_,hk,_,call_builtin ho hcal ?_,.i _ _⟩
    simp[builtin,Builtin.cap_,hty,arr_of hx,h1,run_und hu,goInt]
   ·cases hk
  ·cases h
 ·cases h
theorem callB_quiet {c:Call} {f:Fx} (h:callB P c=some f) (hq:isE (.call c)=false):OpQ P C (.call c) f:=by
 unfold callB at h
 obtain⟨args,ha,h⟩:=ob_some h
 simp only[isE]at hq
 split at h
 ·rename_i g hcal
  rw[hcal]at hq
  cases hq
 ·rename_i r name hcal
  rw[hcal]at hq
  cases hq
 ·rename_i b hcal
  split at h
  ·exact callB_len hcal ha h
  ·exact callB_cap hcal ha h
  ·injection h with h
   subst h
   exact callB_min hcal ha
  ·injection h with h
   subst h
   exact callB_max hcal ha
  ·rw[hcal]at hq
   cases hq
  ·cases h
theorem callB_ok {c:Call} {f:Fx} (hC:CallOk P C) (h:callB P c=some f):OpOk P C (.call c) f:=by
 unfold callB at h
 obtain⟨args,ha,h⟩:=ob_some h
 split at h
 ·rename_i g hcal
  obtain⟨rg,hg,h⟩:=ob_some h
  injection h with h
  subst h
  exact callB_value hC hcal ha hg
 ·rename_i r name hcal
  obtain⟨rr,hr,h⟩:=ob_some h
  injection h with h
  subst h
  exact callB_invoke hC hcal ha hr
 ·rename_i b hcal
  split at h
  ·exact(callB_len hcal ha h).ok
  ·exact(callB_cap hcal ha h).ok
  ·injection h with h
   subst h
   exact(callB_min hcal ha).ok
  ·injection h with h
   subst h
   exact(callB_max hcal ha).ok
  ·rename_i rx ry
   obtain⟨x,y,hxy,hrx,hry⟩:=mapO2 ha
   split at h
   ·rename_i ty xt hty
    have hty:=arr_of hty
    obtain⟨e,he,h⟩:=ob_some h
    cases hex:elemB P xt with
    | none =>
     rw[hex]at h
     have h:zerosB P xt e rx ry=some f:=h
     unfold zerosB at h
     split at h
     ·rename_i jk hxt
      obtain⟨sz,hsz,h⟩:=ob_some h
      obtain⟨by_,hby,h⟩:=ob_some h
      obtain⟨z,hz,h⟩:=ob_some h
      obtain⟨h0,h⟩:=bb_some h
      obtain⟨h1,h⟩:=bb_some h
      obtain⟨h2,h⟩:=bb_some h
      injection h with h
      subst h
      intro o ho A h w N t a K q hm ht hk
      simp only[rdK_eq]at hk
      obtain⟨i,hi,hi1⟩:=sizeB_info hsz
      obtain⟨i2,hi2,hi3⟩:=bytesB_some hby
      obtain⟨i4,zx,hi4,hi5,hi6⟩:=zeroB_info hz
      rw[hi]at hi2 hi4
      injection hi2 with hi2
      injection hi4 with hi4
      subst hi2 hi4
      have hzr:∀A n,RelL A n z.cells zx.cells.toList:=fun A n=>(ofVal_rel hi6).cells
      have hzs:zx.cells.size=sz:=by
       have h3:=(hzr A h.next).length
       rw[Array.length_toList]at h3
       have h4:=Nat.eq_of_beq_eq_true h2
       omega
      obtain⟨kk,n,hv,hk⟩:=asN_some hk
      split at hk
      ·rename_i hvx
       have hr1:=rd_rel ht hrx
       have hr2:=rd_rel ht hry
       rw[hvx]at hr1
       rw[hv]at hr2
       obtain⟨v,h',x',w',h3,h4,h5⟩:=zeros_some (tq:=o.type) (k:=kk) (elem_und he) hxt hi hi5 hi1 hi3 hzs (Nat.le_of_ble_eq_true h0) (Nat.le_of_ble_eq_true h1) hzr hm hk
       refine⟨_,_,h3,.value (w':=w') (call_builtin ho hcal ?_) h5⟩
       have h4:(Builtin.append_ #[ty,xt] o.type #[a.eval x,a.eval y]).run P w=.ok x' w':=by rw[hr1.of_ns,hr2.of_i];exact h4
       simp only[builtin,hty,arr_of hxy,List.map_toArray,List.map_cons,List.map_nil,Sem.run_bind,h4,Result.andThen_ok,Sem.run_pure]
      ·cases hk
     ·cases h
    | some e' =>
    have he':=hex
    rw[hex]at h
    obtain⟨sz,hsz,h⟩:=ob_some h
    obtain⟨by_,hby,h⟩:=ob_some h
    obtain⟨z,hz,h⟩:=ob_some h
    obtain⟨h0,h⟩:=bb_some h
    obtain⟨h1,h⟩:=bb_some h
    obtain⟨h2,h⟩:=bb_some h
    injection h with h
    subst h
    intro o ho A h w N t a K q hm ht hk
    simp only[rdK_eq]at hk
    obtain⟨i,hi,hi1⟩:=sizeB_info hsz
    obtain⟨i2,hi2,hi3⟩:=bytesB_some hby
    obtain⟨i4,zx,hi4,hi5,hi6⟩:=zeroB_info hz
    rw[hi]at hi2 hi4
    injection hi2 with hi2
    injection hi4 with hi4
    subst hi2 hi4
    have hzr:RelL A h.next z.cells zx.cells.toList:=(ofVal_rel hi6).cells
    have happ:App P sz by_ e ty xt e' i zx:=⟨elem_und he,elem_und he',hi,hi5,hi1,hi3,by
     have h3:=hzr.length
     rw[Array.length_toList]at h3
     have h4:=Nat.eq_of_beq_eq_true h2
     omega,Nat.le_of_ble_eq_true h0,Nat.le_of_ble_eq_true h1⟩
    obtain⟨v,h',x',w',h3,h4,h5⟩:=appendK_some (tq:=o.type) happ hm (rd_rel ht hrx) (rd_rel ht hry) hk
    refine⟨_,_,h3,.value (w':=w') (call_builtin ho hcal ?_) h5⟩
    simp only[builtin,hty,arr_of hxy,List.map_toArray,List.map_cons,List.map_nil,Sem.run_bind,h4,Result.andThen_ok,Sem.run_pure]
   ·cases h
  ·cases h
theorem opB_ok {op:Op} {f:Fx} (hC:CallOk P C) (h:opB P op=some f):OpOk P C op f:=by
 unfold opB at h
 split at h
 ·obtain⟨rx,hx,h⟩:=ob_some h;injection h with h;subst h;exact(move_ok hx).ok
 ·obtain⟨rx,hx,h⟩:=ob_some h;injection h with h;subst h;exact(assign_ok hx).ok
 ·obtain⟨rx,hx,h⟩:=ob_some h;exact(load_ok hx h).ok
 ·obtain⟨rx,hx,h⟩:=ob_some h;obtain⟨ry,hy,h⟩:=ob_some h;obtain⟨n,hn,h⟩:=ob_some h;injection h with h;subst h;exact store_ok hx hy hn
 ·obtain⟨rx,hx,h⟩:=ob_some h;obtain⟨ry,hy,h⟩:=ob_some h;exact(bin_ok hx hy h).ok
 ·obtain⟨rx,hx,h⟩:=ob_some h;obtain⟨p,hp,h⟩:=ob_some h;obtain⟨n,hn,h⟩:=ob_some h;obtain⟨h0,h⟩:=bb_some h;injection h with h;subst h;exact(fieldAddr_ok hx hp hn (Nat.le_of_ble_eq_true h0)).ok
 ·obtain⟨ri,hi,h⟩:=ob_some h;exact(tab_ok hi h).ok
 ·obtain⟨rx,hx,h⟩:=ob_some h;obtain⟨ry,hy,h⟩:=ob_some h;exact(indexAddr_ok hx hy h).ok
 ·exact callB_ok hC h
 ·obtain⟨rx,hx,h⟩:=ob_some h;injection h with h;subst h;exact(nilCheck_ok hx).ok
 ·obtain⟨rx,hx,h⟩:=ob_some h;injection h with h;subst h;exact(extract_ok hx).ok
 ·obtain⟨rc,hc,h⟩:=ob_some h;obtain⟨rx,hx,h⟩:=ob_some h;obtain⟨ry,hy,h⟩:=ob_some h;injection h with h;subst h;exact(pick_ok hc hx hy).ok
 ·obtain⟨rx,hx,h⟩:=ob_some h
  split at h
  ·injection h with h;subst h;exact(not_ok hx).ok
  ·injection h with h;subst h;exact(neg_ok hx).ok
  ·injection h with h;subst h;exact(xor_ok hx).ok
  ·cases h
 ·obtain⟨z,hz,h⟩:=ob_some h;injection h with h;subst h;exact alloc_ok hz
 ·obtain⟨rx,hx,h⟩:=ob_some h;injection h with h;subst h;exact box_ok hx
 ·obtain⟨z,hz,h⟩:=ob_some h;exact(build_ok hz h).ok
 ·obtain⟨e,he,h⟩:=ob_some h;obtain⟨sz,hsz,h⟩:=ob_some h;obtain⟨z,hz,h⟩:=ob_some h;obtain⟨h0,h⟩:=bb_some h;obtain⟨h1,h⟩:=bb_some h;obtain⟨h2,h⟩:=bb_some h;obtain⟨ps,hps,h⟩:=ob_some h
  injection h with h;subst h
  exact buildSlice_ok he hsz hz (Nat.le_of_ble_eq_true h0) (Nat.eq_of_beq_eq_true h1) (Nat.le_of_ble_eq_true h2) hps
 ·obtain⟨rx,hx,h⟩:=ob_some h;obtain⟨ry,hy,h⟩:=ob_some h;obtain⟨e,he,h⟩:=ob_some h;obtain⟨sz,hsz,h⟩:=ob_some h;obtain⟨z,hz,h⟩:=ob_some h;obtain⟨by_,hby,h⟩:=ob_some h;obtain⟨h0,h⟩:=bb_some h;obtain⟨h1,h⟩:=bb_some h
  injection h with h;subst h
  exact makeSlice_ok hx hy he hsz hz hby (Nat.le_of_ble_eq_true h0) (Nat.eq_of_beq_eq_true h1)
 ·obtain⟨rx,hx,h⟩:=ob_some h;obtain⟨rl,hl,h⟩:=ob_some h;obtain⟨rh,hh,h⟩:=ob_some h;exact(slice2_ok hx hl hh h).ok
 ·obtain⟨rx,hx,h⟩:=ob_some h;obtain⟨rh,hh,h⟩:=ob_some h;obtain⟨rm,hm,h⟩:=ob_some h;exact(slice3_ok hx hh hm h).ok
 ·obtain⟨rx,hx,h⟩:=ob_some h;obtain⟨p,hp,h⟩:=ob_some h;obtain⟨g,hg,h⟩:=ob_some h;injection h with h;subst h;exact(field_ok hx hp hg).ok
 ·obtain⟨rx,hx,h⟩:=ob_some h;obtain⟨ri,hi,h⟩:=ob_some h;exact(index_ok hx hi h).ok
 ·obtain⟨rx,hx,h⟩:=ob_some h
  split at h
  ·injection h with h;subst h;exact(convert_ok hx (by assumption) (by assumption)).ok
  ·exact bytesOf_ok hx (by assumption) (by assumption) h
  ·exact(strOf_ok hx (by assumption) (by assumption) h).ok
  ·obtain⟨hsd,h⟩:=bb_some h;exact mark_ok hx (by assumption) (by assumption) (Nat.eq_of_beq_eq_true hsd) h
  ·cases h
 ·obtain⟨rx,hx,h⟩:=ob_some h
  split at h
  ·injection h with h;subst h;exact(makeInterface_ok hx (by assumption)).ok
  ·cases h
 ·obtain⟨rx,hx,h⟩:=ob_some h;obtain⟨ry,hy,h⟩:=ob_some h;injection h with h;subst h;exact(makeFunc_ok hx hy).ok
 ·obtain⟨rx,hx,h⟩:=ob_some h;obtain⟨z,hz,h⟩:=ob_some h
  split at h
  ·injection h with h;subst h;exact(typeAssert_ok hx hz (by assumption)).ok
  ·cases h
 ·injection h with h;subst h;exact newMap_ok
 ·obtain⟨rx,hx,h⟩:=ob_some h;obtain⟨ry,hy,h⟩:=ob_some h;obtain⟨rz,hz,h⟩:=ob_some h;obtain⟨e,he,h⟩:=ob_some h;injection h with h;subst h;exact insert_ok hx hy hz he
 ·obtain⟨rx,hx,h⟩:=ob_some h;obtain⟨ry,hy,h⟩:=ob_some h;obtain⟨rz,hz,h⟩:=ob_some h;obtain⟨e,he,h⟩:=ob_some h;injection h with h;subst h;exact mapUpdate_ok hx hy hz he
 ·obtain⟨rx,hx,h⟩:=ob_some h;obtain⟨ry,hy,h⟩:=ob_some h;obtain⟨e,he,h⟩:=ob_some h;obtain⟨z,hz,h⟩:=ob_some h;injection h with h;subst h;exact(lookup_ok hx hy he hz).ok
 ·obtain⟨rx,hx,h⟩:=ob_some h;obtain⟨e,he,h⟩:=ob_some h;injection h with h;subst h;exact range_ok hx he
 ·obtain⟨rx,hx,h⟩:=ob_some h;injection h with h;subst h;exact(entry_ok hx).ok
 ·cases h
theorem opB_quiet {op:Op} {f:Fx} (h:opB P op=some f) (hq:isE op=false) (hs:isSoft op=false) (hv:quietB P op=true):OpQ P C op f:=by
 unfold opB at h
 split at h
 ·obtain⟨rx,hx,h⟩:=ob_some h;injection h with h;subst h;exact(move_ok hx)
 ·obtain⟨rx,hx,h⟩:=ob_some h;injection h with h;subst h;exact(assign_ok hx)
 ·obtain⟨rx,hx,h⟩:=ob_some h;exact(load_ok hx h)
 ·cases hq
 ·obtain⟨rx,hx,h⟩:=ob_some h;obtain⟨ry,hy,h⟩:=ob_some h;exact(bin_ok hx hy h)
 ·obtain⟨rx,hx,h⟩:=ob_some h;obtain⟨p,hp,h⟩:=ob_some h;obtain⟨n,hn,h⟩:=ob_some h;obtain⟨h0,h⟩:=bb_some h;injection h with h;subst h;exact(fieldAddr_ok hx hp hn (Nat.le_of_ble_eq_true h0))
 ·obtain⟨ri,hi,h⟩:=ob_some h;exact(tab_ok hi h)
 ·obtain⟨rx,hx,h⟩:=ob_some h;obtain⟨ry,hy,h⟩:=ob_some h;exact(indexAddr_ok hx hy h)
 ·exact callB_quiet h hq
 ·obtain⟨rx,hx,h⟩:=ob_some h;injection h with h;subst h;exact(nilCheck_ok hx)
 ·obtain⟨rx,hx,h⟩:=ob_some h;injection h with h;subst h;exact(extract_ok hx)
 ·obtain⟨rc,hc,h⟩:=ob_some h;obtain⟨rx,hx,h⟩:=ob_some h;obtain⟨ry,hy,h⟩:=ob_some h;injection h with h;subst h;exact(pick_ok hc hx hy)
 ·obtain⟨rx,hx,h⟩:=ob_some h
  split at h
  ·injection h with h;subst h;exact(not_ok hx)
  ·injection h with h;subst h;exact(neg_ok hx)
  ·injection h with h;subst h;exact(xor_ok hx)
  ·cases h
 ·cases hs
 ·cases hq
 ·obtain⟨z,hz,h⟩:=ob_some h;exact(build_ok hz h)
 ·obtain⟨e,he,h⟩:=ob_some h;obtain⟨sz,hsz,h⟩:=ob_some h;obtain⟨z,hz,h⟩:=ob_some h;obtain⟨h0,h⟩:=bb_some h;obtain⟨h1,h⟩:=bb_some h;obtain⟨h2,h⟩:=bb_some h;obtain⟨ps,hps,h⟩:=ob_some h
  injection h with h;subst h
  cases hq
 ·obtain⟨rx,hx,h⟩:=ob_some h;obtain⟨ry,hy,h⟩:=ob_some h;obtain⟨e,he,h⟩:=ob_some h;obtain⟨sz,hsz,h⟩:=ob_some h;obtain⟨z,hz,h⟩:=ob_some h;obtain⟨by_,hby,h⟩:=ob_some h;obtain⟨h0,h⟩:=bb_some h;obtain⟨h1,h⟩:=bb_some h
  injection h with h;subst h
  cases hs
 ·obtain⟨rx,hx,h⟩:=ob_some h;obtain⟨rl,hl,h⟩:=ob_some h;obtain⟨rh,hh,h⟩:=ob_some h;exact(slice2_ok hx hl hh h)
 ·obtain⟨rx,hx,h⟩:=ob_some h;obtain⟨rh,hh,h⟩:=ob_some h;obtain⟨rm,hm,h⟩:=ob_some h;exact(slice3_ok hx hh hm h)
 ·obtain⟨rx,hx,h⟩:=ob_some h;obtain⟨p,hp,h⟩:=ob_some h;obtain⟨g,hg,h⟩:=ob_some h;injection h with h;subst h;exact(field_ok hx hp hg)
 ·obtain⟨rx,hx,h⟩:=ob_some h;obtain⟨ri,hi,h⟩:=ob_some h;exact(index_ok hx hi h)
 ·obtain⟨rx,hx,h⟩:=ob_some h
  split at h
  ·injection h with h;subst h;exact(convert_ok hx (by assumption) (by assumption))
  ·rename_i h1 h2;simp only[quietB,h2]at hv;cases hv
  ·exact(strOf_ok hx (by assumption) (by assumption) h)
  ·rename_i h1 h2;simp only[quietB,h2]at hv;cases hv
  ·cases h
 ·obtain⟨rx,hx,h⟩:=ob_some h
  split at h
  ·injection h with h;subst h;exact(makeInterface_ok hx (by assumption))
  ·cases h
 ·obtain⟨rx,hx,h⟩:=ob_some h;obtain⟨ry,hy,h⟩:=ob_some h;injection h with h;subst h;exact(makeFunc_ok hx hy)
 ·obtain⟨rx,hx,h⟩:=ob_some h;obtain⟨z,hz,h⟩:=ob_some h
  split at h
  ·injection h with h;subst h;exact(typeAssert_ok hx hz (by assumption))
  ·cases h
 ·cases hq
 ·cases hq
 ·cases hq
 ·obtain⟨rx,hx,h⟩:=ob_some h;obtain⟨ry,hy,h⟩:=ob_some h;obtain⟨e,he,h⟩:=ob_some h;obtain⟨z,hz,h⟩:=ob_some h;injection h with h;subst h;exact(lookup_ok hx hy he hz)
 ·cases hq
 ·obtain⟨rx,hx,h⟩:=ob_some h;injection h with h;subst h;exact(entry_ok hx)
 ·cases h
end
section
variable {P:Program} {C:CallF}
def MarkAt (lo:Nat) (A:Sub) (h:H) (w:World) (d:Deferred):Prop:=∃D,d = { target:=.collected D,args:=#[] }∧lo≤D∧w.heap[D]?=some (.deferred (some []))∧∀b O,h.t.get b=some O→A.ι b≠D
def Marks (lo:Nat) (A:Sub) (h:H) (w:World) (ds:List Deferred):Prop:=(lo≤w.heap.size∧ds.Nodup)∧∀d∈ds,MarkAt lo A h w d
theorem Marks.nil {lo:Nat} {A:Sub} {h:H} {w:World} (hl:lo≤w.heap.size):Marks lo A h w []:=⟨⟨hl,List.nodup_nil⟩,fun d hd=>by cases hd⟩
theorem Marks.ev {lo:Nat} {A A':Sub} {h h':H} {w w':World} {ds:List Deferred} (hm:Marks lo A h w ds) (e:Ev A h w A' h' w'):Marks lo A' h' w' ds:=by
 refine⟨⟨Nat.le_trans hm.1.1 e.size,hm.1.2⟩,fun d hd=>?_⟩
 obtain⟨D,h1,h2,h3,h4⟩:=hm.2 d hd
 have hlt:D<w.heap.size:=(Array.getElem?_eq_some_iff.1 h3).1
 refine⟨D,h1,h2,(e.fr D hlt h4).trans h3,fun b O hb he=>?_⟩
 rcases e.src b O hb with h5 | ⟨b0,O0,h5,h6⟩
 ·omega
 ·exact h4 b0 O0 h5 (h6.trans he)
def Res (lo:Nat) (A:Sub) (h:H) (w:World) (N:Nat) (o:Out) (a':Act) (w':World):Prop:=∃A',Ev A h w A' o.h w'∧TRel A' o.h.next N o.t a'.tmps∧Marks lo A' o.h w' a'.defers
theorem Res.trans {lo:Nat} {A A1:Sub} {h h1:H} {w w1 w':World} {N:Nat} {o:Out} {a':Act} (e:Ev A h w A1 h1 w1) (r:Res lo A1 h1 w1 N o a' w'):Res lo A h w N o a' w':=by
 obtain⟨A',h1,h2,h3⟩:=r
 exact⟨A',e.trans h1,h2,h3⟩
theorem Wide.calls {r:Option Nat} {n:Nat} {f:FuncId} {args:Array Value} {w:World} {R:Ending→World→Prop} (h:Calls P f args w R):CallsIn (Wide r) n P f args w R:=(callsIn_wide (n:=n)).2 h
theorem opB_defer {op:Op} {f:Fx} (h:opB P op=some f) (c:Call):op≠.defer c:=by
 intro he
 subst he
 cases h
theorem Does.wpIn {r:Option Nat} {n:Nat} {o:Oper} {a:Act} {w:World} {R:Value→World→Prop} {K:Act→World→Prop} {Q:Exit→Act→World→Prop} (h:Does P o a w R) (hd:∀c,o.op≠.defer c) (hK:∀x w',R x w'→K (a.put o.dst x) w'):o.wpIn (Wide r) n P a w K Q:=by
 refine⟨fun _ _=>trivial,?_⟩
 have hs:o.semAt (Wide r).round a.eval=execOp a.eval o:=by
  cases r with
  | none=>exact Oper.semAt_none _ _
  | some l=>exact Oper.semAt_some l _ o hd
 rw[hs]
 rcases h with⟨x,w',h1,h2⟩ | ⟨w',h1,h2⟩ | ⟨f,args,w',h1,h2⟩ | ⟨l,f,tmps,assign,body,w',h1,h2⟩
 ·rw[h1]
  exact hK _ _ h2
 ·rw[h1]
  exact hK _ _ h2
 ·rw[h1]
  refine⟨fun h=>(by cases h),Wide.calls (Calls.mono h2 fun e w'' he=>?_)⟩
  obtain⟨x,rfl,hr⟩:=he
  exact hK _ _ hr
 ·rw[h1]
  refine⟨fun h=>(by cases h),(h2 r (n-1)).mono fun e w'' he=>?_⟩
  obtain⟨x,rfl,hr⟩:=he
  exact hK _ _ hr
theorem put_defers (a:Act) (d:Option Tmp) (v:Value):(a.put d v).defers=a.defers:=by cases d <;> rfl
noncomputable def setT (t:Tr V) (d:Option Nat) (v:V):Tr V:=match d with
 | none=>t
 | some d=>t.set d (some v)
theorem putK_eq {β:Type} (t:Tr V) (d:Option Nat) (v:V) (K:Tr V→Option β):putK t d v K=K (setT t d v):=by
 cases d with
 | none=>rfl
 | some d=>exact Tr.putP_set _ _ _ _
theorem dstB_some {N:Nat} {d:Option Tmp} {r:Option Nat} (h:dstB N d=some r):r=d∧∀k,d=some k→k<N:=by
 cases d with
 | none=>injection h with h;exact⟨h.symm,fun k hk=>by cases hk⟩
 | some k =>
  obtain⟨h1,h⟩:=bb_some h
  injection h with h
  exact⟨h.symm,fun j hj=>by injection hj with hj;subst hj;exact Nat.le_of_ble_eq_true h1⟩
theorem TRel.dst {A:Sub} {n N:Nat} {t:Tr V} {a:Act} (ht:TRel A n N t a.tmps) {d:Option Nat} {e:Option Tmp} (hd:dstB N e=some d) {v:V} {x:Value} (hv:Rel A n v x):TRel A n N (setT t d v) (a.put e x).tmps:=by
 obtain⟨rfl,h1⟩:=dstB_some hd
 cases d with
 | none=>exact ht
 | some k=>exact ht.put hv (h1 k rfl)
theorem notbool {A:Sub} {n:Nat} {v:V} {x:Value} (h:Rel A n v x) (hv:∀b,v≠.b b):∀b,x≠.bool b:=by
 intro b hb
 subst hb
 cases h
 exact hv _ rfl
theorem want_eq {A:Sub} {n N:Nat} {t:Tr V} {a:Act} (ht:TRel A n N t a.tmps) {ops:Array Oper} {o:Oper} {g:Option (Nat × Bool)} (hg:guardB ops o=some g):Region.wanted o (yielded ops a.tmps)=wantK t g:=by
 unfold guardB at hg
 unfold Region.wanted
 split at hg
 ·rename_i h0
  injection hg with hg
  subst hg
  rw[h0]
  rfl
 ·rename_i j w h0
  rw[h0]
  split at hg
  ·rename_i oj hj
   obtain⟨d,hd,hg⟩:=ob_some hg
   injection hg with hg
   subst hg
   have hr:=ht.2 d
   simp only[wantK,Tr.getP_path,yielded,hj,Option.bind_some,hd]
   rw[Array.getD_eq_getD_getElem?]at hr
   cases htd:t.get d with
   | none =>
    rw[htd]at hr
    cases hx:a.tmps[d]? with
    | none=>rfl
    | some x =>
     rw[hx]at hr
     have:=notbool hr (fun b hb=>by cases hb)
     simp only[Option.getD_some]at this
     cases x <;> first | rfl | exact absurd rfl (this _)
   | some v =>
    rw[htd]at hr
    cases hx:a.tmps[d]? with
    | none =>
     rw[hx]at hr
     have hr:Rel A n v undef:=hr
     cases v <;> first | rfl |(cases hr)
    | some x =>
     rw[hx]at hr
     have hr:Rel A n v x:=hr
     cases v with
     | b y =>
      obtain rfl:=hr.of_b
      rfl
     | _ =>
      have:=notbool hr (fun b hb=>by cases hb)
      cases x <;> first | rfl | exact absurd rfl (this _)
  ·cases hg
theorem stepK_ok {lo:Nat} {r:Option Nat} {n:Nat} (hC:CallOk P C) {ops:Array Oper} {N:Nat} {o:Oper} {s:St} (hs:stB P ops N o=some s) (hn:s.next=none) {A:Sub} {h:H} {w:World} {t:Tr V} {a:Act} {K:Tr V→H→Option (List Out)} {q:List Out}
  (hm:Mt A h w) (ht:TRel A h.next N t a.tmps) (hd:Marks lo A h w a.defers) (hk:stepK C s t h K=some q) {KK:Act→World→Prop} {Q:Exit→Act→World→Prop}
  (hK:∀A' h' w' t' a',Ev A h w A' h' w'→TRel A' h'.next N t' a'.tmps→Marks lo A' h' w' a'.defers→K t' h'=some q→KK a' w') :
  if Region.wanted o (yielded ops a.tmps)then o.wpIn (Wide r) n P a w KK Q else(∀f,o.about P w a.eval=some f→(Wide r).fn f)∧KK (a.put o.dst undef) w:=by
 unfold stB at hs
 obtain⟨g,hg,hs⟩:=ob_some hs
 obtain⟨d,hd',hs⟩:=ob_some hs
 rw[want_eq ht hg]
 cases hnx:nextB o.op with
 | some x =>
  rw[hnx]at hs
  obtain⟨x',_,hs⟩:=ob_some (show ob (rdB x) _=some s from hs)
  obtain⟨_,hs⟩:=bb_some hs
  injection hs with hs
  subst hs
  cases hn
 | none =>
  rw[hnx]at hs
  obtain⟨f,hf,hs⟩:=ob_some (show ob (opB P o.op) _=some s from hs)
  injection hs with hs
  subst hs
  unfold stepK at hk
  simp only at hk
  cases hwt:wantK t g with
  | true =>
   rw[hwt,br_t]at hk
   rw[if_pos rfl]
   obtain⟨v,h',h1,h2⟩:=opB_ok hC hf o rfl A h w N t a _ q hm ht hk
   rw[putK_eq]at h1
   refine h2.wpIn (opB_defer hf) fun x w' hp=>?_
   obtain⟨A',hev,hr⟩:=hp
   exact hK A' h' w' _ _ hev ((ht.mono hev.old hev.next).dst hd' hr) (by rw[put_defers];exact hd.ev hev) h1
  | false =>
   rw[hwt,br_f,putK_eq]at hk
   rw[if_neg (by decide)]
   exact⟨fun _ _=>trivial,hK A h w _ _ (.refl hm) (ht.dst hd' .u) (by rw[put_defers];exact hd) hk⟩
/-! ### A walk over a map -/
inductive EnL (A:Sub) (n:Nat):List En→List MapEntry→Prop
 | nil:EnL A n [] []
 | cons (e:En) (x:MapEntry) (es:List En) (xs:List MapEntry):EnRel A n e x→EnL A n es xs→EnL A n (e :: es) (x :: xs)
theorem EnL.of {A:Sub} {n:Nat}:∀(es:List En) (xs:List MapEntry),xs.length=es.length→(∀(j:Nat) (e:En),es[j]?=some e→∃y,xs[j]?=some y∧EnRel A n e y)→EnL A n es xs
 | [],xs,hl,_=>by
  obtain rfl:xs = []:=List.eq_nil_of_length_eq_zero hl
  exact .nil
 | e :: es,[],hl,_=>by simp at hl
 | e :: es,x :: xs,hl,hr=>by
  obtain⟨y,hy,h1⟩:=hr 0 e rfl
  simp only[List.getElem?_cons_zero,Option.some.injEq]at hy
  subst hy
  exact .cons _ _ _ _ h1 (EnL.of es xs (by simpa using hl) fun j e' he'=>by simpa using hr (j+1) e' (by simpa using he'))
theorem EnL.filter {A:Sub} {n:Nat} (p:Nat→Bool):∀{es:List En} {xs:List MapEntry},EnL A n es xs→EnL A n (es.filter fun e=>p e.born) (xs.filter fun e=>p e.born)
 | _,_,.nil=>.nil
 | _,_,.cons e x es xs h1 h2=>by
  have ih:=EnL.filter p h2
  rw[List.filter_cons,List.filter_cons,h1.2.2]
  split
  ·exact .cons _ _ _ _ h1 ih
  ·exact ih
theorem EnL.length {A:Sub} {n:Nat}:∀{es:List En} {xs:List MapEntry},EnL A n es xs→xs.length=es.length
 | _,_,.nil=>rfl
 | _,_,.cons _ _ _ _ _ h=>by simp[EnL.length h]
theorem EnL.get {A:Sub} {n:Nat}:∀{es:List En} {xs:List MapEntry},EnL A n es xs→∀{j:Nat} {x:MapEntry},xs[j]?=some x→∃e,es[j]?=some e∧e∈es∧EnRel A n e x
 | _,_,.nil,_,_,h=>by simp at h
 | _,_,.cons e x es xs h1 _,0,_,h=>by
  simp only[List.getElem?_cons_zero,Option.some.injEq]at h
  subst h
  exact⟨e,rfl,by simp,h1⟩
 | _,_,.cons e x es xs _ h2,j+1,y,h=>by
  obtain⟨e',h3,h4,h5⟩:=EnL.get h2 (j:=j) (x:=y) (by simpa using h)
  exact⟨e',by simpa using h3,by simp[h4],h5⟩
theorem EnL.all {A:Sub} {n:Nat} (p:Nat→Bool):∀{es:List En} {xs:List MapEntry},EnL A n es xs→(xs.all fun e=>p e.born)=(es.all fun e=>p e.born)
 | _,_,.nil=>rfl
 | _,_,.cons _ _ _ _ h1 h2=>by simp[EnL.all p h2,h1.2.2]
theorem mapO_mem {α γ:Type} {f:α→Option γ}:∀{l:List α} {r:List γ},mapO f l=some r→∀x∈l,∃y∈r,f x=some y
 | [],_,_,x,hx=>by cases hx
 | a :: l,r,h,x,hx=>by
  obtain⟨y,q,h1,h2,rfl⟩:=mapO_cons h
  rcases List.mem_cons.1 hx with rfl | hx
  ·exact⟨y,by simp,h1⟩
  ·obtain⟨z,hz,h3⟩:=mapO_mem h2 x hx
   exact⟨z,by simp[hz],h3⟩
theorem next_ok {x:Operand} {rx:Rd} {o:Oper} {A:Sub} {h:H} {w:World} {N:Nat} {t:Tr V} {a:Act} {b:Nat} {cs:List (V × H)} (ho:o.op=.next x false) (hx:rdB x=some rx) (hm:Mt A h w) (ht:TRel A h.next N t a.tmps) (hv:rx.val t=.p b 0)
  (hk:nextC h b=some cs):∃c∈cs,Does P o a w (Post A h w c.1 c.2):=by
 have hrx:=rd_rel ht hx
 rw[hv]at hrx
 obtain⟨hrx,hb⟩:=hrx.of_p
 unfold nextC at hk
 obtain⟨y,hy,hk⟩:=ob_some hk
 split at hk
 ·rename_i m since seen stepped
  obtain⟨o1,hob,hz0,hmn,rfl⟩:=hm.obj b _ hy
  rw[hz0]at hrx
  obtain⟨es,clock,xs,hb2,hx2,hsz,hes,hk⟩:=mapK_some hm hk
  obtain⟨h1,hk⟩:=bb_some hk
  obtain⟨h2,hk⟩:=bb_some hk
  obtain⟨h3,hk⟩:=bb_some hk
  have h1:=Nat.eq_of_beq_eq_true h1
  have h2:=Nat.eq_of_beq_eq_true h2
  subst h1 h2
  have hel:=EnL.of (n:=h.next) es xs.toList (by simpa using hsz) (fun j e he=>by simpa using hes j e he)
  have hlt:∀e∈es,e.born<stepped:=fun e he=>by
   have:=List.all_eq_true.1 h3 e he
   exact Nat.le_of_ble_eq_true this
  have hbad:(!seen.toArray.isEmpty&&!xs.isEmpty&&xs.all (fun e=>decide (e.born ≥ stepped)))=false:=by
   cases es with
   | nil =>
    have:xs=#[]:=by
     apply Array.eq_empty_of_size_eq_zero
     simpa using hsz
    simp[this]
   | cons e es =>
    have:(xs.all fun e=>decide (e.born ≥ stepped))=false:=by
     rw[←Array.all_toList,EnL.all (fun b=>decide (b ≥ stepped)) hel]
     have:=hlt e (by simp)
     simp only[List.all_cons,Bool.and_eq_false_iff]
     left
     simp
     omega
    rw[this,Bool.and_false]
  have hleft:=EnL.filter (fun b=>!seen.contains b) hel
  have holdall:∀e∈xs.toList.filter (fun e=>!seen.contains e.born),e.born<stepped:=fun e he=>by
   obtain⟨j,hj⟩:=List.getElem?_of_mem he
   obtain⟨e',_,h5,h6⟩:=hleft.get hj
   rw[h6.2.2]
   exact hlt e' (List.mem_filter.1 h5).1
  have hold:((xs.filter fun e=>!seen.toArray.contains e.born).filter fun e=>decide (e.born<stepped))=xs.filter fun e=>!seen.toArray.contains e.born:=by
   apply Array.ext'
   rw[Array.toList_filter,List.filter_eq_self]
   intro e he
   rw[Array.toList_filter]at he
   have he':e∈xs.toList.filter (fun e=>!seen.contains e.born):=by simpa using he
   simpa using holdall e he'
  have hnew:((xs.filter fun e=>!seen.toArray.contains e.born).filter fun e=>decide (e.born ≥ stepped))=#[]:=by
   apply Array.ext'
   rw[Array.toList_filter,List.filter_eq_nil_iff]
   intro e he
   rw[Array.toList_filter]at he
   have he':e∈xs.toList.filter (fun e=>!seen.contains e.born):=by simpa using he
   have:=holdall e he'
   simp
   omega
  have hfl:(xs.filter fun e=>!seen.toArray.contains e.born).toList=xs.toList.filter (fun e=>!seen.contains e.born):=by
   rw[Array.toList_filter]
   simp
  have hlen:=hleft.length
  cases hfe:es.filter (fun e=>!seen.contains e.born)with
  | nil =>
   rw[hfe]at hk hlen
   injection hk with hk
   subst hk
   have hL:(xs.filter fun e=>!seen.toArray.contains e.born)=#[]:=by
    apply Array.ext'
    rw[hfl]
    exact List.eq_nil_of_length_eq_zero hlen
   refine⟨_,List.mem_singleton.2 rfl,.value (x:=.tuple #[.bool false]) (w':=w) ?_ (.same hm (.tup _ _ (.cons _ _ _ _ (.b _) .nil)))⟩
   have:(Instr.next (.pointer (some ⟨A.ι b,0,none⟩)) false o.type).run P w=.ok (.tuple #[.bool false]) w:=by
    unfold Instr.next
    simp only[Sem.run_bind,run_getIter hob,Result.andThen_ok,run_getMap hx2,hbad,Bool.false_eq_true,if_false,hold,hnew]
    rw[hL]
    simp[Question.forced]
   simp only[execOp,ho,hrx,Sem.run_bind,this,Result.andThen_ok,Sem.run_pure]
  | cons e0 el =>
   rw[hfe]at hk hlen hleft
   have hk:mapO (fun e=>Tr.put (some (.iter m stepped (seen++[e.born]) stepped)) h.t b fun t=>some (V.tup [.b true,.i e.k e.n,e.v],(⟨h.next,t⟩:H))) (e0 :: el)=some cs:=hk
   have hLs:(xs.filter fun e=>!seen.toArray.contains e.born).size=(e0 :: el).length:=by rw[←Array.length_toList,hfl,hlen]
   have hLe:(xs.filter fun e=>!seen.toArray.contains e.born).isEmpty=false:=by
    cases hq:(xs.filter fun e=>!seen.toArray.contains e.born).isEmpty with
    | false=>rfl
    | true =>
     have:(xs.filter fun e=>!seen.toArray.contains e.born)=#[]:=by simpa using hq
     rw[this]at hLs
     simp at hLs
   obtain⟨k,wd,hch,hkl,hwd⟩:∃k wd,(choose (.mapNext (xs.filter fun e=>!seen.toArray.contains e.born).size)).run P w=.ok k wd∧k<(xs.filter fun e=>!seen.toArray.contains e.born).size∧(wd=w∨wd = { w with drawn:=w.drawn+1 }):=by
    rw[run_choose]
    split
    ·exact⟨0,w,rfl,by rw[hLs];simp,.inl rfl⟩
    ·exact⟨_,_,rfl,by simp only[Question.cut];exact Nat.mod_lt _ (by rw[hLs];simp),.inr rfl⟩
   have hev:Ev A h w A h wd:=by rcases hwd with rfl | rfl <;> exact Ev.same hm rfl rfl rfl rfl
   have hob2:wd.heap[A.ι b]?=some (.mapIter (some (A.ι m)) stepped seen.toArray stepped):=by rcases hwd with rfl | rfl <;> exact hob
   obtain⟨x0,hx0⟩:∃x0,(xs.filter fun e=>!seen.toArray.contains e.born)[k]?=some x0:=⟨_,Array.getElem?_eq_getElem hkl⟩
   have hx0':(xs.toList.filter (fun e=>!seen.contains e.born))[k]?=some x0:=by rw[←hfl,Array.getElem?_toList];exact hx0
   obtain⟨e,_,hmem,he1,he2,he3⟩:=hleft.get hx0'
   obtain⟨c,hc,hce⟩:=mapO_mem hk e hmem
   rw[Tr.put_set]at hce
   injection hce with hce
   subst hce
   have hset:(setObj (A.ι b) (.mapIter (some (A.ι m)) stepped (seen.toArray.push x0.born) stepped)).run P wd=.ok () { wd with heap:=wd.heap.setIfInBounds (A.ι b) (.mapIter (some (A.ι m)) stepped (seen.toArray.push x0.born) stepped) }:=by
    simp only[setObj,Sem.run,hob2]
   have hlt2:A.ι b<wd.heap.size:=(Array.getElem?_eq_some_iff.1 hob2).1
   have hup:=Ev.upd (hnp:=rfl) (O':=.iter m stepped (seen++[e.born]) stepped) (w':={ wd with heap:=wd.heap.setIfInBounds (A.ι b) (.mapIter (some (A.ι m)) stepped (seen.toArray.push x0.born) stepped) }) hev.mt hy
    (o':=.mapIter (some (A.ι m)) stepped (seen.toArray.push x0.born) stepped) ⟨hz0,hmn,by rw[he3];simp⟩ (heap_set wd _ _ hlt2) (fun k hk=>heap_set_ne wd _ k _ hk) (by simp) rfl rfl rfl
   refine⟨_,hc,.value (x:=.tuple #[.bool true,x0.key,x0.val]) ?_ ⟨A,hev.trans hup,.tup _ _ (.cons _ _ _ _ (.b _) (.cons _ _ _ _ (by rw[he1];exact .i _ _) (.cons _ _ _ _ he2 .nil)))⟩⟩
   have:(Instr.next (.pointer (some ⟨A.ι b,0,none⟩)) false o.type).run P w=.ok (.tuple #[.bool true,x0.key,x0.val]) { wd with heap:=wd.heap.setIfInBounds (A.ι b) (.mapIter (some (A.ι m)) stepped (seen.toArray.push x0.born) stepped) }:=by
    have hs:((if (Array.filter (fun e:MapEntry=>!seen.toArray.contains e.born) xs).isEmpty=true then #[none]else #[])++Array.map some (Array.filter (fun e:MapEntry=>!seen.toArray.contains e.born) xs++#[]):Array (Option MapEntry))=(Array.filter (fun e:MapEntry=>!seen.toArray.contains e.born) xs).map some:=by
     rw[hLe]
     simp
    unfold Instr.next
    simp only[Sem.run_bind,run_getIter hob,Result.andThen_ok,run_getMap hx2,hbad,Bool.false_eq_true,if_false,hold,hnew]
    rw[hs]
    simp only[Array.size_map,hch,Result.andThen_ok,Array.getElem?_map,hx0,Option.map_some,hset,Sem.run_bind,Sem.run_pure]
   simp only[execOp,ho,hrx,Sem.run_bind,this,Result.andThen_ok,Sem.run_pure]
 ·cases hk
end
end Go.Proofs.YtkcdehffcddciaaGreatDoor.Vm
