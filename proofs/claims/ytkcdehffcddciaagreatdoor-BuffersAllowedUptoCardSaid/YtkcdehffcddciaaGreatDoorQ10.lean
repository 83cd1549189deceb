/- The small machine's code and calls do what the model's do. -/
import Derived.Test.YtkcdehffcddciaaGreatDoorQ09
import Derived.LoopNIn
import Derived.RangeFuncIn
import Derived.RangeFuncRecord
import Derived.Scope
import Derived.RangeFuncLeaves
namespace Go.Proofs.YtkcdehffcddciaaGreatDoor.Vm
open Go Go.RowKit
section
variable {P:Program} {C:CallF}
def exitOf:Ex→Exit
 | .normal=>.normal
 | .exit n=>.exit n
 | .ret=>.ret
theorem andThen_some {l:Option (List Out)} {f:Out→Option (List Out)} {r:List Out} (h:andThen l f=some r):∃l0,l=some l0∧∀o∈l0,(o.x=.normal→∃a,f o=some a∧∀y∈a,y∈r)∧(o.x≠.normal→o∈r):=by
 obtain⟨l0,h1,h2⟩:=ob_some h
 refine⟨l0,h1,fun o ho=>?_⟩
 obtain⟨a,h3,h4⟩:=bindO_mem h2 o ho
 refine⟨fun hx=>?_,fun hx=>?_⟩
 ·rw[hx]at h3
  exact⟨a,h3,h4⟩
 ·cases ho':o.x with
  | normal=>exact absurd ho' hx
  | exit n=>rw[ho']at h3;injection h3 with h3;subst h3;exact h4 o (by simp)
  | ret=>rw[ho']at h3;injection h3 with h3;subst h3;exact h4 o (by simp)
theorem stepR_scope {b:Frame} {a:Act} {k:List Item} {cs:List Frame} {w:World} {c:Code}:step P (lone (b.atR a (.code (.scope c) :: k)) cs w)=.next (lone (b.atR a (.code c :: .inScope c :: k)) cs w) :=
 step_lone_go (by simp[stepG,stepG.exec,Frame.atR])
theorem stepR_inScope {b:Frame} {a:Act} {k:List Item} {cs:List Frame} {w:World} {c:Code}:step P (lone (b.atR a (.inScope c :: k)) cs w)=.next (lone (b.atR a k) cs w) :=
 step_lone_go (by simp[stepG,stepG.exec,Frame.atR])
theorem wpIn_scope {F:Fence} {n:Nat} {Q:Exit→Act→World→Prop} {a:Act} {w:World} {c:Code} (h:c.wpIn F n P (Exit.noGoto Q) a w):(Code.scope c).wpIn F n P Q a w:=by
 intro b k cs hro hb hr
 have h0:(lone (b.atR a (.code (.scope c) :: k)) cs w).fenced P F:=fenced_calm hb hr rfl
 obtain⟨e,a₁,w₁,hq,harr⟩:=h b (.inScope c :: k) cs hro hb hr
 cases e with
 | normal=>exact⟨.normal,a₁,w₁,hq,.head h0 stepR_scope (StepsIn.trans harr (.one (fenced_calm hb hr rfl) stepR_inScope))⟩
 | exit id =>
  have hx:exitTo id (.inScope c :: k)=exitTo id k:=by simp[exitTo]
  exact⟨.exit id,a₁,w₁,hq,fun k' hk=>.head h0 stepR_scope (harr.1 k' (by rw[hx];exact hk)),
    fun hr' hk=>let ⟨k₁,h1,h2⟩:=harr.2 hr' (by rw[hx];exact hk);⟨k₁,h1,.head h0 stepR_scope h2⟩⟩
 | goto l=>exact hq.elim
 | ret=>exact⟨_,a₁,w₁,hq,.of_steps (.one h0 stepR_scope) harr⟩
 | panic ch=>exact⟨_,a₁,w₁,hq,.of_steps (.one h0 stepR_scope) harr⟩
 | outgrown=>exact⟨_,a₁,w₁,hq,.of_steps (.one h0 stepR_scope) harr⟩
theorem orNo_region {x:Option Vc} {C:CallF} {ih:Vc→Tr V→H→Option (List Out)} {t:Tr V} {h:H} {outs:List Out} (he:execS C ih (orNo x) t h=some outs):∃c,x=some c∧execS C ih c t h=some outs:=by
 cases x with
 | none=>cases he
 | some c=>exact⟨c,rfl,he⟩
def Runs (_P:Program) (N:Nat) (_c:Code) (t:Tr V) (h:H) (outs:List Out) (W:(Exit→Act→World→Prop)→Act→World→Prop):Prop :=
 ∀(lo:Nat) (A:Sub) (w:World) (a:Act) (Q:Exit→Act→World→Prop),Mt A h w→TRel A h.next N t a.tmps→Marks lo A h w a.defers→(∀o∈outs,∀a' w',Res lo A h w N o a' w'→Q (exitOf o.x) a' w')→W Q a w
theorem seq_runs {r:Option Nat} {k N:Nat} {t:Tr V} {h:H} {outs:List Out} {ih:Vc→Tr V→H→Option (List Out)} {x y:Vc} {cx:Code} {next:(Exit→Act→World→Prop)→Act→World→Prop} (he:andThen (ih x t h) (fun o=>ih y o.t o.h)=some outs)
  (h1:∀t h outs,ih x t h=some outs→Runs P N cx t h outs (fun Q a w=>cx.wpIn (Wide r) k P Q a w)) (h2:∀t h outs,ih y t h=some outs→Runs P N cx t h outs next) :
  Runs P N cx t h outs (fun Q a w=>cx.wpIn (Wide r) k P (Exit.then (next Q) Q) a w):=by
 intro lo A w a Q hm ht hd hQ
 obtain⟨l0,h3,h4⟩:=andThen_some he
 refine h1 t h l0 h3 lo A w a _ hm ht hd fun o ho a' w' hr=>?_
 obtain⟨h5,h6⟩:=h4 o ho
 obtain⟨A',hev,ht',hd'⟩:=hr
 cases hx:o.x with
 | normal =>
  obtain⟨b,h7,h8⟩:=h5 hx
  exact h2 o.t o.h b h7 lo A' w' a' Q hev.mt ht' hd' fun o2 ho2 a2 w2 hr2=>hQ o2 (h8 o2 ho2) a2 w2 (hr2.trans hev)
 | exit j =>
  have:=hQ o (h6 (by rw[hx];exact fun h=>by cases h)) a' w' ⟨A',hev,ht',hd'⟩
  rw[hx]at this
  exact this
 | ret =>
  have:=hQ o (h6 (by rw[hx];exact fun h=>by cases h)) a' w' ⟨A',hev,ht',hd'⟩
  rw[hx]at this
  exact this
theorem Ev.drop {A0 A:Sub} {h0 h:H} {w0 w:World} (e:Ev A0 h0 w0 A h w) {b:Nat} {O:Vm.O} (hb:h.t.get b=some O) (hnp:O.pin=none) (o':Obj):Ev A0 h0 w0 A ⟨h.next,h.t.set b none⟩ (w.putObj (A.ι b) o'):=by
 refine e.trans ?_
 have hg:∀c U,(h.t.set b none).get c=some U→c≠b∧h.t.get c=some U:=fun c U hc=>by
  rw[Tr.get_set]at hc
  split at hc
  ·cases hc
  ·rename_i hne;exact⟨hne,hc⟩
 have hne:∀k,k≠A.ι b→(w.putObj (A.ι b) o').heap[k]?=w.heap[k]?:=fun k hk=>World.putObj_heap_other hk
 refine⟨⟨fun c U hc=>e.mt.lt c U (hg c U hc).2,fun c U hc=>?_,fun c c' U U' hc hc' he=>e.mt.inj c c' U U' (hg c U hc).2 (hg c' U' hc').2 he⟩,Nat.le_refl _,fun _ _=>⟨rfl,rfl⟩,fun c U hc=>.inr ⟨c,U,(hg c U hc).2,rfl⟩,fun k _ hn=>hne k (fun e=>hn b O hb e.symm),by simp,rfl,rfl,rfl,fun c U g hc hp=>by
  have hcb:c≠b:=fun e=>by
   subst e
   rw[hb]at hc
   injection hc with hc
   subst hc
   rw[hnp]at hp
   cases hp
  exact⟨rfl,⟨U,by rw[Tr.get_set,if_neg hcb];exact hc,hp⟩,hne _ (fun he=>hcb (e.mt.inj c b U O hc hb he))⟩⟩
 obtain⟨h1,h2⟩:=hg c U hc
 obtain⟨x,hx,hr⟩:=e.mt.obj c U h2
 exact⟨x,(hne _ (fun he=>h1 (e.mt.inj c b U O h2 hb he))).trans hx,hr⟩
structure Fits (G:Cfg):Prop where
 mixed:G.P.follows .mixedOrders=true
 fit:∀(f:FuncId) (fn:Func),Nat.testBit G.fs f=true→G.P.funcs[f]?=some fn→(fn.name == "runtime.NumGoroutine")=false∧∀c,fn.body=some c→dokC (G.sk f) c=true
 memo:∀(f:FuncId) (args:List V) (h:H) (r:V × H),G.memo f args h=some r→(∀(xs:Array Value) (w:World),(callFunc f xs).run G.P w=.ok (.enter f xs) w) ∧
  ∀(A:Sub) (w:World) (xs:List Value),Mt A h w→RelL A h.next args xs→Calls G.P f xs.toArray w fun e w'=>∃x,e=.returned x∧Post A h w r.1 r.2 x w'
theorem execS_ok {r:Option Nat} {k:Nat} {G:Cfg} (hG:Fits G) {ih:Vc→Tr V→H→Option (List Out)} (hC:CallOk G.P (callS G ih)) {N sk:Nat} {rf:Bool} (hrf:rf=true→r=none) (h1:∀(c:Code) t h outs,ih (vcB G.P N rf sk c) t h=some outs→dokC sk c=true→Runs G.P N c t h outs (fun Q a w=>c.wpIn (Wide r) k G.P Q a w))
  (m:Nat) (h2:∀(c:Code) t h outs,ih (.loop (vcB G.P N rf sk c)) t h=some outs→dokC sk c=true→Runs G.P N c t h outs (fun Q a w=>Code.roundsIn (Wide r) k G.P c Q m a w)) :
  ∀(c:Code) t h outs,execS (callS G ih) ih (vcB G.P N rf sk c) t h=some outs→dokC sk c=true→Runs G.P N c t h outs (fun Q a w=>c.wpIn (Wide r) k G.P Q a w):=by
 intro c
 have one:∀{lo:Nat} {t:Tr V} {h:H} {o:Out} {A:Sub} {w:World} {a:Act},o.t=t→o.h=h→Mt A h w→TRel A h.next N t a.tmps→Marks lo A h w a.defers→Res lo A h w N o a w:=by
  rintro lo t h o A w a rfl rfl hm ht hd
  exact⟨A,.refl hm,ht,hd⟩
 induction c with
 | skip =>
  intro t h outs he _ lo A w a Q hm ht hd hQ
  injection he with he
  subst he
  exact wpIn_skip (hQ ⟨.normal,t,h⟩ (List.mem_singleton.2 rfl) a w (one rfl rfl hm ht hd))
 | label l =>
  intro t h outs he _ lo A w a Q hm ht hd hQ
  injection he with he
  subst he
  exact wpIn_label (hQ ⟨.normal,t,h⟩ (List.mem_singleton.2 rfl) a w (one rfl rfl hm ht hd))
 | exit j =>
  intro t h outs he _ lo A w a Q hm ht hd hQ
  injection he with he
  subst he
  exact wpIn_exit (hQ ⟨.exit j,t,h⟩ (List.mem_singleton.2 rfl) a w (one rfl rfl hm ht hd))
 | ret =>
  intro t h outs he _ lo A w a Q hm ht hd hQ
  injection he with he
  subst he
  exact wpIn_ret (hQ ⟨.ret,t,h⟩ (List.mem_singleton.2 rfl) a w (one rfl rfl hm ht hd))
 | seq x y _ _ =>
  intro t h outs he hk lo A w a Q hm ht hd hQ
  simp only[dokC,Bool.and_eq_true]at hk
  exact wpIn_seq (seq_runs (next:=fun Q a w=>y.wpIn (Wide r) k G.P Q a w) he (fun t h outs hx=>h1 x t h outs hx hk.1) (fun t h outs hx=>h1 y t h outs hx hk.2) lo A w a Q hm ht hd hQ)
 | cond x b e _ _ =>
  intro t h outs he hk lo A w a Q hm ht hd hQ
  simp only[dokC,Bool.and_eq_true]at hk
  obtain⟨c,hc,he⟩:=orNo_region he
  obtain⟨r,hr,hc⟩:=ob_some hc
  injection hc with hc
  subst hc
  have he:rdK t r (fun v=>asB v fun v=>br v (ih (vcB G.P N rf sk b) t h) (ih (vcB G.P N rf sk e) t h))=some outs:=he
  rw[rdK_eq]at he
  obtain⟨y,hy,he⟩:=asB_some he
  have hrel:=rd_rel ht hr
  rw[hy]at hrel
  refine wpIn_cond hrel.of_b ?_
  cases y with
  | true =>
   rw[br_t]at he
   exact h1 b t h outs he hk.1 lo A w a Q hm ht hd hQ
  | false =>
   rw[br_f]at he
   exact h1 e t h outs he hk.2 lo A w a Q hm ht hd hQ
 | block j b _ =>
  intro t h outs he hk lo A w a Q hm ht hd hQ
  obtain⟨l0,hl,he⟩:=ob_some (show ob (ih (vcB G.P N rf sk b) t h) _=some outs from he)
  refine wpIn_block (h1 b t h l0 hl hk lo A w a _ hm ht hd fun o ho a' w' hr=>?_)
  obtain⟨o2,ho2,h3⟩:=mapO_mem he o ho
  cases hx:o.x with
  | normal =>
   rw[hx]at h3
   injection h3 with h3
   subst h3
   have:=hQ o ho2 a' w' hr
   rw[hx]at this
   exact this
  | ret =>
   rw[hx]at h3
   injection h3 with h3
   subst h3
   have:=hQ o ho2 a' w' hr
   rw[hx]at this
   exact this
  | exit i =>
   rw[hx]at h3
   have h3:br (Nat.beq i j) (some ⟨.normal,o.t,o.h⟩) (some o)=some o2:=h3
   rw[br_beq]at h3
   show if i=j then Q .normal a' w' else Q (.exit i) a' w'
   split at h3
   ·rename_i e
    rw[if_pos e]
    injection h3 with h3
    subst h3
    exact hQ _ ho2 a' w' hr
   ·rename_i e
    rw[if_neg e]
    injection h3 with h3
    subst h3
    have:=hQ o ho2 a' w' hr
    rw[hx]at this
    exact this
 | loop b _ =>
  intro t h outs he hk lo A w a Q hm ht hd hQ
  refine wpIn_loop_rounds (m+1) ?_
  exact seq_runs (next:=fun Q a w=>Code.roundsIn (Wide r) k G.P b Q m a w) he (fun t h outs hx=>h1 b t h outs hx hk) (fun t h outs hx=>h2 b t h outs hx hk) lo A w a Q hm ht hd hQ
 | region id ops d =>
  intro t h outs he hk lo A w a Q hm ht hd hQ
  obtain⟨c,hc,he⟩:=orNo_region he
  cases d with
  | true =>
   rw[br_t]at hc
   have hsk:Nat.testBit sk id=false:=by
    cases hb:Nat.testBit sk id with
    | false=>rfl
    | true=>rw[hb,br_t]at hc;cases hc
   rw[hsk,br_f]at hc
   obtain⟨l,hl,hc⟩:=ob_some hc
   injection hc with hc
   subst hc
   have he:fN (Nat.add h.next 4294967296) (fun far=>runD (callS G ih) far l 0 t h h [(none,h)] [] [])=some outs:=he
   rw[fN_eq]at he
   exact draw_ok hC hG.mixed (by simp only[dokC,hsk,Bool.false_or]at hk;exact hk) hl he hm ht hd fun o ho a' w' hx hr=>by
    have:=hQ o ho a' w' hr
    rw[hx]at this
    exact this
  | false =>
   rw[br_f]at hc
   obtain⟨l,hl,hc⟩:=ob_some hc
   injection hc with hc
   subst hc
   exact region_ok hC hl he hm ht hd fun o ho a' w' hx hr=>by
    have:=hQ o ho a' w' hr
    rw[hx]at this
    exact this
 | scope b hb =>
  intro t h outs he hk lo A w a Q hm ht hd hQ
  refine wpIn_scope (hb t h outs he hk lo A w a _ hm ht hd fun o ho a' w' hr=>?_)
  have:=hQ o ho a' w' hr
  cases hx:o.x <;> rw[hx]at this <;> exact this
 | goto l =>
  intro t h outs he
  cases he
 | rangeFunc f ps as bd _ _ =>
  intro t h outs he hk lo A w a Q hm ht hd hQ
  simp only[dokC,Bool.and_eq_true]at hk
  obtain⟨c,hc,he⟩:=orNo_region he
  obtain⟨hr,hc⟩:=bb_some hc
  obtain rfl:=hrf hr
  obtain⟨hps,hc⟩:=bb_some hc
  obtain⟨x,hx,hc⟩:=ob_some hc
  injection hc with hc
  subst hc
  have he:rdK t x (fun v=>rangeK (callS G ih) t h N ps.toList as bd v)=some outs:=he
  rw[rdK_eq]at he
  unfold rangeK at he
  split at he
  ·rename_i g cap hv
   have he:=newO_some he
   obtain⟨res,hres,he⟩:=ob_some he
   obtain⟨o,ho,he⟩:=ob_some he
   have hrx:=rd_rel ht hx
   rw[hv]at hrx
   obtain⟨xs,ys,h3,h4,h5⟩:=hrx.of_fn
   obtain rfl:xs=#[]:=by
    apply Array.eq_empty_of_size_eq_zero
    have:=h4.length
    simpa using this
   refine wpIn_rangeFunc fun fn _=>?_
   obtain⟨W0,hW0⟩:∃W0,w.alloc (.deferred (some []))=W0:=⟨_,rfl⟩
   obtain⟨lp,hlp⟩:∃lp:Loop,lp = { state:=.ready,pending:=none,fn,tmps:=a.tmps,params:=ps,assign:=as,body:=bd,defers:=w.heap.size }:=⟨_,rfl⟩
   have hW0s:W0.heap.size=w.heap.size+1:=by rw[←hW0];simp
   have hD:W0.heap[w.heap.size]?=some (.deferred (some [])):=by rw[←hW0];exact heap_alloc_new w _
   have e0:Ev A h w A h W0:=by
    rw[←hW0]
    refine⟨⟨hm.lt,fun b O hb=>?_,hm.inj⟩,Nat.le_refl _,fun _ _=>⟨rfl,rfl⟩,fun b O hb=>.inr ⟨b,O,hb,rfl⟩,fun j hj _=>Below.heap_alloc w _ j hj,by simp,rfl,rfl,rfl,fun b O g hb hp=>⟨rfl,⟨O,hb,hp⟩,Below.heap_alloc w _ _ (hm.ilt hb)⟩⟩
    obtain⟨x,hx,hr⟩:=hm.obj b O hb
    exact⟨x,(Below.heap_alloc w _ _ (hm.ilt hb)).trans hx,hr⟩
   have hmk:Marks lo A h W0 ({ target:=.collected w.heap.size,args:=#[] } :: a.defers):=by
    have h6:=hd.ev e0
    refine⟨⟨h6.1.1,List.nodup_cons.2 ⟨fun hin=>?_,h6.1.2⟩⟩,fun d hdm=>?_⟩
    ·obtain⟨D,h7,h8,h9,_⟩:=hd.2 _ hin
     injection h7 with h7 _
     injection h7 with h7
     have:=(Array.getElem?_eq_some_iff.1 h9).1
     omega
    ·rcases List.mem_cons.1 hdm with rfl | hdm
     ·exact⟨w.heap.size,rfl,hd.1.1,hD,fun b O hb he=>by have:=hm.ilt hb;omega⟩
     ·exact h6.2 d hdm
   have hlo:ORel A h.next W0.heap.size (0,0) (.loop .ready t N ps.toList as bd) (.loop lp):=by
    subst hlp
    exact⟨_,rfl,⟨rfl,rfl⟩,ht,by simp,rfl,rfl,fun p hp=>by
     have:=List.all_eq_true.1 hps p hp
     exact blt_iff.1 this,hk.1,hk.2⟩
   have e1:=Ev.new (k:=(0,0)) e0.mt hlo
   obtain⟨hen,hcall⟩:=hC.f _ _ _ _ hres
   have hy:Rel (A.ext h.next W0.heap.size (0,0)) (h.next+1) (.y h.next) (.func (.yield (w.heap.size+1)) #[] #[]):=by
    have:Rel (A.ext h.next W0.heap.size (0,0)) (h.next+1) (.y h.next) (.func (.yield ((A.ext h.next W0.heap.size (0,0)).ι h.next)) #[] #[]):=.y h.next (Nat.lt_succ_self _)
    simpa [Sub.ext,hW0s]using this
   have hcl:=hcall (A.ext h.next W0.heap.size (0,0)) (W0.alloc (.loop lp)) (.func (.yield (w.heap.size+1)) #[] #[] :: ys.toList) e1.mt (.cons _ _ _ _ hy (h5.mono e1.old e1.next))
   refine⟨w.heap.size+1,[{ target:=.collected w.heap.size,args:=#[] }],W0.alloc (.loop lp),{ target:=.fn (.func g) ys,args:=#[.func (.yield (w.heap.size+1)) #[] #[]] },W0.alloc (.loop lp),g,
    (.func (.yield (w.heap.size+1)) #[] #[] :: ys.toList).toArray,W0.alloc (.loop lp),?_,?_,fun _ _=>trivial,?_,(fun h=>by cases h),Wide.calls (hcl.mono fun e w' hp=>?_)⟩
   ·rw[←hW0,hlp];exact run_enterLoop_outer _ _ _ _ _
   ·simp only[resolve,h3]
    simp[go_sem]
   ·have e2:(#[Value.func (.yield (w.heap.size+1)) #[] #[]]++ys)=(.func (.yield (w.heap.size+1)) #[] #[] :: ys.toList).toArray:=by simp
    simp only[invoke,e2,hen]
   ·obtain⟨y,rfl,A2,hev2,_⟩:=hp
    obtain⟨ob,hob,hor⟩:=hev2.mt.obj _ _ ho
    have hl:A2.ι h.next=w.heap.size+1:=by
     rw[(hev2.old h.next (Nat.lt_succ_self _)).1]
     simp[Sub.ext,hW0s]
    rw[hl]at hob
    have fin:∀(ex:Ex) (o':Obj),(⟨ex,t,⟨res.2.next,res.2.t.set h.next none⟩⟩:Out)∈outs→Q (exitOf ex) { a with defers:={ target:=.collected w.heap.size,args:=#[] } :: a.defers } (w'.putObj (w.heap.size+1) o'):=fun ex o' hin=>by
     have hnp:o.pin=none:=by
      split at he
      ·rfl
      ·rfl
      ·cases he
     have e3:=hev2.drop ho hnp o'
     rw[hl]at e3
     have e4:=e1.trans e3
     exact hQ _ hin _ _ ⟨A2,e0.trans e4,ht.mono (e0.trans e4).old (e0.trans e4).next,hmk.ev e4⟩
    split at he
    ·rename_i t' N' ps' a' b'
     obtain⟨rr,rfl,⟨h6,h7⟩,_⟩:=hor
     rw[Tr.put_set]at he
     injection he with he
     subst he
     exact⟨none,_,by rw[run_endLoop hob (by rw[h6];exact fun h=>by cases h),h7],fin .normal _ (List.mem_singleton.2 rfl)⟩
    ·rename_i ex t' N' ps' a' b'
     rw[Tr.put_set]at he
     injection he with he
     subst he
     cases ex with
     | normal =>
      obtain⟨rr,rfl,h6,_⟩:=hor
      exact h6.elim
     | ret =>
      obtain⟨rr,rfl,⟨h6,h7⟩,_⟩:=hor
      exact⟨some .ret,_,by rw[run_endLoop hob (by rw[h6];exact fun h=>by cases h),h7],wpIn_ret (fin .ret _ (List.mem_singleton.2 rfl))⟩
     | exit j =>
      obtain⟨rr,rfl,⟨h6,h7⟩,_⟩:=hor
      exact⟨some (.exit j),_,by rw[run_endLoop hob (by rw[h6];exact fun h=>by cases h),h7],wpIn_exit (fin (.exit j) _ (List.mem_singleton.2 rfl))⟩
    ·cases he
  ·cases he
 | refuse _ =>
  intro t h outs he
  cases he
theorem loop_ok {r:Option Nat} {k:Nat} {G:Cfg} {N n sk:Nat} {rf:Bool} (h1:∀(c:Code) t h outs,exec G n (vcB G.P N rf sk c) t h=some outs→dokC sk c=true→Runs G.P N c t h outs (fun Q a w=>c.wpIn (Wide r) k G.P Q a w))
  (h2:∀(c:Code) t h outs,exec G n (.loop (vcB G.P N rf sk c)) t h=some outs→dokC sk c=true→Runs G.P N c t h outs (fun Q a w=>Code.roundsIn (Wide r) k G.P c Q n a w)) :
  ∀(c:Code) t h outs,exec G (n+1) (.loop (vcB G.P N rf sk c)) t h=some outs→dokC sk c=true→Runs G.P N c t h outs (fun Q a w=>Code.roundsIn (Wide r) k G.P c Q (n+1) a w):=by
 intro c t h outs he hk
 exact seq_runs (next:=fun Q a w=>Code.roundsIn (Wide r) k G.P c Q n a w) he (fun t h outs hx=>h1 c t h outs hx hk) (fun t h outs hx=>h2 c t h outs hx hk)
end
section
variable {P:Program}
def resS (tmps:Array Value):ResultVar→Sem Value
 | .tmp t=>pure (tmps.getD t undef)
 | .cell a t=>do loadVar t (←asAddr (tmps.getD a undef))
theorem results_eq (fn:Func) (tmps:Array Value):results fn tmps=(do
  let vs ←fn.results.mapM (resS tmps)
  pure (if h:vs.size=1 then vs[0]else .tuple vs)):=by
 unfold results
 congr 1
theorem loadB_ptr {ty:TypeId} {r:Rd} {f:Fx} {C:CallF} {t:Tr V} {h:H} {K:V→H→Option (List Out)} {q:List Out} (hf:loadB P ty r=some f) (hq:f.f C t h K=some q):∃b o,r.val t=.p b o:=by
 unfold loadB at hf
 obtain⟨g,hg,hf⟩:=ob_some hf
 cases g with
 | false =>
  injection hf with hf
  subst hf
  simp only[rdK_eq]at hq
  obtain⟨b,o,hv,_⟩:=asP_some hq
  exact⟨b,o,hv⟩
 | true =>
  obtain⟨n,hn,hf⟩:=ob_some hf
  injection hf with hf
  subst hf
  simp only[rdK_eq]at hq
  obtain⟨b,o,hv,_⟩:=asP_some hq
  exact⟨b,o,hv⟩
theorem resB_ok {A:Sub} {h:H} {w:World} {N:Nat} {t:Tr V} {a:Act} (hm:Mt A h w) (ht:TRel A h.next N t a.tmps) {r:ResultVar} {f:Tr V→H→Option V} (hr:resB P r=some f) {v:V} (hv:f t h=some v) :
  ∃x,(resS a.tmps r).run P w=.ok x w∧Rel A h.next v x:=by
 cases r with
 | tmp k =>
  injection hr with hr
  subst hr
  refine⟨a.tmps.getD k undef,rfl,?_⟩
  have:=ht.2 k
  cases hk:t.get k with
  | none =>
   rw[hk]at this
   have hv:orr (Tr.getP (path k) t) (some V.u) (fun v=>some v)=some v:=hv
   rw[Tr.getP_path]at hv
   rw[hk]at hv
   injection hv with hv
   subst hv
   exact this
  | some u9 =>
   rw[hk]at this
   have hv:orr (Tr.getP (path k) t) (some V.u) (fun v=>some v)=some v:=hv
   rw[Tr.getP_path]at hv
   rw[hk]at hv
   injection hv with hv
   subst hv
   exact this
 | cell k ty =>
  obtain⟨f',hf,hr⟩:=ob_some hr
  injection hr with hr
  subst hr
  simp only at hv
  split at hv
  ·rename_i e l v' r' h' hq
   obtain⟨v2,h1,x,h2,h3⟩:=load_ok (C:=noC) (show rdB (.tmp k)=some (.t k)from rfl) hf ⟨none,.load ty (.tmp k),0,default,#[],none⟩ rfl A h w N t a _ _ hm ht hq
   have h1:some [(⟨.normal,.n .e (some v2) .e,h⟩:Out)]=some _:=h1
   injection h1 with h1
   injection h1 with h1 _
   injection h1 with _ h1 _
   injection h1 with _ h1 _
   subst h1
   injection hv with hv
   subst hv
   refine⟨x,?_,h3⟩
   obtain⟨b,o,hpt⟩:=loadB_ptr hf hq
   have hrel:=ht.2 k
   rw[show orU (t.get k)=.p b o from hpt]at hrel
   have had:=hrel.of_p.1
   have hev:a.eval (.tmp k)=.pointer (some ⟨A.ι b,(A.κ b).2+o,none⟩):=had
   simp only[execOp,hev,Instr.loadAt,Instr.sureAddr,Sem.run_bind,Sem.run_pure,Result.andThen_ok]at h2
   simp only[resS,had,asAddr,Sem.run_bind,Sem.run_pure,Result.andThen_ok]
   cases hl:(loadVar ty ⟨A.ι b,(A.κ b).2+o,none⟩).run P w with
   | ok y w2 =>
    rw[hl]at h2
    simp only[Result.andThen_ok]at h2
    injection h2 with h2 h2'
    injection h2 with h2
    rw[h2,h2']
   | halt x w2 =>
    rw[hl]at h2
    cases h2
  ·cases hv
theorem resL_ok {A:Sub} {h:H} {w:World} {N:Nat} {t:Tr V} {a:Act} (hm:Mt A h w) (ht:TRel A h.next N t a.tmps):∀{rs:List ResultVar} {fs:List (Tr V→H→Option V)} {l:List V},mapO (resB P) rs=some fs→mapO (fun f=>f t h) fs=some l →
  ∃ys:List Value,(rs.mapM (resS a.tmps)).run P w=.ok ys w∧RelL A h.next l ys
 | [],fs,l,h1,h2=>by
  obtain rfl:=mapO_nil h1
  obtain rfl:=mapO_nil h2
  exact⟨[],rfl,.nil⟩
 | r :: rs,fs,l,h1,h2=>by
  obtain⟨f,fs',h3,h4,rfl⟩:=mapO_cons h1
  obtain⟨v,l',h5,h6,rfl⟩:=mapO_cons h2
  obtain⟨x,h7,h8⟩:=resB_ok hm ht h3 h5
  obtain⟨ys,h9,h10⟩:=resL_ok hm ht h4 h6
  refine⟨x :: ys,?_,.cons _ _ _ _ h8 h10⟩
  simp[List.mapM_cons,h7,h9]
theorem resultsV_ok {A:Sub} {w:World} {N:Nat} {a:Act} {fn:Func} {fs:List (Tr V→H→Option V)} {o:Out} {p:V × H} (hm:Mt A o.h w) (ht:TRel A o.h.next N o.t a.tmps) (hf:mapO (resB P) fn.results.toList=some fs) (hr:resultsV fs o=some p) :
  (o.x=.normal∨o.x=.ret)∧p.2=o.h∧∃x,(results fn a.tmps).run P w=.ok x w∧Rel A o.h.next p.1 x:=by
 unfold resultsV at hr
 obtain⟨hx,hr⟩:=bb_some hr
 obtain⟨l,hl,hr⟩:=ob_some hr
 obtain⟨ys,h1,h2⟩:=resL_ok hm ht hf hl
 have h3:(fn.results.mapM (resS a.tmps)).run P w=.ok ys.toArray w:=by
  rw[Array.mapM_eq_mapM_toList]
  simp[h1]
 refine⟨?_,?_⟩
 ·cases ho:o.x with
  | normal=>exact .inl rfl
  | ret=>exact .inr rfl
  | exit n=>rw[ho]at hx;cases hx
 ·rw[results_eq]
  simp only[Sem.run_bind,h3,Result.andThen_ok,Sem.run_pure]
  split at hr
  ·injection hr with hr
   subst hr
   refine⟨rfl,_,rfl,?_⟩
   cases h2
   exact .u
  ·injection hr with hr
   subst hr
   refine⟨rfl,_,rfl,?_⟩
   cases h2 with
   | cons v x l xs hv hl =>
    cases hl
    exact hv
  ·rename_i l' hn1 hn2
   injection hr with hr
   subst hr
   refine⟨rfl,_,rfl,?_⟩
   have hlen:=h2.length
   have:¬ys.toArray.size=1:=fun h=>by
    have h4:l.length=1:=by rw[←hlen];simpa using h
    match l,h4 with
    | [v],_=>exact hn2 v rfl
   rw[dif_neg this]
   exact .tup _ _ (by simpa using h2)
end
theorem fuB_some {G:Cfg} {f:FuncId} {F:Fu} (h:fuB G f=some F):Nat.testBit G.fs f=true∧∃fn c,G.P.funcs[f]?=some fn∧fn.body=some c∧F.n=fn.ntmps∧mapO (resB G.P) fn.results.toList=some F.rs∧F.c=vcB G.P fn.ntmps true (G.sk f) c:=by
 unfold fuB at h
 obtain⟨h1,h⟩:=bb_some h
 obtain⟨fn,hf,h⟩:=ob_some h
 obtain⟨c,hc,h⟩:=ob_some h
 rw[fN_eq]at h
 obtain⟨rs,hrs,h⟩:=ob_some h
 rw[fB_eq]at h
 injection h with h
 subst h
 exact⟨h1,fn,c,hf,hc,rfl,hrs,rfl⟩
theorem trel_args {A:Sub} {n N:Nat} {args:List V} {xs:List Value} (hr:RelL A n args xs) (hl:args.length≤N):TRel A n N (Tr.putsL args .e 0) (xs.toArray++Array.replicate (N-xs.toArray.size) undef):=by
 have hlen:=hr.length
 refine⟨by simp;omega,fun k=>?_⟩
 rw[Tr.get_putsL,Array.getD_eq_getD_getElem?]
 by_cases hk:k<args.length
 ·rw[if_pos ⟨Nat.zero_le _,by omega⟩,Nat.sub_zero]
  have h1:args[k]?=some args[k]:=List.getElem?_eq_getElem hk
  obtain⟨y,hy,h2⟩:=hr.get h1
  rw[Array.getElem?_append_left (by simp;omega),List.getElem?_toArray,hy,h1]
  exact h2
 ·rw[if_neg (by omega),Tr.get_e,Array.getElem?_append_right (by simp;omega),Array.getElem?_replicate]
  split <;> exact .u
theorem Ev.shut {A0 A:Sub} {h0 h:H} {w0 w:World} (e:Ev A0 h0 w0 A h w) {D:Nat} {o o':Obj} (_hD:w.heap[D]?=some o) (hlo:w0.heap.size≤D) (hi:∀b O,h.t.get b=some O→A.ι b≠D):Ev A0 h0 w0 A h (w.putObj D o'):=by
 have hs:(w.putObj D o').heap.size=w.heap.size:=by simp[World.putObj]
 have hne:∀k,k≠D→(w.putObj D o').heap[k]?=w.heap[k]?:=fun k hk=>World.putObj_heap_other hk
 refine⟨⟨e.mt.lt,fun b O hb=>?_,e.mt.inj⟩,e.next,e.old,e.src,fun k hk hn=>?_,by rw[hs];exact e.size,e.os,e.tape,e.output,fun b O g hb hp=>?_⟩
 ·obtain⟨x,hx,hr⟩:=e.mt.obj b O hb
  exact⟨x,(hne _ (hi b O hb)).trans hx,hr⟩
 ·rw[hne k (by omega)]
  exact e.fr k hk hn
 ·obtain⟨h1,⟨O',h2,h3⟩,h4⟩:=e.pin b O g hb hp
  exact⟨h1,⟨O',h2,h3⟩,(hne _ (by rw[←h1];exact hi b O' h2)).trans h4⟩
theorem leaves {P:Program} {fn:Func} {R:Ending→World→Prop} {A0 A:Sub} {h0 h:H} {w0:World} {tmps:Array Value} (hR:∀w,Ev A0 h0 w0 A h w→∃v,(results fn tmps).run P w=.ok v w∧R (.returned v) w) :
  ∀(ds:List Deferred) (w:World),Ev A0 h0 w0 A h w→Marks w0.heap.size A h w ds→LeavesInM (Wide none) 0 P fn tmps R ds .returning w
 | [],w,he,_=>hR w he
 | d :: ds,w,he,hm=>by
  obtain⟨D,h1,h2,h3,h4⟩:=hm.2 d (by simp)
  refine⟨(fun h=>by cases h),.inl ⟨D,_,by rw[h1],run_takeDeferred h3,leaves hR ds _ (he.shut h3 h2 h4) ⟨⟨by simpa using hm.1.1,(List.nodup_cons.1 hm.1.2).2⟩,fun d' hd'=>?_⟩⟩⟩
  obtain⟨D',h1',h2',h3',h4'⟩:=hm.2 d' (by simp[hd'])
  have hne:D'≠D:=fun e=>(List.nodup_cons.1 hm.1.2).1 (by rw[h1,←e,←h1'];exact hd')
  exact⟨D',h1',h2',(World.putObj_heap_other hne).trans h3',h4'⟩
theorem callF_ok {G:Cfg} (hG:Fits G) {ex:Vc→Tr V→H→Option (List Out)} (h1:∀(N sk:Nat) (c:Code) t h outs,ex (vcB G.P N true sk c) t h=some outs→dokC sk c=true→Runs G.P N c t h outs (fun Q a w=>c.wpIn (Wide none) 0 G.P Q a w))
  (f:FuncId) (args:List V) (h:H) (r:V × H) (hr:callF G ex f args h=some r):(∀(xs:Array Value) (w:World),(callFunc f xs).run G.P w=.ok (.enter f xs) w) ∧
  ∀(A:Sub) (w:World) (xs:List Value),Mt A h w→RelL A h.next args xs→Calls G.P f xs.toArray w fun e w'=>∃x,e=.returned x∧Post A h w r.1 r.2 x w':=by
 unfold callF at hr
 cases hmm:G.memo f args h with
 | some v =>
  rw[hmm]at hr
  injection hr with hr
  subst hr
  exact hG.memo f args h v hmm
 | none =>
  rw[hmm]at hr
  obtain⟨F,hF,hr⟩:=ob_some (show ob (fuB G f) _=some r from hr)
  obtain⟨hle,hr⟩:=bb_some hr
  rw[Tr.putL_eq]at hr
  obtain⟨hbit,fn,c,hfn,hc,hn,hrs,hFc⟩:=fuB_some hF
  obtain⟨hname,hdok⟩:=hG.fit f fn hbit hfn
  refine⟨fun xs w=>Go.MuLone.run_callFunc_enter hfn hname hc xs w,fun A w xs hm hrel=>(callsIn_wide (n:=0)).1 (callsIn_of_wp_marks (F:=Wide none) hfn hc trivial ?_)⟩
  have hle:args.length≤fn.ntmps:=by rw[←hn];exact Nat.le_of_ble_eq_true hle
  have ht:=trel_args hrel hle
  rw[hFc]at hr
  cases hp:F.pure&&flatL args with
  | true =>
   rw[hp,br_t]at hr
   obtain⟨outs,ho,hr⟩:=ob_some hr
   obtain⟨ps,hps,hr⟩:=ob_some hr
   split at hr
   ·rename_i x rest
    obtain⟨hx,hr⟩:=bb_some hr
    injection hr with hr
    subst hr
    simp only[Bool.and_eq_true,List.all_eq_true]at hx
    refine h1 fn.ntmps (G.sk f) c _ ⟨h.next,.e⟩ outs ho (hdok c hc) w.heap.size A w _ _ (Mt.empty A h.next w) ht (.nil (Nat.le_refl _)) fun o hoo a' w' hres=>?_
    obtain⟨A',hev,ht',hd'⟩:=hres
    obtain⟨p,hpm,hp⟩:=mapO_mem hps o hoo
    have hpx:p.1=x.1:=by
     rcases List.mem_cons.1 hpm with rfl | hpm
     ·rfl
     ·exact same_eq _ _ (hx.2 p hpm)
    have key:LeavesInM (Wide none) 0 G.P fn a'.tmps (fun e w'=>∃x',e=Ending.returned x'∧Post A h w x.1 h x' w') a'.defers .returning w':=leaves (fun w2 hev2=>by
     obtain⟨_,_,y,hy,hrel'⟩:=resultsV_ok hev2.mt ht' hrs hp
     rw[hpx]at hrel'
     exact⟨y,hy,y,rfl,A,.of_below hm (Ev.below (h:=h) hev2),hrel'.of_flat hx.1⟩) a'.defers w' hev hd'
    obtain⟨hox,_⟩:=resultsV_ok hev.mt ht' hrs hp
    rcases hox with hox | hox <;> rw[hox] <;> exact key
   ·cases hr
  | false =>
   rw[hp,br_f]at hr
   obtain⟨outs,ho,hr⟩:=ob_some hr
   split at hr
   ·rename_i o
    refine h1 fn.ntmps (G.sk f) c _ h [o] ho (hdok c hc) w.heap.size A w _ _ hm ht (.nil (Nat.le_refl _)) fun o' hoo a' w' hres=>?_
    obtain rfl:=List.mem_singleton.1 hoo
    obtain⟨A',hev,ht',hd'⟩:=hres
    have key:LeavesInM (Wide none) 0 G.P fn a'.tmps (fun e w'=>∃x',e=Ending.returned x'∧Post A h w r.1 o'.h x' w') a'.defers .returning w':=leaves (fun w2 hev2=>by
     obtain⟨_,_,y,hy,hrel'⟩:=resultsV_ok hev2.mt ht' hrs hr
     exact⟨y,hy,y,rfl,A',hev2,hrel'⟩) a'.defers w' hev hd'
    obtain⟨hox,hph,_⟩:=resultsV_ok hev.mt ht' hrs hr
    rw[hph]
    rcases hox with hox | hox <;> rw[hox] <;> exact key
   ·cases hr
theorem putPs_some {N:Nat} {A:Sub} {n:Nat} {K:Tr V→Option (V × H)} {q:V × H}:∀{ps:List Nat} {l:List V} {t:Tr V} {xs:List Value} {a:Array Value},putPs ps t l K=some q→TRel A n N t a→RelL A n l xs→(∀p∈ps,p<N) →
  ∃t',K t'=some q∧xs.length=ps.length∧TRel A n N t' ((ps.zip xs).foldl (fun t (p,v)=>t.setIfInBounds p v) a)
 | [],[],t,xs,a,h,ht,hr,_=>by
  cases hr
  exact⟨t,h,rfl,ht⟩
 | p :: ps,v :: l,t,xs,a,h,ht,hr,hp=>by
  cases hr with
  | cons _ x _ xs h1 h2 =>
   have h:Tr.put (some v) t p (fun t=>putPs ps t l K)=some q:=h
   rw[Tr.put_set]at h
   obtain⟨t',h3,h4,h5⟩:=putPs_some h (ht.put h1 (hp p (by simp))) h2 (fun p hp'=>hp p (by simp[hp']))
   exact⟨t',h3,by simp[h4],h5⟩
 | [],_ :: _,_,_,_,h,_,_,_=>by cases h
 | _ :: _,[],_,_,_,h,_,_,_=>by cases h
theorem Ev.state {A:Sub} {h:H} {w:World} (hm:Mt A h w) {b:Nat} {st st':Ls} {t:Tr V} {N:Nat} {ps:List Nat} {as bd:Code} {r r':Loop} (hb:h.t.get b=some (.loop st t N ps as bd)) (hr:w.heap[A.ι b]?=some (.loop r))
  (h1:r'.tmps=r.tmps) (h2:r'.params=r.params) (h3:r'.assign=r.assign) (h4:r'.body=r.body) (h5:StRel st' r'.state r'.pending):Ev A h w A ⟨h.next,h.t.set b (some (.loop st' t N ps as bd))⟩ (w.putObj (A.ι b) (.loop r')):=by
 obtain⟨x,hx,r0,rfl,_,g1,g2,g3,g4,g5⟩:=hm.obj b _ hb
 rw[hr]at hx
 injection hx with hx
 injection hx with hx
 subst hx
 have hlt:A.ι b<w.heap.size:=(Array.getElem?_eq_some_iff.1 hr).1
 exact Ev.upd hm hb rfl ⟨r',rfl,h5,by rw[h1];exact g1,by rw[h2];exact g2,by rw[h3];exact g3,by rw[h4];exact g4,g5⟩ (World.putObj_heap_same hlt) (fun k hk=>World.putObj_heap_other hk) (by simp) rfl rfl rfl
theorem loop_of {A:Sub} {h:H} {w:World} (hm:Mt A h w) {b:Nat} {st:Ls} {t:Tr V} {N:Nat} {ps:List Nat} {as bd:Code} (hb:h.t.get b=some (.loop st t N ps as bd)):∃r:Loop,w.heap[A.ι b]?=some (.loop r)∧StRel st r.state r.pending∧TRel A h.next N t r.tmps∧r.params=ps.toArray∧r.assign=as∧r.body=bd∧(∀p∈ps,p<N)∧dokC 0 as=true∧dokC 0 bd=true:=by
 obtain⟨x,hx,r,rfl,h1⟩:=hm.obj b _ hb
 exact⟨r,hx,h1⟩
theorem yieldS_ok {G:Cfg} {ex:Vc→Tr V→H→Option (List Out)} (h1:∀(k:Option Nat) (n N:Nat) (c:Code) t h outs,ex (vcB G.P N false 0 c) t h=some outs→dokC 0 c=true→Runs G.P N c t h outs (fun Q a w=>c.wpIn (Wide k) n G.P Q a w))
  (b:Nat) (args:List V) (h:H) (res:V × H) (hr:yieldS G.P ex b args h=some res) (A:Sub) (w:World) (xs:List Value) (hm:Mt A h w) (hrel:RelL A h.next args xs) :
  ∃fn tmps assign body,(Instr.yield (A.ι b) xs.toArray).run G.P w=.ok (.round (A.ι b) fn tmps assign body) w∧∀(k:Option Nat) (n:Nat),RoundIn (Wide k) n G.P (A.ι b) fn tmps assign body w fun e w'=>∃x,e=.returned x∧Post A h w res.1 res.2 x w':=by
 unfold yieldS at hr
 obtain⟨o,ho,hr⟩:=ob_some hr
 split at hr
 ·rename_i t N ps as bd
  obtain⟨rr,hrr,⟨hst,_⟩,htr,hps,has,hbd,hlt,hk1,hk2⟩:=loop_of hm ho
  obtain⟨t1,hr,hlen,ht1⟩:=putPs_some hr htr hrel hlt
  obtain⟨l1,hl1,hr⟩:=ob_some hr
  have hfold:(rr.params.zip xs.toArray).foldl (fun t (p,v)=>t.setIfInBounds p v) rr.tmps=(ps.zip xs).foldl (fun t (p,v)=>t.setIfInBounds p v) rr.tmps:=by
   rw[hps]
   simp
  refine⟨rr.fn,_,rr.assign,rr.body,run_yield hrr (by rw[hps];simpa using hlen),fun k n=>roundIn_of_wpIn trivial ?_⟩
  split at hr
  ·rename_i t2 h2
   obtain⟨o2,ho2,hr⟩:=ob_some hr
   split at hr
   ·rename_i t3 N3 ps3 as3 bd3
    rw[Tr.put_set]at hr
    obtain⟨l2,hl2,hr⟩:=ob_some hr
    rw[has,hbd]
    refine h1 (some (A.ι b)) n N as t1 h _ hl1 hk1 w.heap.size A w _ _ hm (by rw[hfold];exact ht1) (.nil (Nat.le_refl _)) fun o hoo a' w' hres=>?_
    obtain rfl:=List.mem_singleton.1 hoo
    obtain⟨A',hev,ht',hmk⟩:=hres
    obtain⟨r2,hr2,⟨hst2,_⟩,_⟩:=loop_of hev.mt ho2
    have e2:=Ev.state (st':=.busy) (r':={ r2 with state:=.busy }) hev.mt ho2 hr2 rfl rfl rfl rfl rfl
    have hob:A'.ι b=A.ι b:=(hev.old b (hm.lt b _ ho)).1
    rw[hob]at hr2 e2
    refine⟨_,run_beginRound hr2 hst2,h1 (some (A.ι b)) n N bd t2 ⟨h2.next,_⟩ l2 hl2 hk2 w.heap.size A' _ a' _ e2.mt ht' (hmk.ev e2) fun o4 ho4 a4 w4 hres4=>?_⟩
    split at hr
    ·rename_i x t4 h4
     obtain rfl:=List.mem_singleton.1 ho4
     obtain⟨A4,hev4,_,_⟩:=hres4
     obtain⟨o5,ho5,hr⟩:=ob_some hr
     split at hr
     ·rename_i t5 N5 ps5 as5 bd5
      obtain⟨r5,hr5,hst5,_⟩:=loop_of hev4.mt ho5
      have hob4:A4.ι b=A.ι b:=((hev4.old b (Nat.lt_of_lt_of_le (hm.lt b _ ho) (Nat.le_trans hev.next e2.next))).1).trans hob
      have fin:∀(jump:Option Code) (st':Ls) (v:V),StRel st' (if jump.isNone then .ready else .done) jump→v=.b jump.isNone→Tr.put (some (.loop st' t5 N5 ps5 as5 bd5)) h4.t b (fun tr=>some (v,(⟨h4.next,tr⟩:H)))=some res →
        ∃v' w',(Instr.endRound (A.ι b) jump).run G.P w4=.ok v' w'∧∃x,Ending.returned v'=.returned x∧Post A h w res.1 res.2 x w':=fun jump st' v hs hv hq=>by
       rw[Tr.put_set]at hq
       injection hq with hq
       subst hq
       subst hv
       have e5:=Ev.state (st':=st') (r':={ r5 with state:=if jump.isNone then .ready else .done,pending:=jump }) hev4.mt ho5 hr5 rfl rfl rfl rfl hs
       rw[hob4]at hr5 e5
       exact⟨_,_,run_endRound jump hr5,_,rfl,A4,(hev.trans e2).trans (hev4.trans e5),.b _⟩
      cases x with
      | normal=>exact fin none .ready (.b true) ⟨rfl,rfl⟩ rfl hr
      | exit j=>exact fin (some (.exit j)) (.done (.exit j)) (.b false) ⟨rfl,rfl⟩ rfl hr
      | ret=>exact fin (some .ret) (.done .ret) (.b false) ⟨rfl,rfl⟩ rfl hr
     ·cases hr
    ·cases hr
   ·cases hr
  ·cases hr
 ·cases hr
theorem callS_ok {G:Cfg} (hG:Fits G) {ex:Vc→Tr V→H→Option (List Out)} (h1:∀(N sk:Nat) (c:Code) t h outs,ex (vcB G.P N true sk c) t h=some outs→dokC sk c=true→Runs G.P N c t h outs (fun Q a w=>c.wpIn (Wide none) 0 G.P Q a w))
  (h2:∀(k:Option Nat) (n N:Nat) (c:Code) t h outs,ex (vcB G.P N false 0 c) t h=some outs→dokC 0 c=true→Runs G.P N c t h outs (fun Q a w=>c.wpIn (Wide k) n G.P Q a w)):CallOk G.P (callS G ex):=⟨fun f args h r hr=>callF_ok hG h1 f args h r hr,fun b args h r hr=>yieldS_ok h2 b args h r hr⟩
theorem exec_ok {G:Cfg} (hG:Fits G):∀(n:Nat) (r:Option Nat) (k N sk:Nat) (rf:Bool),(rf=true→r=none)→(∀(c:Code) t h outs,exec G n (vcB G.P N rf sk c) t h=some outs→dokC sk c=true→Runs G.P N c t h outs (fun Q a w=>c.wpIn (Wide r) k G.P Q a w)) ∧
  (∀(c:Code) t h outs,exec G n (.loop (vcB G.P N rf sk c)) t h=some outs→dokC sk c=true→Runs G.P N c t h outs (fun Q a w=>Code.roundsIn (Wide r) k G.P c Q n a w))
 | 0,r,k,N,sk,rf,_=>⟨fun c t h outs he=>(by cases he),fun c t h outs he=>(by cases he)⟩
 | n+1,r,k,N,sk,rf,hrf=>⟨execS_ok hG (callS_ok hG (fun N sk=>(exec_ok hG n none 0 N sk true (fun _=>rfl)).1) (fun k m N=>(exec_ok hG n k m N 0 false (fun h=>by cases h)).1)) hrf (exec_ok hG n r k N sk rf hrf).1 n (exec_ok hG n r k N sk rf hrf).2,loop_ok (exec_ok hG n r k N sk rf hrf).1 (exec_ok hG n r k N sk rf hrf).2⟩
end Go.Proofs.YtkcdehffcddciaaGreatDoor.Vm
