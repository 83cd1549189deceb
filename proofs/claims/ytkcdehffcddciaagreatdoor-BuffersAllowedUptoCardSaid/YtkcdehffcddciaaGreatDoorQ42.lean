/- PLAIN: facts of calls: of a call whose arguments and memory look like a pattern, what it leaves. -/
import Derived.Test.YtkcdehffcddciaaGreatDoorQ02
import Derived.Test.YtkcdehffcddciaaGreatDoorQ10
namespace Go.Proofs.YtkcdehffcddciaaGreatDoor.Vm
open Go
noncomputable section
inductive PO where
 | cells (elem:TypeId) (opn:Bool) (l:List V)
 | ro (pin:Option Nat) (elem:TypeId) (l:List V)
 | map (es:List En) (clock:Nat)
def PO.toO:PO→O
 | .cells e p l=>.cells e l.length p (Tr.putsL l .e 0)
 | .ro pin e l=>.ro pin e l.length (Tr.putsL l .e 0)
 | .map es c=>.map es c
structure Fact where
 f:FuncId
 r:Nat
 args:List V
 pre:List (Option PO)
 v:V
 post:List (Option PO)
def trOf:List (Option PO)→Nat→Tr O
 | [],_=>.e
 | none :: l,n=>trOf l (n+1)
 | some x :: l,n=>(trOf l (n+1)).set n (some x.toO)
def hOf (l:List (Option PO)):H:=⟨l.length,trOf l 0⟩
/-! ### Looking for the blocks (what it finds is checked) -/
def mB (ρ:List Nat) (b b':Nat):List Nat:=br (Nat.blt b ρ.length) ρ (br (Nat.beq b ρ.length) (ρ++[b']) ρ)
mutual
def mV (ρ:List Nat):V→V→List Nat
 | .p b _,.p b' _=>mB ρ b b'
 | .sl b _ _ _ _ _,.sl b' _ _ _ _ _=>mB ρ b b'
 | .m b,.m b'=>mB ρ b b'
 | .fn _ l r,.fn _ l' r'=>mVL (mVL ρ l l') r r'
 | .iface _ v,.iface _ v'=>mV ρ v v'
 | .agg l,.agg l'=>mVL ρ l l'
 | .tup l,.tup l'=>mVL ρ l l'
 | _,_=>ρ
def mVL (ρ:List Nat):List V→List V→List Nat
 | v :: l,v' :: l'=>mVL (mV ρ v v') l l'
 | _,_=>ρ
end
def mCf (ρ:List Nat) (c:Tr V):List V→Nat→List Nat
 | [],_=>ρ
 | v :: l,o=>match c.get o with
  | some v'=>mCf (mV ρ v v') c l (Nat.succ o)
  | none=>ρ
def mE (ρ:List Nat):List En→List En→List Nat
 | e :: l,e' :: l'=>mE (mV ρ e.v e'.v) l l'
 | _,_=>ρ
def mO (ρ:List Nat) (p:PO) (o:O):List Nat:=match p,o with
 | .cells _ _ l,.cells _ _ _ c=>mCf ρ c l 0
 | .ro _ _ l,.ro _ _ _ c=>mCf ρ c l 0
 | .map es _,.map es' _=>mE ρ es es'
 | _,_=>ρ
def forceL {β:Type} (l:List Nat):(List Nat→Option β)→Option β:=List.rec (motive:=fun _=>(List Nat→Option β)→Option β) (fun K=>K []) (fun b _ ih K=>fN b fun b=>ih fun l=>K (b :: l)) l
def mH {β:Type} (h:Tr O):List (Option PO)→Nat→List Nat→(List Nat→Option β)→Option β
 | [],_,ρ,K=>K ρ
 | none :: l,j,ρ,K=>fN (Nat.succ j) fun j=>mH h l j ρ K
 | some p :: l,j,ρ,K=>ob ρ[j]? fun b=>ob (h.get b) fun o=>forceL (mO ρ p o) fun ρ=>fN (Nat.succ j) fun j=>mH h l j ρ K
/-! ### Checking -/
def eB (ρ:List Nat) (b b':Nat):Bool:=match ρ[b]? with
 | some c=>Nat.beq c b'
 | none=>false
mutual
def eV (ρ:List Nat):V→V→Bool
 | .u,.u=>true
 | .b x,.b y=>x == y
 | .i k n,.i j m=>decide (k=j)&&n == m
 | .s x,.s y=>x == y
 | .p b o,.p b' o'=>eB ρ b b'&&Nat.beq o o'
 | .np,.np=>true
 | .sl b o l c k z,.sl b' o' l' c' k' z'=>eB ρ b b'&&Nat.beq o o'&&Nat.beq l l'&&Nat.beq c c'&&k == k'&&Nat.beq z z'
 | .ns,.ns=>true
 | .m b,.m b'=>eB ρ b b'
 | .nm,.nm=>true
 | .fn f l r,.fn g l' r'=>decide (f=g)&&eVL ρ l l'&&eVL ρ r r'
 | .nf,.nf=>true
 | .iface t v,.iface t' v'=>Nat.beq t t'&&eV ρ v v'
 | .ni,.ni=>true
 | .agg l,.agg l'=>eVL ρ l l'
 | .tup l,.tup l'=>eVL ρ l l'
 | .se,.se=>true
 | _,_=>false
def eVL (ρ:List Nat):List V→List V→Bool
 | [],[]=>true
 | v :: l,v' :: l'=>eV ρ v v'&&eVL ρ l l'
 | _,_=>false
end
def eC (ρ:List Nat) (c:Tr V):List V→Nat→Bool
 | [],_=>true
 | v :: l,o=>match c.get o with
  | some v'=>eV ρ v v'&&eC ρ c l (Nat.succ o)
  | none=>false
def eE (ρ:List Nat):List En→List En→Bool
 | [],[]=>true
 | e :: l,e' :: l'=>decide (e.k=e'.k)&&e.n == e'.n&&Nat.beq e.born e'.born&&eV ρ e.v e'.v&&eE ρ l l'
 | _,_=>false
def eO (ρ:List Nat) (p:PO) (o:O):Bool:=match p,o with
 | .cells e k l,.cells e' hi k' c=>Nat.beq e e'&&k == k'&&Nat.beq l.length hi&&eC ρ c l 0
 | .ro pin e l,.ro pin' e' hi c=>decide (pin=pin')&&Nat.beq e e'&&Nat.beq l.length hi&&eC ρ c l 0
 | .map es k,.map es' k'=>Nat.beq k k'&&eE ρ es es'
 | _,_=>false
def eH (ρ:List Nat) (h:Tr O):List (Option PO)→Nat→Bool
 | [],_=>true
 | none :: l,j=>eH ρ h l (Nat.succ j)
 | some p :: l,j=>match ρ[j]? with
  | some b=>(match h.get b with
   | some o=>eO ρ p o
   | none=>false)&&eH ρ h l (Nat.succ j)
  | none=>false
def notIn (b:Nat):List Nat→Bool
 | []=>true
 | c :: l=>!(Nat.beq b c)&&notIn b l
def apartL:List Nat→Bool
 | []=>true
 | b :: l=>notIn b l&&apartL l
def allLt (n:Nat):List Nat→Bool
 | []=>true
 | b :: l=>Nat.blt b n&&allLt n l
def uptoN:Nat→List Nat→List Nat
 | 0,l=>l
 | n+1,l=>uptoN n (n :: l)
def keeps:Nat→Nat→List Nat→Bool
 | 0,_,_=>true
 | n+1,j,b :: l=>Nat.beq b j&&keeps n (Nat.succ j) l
 | _+1,_,[]=>false
def pinned:Option PO→Option Nat
 | some (.ro pin _ _)=>pin
 | _=>none
def pinsOk:List (Option PO)→List (Option PO)→Bool
 | [],_=>true
 | x :: l,y :: r=>(match pinned x with
  | some _=>decide (pinned y=pinned x)
  | none=>true)&&pinsOk l r
 | x :: l,[]=>(pinned x).isNone&&pinsOk l []
def noNone:List (Option PO)→Bool
 | []=>true
 | none :: _=>false
 | some _ :: l=>noNone l
def okM (ρ:List Nat) (h:H) (args args':List V) (pre:List (Option PO)):Bool:=Nat.beq ρ.length pre.length&&(eVL ρ args args'&&(eH ρ h.t pre 0&&(apartL ρ&&allLt h.next ρ)))
/-! ### Laying what is told -/
def num (ρ:List Nat) (k base b:Nat):Nat:=match ρ[b]? with
 | some c=>c
 | none=>Nat.add base (Nat.sub b k)
mutual
def iV (g:Nat→Nat):V→V
 | .p b o=>.p (g b) o
 | .sl b o l c k z=>.sl (g b) o l c k z
 | .m b=>.m (g b)
 | .y b=>.y (g b)
 | .fn f l r=>.fn f (iVL g l) (iVL g r)
 | .iface t v=>.iface t (iV g v)
 | .agg l=>.agg (iVL g l)
 | .tup l=>.tup (iVL g l)
 | v=>v
def iVL (g:Nat→Nat):List V→List V
 | []=>[]
 | v :: l=>iV g v :: iVL g l
end
section
variable {β:Type}
mutual
def iK (g:Nat→Nat):V→(V→Option β)→Option β
 | .p b o,K=>fN (g b) fun b=>K (.p b o)
 | .sl b o l c k z,K=>fN (g b) fun b=>K (.sl b o l c k z)
 | .m b,K=>fN (g b) fun b=>K (.m b)
 | .y b,K=>fN (g b) fun b=>K (.y b)
 | .fn f l r,K=>iKL g l fun l=>iKL g r fun r=>K (.fn f l r)
 | .iface t v,K=>iK g v fun v=>K (.iface t v)
 | .agg l,K=>iKL g l fun l=>K (.agg l)
 | .tup l,K=>iKL g l fun l=>K (.tup l)
 | v,K=>K v
def iKL (g:Nat→Nat):List V→(List V→Option β)→Option β
 | [],K=>K []
 | v :: l,K=>iK g v fun v=>iKL g l fun l=>K (v :: l)
end
def iKE (g:Nat→Nat):List En→(List En→Option β)→Option β
 | [],K=>K []
 | e :: l,K=>iK g e.v fun v=>iKE g l fun l=>K (⟨e.k,e.n,v,e.born⟩ :: l)
def iO (g:Nat→Nat):PO→O
 | .cells e p l=>.cells e l.length p (Tr.putsL (iVL g l) .e 0)
 | .ro pin e l=>.ro pin e l.length (Tr.putsL (iVL g l) .e 0)
 | .map es c=>.map (es.map fun e=>⟨e.k,e.n,iV g e.v,e.born⟩) c
def iKO (g:Nat→Nat) (p:PO) (K:O→Option β):Option β:=match p with
 | .cells e p l=>iKL g l fun l'=>Tr.putL l' .e 0 fun c=>fN l.length fun n=>K (.cells e n p c)
 | .ro pin e l=>iKL g l fun l'=>Tr.putL l' .e 0 fun c=>fN l.length fun n=>K (.ro pin e n c)
 | .map es c=>iKE g es fun es=>K (.map es c)
def layK (g:Nat→Nat):List (Option PO)→Nat→Tr O→(Tr O→Option β)→Option β
 | [],_,t,K=>K t
 | none :: l,j,t,K=>Tr.put none t (g j) fun t=>layK g l (Nat.succ j) t K
 | some p :: l,j,t,K=>iKO g p fun o=>Tr.put (some o) t (g j) fun t=>layK g l (Nat.succ j) t K
end
def useF (F:Fact) (args:List V) (h:H):Option (V × H) :=
 forceL (mVL (uptoN F.r []) F.args args) fun ρ=>mH h.t F.pre 0 ρ fun ρ=>bb (okM ρ h F.args args F.pre) (bb (noNone F.pre&&Nat.ble F.pre.length F.post.length) (fN F.pre.length fun k =>
  layK (num ρ k h.next) F.post 0 h.t fun t=>iK (num ρ k h.next) F.v fun v=>fN (Nat.add h.next (Nat.sub F.post.length k)) fun n=>some (v,⟨n,t⟩)))
def tells (F:Fact) (r:V × H):Option Unit :=
 forceL (mVL (uptoN F.pre.length []) [F.v] [r.1]) fun ρ=>mH r.2.t F.post 0 ρ fun ρ=>bb (Nat.ble F.pre.length F.post.length) (bb (okM ρ r.2 [F.v] [r.1] F.post) (bb (keeps F.pre.length 0 ρ) (bb (pinsOk F.pre F.post) (some ()))))
def callL (G:Cfg) (n:Nat) (f:FuncId) (args:List V) (h:H):Option (List (V × H)):=ob (fuB G f) fun F=>bb (Nat.ble args.length F.n) (Tr.putL args .e 0 fun t=>ob (exec G n F.c t h) fun l=>mapO (resultsV F.rs) l)
def runF (G:Cfg) (n:Nat) (F:Fact):Bool:=match callL G n F.f F.args (hOf F.pre)with
 | some l=>l.all fun r=>(tells F r).isSome
 | none=>false
def factsF:List Fact→FuncId→List V→H→Option (V × H)
 | [],_,_,_=>none
 | F :: l,f,args,h=>br (Nat.beq f F.f) (orr (useF F args h) (factsF l f args h) fun r=>some r) (factsF l f args h)
end
end Go.Proofs.YtkcdehffcddciaaGreatDoor.Vm
namespace Go.Proofs.YtkcdehffcddciaaGreatDoor.Vm
open Go Go.RowKit
def Sub.of (A:Sub) (ρ:List Nat):Sub:=⟨fun b=>A.ι (ρ.getD b 0),fun b=>A.κ (ρ.getD b 0)⟩
section
variable {A:Sub} {n:Nat} {ρ:List Nat}
theorem eB_get {b b':Nat} (h:eB ρ b b'=true):ρ[b]?=some b':=by
 unfold eB at h
 split at h
 ·rename_i c hc
  rw[hc,Nat.eq_of_beq_eq_true h]
 ·cases h
theorem of_get {b b':Nat} (h:ρ[b]?=some b'):b<ρ.length∧(A.of ρ).ι b=A.ι b'∧(A.of ρ).κ b=A.κ b':=by
 refine⟨(List.getElem?_eq_some_iff.1 h).1,?_,?_⟩ <;> simp[Sub.of,List.getD_eq_getElem?_getD,h]
mutual
theorem eV_rel:∀(p a:V) {x:Value},eV ρ p a=true→Rel A n a x→Rel (A.of ρ) ρ.length p x
 | .u,a,x,h,hr=>by cases a <;> first |(simp[eV]at h;done) |(cases hr;exact .u)
 | .b y,a,x,h,hr=>by
  cases a <;> simp[eV]at h
  subst h
  rw[hr.of_b]
  exact .b _
 | .i k m,a,x,h,hr=>by
  cases a <;> simp[eV]at h
  obtain⟨rfl,rfl⟩:=h
  rw[hr.of_i]
  exact .i _ _
 | .s y,a,x,h,hr=>by
  cases a <;> simp only[eV,Bool.false_eq_true]at h
  rename_i z
  have h1:(y.data == z.data)=true:=h
  rw[hr.of_s,←ByteArray.ext (show y.data=z.data by simpa using h1)]
  exact .s _
 | .p b o,a,x,h,hr=>by
  cases a <;> simp[eV]at h
  rename_i b' o'
  obtain⟨h1,rfl⟩:=h
  obtain⟨h2,h3,h4⟩:=of_get (A:=A) (eB_get h1)
  rw[hr.of_p.1,←h3,←h4]
  exact .p _ _ h2
 | .np,a,x,h,hr=>by cases a <;> first |(simp[eV]at h;done) |(cases hr;exact .np)
 | .sl b o l c k z,a,x,h,hr=>by
  cases a <;> simp[eV]at h
  obtain⟨⟨⟨⟨⟨h1,rfl⟩,rfl⟩,rfl⟩,rfl⟩,rfl⟩:=h
  obtain⟨h2,h3,h4⟩:=of_get (A:=A) (eB_get h1)
  obtain⟨c',off,h5,_,h6,h7,h11⟩:=hr.of_sl
  rw[h5]
  cases k with
  | true =>
   rw[h6 rfl]at h11 ⊢
   exact .slk _ _ _ _ _ off h2 (by rw[h3,h4];exact h11)
  | false =>
   obtain⟨h8,h9,h10⟩:=h7 rfl
   exact .slu _ _ _ _ _ _ off h2 h8 h9 (by rw[h4];exact h10) (by rw[h3,h4];exact h11.imp id fun h=>h.2)
 | .ns,a,x,h,hr=>by cases a <;> first |(simp[eV]at h;done) |(cases hr;exact .ns)
 | .m b,a,x,h,hr=>by
  cases a <;> simp[eV]at h
  obtain⟨h2,h3,_⟩:=of_get (A:=A) (eB_get h)
  rw[hr.of_m.1,←h3]
  exact .m _ h2
 | .nm,a,x,h,hr=>by cases a <;> first |(simp[eV]at h;done) |(cases hr;exact .nm)
 | .fn f l r,a,x,h,hr=>by
  cases a <;> simp[eV]at h
  obtain⟨⟨rfl,h1⟩,h2⟩:=h
  obtain⟨xs,ys,rfl,h3,h4⟩:=hr.of_fn
  exact .fn _ _ _ _ _ (eVL_rel l _ h1 h3) (eVL_rel r _ h2 h4)
 | .nf,a,x,h,hr=>by cases a <;> first |(simp[eV]at h;done) |(cases hr;exact .nf)
 | .iface t v,a,x,h,hr=>by
  cases a <;> simp[eV]at h
  obtain⟨rfl,h1⟩:=h
  obtain⟨y,rfl,h3⟩:=hr.of_iface
  exact .iface _ _ _ (eV_rel v _ h1 h3)
 | .ni,a,x,h,hr=>by cases a <;> first |(simp[eV]at h;done) |(cases hr;exact .ni)
 | .agg l,a,x,h,hr=>by
  cases a <;> simp[eV]at h
  obtain⟨xs,rfl,h3⟩:=hr.of_agg
  exact .agg _ _ (eVL_rel l _ h h3)
 | .tup l,a,x,h,hr=>by
  cases a <;> simp[eV]at h
  obtain⟨xs,rfl,h3⟩:=hr.of_tup
  exact .tup _ _ (eVL_rel l _ h h3)
 | .y b,a,x,h,hr=>by cases a <;> simp[eV]at h
 | .se,a,x,h,hr=>by
  cases a <;> first |(simp[eV]at h;done) | skip
  obtain⟨ad,c,rfl⟩:=hr.of_se
  exact .se _ _
theorem eVL_rel:∀(l l':List V) {xs:List Value},eVL ρ l l'=true→RelL A n l' xs→RelL (A.of ρ) ρ.length l xs
 | [],l',xs,h,hr=>by
  cases l' <;> first |(simp[eVL]at h;done) |(cases hr;exact .nil)
 | v :: l,l',xs,h,hr=>by
  cases l' <;> simp[eVL]at h
  cases hr with
  | cons _ x _ xs h1 h2=>exact .cons _ _ _ _ (eV_rel v _ h.1 h1) (eVL_rel l _ h.2 h2)
end
theorem eV_one {p a:V} (h:eV ρ p a=true) (ha:a.one=true):p.one=true:=by
 cases p <;> first | rfl |(cases a <;> first |(simp[eV]at h;done) |(simp[V.one]at ha;done))
theorem eC_get {c:Tr V}:∀(l:List V) (o:Nat),eC ρ c l o=true→∀(j:Nat) (v:V),l[j]?=some v→∃v',c.get (o+j)=some v'∧eV ρ v v'=true
 | [],_,_,j,v,hv=>by simp at hv
 | u9 :: l,o,h,j,v,hv=>by
  unfold eC at h
  split at h
  ·rename_i v' hc
   simp only[Bool.and_eq_true]at h
   cases j with
   | zero =>
    simp only[List.getElem?_cons_zero,Option.some.injEq]at hv
    subst hv
    exact⟨v',hc,h.1⟩
   | succ j =>
    obtain⟨v2,h1,h2⟩:=eC_get l (o+1) h.2 j v (by simpa using hv)
    exact⟨v2,by rw[show o+(j+1)=o+1+j by omega];exact h1,h2⟩
  ·cases h
theorem eE_get:∀(l l':List En),eE ρ l l'=true→l.length=l'.length∧∀(j:Nat) (e:En),l[j]?=some e→∃e':En,l'[j]?=some e'∧e.k=e'.k∧e.n=e'.n∧e.born=e'.born∧eV ρ e.v e'.v=true
 | [],l',h=>by
  cases l' <;> simp[eE]at h
  exact⟨rfl,fun j e he=>by cases he⟩
 | e :: l,l',h=>by
  cases l' <;> simp[eE]at h
  rename_i e' l'
  obtain⟨h1,h2⟩:=eE_get l l' h.2
  refine⟨by simp[h1],fun j e2 he=>?_⟩
  cases j with
  | zero =>
   simp only[List.getElem?_cons_zero,Option.some.injEq]at he
   subst he
   exact⟨e',rfl,h.1.1.1.1,h.1.1.1.2,h.1.1.2,h.1.2⟩
  | succ j=>simpa using h2 j e2 (by simpa using he)
theorem cellsW_of {d:Nat} {c:Tr V} {l:List V} {cs:Array Value} (hc:eC ρ c l 0=true) (h:∀o v,o<l.length→c.get o=some v→∃y,cs[d+o]?=some y∧Rel A n v y∧v.one=true) :
  ∀o v,o<l.length→(Tr.putsL l .e 0).get o=some v→∃y,cs[d+o]?=some y∧Rel (A.of ρ) ρ.length v y∧v.one=true:=fun o v ho hv=>by
 rw[Tr.get_putsL,if_pos ⟨Nat.zero_le _,by omega⟩,Nat.sub_zero]at hv
 obtain⟨v',h6,h7⟩:=eC_get l 0 hc o _ hv
 rw[Nat.zero_add]at h6
 obtain⟨y,h2,h3,h4⟩:=h o v' ho h6
 exact⟨y,h2,eV_rel _ _ h7 h3,eV_one h7 h4⟩
theorem cells_of' {d:Nat} {c:Tr V} {l:List V} {cs:Array Value} (hc:eC ρ c l 0=true) (h:∀o,o<l.length→∃v y,c.get o=some v∧cs[d+o]?=some y∧Rel A n v y∧v.one=true) :
  ∀o,o<l.length→∃v y,(Tr.putsL l .e 0).get o=some v∧cs[d+o]?=some y∧Rel (A.of ρ) ρ.length v y∧v.one=true:=fun o ho=>by
 obtain⟨v,y,h1,h2,h3,h4⟩:=h o ho
 have h5:l[o]?=some l[o]:=List.getElem?_eq_getElem ho
 obtain⟨v',h6,h7⟩:=eC_get l 0 hc o _ h5
 rw[Nat.zero_add,h1]at h6
 injection h6 with h6
 subst h6
 refine⟨_,y,?_,h2,eV_rel _ _ h7 h3,eV_one h7 h4⟩
 rw[Tr.get_putsL,if_pos ⟨Nat.zero_le _,by omega⟩,Nat.sub_zero]
 exact h5
theorem eO_rel {i:Nat} {kk:Nat × Nat} {p:PO} {o:O} {x:Obj} (h:eO ρ p o=true) (hr:ORel A n i kk o x):ORel (A.of ρ) ρ.length i kk p.toO x:=by
 cases p with
 | cells e q l =>
  cases o <;> simp only[eO,Bool.false_eq_true,Bool.and_eq_true]at h
  obtain⟨⟨⟨h1,h2⟩,h3⟩,h4⟩:=h
  have h1:=Nat.eq_of_beq_eq_true h1
  have h3:=Nat.eq_of_beq_eq_true h3
  rw[beq_iff_eq]at h2
  subst h1 h2 h3
  obtain⟨cs,h5,h6,hz,h7⟩:=hr
  exact⟨cs,h5,h6,hz,cells_of' h4 h7⟩
 | ro pin e l =>
  cases o <;> simp only[eO,Bool.false_eq_true,Bool.and_eq_true]at h
  obtain⟨⟨⟨h1,h2⟩,h3⟩,h4⟩:=h
  have h1:=of_decide_eq_true h1
  have h2:=Nat.eq_of_beq_eq_true h2
  have h3:=Nat.eq_of_beq_eq_true h3
  subst h1 h2 h3
  obtain⟨h0,cs,e',fr,h5,h7⟩:=hr
  exact⟨h0,cs,e',fr,h5,cellsW_of h4 h7⟩
 | map es k =>
  cases o <;> simp only[eO,Bool.false_eq_true,Bool.and_eq_true]at h
  obtain⟨h1,h2⟩:=h
  have h1:=Nat.eq_of_beq_eq_true h1
  subst h1
  obtain⟨xs,h3,h4,h5⟩:=hr
  obtain⟨h6,h7⟩:=eE_get _ _ h2
  refine⟨xs,h3,by rw[h4,h6],fun j e he=>?_⟩
  obtain⟨e',h8,h9,h10,h11,h12⟩:=h7 j e he
  obtain⟨y,h13,h14,h15,h16⟩:=h5 j e' h8
  exact⟨y,h13,by rw[h9,h10];exact h14,eV_rel _ _ h12 h15,by rw[h11];exact h16⟩
end
/-! ### A memory as a list -/
noncomputable def lookP (l:List (Option PO)) (j:Nat):Option O:=match l[j]? with
 | some (some p)=>some p.toO
 | _=>none
theorem lookP_some {l:List (Option PO)} {j:Nat} {U:O} (h:lookP l j=some U):∃p,l[j]?=some (some p)∧U=p.toO:=by
 unfold lookP at h
 split at h
 ·rename_i p hp
  injection h with h
  exact⟨p,hp,h.symm⟩
 ·cases h
theorem trOf_get:∀(l:List (Option PO)) (n b:Nat),(trOf l n).get b=if n≤b then lookP l (b-n)else none
 | [],n,b=>by
  rw[show trOf [] n=.e from rfl,Tr.get_e]
  split <;> simp[lookP]
 | none :: l,n,b=>by
  rw[show trOf (none :: l) n=trOf l (n+1)from rfl,trOf_get l]
  by_cases h:n≤b
  ·rw[if_pos h]
   by_cases h':n+1≤b
   ·rw[if_pos h',show b-n=(b-(n+1))+1 by omega]
    simp[lookP]
   ·rw[if_neg h',show b-n=0 by omega]
    rfl
  ·rw[if_neg h,if_neg (by omega)]
 | some x :: l,n,b=>by
  rw[show trOf (some x :: l) n=(trOf l (n+1)).set n (some x.toO)from rfl,Tr.get_set,trOf_get l]
  by_cases h:b=n
  ·subst h
   rw[if_pos rfl,if_pos (Nat.le_refl _),Nat.sub_self]
   rfl
  ·rw[if_neg h]
   by_cases h':n+1≤b
   ·rw[if_pos h',if_pos (by omega),show b-n=(b-(n+1))+1 by omega]
    simp[lookP]
   ·rw[if_neg h',if_neg (by omega)]
theorem hOf_get {l:List (Option PO)} {b:Nat}:(hOf l).t.get b=lookP l b:=by
 show(trOf l 0).get b=_
 rw[trOf_get,if_pos (Nat.zero_le _),Nat.sub_zero]
theorem eH_get {ρ:List Nat} {h:Tr O}:∀(l:List (Option PO)) (j:Nat),eH ρ h l j=true→∀(i:Nat) (p:PO),l[i]?=some (some p)→∃(b:Nat) (o:O),ρ[j+i]?=some b∧h.get b=some o∧eO ρ p o=true
 | [],_,_,i,p,hi=>by simp at hi
 | none :: l,j,he,i,p,hi=>by
  cases i with
  | zero=>simp at hi
  | succ i =>
   rw[show j+(i+1)=j+1+i by omega]
   exact eH_get l (j+1) he i p (by simpa using hi)
 | some q :: l,j,he,i,p,hi=>by
  unfold eH at he
  split at he
  ·rename_i b hb
   simp only[Bool.and_eq_true]at he
   cases i with
   | zero =>
    simp only[List.getElem?_cons_zero,Option.some.injEq]at hi
    subst hi
    obtain⟨h1,_⟩:=he
    split at h1
    ·rename_i o ho
     exact⟨b,o,hb,ho,h1⟩
    ·cases h1
   | succ i =>
    rw[show j+(i+1)=j+1+i by omega]
    exact eH_get l (j+1) he.2 i p (by simpa using hi)
  ·cases he
theorem notIn_ne {b:Nat}:∀{l:List Nat},notIn b l=true→b ∉ l
 | [],_=>by simp
 | c :: l,h=>by
  simp only[notIn,Bool.and_eq_true,Bool.not_eq_true']at h
  have h1:b≠c:=fun e=>by rw[e,Nat.beq_refl]at h;exact absurd h.1 (by simp)
  simp[h1,notIn_ne h.2]
theorem apartL_nodup:∀{l:List Nat},apartL l=true→l.Nodup
 | [],_=>List.nodup_nil
 | b :: l,h=>by
  simp only[apartL,Bool.and_eq_true]at h
  exact List.nodup_cons.2 ⟨notIn_ne h.1,apartL_nodup h.2⟩
theorem allLt_mem {n:Nat}:∀{l:List Nat},allLt n l=true→∀b∈l,b<n
 | [],_,b,hb=>by cases hb
 | c :: l,h,b,hb=>by
  simp only[allLt,Bool.and_eq_true]at h
  rcases List.mem_cons.1 hb with rfl | hb
  ·exact blt_iff.1 h.1
  ·exact allLt_mem h.2 b hb
structure Lies (ρ:List Nat) (h:H) (args args':List V) (pre:List (Option PO)):Prop where
 len:ρ.length=pre.length
 args:eVL ρ args args'=true
 obj:∀(j:Nat) (p:PO),pre[j]?=some (some p)→∃(b:Nat) (o:O),ρ[j]?=some b∧h.t.get b=some o∧eO ρ p o=true
 nodup:ρ.Nodup
 lt:∀b∈ρ,b<h.next
theorem okM_lies {ρ:List Nat} {h:H} {args args':List V} {pre:List (Option PO)} (hk:okM ρ h args args' pre=true):Lies ρ h args args' pre:=by
 simp only[okM,Bool.and_eq_true]at hk
 obtain⟨h1,h2,h3,h4,h5⟩:=hk
 exact⟨Nat.eq_of_beq_eq_true h1,h2,fun j p hp=>by simpa using eH_get pre 0 h3 j p hp,apartL_nodup h4,allLt_mem h5⟩
theorem nodup_get {ρ:List Nat} (h:ρ.Nodup) {i j b:Nat} (hi:ρ[i]?=some b) (hj:ρ[j]?=some b):i=j:=by
 obtain⟨hi1,hi2⟩:=List.getElem?_eq_some_iff.1 hi
 obtain⟨hj1,hj2⟩:=List.getElem?_eq_some_iff.1 hj
 exact(List.getElem_inj h).1 (hi2.trans hj2.symm)
section
variable {A A0:Sub} {h h0:H} {w w':World} {ρ:List Nat} {args args':List V} {pre:List (Option PO)}
theorem Mt.of (hm:Mt A h w) (hl:Lies ρ h args args' pre):Mt (A.of ρ) (hOf pre) w:=by
 have key:∀b U,(hOf pre).t.get b=some U→∃p c o,pre[b]?=some (some p)∧U=p.toO∧ρ[b]?=some c∧h.t.get c=some o∧eO ρ p o=true:=fun b U hb=>by
  rw[hOf_get]at hb
  obtain⟨p,hp,rfl⟩:=lookP_some hb
  obtain⟨c,o,h1,h2,h3⟩:=hl.obj b p hp
  exact⟨p,c,o,hp,rfl,h1,h2,h3⟩
 refine⟨fun b U hb=>?_,fun b U hb=>?_,fun b b' U U' hb hb' he=>?_⟩
 ·obtain⟨p,c,o,h1,_⟩:=key b U hb
  exact(List.getElem?_eq_some_iff.1 h1).1
 ·obtain⟨p,c,o,_,rfl,h2,h3,h4⟩:=key b U hb
  obtain⟨x,hx,hr⟩:=hm.obj c o h3
  obtain⟨_,h5,h6⟩:=of_get (A:=A) h2
  refine⟨x,by rw[h5];exact hx,?_⟩
  have:=eO_rel h4 hr
  rw[hl.len]at this
  rw[h5,h6]
  exact this
 ·obtain⟨p,c,o,_,_,h2,h3,_⟩:=key b U hb
  obtain⟨p',c',o',_,_,h2',h3',_⟩:=key b' U' hb'
  rw[(of_get (A:=A) h2).2.1,(of_get (A:=A) h2').2.1]at he
  have:=hm.inj c c' o o' h3 h3' he
  subst this
  exact nodup_get hl.nodup h2 h2'
theorem Ev.of (e:Ev A0 h0 w A h w') (hl:Lies ρ h args args' pre) (hk:∀b,b<h0.next→ρ[b]?=some b) (hle:h0.next≤pre.length) (hp:∀b O g,h0.t.get b=some O→O.pin=some g→b<h0.next∧∃O',(hOf pre).t.get b=some O'∧O'.pin=some g):Ev A0 h0 w (A.of ρ) (hOf pre) w':=by
 refine⟨e.mt.of hl,hle,fun b hb=>?_,fun b U hb=>?_,e.fr,e.size,e.os,e.tape,e.output,fun b O g hb hpin=>?_⟩
 ·obtain⟨_,h1,h2⟩:=of_get (A:=A) (hk b hb)
  exact⟨h1.trans (e.old b hb).1,h2.trans (e.old b hb).2⟩
 ·rw[hOf_get]at hb
  obtain⟨p,hp,rfl⟩:=lookP_some hb
  obtain⟨c,o,h1,h2,h3⟩:=hl.obj b p hp
  rw[(of_get (A:=A) h1).2.1]
  exact e.src c o h2
 ·obtain⟨h1,h2,h3⟩:=e.pin b O g hb hpin
  obtain⟨h4,h5⟩:=hp b O g hb hpin
  exact⟨(of_get (A:=A) (hk b h4)).2.1.trans h1,h5,h3⟩
end
theorem toO_pin (p:PO):p.toO.pin=pinned (some p):=by cases p <;> rfl
theorem pinsOk_get:∀(l r:List (Option PO)) (j:Nat) (p:PO) (g:Nat),pinsOk l r=true→l[j]?=some (some p)→pinned (some p)=some g→∃q,r[j]?=some (some q)∧pinned (some q)=some g
 | [],_,j,p,g,_,h,_=>by simp at h
 | x :: l,[],0,p,g,h,hj,hp=>by
  simp only[List.getElem?_cons_zero,Option.some.injEq]at hj
  subst hj
  simp[pinsOk,hp]at h
 | x :: l,[],j+1,p,g,h,hj,hp=>by
  simp only[pinsOk,Bool.and_eq_true]at h
  obtain⟨q,h1,_⟩:=pinsOk_get l [] j p g h.2 (by simpa using hj) hp
  simp at h1
 | x :: l,y :: r,0,p,g,h,hj,hp=>by
  simp only[List.getElem?_cons_zero,Option.some.injEq]at hj
  subst hj
  simp only[pinsOk,Bool.and_eq_true,hp]at h
  have h1:=of_decide_eq_true h.1
  rw[←hp]
  cases y with
  | none=>simp[pinned]at h1
  | some q=>exact⟨q,rfl,by rw[h1,hp]⟩
 | x :: l,y :: r,j+1,p,g,h,hj,hp=>by
  simp only[pinsOk,Bool.and_eq_true]at h
  simpa using pinsOk_get l r j p g h.2 (by simpa using hj) hp
theorem noNone_get:∀(l:List (Option PO)) (j:Nat) (x:Option PO),noNone l=true→l[j]?=some x→∃p,x=some p
 | [],j,x,_,h=>by simp at h
 | none :: _,_,_,h,_=>by simp[noNone]at h
 | some p :: l,0,x,_,hj=>by
  simp only[List.getElem?_cons_zero,Option.some.injEq]at hj
  exact⟨p,hj.symm⟩
 | some p :: l,j+1,x,h,hj=>noNone_get l j x h (by simpa using hj)
theorem eO_pin {ρ:List Nat} {p:PO} {o:O} (h:eO ρ p o=true):p.toO.pin=o.pin:=by
 cases p <;> cases o <;> simp only[eO,Bool.false_eq_true,Bool.and_eq_true]at h <;> first | rfl | skip
 exact of_decide_eq_true h.1.1.1
/-! ### A fact's own run -/
def FactOk (P:Program) (F:Fact):Prop:=(∀(xs:Array Value) (w:World),(callFunc F.f xs).run P w=.ok (.enter F.f xs) w) ∧
 ∀(A:Sub) (w:World) (xs:List Value),Mt A (hOf F.pre) w→RelL A F.pre.length F.args xs→Calls P F.f xs.toArray w fun e w'=>∃x,e=.returned x∧F.pre.length≤F.post.length∧Post A (hOf F.pre) w F.v (hOf F.post) x w'
theorem callL_ok {G:Cfg} (hG:Fits G) {n:Nat} {f:FuncId} {args:List V} {h:H} {l:List (V × H)} (hr:callL G n f args h=some l):(∀(xs:Array Value) (w:World),(callFunc f xs).run G.P w=.ok (.enter f xs) w) ∧
  ∀(A:Sub) (w:World) (xs:List Value),Mt A h w→RelL A h.next args xs→Calls G.P f xs.toArray w fun e w'=>∃r∈l,∃x,e=.returned x∧Post A h w r.1 r.2 x w':=by
 obtain⟨F,hF,hr⟩:=ob_some hr
 obtain⟨hle,hr⟩:=bb_some hr
 rw[Tr.putL_eq]at hr
 obtain⟨hbit,fn,c,hfn,hc,hn,hrs,hFc⟩:=fuB_some hF
 obtain⟨hname,hdok⟩:=hG.fit f fn hbit hfn
 refine⟨fun xs w=>Go.MuLone.run_callFunc_enter hfn hname hc xs w,fun A w xs hm hrel=>(callsIn_wide (n:=0)).1 (callsIn_of_wp_marks (F:=Wide none) hfn hc trivial ?_)⟩
 have hle:args.length≤fn.ntmps:=by rw[←hn];exact Nat.le_of_ble_eq_true hle
 have ht:=trel_args hrel hle
 rw[hFc]at hr
 obtain⟨outs,ho,hr⟩:=ob_some hr
 refine(exec_ok hG n none 0 fn.ntmps (G.sk f) true (fun _=>rfl)).1 c _ h outs ho (hdok c hc) w.heap.size A w _ _ hm ht (.nil (Nat.le_refl _)) fun o hoo a' w' hres=>?_
 obtain⟨A',hev,ht',hd'⟩:=hres
 obtain⟨p,hpm,hp⟩:=mapO_mem hr o hoo
 have key:LeavesInM (Wide none) 0 G.P fn a'.tmps (fun e w'=>∃r∈l,∃x',e=Ending.returned x'∧Post A h w r.1 r.2 x' w') a'.defers .returning w':=leaves (fun w2 hev2=>by
  obtain⟨_,hph,y,hy,hrel'⟩:=resultsV_ok hev2.mt ht' hrs hp
  exact⟨y,hy,p,hpm,y,rfl,A',by rw[hph];exact hev2,by rw[hph];exact hrel'⟩) a'.defers w' hev hd'
 obtain⟨hox,_⟩:=resultsV_ok hev.mt ht' hrs hp
 rcases hox with hox | hox <;> rw[hox] <;> exact key
theorem forceL_eq {β:Type}:∀(l:List Nat) (K:List Nat→Option β),forceL l K=K l
 | [],_=>rfl
 | b :: l,K=>by
  show fN b (fun b=>forceL l fun l=>K (b :: l))=_
  rw[fN_eq,forceL_eq l]
theorem mH_some {β:Type} {h:Tr O} {K:List Nat→Option β} {r:β}:∀(l:List (Option PO)) (j:Nat) (ρ:List Nat),mH h l j ρ K=some r→∃ρ',K ρ'=some r
 | [],_,ρ,hh=>⟨ρ,hh⟩
 | none :: l,j,ρ,hh=>by
  have hh:fN (Nat.succ j) (fun j=>mH h l j ρ K)=some r:=hh
  rw[fN_eq]at hh
  exact mH_some l _ ρ hh
 | some p :: l,j,ρ,hh=>by
  obtain⟨b,_,hh⟩:=ob_some (show ob ρ[j]? (fun b=>ob (h.get b) fun o=>forceL (mO ρ p o) fun ρ=>fN (Nat.succ j) fun j=>mH h l j ρ K)=some r from hh)
  obtain⟨o,_,hh⟩:=ob_some hh
  rw[forceL_eq,fN_eq]at hh
  exact mH_some l _ _ hh
theorem keeps_get:∀(n j:Nat) (ρ:List Nat),keeps n j ρ=true→∀b,b<n→ρ[b]?=some (j+b)
 | 0,_,_,_,b,hb=>by omega
 | n+1,j,[],h,b,hb=>by cases h
 | n+1,j,c :: l,h,b,hb=>by
  simp only[keeps,Bool.and_eq_true]at h
  cases b with
  | zero=>simp[Nat.eq_of_beq_eq_true h.1]
  | succ b =>
   have:=keeps_get n (j+1) l h.2 b (by omega)
   rw[List.getElem?_cons_succ,this]
   congr 1
   omega
theorem tells_some {F:Fact} {r:V × H} (h:(tells F r).isSome=true):∃ρ,F.pre.length≤F.post.length∧Lies ρ r.2 [F.v] [r.1] F.post∧(∀b,b<F.pre.length→ρ[b]?=some b)∧pinsOk F.pre F.post=true:=by
 obtain⟨u9,h⟩:=Option.isSome_iff_exists.1 h
 unfold tells at h
 rw[forceL_eq]at h
 obtain⟨ρ,h⟩:=mH_some _ _ _ h
 obtain⟨h1,h⟩:=bb_some h
 obtain⟨h2,h⟩:=bb_some h
 obtain⟨h3,h⟩:=bb_some h
 obtain⟨h4,_⟩:=bb_some h
 exact⟨ρ,Nat.le_of_ble_eq_true h1,okM_lies h2,fun b hb=>by simpa using keeps_get _ _ _ h3 b hb,h4⟩
theorem fact_of {G:Cfg} (hG:Fits G) {n:Nat} {F:Fact} (h:runF G n F=true):FactOk G.P F:=by
 unfold runF at h
 split at h
 ·rename_i l hl
  obtain⟨h1,h2⟩:=callL_ok hG hl
  refine⟨h1,fun A w xs hm hr=>(h2 A w xs hm hr).mono fun e w' hx=>?_⟩
  obtain⟨r,hr,x,he,A',hev,hrel⟩:=hx
  obtain⟨ρ,h3,h4,h5,h8⟩:=tells_some (List.all_eq_true.1 h r hr)
  have hpn:∀b O g,(hOf F.pre).t.get b=some O→O.pin=some g→b<(hOf F.pre).next∧∃O',(hOf F.post).t.get b=some O'∧O'.pin=some g:=fun b O g hb hp=>by
   have hlt:=hm.lt b O hb
   rw[hOf_get]at hb
   obtain⟨p,hp1,rfl⟩:=lookP_some hb
   rw[toO_pin]at hp
   obtain⟨q,h9,h10⟩:=pinsOk_get _ _ b p g h8 hp1 hp
   exact⟨hlt,q.toO,by rw[hOf_get];simp[lookP,h9],by rw[toO_pin];exact h10⟩
  refine⟨x,he,h3,A'.of ρ,hev.of h4 h5 h3 hpn,?_⟩
  have h6:=eVL_rel (A:=A') (n:=r.2.next) [F.v] [r.1] h4.args (.cons _ _ _ _ hrel .nil)
  cases h6 with
  | cons _ _ _ _ h7 _=>rw[h4.len]at h7;exact h7
 ·cases h
/-! ### A fact put to use -/
section
variable {β:Type} {g:Nat→Nat}
mutual
theorem iK_eq:∀(v:V) (K:V→Option β),iK g v K=K (iV g v)
 | .u,K=>rfl
 | .b _,K=>rfl
 | .i _ _,K=>rfl
 | .s _,K=>rfl
 | .p b o,K=>by simp only[iK,iV,fN_eq]
 | .np,K=>rfl
 | .sl b o l c k z,K=>by simp only[iK,iV,fN_eq]
 | .ns,K=>rfl
 | .m b,K=>by simp only[iK,iV,fN_eq]
 | .nm,K=>rfl
 | .fn f l r,K=>by simp only[iK,iV,iKL_eq l,iKL_eq r]
 | .nf,K=>rfl
 | .iface t v,K=>by simp only[iK,iV,iK_eq v]
 | .ni,K=>rfl
 | .agg l,K=>by simp only[iK,iV,iKL_eq l]
 | .tup l,K=>by simp only[iK,iV,iKL_eq l]
 | .y b,K=>by simp only[iK,iV,fN_eq]
 | .se,K=>rfl
theorem iKL_eq:∀(l:List V) (K:List V→Option β),iKL g l K=K (iVL g l)
 | [],K=>rfl
 | v :: l,K=>by simp only[iKL,iVL,iK_eq v,iKL_eq l]
end
theorem iKE_eq:∀(l:List En) (K:List En→Option β),iKE g l K=K (l.map fun e=>⟨e.k,e.n,iV g e.v,e.born⟩)
 | [],K=>rfl
 | e :: l,K=>by simp only[iKE,iK_eq,iKE_eq l,List.map_cons]
theorem iKO_eq (p:PO) (K:O→Option β):iKO g p K=K (iO g p):=by
 cases p with
 | cells e q l=>simp only[iKO,iO,iKL_eq,Tr.putL_eq,fN_eq]
 | ro pin e l=>simp only[iKO,iO,iKL_eq,Tr.putL_eq,fN_eq]
 | map es c=>simp only[iKO,iO,iKE_eq]
noncomputable def lay (g:Nat→Nat):List (Option PO)→Nat→Tr O→Tr O
 | [],_,t=>t
 | x :: l,j,t=>lay g l (j+1) (t.set (g j) (x.map (iO g)))
theorem layK_eq:∀(l:List (Option PO)) (j:Nat) (t:Tr O) (K:Tr O→Option β),layK g l j t K=K (lay g l j t)
 | [],_,_,_=>rfl
 | none :: l,j,t,K=>by simp only[layK,lay,Tr.put_set,layK_eq l,Option.map_none,Nat.succ_eq_add_one]
 | some p :: l,j,t,K=>by simp only[layK,lay,iKO_eq,Tr.put_set,layK_eq l,Option.map_some,Nat.succ_eq_add_one]
theorem lay_not:∀(l:List (Option PO)) (j:Nat) (t:Tr O) (b:Nat),(∀i,i<l.length→g (j+i)≠b)→(lay g l j t).get b=t.get b
 | [],_,_,_,_=>rfl
 | x :: l,j,t,b,h=>by
  rw[show lay g (x :: l) j t=lay g l (j+1) (t.set (g j) (x.map (iO g)))from rfl,lay_not l (j+1) _ b (fun i hi=>by
   have:=h (i+1) (by simp;omega)
   rwa [show j+(i+1)=j+1+i by omega]at this),Tr.get_set,if_neg (fun e=>h 0 (by simp) (by simpa using e.symm))]
theorem lay_at:∀(l:List (Option PO)) (j:Nat) (t:Tr O) (i:Nat) (x:Option PO),l[i]?=some x→(∀i',i'<l.length→g (j+i')=g (j+i)→i'=i)→(lay g l j t).get (g (j+i))=x.map (iO g)
 | [],_,_,i,x,h,_=>by simp at h
 | y :: l,j,t,0,x,h,hi=>by
  simp only[List.getElem?_cons_zero,Option.some.injEq]at h
  subst h
  rw[show lay g (y :: l) j t=lay g l (j+1) (t.set (g j) (y.map (iO g)))from rfl,lay_not l (j+1) _ _ (fun i' h' e=>by
   have:=hi (i'+1) (by simp;omega) (by rw[show j+(i'+1)=j+1+i' by omega];exact e)
   omega),Tr.get_set,if_pos (by simp)]
 | y :: l,j,t,i+1,x,h,hi=>by
  rw[show lay g (y :: l) j t=lay g l (j+1) (t.set (g j) (y.map (iO g)))from rfl,show j+(i+1)=j+1+i by omega]
  refine lay_at l (j+1) _ i x (by simpa using h) (fun i' h' e=>?_)
  have:=hi (i'+1) (by simp;omega) (by rw[show j+(i'+1)=j+1+i' by omega,show j+(i+1)=j+1+i by omega];exact e)
  omega
end
section
variable {A B:Sub} {m n:Nat} {g:Nat→Nat}
def Same (A B:Sub) (m n:Nat) (g:Nat→Nat):Prop:=∀b,b<m→g b<n∧B.ι (g b)=A.ι b∧B.κ (g b)=A.κ b
mutual
theorem iV_rel (hs:Same A B m n g):∀{v:V} {x:Value},Rel A m v x→Rel B n (iV g v) x
 | _,_,.u=>.u
 | _,_,.b x=>.b x
 | _,_,.i k m=>.i k m
 | _,_,.s x=>.s x
 | _,_,.p b o h=>by
  obtain⟨h1,h2,h3⟩:=hs b h
  rw[←h2,←h3]
  exact .p _ o h1
 | _,_,.np=>.np
 | _,_,.slk b o len cap sz off h h7=>by
  obtain⟨h1,h2,h3⟩:=hs b h
  exact .slk _ o len cap sz off h1 (by rw[h2,h3];exact h7)
 | _,_,.slu b o len cap sz c off h h3 h4 h5 h7=>by
  obtain⟨h1,h2,h6⟩:=hs b h
  exact .slu _ o len cap sz c off h1 h3 h4 (by rw[h6];exact h5) (by rw[h2,h6];exact h7)
 | _,_,.ns=>.ns
 | _,_,.m r h=>by
  obtain⟨h1,h2,_⟩:=hs r h
  rw[←h2]
  exact .m _ h1
 | _,_,.nm=>.nm
 | _,_,.fn f l r xs ys h1 h2=>.fn f _ _ xs ys (iVL_rel hs h1) (iVL_rel hs h2)
 | _,_,.nf=>.nf
 | _,_,.iface t v x h=>.iface t _ x (iV_rel hs h)
 | _,_,.ni=>.ni
 | _,_,.agg l xs h=>.agg _ xs (iVL_rel hs h)
 | _,_,.tup l xs h=>.tup _ xs (iVL_rel hs h)
 | _,_,.y b h=>by
  obtain⟨h1,h2,_⟩:=hs b h
  rw[←h2]
  exact .y _ h1
 | _,_,.se ad c=>.se ad c
theorem iVL_rel (hs:Same A B m n g):∀{l:List V} {xs:List Value},RelL A m l xs→RelL B n (iVL g l) xs
 | _,_,.nil=>.nil
 | _,_,.cons v x l xs h h'=>.cons _ x _ xs (iV_rel hs h) (iVL_rel hs h')
end
theorem iV_one (v:V):(iV g v).one=v.one:=by cases v <;> rfl
theorem iVL_len:∀l:List V,(iVL g l).length=l.length
 | []=>rfl
 | v :: l=>by simp[iVL,iVL_len l]
theorem iVL_get:∀(l:List V) (j:Nat),(iVL g l)[j]?=l[j]?.map (iV g)
 | [],_=>by simp[iVL]
 | v :: l,0=>by simp[iVL]
 | v :: l,j+1=>by simp[iVL,iVL_get l j]
theorem icellsW_rel (hs:Same A B m n g) {d:Nat} {l:List V} {cs:Array Value} (h:∀o v,o<l.length→(Tr.putsL l .e 0).get o=some v→∃y,cs[d+o]?=some y∧Rel A m v y∧v.one=true) :
  ∀o v,o<l.length→(Tr.putsL (iVL g l) .e 0).get o=some v→∃y,cs[d+o]?=some y∧Rel B n v y∧v.one=true:=fun o v ho hv=>by
 rw[Tr.get_putsL,if_pos ⟨Nat.zero_le _,by rw[iVL_len];omega⟩,Nat.sub_zero,iVL_get]at hv
 have h1:l[o]?=some l[o]:=List.getElem?_eq_getElem ho
 rw[h1]at hv
 injection hv with hv
 subst hv
 obtain⟨y,h2,h3,h4⟩:=h o l[o] ho (by rw[Tr.get_putsL,if_pos ⟨Nat.zero_le _,by omega⟩,Nat.sub_zero];exact h1)
 exact⟨y,h2,iV_rel hs h3,by rw[iV_one];exact h4⟩
theorem icells_rel (hs:Same A B m n g) {d:Nat} {l:List V} {cs:Array Value} (h:∀o,o<l.length→∃v y,(Tr.putsL l .e 0).get o=some v∧cs[d+o]?=some y∧Rel A m v y∧v.one=true) :
  ∀o,o<l.length→∃v y,(Tr.putsL (iVL g l) .e 0).get o=some v∧cs[d+o]?=some y∧Rel B n v y∧v.one=true:=fun o ho=>by
 obtain⟨v,y,h1,h2,h3,h4⟩:=h o ho
 rw[Tr.get_putsL,if_pos ⟨Nat.zero_le _,by omega⟩,Nat.sub_zero]at h1
 refine⟨iV g v,y,?_,h2,iV_rel hs h3,by rw[iV_one];exact h4⟩
 rw[Tr.get_putsL,if_pos ⟨Nat.zero_le _,by rw[iVL_len];omega⟩,Nat.sub_zero,iVL_get,h1]
 rfl
theorem iO_rel (hs:Same A B m n g) {i:Nat} {kk:Nat × Nat} {p:PO} {x:Obj} (hr:ORel A m i kk p.toO x):ORel B n i kk (iO g p) x:=by
 cases p with
 | cells e q l =>
  obtain⟨cs,h5,h6,hz,h7⟩:=hr
  exact⟨cs,h5,h6,hz,icells_rel hs h7⟩
 | ro pin e l =>
  obtain⟨h0,cs,e',fr,h5,h7⟩:=hr
  exact⟨h0,cs,e',fr,h5,icellsW_rel hs h7⟩
 | map es c =>
  obtain⟨xs,h3,h4,h5⟩:=hr
  refine⟨xs,h3,by rw[h4,List.length_map],fun j e he=>?_⟩
  rw[List.getElem?_map]at he
  cases hj:es[j]? with
  | none=>rw[hj]at he;cases he
  | some e0 =>
   rw[hj]at he
   injection he with he
   subst he
   obtain⟨y,h13,h14,h15,h16⟩:=h5 j e0 hj
   exact⟨y,h13,h14,iV_rel hs h15,h16⟩
end
theorem use_ok {P:Program} {F:Fact} (hF:FactOk P F) {args:List V} {h:H} {r:V × H} (hu:useF F args h=some r) (A:Sub) (w:World) (xs:List Value) (hm:Mt A h w) (hrel:RelL A h.next args xs) :
  Calls P F.f xs.toArray w fun e w'=>∃x,e=.returned x∧Post A h w r.1 r.2 x w':=by
 unfold useF at hu
 rw[forceL_eq]at hu
 obtain⟨ρ,hu⟩:=mH_some _ _ _ hu
 obtain⟨h1,hu⟩:=bb_some hu
 obtain⟨h2,hu⟩:=bb_some hu
 simp only[Bool.and_eq_true]at h2
 have hnn:=h2.1
 rw[fN_eq,layK_eq,iK_eq,fN_eq]at hu
 injection hu with hu
 subst hu
 have hl:=okM_lies h1
 have hargs:RelL (A.of ρ) F.pre.length F.args xs:=by
  have:=eVL_rel (A:=A) (n:=h.next) F.args args hl.args hrel
  rw[hl.len]at this
  exact this
 refine(hF.2 (A.of ρ) w xs (hm.of hl) hargs).mono fun e w' hx=>?_
 obtain⟨x,he,hkm,A1,hev,hr⟩:=hx
 refine⟨x,he,?_⟩
 
 obtain⟨k,hk⟩:∃k,k=F.pre.length:=⟨_,rfl⟩
 obtain⟨m,hmm⟩:∃m,m=F.post.length:=⟨_,rfl⟩
 have hnext:(hOf F.post).next=m:=hmm.symm
 have hnext0:(hOf F.pre).next=k:=hk.symm
 rw[←hk,←hmm]at hkm
 obtain⟨g,hg⟩:∃g,g=num ρ F.pre.length h.next:=⟨_,rfl⟩
 have hg1:∀b,b<k→∃c,ρ[b]?=some c∧g b=c∧c<h.next:=fun b hb=>by
  have hb':b<ρ.length:=by rw[hl.len,←hk];exact hb
  refine⟨ρ[b],List.getElem?_eq_getElem hb',?_,hl.lt _ (List.getElem_mem hb')⟩
  rw[hg]
  unfold num
  rw[List.getElem?_eq_getElem hb']
 have hg2:∀b,k≤b→g b=h.next+(b-k):=fun b hb=>by
  have:ρ[b]?=none:=List.getElem?_eq_none (by rw[hl.len,←hk];exact hb)
  rw[hg]
  unfold num
  rw[this,hk]
  rfl
 have hginj:∀b b',b<m→b'<m→g b=g b'→b=b':=fun b b' hb hb' e=>by
  rcases Nat.lt_or_ge b k with h3 | h3 <;> rcases Nat.lt_or_ge b' k with h4 | h4
  ·obtain⟨c,h5,h6,_⟩:=hg1 b h3
   obtain⟨c',h5',h6',_⟩:=hg1 b' h4
   rw[h6,h6']at e
   subst e
   exact nodup_get hl.nodup h5 h5'
  ·obtain⟨c,_,h6,h7⟩:=hg1 b h3
   rw[h6,hg2 b' h4]at e
   omega
  ·obtain⟨c,_,h6,h7⟩:=hg1 b' h4
   rw[h6,hg2 b h3]at e
   omega
  ·rw[hg2 b h3,hg2 b' h4]at e
   omega
 obtain⟨A',hA'⟩:∃A':Sub,A'=⟨fun b=>if b<h.next then A.ι b else A1.ι (b-h.next+k),fun b=>if b<h.next then A.κ b else A1.κ (b-h.next+k)⟩:=⟨_,rfl⟩
 have hlo:∀b,b<h.next→A'.ι b=A.ι b∧A'.κ b=A.κ b:=fun b hb=>by rw[hA'];simp[hb]
 have hsame:Same A1 A' m (h.next+(m-k)) g:=fun b hb=>by
  rcases Nat.lt_or_ge b k with h3 | h3
  ·obtain⟨c,h5,h6,h7⟩:=hg1 b h3
   obtain⟨_,h8,h9⟩:=of_get (A:=A) h5
   have h10:=hev.old b (by rw[hnext0];exact h3)
   rw[h6]
   exact⟨by omega,(hlo c h7).1.trans (h8.symm.trans h10.1.symm),(hlo c h7).2.trans (h9.symm.trans h10.2.symm)⟩
  ·rw[hg2 b h3]
   refine⟨by omega,?_,?_⟩
   ·rw[hA']
    show(if h.next+(b-k)<h.next then _ else _)=_
    rw[if_neg (by omega)]
    congr 1
    omega
   ·rw[hA']
    show(if h.next+(b-k)<h.next then _ else _)=_
    rw[if_neg (by omega)]
    congr 1
    omega
 
 have hat:∀b U,(lay g F.post 0 h.t).get b=some U→(∃j p,j<m∧b=g j∧F.post[j]?=some (some p)∧U=iO g p)∨((∀j,j<m→g j≠b)∧h.t.get b=some U):=fun b U hb=>by
  by_cases hex:∃j,j<m∧g j=b
  ·obtain⟨j,hj,rfl⟩:=hex
   left
   have hj':F.post[j]?=some F.post[j]:=List.getElem?_eq_getElem (by rw[←hmm];exact hj)
   have h3:=lay_at (g:=g) F.post 0 h.t j _ hj' (fun i' hi' e=>hginj i' j (by rw[hmm];exact hi') hj (by simpa using e))
   rw[Nat.zero_add]at h3
   rw[h3]at hb
   cases hp:F.post[j]with
   | none=>rw[hp]at hb;cases hb
   | some p =>
    rw[hp]at hb hj'
    injection hb with hb
    exact⟨j,p,hj,rfl,hj',hb.symm⟩
  ·right
   have h3:∀j,j<m→g j≠b:=fun j hj e=>hex ⟨j,hj,e⟩
   refine⟨h3,?_⟩
   rw[←lay_not (g:=g) F.post 0 h.t b (fun i hi=>by rw[Nat.zero_add];exact h3 i (by rw[hmm];exact hi))]
   exact hb
 have hpost:∀j p,F.post[j]?=some (some p)→(hOf F.post).t.get j=some p.toO:=fun j p hp=>by rw[hOf_get];simp[lookP,hp]
 
 have hold:∀b U,(∀j,j<m→g j≠b)→h.t.get b=some U→∀b0 U0,(hOf F.pre).t.get b0=some U0→(A.of ρ).ι b0≠A.ι b:=fun b U hb hU b0 U0 hU0 e=>by
  rw[hOf_get]at hU0
  obtain⟨p,hp,_⟩:=lookP_some hU0
  obtain⟨c,o,h3,h4,_⟩:=hl.obj b0 p hp
  rw[(of_get (A:=A) h3).2.1]at e
  have:=hm.inj c b o U h4 hU e
  subst this
  have hb0:b0<k:=by rw[hk];exact(List.getElem?_eq_some_iff.1 hp).1
  obtain⟨c',h5,h6,_⟩:=hg1 b0 hb0
  rw[h3]at h5
  injection h5 with h5
  exact hb b0 (by omega) (h6.trans h5.symm)
 have hsrc:∀j p,j<m→F.post[j]?=some (some p)→w.heap.size≤A1.ι j∨∃b0 O0,h.t.get b0=some O0∧A.ι b0=A1.ι j:=fun j p _ hp=>by
  rcases hev.src j _ (hpost j p hp)with h3 | ⟨b0,O0,h3,h4⟩
  ·exact .inl h3
  ·rw[hOf_get]at h3
   obtain⟨p0,hp0,_⟩:=lookP_some h3
   obtain⟨c,o,h5,h6,_⟩:=hl.obj b0 p0 hp0
   exact .inr ⟨c,o,h6,by rw[←h4,(of_get (A:=A) h5).2.1]⟩
 
 have hclash:∀j p b U,j<m→F.post[j]?=some (some p)→(∀j,j<m→g j≠b)→h.t.get b=some U→A1.ι j≠A.ι b:=fun j p b U hj hp hb hU e=>by
  rcases hev.src j _ (hpost j p hp)with h3 | ⟨b0,O0,h3,h4⟩
  ·have:=hm.ilt hU
   omega
  ·exact hold b U hb hU b0 O0 h3 (h4.trans e)
 refine⟨A',⟨⟨fun b U hb=>?_,fun b U hb=>?_,fun b b' U U' hb hb' he=>?_⟩,?_,fun b hb=>hlo b hb,fun b U hb=>?_,fun q hq hn=>?_,hev.size,hev.os,hev.tape,hev.output,fun b O g2 hb hp=>?_⟩,?_⟩
 ·rw[←hg]at hb
  show b<h.next+(F.post.length-F.pre.length)
  rw[←hk,←hmm]
  rcases hat b U hb with⟨j,p,hj,rfl,_⟩ | ⟨_,hU⟩
  ·exact(hsame j hj).1
  ·have:=hm.lt b U hU
   omega
 ·rw[←hg]at hb
  show ∃x,w'.heap[A'.ι b]?=some x∧ORel A' (h.next+(F.post.length-F.pre.length)) (A'.ι b) (A'.κ b) U x
  rw[←hk,←hmm]
  rcases hat b U hb with⟨j,p,hj,rfl,hp,rfl⟩ | ⟨hb',hU⟩
  ·obtain⟨y,hy,hor⟩:=hev.mt.obj j _ (hpost j p hp)
   obtain⟨_,h3,h4⟩:=hsame j hj
   refine⟨y,by rw[h3];exact hy,?_⟩
   rw[h3,h4]
   rw[hnext]at hor
   exact iO_rel hsame hor
  ·obtain⟨y,hy,hor⟩:=hm.obj b U hU
   obtain⟨h3,h4⟩:=hlo b (hm.lt b U hU)
   refine⟨y,?_,?_⟩
   ·rw[h3,hev.fr _ (hm.ilt hU) (fun b0 U0 hU0=>hold b U hb' hU b0 U0 hU0)]
    exact hy
   ·rw[h3,h4]
    exact hor.mono (fun b hb=>hlo b hb) (by omega)
 ·rw[←hg]at hb hb'
  rcases hat b U hb with⟨j,p,hj,rfl,hp,_⟩ | ⟨h3,hU⟩ <;> rcases hat b' U' hb' with⟨j',p',hj',rfl,hp',_⟩ | ⟨h3',hU'⟩
  ·rw[(hsame j hj).2.1,(hsame j' hj').2.1]at he
   rw[hev.mt.inj j j' _ _ (hpost j p hp) (hpost j' p' hp') he]
  ·rw[(hsame j hj).2.1,(hlo b' (hm.lt b' U' hU')).1]at he
   exact absurd he (hclash j p b' U' hj hp h3' hU')
  ·rw[(hsame j' hj').2.1,(hlo b (hm.lt b U hU)).1]at he
   exact absurd he.symm (hclash j' p' b U hj' hp' h3 hU)
  ·rw[(hlo b (hm.lt b U hU)).1,(hlo b' (hm.lt b' U' hU')).1]at he
   exact hm.inj b b' U U' hU hU' he
 ·show h.next≤h.next+(F.post.length-F.pre.length)
  omega
 ·rw[←hg]at hb
  rcases hat b U hb with⟨j,p,hj,rfl,hp,_⟩ | ⟨_,hU⟩
  ·rw[(hsame j hj).2.1]
   exact hsrc j p hj hp
  ·exact .inr ⟨b,U,hU,(hlo b (hm.lt b U hU)).1.symm⟩
 ·refine hev.fr q hq fun b0 U0 hU0=>?_
  rw[hOf_get]at hU0
  obtain⟨p0,hp0,_⟩:=lookP_some hU0
  obtain⟨c,o,h5,h6,_⟩:=hl.obj b0 p0 hp0
  rw[(of_get (A:=A) h5).2.1]
  exact hn c o h6
 ·refine⟨(hlo b (hm.lt b O hb)).1,?_⟩
  rw[←hg]
  by_cases hex:∃j,j<m∧g j=b
  ·obtain⟨j,hj,rfl⟩:=hex
   have hjk:j<k:=by
    rcases Nat.lt_or_ge j k with h3 | h3
    ·exact h3
    ·have:=hm.lt _ O hb
     rw[hg2 j h3]at this
     omega
   obtain⟨p,hp1⟩:=noNone_get F.pre j _ hnn (List.getElem?_eq_getElem (by rw[←hk];exact hjk))
   have hp2:F.pre[j]?=some (some p):=by rw[←hp1];exact List.getElem?_eq_getElem (by rw[←hk];exact hjk)
   obtain⟨c,o,h3,h4,h5⟩:=hl.obj j p hp2
   obtain⟨c',h6,h7,_⟩:=hg1 j hjk
   rw[h3]at h6
   injection h6 with h6
   subst h6
   rw[←h7,hb]at h4
   injection h4 with h4
   subst h4
   have hpre:(hOf F.pre).t.get j=some p.toO:=by rw[hOf_get];simp[lookP,hp2]
   obtain⟨_,⟨O',h8,h9⟩,h10⟩:=hev.pin j p.toO g2 hpre ((eO_pin h5).trans hp)
   rw[(of_get (A:=A) h3).2.1,←h7]at h10
   refine⟨?_,h10⟩
   rw[hOf_get]at h8
   obtain⟨q,h11,rfl⟩:=lookP_some h8
   have h12:=lay_at (g:=g) F.post 0 h.t j _ h11 (fun i' hi' e=>hginj i' j (by rw[hmm];exact hi') hj (by simpa using e))
   rw[Nat.zero_add]at h12
   refine⟨iO g q,h12,?_⟩
   rw[toO_pin]at h9
   cases q <;> first | exact h9 |(cases h9)
  ·have h3:∀j,j<m→g j≠b:=fun j hj e=>hex ⟨j,hj,e⟩
   refine⟨⟨O,?_,hp⟩,hev.fr _ (hm.ilt hb) (fun b0 U0 hU0=>hold b O h3 hb b0 U0 hU0)⟩
   rw[←hb]
   exact lay_not (g:=g) F.post 0 h.t b (fun i hi=>by rw[Nat.zero_add];exact h3 i (by rw[hmm];exact hi))
 ·rw[←hg]
  show Rel A' (h.next+(F.post.length-F.pre.length)) _ x
  rw[←hk,←hmm]
  rw[hnext]at hr
  exact iV_rel hsame hr
theorem facts_ok {P:Program} {f:FuncId} {args:List V} {h:H} {r:V × H}:∀(l:List Fact),(∀F∈l,FactOk P F)→factsF l f args h=some r→(∀(xs:Array Value) (w:World),(callFunc f xs).run P w=.ok (.enter f xs) w) ∧
  ∀(A:Sub) (w:World) (xs:List Value),Mt A h w→RelL A h.next args xs→Calls P f xs.toArray w fun e w'=>∃x,e=.returned x∧Post A h w r.1 r.2 x w'
 | [],_,hh=>by cases hh
 | F :: l,hl,hh=>by
  have hh:br (Nat.beq f F.f) (orr (useF F args h) (factsF l f args h) fun r=>some r) (factsF l f args h)=some r:=hh
  rw[br_beq]at hh
  split at hh
  ·rename_i e
   subst e
   cases hu:useF F args h with
   | none =>
    rw[hu]at hh
    exact facts_ok l (fun F hF=>hl F (List.mem_cons_of_mem _ hF)) hh
   | some q =>
    rw[hu]at hh
    injection hh with hh
    subst hh
    have hF:=hl F (by simp)
    exact⟨hF.1,fun A w xs hm hr=>use_ok hF hu A w xs hm hr⟩
  ·exact facts_ok l (fun F hF=>hl F (List.mem_cons_of_mem _ hF)) hh
end Go.Proofs.YtkcdehffcddciaaGreatDoor.Vm
