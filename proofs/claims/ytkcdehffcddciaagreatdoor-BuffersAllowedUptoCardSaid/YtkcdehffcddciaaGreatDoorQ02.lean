/- PLAIN: a machine that runs a function's code on values of its own: no order is drawn, no capacity, no address of the model's.
   Written for the kernel: it is the kernel that runs it. -/
import Derived.Test.YtkcdehffcddciaaGreatDoorQ01
namespace Go.Proofs.YtkcdehffcddciaaGreatDoor.Vm
open Go
noncomputable section
inductive V where
 | u
 | b (x:Bool)
 | i (k:IntKind) (n:Int)
 | s (x:ByteArray)
 | p (b o:Nat)
 | np
 | sl (b o len cap:Nat) (known:Bool) (sz:Nat)
 | ns
 | m (r:Nat)
 | nm
 | fn (f:Fn) (first captured:List V)
 | nf
 | iface (t:TypeId) (v:V)
 | ni
 | agg (l:List V)
 | tup (l:List V)
 | y (b:Nat)
 | se
structure En where
 k:IntKind
 n:Int
 v:V
 born:Nat
inductive Ex where
 | normal
 | exit (n:Nat)
 | ret
inductive Ls where
 | ready
 | busy
 | done (x:Ex)
inductive O where
 | cells (elem:TypeId) (hi:Nat) (opn:Bool) (c:Tr V)
 | map (es:List En) (clock:Nat)
 | iter (m:Nat) (since:Nat) (seen:List Nat) (stepped:Nat)
 | loop (st:Ls) (t:Tr V) (N:Nat) (ps:List Nat) (assign body:Code)
 | ro (pin:Option Nat) (elem:TypeId) (hi:Nat) (c:Tr V)
structure H where
 next:Nat
 t:Tr O
structure Out where
 x:Ex
 t:Tr V
 h:H
/-! ### Strict small things -/
def orr {α β:Type} (x:Option α) (n:β) (f:α→β):β:=Option.rec n f x
def ob {α β:Type} (x:Option α) (f:α→Option β):Option β:=Option.rec none f x
def bb {β:Type} (c:Bool) (x:Option β):Option β:=Bool.rec none x c
def fN {β:Type} (m:Nat) (K:Nat→Option β):Option β:=Nat.rec (K 0) (fun n _=>K (Nat.succ n)) m
def fI {β:Type} (n:Int) (K:Int→Option β):Option β:=Int.rec (fun m=>fN m fun m=>K (.ofNat m)) (fun m=>fN m fun m=>K (.negSucc m)) n
def fB {β:Type} (b:Bool) (K:Bool→Option β):Option β:=Bool.rec (K false) (K true) b
section
variable {α β:Type}
theorem ob_some {x:Option α} {f:α→Option β} {r:β} (h:ob x f=some r):∃a,x=some a∧f a=some r:=by
 cases x with
 | none=>cases h
 | some a=>exact⟨a,rfl,h⟩
theorem bb_some {c:Bool} {x:Option β} {r:β} (h:bb c x=some r):c=true∧x=some r:=by
 cases c with
 | false=>cases h
 | true=>exact⟨rfl,h⟩
theorem fN_eq (m:Nat) (K:Nat→Option β):fN m K=K m:=by cases m <;> rfl
theorem fI_eq (n:Int) (K:Int→Option β):fI n K=K n:=by
 cases n with
 | ofNat m=>exact fN_eq m fun m=>K (.ofNat m)
 | negSucc m=>exact fN_eq m fun m=>K (.negSucc m)
theorem fB_eq (b:Bool) (K:Bool→Option β):fB b K=K b:=by cases b <;> rfl
end
def mapO {α β:Type} (f:α→Option β) (l:List α):Option (List β):=List.rec (some []) (fun x _ ih=>ob (f x) fun y=>ob ih fun r=>some (y :: r)) l
def bindO {α β:Type} (f:α→Option (List β)) (l:List α):Option (List β):=List.rec (some []) (fun x r ih=>List.rec (f x) (fun _ _ _=>ob (f x) fun a=>ob ih fun c=>some (a++c)) r) l
mutual
def V.flat:V→Bool
 | .p _ _=>false
 | .sl _ _ _ _ _ _=>false
 | .m _=>false
 | .y _=>false
 | .fn _ a b=>flatL a&&flatL b
 | .iface _ v=>v.flat
 | .agg l=>flatL l
 | .tup l=>flatL l
 | _=>true
def flatL:List V→Bool
 | []=>true
 | v :: l=>v.flat&&flatL l
end
mutual
def V.same:V→V→Bool
 | .u,.u=>true
 | .b x,.b y=>x == y
 | .i k n,.i j m=>decide (k=j)&&n == m
 | .s x,.s y=>x == y
 | .p a o,.p c q=>Nat.beq a c&&Nat.beq o q
 | .np,.np=>true
 | .sl e o a c k z,.sl e' o' a' c' k' z'=>Nat.beq e e'&&Nat.beq o o'&&Nat.beq a a'&&Nat.beq c c'&&k == k'&&Nat.beq z z'
 | .ns,.ns=>true
 | .m a,.m c=>Nat.beq a c
 | .nm,.nm=>true
 | .fn f a c,.fn g a' c'=>decide (f=g)&&sameL a a'&&sameL c c'
 | .nf,.nf=>true
 | .iface t v,.iface t' v'=>Nat.beq t t'&&v.same v'
 | .ni,.ni=>true
 | .agg l,.agg l'=>sameL l l'
 | .tup l,.tup l'=>sameL l l'
 | .y a,.y c=>Nat.beq a c
 | .se,.se=>true
 | _,_=>false
def sameL:List V→List V→Bool
 | [],[]=>true
 | v :: l,v' :: l'=>v.same v'&&sameL l l'
 | _,_=>false
end
def V.one:V→Bool
 | .agg _=>false
 | .tup _=>false
 | .u=>false
 | _=>true
def V.cells:V→List V
 | .agg l=>l
 | v=>[v]
def allOne:List V→Bool
 | []=>true
 | v :: l=>v.one&&allOne l
section
variable {β:Type}
def asB (v:V) (K:Bool→Option β):Option β:=match v with | .b x=>K x | _=>none
def asI (v:V) (K:IntKind→Int→Option β):Option β:=match v with | .i k n=>K k n | _=>none
def asN (v:V) (K:Nat→Option β):Option β:=match v with | .i _ (.ofNat n)=>K n | _=>none
def asP (v:V) (K:Nat→Nat→Option β):Option β:=match v with | .p b o=>K b o | _=>none
def asAgg (v:V) (K:List V→Option β):Option β:=match v with | .agg l=>K l | _=>none
def asTup (v:V) (K:List V→Option β):Option β:=match v with | .tup l=>K l | _=>none
end
/-! ### Constants, types -/
def ofV1:Value→Option V
 | .bool x=>some (.b x)
 | .int k n=>some (.i k n)
 | .string x=>some (.s x)
 | .pointer none=>some .np
 | .slice none 0 0=>some .ns
 | .map none=>some .nm
 | .nilFunc=>some .nf
 | .nilIface=>some .ni
 | _=>none
def ofVal:Value→Option V
 | .agg l=>ob (mapO ofV1 l.toList) fun l=>some (.agg l)
 | v=>ofV1 v
def aggB (P:Program) (t:TypeId):Option Bool:=match P.underlying t with
 | some (.struct _)=>some true
 | some (.array _ _)=>some true
 | some _=>some false
 | none=>none
def sizeB (P:Program) (t:TypeId):Option Nat:=ob (P.info? t) fun i=>fN i.size some
def bytesB (P:Program) (t:TypeId):Option Nat:=ob (P.info? t) fun i=>fN i.bytes some
def zeroB (P:Program) (t:TypeId):Option V:=ob (P.info? t) fun i=>ob i.zero ofVal
def elemB (P:Program) (t:TypeId):Option TypeId:=match P.underlying t with
 | some (.slice e)=>some e
 | _=>none
/-! ### Memory -/
def loadN (c:Tr V) (n:Nat):Nat→Option (List V):=Nat.rec (motive:=fun _=>Nat→Option (List V)) (fun _=>some []) (fun _ ih o=>ob (c.get o) fun v=>ob (ih (Nat.succ o)) fun l=>some (v :: l)) n
section
variable {β:Type}
def rowK (h:H) (pt:Nat) (K:TypeId→Nat→Bool→Tr V→Option β):Option β:=ob (h.t.get pt) fun x=>match x with
 | .cells e hi p c=>K e hi p c
 | _=>none
def rowR (h:H) (pt:Nat) (K:TypeId→Nat→Tr V→Option β):Option β:=ob (h.t.get pt) fun x=>match x with
 | .cells e hi _ c=>K e hi c
 | .ro _ e hi c=>K e hi c
 | _=>none
def storeL (h:H) (pt:Nat) (o:Nat) (l:List V) (K:H→Option β):Option β:=rowK h pt fun e hi p c=>bb (Nat.ble (Nat.add o l.length) hi) (bb (allOne l) (Tr.putL l c o fun c=>Tr.put (some (.cells e hi p c)) h.t pt fun t=>K ⟨h.next,t⟩))
def newO (h:H) (x:O) (K:Nat→H→Option β):Option β:=Tr.put (some x) h.t h.next fun t=>fN (Nat.succ h.next) fun n=>K h.next ⟨n,t⟩
def newRow (h:H) (e:TypeId) (l:List V) (opn:Bool) (K:Nat→H→Option β):Option β:=bb (allOne l) (Tr.putL l .e 0 fun c=>fN l.length fun n=>newO h (.cells e n opn c) K)
def loadRow (h:H) (pt:Nat) (o n:Nat) (K:List V→Option β):Option β:=rowR h pt fun _ hi c=>bb (Nat.ble (Nat.add o n) hi) (ob (loadN c n o) K)
end
def rep (l:List V):Nat→List V
 | 0=>[]
 | n+1=>l++rep l n
def fillL (cells:List V):List (Nat × Nat × V)→Option (List V)
 | []=>some cells
 |(off,sz,v) :: rest=>bb (Nat.beq v.cells.length sz&&Nat.ble (off+sz) cells.length) (fillL (cells.take off++(v.cells++cells.drop (off+sz))) rest)
/-! ### Reckoning -/
section
variable {β:Type}
def mkI (k:IntKind) (n:Int) (K:V→Option β):Option β:=fI n fun n=>K (.i k n)
def mkB (b:Bool) (K:V→Option β):Option β:=fB b fun b=>K (.b b)
def arith (op:BinOp) (k:IntKind) (a c:Int) (K:V→Option β):Option β:=match op with
 | .add=>mkI k (k.wrap (a+c)) K
 | .sub=>mkI k (k.wrap (a-c)) K
 | .mul=>mkI k (k.wrap (a*c)) K
 | .quo=>bb (c != 0) (mkI k (k.wrap (a.tdiv c)) K)
 | .rem=>bb (c != 0) (mkI k (a.tmod c) K)
 | .and=>mkI k (k.wrap (BitVec.ofInt k.bits a &&& BitVec.ofInt k.bits c).toNat) K
 | .or=>mkI k (k.wrap (BitVec.ofInt k.bits a ||| BitVec.ofInt k.bits c).toNat) K
 | .xor=>mkI k (k.wrap (BitVec.ofInt k.bits a ^^^ BitVec.ofInt k.bits c).toNat) K
 | .andNot=>mkI k (k.wrap (BitVec.ofInt k.bits a &&& ~~~ BitVec.ofInt k.bits c).toNat) K
 | .eql=>mkB (a == c) K
 | .neq=>mkB (a != c) K
 | .lss=>mkB (decide (a<c)) K
 | .leq=>mkB (decide (a≤c)) K
 | .gtr=>mkB (decide (a > c)) K
 | .geq=>mkB (decide (a ≥ c)) K
 | _=>none
def shiftK (op:BinOp) (k:IntKind) (a c:Int) (K:V→Option β):Option β:=bb (!decide (c<0)) (match op with
 | .shl=>mkI k (k.wrap (a*2 ^ min c.toNat k.bits)) K
 | .shr=>mkI k (a.fdiv (2 ^ min c.toNat k.bits)) K
 | _=>none)
end
def eqCells:List Bool→List V→List V→Option Bool
 | [],[],[]=>some true
 | false :: ks,.b x :: l,.b y :: r=>br (x == y) (eqCells ks l r) (some false)
 | true :: ks,.i k x :: l,.i j y :: r=>bb (decide (k=j)) (br (x == y) (eqCells ks l r) (some false))
 | _,_,_=>none
inductive EqK where
 | bool | int | string | ptr | slice | map | func | iface
 | struct (ks:List Bool)
def eqField (P:Program) (x:Field × Nat):Option Bool:=bb (x.1.name != "_") (bb (Nat.beq x.1.offset x.2) (match P.underlying x.1.type with
 | some .bool=>some false
 | some (.int _)=>some true
 | _=>none))
def eqKind (P:Program) (t:TypeId):Option EqK:=match P.underlying t with
 | some .bool=>some .bool
 | some (.int _)=>some .int
 | some .string=>some .string
 | some (.pointer _)=>some .ptr
 | some (.slice _)=>some .slice
 | some (.map _ _)=>some .map
 | some (.func _ _ _)=>some .func
 | some (.interface _)=>some .iface
 | some (.struct fs)=>bb (!P.stoodInHeld t) (bb (!P.eqGuardType P.depth t) (ob (mapO (eqField P) fs.toList.zipIdx) fun ks=>some (.struct ks)))
 | _=>none
def eqV (e:EqK) (x y:V):Option Bool:=match e,x,y with
 | .bool,.b x,.b y=>some (x == y)
 | .int,.i k x,.i j y=>bb (decide (k=j)) (some (x == y))
 | .string,.s x,.s y=>some (x == y)
 | .ptr,.np,.np=>some true
 | .ptr,.np,.p _ _=>some false
 | .ptr,.p _ _,.np=>some false
 | .slice,.ns,.ns=>some true
 | .slice,.ns,.sl _ _ _ _ _ _=>some false
 | .slice,.sl _ _ _ _ _ _,.ns=>some false
 | .map,.nm,.nm=>some true
 | .map,.nm,.m _=>some false
 | .map,.m _,.nm=>some false
 | .func,.nf,.nf=>some true
 | .func,.nf,.fn _ _ _=>some false
 | .func,.fn _ _ _,.nf=>some false
 | .iface,.ni,.iface _ _=>some false
 | .iface,.iface _ _,.ni=>some false
 | .struct ks,.agg l,.agg r=>eqCells ks l r
 | _,_,_=>none
/-! ### Operands -/
inductive Rd where
 | t (k:Nat)
 | c (v:V)
def rdB:Operand→Option Rd
 | .tmp k=>some (.t k)
 | .const v=>ob (ofVal v) fun v=>some (.c v)
 | .func f=>some (.c (.fn (.func f) [] []))
 | .global _=>none
def orU (x:Option V):V:=match x with | some v=>v | none=>.u
def Rd.val (t:Tr V):Rd→V
 | .t p=>orU (t.get p)
 | .c v=>v
def rdK {β:Type} (t:Tr V) (r:Rd) (K:V→Option β):Option β:=Rd.rec (fun p=>orr (Tr.getP (path p) t) (K .u) K) K r
theorem rdK_eq {β:Type} (t:Tr V) (r:Rd) (K:V→Option β):rdK t r K=K (r.val t):=by
 cases r with
 | c v=>rfl
 | t p =>
  show orr (Tr.getP (path p) t) (K .u) K=K (orU (t.get p))
  rw[Tr.getP_path]
  cases t.get p <;> rfl
def rdL (t:Tr V) (l:List Rd):Option (List V):=List.rec (some []) (fun r _ ih=>rdK t r fun v=>ob ih fun l=>some (v :: l)) l
def partsB (place:Nat→Option (Nat × Nat)) (l:List (Nat × Operand)):Option (List (Nat × Nat × Rd)):=mapO (fun x=>ob (place x.1) fun p=>ob (rdB x.2) fun r=>some (p.1,p.2,r)) l
def rdP (t:Tr V) (l:List (Nat × Nat × Rd)):Option (List (Nat × Nat × V)):=mapO (fun x=>rdK t x.2.2 fun v=>some (x.1,x.2.1,v)) l
inductive Cal where
 | f (f:FuncId)
 | y (b:Nat)
abbrev CallF:=Cal→List V→H→Option (V × H)
structure Fx where
 f:CallF→Tr V→H→(V→H→Option (List Out))→Option (List Out)
section
variable (P:Program)
def loadB (ty:TypeId) (a:Rd):Option Fx:=ob (aggB P ty) fun g=>br g (ob (sizeB P ty) fun n=>some ⟨fun _ t h K=>rdK t a fun a=>asP a fun pt o=>loadRow h pt o n fun l=>K (.agg l) h⟩) (some ⟨fun _ t h K=>rdK t a fun a=>asP a fun pt o=>rowR h pt fun _ hi c=>bb (Nat.blt o hi) (ob (c.get o) fun v=>K v h)⟩)
def binB (op:BinOp) (ty:TypeId) (x y:Rd):Option Fx:=match op with
 | .eql=>ob (eqKind P ty) fun e=>some ⟨fun _ t h K=>rdK t x fun x=>rdK t y fun y=>ob (eqV e x y) fun r=>mkB r fun v=>K v h⟩
 | .neq=>ob (eqKind P ty) fun e=>some ⟨fun _ t h K=>rdK t x fun x=>rdK t y fun y=>ob (eqV e x y) fun r=>mkB (!r) fun v=>K v h⟩
 | .shl=>some ⟨fun _ t h K=>rdK t x fun x=>rdK t y fun y=>asI x fun k a=>asI y fun _ c=>shiftK .shl k a c fun v=>K v h⟩
 | .shr=>some ⟨fun _ t h K=>rdK t x fun x=>rdK t y fun y=>asI x fun k a=>asI y fun _ c=>shiftK .shr k a c fun v=>K v h⟩
 | op=>some ⟨fun _ t h K=>rdK t x fun x=>rdK t y fun y=>asI x fun k a=>asI y fun j c=>bb (decide (k=j)) (arith op k a c fun v=>K v h)⟩
def fieldB (s:TypeId) (f:Nat):Option (Nat × TypeId):=match P.underlying s with
 | some (.struct fs)=>ob fs[f]? fun fd=>fN fd.offset fun o=>some (o,fd.type)
 | _=>none
def placesB (ty:TypeId):Option (List (Nat × Nat)):=match P.underlying ty with
 | some (.struct fs)=>mapO (fun f=>ob (sizeB P f.type) fun n=>fN f.offset fun o=>some (o,n)) fs.toList
 | _=>none
def partB (t:TypeId) (off:Nat):Option (List V→Option V):=ob (aggB P t) fun g=>br g (ob (sizeB P t) fun n=>some fun l=>some (.agg ((l.drop off).take n))) (some fun l=>l[off]?)
def indexAddrB (ty:TypeId) (x i:Rd):Option Fx:=match P.underlying ty with
 | some (.slice e)=>ob (sizeB P e) fun sz=>some ⟨fun _ t h K=>rdK t x fun x=>rdK t i fun i=>asN i fun n=>match x with
  | .sl pt o len _ _ _=>bb (Nat.blt n len) (fN (Nat.add o (Nat.mul n sz)) fun o=>K (.p pt o) h)
  | _=>none⟩
 | some (.array len e)=>ob (sizeB P e) fun sz=>some ⟨fun _ t h K=>rdK t x fun x=>rdK t i fun i=>asN i fun n=>asP x fun pt o=>bb (Nat.blt n len) (fN (Nat.add o (Nat.mul n sz)) fun o=>K (.p pt o) h)⟩
 | _=>none
def tabB (ty:TypeId) (g:Nat) (i:Rd):Option Fx:=match P.underlying ty with
 | some (.array len e)=>ob (sizeB P e) fun sz=>some ⟨fun _ t h K=>rdK t i fun i=>asN i fun n=>ob (h.t.get g) fun o=>match o with
  | .ro (some g') _ _ _=>bb (Nat.beq g g') (bb (Nat.blt n len) (fN (Nat.mul n sz) fun o=>K (.p g o) h))
  | _=>none⟩
 | _=>none
def indexB (ty:TypeId) (x i:Rd):Option Fx:=match P.underlying ty with
 | some (.array len e)=>ob (sizeB P e) fun sz=>ob (aggB P e) fun g=>br g
  (some ⟨fun _ t h K=>rdK t x fun x=>rdK t i fun i=>asN i fun n=>asAgg x fun l=>bb (Nat.blt n len) (K (.agg ((l.drop (Nat.mul n sz)).take sz)) h)⟩)
  (some ⟨fun _ t h K=>rdK t x fun x=>rdK t i fun i=>asN i fun n=>asAgg x fun l=>bb (Nat.blt n len) (ob l[Nat.mul n sz]? fun v=>K v h)⟩)
 | some .string=>some ⟨fun _ t h K=>rdK t x fun x=>rdK t i fun i=>asN i fun n=>match x with
  | .s x=>ob x.data[n]? fun c=>mkI .u8 c.toNat fun v=>K v h
  | _=>none⟩
 | _=>none
def optB:Option Operand→Option (Option Rd)
 | none=>some none
 | some x=>ob (rdB x) fun r=>some (some r)
def boundK {β:Type} (t:Tr V) (x:Option Rd) (d top:Nat) (K:Nat→Option β):Option β:=orr x (K d) (fun x=>rdK t x fun v=>asN v fun n=>bb (Nat.ble n top) (K n))
def slice2B (ty:TypeId) (x:Rd) (lo hi:Option Rd):Option Fx:=ob (elemB P ty) fun e=>ob (sizeB P e) fun sz=>some ⟨fun _ t h K=>rdK t x fun x=>match x with
 | .sl pt o len cap k z=>bb (Nat.beq z sz) (boundK t hi len cap fun hh=>boundK t lo 0 hh fun l=>fN (Nat.sub hh l) fun n=>fN (Nat.sub cap l) fun c =>
   br (k&&Nat.beq cap l) (K (.sl pt o n c k sz) h) (fN (Nat.add o (Nat.mul l sz)) fun o=>K (.sl pt o n c k sz) h))
 | .ns=>boundK t hi 0 0 fun hh=>boundK t lo 0 hh fun _=>K .ns h
 | _=>none⟩
def slice3B (ty:TypeId) (x:Rd) (hi mx:Rd):Option Fx:=ob (elemB P ty) fun e=>ob (sizeB P e) fun sz=>some ⟨fun _ t h K=>rdK t x fun x=>match x with
 | .sl pt o _ cap _ z=>bb (Nat.beq z sz) (boundK t (some mx) cap cap fun m=>boundK t (some hi) m m fun hh=>fN hh fun n=>fN m fun c=>K (.sl pt o n c true sz) h)
 | .ns=>boundK t (some mx) 0 0 fun m=>boundK t (some hi) m m fun _=>K .ns h
 | _=>none⟩
end
section
variable {β:Type}
def newsK (sz:Nat) (h:H) (y:V) (K:Nat→List V→Option β):Option β:=match y with
 | .sl pt o n _ _ z=>bb (Nat.beq z sz) (loadRow h pt o (Nat.mul n sz) fun l=>K n l)
 | .ns=>K 0 []
 | _=>none
def growK (sz:Nat) (e:TypeId) (h:H) (m:Nat) (l:List V) (K:V→H→Option β):Option β:=newRow h e l true fun b h=>K (.sl b 0 m m false sz) h
def appendK (sz bytes:Nat) (e:TypeId) (h:H) (x y:V) (K:V→H→Option β):Option β:=newsK sz h y fun n news=>match x with
 | .ns=>Nat.rec (K .ns h) (fun _ _=>bb (Nat.ble (Nat.mul n bytes) 4294967296) (growK sz e h n news K)) n
 | .sl pt o len cap k z=>bb (Nat.beq z sz) (bb (Nat.ble (Nat.mul (Nat.add (Nat.add len n) cap) bytes) 4294967296) (fN (Nat.add len n) fun m =>
   br (Nat.ble m cap) (storeL h pt (Nat.add o (Nat.mul len sz)) news fun h=>K (.sl pt o m cap k sz) h)
    (br k (loadRow h pt o (Nat.mul len sz) fun olds=>growK sz e h m (olds++news) K)
     (rowK h pt fun e' hi p c=>bb p (bb (Nat.beq e e') (bb (Nat.beq (Nat.add o (Nat.mul len sz)) hi) (bb (allOne news) (br (Nat.beq o 0)
      (Tr.putL news c hi fun c=>Tr.put none h.t pt fun t=>fN (Nat.mul m sz) fun hi=>newO ⟨h.next,t⟩ (.cells e hi true c) fun b h=>K (.sl b 0 m m false sz) h)
      (loadRow h pt o (Nat.mul len sz) fun olds=>Tr.putL (olds++news) .e 0 fun c=>Tr.put none h.t pt fun t=>fN (Nat.mul m sz) fun hi=>newO ⟨h.next,t⟩ (.cells e hi true c) fun b h=>K (.sl b 0 m m false sz) h)))))))))
 | _=>none
end
def foldI (f:Int→Int→Int) (k:IntKind):Int→List V→Option Int
 | a,[]=>some a
 | a,.i j c :: l=>bb (decide (k=j)) (fI (f a c) fun a=>foldI f k a l)
 | _,_=>none
/-! ### Maps of whole numbers -/
def findE (k:IntKind) (n:Int):List En→Option (Option V)
 | []=>some none
 | e :: l=>bb (decide (k=e.k)) (bif n == e.n then some (some e.v)else findE k n l)
def putE (n:Int) (v:V):List En→List En
 | []=>[]
 | e :: l=>bif n == e.n then { e with v:=v } :: l else e :: putE n v l
section
variable {β:Type}
def mapK (h:H) (pt:Nat) (K:List En→Nat→Option β):Option β:=ob (h.t.get pt) fun x=>match x with
 | .map es c=>K es c
 | _=>none
def updK (h:H) (m k v:V) (K:H→Option β):Option β:=match m with
 | .m pt=>asI k fun k n=>mapK h pt fun es c=>ob (findE k n es) fun q=>orr q (fN (Nat.succ c) fun c1=>Tr.put (some (.map (es++[⟨k,n,v,c⟩]) c1)) h.t pt fun t=>K ⟨h.next,t⟩) (fun _=>Tr.put (some (.map (putE n v es) c)) h.t pt fun t=>K ⟨h.next,t⟩)
 | _=>none
def lookK (h:H) (m k z:V) (ok:Bool) (K:V→Option β):Option β:=asI k fun k n=>ob (match m with
  | .nm=>some none
  | .m pt=>mapK h pt fun es _=>findE k n es
  | _=>none) fun q=>orr q (br ok (K (.tup [z,.b false])) (K z)) (fun v=>br ok (K (.tup [v,.b true])) (K v))
end
def keyInt (P:Program) (ty:TypeId):Option TypeId:=match P.underlying ty with
 | some (.map k e)=>match P.underlying k with
  | some (.int _)=>some e
  | _=>none
 | _=>none
def nextC (h:H) (pt:Nat):Option (List (V × H)):=ob (h.t.get pt) fun x=>match x with
 | .iter m since seen stepped=>mapK h m fun es clock=>bb (Nat.beq since clock) (bb (Nat.beq stepped clock) <| bb (es.all fun e=>Nat.blt e.born clock) (match es.filter (fun e=>!seen.contains e.born)with
   | []=>some [(.tup [.b false],h)]
   | e :: l=>mapO (fun e=>Tr.put (some (.iter m since (seen++[e.born]) clock)) h.t pt fun t=>some (.tup [.b true,.i e.k e.n,e.v],⟨h.next,t⟩)) (e :: l)))
 | _=>none
def entryK {β:Type} (h:H) (pt:Nat) (K:V→Option β):Option β:=ob (h.t.get pt) fun x=>match x with
 | .iter m _ seen stepped=>mapK h m fun es clock=>bb (Nat.beq clock stepped) (ob seen.getLast? fun s=>ob (es.find? fun e=>Nat.beq e.born s) fun e=>K (.tup [.i e.k e.n,e.v]))
 | _=>none
/-! ### Calls -/
def methodV (P:Program) (t:TypeId) (name:String):Option FuncId:=ob (P.info? t) fun i=>ob (i.methods.find? (·.name == name)) fun m=>bb m.path.isEmpty (match m.func,P.underlying t with
   | some (f,true),some (.pointer _)=>some f
   | _,_=>none)
def zerosB (P:Program) (xt e:TypeId) (x y:Rd):Option Fx:=match P.underlying xt with
 | some (.int _)=>ob (sizeB P e) fun sz=>ob (bytesB P e) fun by_=>ob (zeroB P e) fun z=>bb (Nat.blt 0 sz) (bb (Nat.blt 0 by_) (bb (Nat.beq z.cells.length sz) (some ⟨fun _ t h K=>rdK t x fun x=>rdK t y fun y=>asN y fun n=>match x with
  | .ns=>Nat.rec (K .ns h) (fun _ _=>bb (Nat.ble (Nat.mul n by_) 4294967296) (growK sz e h n (rep z.cells n) K)) n
  | _=>none⟩)))
 | _=>none
def callB (P:Program) (c:Call):Option Fx:=ob (mapO rdB c.args.toList) fun args=>match c.callee with
  | .value f=>ob (rdB f) fun f=>some ⟨fun C t h K=>ob (rdL t args) fun args=>rdK t f fun f=>match f with
   | .fn (.func f) first cap=>ob (C (.f f) (first++(args++cap)) h) fun r=>K r.1 r.2
   | .y b=>ob (C (.y b) args h) fun r=>K r.1 r.2
   | _=>none⟩
  | .invoke r name=>ob (rdB r) fun r=>some ⟨fun C t h K=>ob (rdL t args) fun args=>rdK t r fun r=>match r with
   | .iface ty v=>ob (methodV P ty name) fun f=>ob (C (.f f) (v :: args) h) fun r=>K r.1 r.2
   | _=>none⟩
  | .builtin b=>match b,args with
   | .len,[x]=>match c.argTypes.toList with
    | [ty]=>match P.underlying ty with
     | some (.slice _)=>some ⟨fun _ t h K=>rdK t x fun x=>match x with
      | .sl _ _ n _ _ _=>K (.i .i64 (.ofNat n)) h
      | .ns=>K (.i .i64 (.ofNat 0)) h
      | .se=>K (.i .i64 (.ofNat 0)) h
      | _=>none⟩
     | some .string=>some ⟨fun _ t h K=>rdK t x fun x=>match x with
      | .s x=>mkI .i64 x.size fun v=>K v h
      | _=>none⟩
     | _=>none
    | _=>none
   | .cap,[x]=>match c.argTypes.toList with
    | [ty]=>match P.underlying ty with
     | some (.slice _)=>some ⟨fun _ t h K=>rdK t x fun x=>match x with
      | .sl _ _ _ n true _=>K (.i .i64 (.ofNat n)) h
      | .ns=>K (.i .i64 (.ofNat 0)) h
      | _=>none⟩
     | _=>none
    | _=>none
   | .min,x :: l=>some ⟨fun _ t h K=>rdK t x fun x=>asI x fun k a=>ob (rdL t l) fun l=>ob (foldI (fun a c=>if c<a then c else a) k a l) fun a=>K (.i k a) h⟩
   | .max,x :: l=>some ⟨fun _ t h K=>rdK t x fun x=>asI x fun k a=>ob (rdL t l) fun l=>ob (foldI (fun a c=>if c > a then c else a) k a l) fun a=>K (.i k a) h⟩
   | .append,[x,y]=>match c.argTypes.toList with
    | [ty,xt]=>ob (elemB P ty) fun e=>orr (elemB P xt) (zerosB P xt e x y) fun _=>ob (sizeB P e) fun sz=>ob (bytesB P e) fun by_=>ob (zeroB P e) fun z=>bb (Nat.blt 0 sz) (bb (Nat.blt 0 by_) (bb (Nat.beq z.cells.length sz) (some ⟨fun _ t h K=>rdK t x fun x=>rdK t y fun y=>appendK sz by_ e h x y K⟩)))
    | _=>none
   | _,_=>none
def bytesK {β:Type} (l:List UInt8):(List V→Option β)→Option β:=List.rec (motive:=fun _=>(List V→Option β)→Option β) (fun K=>K []) (fun c _ ih K=>fN c.toNat fun n=>ih fun l=>K (.i .u8 (.ofNat n) :: l)) l
def bytesOfB (P:Program) (e:TypeId) (x:Rd):Option Fx:=match P.underlying e with
 | some (.int .u8)=>some ⟨fun _ t h K=>rdK t x fun x=>match x with
  | .s x=>bytesK x.data.toList fun l=>Tr.putL l .e 0 fun c=>fN l.length fun n=>newO h (.ro none e n c) fun b h=>K (.sl b 0 n n false 1) h
  | _=>none⟩
 | _=>none
def markB (P:Program) (e:TypeId) (x:Rd):Option Fx:=match P.underlying e with
 | some (.int .u8)=>some ⟨fun _ t h K=>rdK t x fun x=>match x with
  | .sl b o n cap k z=>bb (Nat.blt 0 n) (rowK h b fun e' hi _ c=>Tr.put (some (.ro none e' hi c)) h.t b fun t=>K (.sl b o n cap k z) ⟨h.next,t⟩)
  | _=>none⟩
 | _=>none
def strK {β:Type} (l:List V):(List UInt8→Option β)→Option β:=List.rec (motive:=fun _=>(List UInt8→Option β)→Option β) (fun K=>K []) (fun v _ ih K=>match v with
 | .i .u8 (.ofNat n)=>ih fun l=>K (UInt8.ofNat n :: l)
 | _=>none) l
def strOfB (P:Program) (e:TypeId) (x:Rd):Option Fx:=match P.underlying e with
 | some (.int .u8)=>some ⟨fun _ t h K=>rdK t x fun x=>match x with
  | .ns=>K (.s .empty) h
  | .sl b o n _ _ _=>loadRow h b o n fun l=>strK l fun l=>K (.s ⟨⟨l⟩⟩) h
  | _=>none⟩
 | _=>none
def opB (P:Program) (o:Op):Option Fx:=match o with
 | .move x=>ob (rdB x) fun x=>some ⟨fun _ t h K=>rdK t x fun v=>K v h⟩
 | .assign x=>ob (rdB x) fun x=>some ⟨fun _ t h K=>rdK t x fun v=>K v h⟩
 | .load ty a=>ob (rdB a) fun a=>loadB P ty a
 | .store ty a x=>ob (rdB a) fun a=>ob (rdB x) fun x=>ob (sizeB P ty) fun n=>some ⟨fun _ t h K=>rdK t a fun a=>rdK t x fun x=>asP a fun pt o=>bb (Nat.beq x.cells.length n) (storeL h pt o x.cells fun h=>K .u h)⟩
 | .binOp op ty x y _=>ob (rdB x) fun x=>ob (rdB y) fun y=>binB P op ty x y
 | .fieldAddr s x f=>ob (rdB x) fun x=>ob (fieldB P s f) fun p=>ob (sizeB P p.2) fun n=>bb (Nat.blt 0 n) <| some ⟨fun _ t h K=>rdK t x fun x=>asP x fun pt o=>fN (Nat.add o p.1) fun o=>K (.p pt o) h⟩
 | .indexAddr ty (.global g) i=>ob (rdB i) fun i=>tabB P ty g i
 | .indexAddr ty x i=>ob (rdB x) fun x=>ob (rdB i) fun i=>indexAddrB P ty x i
 | .call c=>callB P c
 | .nilCheck x=>ob (rdB x) fun x=>some ⟨fun _ t h K=>rdK t x fun x=>match x with
  | .p pt o=>K (.p pt o) h
  | .fn (.func f) a b=>K (.fn (.func f) a b) h
  | .iface ty v=>K (.iface ty v) h
  | _=>none⟩
 | .extract x i=>ob (rdB x) fun x=>some ⟨fun _ t h K=>rdK t x fun x=>asTup x fun l=>ob l[i]? fun v=>K v h⟩
 | .pick c a b=>ob (rdB c) fun c=>ob (rdB a) fun a=>ob (rdB b) fun b=>some ⟨fun _ t h K=>rdK t c fun c=>asB c fun c=>br c (rdK t a fun v=>K v h) (rdK t b fun v=>K v h)⟩
 | .unOp op _ x=>ob (rdB x) fun x=>match op with
  | .not=>some ⟨fun _ t h K=>rdK t x fun x=>asB x fun x=>mkB (!x) fun v=>K v h⟩
  | .neg=>some ⟨fun _ t h K=>rdK t x fun x=>asI x fun k n=>arith .sub k 0 n fun v=>K v h⟩
  | .xor=>some ⟨fun _ t h K=>rdK t x fun x=>asI x fun k n=>arith .xor k (if k.signed then -1 else k.max) n fun v=>K v h⟩
  | _=>none
 | .alloc e=>ob (zeroB P e) fun z=>some ⟨fun _ _ h K=>newRow h e z.cells false fun b h=>K (.p b 0) h⟩
 | .box e x=>ob (rdB x) fun x=>some ⟨fun _ t h K=>rdK t x fun x=>newRow h e x.cells false fun b h=>K (.p b 0) h⟩
 | .build ty parts=>ob (zeroB P ty) fun z=>match P.underlying ty with
   | some (.struct _)=>ob (placesB P ty) fun pl=>ob (partsB (pl[·]?) parts.toList) fun ps=>some ⟨fun _ t h K=>ob (rdP t ps) fun ps=>ob (fillL z.cells ps) fun l=>K (.agg l) h⟩
   | some (.array _ e)=>ob (sizeB P e) fun sz=>ob (partsB (fun i=>some (i*sz,sz)) parts.toList) fun ps=>some ⟨fun _ t h K=>ob (rdP t ps) fun ps=>ob (fillL z.cells ps) fun l=>K (.agg l) h⟩
   | _=>none
 | .buildSlice ty len parts=>ob (elemB P ty) fun e=>ob (sizeB P e) fun sz=>ob (zeroB P e) fun z=>bb (Nat.blt 0 sz) (bb (Nat.beq z.cells.length sz) (bb (Nat.ble (Nat.mul len sz) 65536) (ob (partsB (fun i=>some (i*sz,sz)) parts.toList) fun ps =>
   some ⟨fun _ t h K=>ob (rdP t ps) fun ps=>ob (fillL (rep z.cells len) ps) fun l=>newRow h e l false fun b h=>K (.sl b 0 len len true sz) h⟩)))
 | .makeSlice ty l c=>ob (rdB l) fun l=>ob (rdB c) fun c=>ob (elemB P ty) fun e=>ob (sizeB P e) fun sz=>ob (zeroB P e) fun z=>ob (bytesB P e) fun by_=>bb (Nat.blt 0 sz) (bb (Nat.beq z.cells.length sz)
   (some ⟨fun _ t h K=>rdK t l fun l=>rdK t c fun c=>asN l fun l=>asN c fun c=>bb (Nat.ble l c) (bb (Nat.ble c 65536) (bb (Nat.ble (Nat.mul c by_) 4294967296) (newRow h e (rep z.cells c) false fun b h=>K (.sl b 0 l c true sz) h)))⟩))
 | .slice ty x lo hi none=>ob (rdB x) fun x=>ob (optB lo) fun lo=>ob (optB hi) fun hi=>slice2B P ty x lo hi
 | .slice ty x none (some hi) (some mx)=>ob (rdB x) fun x=>ob (rdB hi) fun hi=>ob (rdB mx) fun mx=>slice3B P ty x hi mx
 | .field ty x f=>ob (rdB x) fun x=>ob (fieldB P ty f) fun p=>ob (partB P p.2 p.1) fun g=>some ⟨fun _ t h K=>rdK t x fun x=>asAgg x fun l=>ob (g l) fun v=>K v h⟩
 | .index ty x i=>ob (rdB x) fun x=>ob (rdB i) fun i=>indexB P ty x i
 | .convert s d x=>ob (rdB x) fun x=>match P.underlying s,P.underlying d with
  | some (.int _),some (.int k)=>some ⟨fun _ t h K=>rdK t x fun x=>asI x fun _ n=>mkI k (k.wrap n) fun v=>K v h⟩
  | some .string,some (.slice e)=>bytesOfB P e x
  | some (.slice e),some .string=>strOfB P e x
  | some (.slice _),some (.slice e)=>bb (Nat.beq s d) (markB P e x)
  | _,_=>none
 | .makeInterface ty x=>ob (rdB x) fun x=>match P.underlying ty with
  | some (.pointer _)=>some ⟨fun _ t h K=>rdK t x fun v=>K (.iface ty v) h⟩
  | _=>none
 | .makeFunc f a b=>ob (mapO rdB a.toList) fun a=>ob (mapO rdB b.toList) fun b=>some ⟨fun _ t h K=>ob (rdL t a) fun a=>ob (rdL t b) fun b=>K (.fn f a b) h⟩
 | .typeAssert x _ ty ok=>ob (rdB x) fun x=>ob (zeroB P ty) fun z=>match P.underlying ty with
  | some (.pointer _)=>some ⟨fun _ t h K=>rdK t x fun x=>match x with
   | .iface tt v=>br (Nat.beq tt ty) (br ok (K (.tup [v,.b true]) h) (K v h)) (bb ok (K (.tup [z,.b false]) h))
   | _=>none⟩
  | _=>none
 | .makeMap _ none=>some ⟨fun _ _ h K=>newO h (.map [] 0) fun b h=>K (.m b) h⟩
 | .insert ty m k v=>ob (rdB m) fun m=>ob (rdB k) fun k=>ob (rdB v) fun v=>ob (keyInt P ty) fun _=>some ⟨fun _ t h K=>rdK t m fun m=>rdK t k fun k=>rdK t v fun v=>updK h m k v fun h=>K .u h⟩
 | .mapUpdate ty m k v=>ob (rdB m) fun m=>ob (rdB k) fun k=>ob (rdB v) fun v=>ob (keyInt P ty) fun _=>some ⟨fun _ t h K=>rdK t m fun m=>rdK t k fun k=>rdK t v fun v=>updK h m k v fun h=>K .u h⟩
 | .lookup ty m k ok=>ob (rdB m) fun m=>ob (rdB k) fun k=>ob (keyInt P ty) fun e=>ob (zeroB P e) fun z=>some ⟨fun _ t h K=>rdK t m fun m=>rdK t k fun k=>lookK h m k z ok fun v=>K v h⟩
 | .range ty x=>ob (rdB x) fun x=>ob (keyInt P ty) fun _=>some ⟨fun _ t h K=>rdK t x fun x=>match x with
  | .m r=>mapK h r fun _ c=>newO h (.iter r c [] c) fun b h=>K (.p b 0) h
  | _=>none⟩
 | .entry x=>ob (rdB x) fun x=>some ⟨fun _ t h K=>rdK t x fun x=>asP x fun pt o=>bb (Nat.beq o 0) (entryK h pt fun v=>K v h)⟩
 | _=>none
/-! ### Regions -/
structure St where
 g:Option (Nat × Bool)
 d:Option Nat
 next:Option Rd
 f:Fx
def guardB (ops:Array Oper) (o:Oper):Option (Option (Nat × Bool)):=match o.guard with
 | none=>some none
 | some (j,w)=>match ops[j]? with
  | some oj=>ob oj.dst fun d=>some (some (d,w))
  | none=>none
def dstB (N:Nat):Option Tmp→Option (Option Nat)
 | none=>some none
 | some k=>bb (Nat.blt k N) (some (some k))
def nextB:Op→Option Operand
 | .next x false=>some x
 | _=>none
def stB (P:Program) (ops:Array Oper) (N:Nat) (o:Oper):Option St:=ob (guardB ops o) fun g=>ob (dstB N o.dst) fun d=>orr (nextB o.op) (ob (opB P o.op) fun f=>some ⟨g,d,none,f⟩) (fun x=>ob (rdB x) fun x=>bb g.isNone (some ⟨none,d,some x,⟨fun _ _ _ _=>none⟩⟩))
def wantK (t:Tr V) (g:Option (Nat × Bool)):Bool:=match g with
 | none=>true
 | some (d,w)=>match Tr.getP (path d) t with
  | some (.b x)=>x == w
  | _=>false
section
variable {β:Type}
def putK (t:Tr V) (d:Option Nat) (v:V) (K:Tr V→Option β):Option β:=orr d (K t) (fun d=>Tr.putP (some v) (path d) t K)
def stepK (C:CallF) (s:St) (t:Tr V) (h:H) (K:Tr V→H→Option (List Out)):Option (List Out):=br (wantK t s.g) (s.f.f C t h fun v h=>putK t s.d v fun t=>K t h) (putK t s.d .u fun t=>K t h)
end
def runL (C:CallF) (l:List St):Tr V→H→Option (List Out):=List.rec (motive:=fun _=>Tr V→H→Option (List Out)) (fun t h=>some [⟨.normal,t,h⟩])
 (fun s _ ih t h=>orr s.next (stepK C s t h ih) (fun x=>rdK t x fun v=>asP v fun pt o=>bb (Nat.beq o 0) (ob (nextC h pt) fun cs=>bindO (fun c=>putK t s.d c.1 fun t=>ih t c.2) cs))) l
/-! A region that draws its order. -/
def isSoft:Op→Bool
 | .alloc _=>true
 | .makeSlice _ _ _=>true
 | _=>false
def isE:Op→Bool
 | .store _ _ _=>true
 | .box _ _=>true
 | .buildSlice _ _ _=>true
 | .makeMap _ _=>true
 | .insert _ _ _ _=>true
 | .mapUpdate _ _ _ _=>true
 | .range _ _=>true
 | .call c=>match c.callee with
  | .builtin .len=>false
  | .builtin .cap=>false
  | .builtin .min=>false
  | .builtin .max=>false
  | _=>true
 | _=>false
def bitsAt (l:List Nat) (o:Oper):Nat:=o.after.toList.foldl (fun s e=>bif Region.binds .any e then s ||| 2 ^ e.on ||| l.getD e.on 0 else s) 0
def bef:List Oper→List Nat→List Nat
 | [],l=>l
 | o :: r,l=>bef r (l++[bitsAt l o])
def idxs (p:Op→Bool) (ops:List Oper):List Nat:=(ops.zipIdx.filter fun x=>p x.1.op).map (·.2)
def usesT (ops:Array Oper) (o:Oper):List Nat:=(o.op.operands.toList.filterMap fun | .tmp t=>some t | _=>none)++(match o.guard with | some (j,_)=>(match ops[j]? with | some oj=>oj.dst.toList | none=>[]) | none=>[])
def drawOk (ops:Array Oper):Bool :=
 let l:=ops.toList
 let b:=bef l []
 let hd:=idxs isE l
 let sf:=idxs isSoft l
 (hd.all fun j=>hd.all fun i=>!Nat.blt i j ||(b.getD j 0).testBit i) &&
 (sf.all fun s=>hd.all fun j=>!Nat.blt s j ||(b.getD j 0).testBit s) &&
 (l.zipIdx.all fun (o,j)=>(match o.op with | .next _ _=>false | .select _ _=>false | .range _ _=>false | _=>true)&&(o.after.toList.all fun e=>!Region.binds .any e || Nat.blt e.on j) &&
  l.zipIdx.all fun (p,i)=>match p.dst with
   | none=>true
   | some d=>(Nat.beq i j || !(o.dst == some d))&&(!(usesT ops o).contains d || Nat.beq i j || (bif Nat.blt i j then(b.getD j 0).testBit i else(b.getD i 0).testBit j)))
inductive Dk where
 | e
 | soft (g:Tr V→Option (TypeId × List V × (Nat→V)))
 | q (ks:List (Option Nat))
structure Dr where
 us:List Nat
 s:St
 k:Dk
def mayStand (b hd:List Nat) (j:Nat) (x:Option Nat):Bool:=match x with
 | none=>hd.all fun e'=>!(b.getD j 0).testBit e'
 | some e=>!(b.getD e 0).testBit j&&hd.all fun e'=>Nat.ble e' e || !(b.getD j 0).testBit e'
def quietB (P:Program):Op→Bool
 | .convert _ d _=>match P.underlying d with
  | some (.slice _)=>false
  | _=>true
 | _=>true
def dkB (P:Program) (b hd:List Nat) (j:Nat) (o:Op):Option Dk:=br (isE o) (some .e) (match o with
 | .alloc e=>ob (zeroB P e) fun z=>bb (allOne z.cells) (some (.soft fun _=>some (e,z.cells,fun b=>.p b 0)))
 | .makeSlice ty l c=>ob (rdB l) fun l=>ob (rdB c) fun c=>ob (elemB P ty) fun e=>ob (sizeB P e) fun sz=>ob (zeroB P e) fun z=>ob (bytesB P e) fun by_=>bb (Nat.blt 0 sz) (bb (Nat.beq z.cells.length sz)
   (some (.soft fun t=>rdK t l fun l=>rdK t c fun c=>asN l fun l=>asN c fun c=>bb (Nat.ble l c) (bb (Nat.ble c 65536) (bb (Nat.ble (Nat.mul c by_) 4294967296) (bb (allOne (rep z.cells c)) (some (e,rep z.cells c,fun b=>.sl b 0 l c true sz))))))))
 | o=>bb (quietB P o) (some (.q ((none :: hd.map some).filter (mayStand b hd j)))))
def drB (P:Program) (ops:Array Oper) (N:Nat):Option (List Dr) :=
 let b:=bef ops.toList []
 let hd:=idxs isE ops.toList
 mapO (fun x=>ob (stB P ops N x.1) fun s=>ob (dkB P b hd x.2 x.1.op) fun k=>bb s.next.isNone (some ⟨usesT ops x.1,s,k⟩)) ops.toList.zipIdx
structure Re where
 ks:List (Option Nat)
 f:Fx
 t:Tr V
 v:V
def noC:CallF:=fun _ _ _=>none
def tell (v:V) (h:H):Option (List Out):=some [⟨.normal,.n .e (some v) .e,h⟩]
def one (x:Option (List Out)):Option (V × H):=match x with
 | some [⟨_,.n _ (some v) _,h⟩]=>some (v,h)
 | _=>none
mutual
def V.under (n:Nat):V→Bool
 | .p b _=>Nat.blt b n
 | .sl b _ _ _ _ _=>Nat.blt b n
 | .m r=>Nat.blt r n
 | .y b=>Nat.blt b n
 | .fn _ a b=>underL n a&&underL n b
 | .iface _ v=>v.under n
 | .agg l=>underL n l
 | .tup l=>underL n l
 | _=>true
def underL (n:Nat):List V→Bool
 | []=>true
 | v :: l=>v.under n&&underL n l
end
def small {β:Type} (t:Tr V) (us:List Nat):Tr V→(Tr V→Option β)→Option β:=List.rec (motive:=fun _=>Tr V→(Tr V→Option β)→Option β) (fun a K=>K a)
 (fun k _ ih a K=>orr (Tr.getP (path k) t) (ih a K) (fun v=>Tr.putP (some v) (path k) a fun a=>ih a K)) us
def underT (t:Tr V) (n:Nat) (us:List Nat):Bool:=us.all fun k=>orr (t.get k) true (fun v=>v.under n)
def readsOk (far:Nat) (stages:List (Option Nat × H)) (rs:List Re):Bool:=rs.all fun r=>stages.all fun x=>br (r.ks.contains x.1) (match one (r.f.f noC r.t ⟨far,x.2.t⟩ tell)with
 | some p=>p.1.same r.v
 | none=>false) true
def runD (C:CallF) (far:Nat) (l:List Dr):Nat→Tr V→H→H→List (Option Nat × H)→List Re→List V→Option (List Out):=List.rec (motive:=fun _=>Nat→Tr V→H→H→List (Option Nat × H)→List Re→List V→Option (List Out))
 (fun _ t _ h st rs vs=>bb (Nat.ble h.next far) (bb (readsOk far st rs) (bb (underL h.next vs) (some [⟨.normal,t,h⟩]))))
 (fun d _ ih j t hs h st rs vs=>small t d.us .e fun ts=>br (wantK ts d.s.g)
  (match d.k with
   | .e=>bb (underT ts h.next d.us) (ob (one (d.s.f.f C ts h tell)) fun p=>bb (Nat.ble h.next p.2.next) (putK t d.s.d p.1 fun t'=>ih (Nat.succ j) t' p.2 p.2 ((some j,p.2) :: st) rs (p.1 :: vs)))
   | .soft g=>ob (g ts) fun x=>Tr.putL x.2.1 .e 0 fun c=>newO h (.cells x.1 x.2.1.length false c) fun b h'=>putK t d.s.d (x.2.2 b) fun t'=>ih (Nat.succ j) t' hs h' st rs (x.2.2 b :: vs)
   | .q ks=>ob (one (d.s.f.f noC ts ⟨far,hs.t⟩ tell)) fun p=>putK t d.s.d p.1 fun t'=>ih (Nat.succ j) t' hs h st (⟨ks,d.s.f,ts,p.1⟩ :: rs) (p.1 :: vs))
  (putK t d.s.d .u fun t'=>match d.k with
   | .e=>ih (Nat.succ j) t' h h ((some j,h) :: st) rs (.u :: vs)
   | _=>ih (Nat.succ j) t' hs h st rs (.u :: vs))) l
def dokC (sk:Nat):Code→Bool
 | .seq a b=>dokC sk a&&dokC sk b
 | .cond _ a b=>dokC sk a&&dokC sk b
 | .block _ b=>dokC sk b
 | .loop b=>dokC sk b
 | .scope b=>dokC sk b
 | .rangeFunc _ _ a b=>dokC 0 a&&dokC 0 b
 | .region id ops true=>Nat.testBit sk id || drawOk ops
 | _=>true
/-! ### Code, ready -/
inductive Vc where
 | skip
 | exit (n:Nat)
 | ret
 | seq (a b:Vc)
 | cond (x:Rd) (a b:Vc)
 | block (id:Nat) (b:Vc)
 | loop (b:Vc)
 | region (l:List St)
 | draw (l:List Dr)
 | range (x:Rd) (N:Nat) (ps:List Nat) (assign body:Code)
 | no
def orNo (x:Option Vc):Vc:=orr x .no (fun c=>c)
def vcB (P:Program) (N:Nat) (rf:Bool) (sk:Nat):Code→Vc
 | .skip=>.skip
 | .label _=>.skip
 | .exit n=>.exit n
 | .ret=>.ret
 | .seq a b=>.seq (vcB P N rf sk a) (vcB P N rf sk b)
 | .cond x a b=>orNo (ob (rdB x) fun x=>some (.cond x (vcB P N rf sk a) (vcB P N rf sk b)))
 | .block id b=>.block id (vcB P N rf sk b)
 | .loop b=>.loop (vcB P N rf sk b)
 | .scope b=>vcB P N rf sk b
 | .region id ops d=>orNo (br d (br (Nat.testBit sk id) none (ob (drB P ops N) fun l=>some (.draw l))) (ob (mapO (stB P ops N) ops.toList) fun l=>some (.region l)))
 | .rangeFunc x ps a b=>orNo (bb rf (bb (ps.toList.all fun p=>Nat.blt p N) (ob (rdB x) fun x=>some (.range x N ps.toList a b))))
 | _=>.no
def andThen (l:Option (List Out)) (f:Out→Option (List Out)):Option (List Out):=ob l fun l=>bindO (fun o=>match o.x with | .normal=>f o | _=>some [o]) l
def rangeK (C:CallF) (t:Tr V) (h:H) (N:Nat) (ps:List Nat) (a b:Code) (v:V):Option (List Out):=match v with
 | .fn (.func g) [] cap=>newO h (.loop .ready t N ps a b) fun l h1=>ob (C (.f g) (.y l :: cap) h1) fun r=>ob (r.2.t.get l) fun o=>match o with
  | .loop .ready _ _ _ _ _=>Tr.put none r.2.t l fun tr=>some [⟨.normal,t,⟨r.2.next,tr⟩⟩]
  | .loop (.done x) _ _ _ _ _=>Tr.put none r.2.t l fun tr=>some [⟨x,t,⟨r.2.next,tr⟩⟩]
  | _=>none
 | _=>none
def putPs (ps:List Nat) (t:Tr V) (l:List V) (K:Tr V→Option (V × H)):Option (V × H):=match ps,l with
 | [],[]=>K t
 | p :: ps,v :: l=>Tr.put (some v) t p fun t=>putPs ps t l K
 | _,_=>none
def yieldS (P:Program) (ex:Vc→Tr V→H→Option (List Out)) (b:Nat) (args:List V) (h:H):Option (V × H):=ob (h.t.get b) fun o=>match o with
 | .loop .ready t N ps as bd=>putPs ps t args fun t1=>ob (ex (vcB P N false 0 as) t1 h) fun l=>match l with
  | [⟨.normal,t2,h2⟩]=>ob (h2.t.get b) fun o=>match o with
   | .loop .ready t3 N3 ps3 as3 bd3=>Tr.put (some (.loop .busy t3 N3 ps3 as3 bd3)) h2.t b fun tr=>ob (ex (vcB P N false 0 bd) t2 ⟨h2.next,tr⟩) fun l=>match l with
    | [⟨x,_,h4⟩]=>ob (h4.t.get b) fun o=>match o with
     | .loop .busy t5 N5 ps5 as5 bd5=>match x with
      | .normal=>Tr.put (some (.loop .ready t5 N5 ps5 as5 bd5)) h4.t b fun tr=>some (.b true,⟨h4.next,tr⟩)
      | x=>Tr.put (some (.loop (.done x) t5 N5 ps5 as5 bd5)) h4.t b fun tr=>some (.b false,⟨h4.next,tr⟩)
     | _=>none
    | _=>none
   | _=>none
  | _=>none
 | _=>none
def execS (C:CallF) (ih:Vc→Tr V→H→Option (List Out)) (c:Vc) (t:Tr V) (h:H):Option (List Out):=match c with
 | .skip=>some [⟨.normal,t,h⟩]
 | .exit n=>some [⟨.exit n,t,h⟩]
 | .ret=>some [⟨.ret,t,h⟩]
 | .seq a b=>andThen (ih a t h) fun o=>ih b o.t o.h
 | .cond x a b=>rdK t x fun v=>asB v fun v=>br v (ih a t h) (ih b t h)
 | .block id b=>ob (ih b t h) fun l=>mapO (fun o=>match o.x with
   | .exit j=>br (Nat.beq j id) (some ⟨.normal,o.t,o.h⟩) (some o)
   | _=>some o) l
 | .loop b=>andThen (ih b t h) fun o=>ih (.loop b) o.t o.h
 | .region l=>runL C l t h
 | .draw l=>fN (Nat.add h.next 4294967296) fun far=>runD C far l 0 t h h [(none,h)] [] []
 | .range x N ps a b=>rdK t x fun v=>rangeK C t h N ps a b v
 | .no=>none
structure Cfg where
 P:Program
 /-- functions that are called in a memory of their own,as bits -/
 pure:Nat
 /-- functions whose regions that draw are looked at -/
 fs:Nat
 /-- regions that are not run -/
 sk:FuncId→Nat
 /-- what some of them answer -/
 memo:FuncId→List V→H→Option (V × H)
structure Fu where
 c:Vc
 n:Nat
 rs:List (Tr V→H→Option V)
 pure:Bool
def resB (P:Program):ResultVar→Option (Tr V→H→Option V)
 | .tmp k=>some fun t _=>orr (Tr.getP (path k) t) (some .u) (fun v=>some v)
 | .cell a ty=>ob (loadB P ty (.t a)) fun f=>some fun t h=>match f.f noC t h tell with
  | some [⟨_,.n _ v _,_⟩]=>v
  | _=>none
def fuB (G:Cfg) (f:FuncId):Option Fu:=bb (Nat.testBit G.fs f) (ob G.P.funcs[f]? fun fn=>ob fn.body fun c=>fN fn.ntmps fun n=>ob (mapO (resB G.P) fn.results.toList) fun rs=>fB (Nat.testBit G.pure f) fun p=>some ⟨vcB G.P n true (G.sk f) c,n,rs,p⟩)
def resultsV (rs:List (Tr V→H→Option V)) (o:Out):Option (V × H):=bb (match o.x with | .exit _=>false | _=>true) (ob (mapO (fun f=>f o.t o.h) rs) fun l=>match l with
  | []=>some (.u,o.h)
  | [v]=>some (v,o.h)
  | l=>some (.tup l,o.h))
def callF (G:Cfg) (ex:Vc→Tr V→H→Option (List Out)) (f:FuncId) (args:List V) (h:H):Option (V × H):=orr (G.memo f args h)
 (ob (fuB G f) fun F=>bb (Nat.ble args.length F.n) (Tr.putL args .e 0 fun t=>br (F.pure&&flatL args)
  (ob (ex F.c t ⟨h.next,.e⟩) fun l=>ob (mapO (resultsV F.rs) l) fun l=>match l with
    | x :: r=>bb (x.1.flat&&r.all fun y=>y.1.same x.1) (some (x.1,h))
    | []=>none)
  (ob (ex F.c t h) fun l=>match l with
    | [o]=>resultsV F.rs o
    | _=>none)))
 (fun r=>some r)
def callS (G:Cfg) (ex:Vc→Tr V→H→Option (List Out)) (c:Cal) (args:List V) (h:H):Option (V × H):=match c with
 | .f f=>callF G ex f args h
 | .y b=>yieldS G.P ex b args h
def exec (G:Cfg) (n:Nat):Vc→Tr V→H→Option (List Out):=Nat.rec (motive:=fun _=>Vc→Tr V→H→Option (List Out)) (fun _ _ _=>none) (fun _ ih=>execS (callS G ih) ih) n
def call (G:Cfg) (n:Nat):FuncId→List V→H→Option (V × H):=callF G (exec G n)
end
end Go.Proofs.YtkcdehffcddciaaGreatDoor.Vm
