/- PLAIN: the small machine's operations as data, their types looked up beforehand; what each does, in direct words. -/
import Derived.Test.YtkcdehffcddciaaGreatDoorQ10
namespace Go.Proofs.YtkcdehffcddciaaGreatDoor.Vm
open Go
inductive Top where
 | mv (x:Rd)
 | ld (a:Rd)
 | lds (a:Rd) (n:Nat)
 | st (a x:Rd) (n:Nat)
 | ar (op:BinOp) (x y:Rd)
 | sh (op:BinOp) (x y:Rd)
 | eq (e:EqK) (neg:Bool) (x y:Rd)
 | fa (x:Rd) (o:Nat)
 | ia (x i:Rd) (sz:Nat)
 | iaa (x i:Rd) (len sz:Nat)
 | tb (g:Nat) (i:Rd) (len sz:Nat)
 | nc (x:Rd)
 | ex (x:Rd) (i:Nat)
 | pk (c a b:Rd)
 | nt (x:Rd)
 | ng (x:Rd)
 | al (e:TypeId) (z:List V)
 | bx (e:TypeId) (x:Rd)
 | bd (z:List V) (ps:List (Nat × Nat × Rd))
 | bs (e:TypeId) (len sz:Nat) (z:List V) (ps:List (Nat × Nat × Rd))
 | ms (e:TypeId) (sz by_:Nat) (z:List V) (l c:Rd)
 | s2 (sz:Nat) (x:Rd) (lo hi:Option Rd)
 | fl (x:Rd) (off:Nat)
 | fls (x:Rd) (off n:Nat)
 | cv (k:IntKind) (x:Rd)
 | mf (f:Fn) (a b:List Rd)
 | mm
 | mu (m k v:Rd)
 | lk (m k:Rd) (z:V) (ok:Bool)
 | len (x:Rd)
 | slen (x:Rd)
 | mn (x:Rd) (l:List Rd)
 | mx (x:Rd) (l:List Rd)
 | ap (e:TypeId) (sz by_:Nat) (x y:Rd)
 | cap (x:Rd)
 | apz (e:TypeId) (sz by_:Nat) (z:List V) (x y:Rd)
 | call (f:FuncId) (args:List Rd)
 | callv (g:Rd) (args:List Rd)
 | nx (x:Rd)
 | rg (x:Rd)
 | en (x:Rd)
noncomputable section
def zerosT (P:Program) (xt e:TypeId) (x y:Rd):Option Top:=match P.underlying xt with
 | some (.int _)=>ob (sizeB P e) fun sz=>ob (bytesB P e) fun by_=>ob (zeroB P e) fun z=>bb (Nat.blt 0 sz) (bb (Nat.blt 0 by_) (bb (Nat.beq z.cells.length sz) (some (.apz e sz by_ z.cells x y))))
 | _=>none
def opT (P:Program) (o:Op):Option Top:=match o with
 | .move x=>ob (rdB x) fun x=>some (.mv x)
 | .assign x=>ob (rdB x) fun x=>some (.mv x)
 | .load ty a=>ob (rdB a) fun a=>ob (aggB P ty) fun g=>br g (ob (sizeB P ty) fun n=>some (.lds a n)) (some (.ld a))
 | .store ty a x=>ob (rdB a) fun a=>ob (rdB x) fun x=>ob (sizeB P ty) fun n=>some (.st a x n)
 | .binOp op ty x y _=>ob (rdB x) fun x=>ob (rdB y) fun y=>match op with
  | .eql=>ob (eqKind P ty) fun e=>some (.eq e false x y)
  | .neq=>ob (eqKind P ty) fun e=>some (.eq e true x y)
  | .shl=>some (.sh .shl x y)
  | .shr=>some (.sh .shr x y)
  | op=>some (.ar op x y)
 | .fieldAddr s x f=>ob (rdB x) fun x=>ob (fieldB P s f) fun p=>ob (sizeB P p.2) fun n=>bb (Nat.blt 0 n) (some (.fa x p.1))
 | .indexAddr ty (.global g) i=>ob (rdB i) fun i=>match P.underlying ty with
  | some (.array len e)=>ob (sizeB P e) fun sz=>some (.tb g i len sz)
  | _=>none
 | .indexAddr ty x i=>ob (rdB x) fun x=>ob (rdB i) fun i=>match P.underlying ty with
  | some (.slice e)=>ob (sizeB P e) fun sz=>some (.ia x i sz)
  | some (.array len e)=>ob (sizeB P e) fun sz=>some (.iaa x i len sz)
  | _=>none
 | .nilCheck x=>ob (rdB x) fun x=>some (.nc x)
 | .extract x i=>ob (rdB x) fun x=>some (.ex x i)
 | .pick c a b=>ob (rdB c) fun c=>ob (rdB a) fun a=>ob (rdB b) fun b=>some (.pk c a b)
 | .unOp op _ x=>ob (rdB x) fun x=>match op with
  | .not=>some (.nt x)
  | .neg=>some (.ng x)
  | _=>none
 | .alloc e=>ob (zeroB P e) fun z=>some (.al e z.cells)
 | .box e x=>ob (rdB x) fun x=>some (.bx e x)
 | .build ty parts=>ob (zeroB P ty) fun z=>match P.underlying ty with
   | some (.struct _)=>ob (placesB P ty) fun pl=>ob (partsB (pl[·]?) parts.toList) fun ps=>some (.bd z.cells ps)
   | some (.array _ e)=>ob (sizeB P e) fun sz=>ob (partsB (fun i=>some (i*sz,sz)) parts.toList) fun ps=>some (.bd z.cells ps)
   | _=>none
 | .buildSlice ty len parts=>ob (elemB P ty) fun e=>ob (sizeB P e) fun sz=>ob (zeroB P e) fun z=>bb (Nat.blt 0 sz) (bb (Nat.beq z.cells.length sz) (bb (Nat.ble (Nat.mul len sz) 65536) (ob (partsB (fun i=>some (i*sz,sz)) parts.toList) fun ps=>some (.bs e len sz z.cells ps))))
 | .makeSlice ty l c=>ob (rdB l) fun l=>ob (rdB c) fun c=>ob (elemB P ty) fun e=>ob (sizeB P e) fun sz=>ob (zeroB P e) fun z=>ob (bytesB P e) fun by_=>bb (Nat.blt 0 sz) (bb (Nat.beq z.cells.length sz) (some (.ms e sz by_ z.cells l c)))
 | .slice ty x lo hi none=>ob (rdB x) fun x=>ob (optB lo) fun lo=>ob (optB hi) fun hi=>ob (elemB P ty) fun e=>ob (sizeB P e) fun sz=>some (.s2 sz x lo hi)
 | .field ty x f=>ob (rdB x) fun x=>ob (fieldB P ty f) fun p=>ob (aggB P p.2) fun g=>br g (ob (sizeB P p.2) fun n=>some (.fls x p.1 n)) (some (.fl x p.1))
 | .convert s d x=>ob (rdB x) fun x=>match P.underlying s,P.underlying d with
  | some (.int _),some (.int k)=>some (.cv k x)
  | _,_=>none
 | .makeFunc f a b=>ob (mapO rdB a.toList) fun a=>ob (mapO rdB b.toList) fun b=>some (.mf f a b)
 | .makeMap _ none=>some .mm
 | .insert ty m k v=>ob (rdB m) fun m=>ob (rdB k) fun k=>ob (rdB v) fun v=>ob (keyInt P ty) fun _=>some (.mu m k v)
 | .mapUpdate ty m k v=>ob (rdB m) fun m=>ob (rdB k) fun k=>ob (rdB v) fun v=>ob (keyInt P ty) fun _=>some (.mu m k v)
 | .lookup ty m k ok=>ob (rdB m) fun m=>ob (rdB k) fun k=>ob (keyInt P ty) fun e=>ob (zeroB P e) fun z=>some (.lk m k z ok)
 | .range ty x=>ob (rdB x) fun x=>ob (keyInt P ty) fun _=>some (.rg x)
 | .entry x=>ob (rdB x) fun x=>some (.en x)
 | .call c=>ob (mapO rdB c.args.toList) fun args=>match c.callee with
  | .value (.func f)=>some (.call f args)
  | .value g=>ob (rdB g) fun g=>some (.callv g args)
  | .builtin b=>match b,args with
   | .len,[x]=>match c.argTypes.toList with
    | [ty]=>match P.underlying ty with
     | some (.slice _)=>some (.len x)
     | some .string=>some (.slen x)
     | _=>none
    | _=>none
   | .cap,[x]=>match c.argTypes.toList with
    | [ty]=>match P.underlying ty with
     | some (.slice _)=>some (.cap x)
     | _=>none
    | _=>none
   | .min,x :: l=>some (.mn x l)
   | .max,x :: l=>some (.mx x l)
   | .append,[x,y]=>match c.argTypes.toList with
    | [ty,xt]=>ob (elemB P ty) fun e=>orr (elemB P xt) (zerosT P xt e x y) fun _=>ob (sizeB P e) fun sz=>ob (bytesB P e) fun by_=>ob (zeroB P e) fun z=>bb (Nat.blt 0 sz) (bb (Nat.blt 0 by_) (bb (Nat.beq z.cells.length sz) (some (.ap e sz by_ x y))))
    | _=>none
   | _,_=>none
  | _=>none
 | _=>none
def vals (t:Tr V) (l:List Rd):List V:=l.map fun r=>r.val t
def partsV (t:Tr V) (l:List (Nat × Nat × Rd)):List (Nat × Nat × V):=l.map fun x=>(x.1,x.2.1,x.2.2.val t)
def pr (v:V) (h:H):Option (V × H):=some (v,h)
def tdo (C:CallF) (o:Top) (t:Tr V) (h:H):Option (V × H):=match o with
 | .mv x=>some (x.val t,h)
 | .ld a=>asP (a.val t) fun pt o=>rowR h pt fun _ hi c=>bb (Nat.blt o hi) (ob (c.get o) fun v=>some (v,h))
 | .lds a n=>asP (a.val t) fun pt o=>loadRow h pt o n fun l=>some (.agg l,h)
 | .st a x n=>asP (a.val t) fun pt o=>bb (Nat.beq (x.val t).cells.length n) (storeL h pt o (x.val t).cells fun h=>some (.u,h))
 | .ar op x y=>asI (x.val t) fun k a=>asI (y.val t) fun j c=>bb (decide (k=j)) (arith op k a c fun v=>some (v,h))
 | .sh op x y=>asI (x.val t) fun k a=>asI (y.val t) fun _ c=>shiftK op k a c fun v=>some (v,h)
 | .eq e neg x y=>ob (eqV e (x.val t) (y.val t)) fun r=>mkB (r != neg) fun v=>some (v,h)
 | .fa x o'=>asP (x.val t) fun pt o=>some (.p pt (o+o'),h)
 | .ia x i sz=>asN (i.val t) fun n=>match x.val t with
  | .sl pt o len _ _ _=>bb (Nat.blt n len) (some (.p pt (o+n*sz),h))
  | _=>none
 | .iaa x i len sz=>asN (i.val t) fun n=>asP (x.val t) fun pt o=>bb (Nat.blt n len) (some (.p pt (o+n*sz),h))
 | .tb g i len sz=>asN (i.val t) fun n=>ob (h.t.get g) fun o=>match o with
  | .ro (some g') _ _ _=>bb (Nat.beq g g') (bb (Nat.blt n len) (some (.p g (n*sz),h)))
  | _=>none
 | .nc x=>match x.val t with
  | .p pt o=>some (.p pt o,h)
  | .fn (.func f) a b=>some (.fn (.func f) a b,h)
  | .iface ty v=>some (.iface ty v,h)
  | _=>none
 | .ex x i=>asTup (x.val t) fun l=>ob l[i]? fun v=>some (v,h)
 | .pk c a b=>asB (c.val t) fun c=>br c (some (a.val t,h)) (some (b.val t,h))
 | .nt x=>asB (x.val t) fun x=>some (.b (!x),h)
 | .ng x=>asI (x.val t) fun k n=>arith .sub k 0 n fun v=>some (v,h)
 | .al e z=>newRow h e z false fun b h=>some (.p b 0,h)
 | .bx e x=>newRow h e (x.val t).cells false fun b h=>some (.p b 0,h)
 | .bd z ps=>ob (fillL z (partsV t ps)) fun l=>some (.agg l,h)
 | .bs e len sz z ps=>ob (fillL (rep z len) (partsV t ps)) fun l=>newRow h e l false fun b h=>some (.sl b 0 len len true sz,h)
 | .ms e sz by_ z l c=>asN (l.val t) fun l=>asN (c.val t) fun c=>bb (Nat.ble l c) (bb (Nat.ble c 65536) (bb (Nat.ble (Nat.mul c by_) 4294967296) (newRow h e (rep z c) false fun b h=>some (.sl b 0 l c true sz,h))))
 | .s2 sz x lo hi=>match x.val t with
  | .sl pt o len cap k z=>bb (Nat.beq z sz) (boundK t hi len cap fun hh=>boundK t lo 0 hh fun l =>
    br (k&&Nat.beq cap l) (some (.sl pt o (hh-l) (cap-l) k sz,h)) (some (.sl pt (o+l*sz) (hh-l) (cap-l) k sz,h)))
  | .ns=>boundK t hi 0 0 fun hh=>boundK t lo 0 hh fun _=>some (.ns,h)
  | _=>none
 | .fl x off=>asAgg (x.val t) fun l=>ob l[off]? fun v=>some (v,h)
 | .fls x off n=>asAgg (x.val t) fun l=>some (.agg ((l.drop off).take n),h)
 | .cv k x=>asI (x.val t) fun _ n=>some (.i k (k.wrap n),h)
 | .mf f a b=>some (.fn f (vals t a) (vals t b),h)
 | .mm=>newO h (.map [] 0) fun b h=>some (.m b,h)
 | .mu m k v=>updK h (m.val t) (k.val t) (v.val t) fun h=>some (.u,h)
 | .lk m k z ok=>lookK h (m.val t) (k.val t) z ok fun v=>some (v,h)
 | .len x=>match x.val t with
  | .sl _ _ n _ _ _=>some (.i .i64 (.ofNat n),h)
  | .ns=>some (.i .i64 (.ofNat 0),h)
  | .se=>some (.i .i64 (.ofNat 0),h)
  | _=>none
 | .slen x=>match x.val t with
  | .s x=>some (.i .i64 x.size,h)
  | _=>none
 | .mn x l=>asI (x.val t) fun k a=>ob (foldI (fun a c=>if c<a then c else a) k a (vals t l)) fun a=>some (.i k a,h)
 | .mx x l=>asI (x.val t) fun k a=>ob (foldI (fun a c=>if c > a then c else a) k a (vals t l)) fun a=>some (.i k a,h)
 | .ap e sz by_ x y=>appendK sz by_ e h (x.val t) (y.val t) pr
 | .cap x=>match x.val t with
  | .sl _ _ _ n true _=>some (.i .i64 (.ofNat n),h)
  | .ns=>some (.i .i64 (.ofNat 0),h)
  | _=>none
 | .apz e sz by_ z x y=>asN (y.val t) fun n=>match x.val t with
  | .ns=>match n with
   | 0=>some (.ns,h)
   | n+1=>bb (Nat.ble (Nat.mul (n+1) by_) 4294967296) (growK sz e h (n+1) (rep z (n+1)) pr)
  | _=>none
 | .call f args=>C (.f f) (vals t args) h
 | .callv g args=>match g.val t with
  | .fn (.func f) first cap=>C (.f f) (first++(vals t args++cap)) h
  | .y b=>C (.y b) (vals t args) h
  | _=>none
 | .nx _=>none
 | .rg x=>match x.val t with
  | .m r=>mapK h r fun _ c=>newO h (.iter r c [] c) fun b h=>some (.p b 0,h)
  | _=>none
 | .en x=>asP (x.val t) fun pt o=>bb (Nat.beq o 0) (entryK h pt fun v=>some (v,h))
/-! ### Parametric -/
theorem orr_n {α β:Type} (n:β) (f:α→β):orr none n f=n:=rfl
theorem orr_s {α β:Type} (x:α) (n:β) (f:α→β):orr (some x) n f=f x:=rfl
section
variable {β γ:Type} (k:β→Option γ)
theorem ob_ob {α:Type} (x:Option α) (f:α→Option β):ob (ob x f) k=ob x fun a=>ob (f a) k:=by cases x <;> rfl
theorem ob_bb (c:Bool) (x:Option β):ob (bb c x) k=bb c (ob x k):=by cases c <;> rfl
theorem ob_br (c:Bool) (x y:Option β):ob (br c x y) k=br c (ob x k) (ob y k):=by cases c <;> rfl
theorem ob_some_ (x:β):ob (some x) k=k x:=rfl
theorem ob_asP (v:V) (K:Nat→Nat→Option β):ob (asP v K) k=asP v fun b o=>ob (K b o) k:=by cases v <;> rfl
theorem ob_asB (v:V) (K:Bool→Option β):ob (asB v K) k=asB v fun b=>ob (K b) k:=by cases v <;> rfl
theorem ob_asI (v:V) (K:IntKind→Int→Option β):ob (asI v K) k=asI v fun b o=>ob (K b o) k:=by cases v <;> rfl
theorem ob_asN (v:V) (K:Nat→Option β):ob (asN v K) k=asN v fun b=>ob (K b) k:=by
 cases v with
 | i _ n=>cases n <;> rfl
 | _=>rfl
theorem ob_asAgg (v:V) (K:List V→Option β):ob (asAgg v K) k=asAgg v fun b=>ob (K b) k:=by cases v <;> rfl
theorem ob_asTup (v:V) (K:List V→Option β):ob (asTup v K) k=asTup v fun b=>ob (K b) k:=by cases v <;> rfl
theorem ob_rowR (h:H) (b:Nat) (K:TypeId→Nat→Tr V→Option β):ob (rowR h b K) k=rowR h b fun e hi c=>ob (K e hi c) k:=by
 unfold rowR
 rw[ob_ob]
 congr 1
 funext x
 cases x <;> rfl
theorem ob_rowK (h:H) (b:Nat) (K:TypeId→Nat→Bool→Tr V→Option β):ob (rowK h b K) k=rowK h b fun e hi p c=>ob (K e hi p c) k:=by
 unfold rowK
 rw[ob_ob]
 congr 1
 funext x
 cases x <;> rfl
theorem ob_mapK (h:H) (b:Nat) (K:List En→Nat→Option β):ob (mapK h b K) k=mapK h b fun e c=>ob (K e c) k:=by
 unfold mapK
 rw[ob_ob]
 congr 1
 funext x
 cases x <;> rfl
theorem ob_loadRow (h:H) (b o n:Nat) (K:List V→Option β):ob (loadRow h b o n K) k=loadRow h b o n fun l=>ob (K l) k:=by
 unfold loadRow
 simp only[ob_rowR,ob_bb,ob_ob]
theorem ob_storeL (h:H) (b o:Nat) (l:List V) (K:H→Option β):ob (storeL h b o l K) k=storeL h b o l fun h=>ob (K h) k:=by
 unfold storeL
 simp only[ob_rowK,ob_bb,Tr.putL_eq,Tr.put_set]
theorem ob_newO (h:H) (x:O) (K:Nat→H→Option β):ob (newO h x K) k=newO h x fun b h=>ob (K b h) k:=by
 unfold newO
 simp only[Tr.put_set,fN_eq]
theorem ob_newRow (h:H) (e:TypeId) (l:List V) (p:Bool) (K:Nat→H→Option β):ob (newRow h e l p K) k=newRow h e l p fun b h=>ob (K b h) k:=by
 unfold newRow
 simp only[ob_bb,Tr.putL_eq,fN_eq,ob_newO]
theorem ob_mkI (kk:IntKind) (n:Int) (K:V→Option β):ob (mkI kk n K) k=mkI kk n fun v=>ob (K v) k:=by simp only[mkI_eq]
theorem ob_mkB (b:Bool) (K:V→Option β):ob (mkB b K) k=mkB b fun v=>ob (K v) k:=by simp only[mkB_eq]
theorem ob_arith (op:BinOp) (kk:IntKind) (a c:Int) (K:V→Option β):ob (arith op kk a c K) k=arith op kk a c fun v=>ob (K v) k:=by
 cases op <;> simp only[arith,ob_mkI,ob_mkB,ob_bb] <;> rfl
theorem ob_shiftK (op:BinOp) (kk:IntKind) (a c:Int) (K:V→Option β):ob (shiftK op kk a c K) k=shiftK op kk a c fun v=>ob (K v) k:=by
 unfold shiftK
 rw[ob_bb]
 cases op <;> simp only[ob_mkI] <;> rfl
theorem ob_boundK (t:Tr V) (x:Option Rd) (d top:Nat) (K:Nat→Option β):ob (boundK t x d top K) k=boundK t x d top fun n=>ob (K n) k:=by
 unfold boundK
 cases x with
 | none=>rfl
 | some x =>
  simp only[orr_s,rdK_eq,ob_asN,ob_bb]
theorem ob_updK (h:H) (m x v:V) (K:H→Option β):ob (updK h m x v K) k=updK h m x v fun h=>ob (K h) k:=by
 unfold updK
 cases m with
 | m b =>
  simp only[ob_asI,ob_mapK,ob_ob]
  congr 1
  funext kk n
  congr 1
  funext es c
  congr 1
  funext q
  cases q with
  | none =>
   simp only[orr_n,fN_eq,Tr.put_set]
  | some v' =>
   simp only[orr_s,Tr.put_set]
 | _=>rfl
theorem ob_lookK (h:H) (m x z:V) (ok:Bool) (K:V→Option β):ob (lookK h m x z ok K) k=lookK h m x z ok fun v=>ob (K v) k:=by
 unfold lookK
 simp only[ob_asI,ob_ob]
 congr 1
 funext kk n
 congr 1
 funext q
 cases q with
 | none =>
  simp only[orr_n,ob_br]
 | some v' =>
  simp only[orr_s,ob_br]
theorem ob_entryK (h:H) (b:Nat) (K:V→Option β):ob (entryK h b K) k=entryK h b fun v=>ob (K v) k:=by
 unfold entryK
 rw[ob_ob]
 congr 1
 funext x
 cases x <;> first | rfl |(simp only[ob_mapK,ob_bb,ob_ob])
theorem ob_newsK (sz:Nat) (h:H) (y:V) (K:Nat→List V→Option β):ob (newsK sz h y K) k=newsK sz h y fun n l=>ob (K n l) k:=by
 unfold newsK
 cases y with
 | sl pt o n c kn z=>simp only[ob_bb,ob_loadRow]
 | _=>rfl
theorem ob_growK (sz:Nat) (e:TypeId) (h:H) (m:Nat) (l:List V) (K:V→H→Option β):ob (growK sz e h m l K) k=growK sz e h m l fun v h=>ob (K v h) k:=by
 unfold growK
 rw[ob_newRow]
theorem ob_appendK (sz by_:Nat) (e:TypeId) (h:H) (x y:V) (K:V→H→Option β):ob (appendK sz by_ e h x y K) k=appendK sz by_ e h x y fun v h=>ob (K v h) k:=by
 unfold appendK
 rw[ob_newsK]
 congr 1
 funext n news
 cases x with
 | ns =>
  cases n with
  | zero=>rfl
  | succ n =>
   show ob (bb _ (growK _ _ _ _ _ _)) k=bb _ (growK _ _ _ _ _ _)
   rw[ob_bb,ob_growK]
 | sl pt o len cap kn z=>simp only[ob_bb,fN_eq,ob_br,ob_storeL,ob_loadRow,ob_growK,ob_rowK,Tr.putL_eq,Tr.put_set,ob_newO]
 | _=>rfl
end
end
end Go.Proofs.YtkcdehffcddciaaGreatDoor.Vm
namespace Go.Proofs.YtkcdehffcddciaaGreatDoor.Vm
open Go Go.RowKit
theorem rdL_vals (t:Tr V):∀l:List Rd,rdL t l=some (vals t l)
 | []=>rfl
 | r :: l=>by rw[rdL_c,rdK_eq,rdL_vals t l];rfl
theorem rdP_vals (t:Tr V):∀l:List (Nat × Nat × Rd),rdP t l=some (partsV t l)
 | []=>rfl
 | x :: l=>by
  have:=rdP_vals t l
  unfold rdP at this ⊢
  rw[mapO_c,rdK_eq,this]
  rfl
def Same2 (P:Program) (op:Op) (top:Top):Prop:=∃f,opB P op=some f∧∀C t h,f.f C t h tell=ob (tdo C top t h) fun p=>tell p.1 p.2
section
variable {P:Program}
theorem ob_s {α β:Type} (x:α) (f:α→Option β):ob (some x) f=f x:=rfl
theorem bb_t {β:Type} (x:Option β):bb true x=x:=rfl
theorem T_binOp {op : BinOp} {ty u9 : TypeId} {x y : Operand} {top : Top} (h : opT P (.binOp op ty x y u9) = some top) : Same2 P (.binOp op ty x y u9) top := by
  obtain ⟨rx, hx, h⟩ := ob_some h
  obtain ⟨ry, hy, h⟩ := ob_some h
  unfold Same2
  simp only [opB, hx, hy, ob_s]
  cases op <;> first
    | (injection h with h; subst h; refine ⟨_, rfl, fun C t h => ?_⟩; simp only [tdo, rdK_eq, ob_asI, ob_bb, ob_arith, ob_some_]; done)
    | (injection h with h; subst h; refine ⟨_, rfl, fun C t h => ?_⟩; simp only [tdo, rdK_eq, ob_asI, ob_shiftK, ob_some_]; done)
    | (obtain ⟨e, he, h⟩ := ob_some h
       injection h with h
       subst h
       simp only [binB, he, ob_s]
       refine ⟨_, rfl, fun C t h => ?_⟩
       simp only [tdo, rdK_eq, ob_ob, ob_mkB, ob_some_]
       congr 1
       funext r
       cases r <;> rfl)
theorem T_call {c:Call} {top:Top} (h:opT P (.call c)=some top):Same2 P (.call c) top:=by
 obtain⟨args,ha,h⟩:=ob_some h
 unfold Same2
 simp only[opB,callB,ha,ob_s]
 obtain⟨callee,as,ats⟩:=c
 simp only at h ⊢
 cases callee with
 | value g =>
  cases g with
  | func f =>
   injection h with h
   subst h
   simp only[rdB,ob_s]
   refine⟨_,rfl,fun C t h=>?_⟩
   simp only[tdo,rdL_vals,ob_s,rdK_eq,Rd.val,List.nil_append,List.append_nil]
  | _ =>
   obtain⟨rg,hg,h⟩:=ob_some h
   injection h with h
   subst h
   simp only[hg,ob_s]
   refine⟨_,rfl,fun C t h=>?_⟩
   simp only[rdL_vals,ob_s,rdK_eq,tdo]
   cases rg.val t with
   | fn f a b=>cases f <;> rfl
   | _=>rfl
 | invoke r n=>cases h
 | builtin b =>
  cases b <;> first |(cases h;done) | skip
  case append =>
   match args,h with
   | [rx,ry],h =>
    simp only at h ⊢
    split at h
    ·rename_i ty xt hty
     obtain⟨e,he,h⟩:=ob_some h
     cases he':elemB P xt with
     | none =>
      rw[he']at h
      have h:zerosT P xt e rx ry=some top:=h
      unfold zerosT at h
      split at h
      ·rename_i ki hu
       obtain⟨sz,hsz,h⟩:=ob_some h
       obtain⟨by_,hby,h⟩:=ob_some h
       obtain⟨z,hz,h⟩:=ob_some h
       obtain⟨h0,h⟩:=bb_some h
       obtain⟨h1,h⟩:=bb_some h
       obtain⟨h2,h⟩:=bb_some h
       injection h with h
       subst h
       simp only[hty,he,he',zerosB,hu,hsz,hby,hz,h0,h1,h2,ob_s,bb_t,orr_n]
       refine⟨_,rfl,fun C t h=>?_⟩
       simp only[tdo,rdK_eq,ob_asN]
       congr 1
       funext n
       cases rx.val t with
       | ns =>
        cases n with
        | zero=>rfl
        | succ n =>
         simp only[ob_bb,ob_growK]
         rfl
       | _=>rfl
      ·cases h
     | some e' =>
      rw[he']at h
      simp only[orr_s]at h
      obtain⟨sz,hsz,h⟩:=ob_some h
      obtain⟨by_,hby,h⟩:=ob_some h
      obtain⟨z,hz,h⟩:=ob_some h
      obtain⟨h0,h⟩:=bb_some h
      obtain⟨h1,h⟩:=bb_some h
      obtain⟨h2,h⟩:=bb_some h
      injection h with h
      subst h
      simp only[hty,he,he',hsz,hby,hz,h0,h1,h2,ob_s,bb_t,orr_s]
      refine⟨_,rfl,fun C t h=>?_⟩
      simp only[tdo,rdK_eq,ob_appendK]
      rfl
    ·cases h
  case len =>
   match args,h with
   | [rx],h =>
    simp only at h ⊢
    split at h
    ·rename_i ty hty
     simp only[hty]
     split at h
     ·rename_i e hu
      injection h with h
      subst h
      simp only[hu]
      refine⟨_,rfl,fun C t h=>?_⟩
      simp only[tdo,rdK_eq]
      cases rx.val t <;> rfl
     ·rename_i hu
      injection h with h
      subst h
      simp only[hu]
      refine⟨_,rfl,fun C t h=>?_⟩
      simp only[tdo,rdK_eq]
      cases rx.val t <;> first | rfl |(simp only[mkI_eq];rfl)
     ·cases h
    ·cases h
  case cap =>
   match args,h with
   | [rx],h =>
    simp only at h ⊢
    split at h
    ·rename_i ty hty
     simp only[hty]
     split at h
     ·rename_i e hu
      injection h with h
      subst h
      simp only[hu]
      refine⟨_,rfl,fun C t h=>?_⟩
      simp only[tdo,rdK_eq]
      cases rx.val t with
      | sl b o n c kn z=>cases kn <;> rfl
      | _=>rfl
     ·cases h
    ·cases h
  case min =>
   match args,h with
   | rx :: l,h =>
    injection h with h
    subst h
    refine⟨_,rfl,fun C t h=>?_⟩
    simp only[tdo,rdK_eq,rdL_vals,ob_asI,ob_ob,ob_s]
  case max =>
   match args,h with
   | rx :: l,h =>
    injection h with h
    subst h
    refine⟨_,rfl,fun C t h=>?_⟩
    simp only[tdo,rdK_eq,rdL_vals,ob_asI,ob_ob,ob_s]
theorem T_ia {ty:TypeId} {x i:Operand} {top:Top} (hg:∀g,x≠.global g) (h:(ob (rdB x) fun x=>ob (rdB i) fun i=>match P.underlying ty with
  | some (.slice e)=>ob (sizeB P e) fun sz=>some (.ia x i sz)
  | some (.array len e)=>ob (sizeB P e) fun sz=>some (.iaa x i len sz)
  | _=>none)=some top):Same2 P (.indexAddr ty x i) top:=by
 obtain⟨rx,hx,h⟩:=ob_some h
 obtain⟨ri,hi,h⟩:=ob_some h
 have hop:opB P (.indexAddr ty x i)=indexAddrB P ty rx ri:=by
  cases x with
  | global g=>exact absurd rfl (hg g)
  | _=>simp only[opB,hx,hi,ob_s]
 unfold Same2
 rw[hop]
 unfold indexAddrB
 split at h
 ·rename_i e hu
  obtain⟨sz,hsz,h⟩:=ob_some h
  injection h with h
  subst h
  simp only[hu,hsz,ob_s]
  refine⟨_,rfl,fun C t h=>?_⟩
  simp only[tdo,rdK_eq,ob_asN]
  congr 1
  funext n
  cases rx.val t <;> first | rfl |(simp only[ob_bb,fN_eq,ob_some_];rfl)
 ·rename_i len e hu
  obtain⟨sz,hsz,h⟩:=ob_some h
  injection h with h
  subst h
  simp only[hu,hsz,ob_s]
  refine⟨_,rfl,fun C t h=>?_⟩
  simp only[tdo,rdK_eq,ob_asN,ob_asP,ob_bb,fN_eq,ob_some_]
  rfl
 ·cases h
theorem T_tb {ty:TypeId} {g:Nat} {i:Operand} {top:Top} (h:opT P (.indexAddr ty (.global g) i)=some top):Same2 P (.indexAddr ty (.global g) i) top:=by
 simp only[opT]at h
 obtain⟨ri,hi,h⟩:=ob_some h
 unfold Same2
 simp only[opB,hi,ob_s]
 unfold tabB
 split at h
 ·rename_i len e hu
  obtain⟨sz,hsz,h⟩:=ob_some h
  injection h with h
  subst h
  simp only[hu,hsz,ob_s]
  refine⟨_,rfl,fun C t h=>?_⟩
  simp only[tdo,rdK_eq,ob_asN,ob_ob]
  congr 1
  funext n
  congr 1
  funext o
  cases o with
  | ro g' _ _ _ =>
   cases g' with
   | none=>rfl
   | some g'=>simp only[ob_bb,fN_eq,ob_some_];rfl
  | _=>rfl
 ·cases h
theorem opT_same {op:Op} {top:Top} (h:opT P op=some top):Same2 P op top:=by
 cases op <;> first |(cases h;done) | exact T_binOp h | exact T_call h | skip
 case move x =>
  obtain⟨rx,hx,h⟩:=ob_some h
  injection h with h
  subst h
  exact⟨_,by show ob (rdB x) _=_;rw[hx];rfl,fun C t h=>by simp only[tdo,rdK_eq,ob_some_]⟩
 case assign x =>
  obtain⟨rx,hx,h⟩:=ob_some h
  injection h with h
  subst h
  exact⟨_,by show ob (rdB x) _=_;rw[hx];rfl,fun C t h=>by simp only[tdo,rdK_eq,ob_some_]⟩
 case pick c x y =>
  obtain⟨rc,hc,h⟩:=ob_some h
  obtain⟨rx,hx,h⟩:=ob_some h
  obtain⟨ry,hy,h⟩:=ob_some h
  injection h with h
  subst h
  exact⟨_,by show ob (rdB c) _=_;rw[hc];show ob (rdB x) _=_;rw[hx];show ob (rdB y) _=_;rw[hy];rfl,fun C t h=>by simp only[tdo,rdK_eq,ob_asB,ob_br,ob_some_]⟩
 case alloc e =>
  obtain⟨z,hz,h⟩:=ob_some h
  injection h with h
  subst h
  exact⟨_,by show ob (zeroB P e) _=_;rw[hz];rfl,fun C t h=>by simp only[tdo,ob_newRow,ob_some_]⟩
 case box e x =>
  obtain⟨rx,hx,h⟩:=ob_some h
  injection h with h
  subst h
  exact⟨_,by show ob (rdB x) _=_;rw[hx];rfl,fun C t h=>by simp only[tdo,rdK_eq,ob_newRow,ob_some_]⟩
 case build ty ps =>
  obtain⟨z,hz,h⟩:=ob_some h
  unfold Same2
  simp only[opB,hz,ob_s]
  split at h
  ·rename_i fs hu
   obtain⟨pl,hpl,h⟩:=ob_some h
   obtain⟨qs,hqs,h⟩:=ob_some h
   injection h with h
   subst h
   simp only[hu,hpl,hqs,ob_s]
   exact⟨_,rfl,fun C t h=>by simp only[tdo,rdP_vals,ob_ob,ob_s]⟩
  ·rename_i n e hu
   obtain⟨sz,hsz,h⟩:=ob_some h
   obtain⟨qs,hqs,h⟩:=ob_some h
   injection h with h
   subst h
   simp only[hu,hsz,hqs,ob_s]
   exact⟨_,rfl,fun C t h=>by simp only[tdo,rdP_vals,ob_ob,ob_s]⟩
  ·cases h
 case buildSlice ty len ps =>
  obtain⟨e,he,h⟩:=ob_some h
  obtain⟨sz,hsz,h⟩:=ob_some h
  obtain⟨z,hz,h⟩:=ob_some h
  obtain⟨h0,h⟩:=bb_some h
  obtain⟨h1,h⟩:=bb_some h
  obtain⟨h2,h⟩:=bb_some h
  obtain⟨qs,hqs,h⟩:=ob_some h
  injection h with h
  subst h
  unfold Same2
  simp only[opB,he,hsz,hz,h0,h1,h2,hqs,ob_s,bb_t]
  exact⟨_,rfl,fun C t h=>by simp only[tdo,rdP_vals,ob_ob,ob_newRow,ob_s]⟩
 case makeSlice ty l c =>
  obtain⟨rl,hl,h⟩:=ob_some h
  obtain⟨rc,hc,h⟩:=ob_some h
  obtain⟨e,he,h⟩:=ob_some h
  obtain⟨sz,hsz,h⟩:=ob_some h
  obtain⟨z,hz,h⟩:=ob_some h
  obtain⟨by_,hby,h⟩:=ob_some h
  obtain⟨h0,h⟩:=bb_some h
  obtain⟨h1,h⟩:=bb_some h
  injection h with h
  subst h
  unfold Same2
  simp only[opB,hl,hc,he,hsz,hz,hby,h0,h1,ob_s,bb_t]
  exact⟨_,rfl,fun C t h=>by simp only[tdo,rdK_eq,ob_asN,ob_bb,ob_newRow,ob_s]⟩
 case load ty a =>
  obtain⟨ra,ha,h⟩:=ob_some h
  obtain⟨g,hg,h⟩:=ob_some h
  unfold Same2
  show ∃f,ob (rdB a) (fun a=>loadB P ty a)=some f∧_
  rw[ha]
  show ∃f,loadB P ty ra=some f∧_
  unfold loadB
  rw[hg]
  cases g with
  | true =>
   obtain⟨n,hn,h⟩:=ob_some h
   injection h with h
   subst h
   exact⟨_,by show ob (sizeB P ty) _=_;rw[hn];rfl,fun C t h=>by simp only[tdo,rdK_eq,ob_asP,ob_loadRow,ob_some_]⟩
  | false =>
   injection h with h
   subst h
   exact⟨_,rfl,fun C t h=>by simp only[tdo,rdK_eq,ob_asP,ob_rowR,ob_bb,ob_ob,ob_some_]⟩
 case store ty a x =>
  obtain⟨ra,ha,h⟩:=ob_some h
  obtain⟨rx,hx,h⟩:=ob_some h
  obtain⟨n,hn,h⟩:=ob_some h
  injection h with h
  subst h
  exact⟨_,by show ob (rdB a) _=_;rw[ha];show ob (rdB x) _=_;rw[hx];show ob (sizeB P ty) _=_;rw[hn];rfl,fun C t h=>by simp only[tdo,rdK_eq,ob_asP,ob_bb,ob_storeL,ob_some_]⟩
 case range ty x =>
  obtain⟨rx,hx,h⟩:=ob_some h
  obtain⟨e,he,h⟩:=ob_some h
  injection h with h
  subst h
  refine⟨_,by show ob (rdB x) _=_;rw[hx];show ob (keyInt P ty) _=_;rw[he];rfl,fun C t h=>?_⟩
  simp only[tdo,rdK_eq]
  cases rx.val t <;> first | rfl |(simp only[ob_mapK,ob_newO,ob_some_])
 case entry x =>
  obtain⟨rx,hx,h⟩:=ob_some h
  injection h with h
  subst h
  exact⟨_,by show ob (rdB x) _=_;rw[hx];rfl,fun C t h=>by simp only[tdo,rdK_eq,ob_asP,ob_bb,ob_entryK,ob_some_]⟩
 case insert ty m k v =>
  obtain⟨rm,hm,h⟩:=ob_some h
  obtain⟨rk,hk,h⟩:=ob_some h
  obtain⟨rv,hv,h⟩:=ob_some h
  obtain⟨e,he,h⟩:=ob_some h
  injection h with h
  subst h
  exact⟨_,by show ob (rdB m) _=_;rw[hm];show ob (rdB k) _=_;rw[hk];show ob (rdB v) _=_;rw[hv];show ob (keyInt P ty) _=_;rw[he];rfl,fun C t h=>by simp only[tdo,rdK_eq,ob_updK,ob_some_]⟩
 case mapUpdate ty m k v =>
  obtain⟨rm,hm,h⟩:=ob_some h
  obtain⟨rk,hk,h⟩:=ob_some h
  obtain⟨rv,hv,h⟩:=ob_some h
  obtain⟨e,he,h⟩:=ob_some h
  injection h with h
  subst h
  exact⟨_,by show ob (rdB m) _=_;rw[hm];show ob (rdB k) _=_;rw[hk];show ob (rdB v) _=_;rw[hv];show ob (keyInt P ty) _=_;rw[he];rfl,fun C t h=>by simp only[tdo,rdK_eq,ob_updK,ob_some_]⟩
 case lookup ty m k ok =>
  obtain⟨rm,hm,h⟩:=ob_some h
  obtain⟨rk,hk,h⟩:=ob_some h
  obtain⟨e,he,h⟩:=ob_some h
  obtain⟨z,hz,h⟩:=ob_some h
  injection h with h
  subst h
  exact⟨_,by show ob (rdB m) _=_;rw[hm];show ob (rdB k) _=_;rw[hk];show ob (keyInt P ty) _=_;rw[he];show ob (zeroB P e) _=_;rw[hz];rfl,fun C t h=>by simp only[tdo,rdK_eq,ob_lookK,ob_some_]⟩
 case nilCheck x =>
  obtain⟨rx,hx,h⟩:=ob_some h
  injection h with h
  subst h
  refine⟨_,by show ob (rdB x) _=_;rw[hx];rfl,fun C t h=>?_⟩
  simp only[tdo,rdK_eq]
  cases rx.val t with
  | fn f a b=>cases f <;> rfl
  | _=>rfl
 case unOp op ty x =>
  obtain⟨rx,hx,h⟩:=ob_some h
  unfold Same2
  show ∃f,ob (rdB x) _=some f∧_
  rw[hx]
  cases op <;> first |(cases h;done) |(injection h with h;subst h)
  ·exact⟨_,rfl,fun C t h=>by simp only[tdo,rdK_eq,ob_asI,ob_arith,ob_some_]⟩
  ·exact⟨_,rfl,fun C t h=>by simp only[tdo,rdK_eq,ob_asB,mkB_eq,ob_some_]⟩
 case convert s d x =>
  obtain⟨rx,hx,h⟩:=ob_some h
  unfold Same2
  simp only[opB,hx,ob_s]
  split at h
  ·rename_i k' k h1 h2
   injection h with h
   subst h
   simp only[h1,h2]
   exact⟨_,rfl,fun C t h=>by simp only[tdo,rdK_eq,ob_asI,mkI_eq,ob_s]⟩
  ·cases h
 case makeFunc f a b =>
  obtain⟨ra,ha,h⟩:=ob_some h
  obtain⟨rb,hb,h⟩:=ob_some h
  injection h with h
  subst h
  exact⟨_,by show ob (mapO rdB a.toList) _=_;rw[ha];show ob (mapO rdB b.toList) _=_;rw[hb];rfl,fun C t h=>by simp only[tdo,rdL_vals];rfl⟩
 case makeMap ty r =>
  cases r with
  | none =>
   injection h with h
   subst h
   exact⟨_,rfl,fun C t h=>by simp only[tdo,ob_newO,ob_some_]⟩
  | some _=>cases h
 case slice ty x lo hi mx =>
  cases mx with
  | none =>
   obtain⟨rx,hx,h⟩:=ob_some h
   obtain⟨rlo,hlo,h⟩:=ob_some h
   obtain⟨rhi,hhi,h⟩:=ob_some h
   obtain⟨e,he,h⟩:=ob_some h
   obtain⟨sz,hsz,h⟩:=ob_some h
   injection h with h
   subst h
   refine⟨_,by show ob (rdB x) _=_;rw[hx];show ob (optB lo) _=_;rw[hlo];show ob (optB hi) _=_;rw[hhi];show slice2B P ty rx rlo rhi=_;unfold slice2B;rw[he];show ob (sizeB P e) _=_;rw[hsz];rfl,fun C t h=>?_⟩
   simp only[tdo,rdK_eq]
   cases rx.val t with
   | sl pt o len cap k z=>simp only[ob_bb,ob_boundK,fN_eq,ob_br,ob_some_];rfl
   | ns=>simp only[ob_boundK,ob_some_]
   | _=>rfl
  | some _=>cases h
 case fieldAddr s x f =>
  obtain⟨rx,hx,h⟩:=ob_some h
  obtain⟨p,hp,h⟩:=ob_some h
  obtain⟨n,hn,h⟩:=ob_some h
  obtain⟨h0,h⟩:=bb_some h
  injection h with h
  subst h
  exact⟨_,by show ob (rdB x) _=_;rw[hx];show ob (fieldB P s f) _=_;rw[hp];show ob (sizeB P p.2) _=_;rw[hn];show bb _ _=_;rw[h0];rfl,fun C t h=>by simp only[tdo,rdK_eq,ob_asP,fN_eq,ob_some_];rfl⟩
 case field s x f =>
  obtain⟨rx,hx,h⟩:=ob_some h
  obtain⟨p,hp,h⟩:=ob_some h
  obtain⟨g,hg,h⟩:=ob_some h
  unfold Same2
  show ∃f',ob (rdB x) _=some f'∧_
  rw[hx]
  show ∃f',ob (fieldB P s f) _=some f'∧_
  rw[hp]
  show ∃f',ob (partB P p.2 p.1) _=some f'∧_
  unfold partB
  rw[hg]
  cases g with
  | true =>
   obtain⟨n,hn,h⟩:=ob_some h
   injection h with h
   subst h
   refine⟨_,by show ob (ob (sizeB P p.2) _) _=_;rw[hn];rfl,fun C t h=>?_⟩
   simp only[tdo,rdK_eq,ob_asAgg,ob_some_]
  | false =>
   injection h with h
   subst h
   refine⟨_,rfl,fun C t h=>?_⟩
   simp only[tdo,rdK_eq,ob_asAgg,ob_ob,ob_some_]
 case indexAddr ty x i =>
  cases x with
  | global g=>exact T_tb h
  | _=>exact T_ia (fun g e=>by cases e) h
 case extract x i =>
  obtain⟨rx,hx,h⟩:=ob_some h
  injection h with h
  subst h
  exact⟨_,by show ob (rdB x) _=_;rw[hx];rfl,fun C t h=>by simp only[tdo,rdK_eq,ob_asTup,ob_ob,ob_some_]⟩
def OTo (P:Program) (op:Op) (t:Tr V) (h:H) (v:V) (h':H):Prop:=(∀c,op≠.defer c)∧∀(o:Oper),o.op=op→∀(A:Sub) (w:World) (N:Nat) (a:Act),Mt A h w→TRel A h.next N t a.tmps→Does P o a w (Post A h w v h')
theorem tdo_to {C:CallF} (hC:CallOk P C) {op:Op} {top:Top} (ht:opT P op=some top) {t:Tr V} {h h':H} {v:V} (hd:tdo C top t h=some (v,h')):OTo P op t h v h':=by
 obtain⟨f,hf,hs⟩:=opT_same ht
 refine⟨opB_defer hf,fun o ho A w N a hm htr=>?_⟩
 have hs:=hs C t h
 rw[hd]at hs
 obtain⟨v2,h2,h3,h4⟩:=opB_ok hC hf o ho A h w N t a tell _ hm htr hs
 obtain⟨rfl,rfl⟩:=tell_inj (show tell v2 h2=some [⟨.normal,.n .e (some v) .e,h'⟩]from h3)
 exact h4
end
end Go.Proofs.YtkcdehffcddciaaGreatDoor.Vm
