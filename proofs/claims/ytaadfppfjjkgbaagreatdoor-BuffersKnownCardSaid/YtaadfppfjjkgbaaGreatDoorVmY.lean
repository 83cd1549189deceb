/- PLAIN: facts of calls: of a call whose arguments and memory look like a pattern, what it leaves. -/
import Derived.Test.YtaadfppfjjkgbaaGreatDoorVmB
namespace Go.Proofs.YtaadfppfjjkgbaaGreatDoor.Vm
open Go
noncomputable section

/-- A block of a pattern. -/
inductive PO where
  | cells (elem : TypeId) (opn : Bool) (l : List V)
  | ro (pin : Option Nat) (elem : TypeId) (l : List V)
  | map (es : List En) (clock : Nat)
def PO.toO : PO → O
  | .cells e p l => .cells e l.length p (Tr.putsL l .e 0)
  | .ro pin e l => .ro pin e l.length (Tr.putsL l .e 0)
  | .map es c => .map es c
/-- A fact: blocks ahead (those below r are packages' variables: they stand for themselves), arguments; what is told, blocks behind. -/
structure Fact where
  f : FuncId
  r : Nat
  args : List V
  pre : List (Option PO)
  v : V
  post : List (Option PO)
/-- A memory of such blocks, numbered from n on. -/
def trOf : List (Option PO) → Nat → Tr O
  | [], _ => .e
  | none :: l, n => trOf l (n + 1)
  | some x :: l, n => (trOf l (n + 1)).set n (some x.toO)
def hOf (l : List (Option PO)) : H := ⟨l.length, trOf l 0⟩
/-! ### Looking for the blocks (what it finds is checked) -/
def mB (ρ : List Nat) (b b' : Nat) : List Nat := br (Nat.blt b ρ.length) ρ (br (Nat.beq b ρ.length) (ρ ++ [b']) ρ)
mutual
def mV (ρ : List Nat) : V → V → List Nat
  | .p b _, .p b' _ => mB ρ b b'
  | .sl b _ _ _ _ _, .sl b' _ _ _ _ _ => mB ρ b b'
  | .m b, .m b' => mB ρ b b'
  | .fn _ l r, .fn _ l' r' => mVL (mVL ρ l l') r r'
  | .iface _ v, .iface _ v' => mV ρ v v'
  | .agg l, .agg l' => mVL ρ l l'
  | .tup l, .tup l' => mVL ρ l l'
  | _, _ => ρ
def mVL (ρ : List Nat) : List V → List V → List Nat
  | v :: l, v' :: l' => mVL (mV ρ v v') l l'
  | _, _ => ρ
end
def mC (ρ : List Nat) (c : Tr V) : List V → Nat → List Nat
  | [], _ => ρ
  | v :: l, o => match c.get o with
    | some v' => mC (mV ρ v v') c l (Nat.succ o)
    | none => ρ
def mE (ρ : List Nat) : List En → List En → List Nat
  | e :: l, e' :: l' => mE (mV ρ e.v e'.v) l l'
  | _, _ => ρ
def mO (ρ : List Nat) (p : PO) (o : O) : List Nat := match p, o with
  | .cells _ _ l, .cells _ _ _ c => mC ρ c l 0
  | .ro _ _ l, .ro _ _ _ c => mC ρ c l 0
  | .map es _, .map es' _ => mE ρ es es'
  | _, _ => ρ
def forceL {β : Type} (l : List Nat) : (List Nat → Option β) → Option β := List.rec (motive := fun _ => (List Nat → Option β) → Option β) (fun K => K []) (fun b _ ih K => fN b fun b => ih fun l => K (b :: l)) l
def mH {β : Type} (h : Tr O) : List (Option PO) → Nat → List Nat → (List Nat → Option β) → Option β
  | [], _, ρ, K => K ρ
  | none :: l, j, ρ, K => fN (Nat.succ j) fun j => mH h l j ρ K
  | some p :: l, j, ρ, K => ob ρ[j]? fun b => ob (h.get b) fun o => forceL (mO ρ p o) fun ρ => fN (Nat.succ j) fun j => mH h l j ρ K
/-! ### Checking -/
def eB (ρ : List Nat) (b b' : Nat) : Bool := match ρ[b]? with
  | some c => Nat.beq c b'
  | none => false
mutual
def eV (ρ : List Nat) : V → V → Bool
  | .u, .u => true
  | .b x, .b y => x == y
  | .i k n, .i j m => decide (k = j) && n == m
  | .s x, .s y => x == y
  | .p b o, .p b' o' => eB ρ b b' && Nat.beq o o'
  | .np, .np => true
  | .sl b o l c k z, .sl b' o' l' c' k' z' => eB ρ b b' && Nat.beq o o' && Nat.beq l l' && Nat.beq c c' && k == k' && Nat.beq z z'
  | .ns, .ns => true
  | .m b, .m b' => eB ρ b b'
  | .nm, .nm => true
  | .fn f l r, .fn g l' r' => decide (f = g) && eVL ρ l l' && eVL ρ r r'
  | .nf, .nf => true
  | .iface t v, .iface t' v' => Nat.beq t t' && eV ρ v v'
  | .ni, .ni => true
  | .agg l, .agg l' => eVL ρ l l'
  | .tup l, .tup l' => eVL ρ l l'
  | .se, .se => true
  | _, _ => false
def eVL (ρ : List Nat) : List V → List V → Bool
  | [], [] => true
  | v :: l, v' :: l' => eV ρ v v' && eVL ρ l l'
  | _, _ => false
end
def eC (ρ : List Nat) (c : Tr V) : List V → Nat → Bool
  | [], _ => true
  | v :: l, o => match c.get o with
    | some v' => eV ρ v v' && eC ρ c l (Nat.succ o)
    | none => false
def eE (ρ : List Nat) : List En → List En → Bool
  | [], [] => true
  | e :: l, e' :: l' => decide (e.k = e'.k) && e.n == e'.n && Nat.beq e.born e'.born && eV ρ e.v e'.v && eE ρ l l'
  | _, _ => false
def eO (ρ : List Nat) (p : PO) (o : O) : Bool := match p, o with
  | .cells e k l, .cells e' hi k' c => Nat.beq e e' && k == k' && Nat.beq l.length hi && eC ρ c l 0
  | .ro pin e l, .ro pin' e' hi c => decide (pin = pin') && Nat.beq e e' && Nat.beq l.length hi && eC ρ c l 0
  | .map es k, .map es' k' => Nat.beq k k' && eE ρ es es'
  | _, _ => false
/-- All blocks of the pattern are there. -/
def eH (ρ : List Nat) (h : Tr O) : List (Option PO) → Nat → Bool
  | [], _ => true
  | none :: l, j => eH ρ h l (Nat.succ j)
  | some p :: l, j => match ρ[j]? with
    | some b => (match h.get b with
      | some o => eO ρ p o
      | none => false) && eH ρ h l (Nat.succ j)
    | none => false
def notIn (b : Nat) : List Nat → Bool
  | [] => true
  | c :: l => !(Nat.beq b c) && notIn b l
def apartL : List Nat → Bool
  | [] => true
  | b :: l => notIn b l && apartL l
def allLt (n : Nat) : List Nat → Bool
  | [] => true
  | b :: l => Nat.blt b n && allLt n l
def upto : Nat → List Nat → List Nat
  | 0, l => l
  | n + 1, l => upto n (n :: l)
/-- The first n stand for themselves. -/
def keeps : Nat → Nat → List Nat → Bool
  | 0, _, _ => true
  | n + 1, j, b :: l => Nat.beq b j && keeps n (Nat.succ j) l
  | _ + 1, _, [] => false
def pinned : Option PO → Option Nat
  | some (.ro pin _ _) => pin
  | _ => none
/-- Tables stay. -/
def pinsOk : List (Option PO) → List (Option PO) → Bool
  | [], _ => true
  | x :: l, y :: r => (match pinned x with
    | some _ => decide (pinned y = pinned x)
    | none => true) && pinsOk l r
  | x :: l, [] => (pinned x).isNone && pinsOk l []
def noNone : List (Option PO) → Bool
  | [] => true
  | none :: _ => false
  | some _ :: l => noNone l
/-- The pattern lies so. -/
def okM (ρ : List Nat) (h : H) (args args' : List V) (pre : List (Option PO)) : Bool := Nat.beq ρ.length pre.length && (eVL ρ args args' && (eH ρ h.t pre 0 && (apartL ρ && allLt h.next ρ)))
/-! ### Laying what is told -/
def num (ρ : List Nat) (k base b : Nat) : Nat := match ρ[b]? with
  | some c => c
  | none => Nat.add base (Nat.sub b k)
mutual
def iV (g : Nat → Nat) : V → V
  | .p b o => .p (g b) o
  | .sl b o l c k z => .sl (g b) o l c k z
  | .m b => .m (g b)
  | .y b => .y (g b)
  | .fn f l r => .fn f (iVL g l) (iVL g r)
  | .iface t v => .iface t (iV g v)
  | .agg l => .agg (iVL g l)
  | .tup l => .tup (iVL g l)
  | v => v
def iVL (g : Nat → Nat) : List V → List V
  | [] => []
  | v :: l => iV g v :: iVL g l
end
section
variable {β : Type}
mutual
/-- The same, strictly. -/
def iK (g : Nat → Nat) : V → (V → Option β) → Option β
  | .p b o, K => fN (g b) fun b => K (.p b o)
  | .sl b o l c k z, K => fN (g b) fun b => K (.sl b o l c k z)
  | .m b, K => fN (g b) fun b => K (.m b)
  | .y b, K => fN (g b) fun b => K (.y b)
  | .fn f l r, K => iKL g l fun l => iKL g r fun r => K (.fn f l r)
  | .iface t v, K => iK g v fun v => K (.iface t v)
  | .agg l, K => iKL g l fun l => K (.agg l)
  | .tup l, K => iKL g l fun l => K (.tup l)
  | v, K => K v
def iKL (g : Nat → Nat) : List V → (List V → Option β) → Option β
  | [], K => K []
  | v :: l, K => iK g v fun v => iKL g l fun l => K (v :: l)
end
def iKE (g : Nat → Nat) : List En → (List En → Option β) → Option β
  | [], K => K []
  | e :: l, K => iK g e.v fun v => iKE g l fun l => K (⟨e.k, e.n, v, e.born⟩ :: l)
def iO (g : Nat → Nat) : PO → O
  | .cells e p l => .cells e l.length p (Tr.putsL (iVL g l) .e 0)
  | .ro pin e l => .ro pin e l.length (Tr.putsL (iVL g l) .e 0)
  | .map es c => .map (es.map fun e => ⟨e.k, e.n, iV g e.v, e.born⟩) c
def iKO (g : Nat → Nat) (p : PO) (K : O → Option β) : Option β := match p with
  | .cells e p l => iKL g l fun l' => Tr.putL l' .e 0 fun c => fN l.length fun n => K (.cells e n p c)
  | .ro pin e l => iKL g l fun l' => Tr.putL l' .e 0 fun c => fN l.length fun n => K (.ro pin e n c)
  | .map es c => iKE g es fun es => K (.map es c)
def layK (g : Nat → Nat) : List (Option PO) → Nat → Tr O → (Tr O → Option β) → Option β
  | [], _, t, K => K t
  | none :: l, j, t, K => Tr.put none t (g j) fun t => layK g l (Nat.succ j) t K
  | some p :: l, j, t, K => iKO g p fun o => Tr.put (some o) t (g j) fun t => layK g l (Nat.succ j) t K
end
/-- A fact put to use. -/
def useF (F : Fact) (args : List V) (h : H) : Option (V × H) :=
  forceL (mVL (upto F.r []) F.args args) fun ρ => mH h.t F.pre 0 ρ fun ρ => bb (okM ρ h F.args args F.pre) (bb (noNone F.pre && Nat.ble F.pre.length F.post.length) (fN F.pre.length fun k =>
    layK (num ρ k h.next) F.post 0 h.t fun t => iK (num ρ k h.next) F.v fun v => fN (Nat.add h.next (Nat.sub F.post.length k)) fun n => some (v, ⟨n, t⟩)))
/-- What a run left is what the fact tells. -/
def tells (F : Fact) (r : V × H) : Option Unit :=
  forceL (mVL (upto F.pre.length []) [F.v] [r.1]) fun ρ => mH r.2.t F.post 0 ρ fun ρ => bb (Nat.ble F.pre.length F.post.length) (bb (okM ρ r.2 [F.v] [r.1] F.post) (bb (keeps F.pre.length 0 ρ) (bb (pinsOk F.pre F.post) (some ()))))
/-- All ends of a call. -/
def callL (G : Cfg) (n : Nat) (f : FuncId) (args : List V) (h : H) : Option (List (V × H)) := ob (fuB G f) fun F => bb (Nat.ble args.length F.n) (Tr.putL args .e 0 fun t => ob (exec G n F.c t h) fun l => mapO (resultsV F.rs) l)
/-- The fact's own run. -/
def runF (G : Cfg) (n : Nat) (F : Fact) : Bool := match callL G n F.f F.args (hOf F.pre) with
  | some l => l.all fun r => (tells F r).isSome
  | none => false
def factsF : List Fact → FuncId → List V → H → Option (V × H)
  | [], _, _, _ => none
  | F :: l, f, args, h => br (Nat.beq f F.f) (orr (useF F args h) (factsF l f args h) fun r => some r) (factsF l f args h)
end
end Go.Proofs.YtaadfppfjjkgbaaGreatDoor.Vm
