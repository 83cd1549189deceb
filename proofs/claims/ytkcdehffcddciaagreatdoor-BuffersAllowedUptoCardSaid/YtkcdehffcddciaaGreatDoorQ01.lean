/- PLAIN: maps from numbers, as trees. Written by the recursors themselves: it is the kernel that runs them. -/
import GoSem.Step
namespace Go.Proofs.YtkcdehffcddciaaGreatDoor.Vm
noncomputable section
theorem beqF {a b:Nat} (h:a≠b):Nat.beq a b=false:=by
 cases e:Nat.beq a b with
 | false=>rfl
 | true=>exact absurd (Nat.eq_of_beq_eq_true e) h
theorem beqT {a b:Nat} (h:a=b):Nat.beq a b=true:=by subst h;exact Nat.beq_refl a
def br {β:Type} (c:Bool) (t e:β):β:=Bool.rec e t c
theorem br_t {β:Type} (t e:β):br true t e=t:=rfl
theorem br_f {β:Type} (t e:β):br false t e=e:=rfl
theorem br_eq {β:Type} (c:Bool) (t e:β):br c t e=if c=true then t else e:=by cases c <;> rfl
theorem br_beq {β:Type} (a b:Nat) (t e:β):br (Nat.beq a b) t e=if a=b then t else e:=by
 by_cases h:a=b
 ·rw[if_pos h,beqT h];rfl
 ·rw[if_neg h,beqF h];rfl
inductive Tr (α:Type) where
 | e
 | n (l:Tr α) (x:Option α) (r:Tr α)
def pathF (d:Nat):Nat→List Bool:=Nat.rec (motive:=fun _=>Nat→List Bool) (fun _=>[]) (fun _ ih k=>br (Nat.beq k 0) [] (br (Nat.beq (Nat.mod k 2) 1) (true :: ih (Nat.div k 2)) (false :: ih (Nat.sub (Nat.div k 2) 1)))) d
def path (k:Nat):List Bool:=pathF (k+1) k
theorem pathF_s (d k:Nat):pathF (d+1) k=if k=0 then []else if k % 2=1 then true :: pathF d (k / 2)else false :: pathF d (k / 2-1):=by
 show br (Nat.beq k 0) [] (br (Nat.beq (k % 2) 1) (true :: pathF d (k / 2)) (false :: pathF d (k / 2-1)))=_
 rw[br_beq,br_beq]
theorem pathF_more:∀(d d' k:Nat),k<d→k<d'→pathF d k=pathF d' k
 | 0,_,_,h,_=>absurd h (Nat.not_lt_zero _)
 | _+1,0,_,_,h=>absurd h (Nat.not_lt_zero _)
 | d+1,d'+1,k,h,h'=>by
  rw[pathF_s,pathF_s]
  by_cases k0:k=0
  ·rw[if_pos k0,if_pos k0]
  ·rw[if_neg k0,if_neg k0,pathF_more d d' (k / 2) (by omega) (by omega),pathF_more d d' (k / 2-1) (by omega) (by omega)]
theorem path_s (k:Nat):path k=if k=0 then []else if k % 2=1 then true :: path (k / 2)else false :: path (k / 2-1):=by
 unfold path
 rw[pathF_s]
 by_cases k0:k=0
 ·rw[if_pos k0,if_pos k0]
 ·rw[if_neg k0,if_neg k0,pathF_more k (k / 2+1) (k / 2) (by omega) (by omega),pathF_more k (k / 2-1+1) (k / 2-1) (by omega) (by omega)]
theorem path_inj:∀(d j k:Nat),j<d→path j=path k→j=k
 | 0,_,_,h,_=>absurd h (Nat.not_lt_zero _)
 | d+1,j,k,hd,h=>by
  rw[path_s j,path_s k]at h
  by_cases j0:j=0
  ·rw[if_pos j0]at h
   by_cases k0:k=0
   ·omega
   ·rw[if_neg k0]at h
    split at h <;> cases h
  ·rw[if_neg j0]at h
   by_cases k0:k=0
   ·rw[if_pos k0]at h
    split at h <;> cases h
   ·rw[if_neg k0]at h
    by_cases j1:j % 2=1
    ·rw[if_pos j1]at h
     by_cases k1:k % 2=1
     ·rw[if_pos k1]at h
      injection h with _ h
      have:=path_inj d (j / 2) (k / 2) (by omega) h
      omega
     ·rw[if_neg k1]at h
      injection h with h _
      cases h
    ·rw[if_neg j1]at h
     by_cases k1:k % 2=1
     ·rw[if_pos k1]at h
      injection h with h _
      cases h
     ·rw[if_neg k1]at h
      injection h with _ h
      have:=path_inj d (j / 2-1) (k / 2-1) (by omega) h
      omega
namespace Tr
variable {α:Type}
def get (t:Tr α):Nat→Option α:=Tr.rec (motive:=fun _=>Nat→Option α) (fun _=>none)
 (fun _ x _ gl gr k=>br (Nat.beq k 0) x (br (Nat.beq (Nat.mod k 2) 1) (gl (Nat.div k 2)) (gr (Nat.sub (Nat.div k 2) 1)))) t
def single {β:Type} (v:Option α) (d:Nat):Nat→(Tr α→Option β)→Option β:=Nat.rec (motive:=fun _=>Nat→(Tr α→Option β)→Option β) (fun _ K=>K (.n .e v .e))
 (fun _ ih k K=>br (Nat.beq k 0) (K (.n .e v .e)) (br (Nat.beq (Nat.mod k 2) 1) (ih (Nat.div k 2) fun t=>K (.n t none .e)) (ih (Nat.sub (Nat.div k 2) 1) fun t=>K (.n .e none t)))) d
def put {β:Type} (v:Option α) (t:Tr α):Nat→(Tr α→Option β)→Option β:=Tr.rec (motive:=fun _=>Nat→(Tr α→Option β)→Option β) (fun k K=>single v (Nat.succ k) k K)
 (fun l x r pl pr k K=>br (Nat.beq k 0) (K (.n l v r)) (br (Nat.beq (Nat.mod k 2) 1) (pl (Nat.div k 2) fun l=>K (.n l x r)) (pr (Nat.sub (Nat.div k 2) 1) fun r=>K (.n l x r)))) t
/-! What they are, in plain words. -/
def gets:List Bool→Tr α→Option α
 | _,.e=>none
 | [],.n _ x _=>x
 | true :: p,.n l _ _=>gets p l
 | false :: p,.n _ _ r=>gets p r
def puts (v:Option α):List Bool→Tr α→Tr α
 | [],.e=>.n .e v .e
 | [],.n l _ r=>.n l v r
 | true :: p,.e=>.n (puts v p .e) none .e
 | false :: p,.e=>.n .e none (puts v p .e)
 | true :: p,.n l x r=>.n (puts v p l) x r
 | false :: p,.n l x r=>.n l x (puts v p r)
theorem gets_e (p:List Bool):gets p (Tr.e:Tr α)=none:=by cases p <;> rfl
theorem gets_puts (v:Option α):∀(p:List Bool) (t:Tr α) (q:List Bool),gets q (puts v p t)=if q=p then v else gets q t
 | [],.e,[]=>rfl
 | [],.n _ _ _,[]=>rfl
 | [],.e,b :: q=>by
  rw[if_neg (by intro h;cases h),gets_e]
  cases b <;> exact gets_e q
 | [],.n _ _ _,b :: _=>by rw[if_neg (by intro h;cases h)];cases b <;> rfl
 | true :: p,.e,[]=>by rw[if_neg (by intro h;cases h)];rfl
 | false :: p,.e,[]=>by rw[if_neg (by intro h;cases h)];rfl
 | true :: p,.n l x r,[]=>by rw[if_neg (by intro h;cases h)];rfl
 | false :: p,.n l x r,[]=>by rw[if_neg (by intro h;cases h)];rfl
 | true :: p,.e,true :: q=>by
  show gets q (puts v p .e)=_
  rw[gets_puts v p .e q,gets_e,gets_e]
  simp
 | false :: p,.e,false :: q=>by
  show gets q (puts v p .e)=_
  rw[gets_puts v p .e q,gets_e,gets_e]
  simp
 | true :: p,.n l x r,true :: q=>by
  show gets q (puts v p l)=_
  rw[gets_puts v p l q,show gets (true :: q) (Tr.n l x r)=gets q l from rfl]
  simp
 | false :: p,.n l x r,false :: q=>by
  show gets q (puts v p r)=_
  rw[gets_puts v p r q,show gets (false :: q) (Tr.n l x r)=gets q r from rfl]
  simp
 | true :: p,.e,false :: q=>by
  show gets q (Tr.e:Tr α)=_
  rw[gets_e,gets_e,if_neg (by intro h;injection h with h _;cases h)]
 | false :: p,.e,true :: q=>by
  show gets q (Tr.e:Tr α)=_
  rw[gets_e,gets_e,if_neg (by intro h;injection h with h _;cases h)]
 | true :: p,.n l x r,false :: q=>by rw[if_neg (by intro h;injection h with h _;cases h)];rfl
 | false :: p,.n l x r,true :: q=>by rw[if_neg (by intro h;injection h with h _;cases h)];rfl
theorem get_eq:∀(t:Tr α) (k:Nat),t.get k=gets (path k) t
 | .e,k=>(gets_e _).symm
 | .n l x r,k=>by
  show br (Nat.beq k 0) x (br (Nat.beq (k % 2) 1) (l.get (k / 2)) (r.get (k / 2-1)))=_
  rw[br_beq,br_beq,get_eq l,get_eq r,path_s k]
  split
  ·rfl
  ·split <;> rfl
theorem get_e (k:Nat):(Tr.e:Tr α).get k=none:=rfl
theorem single_eq {β:Type} (v:Option α):∀(d k:Nat) (K:Tr α→Option β),k<d→single v d k K=K (puts v (pathF d k) .e)
 | 0,_,_,h=>absurd h (Nat.not_lt_zero _)
 | d+1,k,K,h=>by
  show br (Nat.beq k 0) (K (.n .e v .e)) (br (Nat.beq (k % 2) 1) (single v d (k / 2) fun t=>K (.n t none .e)) (single v d (k / 2-1) fun t=>K (.n .e none t)))=_
  rw[br_beq,br_beq,pathF_s]
  by_cases k0:k=0
  ·rw[if_pos k0,if_pos k0];rfl
  ·rw[if_neg k0,if_neg k0,single_eq v d _ _ (by omega),single_eq v d _ _ (by omega)]
   split <;> rfl
theorem put_eq {β:Type} (v:Option α):∀(t:Tr α) (k:Nat) (K:Tr α→Option β),put v t k K=K (puts v (path k) t)
 | .e,k,K=>single_eq v (k+1) k K (by omega)
 | .n l x r,k,K=>by
  show br (Nat.beq k 0) (K (.n l v r)) (br (Nat.beq (k % 2) 1) (put v l (k / 2) fun l=>K (.n l x r)) (put v r (k / 2-1) fun r=>K (.n l x r)))=_
  rw[br_beq,br_beq,put_eq v l,put_eq v r,path_s k]
  split
  ·rfl
  ·split <;> rfl
def set (t:Tr α) (k:Nat) (v:Option α):Tr α:=puts v (path k) t
theorem put_set {β:Type} (v:Option α) (t:Tr α) (k:Nat) (K:Tr α→Option β):put v t k K=K (t.set k v):=put_eq v t k K
theorem get_set (v:Option α) (j:Nat) (t:Tr α) (k:Nat):(t.set j v).get k=if k=j then v else t.get k:=by
 rw[get_eq,get_eq]
 unfold set
 rw[gets_puts]
 by_cases h:k=j
 ·subst h;simp
 ·rw[if_neg h,if_neg (fun e=>h (path_inj (k+1) k j (by omega) e))]
/-! By a way that is known. -/
def getP (p:List Bool):Tr α→Option α:=List.rec (motive:=fun _=>Tr α→Option α) (fun t=>Tr.rec none (fun _ x _ _ _=>x) t) (fun b _ ih t=>Tr.rec none (fun l _ r _ _=>Bool.rec (ih r) (ih l) b) t) p
theorem getP_gets:∀(p:List Bool) (t:Tr α),getP p t=gets p t
 | [],.e=>rfl
 | [],.n _ _ _=>rfl
 | b :: p,.e=>by cases b <;> rfl
 | true :: p,.n l _ _=>getP_gets p l
 | false :: p,.n _ _ r=>getP_gets p r
theorem getP_path (k:Nat) (t:Tr α):getP (path k) t=t.get k:=by rw[getP_gets,get_eq]
def putP {β:Type} (v:Option α) (p:List Bool):Tr α→(Tr α→Option β)→Option β:=List.rec (motive:=fun _=>Tr α→(Tr α→Option β)→Option β) (fun t K=>Tr.rec (K (.n .e v .e)) (fun l _ r _ _=>K (.n l v r)) t)
 (fun b _ ih t K=>Tr.rec (Bool.rec (ih .e fun r=>K (.n .e none r)) (ih .e fun l=>K (.n l none .e)) b) (fun l x r _ _=>Bool.rec (ih r fun r=>K (.n l x r)) (ih l fun l=>K (.n l x r)) b) t) p
theorem putP_puts {β:Type} (v:Option α):∀(p:List Bool) (t:Tr α) (K:Tr α→Option β),putP v p t K=K (puts v p t)
 | [],.e,_=>rfl
 | [],.n _ _ _,_=>rfl
 | true :: p,.e,_=>putP_puts v p .e _
 | false :: p,.e,_=>putP_puts v p .e _
 | true :: p,.n l _ _,_=>putP_puts v p l _
 | false :: p,.n _ _ r,_=>putP_puts v p r _
theorem putP_set {β:Type} (v:Option α) (t:Tr α) (k:Nat) (K:Tr α→Option β):putP v (path k) t K=K (t.set k v):=putP_puts v (path k) t K
def putL {β:Type} (l:List α):Tr α→Nat→(Tr α→Option β)→Option β:=List.rec (motive:=fun _=>Tr α→Nat→(Tr α→Option β)→Option β) (fun t _ K=>K t)
 (fun x _ ih t k K=>put (some x) t k fun u9=>ih u9 (Nat.succ k) K) l
def putsL:List α→Tr α→Nat→Tr α
 | [],t,_=>t
 | x :: l,t,k=>putsL l (t.set k (some x)) (k+1)
theorem putL_eq {β:Type}:∀(l:List α) (t:Tr α) (k:Nat) (K:Tr α→Option β),putL l t k K=K (putsL l t k)
 | [],_,_,_=>rfl
 | x :: l,t,k,K=>by
  show put (some x) t k (fun u9=>putL l u9 (k+1) K)=_
  rw[put_set,putL_eq l]
  rfl
theorem get_putsL:∀(l:List α) (t:Tr α) (k j:Nat),(putsL l t k).get j=if k≤j∧j<k+l.length then l[j-k]? else t.get j
 | [],t,k,j=>by rw[if_neg (by simp only[List.length_nil];omega)];rfl
 | x :: l,t,k,j=>by
  rw[show putsL (x :: l) t k=putsL l (t.set k (some x)) (k+1)from rfl,get_putsL l,get_set]
  by_cases h1:j=k
  ·subst h1
   rw[if_neg (by omega),if_pos rfl,if_pos (by simp)]
   simp
  ·by_cases h2:k+1≤j∧j<k+1+l.length
   ·rw[if_pos h2,if_pos (by simp;omega),show j-k=(j-(k+1))+1 by omega]
    simp
   ·rw[if_neg h2,if_neg h1,if_neg (by simp;omega)]
end Tr
end
end Go.Proofs.YtkcdehffcddciaaGreatDoor.Vm
