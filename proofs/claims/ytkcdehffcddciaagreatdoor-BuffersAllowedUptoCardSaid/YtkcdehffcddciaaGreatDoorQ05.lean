/- The small machine's operations do what the model's do: slices, kinds, functions, interfaces. -/
import Derived.Test.YtkcdehffcddciaaGreatDoorQ04
import Derived.IntWalk
import Derived.Laws.IdiomStrings
namespace Go.Proofs.YtkcdehffcddciaaGreatDoor.Vm
open Go Go.RowKit
section
variable {A:Sub} {h:H} {w:World} {P:Program} {β:Type}
theorem zero_all {e:TypeId} {z:V} (hz:zeroB P e=some z):∃zx,ofVal zx=some z∧∀w:World,(zeroValue e).run P w=.ok zx w:=by
 unfold zeroB at hz
 obtain⟨inf,hi,hz⟩:=ob_some hz
 obtain⟨y,hy,hz⟩:=ob_some hz
 exact⟨y,hz,fun w=>by simp[zeroValue,typeInfo,hi,hy]⟩
theorem makeSlice_run {ty e:TypeId} {x y:Operand} {sz by_ l c:Nat} {z:V} {kx ky:IntKind} {o:Oper} {a:Act} (ho:o.op=.makeSlice ty x y) (he:elemB P ty=some e) (hsz:sizeB P e=some sz) {zx:Value} (hx2:ofVal zx=some z) (hzr:∀w:World,(zeroValue e).run P w=.ok zx w) (hby:bytesB P e=some by_)
  (h0:0<sz) (hzl:z.cells.length=sz) (hlc:l≤c) (hc6:c≤65536) (hcb:c*by_≤4294967296) (hrx:a.eval x=.int kx (.ofNat l)) (hry:a.eval y=.int ky (.ofNat c)) :
  (execOp a.eval o).run P w=.ok (.value (.slice (some ⟨w.heap.size,0,none⟩) l c)) (w.alloc (.cells (List.flatten (List.replicate c zx.cells.toList)).toArray e)):=by
 have hx1:=hzr w
 have hzl2:RelL ⟨fun _=>0,fun _=>(0,0)⟩ 0 z.cells zx.cells.toList:=(ofVal_rel hx2).cells
 have hxs:zx.cells.size=sz:=by have:=hzl2.length;rw[Array.length_toList]at this;omega
 obtain⟨i,hi,hib⟩:=bytesB_some hby
 have e1:(Array.range (c*sz)).map (fun i=>zx.cells[i % zx.cells.size]!)=(List.flatten (List.replicate c zx.cells.toList)).toArray:=zero_rep zx.cells c sz hxs h0
 have hu:=elem_und he
 have w1:IntKind.i64.wrap (l:Int)=(l:Int):=IntWalk.i64_in _ ⟨by omega,by omega⟩
 have w2:IntKind.i64.wrap (c:Int)=(c:Int):=IntWalk.i64_in _ ⟨by omega,by omega⟩
 have n1:¬(c:Int)<0:=by omega
 have n2:¬(l:Int)<0:=by omega
 have n3:¬(c<l):=by omega
 have n4:¬(281474976710656<((by_:Int)*(c:Int))):=by
  have:(by_:Int)*(c:Int)=((c*by_:Nat):Int):=by rw[Nat.mul_comm];push_cast;rfl
  omega
 rw[Int.ofNat_eq_natCast]at hrx hry
 by_cases hn:c*sz=0
 ·have hc0:c=0:=by
   rcases Nat.mul_eq_zero.1 hn with h | h
   ·exact h
   ·omega
  have hl0:l=0:=by omega
  subst hc0 hl0
  have e3:(Array.map (fun _=>(default:Value)) (Array.range 0))=#[]:=by apply Array.ext';simp
  have w0:IntKind.i64.wrap 0=0:=by decide
  simp[execOp,ho,hrx,hry,Instr.makeSlice,asInt,asIntOf,run_und hu,typeInfo,hi,w0,run_size hsz,e3,run_newRow]
 ·simp[execOp,ho,hrx,hry,Instr.makeSlice,asInt,asIntOf,run_und hu,typeInfo,hi,hib,w1,w2,n1,n2,n3,n4,run_size hsz,hx1]
  rw[if_neg hn,e1]
  simp only[run_newRow,Result.andThen_ok]
theorem makeSlice_ok {ty e:TypeId} {x y:Operand} {rx ry:Rd} {sz by_:Nat} {z:V} {C:CallF} (hx:rdB x=some rx) (hy:rdB y=some ry) (he:elemB P ty=some e) (hsz:sizeB P e=some sz) (hz:zeroB P e=some z) (hby:bytesB P e=some by_)
  (h0:0<sz) (hzl:z.cells.length=sz) :
  OpOk P C (.makeSlice ty x y) ⟨fun _ t h K=>rdK t rx fun l=>rdK t ry fun c=>asN l fun l=>asN c fun c=>bb (Nat.ble l c) (bb (Nat.ble c 65536) (bb (Nat.ble (Nat.mul c by_) 4294967296) (Vm.newRow h e (rep z.cells c) false fun b h=>K (.sl b 0 l c true sz) h)))⟩:=by
 intro o ho A h w N t a K q hm ht hk
 have hrx:=rd_rel ht hx
 have hry:=rd_rel ht hy
 simp only[rdK_eq]at hk
 obtain⟨k,l,h1,hk⟩:=asN_some hk
 obtain⟨j,c,h2,hk⟩:=asN_some hk
 obtain⟨hlc,hk⟩:=bb_some hk
 obtain⟨hc6,hk⟩:=bb_some hk
 obtain⟨hcb,hk⟩:=bb_some hk
 obtain⟨h3,hk⟩:=newRow_some hk
 have hlc:l≤c:=Nat.le_of_ble_eq_true hlc
 have hc6:c≤65536:=Nat.le_of_ble_eq_true hc6
 have hcb:c*by_≤4294967296:=Nat.le_of_ble_eq_true hcb
 rw[h1]at hrx
 rw[h2]at hry
 obtain⟨zx,hx2,hzx⟩:=zero_all hz
 have hrun:=makeSlice_run (w:=w) ho he hsz hx2 hzx hby h0 hzl hlc hc6 hcb hrx.of_i hry.of_i
 have hzr:RelL A h.next z.cells zx.cells.toList:=(ofVal_rel hx2).cells
 exact⟨_,_,hk,.value (x:=.slice (some ⟨w.heap.size,0,none⟩) l c) (w':=w.alloc (.cells (List.flatten (List.replicate c zx.cells.toList)).toArray e)) hrun ⟨_,Ev.new (k:=(0,0)) hm (row_new0 (by simpa using rep_rel hzr c) h3),sl_new A h.next w.heap.size 0 l c sz⟩⟩
theorem bound_some {n N:Nat} {t:Tr V} {a:Act} (ht:TRel A n N t a.tmps) {x:Option Operand} {rx:Option Rd} {d top:Nat} {K:Nat→Option β} {r:β} (hx:optB x=some rx) (h:boundK t rx d top K=some r) :
  (x=none∧K d=some r)∨∃y k m,x=some y∧a.eval y=.int k (.ofNat m)∧m≤top∧K m=some r:=by
 cases x with
 | none =>
  injection hx with hx
  subst hx
  exact .inl ⟨rfl,h⟩
 | some y =>
  obtain⟨ry,hy,hx⟩:=ob_some hx
  injection hx with hx
  subst hx
  have h:rdK t ry (fun v=>asN v fun n=>bb (Nat.ble n top) (K n))=some r:=h
  rw[rdK_eq]at h
  obtain⟨k,m,h1,h⟩:=asN_some h
  obtain⟨h2,h⟩:=bb_some h
  have h3:=rd_rel ht hy
  rw[h1]at h3
  exact .inr ⟨y,k,m,rfl,h3.of_i,Nat.le_of_ble_eq_true h2,h⟩
theorem run_bound {k:IntKind} {m y:Nat} {code:BoundsCode} (h:m≤y):(Instr.sliceBound (.int k (m:Int)) y code).run P w=.ok m w:=by
 have h1:(0:Int)≤(m:Int)∧(m:Int)≤(y:Int):=⟨Int.natCast_nonneg m,by exact Int.ofNat_le.2 h⟩
 simp only[Instr.sliceBound,asIntOf,Sem.run_bind,Sem.run_pure,Result.andThen_ok,h1,and_self,if_true]
 rfl
theorem run_slice2 {ty e:TypeId} {sz:Nat} {ad:Option Addr} {len c hh l:Nat} {lo hi:Option Value} (hu:P.underlying ty=some (.slice e)) (hsz:sizeB P e=some sz)
  (hhi:(hi=none∧hh=len)∨∃k,hi=some (.int k (.ofNat hh))∧hh≤c) (hlo:(lo=none∧l=0)∨∃k,lo=some (.int k (.ofNat l))∧l≤hh) :
  (Instr.sliceAt ty (.slice ad len c) lo hi none).run P w=.ok (.slice (if c=l then ad else ad.map (·.add (l*sz))) (hh-l) (c-l)) w:=by
 have e1:(Instr.sliceBounds true len c lo hi none).run P w=.ok (l,hh,c) w:=by
  unfold Instr.sliceBounds
  rcases hhi with⟨rfl,rfl⟩ | ⟨k,rfl,h1⟩ <;> rcases hlo with⟨rfl,rfl⟩ | ⟨k',rfl,h2⟩
  ·rfl
  ·simp[run_bound h2]
  ·simp[run_bound h1]
  ·simp[run_bound h1,run_bound h2]
 simp only[Instr.sliceAt,Instr.slice,Sem.run_bind,run_und hu,Result.andThen_ok,e1,run_size hsz,Sem.run_pure]
theorem slice2_ok {ty : TypeId} {x : Operand} {lo hi : Option Operand} {rx : Rd} {rlo rhi : Option Rd} {f : Fx} {C : CallF} (hx : rdB x = some rx) (hlo : optB lo = some rlo) (hhi : optB hi = some rhi) (hf : slice2B P ty rx rlo rhi = some f) : OpQ P C (.slice ty x lo hi none) f := by
  intro o ho A h w N t a K q hm ht hk
  have hrx := rd_rel ht hx
  unfold slice2B at hf
  obtain ⟨e, he, hf⟩ := ob_some hf
  obtain ⟨sz, hsz, hf⟩ := ob_some hf
  injection hf with hf
  subst hf
  have hu := elem_und he
  simp only [rdK_eq] at hk
  split at hk
  · rename_i b o' len cap kn z hv
    rw [hv] at hrx
    obtain ⟨c, ad, h1, h2, h3, h4, hoff⟩ := hrx.of_sl
    obtain ⟨hz, hk⟩ := bb_some hk
    have hz : z = sz := Nat.eq_of_beq_eq_true hz
    subst hz
    have hcap : cap ≤ c := by
      cases kn with
      | true => rw [h3 rfl]; exact Nat.le_refl _
      | false => exact (h4 rfl).2.1
    -- the bounds
    have key : ∀ (hh : Nat), ((hi = none ∧ hh = len) ∨ ∃ y k, hi = some y ∧ a.eval y = .int k (.ofNat hh) ∧ hh ≤ cap) → (boundK t rlo 0 hh fun l => fN (Nat.sub hh l) fun n => fN (Nat.sub cap l) fun c =>
        br (kn && Nat.beq cap l) (K (.sl b o' n c kn z) h) (fN (Nat.add o' (Nat.mul l z)) fun o => K (.sl b o n c kn z) h)) = some q → ∃ v, K v h = some q ∧ ∃ x, (execOp a.eval o).run P w = .ok (.value x) w ∧ Rel A h.next v x := by
      intro hh hhh hk
      have hle : hh ≤ cap ∨ (hi = none ∧ hh = len) := by
        rcases hhh with h5 | ⟨y, k, h5, _, h6⟩
        · exact .inr h5
        · exact .inl h6
      have hkl : ∀ l, ((lo = none ∧ l = 0) ∨ ∃ y k, lo = some y ∧ a.eval y = .int k (.ofNat l) ∧ l ≤ hh) → (fN (Nat.sub hh l) fun n => fN (Nat.sub cap l) fun c =>
        br (kn && Nat.beq cap l) (K (.sl b o' n c kn z) h) (fN (Nat.add o' (Nat.mul l z)) fun o => K (.sl b o n c kn z) h)) = some q → ∃ v, K v h = some q ∧ ∃ x, (execOp a.eval o).run P w = .ok (.value x) w ∧ Rel A h.next v x := by
        intro l hll hk
        simp only [fN_eq] at hk
        have hrun := run_slice2 (w := w) (ty := ty) (ad := some ad) (len := len) (c := c) (hh := hh) (l := l) (lo := lo.map a.eval) (hi := hi.map a.eval) hu hsz
          (by rcases hhh with ⟨rfl, h5⟩ | ⟨y, k, rfl, h5, h6⟩
              · exact .inl ⟨rfl, h5⟩
              · exact .inr ⟨k, by rw [Option.map_some, h5], by omega⟩)
          (by rcases hll with ⟨rfl, h5⟩ | ⟨y, k, rfl, h5, h6⟩
              · exact .inl ⟨rfl, h5⟩
              · exact .inr ⟨k, by rw [Option.map_some, h5], h6⟩)
        have hex : (execOp a.eval o).run P w = .ok (.value (.slice (some (if c = l then ad else ad.add (l * z))) (hh - l) (c - l))) w := by
          simp only [execOp, ho, h1]
          simp only [Sem.run_bind, Option.map_none, hrun, Result.andThen_ok, Sem.run_pure, Option.map_some]
          split <;> rfl
        have hlh : l ≤ hh := by
          rcases hll with ⟨_, rfl⟩ | ⟨_, _, _, _, h6⟩
          · exact Nat.zero_le _
          · exact h6
        cases kn with
        | true =>
          have hc := h3 rfl
          subst hc
          rw [Bool.true_and, br_beq] at hk
          by_cases hcl : c = l
          · rw [if_pos hcl] at hk
            rw [if_pos hcl] at hex
            refine ⟨_, hk, _, hex, .slk b o' _ _ z _ h2 ?_⟩
            rcases hoff with h5 | ⟨h5, h6⟩
            · exact .inl h5
            · right
              refine ⟨?_, by show c - l = 0; omega⟩
              show hh - l = 0
              rcases hle with h8 | ⟨_, h8⟩ <;> omega
          · rw [if_neg hcl] at hk
            rw [if_neg hcl] at hex
            refine ⟨_, hk, _, hex, .slk b _ _ _ z _ h2 ?_⟩
            rcases hoff with h5 | ⟨h5, h6⟩
            · exact .inl (by rw [h5, add_lit]; show _ = (⟨A.ι b, (A.κ b).2 + (o' + l * z), none⟩ : Addr); rw [Nat.add_assoc])
            · right
              refine ⟨?_, by show c - l = 0; omega⟩
              show hh - l = 0
              rcases hle with h8 | ⟨_, h8⟩ <;> omega
        | false =>
          rw [Bool.false_and, br_f] at hk
          obtain ⟨h5, h6, h7⟩ := h4 rfl
          have hhc : hh ≤ cap := by
            rcases hle with h8 | ⟨_, h8⟩ <;> omega
          refine ⟨_, hk, _, hex, .slu b _ _ _ z _ _ h2 ?_ ?_ ?_ ?_⟩
          · show hh - l ≤ cap - l; omega
          · show cap - l ≤ c - l; omega
          · show (A.κ b).2 + (o' + l * z) + (c - l) * z = (A.κ b).1
            rw [← h7, Nat.sub_mul]
            have : l * z ≤ c * z := Nat.mul_le_mul_right z (by omega)
            omega
          · by_cases hcl : c = l
            · right; omega
            · rw [if_neg hcl]
              rcases hoff with h8 | ⟨_, h8⟩
              · left; rw [h8, add_lit]; show _ = (⟨A.ι b, (A.κ b).2 + (o' + l * z), none⟩ : Addr); rw [Nat.add_assoc]
              · right; omega
      rcases bound_some ht hlo hk with ⟨h5, h6⟩ | ⟨y, k, m, h5, h6, h7, h8⟩
      · exact hkl 0 (.inl ⟨h5, rfl⟩) h6
      · exact hkl m (.inr ⟨y, k, h5, h6, h7⟩) h8
    rcases bound_some ht hhi hk with ⟨h5, h6⟩ | ⟨y, k, m, h5, h6, h7, h8⟩
    · exact key len (.inl ⟨h5, rfl⟩) h6
    · exact key m (.inr ⟨y, k, h5, h6, h7⟩) h8
  · rename_i hv
    rw [hv] at hrx
    have h1 := hrx.of_ns
    have fin : ∀ hh l, ((hi = none ∧ hh = 0) ∨ ∃ y k, hi = some y ∧ a.eval y = .int k (.ofNat hh) ∧ hh ≤ 0) → ((lo = none ∧ l = 0) ∨ ∃ y k, lo = some y ∧ a.eval y = .int k (.ofNat l) ∧ l ≤ hh) → K .ns h = some q → ∃ v, K v h = some q ∧ ∃ x, (execOp a.eval o).run P w = .ok (.value x) w ∧ Rel A h.next v x := by
      intro hh l hhh hll hk
      have hh0 : hh = 0 := by rcases hhh with ⟨_, h5⟩ | ⟨_, _, _, _, h5⟩ <;> omega
      have hl0 : l = 0 := by rcases hll with ⟨_, h5⟩ | ⟨_, _, _, _, h5⟩ <;> omega
      have hrun := run_slice2 (w := w) (ty := ty) (ad := none) (len := 0) (c := 0) (hh := hh) (l := l) (lo := lo.map a.eval) (hi := hi.map a.eval) hu hsz
          (by rcases hhh with ⟨rfl, h5⟩ | ⟨y, k, rfl, h5, h6⟩
              · exact .inl ⟨rfl, h5⟩
              · exact .inr ⟨k, by rw [Option.map_some, h5], by omega⟩)
          (by rcases hll with ⟨rfl, h5⟩ | ⟨y, k, rfl, h5, h6⟩
              · exact .inl ⟨rfl, h5⟩
              · exact .inr ⟨k, by rw [Option.map_some, h5], h6⟩)
      rw [hh0, hl0] at hrun
      refine ⟨_, hk, .slice none 0 0, ?_, .ns⟩
      simp only [execOp, ho, h1]
      simp only [Sem.run_bind, Option.map_none, hrun, Result.andThen_ok, Sem.run_pure]
      simp
    rcases bound_some ht hhi hk with ⟨h5, h6⟩ | ⟨y, k, m, h5, h6, h7, h8⟩
    · rcases bound_some ht hlo h6 with ⟨h9, h10⟩ | ⟨y, k, m, h9, h10, h11, h12⟩
      · exact fin 0 0 (.inl ⟨h5, rfl⟩) (.inl ⟨h9, rfl⟩) h10
      · exact fin 0 m (.inl ⟨h5, rfl⟩) (.inr ⟨y, k, h9, h10, h11⟩) h12
    · rcases bound_some ht hlo h8 with ⟨h9, h10⟩ | ⟨y', k', m', h9, h10, h11, h12⟩
      · exact fin m 0 (.inr ⟨y, k, h5, h6, h7⟩) (.inl ⟨h9, rfl⟩) h10
      · exact fin m m' (.inr ⟨y, k, h5, h6, h7⟩) (.inr ⟨y', k', h9, h10, h11⟩) h12
  · cases hk
theorem run_slice3 {ty e:TypeId} {sz:Nat} {ad:Option Addr} {len c hh m:Nat} {k k':IntKind} (hu:P.underlying ty=some (.slice e)) (hsz:sizeB P e=some sz) (h1:m≤c) (h2:hh≤m) :
  (Instr.sliceAt ty (.slice ad len c) none (some (.int k (.ofNat hh))) (some (.int k' (.ofNat m)))).run P w=.ok (.slice (if m=0 then ad else ad.map (·.add (0*sz))) hh m) w:=by
 have e1:(Instr.sliceBounds true len c none (some (.int k (.ofNat hh))) (some (.int k' (.ofNat m)))).run P w=.ok (0,hh,m) w:=by
  unfold Instr.sliceBounds
  simp[run_bound h1,run_bound h2]
 simp only[Instr.sliceAt,Instr.slice,Sem.run_bind,run_und hu,Result.andThen_ok,e1,run_size hsz,Sem.run_pure,Nat.sub_zero]
theorem slice3_ok {ty:TypeId} {x hi mx:Operand} {rx rhi rmx:Rd} {f:Fx} {C:CallF} (hx:rdB x=some rx) (hhi:rdB hi=some rhi) (hmx:rdB mx=some rmx) (hf:slice3B P ty rx rhi rmx=some f):OpQ P C (.slice ty x none (some hi) (some mx)) f:=by
 intro o ho A h w N t a K q hm ht hk
 have hrx:=rd_rel ht hx
 unfold slice3B at hf
 obtain⟨e,he,hf⟩:=ob_some hf
 obtain⟨sz,hsz,hf⟩:=ob_some hf
 injection hf with hf
 subst hf
 have hu:=elem_und he
 have ohi:optB (some hi)=some (some rhi):=by simp[optB,ob,hhi]
 have omx:optB (some mx)=some (some rmx):=by simp[optB,ob,hmx]
 simp only[rdK_eq]at hk
 split at hk
 ·rename_i b o' len cap kn z hv
  rw[hv]at hrx
  obtain⟨c,ad,h1,h2,h3,h4,hoff⟩:=hrx.of_sl
  obtain⟨hz,hk⟩:=bb_some hk
  have hcap:cap≤c:=by
   cases kn with
   | true=>rw[h3 rfl];exact Nat.le_refl _
   | false=>exact(h4 rfl).2.1
  rcases bound_some ht omx hk with⟨h5,_⟩ | ⟨y,k,m,h5,h6,h7,hk⟩
  ·cases h5
  rcases bound_some ht ohi hk with⟨h8,_⟩ | ⟨y',k',m',h8,h9,h10,hk⟩
  ·cases h8
  injection h5 with h5
  injection h8 with h8
  subst h5 h8
  simp only[fN_eq]at hk
  have hrun:=run_slice3 (w:=w) (ty:=ty) (ad:=some ad) (len:=len) (c:=c) (hh:=m') (m:=m) (k:=k') (k':=k) hu hsz (by omega) h10
  refine⟨_,hk,.slice (some ad) m' m,?_,(.slk b o' _ _ sz _ h2 (hoff.imp id fun h=>by omega))⟩
  simp only[execOp,ho,h1,Option.map_none,Option.map_some,h6,h9]
  simp only[Sem.run_bind,hrun,Result.andThen_ok,Sem.run_pure]
  simp[Addr.add]
 ·rename_i hv
  rw[hv]at hrx
  have h1:=hrx.of_ns
  rcases bound_some ht omx hk with⟨h5,_⟩ | ⟨y,k,m,h5,h6,h7,hk⟩
  ·cases h5
  rcases bound_some ht ohi hk with⟨h8,_⟩ | ⟨y',k',m',h8,h9,h10,hk⟩
  ·cases h8
  injection h5 with h5
  injection h8 with h8
  subst h5 h8
  have hm0:m=0:=by omega
  have hm1:m'=0:=by omega
  have hrun:=run_slice3 (w:=w) (ty:=ty) (ad:=none) (len:=0) (c:=0) (hh:=m') (m:=m) (k:=k') (k':=k) hu hsz (by omega) h10
  refine⟨_,hk,.slice none 0 0,?_,.ns⟩
  simp only[execOp,ho,h1,Option.map_none,Option.map_some,h6,h9]
  simp only[Sem.run_bind,hrun,Result.andThen_ok,Sem.run_pure]
  simp[hm0,hm1]
 ·cases hk
theorem partB_some {n:Nat} {ty:TypeId} {off:Nat} {g:List V→Option V} {l:List V} {xs:Array Value} {v:V} (hg:partB P ty off=some g) (hl:RelL A n l xs.toList) (hv:g l=some v):∃y,(part ty xs off).run P w=.ok y w∧Rel A n v y:=by
 unfold partB at hg
 obtain⟨b,hb,hg⟩:=ob_some hg
 cases b with
 | false =>
  injection hg with hg
  subst hg
  obtain⟨y,h1,h2⟩:=hl.get hv
  have h1:xs[off]?=some y:=by simpa using h1
  exact⟨y,by simp only[part,Sem.run_bind,run_agg hb,Result.andThen_ok,Bool.false_eq_true,if_false,h1,Sem.run_pure],h2⟩
 | true =>
  obtain⟨k,hk,hg⟩:=ob_some hg
  injection hg with hg
  subst hg
  injection hv with hv
  subst hv
  refine⟨.agg (xs.extract off (off+k)),by simp only[part,Sem.run_bind,run_agg hb,Result.andThen_ok,if_true,run_size hk,Sem.run_pure],.agg _ _ ?_⟩
  have:=(hl.drop off).take k
  rw[show(xs.extract off (off+k)).toList=(xs.toList.drop off).take k by simp[List.extract_eq_take_drop]]
  exact this
theorem field_ok {ty:TypeId} {x:Operand} {f:Nat} {rx:Rd} {p:Nat × TypeId} {g:List V→Option V} {C:CallF} (hx:rdB x=some rx) (hp:fieldB P ty f=some p) (hg:partB P p.2 p.1=some g) :
  OpQ P C (.field ty x f) ⟨fun _ t h K=>rdK t rx fun x=>asAgg x fun l=>ob (g l) fun v=>K v h⟩:=by
 intro o ho A h w N t a K q hm ht hk
 have hrx:=rd_rel ht hx
 simp only[rdK_eq]at hk
 obtain⟨l,hv,hk⟩:=asAgg_some hk
 obtain⟨v,hgl,hk⟩:=ob_some hk
 rw[hv]at hrx
 obtain⟨xs,h1,h2⟩:=hrx.of_agg
 obtain⟨fs,fd,hu,hfd,h3,h4⟩:=fieldB_some hp
 obtain⟨y,h5,h6⟩:=partB_some (w:=w) hg h2 hgl
 refine⟨_,hk,y,?_,h6⟩
 rw[←h3,←h4]at h5
 simp only[execOp,ho,h1,Instr.field,Sem.run_bind,run_und hu,Result.andThen_ok,hfd,Go.asAgg,Sem.run_pure,h5]
theorem index_ok {ty:TypeId} {x i:Operand} {rx ri:Rd} {f:Fx} {C:CallF} (hx:rdB x=some rx) (hi:rdB i=some ri) (hf:indexB P ty rx ri=some f):OpQ P C (.index ty x i) f:=by
 intro o ho A h w N t a K q hm ht hk
 have hrx:=rd_rel ht hx
 have hri:=rd_rel ht hi
 unfold indexB at hf
 split at hf
 ·rename_i len e hu
  obtain⟨sz,hsz,hf⟩:=ob_some hf
  obtain⟨g,hg,hf⟩:=ob_some hf
  have fin:∀(m:Nat) (l:List V) (xs:Array Value) (k:IntKind) (v:V),a.eval i=.int k (.ofNat m)→a.eval x=.agg xs→m<len→(∃y,(part e xs (m*sz)).run P w=.ok y w∧Rel A h.next v y)→K v h=some q→∃v,K v h=some q∧∃x,(execOp a.eval o).run P w=.ok (.value x) w∧Rel A h.next v x:=by
   rintro m l xs k v h1 h2 h3 ⟨y,h4,h5⟩ h6
   have hb:(0:Int)≤Int.ofNat m∧Int.ofNat m<(len:Int):=⟨Int.natCast_nonneg m,by exact Int.ofNat_lt.2 h3⟩
   refine⟨_,h6,y,?_,h5⟩
   simp only[execOp,ho,h1,h2,Instr.index,asIntOf,Sem.run_bind,run_und hu,Result.andThen_ok,Sem.run_pure,hb,and_self,if_true,run_size hsz]
   rw[show(Int.ofNat m).toNat=m from rfl,h4]
   rfl
  cases g with
  | true =>
   injection hf with hf
   subst hf
   simp only[rdK_eq]at hk
   obtain⟨k,m,h1,hk⟩:=asN_some hk
   obtain⟨l,hv,hk⟩:=asAgg_some hk
   obtain⟨hlt,hk⟩:=bb_some hk
   rw[hv]at hrx
   rw[h1]at hri
   obtain⟨xs,h2,h3⟩:=hrx.of_agg
   have hpb:partB P e (m*sz)=some fun l=>some (.agg ((l.drop (m*sz)).take sz)):=by simp[partB,ob,hg,hsz,br]
   exact fin m l xs k _ hri.of_i h2 (Nat.le_of_ble_eq_true hlt) (partB_some hpb h3 rfl) hk
  | false =>
   injection hf with hf
   subst hf
   simp only[rdK_eq]at hk
   obtain⟨k,m,h1,hk⟩:=asN_some hk
   obtain⟨l,hv,hk⟩:=asAgg_some hk
   obtain⟨hlt,hk⟩:=bb_some hk
   obtain⟨v,hlv,hk⟩:=ob_some hk
   rw[hv]at hrx
   rw[h1]at hri
   obtain⟨xs,h2,h3⟩:=hrx.of_agg
   have hpb:partB P e (m*sz)=some fun l=>l[m*sz]?:=by simp[partB,ob,hg,br]
   exact fin m l xs k _ hri.of_i h2 (Nat.le_of_ble_eq_true hlt) (partB_some hpb h3 hlv) hk
 ·rename_i hu
  injection hf with hf
  subst hf
  simp only[rdK_eq]at hk
  obtain⟨k,m,h1,hk⟩:=asN_some hk
  split at hk
  ·rename_i s hv
   obtain⟨c,hc,hk⟩:=ob_some hk
   rw[mkI_eq]at hk
   rw[hv]at hrx
   rw[h1]at hri
   refine⟨_,hk,_,?_,(.i _ _)⟩
   have hc':s[m]?=some c:=by
    have hlt:m<s.data.size:=(Array.getElem?_eq_some_iff.1 hc).1
    have hv2:=(Array.getElem?_eq_some_iff.1 hc).2
    rw[getElem?_pos s m hlt]
    exact congrArg some hv2
   have h0:(0:Int)≤Int.ofNat m:=Int.natCast_nonneg m
   simp only[execOp,ho,hri.of_i,hrx.of_s,Instr.index,asIntOf,Sem.run_bind,run_und hu,Result.andThen_ok,Sem.run_pure,h0,if_true]
   rw[show(Int.ofNat m).toNat=m from rfl,hc']
   rfl
  ·cases hk
 ·cases hf
theorem convert_ok {s d:TypeId} {x:Operand} {k' k:IntKind} {rx:Rd} {C:CallF} (hx:rdB x=some rx) (hs:P.underlying s=some (.int k')) (hd:P.underlying d=some (.int k)) :
  OpQ P C (.convert s d x) ⟨fun _ t h K=>rdK t rx fun x=>asI x fun _ n=>mkI k (k.wrap n) fun v=>K v h⟩:=by
 intro o ho A h w N t a K q hm ht hk
 have hrx:=rd_rel ht hx
 simp only[rdK_eq]at hk
 obtain⟨j,n,hv,hk⟩:=asI_some hk
 rw[mkI_eq]at hk
 rw[hv]at hrx
 refine⟨_,hk,_,?_,(.i _ _)⟩
 simp[execOp,ho,hrx.of_i,convert,run_und hs,run_und hd,Conv.intToInt]
theorem bytesK_eq {β:Type}:∀(l:List UInt8) (K:List V→Option β),bytesK l K=K (l.map fun c=>.i .u8 (.ofNat c.toNat))
 | [],_=>rfl
 | c :: l,K=>by
  show fN c.toNat (fun n=>bytesK l fun l=>K (.i .u8 (.ofNat n) :: l))=_
  rw[fN_eq,bytesK_eq l]
  rfl
theorem bytesOf_ok {s d e:TypeId} {x:Operand} {rx:Rd} {f:Fx} {C:CallF} (hx:rdB x=some rx) (hs:P.underlying s=some .string) (hd:P.underlying d=some (.slice e)) (hf:bytesOfB P e rx=some f):OpOk P C (.convert s d x) f:=by
 unfold bytesOfB at hf
 split at hf
 ·rename_i he
  injection hf with hf
  subst hf
  intro o ho A h w N t a K q hm ht hk
  have hrx:=rd_rel ht hx
  simp only[rdK_eq]at hk
  split at hk
  ·rename_i sx hv
   rw[hv]at hrx
   have h1:=hrx.of_s
   rw[bytesK_eq,Tr.putL_eq,fN_eq,List.length_map]at hk
   have hk:=newO_some hk
   have hlen:sx.data.toList.length=sx.size:=Array.length_toList
   rw[hlen]at hk
   have hrun:=run_bytes_of_string (P:=P) w s d e sx hs hd he
   have hge:=grownCap_ge w sx.size 0 e
   have hmd:Mt A h w.drew:=hm.same rfl
   have hdr:Ev A h w A h w.drew:=Ev.same hm rfl rfl rfl rfl
   have hrow:ORel A h.next w.heap.size (grownCap w sx.size 0 e,0) (.ro none e sx.size (Tr.putsL (sx.data.toList.map fun c=>V.i .u8 (.ofNat c.toNat)) .e 0))
     (.cells (bytesRow sx (grownCap w sx.size 0 e)) e ((bytesRow sx (grownCap w sx.size 0 e)).size,(bytesRow sx (grownCap w sx.size 0 e)).size+1)):=by
    refine⟨(fun g hg=>by cases hg),_,_,_,rfl,weak_of fun j hj=>?_⟩
    have hj':j<sx.data.size:=hj
    have hg:(sx.data.toList.map fun c=>V.i .u8 (.ofNat c.toNat))[j]?=some (.i .u8 (.ofNat sx.data[j].toNat)):=by
     simp
     exact⟨_,Array.getElem?_eq_getElem hj',rfl⟩
    rw[Nat.zero_add]
    refine⟨_,_,?_,bytesRow_at sx _ j hj',.i _ _,rfl⟩
    rw[Tr.get_putsL,if_pos ⟨Nat.zero_le _,by rw[List.length_map,hlen];omega⟩]
    exact hg
   have hnew:=Ev.new hmd hrow
   refine⟨_,_,hk,.value (x:=.slice (some ⟨w.heap.size,0,none⟩) sx.size (grownCap w sx.size 0 e)) ?_ ⟨_,hdr.trans hnew,?_⟩⟩
   ·simp only[execOp,ho,h1,Sem.run_bind,hrun,Result.andThen_ok,Sem.run_pure]
   ·have hs1:(A.ext h.next w.drew.heap.size (grownCap w sx.size 0 e,0)).ι h.next=w.heap.size:=by simp[Sub.ext]
    have hs2:(A.ext h.next w.drew.heap.size (grownCap w sx.size 0 e,0)).κ h.next=(grownCap w sx.size 0 e,0):=by simp[Sub.ext]
    rw[←hs1]
    exact .slu _ _ _ _ _ _ _ (Nat.lt_succ_self _) (Nat.le_refl _) hge (by rw[hs2];show 0+0+_*1=_;simp) (.inl (by rw[hs2]))
  ·cases hk
 ·cases hf
theorem freeze_at {n m:Nat} {cs:Array Value} {e:TypeId} (hb:w.heap[n]?=some (.cells cs e (0,0))):(w.freeze ⟨n,m,none⟩ 1).heap[n]?=some (.cells cs e (m,m+1))∧(∀k,k≠n→(w.freeze ⟨n,m,none⟩ 1).heap[k]?=w.heap[k]?)∧(w.freeze ⟨n,m,none⟩ 1).heap.size=w.heap.size ∧
  (w.freeze ⟨n,m,none⟩ 1).os=w.os∧(w.freeze ⟨n,m,none⟩ 1).tape=w.tape∧(w.freeze ⟨n,m,none⟩ 1).output=w.output:=by
 unfold World.freeze
 rw[if_neg (by decide)]
 refine⟨?_,fun k hk=>?_,by simp,rfl,rfl,rfl⟩
 ·simp only[Array.getElem?_modify,hb]
  simp
 ·simp only[Array.getElem?_modify]
  rw[if_neg (Ne.symm hk)]
theorem mark_ok {s d e e':TypeId} {x:Operand} {rx:Rd} {f:Fx} {C:CallF} (hx:rdB x=some rx) (hs:P.underlying s=some (.slice e')) (hd:P.underlying d=some (.slice e)) (hsd:s=d) (hf:markB P e rx=some f):OpOk P C (.convert s d x) f:=by
 unfold markB at hf
 split at hf
 ·rename_i he
  injection hf with hf
  subst hf
  intro o ho A h w N t a K q hm ht hk
  have hrx:=rd_rel ht hx
  simp only[rdK_eq]at hk
  split at hk
  ·rename_i b o' n cp kn z hv
   rw[hv]at hrx
   obtain⟨c,ad,h1,_,_,_,hoff⟩:=hrx.of_sl
   obtain⟨hn0,hk⟩:=bb_some hk
   have hn0:0<n:=Nat.le_of_ble_eq_true hn0
   obtain rfl:ad=⟨A.ι b,(A.κ b).2+o',none⟩:=by rcases hoff with h | h <;> first | exact h | omega
   obtain⟨e2,hi,p,ct,hb,hk⟩:=rowK_some hk
   rw[Tr.put_set]at hk
   obtain⟨cs,h3,_,h4,_⟩:=hm.row hb
   obtain⟨g1,g2,g3,g4,g5,g6⟩:=freeze_at (m:=cs.size) h3
   have hev:=Ev.upd (O':=.ro none e2 hi ct) hm hb rfl ⟨(fun g hg=>by cases hg),cs,_,_,rfl,weak_of h4⟩ g1 g2 g3 g4 g5 g6
   have hsh:w.shape? (A.ι b)=some (e2,cs.size):=by unfold World.shape?;rw[h3]
   refine⟨_,_,hk,.value (x:=a.eval x) (w':=w.freeze ⟨A.ι b,cs.size,none⟩ 1) ?_ ⟨A,hev,hrx⟩⟩
   subst hsd
   rw[hs]at hd
   injection hd with hd
   injection hd with hd
   subst hd
   simp[execOp,ho,h1,convert,run_und hs,run_und he,markStringish,hsh]
  ·cases hk
 ·cases hf
theorem tab_ok {ty:TypeId} {g:Nat} {i:Operand} {ri:Rd} {f:Fx} {C:CallF} (hi:rdB i=some ri) (hf:tabB P ty g ri=some f):OpQ P C (.indexAddr ty (.global g) i) f:=by
 intro o ho A h w N t a K q hm ht hk
 have hri:=rd_rel ht hi
 unfold tabB at hf
 split at hf
 ·rename_i len e hu
  obtain⟨sz,hsz,hf⟩:=ob_some hf
  injection hf with hf
  subst hf
  simp only[rdK_eq]at hk
  obtain⟨k,m,h1,hk⟩:=asN_some hk
  obtain⟨O,hO,hk⟩:=ob_some hk
  split at hk
  ·rename_i g' e2 hi2 c
   obtain⟨hg,hk⟩:=bb_some hk
   obtain⟨hlt,hk⟩:=bb_some hk
   rw[fN_eq]at hk
   rw[h1]at hri
   have h4:=hri.of_i
   have hlt:m<len:=Nat.le_of_ble_eq_true hlt
   obtain⟨x,_,hp,_⟩:=hm.obj g _ hO
   have hι:A.ι g=g:=(hp g' rfl).1.trans (Nat.eq_of_beq_eq_true hg).symm
   have hκ:(A.κ g).2=0:=(hp g' rfl).2
   have hr:Rel A h.next (.p g (Nat.mul m sz)) (.pointer (some ⟨g,m*sz,none⟩)):=by
    have:=Rel.p (A:=A) (n:=h.next) g (Nat.mul m sz) (hm.lt g _ hO)
    rw[hι,hκ,Nat.zero_add]at this
    exact this
   refine⟨_,hk,_,?_,hr⟩
   have h2:a.eval (.global g)=.pointer (some ⟨g,0,none⟩):=rfl
   simp only[execOp,ho,h2,h4,Instr.indexAt,asIntOf,Sem.run_bind,run_und hu,Result.andThen_ok,Sem.run_pure,Instr.sureAddr]
   have hb:(0:Int)≤Int.ofNat m∧Int.ofNat m<(len:Int):=⟨Int.natCast_nonneg m,by exact Int.ofNat_lt.2 hlt⟩
   simp only[hb,and_self,if_true,Sem.run_bind,run_size hsz,Result.andThen_ok,Sem.run_pure]
   rw[add_lit,Nat.zero_add]
   rfl
  ·cases hk
 ·cases hf
theorem strK_some {β:Type} {n:Nat}:∀(l:List V) (ys:List Value) (K:List UInt8→Option β) (r:β),RelL A n l ys→strK l K=some r→∃ns:List Int,ys=ns.map (Value.int .u8)∧K (ns.map fun n=>UInt8.ofNat n.toNat)=some r
 | [],ys,K,r,hl,h=>by
  cases hl
  exact⟨[],rfl,h⟩
 | v :: l,ys,K,r,hl,h=>by
  cases hl with
  | cons _ x _ xs hx hl =>
   have h:(match (motive:=V→Option β) v with
    | .i .u8 (.ofNat n)=>strK l fun l=>K (UInt8.ofNat n :: l)
    | _=>none)=some r:=h
   split at h
   ·rename_i m _
    obtain⟨ns,h1,h2⟩:=strK_some l xs _ r hl h
    refine⟨.ofNat m :: ns,?_,h2⟩
    rw[hx.of_i,h1]
    rfl
   ·cases h
theorem foldl_bytes:∀(ns:List Int) (r:ByteArray),ns.foldl (fun r n=>r.push (UInt8.ofNat n.toNat)) r=⟨r.data++(ns.map fun n=>UInt8.ofNat n.toNat).toArray⟩
 | [],r=>by simp
 | n :: ns,r=>by
  simp only[List.foldl_cons]
  rw[foldl_bytes ns]
  simp[ByteArray.push]
theorem strOf_ok {s d e:TypeId} {x:Operand} {rx:Rd} {f:Fx} {C:CallF} (hx:rdB x=some rx) (hs:P.underlying s=some (.slice e)) (hd:P.underlying d=some .string) (hf:strOfB P e rx=some f):OpQ P C (.convert s d x) f:=by
 unfold strOfB at hf
 split at hf
 ·rename_i he
  injection hf with hf
  subst hf
  intro o ho A h w N t a K q hm ht hk
  have hrx:=rd_rel ht hx
  simp only[rdK_eq]at hk
  split at hk
  ·rename_i hv
   rw[hv]at hrx
   have h1:=hrx.of_ns
   refine⟨_,hk,_,?_,.s _⟩
   simp only[execOp,ho,h1,Sem.run_bind,run_convert_bytes_string w s d e none 0 0 hs he hd,Conv.bytesToString,Result.andThen_ok,Sem.run_pure]
  ·rename_i b o' n cp kn sz hv
   rw[hv]at hrx
   obtain⟨c,ad,h1,h2,_,_,hoff⟩:=hrx.of_sl
   obtain⟨l,ys,h3,h4,_,h5,hk⟩:=loadRow_some hm hk
   have h5:∀(j:Nat) (y:Value),ys[j]?=some y→w.cell? (ad.add j)=some y:=fun j y hy=>by
    rcases hoff with rfl | ⟨rfl,_⟩
    ·exact h5 j y hy
    ·have:=(List.getElem?_eq_some_iff.1 hy).1
     omega
   obtain⟨ns,h6,hk⟩:=strK_some l ys _ _ h3 hk
   have hl:=run_loadCells_list (P:=P) (w:=w) ad ys h5
   rw[h4,h6]at hl
   have hb:=run_bytesToString (P:=P) w ad n c ns hl
   rw[foldl_bytes]at hb
   have h0:ByteArray.empty.data=#[]:=rfl
   rw[h0,Array.empty_append]at hb
   refine⟨_,hk,_,?_,.s _⟩
   simp only[execOp,ho,h1,Sem.run_bind,run_convert_bytes_string w s d e _ n c hs he hd,hb,Result.andThen_ok,Sem.run_pure]
  ·cases hk
 ·cases hf
theorem makeInterface_ok {ty e:TypeId} {x:Operand} {rx:Rd} {C:CallF} (hx:rdB x=some rx) (hu:P.underlying ty=some (.pointer e)):OpQ P C (.makeInterface ty x) ⟨fun _ t h K=>rdK t rx fun v=>K (.iface ty v) h⟩:=by
 intro o ho A h w N t a K q hm ht hk
 have hrx:=rd_rel ht hx
 simp only[rdK_eq]at hk
 refine⟨_,hk,_,?_,(.iface _ _ _ hrx)⟩
 simp[execOp,ho,Instr.makeInterface,run_und hu]
theorem rdL_n (t:Tr V):rdL t []=some []:=rfl
theorem rdL_c (t:Tr V) (r:Rd) (l:List Rd):rdL t (r :: l)=rdK t r fun v=>ob (rdL t l) fun l=>some (v :: l):=rfl
theorem rdL_some {n N:Nat} {t:Tr V} {a:Act} (ht:TRel A n N t a.tmps):∀(xs:List Operand) (rs:List Rd) (vs:List V),mapO rdB xs=some rs→rdL t rs=some vs→RelL A n vs (xs.map a.eval)
 | [],rs,vs,h1,h2=>by
  rw[mapO_nil h1,rdL_n]at h2
  injection h2 with h2
  subst h2
  exact .nil
 | x :: xs,rs,vs,h1,h2=>by
  obtain⟨r,q,h3,h4,rfl⟩:=mapO_cons h1
  rw[rdL_c,rdK_eq]at h2
  obtain⟨l,hl,h2⟩:=ob_some h2
  injection h2 with h2
  subst h2
  exact .cons _ _ _ _ (rd_rel ht h3) (rdL_some ht xs q l h4 hl)
theorem makeFunc_ok {f:Fn} {x y:Array Operand} {rx ry:List Rd} {C:CallF} (hx:mapO rdB x.toList=some rx) (hy:mapO rdB y.toList=some ry):OpQ P C (.makeFunc f x y) ⟨fun _ t h K=>ob (rdL t rx) fun a=>ob (rdL t ry) fun b=>K (.fn f a b) h⟩:=by
 intro o ho A h w N t a K q hm ht hk
 obtain⟨l,hl,hk⟩:=ob_some hk
 obtain⟨r,hr,hk⟩:=ob_some hk
 refine⟨_,hk,.func f (x.map a.eval) (y.map a.eval),?_,(.fn _ _ _ _ _ ?_ ?_)⟩
 ·simp[execOp,ho,Instr.makeFunc]
 ·rw[Array.toList_map];exact rdL_some ht _ _ _ hx hl
 ·rw[Array.toList_map];exact rdL_some ht _ _ _ hy hr
theorem typeAssert_ok {ty xt e:TypeId} {x:Operand} {ok:Bool} {rx:Rd} {z:V} {C:CallF} (hx:rdB x=some rx) (hz:zeroB P ty=some z) (hu:P.underlying ty=some (.pointer e)) :
  OpQ P C (.typeAssert x xt ty ok) ⟨fun _ t h K=>rdK t rx fun x=>match x with
   | .iface tt v=>br (Nat.beq tt ty) (br ok (K (.tup [v,.b true]) h) (K v h)) (bb ok (K (.tup [z,.b false]) h))
   | _=>none⟩:=by
 intro o ho A h w N t a K q hm ht hk
 have hrx:=rd_rel ht hx
 simp only[rdK_eq]at hk
 split at hk
 ·rename_i tt v hv
  rw[hv]at hrx
  obtain⟨y,h1,h2⟩:=hrx.of_iface
  rw[br_beq]at hk
  by_cases htt:tt=ty
  ·rw[if_pos htt]at hk
   cases ok with
   | true =>
    refine⟨_,hk,.tuple #[y,.bool true],?_,(.tup _ _ (.cons _ _ _ _ h2 (.cons _ _ _ _ (.b _) .nil)))⟩
    simp[execOp,ho,h1,Instr.typeAssert,run_und hu,htt]
   | false =>
    refine⟨_,hk,y,?_,h2⟩
    simp[execOp,ho,h1,Instr.typeAssert,run_und hu,htt]
  ·rw[if_neg htt]at hk
   obtain⟨hok,hk⟩:=bb_some hk
   subst hok
   obtain⟨zx,h3,h4⟩:=run_zero (w:=w) hz
   refine⟨_,hk,.tuple #[zx,.bool false],?_,(.tup _ _ (.cons _ _ _ _ (ofVal_rel h4) (.cons _ _ _ _ (.b _) .nil)))⟩
   simp[execOp,ho,h1,Instr.typeAssert,run_und hu,htt,h3]
 ·cases hk
end
end Go.Proofs.YtkcdehffcddciaaGreatDoor.Vm
