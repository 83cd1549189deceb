/- A play: how it begins and ends; one cell of a row is stored. -/
import Derived.Test.YtkcdehffcddciaaGreatDoorQ25
import Derived.Test.YtkcdehffcddciaaGreatDoorQ24
namespace Go.Proofs.YtkcdehffcddciaaGreatDoor.Vm
open Go Go.RowKit
def valE (g:Gr) (F:List Int) (r:Nat):Ev_:=if (gt g.ev r).kind=1 then { gt g.ev r with val:=(gt g.ev (gt F r).toNat).val }else gt g.ev r
def evsA (g:Gr) (F:List Int) (n:Nat):List Ev_:=(List.range g.ev.length).map fun r=>if r<n then valE g F r else gt g.ev r
def rfsA (g:Gr) (F:List Int) (n:Nat):List (Int × Int):=((List.range n).filter fun r=>decide ((gt g.ev r).kind=1)).map fun r=>(gt F r,(r:Int))
section
variable {g:Gr} {F:List Int} {n:Nat}
theorem evsA_len:(evsA g F n).length=g.ev.length:=by unfold evsA;rw[List.length_map,List.length_range]
theorem gt_mapR {α:Type} [Inhabited α] {f:Nat→α} {n i:Nat} (h:i<n):gt ((List.range n).map f) i=f i:=by
 rw[gt_lt (by rw[List.length_map,List.length_range];exact h),List.getElem_map,List.getElem_range]
theorem evsA_gt {i:Nat} (h:i<g.ev.length):gt (evsA g F n) i=if i<n then valE g F i else gt g.ev i:=gt_mapR h
theorem evsA_0:evsA g F 0=g.ev:=gt_ext evsA_len fun i hi=>by
 rw[evsA_len]at hi
 rw[evsA_gt hi,if_neg (Nat.not_lt_zero _)]
theorem evsA_s (h:n<g.ev.length):evsA g F (n+1)=(evsA g F n).set n (valE g F n):=gt_ext (by rw[List.length_set,evsA_len,evsA_len]) fun i hi=>by
 rw[evsA_len]at hi
 rw[evsA_gt hi,gt_set (by rw[evsA_len];exact h),evsA_gt hi]
 by_cases e:i=n
 ·rw[if_pos e,e,if_pos (Nat.lt_succ_self _)]
 ·rw[if_neg e]
  by_cases e2:i<n
  ·rw[if_pos e2,if_pos (by omega)]
  ·rw[if_neg e2,if_neg (by omega)]
theorem evsA_n (h:n<g.ev.length) (hk:(gt g.ev n).kind≠1):evsA g F (n+1)=evsA g F n:=by
 rw[evsA_s h]
 have:gt (evsA g F n) n=valE g F n:=by
  rw[evsA_gt h,if_neg (Nat.lt_irrefl _)]
  unfold valE
  rw[if_neg hk]
 rw[←this]
 exact set_gt (by rw[evsA_len];exact h)
theorem rfsA_y (hk:(gt g.ev n).kind=1):rfsA g F (n+1)=rfsA g F n++[(gt F n,(n:Int))]:=by
 unfold rfsA
 rw[List.range_succ,List.filter_append,List.map_append]
 simp[hk]
theorem rfsA_n (hk:(gt g.ev n).kind≠1):rfsA g F (n+1)=rfsA g F n:=by
 unfold rfsA
 rw[List.range_succ,List.filter_append,List.map_append]
 simp[hk]
theorem rfsA_len:(rfsA g F n).length≤n:=by
 unfold rfsA
 rw[List.length_map]
 have:=List.length_filter_le (fun r=>decide ((gt g.ev r).kind=1)) (List.range n)
 simpa using this
theorem playG_eq {O:List (List Int)}:playG g O F = { g with ev:=evsA g F g.ev.length,rf:=rfsA g F g.ev.length,co:=O }:=by
 have:evsA g F g.ev.length=(List.range g.ev.length).map fun r=>valE g F r:=gt_ext (by rw[evsA_len,List.length_map,List.length_range]) fun i hi=>by
  rw[evsA_len]at hi
  rw[evsA_gt hi,if_pos hi,gt_mapR hi]
 rw[this]
 rfl
end
/-! ### How it begins -/
def begT (g:Gr) (n:Nat):List (List Int):=(List.range n).map fun t:Nat=>threadL g.ev (t:Int) g.ev.length
def begO (c:Nat):List (List Int):=(List.range c).map fun c:Nat=>[(c:Int)]
def begP (g:Gr) (n:Nat):Ps:=⟨.pk 0,begT g n,List.replicate n [],begO g.cells.toNat,List.replicate g.ev.length 0⟩
theorem lenT_app (a b:List (List Int)):lenT (a++b)=lenT a+lenT b:=by
 unfold lenT
 rw[List.map_append,List.sum_append]
theorem lenT_range (f:Nat→List Int) (m:Nat) (hf:∀i,(f i).length≤m):∀n,lenT ((List.range n).map f)≤n*m
 | 0=>by simp[lenT]
 | n+1=>by
  have h1:=lenT_range f m hf n
  rw[List.range_succ,List.map_append,lenT_app]
  have h2:lenT (List.map f [n])=(f n).length:=by simp[lenT]
  have:=hf n
  rw[h2,Nat.add_mul]
  omega
theorem lenT_nil (n:Nat):lenT (List.replicate n [])=0:=by
 induction n with
 | zero=>rfl
 | succ n ih =>
  rw[List.replicate_succ]
  show 0+lenT (List.replicate n [])=0
  omega
theorem gt_rep {α:Type} [Inhabited α] {x:α} {n i:Nat} (h:i<n):gt (List.replicate n x) i=x:=by
 rw[gt_lt (by rw[List.length_replicate];exact h),List.getElem_replicate]
theorem Gp.beg {g : Gr} {b : Bool} (hw : WF g b) {n : Nat} (hn : n ≤ 64) : Gp g n (begT g n) (List.replicate n []) (begO g.cells.toNat) (List.replicate g.ev.length 0) := by
  obtain ⟨h1, h2, h3, h4⟩ := hw.size
  exact
  { tl := by unfold begT; rw [List.length_map, List.length_range]
    ql := List.length_replicate
    ol := by unfold begO; rw [List.length_map, List.length_range]; omega
    fl := List.length_replicate
    t := fun t ht => ⟨0, by unfold begT; rw [gt_mapR ht, List.drop_zero]⟩
    q := fun t ht x hx => by rw [gt_rep ht] at hx; cases hx
    o := fun c hc => by
      unfold begO at hc ⊢
      rw [List.length_map, List.length_range] at hc
      rw [gt_mapR hc]
      refine ⟨Nat.zero_lt_one, fun x hx => ?_⟩
      rw [List.mem_singleton.1 hx]
      have h5 := hw.init c (by omega)
      refine ⟨Int.natCast_nonneg _, by omega, ?_⟩
      rw [Int.toNat_natCast, h5]
      exact ⟨rfl, by show (0 : Int) ≤ c; omega, by show (c : Int) < g.cells; omega⟩
    f := fun x hx => by
      rw [List.length_replicate] at hx
      rw [gt_rep hx]
      exact ⟨Int.le_refl _, by omega⟩
    sz := by
      have h5 := lenT_range (fun t : Nat => threadL g.ev (t : Int) g.ev.length) 256 (fun t => Nat.le_trans (threadL_len _ _ _) (by omega)) n
      have h6 := lenT_range (fun c : Nat => [(c : Int)]) 1 (fun _ => Nat.le_refl _) g.cells.toNat
      have h7 : lenT (begT g n) ≤ n * 256 := h5
      have h8 : lenT (begO g.cells.toNat) ≤ g.cells.toNat * 1 := h6
      rw [lenT_nil]
      omega }
def zeroG:Gr:=⟨0,[],[],[],[],[],[],[]⟩
def PlayR (g:Gr) (ps:List Int) (w:Gr) (code:Int):Prop:=(¬(WF g false∨WF g true)∧w=zeroG∧code=4)∨((WF g false∨WF g true)∧code=0∧∃n:Nat,thrN g.ev g.ev.length=n∧∃s,RunP g ps n (begP g n) s∧w=playG g s.O s.F)
theorem wf_size {g:Gr} (hw:WF g false∨WF g true):0≤g.cells∧g.cells≤g.ev.length∧g.ev.length≤256∧∀i,i<g.ev.length→(gt g.ev i).thread<64:=by
 rcases hw with hw | hw
 all_goals
  obtain⟨h1,h2,h3,h4⟩:=hw.size
  refine⟨h1,h3,h4,fun i hi=>?_⟩
  by_cases h5:(i:Int)<g.cells
  ·rw[hw.init i h5];show(-1:Int)<64;omega
  ·exact(hw.ev i (by omega) hi).2.1
/-! ### Memory -/
section
variable {α:Type} [Inhabited α] {h h':H} {v:V} {sz n0:Nat} {ty:TypeId} {c:α→Nat→V} {l:List α}
theorem Ar.ne {β:Type} [Inhabited β] {v':V} {sz' n0':Nat} {ty':TypeId} {c':β→Nat→V} {l':List β} (hg:Ar h n0 v sz ty c l) (hg':Gw h n0' v' sz' ty' c' l') (ht:ty≠ty'):v'.blk≠some v.ba:=fun hk'=>by
 obtain⟨b,p,rfl,h1,h2,h3⟩:=hg.own
 rcases hg'.own with⟨rfl,_⟩ | ⟨b',o',rfl,h1',h2',h3'⟩
 ·cases hk'
 ·injection hk' with hk'
  subst hk'
  have h3:h.row b'=some (ty,l.length*sz,p):=h3
  have h3':h.row b'=some (ty',o'+l'.length*sz',true):=h3'
  rw[h3]at h3'
  injection h3' with h3'
  injection h3' with h4
  exact ht h4
theorem Gw.st1 {i k:Nat} {w:V} {x':α} (hg:Gw h n0 v sz ty c l) (hi:i<l.length) (hk:k<sz) (hx:∀j,j<sz→c x' j=if j=k then w else c (gt l i) j):Gw (h.st v.ba (v.of+i*sz+k) [w]) n0 v sz ty c (l.set i x')∧Mo h (h.st v.ba (v.of+i*sz+k) [w]) v.blk∧∃hi p,h.row v.ba=some (ty,hi,p)∧v.of+i*sz+k+1≤hi:=by
 rcases hg.own with⟨_,rfl⟩ | ⟨b,o,rfl,h1,h2,h3⟩
 ·exact absurd hi (Nat.not_lt_zero _)
 have hle:o+i*sz+k+1≤o+l.length*sz:=by
  have:(i+1)*sz≤l.length*sz:=Nat.mul_le_mul_right _ hi
  rw[Nat.add_mul]at this
  omega
 refine⟨⟨by rw[List.length_set];exact hg.ln,⟨fun j m hj hm=>⟨?_⟩⟩,.inr ⟨b,o,by rw[List.length_set],h1,by rw[st_next];exact h2,by rw[List.length_set];exact(st_row).trans h3⟩⟩,⟨Nat.le_of_eq st_next.symm,fun j _ hne=>st_other fun e=>hne (congrArg some e.symm),wf_st⟩,_,_,h3,hle⟩
 rw[List.length_set]at hj
 show(h.st b (o+i*sz+k) [w]).cell b (o+j*sz+m)=some (c (gt (l.set i x') j) m)
 rw[st_cell h3 (by exact hle),gt_set hi]
 have hcell:h.cell b (o+j*sz+m)=some (c (gt l j) m):=(hg.cs.eq j m hj hm).eq
 by_cases e:j=i
 ·subst e
  rw[if_pos rfl,hx m hm]
  by_cases e2:m=k
  ·subst e2
   rw[if_pos ⟨Nat.le_refl _,by simp⟩,if_pos rfl,Nat.sub_self]
   rfl
  ·rw[if_neg (by simp only[List.length_singleton];omega),if_neg e2]
   exact hcell
 ·rw[if_neg e,if_neg]
  ·exact hcell
  ·simp only[List.length_singleton]
   intro hh
   rcases Nat.lt_or_gt_of_ne e with h5 | h5
   ·have:(j+1)*sz≤i*sz:=Nat.mul_le_mul_right _ h5
    rw[Nat.add_mul]at this
    omega
   ·have:(i+1)*sz≤j*sz:=Nat.mul_le_mul_right _ h5
    rw[Nat.add_mul]at this
    omega
theorem cells_one5 {v:V} (h:v.one=true):v.cells = [v]:=by
 cases v <;> first | rfl | cases h
theorem ew_gw1 {C:Cx} {us:List Nat} {ll:List So} {e:Env} {Q:Env→H→Prop} {a xr:Rd} {i k:Nat} {w:V} (x':α) (hg:Gw h n0 v sz ty c l) (hi:i<l.length) (hk:k<sz) (hx:∀j,j<sz→c x' j=if j=k then w else c (gt l i) j) (ho:w.one=true) (hr:∀h1,Gw h1 n0 v sz ty c (l.set i x')→Mo h h1 v.blk→Ew C ll e h1 Q)
  (ha:a.lk e=some (.p v.ba (v.of+i*sz+k)):=by exact rfl) (hw:xr.lk e=some w:=by exact rfl):Ew C (⟨none,none,.st a xr 1,us⟩ :: ll) e h Q:=by
 obtain⟨h1,h2,hi',p,h3,h4⟩:=hg.st1 hi hk hx
 have h5:allOne [w]=true:=allOne_cons ho rfl
 exact ew_u .n (od_st ha hw (cells_one5 ho) rfl h5 h3 h4) (hr _ h1 h2)
end
theorem em_stL {C:Cx} {j n0 b k n:Nat} {ty:TypeId} {us:List Nat} {lm:List (So × Kd)} {e:Env} {hs h:H} {v:V} {x a:Rd} {Q:Env→H→Prop} {ls vs:List V} {st:List (Option Nat × H)} {ps:List Pd} (ho:Ob h n0 b ty ls) (hr:∀h1,Ob h1 n0 b ty (ls.take k++(vs++ls.drop (k+vs.length)))→Mo h h1 (some b)→Em C lm (j+1) e h1 h1 ((some j,h1) :: st) ps Q) (hl:∀h1,Mo h h1 (some b)→Lv j h1.t ps) (h1:allOne vs=true) (ha:a.lk e=some (.p b k):=by exact rfl) (hx:x.lk e=some v:=by exact rfl) (hv:v.cells=vs:=by exact rfl) (hn:vs.length=n:=by exact rfl) (hle:Nat.ble (k+n) ls.length=true:=by exact rfl):Em C ((⟨none,none,.st a x n,us⟩,.e) :: lm) j e hs h st ps Q:=by
 obtain⟨p,hp⟩:=ho.row
 have hle2:k+vs.length≤ls.length:=by rw[hn];exact Nat.le_of_ble_eq_true hle
 have h3:=st_ob ho hle2
 exact em_eu .n (od_st ha hx hv hn h1 hp (by rw[←hn];exact hle2)) (hl _ h3.2) (hr _ h3.1 h3.2)
theorem Li.gx {h:H} {n0:Nat} {v:V} {x:Int} (hl:Li h n0 v x):Gx h n0 v 1 3 icell [x]:=by
 obtain⟨⟨b,rfl,h1,h2⟩,h3⟩:=hl
 exact⟨h3.ln,h3.cs,.inr (.inr ⟨b,rfl,Nat.zero_lt_one,h1,h2⟩)⟩
theorem Li.cell {h:H} {n0:Nat} {v:V} {x:Int} (hl:Li h n0 v x) {k:Nat} (hk:v.blk=some k):h.cell k 0=some (.i .i64 x)∧n0≤k:=by
 obtain⟨⟨b,rfl,h1,h2⟩,h3⟩:=hl
 injection hk with hk
 subst hk
 exact⟨(h3.cs.eq 0 0 Nat.zero_lt_one Nat.zero_lt_one).eq,h1⟩
theorem Mac.new {h : H} {n0 n c : Nat} {vq vo : V} {ws : List V} (hq : Ar h n0 vq 1 27 vcell (List.replicate n V.ns)) (ho : Ar h n0 vo 1 27 vcell ws) (hne : vq.ba ≠ vo.ba) (hl : ws.length = c) (hr : ∀ i, i < c → Li h n0 (gt ws i) i) : Mac h n0 (fun k => n0 ≤ k) vq vo 27 27 1 3 icell (List.replicate n []) (begO c) (List.replicate n V.ns) ws := by
  have hol : (begO c).length = c := by unfold begO; rw [List.length_map, List.length_range]
  have hns : ∀ t, t < (List.replicate n ([] : List Int)).length → gt (List.replicate n V.ns) t = V.ns := fun t ht => by
    rw [List.length_replicate] at ht
    exact gt_rep ht
  have hqc : ∀ x : Int, h.cell vq.ba 0 ≠ some (.i .i64 x) := fun x e => by
    obtain ⟨b, p, hb, h1, h2, h3⟩ := hq.own
    cases n with
    | zero =>
      rw [hb] at e
      have := cell_hi h3 (o := 0) (Nat.le_of_eq rfl)
      rw [show (V.sl b 0 (List.replicate 0 V.ns).length (List.replicate 0 V.ns).length true 1).ba = b from rfl, this] at e
      cases e
    | succ n =>
      have h4 := (hq.cs.eq 0 0 (by rw [List.length_replicate]; omega) Nat.zero_lt_one).eq
      rw [hb] at h4 e
      have h4 : h.cell b 0 = some (gt (List.replicate (n + 1) V.ns) 0) := h4
      have e : h.cell b 0 = some (.i .i64 x) := e
      rw [h4, gt_rep (Nat.zero_lt_succ _)] at e
      cases e
  have hoc : 0 < c → ∀ x : Int, h.cell vo.ba 0 ≠ some (.i .i64 x) := fun h0 x e => by
    obtain ⟨b, p, hb, h1, h2, h3⟩ := ho.own
    have h4 := (ho.cs.eq 0 0 (by omega) Nat.zero_lt_one).eq
    rw [hb] at h4 e
    have h4 : h.cell b 0 = some (gt ws 0) := h4
    have e : h.cell b 0 = some (.i .i64 x) := e
    obtain ⟨⟨b', h5, _⟩, _⟩ := hr 0 h0
    rw [h4, h5] at e
    cases e
  exact
  { q := hq
    o := ho
    ql := by rw [List.length_replicate, List.length_replicate]
    ol := by rw [hl, hol]
    qr := fun t ht => by
      rw [hns t ht]
      rw [List.length_replicate] at ht
      rw [gt_rep ht]
      exact .nil
    or_ := fun x hx => by
      rw [hol] at hx
      have : gt (begO c) x = [(x : Int)] := gt_mapR hx
      rw [this]
      exact (hr x hx).gx
    hd := hne
    qa := fun t ht k hk => by rw [hns t ht] at hk; cases hk
    oa := fun x hx k hk => by
      rw [hol] at hx
      obtain ⟨h1, h2⟩ := (hr x hx).cell hk
      exact ⟨fun e => hqc x (by rw [← e]; exact h1), fun e => hoc (by omega) x (by rw [← e]; exact h1), h2⟩
    qq := fun s t hs ht hne k hk => by rw [hns s hs] at hk; cases hk
    oo := fun s t hs ht hne k hk hk' => by
      rw [hol] at hs ht
      have h1 := ((hr s hs).cell hk).1
      have h2 := ((hr t ht).cell hk').1
      rw [h1] at h2
      injection h2 with h2
      injection h2 with _ h2
      omega
    qo := fun s t hs ht k hk => by rw [hns s hs] at hk; cases hk
    pq := hq.blk.2.1
    po := ho.blk.2.1 }
def s107 : Sc:=(.seq (.region [Y 2 (.mv (.c .np)) []]) (.seq (.region [Y 5 (.mv (.t 0)) [0],
 Y 6 (.mn (.t 5) [.c (.i .i64 256)]) [5],Y 7 (.mx (.c (.i .i64 0)) [.t 6]) [6],Y 0 (.mv (.t 7)) [7]])
  (.seq (.region [Y 8 (.mv (.t 0)) [0],Y 9 (.mv (.t 0)) [0],Y 10 (.ms 296 1 24 [.ns] (.t 9) (.t 9)) [9,9],
 Y 11 (.bd [.i .i64 0,.ns] [(0,1,.t 8),(1,1,.t 10)]) [8,10],Y 12 (.bx 295 (.t 11)) [11],
 Y 3 (.mv (.t 12)) [12]]) (.seq (.seq (.region [Y 13 (.mv (.t 3)) [3],Y 14 (.nc (.t 13)) [13],
 Y 15 (.fa (.t 14) 1) [14],Y 16 (.ld (.t 15)) [15],Y 17 (.len (.t 16)) [16],Y 18 (.mv (.c (.i .i64 0))) []])
  (.block 0 (.loop (.seq (.region [Y 19 (.ar .lss (.t 18) (.t 17)) [18,17]])
  (.seq (.cond (.t 19) .skip (.exit 0)) (.seq (.block 1 (.seq (.region [Y 20 (.mv (.t 18)) [18],
 Y 4 (.mv (.t 20)) [20]]) (.mix [(Y 21 (.mv (.t 3)) [3],.q [none]),(Y 22 (.nc (.t 21)) [21],.q [none]),
 (Y 23 (.fa (.t 22) 1) [22],.q [none]),(Y 24 (.ld (.t 23)) [23],.q [none]),(Y 25 (.mv (.t 4)) [4],.q [none]),
 (Y 26 (.mv (.t 0)) [0],.q [none]),(Y 27 (.ar .add (.t 26) (.c (.i .i64 63))) [26],.q [none]),
 (Y 28 (.ar .quo (.t 27) (.c (.i .i64 64))) [27],.q [none]),(Y 29 (.ms 35 1 8 [.i .u64 0] (.t 28)
  (.t 28)) [28,28],.soft),(Y 30 (.ia (.t 24) (.t 25) 1) [24,25],.q [none]),(⟨none,none,.st (.t 30)
  (.t 29) 1,[30,29]⟩,.e)]))) (.region [Y 31 (.ar .add (.t 18) (.c (.i .i64 1))) [18],
 Y 18 (.mv (.t 31)) [31]]))))))) (.seq (.region [Y 32 (.mv (.t 3)) [3],Y 2 (.mv (.t 32)) [32]]) .ret)))))
set_option maxRecDepth 100000 in
theorem c107:fnB Tryz.prog 107=some (33,s107,[.t 2]):=by kernel_rfl
def s109 : Sc:=(.seq (.region [Y 8 (.mv (.c (.b false))) []]) (.seq (.seq (.region [Y 9 (.mv (.t 0)) [0],
 Y 10 (.mv (.t 1)) [1],Y 11 (.mv (.t 2)) [2],Y 12 (.call 182 [.t 9,.t 10,.t 11]) [9,10,11],
 Y 13 (.nt (.t 12)) [12],Y 14 (.mv (.t 13)) [13],Z 14 false 15 (.mv (.t 0)) [0,14],
 Z 14 false 16 (.nc (.t 15)) [15,14],Z 14 false 17 (.fa (.t 16) 1) [16,14],
 Z 14 false 18 (.ld (.t 17)) [17,14],Z 14 false 19 (.mv (.t 1)) [1,14],Z 14 false 20 (.ia (.t 18)
  (.t 19) 1) [18,19,14],Z 14 false 21 (.ld (.t 20)) [20,14],Z 14 false 22 (.mv (.t 2)) [2,14],
 Z 14 false 23 (.call 183 [.t 21,.t 22]) [21,22,14],Z 14 false 24 (.mv (.t 3)) [3,14],
 Z 14 false 25 (.eq .bool false (.t 23) (.t 24)) [23,24,14],Y 26 (.pk (.t 14) (.c (.b true))
  (.t 25)) [14,25]]) (.cond (.t 26) (.seq (.region [Y 8 (.mv (.c (.b false))) []]) .ret) .skip))
  (.seq (.mix [(Y 27 (.mv (.t 0)) [0],.q [none]),(Y 28 (.nc (.t 27)) [27],.q [none]),
 (Y 29 (.fa (.t 28) 1) [28],.q [none]),(Y 30 (.ld (.t 29)) [29],.q [none]),(Y 31 (.mv (.t 1)) [1],.q [none]),
 (Y 32 (.ia (.t 30) (.t 31) 1) [30,31],.q [none]),(Y 33 (.ld (.t 32)) [32],.q [none]),
 (Y 34 (.mv (.t 2)) [2],.q [none]),(Y 35 (.ar .quo (.t 34) (.c (.i .i64 64))) [34],.q [none]),
 (Y 36 (.ia (.t 33) (.t 35) 1) [33,35],.q [none]),(Y 37 (.ld (.t 36)) [36],.q [none]),
 (Y 38 (.mv (.t 2)) [2],.q [none]),(Y 39 (.ar .rem (.t 38) (.c (.i .i64 64))) [38],.q [none]),
 (Y 40 (.sh .shl (.c (.i .u64 1)) (.t 39)) [39],.q [none]),(Y 41 (.ar .xor (.t 37)
  (.t 40)) [37,40],.q [none]),(Y 42 (.ia (.t 33) (.t 35) 1) [33,35],.q [none]),(⟨none,none,.st (.t 42)
  (.t 41) 1,[42,41]⟩,.e)]) (.seq (.region [Y 8 (.mv (.c (.b true))) []]) .ret))))
set_option maxRecDepth 100000 in
theorem c109:fnB Tryz.prog 109=some (43,s109,[.t 8]):=by kernel_rfl
def s158 : Sc:=(.seq (.region [Y 6 (.mv (.c (.b false))) []]) (.seq (.region [Y 7 (.mv (.t 0)) [0],Y 8 (.mv (.t 1)) [1],
 Y 9 (.mv (.t 2)) [2],Y 10 (.call 182 [.t 7,.t 8,.t 9]) [7,8,9],Y 11 (.mv (.t 10)) [10],
 Z 11 true 12 (.mv (.t 0)) [0,11],Z 11 true 13 (.nc (.t 12)) [12,11],Z 11 true 14 (.fa (.t 13) 1) [13,11],
 Z 11 true 15 (.ld (.t 14)) [14,11],Z 11 true 16 (.mv (.t 1)) [1,11],Z 11 true 17 (.ia (.t 15)
  (.t 16) 1) [15,16,11],Z 11 true 18 (.ld (.t 17)) [17,11],Z 11 true 19 (.mv (.t 2)) [2,11],
 Z 11 true 20 (.call 183 [.t 18,.t 19]) [18,19,11],Y 21 (.pk (.t 11) (.t 20) (.c (.b false))) [11,20],
 Y 6 (.mv (.t 21)) [21]]) .ret))
set_option maxRecDepth 100000 in
theorem c158:fnB Tryz.prog 158=some (22,s158,[.t 6]):=by kernel_rfl
def bt (R:List Nat) (a c:Nat):Bool:=(gt R a).testBit c
def nW (n:Nat):Nat:=(n+63) / 64
theorem nW_lt {n p:Nat} (h:p<n):p / 64<nW n:=by unfold nW;omega
theorem nW_le {n:Nat} (h:n≤256):nW n≤1000:=by unfold nW;omega
structure RelAt (h:H) (v:V) (n:Nat) (R:List Nat):Prop where
 is:∃b vr vs,v=.p b 0∧Bx h b [.i .i64 (n:Int),vr]∧Ro h vr 1 vcell vs∧vs.length=n∧∀a,a<n→Ro h (gt vs a) 1 uc (wds (gt R a) (nW n))
 rl:R.length=n
 fit:∀a,a<n→∀q,bt R a q=true→q<n
 sz:n≤256
theorem RelAt.kp {h h':H} {v:V} {n:Nat} {R:List Nat} (k:Kp h h') (hw:Wf h) (hr:RelAt h v n R):RelAt h' v n R:=by
 obtain⟨b,vr,vs,h1,h2,h3,h4,h5⟩:=hr.is
 exact⟨⟨b,vr,vs,h1,h2.kp k hw,h3.kp k hw,h4,fun a ha=>(h5 a ha).kp k hw⟩,hr.rl,hr.fit,hr.sz⟩
theorem RelAt.one {h:H} {v:V} {n:Nat} {R:List Nat} (hr:RelAt h v n R):v.one=true:=by
 obtain⟨b,vr,vs,h1,_⟩:=hr.is
 rw[h1];rfl
structure Rl (h:H) (lo hi b:Nat) (vr:V) (vs:List V) (n:Nat) (R:List Nat):Prop where
 ob:Ob h lo b 295 [.i .i64 (n:Int),vr]
 ar:Ar h lo vr 1 296 vcell vs
 vl:vs.length=n
 rl:R.length=n
 rows:∀a,a<n→Ar h lo (gt vs a) 1 35 uc (wds (gt R a) (nW n))
 dis:∀a a',a<n→a'<n→a≠a'→(gt vs a).ba≠(gt vs a').ba
 up:b<hi∧vr.ba<hi∧∀a,a<n→(gt vs a).ba<hi
 fit:∀a,a<n→∀q,bt R a q=true→q<n
 sz:n≤256
section
variable {h h':H} {lo hi b n:Nat} {vr:V} {vs:List V} {R:List Nat}
theorem Ar.ty_ne {α β:Type} [Inhabited α] [Inhabited β] {n0 n1 sz sz':Nat} {v v':V} {ty ty':TypeId} {c:α→Nat→V} {c':β→Nat→V} {l:List α} {l':List β} (hg:Ar h n0 v sz ty c l) (hg':Ar h n1 v' sz' ty' c' l') (ht:ty≠ty'):v.ba≠v'.ba:=fun e=>by
 obtain⟨b,p,rfl,h1,h2,h3⟩:=hg.own
 obtain⟨b',p',rfl,h1',h2',h3'⟩:=hg'.own
 have e:b=b':=e
 subst e
 rw[h3]at h3'
 injection h3' with h3'
 injection h3' with h4
 exact ht h4
theorem Ar.ob_ne {α:Type} [Inhabited α] {n0 n1 sz:Nat} {v:V} {ty ty':TypeId} {c:α→Nat→V} {l:List α} {b:Nat} {ll:List V} (hg:Ar h n0 v sz ty c l) (hb:Ob h n1 b ty' ll) (ht:ty≠ty'):v.ba≠b:=fun e=>by
 obtain⟨b',p,rfl,h1,h2,h3⟩:=hg.own
 have e:b'=b:=e
 subst e
 obtain⟨q,hq⟩:=hb.row
 rw[h3]at hq
 injection hq with hq
 injection hq with h4
 exact ht h4
theorem Rl.at_ (hr:Rl h lo hi b vr vs n R):RelAt h (.p b 0) n R:=⟨⟨b,vr,vs,rfl,hr.ob.bx,hr.ar.ro,hr.vl,fun a ha=>(hr.rows a ha).ro⟩,hr.rl,hr.fit,hr.sz⟩
theorem Rl.pr {P:Nat→Prop} (p:Pr P h h') (hr:Rl h lo hi b vr vs n R) (hP:∀k,lo≤k→k<hi→¬P k):Rl h' lo hi b vr vs n R :=
 ⟨p.ob hr.ob (hP _ hr.ob.lo hr.up.1),p.ar hr.ar (hP _ hr.ar.blk.2.1 hr.up.2.1),hr.vl,hr.rl,fun a ha=>p.ar (hr.rows a ha) (hP _ (hr.rows a ha).blk.2.1 (hr.up.2.2 a ha)),hr.dis,hr.up,hr.fit,hr.sz⟩
theorem Rl.kp (k:Kp h h') (hr:Rl h lo hi b vr vs n R):Rl h' lo hi b vr vs n R:=hr.pr (Pr.of_kp (P:=fun _=>False) k) fun _ _ _ h=>h
theorem Rl.mo {c:Nat} (m:Mo h h' (some c)) (hr:Rl h lo hi b vr vs n R) (hc:¬(lo≤c∧c<hi)):Rl h' lo hi b vr vs n R:=hr.pr (Pr.of_mo (P:=fun k=>k=c) m fun k e=>by injection e with e;exact e.symm) fun k h1 h2 e=>hc (by subst e;exact⟨h1,h2⟩)
theorem Rl.set {a x:Nat} (hr:Rl h lo hi b vr vs n R) (ha:a<n) (hA:Ar h' lo (gt vs a) 1 35 uc (wds x (nW n))) (m:Mo h h' (some (gt vs a).ba)) (hx:∀q,x.testBit q=true→q<n):Rl h' lo hi b vr vs n (R.set a x)∧Pr (fun k=>lo≤k∧k<hi) h h':=by
 have hal:a<R.length:=by rw[hr.rl];exact ha
 refine⟨⟨hr.ob.mo m fun e=>?_,hr.ar.mo m fun e=>?_,hr.vl,by rw[List.length_set];exact hr.rl,fun a' ha'=>?_,hr.dis,hr.up,fun a' ha' q hq=>?_,hr.sz⟩,Pr.of_mo m fun k e=>?_⟩
 ·injection e with e
  exact(hr.rows a ha).ob_ne hr.ob (by decide) e
 ·injection e with e
  exact(hr.rows a ha).ty_ne hr.ar (by decide) e
 ·rw[gt_set hal]
  by_cases e:a'=a
  ·rw[if_pos e,e];exact hA
  ·rw[if_neg e]
   exact(hr.rows a' ha').mo m fun e2=>by
    injection e2 with e2
    exact hr.dis a' a ha' ha e e2.symm
 ·unfold bt at hq
  rw[gt_set hal]at hq
  by_cases e:a'=a
  ·rw[if_pos e]at hq;exact hx q hq
  ·rw[if_neg e]at hq;exact hr.fit a' ha' q hq
 ·injection e with e
  rw[←e]
  exact⟨(hr.rows a ha).blk.2.1,hr.up.2.2 a ha⟩
end
set_option maxHeartbeats 0 in
theorem rnew_spec {m:Bool} {h:H} {n:Nat} (_hw:Wf h) (hn:n≤256):FX m Tryz.prog 107 [.i .i64 (n:Int)] h fun r h'=>∃b vr vs,r=.p b 0∧Rl h' h.next h'.next b vr vs n (List.replicate n 0)∧Kp h h':=by
 have e0:max (0:Int) (min (n:Int) 256)=n:=by omega
 refine Fn.env c107 rfl ?_
 unfold s107
 refine go ?_
 rw[e0]
 refine ew_ms (n:=n) (α:=V) (c:=vcell) .ns (fun vr h1 hA k1=>?_) (by omega) (by omega)
 have hL:=hA.ln
 rw[List.length_replicate]at hL
 have o1:=hL.one
 have hfl:fillL [.i .i64 0,.ns] [(0,1,.i .i64 (n:Int)),(1,1,vr)]=some [.i .i64 (n:Int),vr]:=by
  simp only[fillL,cells_one5 o1]
  rfl
 refine go ?_
 refine ewN (stS (v:=.agg [.i .i64 (n:Int),vr]) (hd:=od_bd rfl hfl) ?_)
 refine ew_bx (hz:=allOne_cons rfl (allOne_cons o1 rfl)) fun b h2 ob k2=>?_
 have hB:=ob.bx
 have hA2:=hA.mo (Mo.of_kp k2 none) (fun e=>by cases e)
 have ob2:=ob.low (n1:=h.next) k1.le
 have k12:=k1.trans k2
 refine go ?_
 refine Es.loop (X:=Nat × List V) (fun x=>n-x.1) (fun x=>[(0,.i .i64 (n:Int)),(3,.p b 0),(16,vr),(17,.i .i64 (n:Int)),(18,.i .i64 (x.1:Int))]) (fun x h'=>x.1≤n∧x.2.length=n∧Kp h h'∧Ob h' h.next b 295 [.i .i64 (n:Int),vr]∧Ar h' h.next vr 1 296 vcell x.2∧(∀a,a<x.1→Ar h' h.next (gt x.2 a) 1 35 uc (wds 0 (nW n)))∧∀a a',a<x.1→a'<x.1→a≠a'→(gt x.2 a).ba≠(gt x.2 a').ba) (0,List.replicate n .ns) ⟨rfl,rfl,rfl,rfl,rfl,trivial⟩ ⟨Nat.zero_le _,List.length_replicate,k12,ob2,hA2,fun a ha=>absurd ha (Nat.not_lt_zero _),fun a a' ha=>absurd ha (Nat.not_lt_zero _)⟩ fun x h3 hx=>?_
 obtain⟨i,vs⟩:=x
 obtain⟨hi,hvl,k3,ob3,hA3,hR,hD⟩:=hx
 simp only at hi hvl hR hD
 clear hA2 hA ob ob2
 have hB3:=ob3.bx
 clear hB
 refine go ?_
 refine cD (fun hlt=>?_) (fun hge=>?_)
 ·have hlt:i<n:=by omega
  refine go ?_
  refine em_f .n (of_quo (n:=n+63) rfl rfl (by omega)) ?_
  refine em_ms (n:=(n+63) / 64) (α:=Int) (c:=uc) 0 (fun v h4 hA4 k4=>?_) (by omega) (by omega)
  have o4:=hA4.ln.one
  refine go ?_
  have hA5:=hA3.mo (Mo.of_kp k4 none) (fun e=>by cases e)
  have ob5:=ob3.mo (Mo.of_kp k4 none) (fun e=>by cases e)
  refine em_ar v hA5 (i:=i) (by show i<vs.length;omega) (fun h6 hA6 m6=>?_) (hv:=cells_one5 o4) (h1:=allOne_cons o4 rfl)
  have hz:wds 0 (nW n)=List.replicate ((n+63) / 64) 0:=wds_zero _
  have hA4:=hA4
  rw[←hz]at hA4
  refine go ?_
  refine Nx.inv (i+1,_) (by simp only;omega) ⟨rfl,rfl,rfl,rfl,rfl,trivial⟩ ⟨by simp only;omega,by simp only;rw[List.length_set];exact hvl,m6.kp (k3.trans k4) (fun k e=>by injection e with e;rw[←e];exact hA5.blk.2.1),ob5.mo m6 (fun e=>by injection e with e;exact hA5.ob_ne ob5 (by decide) e),hA6,fun a ha=>?_,fun a a' ha ha' hne=>?_⟩
  ·simp only at ha ⊢
   rw[gt_set (by omega)]
   by_cases e:a=i
   ·rw[if_pos e]
    exact(hA4.low k3.le).mo m6 fun e=>by injection e with e;exact hA5.ty_ne hA4 (by decide) e
   ·rw[if_neg e]
    have h7:=(hR a (by omega)).mo (Mo.of_kp k4 none) (fun e=>by cases e)
    exact h7.mo m6 fun e=>by injection e with e;exact hA5.ty_ne h7 (by decide) e
  ·simp only at ha ha' ⊢
   rw[gt_set (by omega),gt_set (by omega)]
   have hlow:∀c,c<i→(gt vs c).ba<h3.next:=fun c hc=>(hR c hc).blk.2.2
   have hhi:h3.next≤v.ba:=hA4.blk.2.1
   by_cases e:a=i
   ·rw[if_pos e,if_neg (by omega)]
    have:=hlow a' (by omega)
    omega
   ·rw[if_neg e]
    by_cases e':a'=i
    ·rw[if_pos e']
     have:=hlow a (by omega)
     omega
    ·rw[if_neg e'];exact hD a a' (by omega) (by omega) hne
 ·have e:i=n:=by omega
  subst e
  refine go ?_
  refine ret_1 ⟨b,vr,vs,rfl,⟨ob3,hA3,hvl,List.length_replicate,fun a ha=>?_,hD,⟨ob3.hi,hA3.blk.2.2,fun a ha=>(hR a ha).blk.2.2⟩,fun a ha q hq=>?_,hn⟩,k3⟩
  ·rw[gt_rep ha];exact hR a ha
  ·unfold bt at hq
   rw[gt_rep ha,Nat.zero_testBit]at hq
   cases hq
theorem xor_bit {x q c:Nat}:(x ^^^ 1 <<< q).testBit c=if c=q then !x.testBit c else x.testBit c:=by
 rw[Nat.testBit_xor,one_bit]
 by_cases e:c=q
 ·rw[if_pos e,decide_eq_true e,Bool.xor_true]
 ·rw[if_neg e,decide_eq_false e,Bool.xor_false]
set_option maxHeartbeats 0 in
theorem put_spec_ {m:Bool} {h:H} {lo hi b n:Nat} {vr:V} {vs:List V} {R:List Nat} {p q:Int} {w:Bool} (hR:Rl h lo hi b vr vs n R):FX m Tryz.prog 109 [.p b 0,.i .i64 p,.i .i64 q,.b w] h fun _r h'=>∃R',Rl h' lo hi b vr vs n R'∧Pr (fun k=>lo≤k∧k<hi) h h'∧∀a c,a<n→c<n→bt R' a c=if (a:Int)=p∧(c:Int)=q then w else bt R a c:=by
 have hB:=hR.ob.bx
 have hL:=hR.ar.ln
 rw[hR.vl]at hL
 have hsz:=hR.sz
 refine Fn.env c109 rfl ?_
 unfold s109
 refine go ?_
 refine stC (inside_spec (n:=n) (p:=p) (q:=q) (hB.eq 0 _ rfl)) (fun r h' ⟨e1,e2⟩=>?_)
 subst e1 e2
 by_cases hin:0≤p∧p<n∧0≤q∧q<n
 ·rw[decide_eq_true hin]
  obtain⟨h1,h2,h3,h4⟩:=hin
  obtain⟨a,rfl⟩:=Int.eq_ofNat_of_zero_le h1
  obtain⟨c,rfl⟩:=Int.eq_ofNat_of_zero_le h3
  have ha:a<n:=by omega
  have hc:c<n:=by omega
  have hA:=hR.rows a ha
  have hCr:Ce h' vr.ba (vr.of+a*1) (gt vs a):=hR.ar.cs.eq a 0 (by rw[hR.vl];exact ha) Nat.zero_lt_one
  have hLa:=hA.ro.wl
  have hCa:=hA.ro.wd (nW_lt hc)
  have hwl:=wd_lt (gt R a) (c / 64)
  have hc64:c % 64<64:=Nat.mod_lt _ (by decide)
  have hwl2:1 <<< (c % 64)<18446744073709551616:=by rw[Nat.one_shiftLeft];exact Nat.pow_lt_pow_right (by decide) hc64
  refine go ?_
  refine stC (has_spec (p:=c) hA.ro (nW_lt hc) (by omega)) (fun r h' ⟨e1,e2⟩=>?_)
  subst e1 e2
  refine go ?_
  refine ew_s .n (od_eqB rfl rfl) ?_
  refine go ?_
  cases hbw:((gt R a).testBit c == w)with
  | true =>
   refine go ?_
   refine ret_1 ⟨R,hR,Pr.refl _ _,fun a' c' _ _=>?_⟩
   by_cases e:(a':Int)=(a:Int)∧(c':Int)=(c:Int)
   ·rw[if_pos e,show a'=a by omega,show c'=c by omega]
    exact eq_of_beq hbw
   ·rw[if_neg e]
  | false =>
   have hlt:=nW_lt hc
   refine go ?_
   refine em_f .n (of_quo rfl rfl (by omega)) ?_
   refine go ?_
   refine em_f .n (of_rem rfl rfl) ?_
   refine em_f .n (of_shl rfl rfl (by omega)) ?_
   refine em_f .n (of_xor rfl rfl hwl hwl2) ?_
   refine go ?_
   refine em_ar (((wd (gt R a) (c / 64) ^^^ 1 <<< (c % 64):Nat):Int)) hA (i:=c / 64) (by rw[wds_len];exact hlt) fun h1 hA1 m1=>?_
   rw[wds_xor hlt]at hA1
   have hfit:∀d,(gt R a ^^^ 1 <<< c).testBit d=true→d<n:=fun d hd=>by
    rw[xor_bit]at hd
    by_cases e:d=c
    ·omega
    ·rw[if_neg e]at hd;exact hR.fit a ha d hd
   obtain⟨hR1,p1⟩:=hR.set ha hA1 m1 hfit
   refine go ?_
   refine ret_1 ⟨_,hR1,p1,fun a' c' ha' hc'=>?_⟩
   unfold bt
   rw[gt_set (by rw[hR.rl];exact ha)]
   have hne:(gt R a).testBit c≠w:=fun e=>by rw[e]at hbw;simp at hbw
   by_cases e:(a':Int)=(a:Int)∧(c':Int)=(c:Int)
   ·rw[if_pos e,if_pos (by omega),xor_bit,if_pos (by omega),show c'=c by omega]
    cases hx:(gt R a).testBit c <;> cases w <;> first | rfl | exact absurd hx hne
   ·rw[if_neg e]
    by_cases e2:a'=a
    ·rw[if_pos e2,xor_bit,if_neg (by omega),e2]
    ·rw[if_neg e2]
 ·rw[decide_eq_false hin]
  refine go ?_
  refine ret_1 ⟨R,hR,Pr.refl _ _,fun a' c' _ _=>?_⟩
  rw[if_neg (by omega)]
set_option maxHeartbeats 0 in
theorem rhas_spec {m:Bool} {h:H} {v:V} {n:Nat} {R:List Nat} {p q:Int} (hR:RelAt h v n R):FX m Tryz.prog 158 [v,.i .i64 p,.i .i64 q] h fun r h'=>∃w:Bool,r=.b w∧h'=h∧(w=true↔0≤p∧p<n∧0≤q∧q<n∧bt R p.toNat q.toNat=true):=by
 obtain⟨b,vr,vs,rfl,hB,hr,hvl,hrows⟩:=hR.is
 have hL:=hr.ln
 rw[hvl]at hL
 have hsz:=hR.sz
 refine Fn.env c158 rfl ?_
 unfold s158
 refine go ?_
 refine stC (inside_spec (n:=n) (p:=p) (q:=q) (hB.eq 0 _ rfl)) (fun r h' ⟨e1,e2⟩=>?_)
 subst e1 e2
 by_cases hin:0≤p∧p<n∧0≤q∧q<n
 ·rw[decide_eq_true hin]
  obtain⟨h1,h2,h3,h4⟩:=hin
  obtain⟨a,rfl⟩:=Int.eq_ofNat_of_zero_le h1
  obtain⟨c,rfl⟩:=Int.eq_ofNat_of_zero_le h3
  have ha:a<n:=by omega
  have hc:c<n:=by omega
  have hA:=hrows a ha
  have hCr:Ce h' vr.ba (vr.of+a*1) (gt vs a):=hr.cs.eq a 0 (by rw[hvl];exact ha) Nat.zero_lt_one
  refine go ?_
  refine stC (has_spec (p:=c) hA (nW_lt hc) (by omega)) (fun r h' ⟨e1,e2⟩=>?_)
  subst e1 e2
  refine go ?_
  refine ret_1 ⟨_,rfl,rfl,?_⟩
  rw[Int.toNat_natCast,Int.toNat_natCast]
  exact⟨fun h=>⟨h1,h2,h3,h4,h⟩,fun h=>h.2.2.2.2⟩
 ·rw[decide_eq_false hin]
  refine go ?_
  exact ret_1 ⟨false,rfl,rfl,(fun h=>by cases h),fun h=>absurd ⟨h.1,h.2.1,h.2.2.1,h.2.2.2.1⟩ hin⟩
def s184 : Sc:=(.seq (.region [Y 1 (.bx 296 (.t 0)) [0],Y 2 (.mv (.c .nf)) []])
  (.seq (.region [Y 3 (.mf (.func 259) [] [.t 1]) [1],Y 2 (.mv (.t 3)) [3]]) .ret))
set_option maxRecDepth 100000 in
theorem c184:fnB Tryz.prog 184=some (4,s184,[.t 2]):=by kernel_rfl
def s259 : Sc:=(.seq (.region [Y 5 (.ld (.t 1)) [1],Y 6 (.len (.t 5)) [5],Y 7 (.mv (.c (.i .i64 0))) []])
  (.block 0 (.loop (.seq (.region [Y 8 (.ar .lss (.t 7) (.t 6)) [7,6]]) (.seq (.cond (.t 8) .skip (.exit 0))
  (.seq (.block 1 (.seq (.region [Y 9 (.mv (.t 7)) [7],Y 10 (.ia (.t 5) (.t 7) 1) [5,7],
 Y 11 (.ld (.t 10)) [10],Y 3 (.mv (.t 9)) [9],Y 4 (.mv (.t 11)) [11]])
  (.block 2 (.loop (.seq (.seq (.region [Y 12 (.mv (.t 4)) [4],Y 13 (.eq .int true (.t 12)
  (.c (.i .u64 0))) [12]]) (.cond (.t 13) .skip (.exit 2)))
  (.seq (.block 3 (.seq (.region [Y 18 (.mv (.t 0)) [0],Y 19 (.mv (.t 3)) [3],Y 20 (.ar .mul (.c (.i .i64 64))
  (.t 19)) [19],Y 21 (.mv (.t 4)) [4],Y 22 (.call 260 [.t 21]) [21],Y 23 (.ar .add (.t 20) (.t 22)) [20,22],
 Y 24 (.callv (.t 18) [.t 23]) [18,23],Y 25 (.nt (.t 24)) [24]]) (.cond (.t 25) .ret .skip)))
  (.region [Y 14 (.mv (.t 4)) [4],Y 15 (.mv (.t 4)) [4],Y 16 (.ar .sub (.t 15) (.c (.i .u64 1))) [15],
 Y 17 (.ar .and (.t 14) (.t 16)) [14,16],Y 4 (.mv (.t 17)) [17]]))))))) (.region [Y 26 (.ar .add (.t 7)
  (.c (.i .i64 1))) [7],Y 7 (.mv (.t 26)) [26]])))))))
set_option maxRecDepth 100000 in
theorem c259:fnB Tryz.prog 259=some (27,s259,[]):=by kernel_rfl
structure Iter (m:Bool) (g:FuncId) (cap:List V) (l:List V) (I:H→Prop):Prop where
 run:∀(b:Nat) (h:H) (J:List V→H→Prop),J [] h→(∀d h,J d h→I h)→(∀d p r h,l=d++p :: r→J d h→YX m Tryz.prog b [p] h fun v h'=>v=.b true∧J (d++[p]) h')→FX m Tryz.prog g (.y b :: cap) h fun _ h'=>J l h'
set_option maxHeartbeats 0 in
theorem Es.rangeI {m:Bool} {N:Nat} {R:Env→H→Prop} {K:List Fr} {e:Env} {h:H} {x:Rd} {p1 pd:Nat} {us:List Nat} {sb:Sc} {g:FuncId} {cap l:List V} {I:H→Prop} (φ:List V→H→Prop) (hx:x.lk e=some (.fn (.func g) [] cap)) (it:Iter m g cap l I)
  (hφ:∀d h',φ d h'→I h')
  (hset:∀d h' o,h.next<h'.next→φ d h'→φ d ⟨h'.next,h'.t.set h.next (some o)⟩)
  (h0:∀o,φ [] ⟨h.next+1,h.t.set h.next (some o)⟩)
  (hb:∀d p r h2,l=d++p :: r→h.next<h2.next→φ d h2→Es ⟨m,Tryz.prog,some 0,N,fun _ _=>False⟩ [.cut fun _ h4=>φ (d++[p]) h4∧h.next<h4.next∧h4.t.get h.next=h2.t.get h.next] sb ((pd,p) :: (p1,p) :: e) h2)
  (hend:∀h',h.next<h'.next→φ l h'→Nx ⟨m,Tryz.prog,none,N,R⟩ K e ⟨h'.next,h'.t.set h.next none⟩):Es ⟨m,Tryz.prog,none,N,R⟩ K (.range x [p1] (.region [⟨none,some pd,.mv (.t p1),us⟩]) sb) e h:=⟨fun t ht=>by
 refine SX.range (Rd.lk_val hx ht) fun ac bd has hbd=>?_
 refine FX.mono (it.run h.next _ (fun d h'=>φ d h'∧h.next<h'.next∧h'.t.get h.next=some (.loop .ready t N [p1] ac bd)) ⟨h0 _,Nat.lt_succ_self _,by
  show(h.t.set h.next _).get h.next=_
  rw[Tr.get_set,if_pos rfl]⟩ (fun d h' hj=>hφ d h' hj.1) fun d p r h1 hl hj=>?_) fun _ h2 hj=>?_
 ·obtain⟨h3,h4,h5⟩:=hj
  have ht1:Tm (putAll [p1] t [p]) ((p1,p) :: e):=ht.set p1 p
  have hS:=(Es.region (C:=⟨m,Tryz.prog,some 0,N,fun _ _=>False⟩) (K:=[.cut fun e' h'=>h'=h1∧e'=(pd,p) :: (p1,p) :: e]) (l:=[⟨none,some pd,.mv (.t p1),us⟩]) (e:=(p1,p) :: e) (h:=h1) (stF (v:=p) (by show look ((p1,p) :: e) p1=some p;rw[look_c,if_pos rfl]) (ew_n (Nx.cut ⟨rfl,rfl⟩)))).run _ ht1
  have hB:=fun t2 (ht2:Tm t2 ((pd,p) :: (p1,p) :: e))=>(hb d p r ⟨h1.next,h1.t.set h.next (some (.loop .busy t N [p1] ac bd))⟩ hl h4 (hset d h1 _ h4 h3)).run t2 ht2
  have key:∀h4':H,(φ (d++[p]) h4'∧h.next<h4'.next∧h4'.t.get h.next=(h1.t.set h.next (some (.loop .busy t N [p1] ac bd))).get h.next)→h4'.t.get h.next=some (.loop .busy t N [p1] ac bd)∧(φ (d++[p]) ⟨h4'.next,h4'.t.set h.next (some (.loop .ready t N [p1] ac bd))⟩∧h.next<h4'.next∧(h4'.t.set h.next (some (.loop .ready t N [p1] ac bd))).get h.next=some (.loop .ready t N [p1] ac bd)):=fun h4' ⟨k1,k2,k3⟩=>by
   rw[Tr.get_set,if_pos rfl]at k3
   exact⟨k3,hset _ _ _ k2 k1,k2,by rw[Tr.get_set,if_pos rfl]⟩
  cases m with
  | false =>
   refine Yd.of h5 rfl has hbd fun r'=>SW.mono (hS r' (fun h=>by cases h)) fun y t2 h2 hk=>?_
   obtain⟨e2,ht2,hk⟩:=hk
   cases y with
   | exit j=>exact hk.2.elim
   | ret=>exact hk.2.elim
   | normal =>
    obtain⟨rfl,rfl⟩:=hk
    refine⟨rfl,t,N,[p1],ac,bd,h5,SW.mono (hB t2 ht2 r' (fun h=>by cases h)) fun y t4 h4' hk4=>?_⟩
    obtain⟨e4,ht4,hk4⟩:=hk4
    cases y with
    | exit j=>exact hk4.2.elim
    | ret=>exact hk4.2.elim
    | normal =>
     obtain⟨k1,k2⟩:=key h4' hk4
     exact⟨t,N,[p1],ac,bd,k1,rfl,k2⟩
  | true =>
   obtain⟨o1,s1,e2,ht2,hk⟩:=hS ac has
   cases hx1:o1.x with
   | exit j=>rw[hx1]at hk;exact hk.2.elim
   | ret=>rw[hx1]at hk;exact hk.2.elim
   | normal =>
    rw[hx1]at hk
    obtain⟨hk1,rfl⟩:=hk
    obtain⟨o2,s2,e4,ht4,hk4⟩:=hB o1.t ht2 bd hbd
    cases hx2:o2.x with
    | exit j=>rw[hx2]at hk4;exact hk4.2.elim
    | ret=>rw[hx2]at hk4;exact hk4.2.elim
    | normal =>
     rw[hx2]at hk4
     obtain⟨k1,k2⟩:=key o2.h hk4
     refine⟨.b true,⟨o2.h.next,o2.h.t.set h.next (some (.loop .ready t N [p1] ac bd))⟩,Yd.ofc h5 rfl fun r'=>(s1 r' (fun h=>by cases h)).mono fun y t2 h2 ⟨e1,e2,e3⟩=>?_,rfl,k2⟩
     rw[hx1]at e1
     subst e1 e2 e3
     refine⟨rfl,t,N,[p1],ac,bd,by rw[hk1];exact h5,?_⟩
     rw[hk1]
     refine(s2 r' (fun h=>by cases h)).mono fun y t4 h4' ⟨e1,e2,e3⟩=>?_
     rw[hx2]at e1
     subst e1 e2 e3
     exact⟨t,N,[p1],ac,bd,k1,rfl,rfl⟩
 ·obtain⟨h3,h4,h5⟩:=hj
  exact⟨.ready,t,N,[p1],ac,bd,h5,.inl ⟨rfl,e,ht,(hend h2 h4 h3).run⟩⟩⟩
def ci (q:Nat):V:=.i .i64 (q:Int)
set_option maxHeartbeats 0 in
theorem points_it {m:Bool} {bx:Nat} {v:V} {x nw:Nat} (hn:nw≤1000):Iter m 259 [.p bx 0] ((ptsF x nw 0).map ci) fun h=>Bx h bx [v]∧Ro h v 1 uc (wds x nw)∧TabP h:=⟨fun b h J h0 hJ hy=>by
 obtain⟨hB,hr,hT⟩:=hJ _ _ h0
 have hL:=hr.wl
 refine Fn.env c259 rfl ?_
 unfold s259
 refine go ?_
 refine Es.loop (X:=Nat × List V) (fun x=>nw-x.1) (fun x=>[(0,.y b),(1,.p bx 0),(5,v),(6,.i .i64 (nw:Int)),(7,.i .i64 (x.1:Int))]) (fun X h'=>X.1≤nw∧(ptsF x nw 0).map ci=X.2++(ptsF x (nw-X.1) X.1).map ci∧J X.2 h') (0,[]) ⟨rfl,rfl,rfl,rfl,rfl,trivial⟩ ⟨Nat.zero_le _,rfl,h0⟩ fun X h1 hX=>?_
 obtain⟨i,dn⟩:=X
 obtain⟨hi,hl,hj⟩:=hX
 simp only at hi hl hj
 clear hB hr hT
 obtain⟨hB,hr,hT⟩:=hJ _ _ hj
 refine go ?_
 refine cD (fun hlt=>?_) (fun hge=>?_)
 ·have hlt:i<nw:=by omega
  have hCw:=hr.wd hlt
  rw[show nw-i=(nw-(i+1))+1 by omega]at hl
  rw[show ptsF x (nw-(i+1)+1) i=(bitsOf (wd x i)).map (64*i + ·)++ptsF x (nw-(i+1)) (i+1)from rfl,List.map_append]at hl
  refine go ?_
  refine Es.loop (X:=Nat × List V) (fun x=>x.1) (fun x=>[(0,.y b),(1,.p bx 0),(5,v),(6,.i .i64 (nw:Int)),(7,.i .i64 (i:Int)),(3,.i .i64 (i:Int)),(4,.i .u64 (x.1:Int))]) (fun X h'=>X.1<18446744073709551616∧(ptsF x nw 0).map ci=X.2++(((bitsOf X.1).map (64*i + ·)).map ci++(ptsF x (nw-(i+1)) (i+1)).map ci)∧J X.2 h') (wd x i,dn) ⟨rfl,rfl,rfl,rfl,rfl,rfl,rfl,trivial⟩ ⟨wd_lt _ _,hl,hj⟩ fun X h2 hX=>?_
  clear hl hj hB hr hT hCw
  obtain⟨w,dn⟩:=X
  obtain⟨hw,hl,hj⟩:=hX
  simp only at hw hl hj
  obtain⟨hB,hr,hT⟩:=hJ _ _ hj
  refine go ?_
  refine cN (fun hne=>?_) (fun he=>?_)
  ·have h0w:0<w:=by omega
   have hlow:=(low_at 64 w h0w hw).1
   have hlow:low w<64:=hlow
   rw[bitsOf_s (by omega),List.map_cons,List.map_cons,List.cons_append]at hl
   refine go ?_
   refine ew_s .n ((of_mul64 rfl rfl (by omega)).eq _) ?_
   refine go ?_
   refine stC (ctz_spec hT h0w hw) (fun r h3 ⟨e1,e2⟩=>?_)
   subst e1 e2
   refine ew_s .n (od_addN rfl rfl (by omega)) ?_
   refine ew_y .n rfl rfl (hy dn _ _ _ hl hj) fun r h4 ⟨e1,hj4⟩=>?_
   subst e1
   refine go ?_
   refine ew_s .n ((of_sub1 rfl rfl h0w hw).eq _) ?_
   refine ew_s .n ((of_and rfl rfl hw (by omega)).eq _) ?_
   refine go ?_
   refine Nx.inv (w &&& (w-1),_) (and_pred_lt (by omega)) ⟨rfl,rfl,rfl,rfl,rfl,rfl,rfl,trivial⟩ ⟨Nat.lt_of_le_of_lt Nat.and_le_left hw,?_,hj4⟩
   rw[List.append_assoc]
   exact hl
  ·have e:w=0:=by omega
   subst e
   rw[bitsOf_0]at hl
   refine go ?_
   exact Nx.inv (i+1,dn) (by simp only;omega) ⟨rfl,rfl,rfl,rfl,rfl,trivial⟩ ⟨by simp only;omega,hl,hj⟩
 ·have e:i=nw:=by omega
  subst e
  rw[Nat.sub_self]at hl
  have e2:(ptsF x i 0).map ci=dn:=by rw[hl];exact List.append_nil _
  have hj:J ((ptsF x i 0).map ci) h1:=by rw[e2];exact hj
  refine go ?_
  first | exact ret_0 (R:=fun _ h=>J ((ptsF x i 0).map ci) h) hj | exact end_0 (R:=fun _ h=>J ((ptsF x i 0).map ci) h) hj⟩
set_option maxHeartbeats 0 in
theorem points_spec {m:Bool} {h:H} {v:V} {x nw:Nat} (_hw:Wf h) (hr:Ro h v 1 uc (wds x nw)):FX m Tryz.prog 184 [v] h fun r h'=>∃bx,r=.fn (.func 259) [] [.p bx 0]∧Ob h' h.next bx 296 [v]∧Kp h h':=by
 have o1:=hr.ln.one
 refine Fn.env c184 rfl ?_
 unfold s184
 refine go ?_
 refine ew_bx (hv:=cells_one5 o1) (hz:=allOne_cons o1 rfl) fun bx h1 ob k1=>?_
 refine go ?_
 exact ret_1 ⟨bx,rfl,ob,k1⟩
end Go.Proofs.YtkcdehffcddciaaGreatDoor.Vm
