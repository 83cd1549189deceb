/- The small machine's regions do what the model's do: those that draw no order, whole; what is needed for those that do. -/
import Derived.Test.YtaadfppfjjkgbaaGreatDoorVmL
import Derived.Orders
namespace Go.Proofs.YtaadfppfjjkgbaaGreatDoor.Vm
open Go Go.RowKit

section
variable {P : Program} {C : CallF}
theorem bindO_n {α β : Type} (f : α → Option (List β)) : bindO f [] = some [] := rfl
theorem bindO_1 {α β : Type} (f : α → Option (List β)) (x : α) : bindO f [x] = f x := rfl
theorem bindO_c {α β : Type} (f : α → Option (List β)) (x y : α) (l : List α) : bindO f (x :: y :: l) = ob (f x) fun a => ob (bindO f (y :: l)) fun c => some (a ++ c) := rfl
theorem bindO_mem {α β : Type} {f : α → Option (List β)} : ∀ {l : List α} {r : List β}, bindO f l = some r → ∀ x ∈ l, ∃ a, f x = some a ∧ ∀ y ∈ a, y ∈ r
  | [], _, _, x, hx => by cases hx
  | [u9], r, h, x, hx => by
    rw [bindO_1] at h
    obtain rfl := List.mem_singleton.1 hx
    exact ⟨r, h, fun _ h => h⟩
  | u :: v :: l, r, h, x, hx => by
    rw [bindO_c] at h
    obtain ⟨a, ha, h⟩ := ob_some h
    obtain ⟨c, hc, h⟩ := ob_some h
    injection h with h
    subst h
    rcases List.mem_cons.1 hx with rfl | hx
    · exact ⟨a, ha, fun y hy => by simp [hy]⟩
    · obtain ⟨b, hb, hs⟩ := bindO_mem hc x hx
      exact ⟨b, hb, fun y hy => by simp [hs y hy]⟩
theorem runL_n (C : CallF) (t : Tr V) (h : H) : runL C [] t h = some [⟨.normal, t, h⟩] := rfl
theorem runL_c (C : CallF) (s : St) (l : List St) (t : Tr V) (h : H) : runL C (s :: l) t h = orr s.next (stepK C s t h (runL C l)) (fun x => rdK t x fun v => asP v fun pt o => bb (Nat.beq o 0) (ob (nextC h pt) fun cs => bindO (fun c => putK t s.d c.1 fun t => runL C l t c.2) cs)) := rfl
theorem nextB_some {op : Op} {x : Operand} (h : nextB op = some x) : op = .next x false := by
  unfold nextB at h
  split at h
  · injection h with h; subst h; rfl
  · cases h
theorem runL_ok {lo : Nat} {r : Option Nat} {n : Nat} (hC : CallOk P C) {ops : Array Oper} {N : Nat} {Q : Exit → Act → World → Prop} : ∀ (os : List Oper) (l : List St) (A : Sub) (h : H) (w : World) (t : Tr V) (a : Act) (outs : List Out), mapO (stB P ops N) os = some l → runL C l t h = some outs →
    Mt A h w → TRel A h.next N t a.tmps → Marks lo A h w a.defers → (∀ o ∈ outs, ∀ a' w', o.x = .normal → Res lo A h w N o a' w' → Q .normal a' w') → wpListIn (Wide r) n P ops Q os a w
  | [], l, A, h, w, t, a, outs, hl, hr, hm, ht, hd, hQ => by
    rw [mapO_nil hl, runL_n] at hr
    injection hr with hr
    subst hr
    exact hQ _ (List.mem_singleton.2 rfl) _ _ rfl ⟨A, .refl hm, ht, hd⟩
  | o :: os, l, A, h, w, t, a, outs, hl, hr, hm, ht, hd, hQ => by
    obtain ⟨s, l', hs, hl', rfl⟩ := mapO_cons hl
    rw [runL_c] at hr
    cases hn : s.next with
    | none =>
      rw [hn] at hr
      have hr : stepK C s t h (runL C l') = some outs := hr
      refine stepK_ok hC hs hn hm ht hd hr fun A' h' w' t' a' hev ht' hd' hk => ?_
      exact runL_ok hC os l' A' h' w' t' a' outs hl' hk hev.mt ht' hd' fun o ho a2 w2 hx hres => hQ o ho a2 w2 hx (hres.trans hev)
    | some x =>
      rw [hn] at hr
      have hr : (rdK t x fun v => asP v fun pt o => bb (Nat.beq o 0) (ob (nextC h pt) fun cs => bindO (fun c => putK t s.d c.1 fun t => runL C l' t c.2) cs)) = some outs := hr
      rw [rdK_eq] at hr
      obtain ⟨b, o', hv, hr4⟩ := asP_some hr
      obtain ⟨h0, hr5⟩ := bb_some hr4
      have h0 := Nat.eq_of_beq_eq_true h0
      subst h0
      obtain ⟨cs, hcs, hr6⟩ := ob_some hr5
      clear hr hr4 hr5
      unfold stB at hs
      obtain ⟨g, hg, hs⟩ := ob_some hs
      obtain ⟨d, hd', hs⟩ := ob_some hs
      cases hnx : nextB o.op with
      | none =>
        rw [hnx] at hs
        obtain ⟨f, hf, hs⟩ := ob_some (show ob (opB P o.op) _ = some s from hs)
        injection hs with hs
        subst hs
        cases hn
      | some x' =>
        rw [hnx] at hs
        obtain ⟨rx, hrx, hs⟩ := ob_some (show ob (rdB x') _ = some s from hs)
        obtain ⟨hgn, hs⟩ := bb_some hs
        injection hs with hs
        subst hs
        injection hn with hn
        subst hn
        have hop := nextB_some hnx
        have hw : Region.wanted o (yielded ops a.tmps) = true := by
          rw [want_eq ht hg]
          cases g with
          | none => rfl
          | some _ => cases hgn
        obtain ⟨c, hc, hdo⟩ := next_ok hop hrx hm ht hv hcs
        obtain ⟨q, hr1, hr2⟩ := bindO_mem hr6 c hc
        rw [putK_eq] at hr1
        show if Region.wanted o (yielded ops a.tmps) then _ else _
        rw [if_pos hw]
        refine hdo.wpIn (fun c h => by rw [hop] at h; cases h) fun y w' hp => ?_
        obtain ⟨A', hev, hrel⟩ := hp
        exact runL_ok hC os l' A' c.2 w' _ _ q hl' hr1 hev.mt ((ht.mono hev.old hev.next).dst hd' hrel) (by rw [put_defers]; exact hd.ev hev) fun o ho a2 w2 hx hres => hQ o (hr2 o ho) a2 w2 hx (hres.trans hev)
theorem region_ok {lo : Nat} {r : Option Nat} {n : Nat} (hC : CallOk P C) {ops : Array Oper} {N id : Nat} {Q : Exit → Act → World → Prop} {l : List St} {A : Sub} {h : H} {w : World} {t : Tr V} {a : Act} {outs : List Out} (hl : mapO (stB P ops N) ops.toList = some l) (hr : runL C l t h = some outs)
    (hm : Mt A h w) (ht : TRel A h.next N t a.tmps) (hd : Marks lo A h w a.defers) (hQ : ∀ o ∈ outs, ∀ a' w', o.x = .normal → Res lo A h w N o a' w' → Q .normal a' w') : (Code.region id ops false).wpIn (Wide r) n P Q a w :=
  wpIn_region_list (runL_ok hC ops.toList l A h w t a outs hl hr hm ht hd hQ)
end
end Go.Proofs.YtaadfppfjjkgbaaGreatDoor.Vm
