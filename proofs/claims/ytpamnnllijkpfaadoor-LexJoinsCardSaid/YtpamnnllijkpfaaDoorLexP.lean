/- WALKS: lex.Lex. -/
import Derived.Test.YtpamnnllijkpfaaDoorLexN
import Derived.Test.YtpamnnllijkpfaaDoorLexO
import Derived.Deep.AppendLies
import Derived.Deep.RegionLaw
import Derived.BigRegion
import Derived.Laws.IdiomStrings
import Derived.Laws.BytesArg
namespace Go.Proofs.YtpamnnllijkpfaaDoor.LexW
open Go Go.RowKit Go.Proofs.YtpamnnllijkpfaaDoor.Kit Go.Proofs.YtpamnnllijkpfaaDoor.LexP

/-- A slice that reads as these bytes. -/
def Bytes (w : World) (A : Option Addr) (n : Nat) (l : List UInt8) : Prop :=
  n = l.length ∧ ∀ j (_ : j < l.length), ∃ ad, A = some ad ∧ ad.block < w.heap.size ∧ w.cell? (ad.add j) = some (.int .u8 ((l[j]).toNat : Int))

theorem block_add (a : Addr) (n : Nat) : (a.add n).block = a.block := by unfold Addr.add; split <;> rfl

theorem Bytes.below {w w' : World} {A : Option Addr} {n : Nat} {l : List UInt8} (h : Bytes w A n l) (hb : Below w.heap.size w w') : Bytes w' A n l :=
  ⟨h.1, fun j hj => by
    obtain ⟨ad, e, hlt, hc⟩ := h.2 j hj
    have := hb.size
    exact ⟨ad, e, by omega, (hb.cell (by rw [block_add]; exact hlt)).trans hc⟩⟩

theorem Bytes.conv {w : World} {A : Option Addr} {n : Nat} {l : List UInt8} (h : Bytes w A n l) (c : Nat) : (convert 32 9 (.slice A n c)).run Tryd.prog w = .ok (.string ⟨l.toArray⟩) w := by
  obtain ⟨rfl, h2⟩ := h
  cases A with
  | none =>
    have hl : l = [] := by
      cases l with
      | nil => rfl
      | cons x t =>
        obtain ⟨ad, e, _⟩ := h2 0 (by simp)
        cases e
    subst hl
    exact run_convert_bytes_nil w 32 5 Tryd.underlying32 Tryd.underlying5 _ _ _ Tryd.underlying9
  | some ad =>
    refine run_convert_bytes_back w 32 9 5 ad c l Tryd.underlying32 Tryd.underlying5 Tryd.underlying9 (fun j hj => ?_)
    obtain ⟨ad', e, _, hc⟩ := h2 j hj
    injection e with e
    subst e
    exact hc

/-- A token's cells. -/
def tokC (t : Tok) : List Value := [.int .i64 (t.kind : Nat), .string ⟨t.text.toArray⟩, .int .u64 (t.val : Nat), .int .i64 (t.line : Nat), .int .i64 (t.col : Nat)]
def toksC (l : List Tok) : List Value := l.flatMap tokC

theorem info_tok : (Tryd.prog.info? 35).map (fun i => (i.zero, i.size, i.bytes)) = some (some (.agg #[.int .i64 0, .string ⟨#[]⟩, .int .u64 0, .int .i64 0, .int .i64 0]), 5, 48) := by kernel_rfl

theorem ownsRow_kept {w w' : World} {g base e size n : Nat} {v : Value} {xs : List Value} (h : w.ownsRow base e size v n xs) (hk : Kept g w w') (hg : v.ownBlock ≠ some g) : w'.ownsRow base e size v n xs := by
  obtain ⟨h1, h2⟩ := h
  refine ⟨h1, ?_⟩
  rcases h2 with h2 | ⟨g', cap, cur, rfl, hb, hh, r⟩
  · exact .inl h2
  · have hne : g' ≠ g := fun e => hg (by rw [← e]; rfl)
    have hlt : g' < w.heap.size := by
      rcases Nat.lt_or_ge g' w.heap.size with h | h
      · exact h
      · rw [Array.getElem?_eq_none h] at hh; cases hh
    exact .inr ⟨g', cap, cur, rfl, hb, (hk.2.2.2.2 g' hlt hne).trans hh, r⟩
theorem ownsRow_blk {w : World} {g base e size n : Nat} {v : Value} {xs : List Value} {t : TypeId} {cs : Array Value} (h : w.ownsRow base e size v n xs) (hg : Blk w g t cs) (hne : e ≠ t) : v.ownBlock ≠ some g := by
  rcases h.2 with ⟨rfl, _⟩ | ⟨g', cap, cur, rfl, _, hh, _⟩
  · simp [Value.ownBlock]
  · intro he
    have : g' = g := by simpa [Value.ownBlock] using he
    subst this
    unfold Blk at hg
    rw [hg] at hh
    injection hh with hh
    injection hh with _ ht
    exact hne ht.symm
theorem ownsRow_new {w : World} {base e size n : Nat} {v : Value} {xs : List Value} (h : w.ownsRow base e size v n xs) (i : Nat) : v.ownBlock ≠ some (w.heap.size + i) := by
  rcases h.2 with ⟨rfl, _⟩ | ⟨g', cap, cur, rfl, _, hh, _⟩
  · simp [Value.ownBlock]
  · intro he
    have : g' = w.heap.size + i := by simpa [Value.ownBlock] using he
    rw [this, Array.getElem?_eq_none (by omega)] at hh
    cases hh
theorem ownsRow_far {w : World} {base e size n b o : Nat} {v : Value} {xs : List Value} (h : w.ownsRow base e size v n xs) (hne : v.ownBlock ≠ some b) (u : Value) : (w.setCell ⟨b, o, none⟩ u).ownsRow base e size v n xs :=
  ownsRow_kept h ((Kept.refl b w).set o u) hne
theorem ownsRow_base {w : World} {base e size n k : Nat} {v : Value} {xs : List Value} (h : w.ownsRow base e size v n xs) (hk : v.ownBlock = some k) : base ≤ k := by
  rcases h.2 with ⟨rfl, _⟩ | ⟨g', cap, cur, rfl, hb, _, _⟩
  · simp [Value.ownBlock] at hk
  · simp [Value.ownBlock] at hk
    omega
theorem ownsRow_slice {w : World} {base e size n : Nat} {v : Value} {xs : List Value} (h : w.ownsRow base e size v n xs) : ∃ a m c, v = .slice a m c := by
  rcases h.2 with ⟨rfl, _⟩ | ⟨g', cap, cur, rfl, _⟩
  · exact ⟨_, _, _, rfl⟩
  · exact ⟨_, _, _, rfl⟩

def LRel (b : ByteArray) (w : World) (g : Nat) (want : Except (Nat × Nat) (List Tok)) (m : Nat) (wr : World) : Prop :=
  ∃ k ln cl v toks, Blk wr g 55 (scs b k ln cl v) ∧ Pos b k ln cl ∧ Below w.heap.size w wr ∧ wr.ownsRow w.heap.size 35 5 v toks.length (toksC toks) ∧ toks.length ≤ k ∧ m = b.size - k ∧ Blk wr w.heap.size 29 #[.int .i64 0, .int .i64 0, .int .i64 0] ∧
    want = match lexLoop (stOf b k ln cl) with | .error f => .error f | .ok l => .ok (toks ++ l)

/-- What Lex leaves. -/
def LexDone (l : List UInt8) (w : World) (e : Ending) (w' : World) : Prop :=
  Below w.heap.size w w' ∧ ((∃ q ln cl, lexS l = .error (q, ln, cl) ∧ e = .returned (.tuple #[.slice none 0 0, .agg #[.int .i64 (q : Nat), .int .i64 (ln : Nat), .int .i64 (cl : Nat)]])) ∨
    ∃ toks v, lexS l = .ok toks ∧ e = .returned (.tuple #[v, .agg #[.int .i64 0, .int .i64 0, .int .i64 0]]) ∧ w'.ownsRow w.heap.size 35 5 v toks.length (toksC toks))

set_option maxHeartbeats 1000000 in
set_option maxRecDepth 10000 in
theorem Lex_any (A : Option Addr) (n c : Nat) (l : List UInt8) (w : World) (hE : Env w) (hl : Bytes w A n l) :
    Calls Tryd.prog 12 #[.slice A n c] w (LexDone l w) := by
  obtain ⟨i0, hi0, hz0, hz1, hz2⟩ := info_parts info_tok
  by_cases hbig : 65536 < l.length
  · have hb : (65536 : Int) < (n : Int) := by have := hl.1; omega
    have hS : lexS l = .error (32, 1, 1) := by unfold lexS; rw [if_pos hbig]
    go_enter Tryd.func12, Tryd.ntmps12
    go_wp2_with fail
    refine bodyPost_ret (v := .tuple #[.slice none 0 0, .agg #[.int .i64 32, .int .i64 1, .int .i64 1]]) (by simp [results, Tryd.results12, go_sem]) rfl ⟨?_, .inl ⟨32, 1, 1, hS, rfl⟩⟩
    exact (Below.refl _ _).alloc (Nat.le_refl _) _
  · have hb : (n : Int) ≤ 65536 := by have := hl.1; omega
    have hcv := fun o => (hl.below (Kit.Below.al (Below.refl w.heap.size w) o)).conv c
    have hlen : (⟨l.toArray⟩ : ByteArray).size = l.length := by simp [ByteArray.size]
    have hrest : (⟨l.toArray⟩ : ByteArray).data.toList = l := rfl
    have hbs : (⟨l.toArray⟩ : ByteArray).size ≤ 65536 := by omega
    have hS : lexS l = match lexLoop (stOf ⟨l.toArray⟩ 0 1 1) with | .error (ln, cl) => .error (20, ln, cl) | .ok ts => .ok ts := by
      unfold lexS
      rw [if_neg hbig]
      rfl
    have HS := Lib.hid hS
    clear hS hbig hrest hlen
    generalize (⟨l.toArray⟩ : ByteArray) = b at *
    have HL := Lib.hid hl
    clear hl
    go_enter Tryd.func12, Tryd.ntmps12
    go_wp2_with fail
    have hbA := Kit.Below.al (Kit.Below.al (Below.refl w.heap.size w) (.cells #[.int .i64 0, .int .i64 0, .int .i64 0] 29)) (.cells (scs b 0 1 1 (.slice none 0 0)) 55)
    go_loopg [] b.size (fun m wr => LRel b w (w.heap.size + 1) (lexLoop (stOf b 0 1 1)) m wr)
    case atStart =>
      refine ⟨0, 1, 1, .slice none 0 0, [], Blk.newAt (sizeA w _) _ _, ⟨by omega, hbs, by omega, by omega⟩, hbA, ⟨rfl, .inl ⟨rfl, rfl⟩⟩, Nat.le_refl _, rfl, (Blk.new w _ _).alloc _, ?_⟩
      cases lexLoop (stOf b 0 1 1) <;> rfl
    case round =>
      clear hbA
      generalize hwant : lexLoop (stOf b 0 1 1) = want at *
      clear hwant
      obtain ⟨k, ln, cl, v, toks, hB, hp, hbw, hown, htk, hm, hF, hw⟩ := hrel
      obtain ⟨oa, on, oc, rfl⟩ := ownsRow_slice hown
      have hg : 3 ≤ w.heap.size + 1 := by have := hE.2.2; omega
      have hEr := hE.below hbw
      have hlt := hB.lt
      have HB := Lib.hid (blanks_any (w.heap.size + 1) b k ln cl _ wr hEr hg hB hp)
      have HW := Lib.hid hw
      have HM := Lib.hid hm
      clear hw hm
      go_wp2_with fail
      refine HB.out.mono ?_
      clear HB
      rintro e w2 ⟨rfl, k1, l1, e1, hT, hp1, hB1, hK1⟩
      have HT := Lib.hid hT
      have HX := Lib.hid (token_any (w.heap.size + 1) b k1 l1 e1 oa on oc w2 (hEr.kept hK1 hg) hg hB1 hp1)
      clear hT
      go_wp2_with fail
      refine HX.out.mono ?_
      clear HX
      rintro e w4 ⟨hK2, hcase⟩
      have hK := hK1.trans hK2
      have hF4 := hF.kept hK (by omega)
      have hown4 := ownsRow_kept hown hK (ownsRow_blk hown hB (by decide))
      have hb4 := hbw.trans (hK.below hbw.size (Nat.le_succ _))
      have hsz : w.heap.size + 1 < w4.heap.size := by have := hK.size; omega
      clear hF hK1 hK2 hB hB1 hown hbw hlt
      rcases hcase with ⟨l0, c0, htok, rfl⟩ | ⟨t, k2, l2, e2, htok, hk2, hp2, hB4, rfl⟩
      · have hS2 : lexS l = .error (20, l0, c0) := by
          have h := HS.out
          rw [HW.out, lexLoop_bad (by rw [HT.out]; exact htok)] at h
          exact h
        have HS2 := Lib.hid hS2
        have n0 := cellA2 (show w4.cell? ⟨w.heap.size, 0, none⟩ = some (.int .i64 0) from hF4.cell 0)
        have n1 := cellA2 (show w4.cell? ⟨w.heap.size, 1, none⟩ = some (.int .i64 0) from hF4.cell 1)
        have n2 := cellA2 (show w4.cell? ⟨w.heap.size, 2, none⟩ = some (.int .i64 0) from hF4.cell 2)
        have fz := fun o1 o2 i => ((hF4.alloc o1).alloc o2).frozen i
        have qq := fun (o : Obj) (i : Nat) => (Blk.newAt (sizeA w4 o) 29 #[.int .i64 20, .int .i64 l0, .int .i64 c0]).cell i
        clear htok hS2 hown4 HS HW HT HM
        go_wp2_with fail
        go_region_held3 (fun w' => w'.cell? ⟨w4.heap.size + 1, 0, none⟩ = some (.int .i64 20) ∧ w'.cell? ⟨w4.heap.size + 1, 1, none⟩ = some (.int .i64 l0) ∧ w'.cell? ⟨w4.heap.size + 1, 2, none⟩ = some (.int .i64 c0)) (refine ⟨?_, ?_, ?_⟩ <;> (try with_reducible refine cellD ?_) <;> (repeat (with_reducible refine cellS ?_ (by omega))) <;> exact qq _ _) (fail)
        go_wp2_with fail
        refine bodyPost_ret (v := .tuple #[.slice none 0 0, .agg #[.int .i64 20, .int .i64 l0, .int .i64 c0]]) (by simp [results, Tryd.results12, go_sem, n0, n1, n2]) rfl ⟨?_, .inl ⟨20, l0, c0, HS2.out, rfl⟩⟩
        repeat (first | with_reducible exact hb4 | with_reducible refine Kit.Below.setN ?_ (by omega) _ | with_reducible refine Kit.Below.al ?_ _ | with_reducible refine Kit.Below.d ?_)
      · have ag : (Value.slice oa on oc).ownBlock ≠ some (w.heap.size + 1) := ownsRow_blk hown4 hB4 (by decide)
        have aF : (Value.slice oa on oc).ownBlock ≠ some w.heap.size := ownsRow_blk hown4 hF4 (by decide)
        have aH : ∀ i, (Value.slice oa on oc).ownBlock ≠ some (w4.heap.size + i) := fun i => ownsRow_new hown4 i
        have hk1 : k ≤ k1 := by
          have h := blanks_len (stOf b k ln cl)
          rw [HT.out, stOf_len, stOf_len] at h
          have := hp.1
          have := hp1.1
          omega
        have htk1 : toks.length + 1 ≤ maxLen := by have := hp.1; have := hp.2.1; unfold maxLen; omega
        have htk2 : (toks.length + 1) * 48 ≤ 140737488355328 := by have := hp.1; have := hp.2.1; omega
        have hbase : w.heap.size ≤ w4.heap.size + 1 + 1 + 1 := by omega
        have g4 := cellA2 (show w4.cell? ⟨w.heap.size + 1, 4, none⟩ = some (.slice oa on oc) from hB4.cell 4)
        have g4' := cellA3 (show w4.cell? ⟨w.heap.size + 1, 4, none⟩ = some (.slice oa on oc) from hB4.cell 4)
        have q0 := fun (o : Obj) (i : Nat) => ((Blk.new w4 35 #[.int .i64 t.kind, .string ⟨t.text.toArray⟩, .int .u64 t.val, .int .i64 t.line, .int .i64 t.col]).alloc o).cell i
        have q1 := fun (o o' : Obj) (i : Nat) => (((Blk.new w4 35 #[.int .i64 t.kind, .string ⟨t.text.toArray⟩, .int .u64 t.val, .int .i64 t.line, .int .i64 t.col]).alloc o).alloc o').cell i
        have HTK := Lib.hid htok
        clear htok
        go_wp2_with fail
        have e00 := fun o => (q0 o 0)
        have e01 := fun o => (q0 o 1)
        have e02 := fun o => (q0 o 2)
        have e03 := fun o => (q0 o 3)
        have e04 := fun o => (q0 o 4)
        go_region_law
          ((refine step_append_lies _ (by rfl) _ _ _ (by rfl) w.heap.size 35 i0 _ 5 48 Tryd.underlying26 hi0 hz0 hz1 hz2 rfl (by omega) (.slice oa on oc) toks.length (toksC toks) (by rfl) ((((hown4.alloc _).alloc _).alloc _).drew) ⟨w4.heap.size + 1 + 1, 0, none⟩ 1 1 (tokC t) (by rfl) (by rfl) (World.news_of_block (cs := #[.int .i64 t.kind, .string ⟨t.text.toArray⟩, .int .u64 t.val, .int .i64 t.line, .int .i64 t.col]) (t := 35) (fr := (0, 0)) (Blk.newAt (by rw [sizeA, sizeA]) _ _)) (by simp [tokC, Value.oneCell']) (by omega) htk1 htk2 (by simp; omega) (w4.heap.size + 1 + 1 + 1) (by simp) ?_; intro g' cap w6 hown6 hgrow hat hlt6; have BG6 := ((((hB4.alloc _).alloc _).alloc _).drew).grown hgrow ag; have BF6 := ((((hF4.alloc _).alloc _).alloc _).drew).grown hgrow aF; have BH6 := ((((Blk.new w4 _ _).alloc _).alloc _).drew).grown hgrow (aH 0); have BI6 := ((((Blk.newAt (sizeA w4 _) _ _).alloc _)).drew).grown hgrow (aH 1); have bg4 : w6.cell? ⟨w.heap.size + 1, 4, none⟩ = some (.slice oa on oc) := BG6.cell 4; have bgf := BG6.frozen 4))
        all_goals
          have hgg : g' ≠ w.heap.size + 1 := by
            rcases hat with h | h
            · rintro rfl; exact ag h
            · omega
          have hgN : g' ≠ w.heap.size := by
            rcases hat with h | h
            · rintro rfl; exact aF h
            · omega
          have BG7 := BG6.set 4 (.slice (some ⟨g', 0, none⟩) (toks.length + 1) cap)
          have BF7 := BF6.farN (b := w.heap.size + 1) (o := 4) (by omega) (.slice (some ⟨g', 0, none⟩) (toks.length + 1) cap)
          have BH7 := BH6.farN (b := w.heap.size + 1) (o := 4) (by omega) (.slice (some ⟨g', 0, none⟩) (toks.length + 1) cap)
          have BI7 := BI6.farN (b := w.heap.size + 1) (o := 4) (by omega) (.slice (some ⟨g', 0, none⟩) (toks.length + 1) cap)
          have hown7 := ownsRow_far hown6 (b := w.heap.size + 1) (o := 4) (by simp [Value.ownBlock]; exact hgg) (.slice (some ⟨g', 0, none⟩) (toks.length + 1) cap)
          have hb7 : Below w.heap.size w (w6.setCell ⟨w.heap.size + 1, 4, none⟩ (.slice (some ⟨g', 0, none⟩) (toks.length + 1) cap)) :=
            Kit.Below.setN ((Kit.Below.d (Kit.Below.al (Kit.Below.al (Kit.Below.al hb4 _) _) _)).grown hgrow (by simp; omega) (fun j hj => ownsRow_base hown4 hj)) (by omega) _
          generalize w6.setCell ⟨w.heap.size + 1, 4, none⟩ (.slice (some ⟨g', 0, none⟩) (toks.length + 1) cap) = w7 at *
          clear BG6 BF6 BH6 BI6 bg4 bgf hown6 hgrow hlt6 e00 e01 e02 e03 e04 q0 q1 g4 g4' hown4 hF4 hB4
          have HTC : toksC toks ++ tokC t = toksC (toks ++ [t]) := by simp [toksC]
          rw [HTC] at hown7
          have x0 : w7.cell? ⟨w4.heap.size, 0, none⟩ = some (.int .i64 t.kind) := BH7.cell 0
          by_cases hk5 : t.kind = 5
          · have hS2 : lexS l = .ok (toks ++ [t]) := by
              have h := HS.out
              rw [HW.out, lexLoop_end (by rw [HT.out]; exact HTK.out) hk5] at h
              exact h
            have HS2 := Lib.hid hS2
            have hk5' : ((t.kind : Int) == 5) = true := by simp [hk5]
            have y4 : w7.cell? ⟨w.heap.size + 1, 4, none⟩ = some (.slice (some ⟨g', 0, none⟩) (toks.length + 1) cap) := BG7.cell 4
            have i0' : w7.cell? ⟨w4.heap.size + 1, 0, none⟩ = some (.int .i64 0) := BI7.cell 0
            have i1' : w7.cell? ⟨w4.heap.size + 1, 1, none⟩ = some (.int .i64 0) := BI7.cell 1
            have i2' : w7.cell? ⟨w4.heap.size + 1, 2, none⟩ = some (.int .i64 0) := BI7.cell 2
            have n0 : w7.cell? ⟨w.heap.size, 0, none⟩ = some (.int .i64 0) := BF7.cell 0
            have n1 : w7.cell? ⟨w.heap.size, 1, none⟩ = some (.int .i64 0) := BF7.cell 1
            have n2 : w7.cell? ⟨w.heap.size, 2, none⟩ = some (.int .i64 0) := BF7.cell 2
            have fz := fun i => BF7.frozen i
            clear hS2 hk5 HS HW HT HTK HTC
            go_wp2_with fail
            go_region_held3 (fun w' => w'.cell? ⟨w.heap.size + 1, 4, none⟩ = some (.slice (some ⟨g', 0, none⟩) (toks.length + 1) cap) ∧ w'.cell? ⟨w4.heap.size + 1, 0, none⟩ = some (.int .i64 0) ∧ w'.cell? ⟨w4.heap.size + 1, 1, none⟩ = some (.int .i64 0) ∧ w'.cell? ⟨w4.heap.size + 1, 2, none⟩ = some (.int .i64 0)) (refine ⟨?_, ?_, ?_, ?_⟩ <;> (try with_reducible refine cellD ?_) <;> (repeat (with_reducible refine cellS ?_ (by omega))) <;> assumption) (fail)
            go_wp2_with fail
            refine bodyPost_ret (v := .tuple #[.slice (some ⟨g', 0, none⟩) (toks.length + 1) cap, .agg #[.int .i64 0, .int .i64 0, .int .i64 0]]) (by simp [results, Tryd.results12, go_sem, n0, n1, n2]) rfl ⟨?_, .inr ⟨toks ++ [t], .slice (some ⟨g', 0, none⟩) (toks.length + 1) cap, HS2.out, rfl, ?_⟩⟩
            · repeat (first | with_reducible exact hb7 | with_reducible refine Kit.Below.setN ?_ (by omega) _ | with_reducible refine Kit.Below.al ?_ _ | with_reducible refine Kit.Below.d ?_)
            · rw [List.length_append]
              exact ownsRow_far (ownsRow_far (ownsRow_far hown7 (by simp [Value.ownBlock]; exact hgN) _) (by simp [Value.ownBlock]; exact hgN) _) (by simp [Value.ownBlock]; exact hgN) _
          · have hk5' : ((t.kind : Int) == 5) = false := by simp; omega
            go_wp2_with fail
            have hless : b.size - k2 < b.size - k1 := by
              have h := tokenS_less HTK.out hk5
              rwa [stOf_len, stOf_len] at h
            go_roundg (b.size - k2)
            case measure => have := HM.out; omega
            case rel =>
              refine ⟨k2, l2, e2, _, toks ++ [t], BG7, hp2, hb7, by rw [List.length_append]; exact hown7, by rw [List.length_append]; have := hp2.1; simp; omega, rfl, BF7, ?_⟩
              rw [HW.out, lexLoop_more (by rw [HT.out]; exact HTK.out) hk5]
              cases lexLoop (stOf b k2 l2 e2) with
              | error f => rfl
              | ok l => simp
end Go.Proofs.YtpamnnllijkpfaaDoor.LexW
