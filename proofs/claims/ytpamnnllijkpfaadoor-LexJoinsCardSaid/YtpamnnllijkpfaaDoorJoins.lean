/- WALKS: the law LexJoins. -/
import Derived.Test.YtpamnnllijkpfaaDoorMetaE
import Derived.Test.YtpamnnllijkpfaaDoorOwnB
import Derived.Test.YtpamnnllijkpfaaDoorRefR
namespace Go.Proofs.YtpamnnllijkpfaaDoor.LexP
open Go
theorem placed_text {b : List UInt8} {K : Nat} : ∀ (toks : List Tok) (k e : Nat), Placed b K k e toks → ∀ t ∈ toks, t.text.length ≤ b.length
  | [], _, _, _, t, h => by cases h
  | t :: ts, _, _, hp, u, hu => by
    obtain ⟨j, _, _, _, _, h, _, _, _, _, hr⟩ := hp
    rcases List.mem_cons.1 hu with rfl | hu
    · exact Nat.le_trans h (stn_len b 1 1 j)
    · exact placed_text ts _ _ hr u hu
end Go.Proofs.YtpamnnllijkpfaaDoor.LexP
namespace Go.Proofs.YtpamnnllijkpfaaDoor.LexW
open Go Go.RowKit Go.Proofs.YtpamnnllijkpfaaDoor.Kit Go.Proofs.YtpamnnllijkpfaaDoor.LexP

/-- A text appended; and where it lies then. -/
theorem append_text_at (W : World) (base : Nat) (v : Value) (l : List UInt8) (s : ByteArray) (hown : Owns W base v l) (hbase : base ≤ W.heap.size) (hsz : l.length + s.size ≤ 4194304) :
    ∃ v' w', (Builtin.append_ #[32, 9] 32 #[v, .string s]).run Tryd.prog W = .ok v' w' ∧ Owns w' base v' (l ++ s.data.toList) ∧ W.grownBy w' v.ownBlock ∧ (∀ b, v'.ownBlock = some b → v.ownBlock = some b ∨ W.heap.size ≤ b) := by
  obtain ⟨i0, hi0, hz0, hz1, hz2⟩ := info_parts info_u8
  obtain ⟨v', w', hrun, h2, h3, hiff⟩ := Lib.run_append_own_string (P := Tryd.prog) W base 32 9 32 5 i0 Tryd.underlying32 Tryd.underlying9 hi0 hz0 hz1 hz2 v l.length (bytesV l) hown s (by unfold maxLen; omega) (by omega) hbase
  refine ⟨v', w', hrun, ?_, h3, ?_⟩
  · unfold Owns
    rw [List.length_append, show bytesV (l ++ s.data.toList) = bytesV l ++ Lib.strCells s by simp [bytesV, Lib.strCells], ← Lib.size_eq]
    exact h2
  · intro b hb
    rcases hown.2 with ⟨rfl, h0⟩ | ⟨g, cap, cur, rfl, hbg, hg, hnc, hcm, hcs, htake⟩
    · by_cases hs : s.size = 0
      · rw [hiff.2 ⟨rfl, hs⟩] at hb
        cases hb
      · have hr := Go.run_append_nil_string (P := Tryd.prog) W 32 9 32 5 i0 (.int .u8 0) Tryd.underlying32 Tryd.underlying9 hi0 hz0 s (by omega) (by omega) (by rw [hz2]; omega)
        have he := hrun.symm.trans hr
        injection he with he _
        subst he
        have : W.heap.size = b := by simpa [Value.ownBlock] using hb
        exact .inr (by omega)
    · by_cases hroom : l.length + s.size ≤ cap
      · have hr := Lib.run_append_room_string (P := Tryd.prog) W 32 9 32 5 i0 Tryd.underlying32 Tryd.underlying9 hi0 hz1 g l.length cap cur hg s hroom (by omega)
        have he := hrun.symm.trans hr
        injection he with he _
        subst he
        exact .inl hb
      · have hr := Lib.run_append_grow_string (P := Tryd.prog) W 32 9 32 5 i0 (.int .u8 0) Tryd.underlying32 Tryd.underlying9 hi0 hz0 ⟨g, 0, none⟩ l.length cap (bytesV l) (by rw [bytesV_len, hz1]; omega) (World.ownsRow.cells hown (g := g) rfl) s (by omega) (by omega) (by rw [hz2]; exact growslice_fits (by omega) (by omega))
        have he := hrun.symm.trans hr
        injection he with he _
        subst he
        have : W.heap.size = b := by simpa [Value.ownBlock] using hb
        exact .inr (by omega)
theorem wpList_append_text {P : Program} {w : World} {ops : Array Oper} {rest : List Oper} {o : Oper} {a : Act} {Q : Exit → Act → World → Prop} (hgd : o.guard = none) (s x : Operand) (t u : TypeId)
    (ho : o.op = .call { callee := .builtin .append, args := #[s, x], argTypes := #[t, u] }) {vs vx v' : Value} {w' : World} (hs : a.eval s = vs) (hx : a.eval x = vx)
    (hrun : (Builtin.append_ #[t, u] o.type #[vs, vx]).run P w = .ok v' w') (hK : wpList P ops Q rest (a.put o.dst v') w') : wpList P ops Q (o :: rest) a w := by
  refine wpList_plain hgd fun K hK' => ?_
  unfold Oper.wp
  simp [execOp, ho, resolve, invoke, builtin, hs, hx, hrun, Result.andThen]
  exact hK' _ _ hK

def Apart (v v' : Value) : Prop := ∀ b, v.ownBlock = some b → v'.ownBlock ≠ some b
theorem Apart.symm {v v' : Value} (h : Apart v v') : Apart v' v := fun b hb hb' => h b hb' hb
theorem Apart.step {w : World} {base : Nat} {v v' v2 : Value} {l2 : List UInt8} (h : Apart v v2) (hv : ∀ b, v'.ownBlock = some b → v.ownBlock = some b ∨ w.heap.size ≤ b) (ho : Owns w base v2 l2) : Apart v' v2 := by
  intro b hb hb2
  rcases hv b hb with h1 | h1
  · exact h b h1 hb2
  · have := ownsRow_new ho (b - w.heap.size)
    rw [show w.heap.size + (b - w.heap.size) = b by omega] at this
    exact this hb2
theorem Owns.other {w w' : World} {base : Nat} {v v2 : Value} {l : List UInt8} (h : Owns w base v2 l) (hg : w.grownBy w' v.ownBlock) (ha : Apart v v2) : Owns w' base v2 l := by
  refine ⟨h.1, ?_⟩
  rcases h.2 with h2 | ⟨g, cap, cur, rfl, hb2, hh, r⟩
  · exact .inl h2
  · refine .inr ⟨g, cap, cur, rfl, hb2, ?_, r⟩
    have hlt : g < w.heap.size := by
      rcases Nat.lt_or_ge g w.heap.size with h | h
      · exact h
      · rw [Array.getElem?_eq_none h] at hh; cases hh
    exact (hg.block g hlt (fun e => ha g e.symm rfl)).trans hh

def AgRel (len : Nat) (W : World) (m : Nat) (s9 : Value) (wr : World) : Prop := ∃ i q : Nat, s9 = .int .i64 i ∧ wr = W.drewN q ∧ i ≤ len ∧ m = len - i

set_option maxHeartbeats 1000000 in
set_option maxRecDepth 10000 in
theorem again_any (g2 cap2 : Nat) (toks : List Tok) (A : Option Addr) (n c : Nat) (P : List UInt8) (lines : Bool) (w : World) (hE : Env w) (hT : Toks w g2 0 toks) (htl : toks.length ≤ 70000) (hB : Bytes w A n P)
    (hP : P.length ≤ 65536 → ∃ toks', lexLoop ⟨P, 1, 1⟩ = .ok toks' ∧ toks'.map core = toks.map core ∧ (lines = true → ∀ i (h : i < toks'.length), (toks'[i]).line = i + 1 ∧ (toks'[i]).col = 1)) :
    Calls Tryd.prog 20 #[.slice (some ⟨g2, 0, none⟩) toks.length cap2, .slice A n c, .bool lines] w fun e w' => e = .returned (.bool true) ∧ Below w.heap.size w w' := by
  obtain rfl := hB.1
  have hX := Lex_any A P.length c P w hE hB
  go_enter Tryd.func20, Tryd.ntmps20
  go_wp2_with fail
  refine hX.mono ?_
  clear hX
  rintro e w2 ⟨h2, hcase⟩
  by_cases hbig : 65536 < P.length
  · have hS : lexS P = .error (32, 1, 1) := by unfold lexS; rw [if_pos hbig]
    have b1 : (65536 : Int) < (P.length : Int) := by omega
    rcases hcase with ⟨q, ln, cl, hls, rfl⟩ | ⟨toks2, v, hls, rfl, hown⟩
    · rw [hS] at hls
      injection hls with hls
      injection hls with e1 hls
      injection hls with e2 e3
      subst e1 e2 e3
      clear hS hP
      go_wp2_with fail
      go_ret
      exact ⟨rfl, Kit.Below.al h2 _⟩
    · rw [hS] at hls
      cases hls
  · have b1 : ¬ ((65536 : Int) < (P.length : Int)) := by omega
    obtain ⟨toks', hlp, hcore, hlines⟩ := hP (by omega)
    have hS : lexS P = .ok toks' := by
      unfold lexS
      rw [if_neg hbig, hlp]
    rcases hcase with ⟨q, ln, cl, hls, rfl⟩ | ⟨toks2, v, hls, rfl, hown⟩
    · rw [hS] at hls
      cases hls
    · rw [hS] at hls
      injection hls with hls
      subst hls
      obtain ⟨g3, cap3, rfl, hg3, hT3⟩ := Toks.own hown (lexS_pos hS)
      have hleq : toks'.length = toks.length := by
        have := congrArg List.length hcore
        simpa using this
      have hba := Kit.Below.al (Below.refl w2.heap.size w2) (.cells #[.int .i64 0, .int .i64 0, .int .i64 0] 29)
      have HT3 := Lib.hid (hT3.below hba)
      have HT := Lib.hid ((hT.below h2).below hba)
      have hb3 := Kit.Below.then h2 hba
      have HC := Lib.hid hcore
      have HLN := Lib.hid hlines
      have HLQ := Lib.hid hleq
      have hleqI : (toks'.length : Int) = (toks.length : Int) := by rw [hleq]
      have hneq : ((toks'.length : Int) != (toks.length : Int)) = false := by rw [hleq]; simp
      clear hcore hlines hT hT3 hown hS hlp hP hleq
      go_wp2_with fail
      generalize w2.alloc (.cells #[.int .i64 0, .int .i64 0, .int .i64 0] 29) = W at *
      go_loopg [9] toks.length (fun m s9 wr => AgRel toks.length W m s9 wr)
      case atStart => exact ⟨0, 0, rfl, rfl, Nat.zero_le _, rfl⟩
      case round =>
        obtain ⟨i, q, rfl, rfl, hi, hm⟩ := hrel
        have HM := Lib.hid hm
        clear hm
        by_cases hil : i < toks.length
        · have hil' : i < toks'.length := by rw [HLQ.out]; exact hil
          have a1 : (i : Int) < (toks.length : Int) := by omega
          have a2 : (0 : Int) ≤ (i : Int) := by omega
          have a3 : (i : Int) < (toks'.length : Int) := by omega
          obtain ⟨m0, m1, m2, m3, m4⟩ := HT3.out.2.2 i hil' (Nat.zero_le _)
          obtain ⟨t0, t1, t2, _, _⟩ := HT.out.2.2 i hil (Nat.zero_le _)
          have hce : core toks'[i] = core toks[i] := by
            have h := congrArg (fun l => l[i]?) HC.out
            simp only [List.getElem?_map, List.getElem?_eq_getElem hil', List.getElem?_eq_getElem hil, Option.map_some] at h
            exact Option.some.inj h
          unfold core at hce
          injection hce with k1 hce
          injection hce with k2 k3
          rw [k1] at m0
          rw [k2] at m1
          rw [k3] at m2
          clear k1 k2 k3
          cases lines with
          | false =>
            go_wp2_with fail
            go_quiet (fail)
            go_wp2_with fail
            go_roundg (toks.length - (i + 1))
            case measure => have := HM.out; omega
            case rel => exact ⟨i + 1, _, rfl, rfl, by omega, rfl⟩
          | true =>
            obtain ⟨k4, k5⟩ := HLN.out rfl i hil'
            rw [k4] at m3
            rw [k5] at m4
            have k6 : (((i + 1 : Nat) : Int) != (i : Int) + 1) = false := by simp
            clear k4 k5
            go_wp2_with fail
            go_quiet (fail)
            go_wp2_with fail
            go_roundg (toks.length - (i + 1))
            case measure => have := HM.out; omega
            case rel => exact ⟨i + 1, _, rfl, rfl, by omega, rfl⟩
        · obtain rfl : i = toks.length := by omega
          have a1 : ¬ ((toks.length : Int) < (toks.length : Int)) := by omega
          go_wp2_with fail
          go_ret
          exact ⟨rfl, Kit.Below.dn hb3⟩

def JoRel (toks : List Tok) (W : World) (m : Nat) (s5 s6 s7 : Value) (wr : World) : Prop :=
  ∃ i : Nat, s7 = .int .i64 i ∧ i + 1 ≤ toks.length ∧ m = toks.length - i ∧ Below W.heap.size W wr ∧ Owns wr W.heap.size s5 ((toks.take i).flatMap fun t => t.text ++ glue1) ∧ Owns wr W.heap.size s6 ((toks.take i).flatMap fun t => t.text ++ glue2) ∧ Apart s5 s6
theorem take_flat (toks : List Tok) (g : List UInt8) (i : Nat) (h : i < toks.length) : (toks.take (i + 1)).flatMap (fun t => t.text ++ g) = ((toks.take i).flatMap fun t => t.text ++ g) ++ (toks[i]).text ++ g := by
  rw [List.take_succ_eq_append_getElem h, List.flatMap_append]
  simp

set_option maxHeartbeats 2000000 in
set_option maxRecDepth 10000 in
theorem LexJoins_any (A : Option Addr) (n c : Nat) (l : List UInt8) (w : World) (hE : Env w) (hl : Bytes w A n l) :
    Calls Tryd.prog 6 #[.slice A n c] w fun e w' => e = .returned (.bool true) ∧ Below w.heap.size w w' := by
  obtain rfl := hl.1
  have HL := Lib.hid hl
  clear hl
  go_enter Tryd.func6, Tryd.ntmps6
  go_wp2_with fail
  refine (awake_any _ hE).mono ?_
  rintro e w1 ⟨rfl, h1⟩
  have hX := Lex_any A l.length c l w1 (hE.below h1) (HL.out.below h1)
  go_wp2_with fail
  refine hX.mono ?_
  clear hX
  rintro e w2 ⟨h2, hcase⟩
  have hb2 := Kit.Below.then h1 h2
  rcases hcase with ⟨q, ln, cl, hls, rfl⟩ | ⟨toks, v, hls, rfl, hown⟩
  · have hq := lexS_err hls
    have hq2 : ((q : Int) == 0) = false := by rw [beq_eq_false_iff_ne]; omega
    have hq3 : ((q : Int) != 0) = true := by simp [bne]; omega
    clear hls hq
    go_wp2_with fail
    go_ret
    exact ⟨rfl, Kit.Below.al hb2 _⟩
  · have hpos := lexS_pos hls
    have htl := lexS_le hls
    obtain ⟨hsm, hlp⟩ := lexS_small hls
    obtain ⟨g2, cap2, rfl, hg2, hT2⟩ := Toks.own hown hpos
    have htext : ∀ t ∈ toks, t.text.length ≤ l.length := placed_text toks 0 0 (placed_loop l _ (cnt_rest ⟨l, 1, 1⟩) _ 0 0 0 toks rfl (Nat.zero_le _) (Nat.le_refl _) (Nat.zero_le _) hlp)
    have hba := Kit.Below.al (Below.refl w2.heap.size w2) (.cells #[.int .i64 0, .int .i64 0, .int .i64 0] 29)
    have hT3 := hT2.below hba
    have hb3 := Kit.Below.then hb2 hba
    have hj1 : ∃ toks', lexLoop ⟨toks.dropLast.flatMap (fun t => t.text ++ glue1), 1, 1⟩ = .ok toks' ∧ toks'.map core = toks.map core := join1 hlp
    have hj2 : ∃ toks', lexLoop ⟨toks.dropLast.flatMap (fun t => t.text ++ glue2), 1, 1⟩ = .ok toks' ∧ toks'.map core = toks.map core ∧ ∀ i (h : i < toks'.length), (toks'[i]).line = i + 1 ∧ (toks'[i]).col = 1 := join2 hlp
    have HJ1 := Lib.hid hj1
    have HJ2 := Lib.hid hj2
    have HTX := Lib.hid htext
    clear hls hown hT2 hj1 hj2 htext hlp hba
    go_upto_region 6 with fail
    generalize w2.alloc (.cells #[.int .i64 0, .int .i64 0, .int .i64 0] 29) = W at *
    obtain ⟨i0, hi0, hz0, hz1, hz2⟩ := info_parts info_u8
    obtain ⟨wA, hmk, hownA, hgrow⟩ := Go.run_makeSlice_owned (P := Tryd.prog) W W.heap.size 32 5 i0 _ 1 Tryd.underlying32 hi0 hz0 hz1 .i64 .i64 0 (by omega) (by omega) (by decide) (Nat.le_refl _)
    rw [Int.natCast_zero] at hmk
    have hbA := (Below.refl W.heap.size W).grown hgrow (by omega) (fun j hj => by cases hj)
    have hszA := hbA.size
    obtain ⟨wB, hmk2, hownB, hgrow2⟩ := Go.run_makeSlice_owned (P := Tryd.prog) wA W.heap.size 32 5 i0 _ 1 Tryd.underlying32 hi0 hz0 hz1 .i64 .i64 0 (by omega) (by omega) (by decide) hszA
    rw [Int.natCast_zero] at hmk2
    have hbB := (Below.refl wA.heap.size wA).grown hgrow2 (by omega) (fun j hj => by cases hj)
    have hbg : Below W.heap.size W wB := hbA.trans (hbB.mono hszA)
    have hO1 : Owns wB W.heap.size (.slice (some ⟨W.heap.size, 0, none⟩) 0 0) [] := Owns.below hownA hbB
    have hO2 : Owns wB W.heap.size (.slice (some ⟨wA.heap.size, 0, none⟩) 0 0) [] := hownB
    have hap : Apart (.slice (some ⟨W.heap.size, 0, none⟩) 0 0) (.slice (some ⟨wA.heap.size, 0, none⟩) 0 0) := by
      intro b hb hb'
      have h1 := ownsRow_new hownA 0
      rw [Nat.add_zero] at h1
      have e1 : W.heap.size = b := by simpa [Value.ownBlock] using hb
      have e2 : wA.heap.size = b := by simpa [Value.ownBlock] using hb'
      apply h1
      show some W.heap.size = _
      rw [e1, e2]
    clear hgrow hgrow2 hownA hownB hbA hbB
    have HT := Lib.hid hT3
    have hgW := hT3.1
    clear hT3
    have HL2 := HL
    clear HL
    go_wp2_with fail
    clear hmk hmk2
    go_loopg [5, 6, 7] toks.length (fun m s5 s6 s7 wr => JoRel toks W m s5 s6 s7 wr)
    case atStart => exact ⟨0, rfl, hpos, rfl, hbg, hO1, hO2, hap⟩
    case round =>
      clear hO1 hO2 hap hbg
      obtain ⟨i, rfl, hi, hm, hbw, ho5, ho6, hap⟩ := hrel
      have HM := Lib.hid hm
      clear hm
      have hbt := Kit.Below.then hb3 hbw
      obtain ⟨A5, c5, rfl, hB5, _⟩ := ho5.bytes
      obtain ⟨A6, c6, rfl, hB6, _⟩ := ho6.bytes
      have a2 : (0 : Int) ≤ (i : Int) := by omega
      by_cases hlt : i + 1 < toks.length
      · have hil : i < toks.length := by omega
        have a1 : (i : Int) + 1 < (toks.length : Int) := by omega
        have a3 : (i : Int) < (toks.length : Int) := by omega
        have hq1 := take_flat toks glue1 i hil
        have hq2 := take_flat toks glue2 i hil
        have HQ1 := Lib.hid hq1
        have HQ2 := Lib.hid hq2
        clear hq1 hq2
        generalize ((toks.take i).flatMap fun t => t.text ++ glue1) = P1 at *
        generalize ((toks.take i).flatMap fun t => t.text ++ glue2) = P2 at *
        by_cases hg1 : 65536 < P1.length
        · have b1 : (65536 : Int) < (P1.length : Int) := by omega
          go_wp2_with fail
          go_ret
          exact ⟨rfl, hbt⟩
        · have b1 : ¬ ((65536 : Int) < (P1.length : Int)) := by omega
          by_cases hg2' : 65536 < P2.length
          · have b2 : (65536 : Int) < (P2.length : Int) := by omega
            go_wp2_with fail
            go_ret
            exact ⟨rfl, hbt⟩
          · have b2 : ¬ ((65536 : Int) < (P2.length : Int)) := by omega
            have hsz := hbw.size
            have htx := HTX.out _ (List.getElem_mem hil)
            have hxs : (⟨(toks[i]).text.toArray⟩ : ByteArray).size = (toks[i]).text.length := by simp [ByteArray.size]
            have hxd : (⟨(toks[i]).text.toArray⟩ : ByteArray).data.toList = (toks[i]).text := rfl
            have htr := (HT.out.below hbw).2.2 i hil (Nat.zero_le _)
            obtain ⟨_, t1, _, _, _⟩ := htr
            generalize hx : (⟨(toks[i]).text.toArray⟩ : ByteArray) = x at *
            obtain ⟨va, wa, hrun1, howa, hgra, hva⟩ := append_text_at wr W.heap.size (.slice A5 P1.length c5) P1 x ho5 hsz (by omega)
            have hbwa : Below W.heap.size W wa := grown_below ho5 hbw hgra hsz
            have ho6a := ho6.other hgra hap
            have hapa : Apart va (.slice A6 P2.length c6) := hap.step hva ho6
            have hsza := hbwa.size
            obtain ⟨vb, wb, hrun2, howb, hgrb, hvb⟩ := append_owned (wa.alloc (.cells #[.int .u8 32] 5)) W.heap.size va (P1 ++ x.data.toList) (some ⟨wa.heap.size, 0, none⟩) 1 1 [32] (howa.below (Kit.Below.al (Below.refl _ _) _)) (Bytes.new wa [32] (0, 0)) (by simp; omega) (by rw [List.length_append, ← Lib.size_eq]; omega)
            have hbwb : Below W.heap.size W wb := grown_below (howa.below (Kit.Below.al (Below.refl _ _) _)) (hbwa.alloc hsza _) hgrb (by simp; omega)
            have ho6a' := ho6a.below (Kit.Below.al (Below.refl wa.heap.size wa) (.cells #[.int .u8 32] 5))
            have ho6b := ho6a'.other hgrb hapa
            have hapb : Apart vb (.slice A6 P2.length c6) := hapa.step hvb ho6a'
            have hszb := hbwb.size
            have htrb := (HT.out.below hbwb).2.2 i hil (Nat.zero_le _)
            obtain ⟨_, t1b, _, _, _⟩ := htrb
            rw [hx] at t1b
            obtain ⟨vc, wc, hrun3, howc, hgrc, hvc⟩ := append_text_at wb W.heap.size (.slice A6 P2.length c6) P2 x ho6b hszb (by omega)
            have hbwc : Below W.heap.size W wc := grown_below ho6b hbwb hgrc hszb
            have ho5c := howb.other hgrc hapb.symm
            have hapc : Apart vc vb := hapb.symm.step hvc howb
            have hszc := hbwc.size
            obtain ⟨vd, wd, hrun4, howd, hgrd, hvd⟩ := append_text_at wc W.heap.size vc (P2 ++ x.data.toList) ⟨#[47, 47, 32, 206, 177, 10]⟩ howc hszc (by rw [List.length_append, ← Lib.size_eq]; show _ + 6 ≤ _; omega)
            have hbwd : Below W.heap.size W wd := grown_below howc hbwc hgrd hszc
            have ho5d := ho5c.other hgrd hapc
            have hapd : Apart vb vd := (hapc.step hvd ho5c).symm
            have HR1 := Lib.hid hrun1
            have HR2 := Lib.hid hrun2
            have HR3 := Lib.hid hrun3
            have HR4 := Lib.hid hrun4
            have HO5 := Lib.hid ho5d
            have HO6 := Lib.hid howd
            have HXD := Lib.hid hxd
            clear hrun1 hrun2 hrun3 hrun4 ho5 ho6 howa ho6a ho6a' howb ho6b howc ho5c howd ho5d hxs hxd hgra hgrb hgrc hgrd hva hvb hvc hvd hB5 hB6
            go_upto_region 14 with (first | (at_builtin; refine wpList_append_text (by rfl) _ _ _ _ (by rfl) rfl rfl HR1.out ?_))
            go_upto_region 15 with (first | (at_builtin; refine wpList_append_given (by rfl) _ _ _ (by rfl) rfl rfl HR2.out ?_))
            go_upto_region 16 with (first | (at_builtin; refine wpList_append_text (by rfl) _ _ _ _ (by rfl) rfl rfl HR3.out ?_))
            go_wp2_with (first | (at_builtin; refine wpList_append_text (by rfl) _ _ _ _ (by rfl) rfl rfl HR4.out ?_))
            go_roundg (toks.length - (i + 1))
            case measure => have := HM.out; omega
            case rel =>
              refine ⟨i + 1, rfl, by omega, rfl, hbwd, ?_, ?_, hapd⟩
              · rw [HQ1.out, ← HXD.out]
                exact HO5.out
              · rw [HQ2.out, ← HXD.out]
                exact HO6.out
      · have a1 : ¬ ((i : Int) + 1 < (toks.length : Int)) := by omega
        have hdl : toks.take i = toks.dropLast := by
          rw [List.dropLast_eq_take]
          congr 1
          omega
        rw [hdl] at hB5 hB6 ho5 ho6 ⊢
        clear hdl
        have hTr := HT.out.below hbw
        obtain ⟨T1, q1, q2⟩ := HJ1.out
        obtain ⟨T2, q3, q4, q5⟩ := HJ2.out
        generalize (toks.dropLast.flatMap fun t => t.text ++ glue1) = P1 at *
        generalize (toks.dropLast.flatMap fun t => t.text ++ glue2) = P2 at *
        have hA1 := again_any g2 cap2 toks A5 P1.length c5 P1 false wr (hE.below hbt) hTr (by omega) hB5 (fun _ => ⟨T1, q1, q2, fun h => by cases h⟩)
        have hA2 := fun w' (hw' : Below wr.heap.size wr w') => again_any g2 cap2 toks A6 P2.length c6 P2 true w' (hE.below (Kit.Below.then hbt hw')) (hTr.below hw') (by omega) (hB6.below hw') (fun _ => ⟨T2, q3, q4, fun _ => q5⟩)
        have HA1 := Lib.hid hA1
        have HA2 := Lib.hid hA2
        clear hA1 hA2 q1 q2 q3 q4 q5 ho5 ho6 hB5 hB6
        go_wp2_with fail
        refine HA1.out.mono ?_
        rintro e w4 ⟨rfl, h4⟩
        go_wp2_with fail
        refine (HA2.out _ h4).mono ?_
        rintro e w5 ⟨rfl, h5⟩
        go_wp2_with fail
        go_ret
        exact ⟨rfl, Kit.Below.then (Kit.Below.then hbt h4) h5⟩
end Go.Proofs.YtpamnnllijkpfaaDoor.LexW
