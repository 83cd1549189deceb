/- WALKS: strings.ContainsRune over the signs of one byte. -/
import Derived.Test.YtpamnnllijkpfaaDoorLexH
namespace Go.Proofs.YtpamnnllijkpfaaDoor.LexW
open Go Go.RowKit Go.Proofs.YtpamnnllijkpfaaDoor.Kit Go.Proofs.YtpamnnllijkpfaaDoor.LexP

def single : ByteArray := ⟨#[43, 45, 42, 38, 94, 124, 126, 33, 60, 62, 61, 40, 41, 91, 93, 123, 125, 44, 59]⟩
theorem single_size : single.size = 19 := rfl
theorem single_low : ∀ c ∈ single.data.toList, c.toNat < 128 := by decide
theorem single_asc : Asc single := fun j hj => single_low _ (List.getElem_mem (l := single.data.toList) (n := j) hj)

def IRel (w : World) (m : Nat) (wr : World) : Prop := ∃ pos : Nat, wr = w.iter single pos ∧ m = 19 - pos

set_option maxHeartbeats 1000000 in
set_option maxRecDepth 10000 in
theorem indexRune_err (w : World) :
    Calls Tryd.prog 56 #[.string single, .int .i32 65533] w fun e w' => e = .returned (.int .i64 (-1)) ∧ Below w.heap.size w w' := by
  go_enter Tryd.func56, Tryd.ntmps56
  go_wp2_with fail
  go_loopg [] 19 (fun m wr => IRel w m wr)
  case atStart => exact ⟨0, rfl, rfl⟩
  case round =>
    obtain ⟨pos, rfl, hm⟩ := hrel
    have HM := Lib.hid hm
    clear hm
    by_cases hp : pos < single.size
    · have hx : (single[pos]'hp).toNat < 128 := single_asc pos hp
      have hnx : ∀ ty, (Instr.next (.pointer (some ⟨w.heap.size, 0, none⟩)) true ty).run Tryd.prog (w.iter single pos) = _ := fun ty => run_next_ascii w single pos ty hp hx
      generalize (single[pos]'hp) = c at *
      have hne : ((c.toNat : Int) == 65533) = false := by simp; omega
      go_wp2_with fail
      go_roundg (19 - (pos + 1))
      case measure => have := HM.out; rw [single_size] at hp; omega
      case rel => exact ⟨pos + 1, rfl, rfl⟩
    · have hnx : ∀ ty, (Instr.next (.pointer (some ⟨w.heap.size, 0, none⟩)) true ty).run Tryd.prog (w.iter single pos) = _ := fun ty => run_next_end w single pos ty hp
      go_wp2_with fail
      go_ret
      exact ⟨rfl, (Below.refl _ _).alloc (Nat.le_refl _) _⟩

theorem indexByte_none (l : List UInt8) (c : UInt8) (h : c ∉ l) : Lib.indexByte l c = -1 := by
  induction l with
  | nil => rfl
  | cons b l ih =>
    simp only [List.mem_cons, not_or] at h
    unfold Lib.indexByte
    rw [if_neg (by simpa using fun e => h.1 e.symm), ih h.2]
    rfl

set_option maxHeartbeats 1000000 in
set_option maxRecDepth 10000 in
theorem indexRune_bad (r : Int) (h0 : 128 ≤ r) (h1 : r ≤ 1114111) (h2 : r ≠ 65533) (hv : Lib.validRune r = false) (w : World) :
    Calls Tryd.prog 56 #[.string single, .int .i32 r] w fun e w' => e = .returned (.int .i64 (-1)) ∧ Below w.heap.size w w' := by
  have e1 : (r == 65533) = false := by simpa using h2
  have hV : Hid (∀ w, Calls Tryd.prog 62 #[.int .i32 r] w fun e w' => e = .returned (.bool false) ∧ w' = w) := fun w => by have := Tryd.utf8_ValidRune r w; rwa [hv] at this
  clear h2 hv
  go_enter Tryd.func56, Tryd.ntmps56
  go_wp2_with (go_at_call 62; refine (hV.out _).mono ?_; rintro e w' ⟨rfl, rfl⟩)
  go_ret
  exact ⟨rfl, Below.refl _ _⟩

theorem encode_of (r : Int) (h0 : 128 ≤ r) : (∃ x y : UInt8, Utf8.encode r = ⟨#[x, y]⟩ ∧ 128 ≤ y.toNat) ∨ (∃ x y z : UInt8, Utf8.encode r = ⟨#[x, y, z]⟩ ∧ 128 ≤ z.toNat) ∨ (∃ x y z u : UInt8, Utf8.encode r = ⟨#[x, y, z, u]⟩ ∧ 128 ≤ u.toNat) := by
  have key : ∀ x : Nat, x < 64 → 128 ≤ (UInt8.ofNat (128 + x)).toNat := by
    intro x hx
    rw [UInt8.toNat_ofNat_of_lt' (by show _ < 256; omega)]
    omega
  unfold Utf8.encode
  generalize hc : (if Utf8.valid r = true then r.toNat else Utf8.runeError) = c
  have hc2 : 128 ≤ c := by
    rw [← hc]
    split
    · omega
    · decide
  have h1 : ¬ c < 128 := by omega
  simp only [h1, if_false]
  split
  · exact .inl ⟨_, _, rfl, key (c % 64) (by omega)⟩
  · split
    · exact .inr (.inl ⟨_, _, _, rfl, key (c % 64) (by omega)⟩)
    · exact .inr (.inr ⟨_, _, _, _, rfl, key (c % 64) (by omega)⟩)

set_option maxHeartbeats 1000000 in
set_option maxRecDepth 10000 in
theorem indexRune_two (r : Int) (h0 : 128 ≤ r) (h2 : r ≠ 65533) (hv : Lib.validRune r = true) (x y : UInt8) (hE : Utf8.encode r = ⟨#[x, y]⟩) (hl : 128 ≤ (y).toNat) (w : World) :
    Calls Tryd.prog 56 #[.string single, .int .i32 r] w fun e w' => e = .returned (.int .i64 (-1)) ∧ Below w.heap.size w w' := by
  have e1 : (r == 65533) = false := by simpa using h2
  have hV : Hid (∀ w, Calls Tryd.prog 62 #[.int .i32 r] w fun e w' => e = .returned (.bool true) ∧ w' = w) := fun w => by have := Tryd.utf8_ValidRune r w; rwa [hv] at this
  have hIB : Hid (∀ (s : ByteArray) (w : World), (∀ c ∈ s.data.toList, c.toNat < 128) → Calls Tryd.prog 61 #[.string s, .int .u8 ((y).toNat : Int)] w fun e w' => e = .returned (.int .i64 (-1)) ∧ w' = w) := fun s w h => by
    have := Tryd.strings_IndexByte s ((y).toNat : Int) w
    rwa [indexByte_none _ _ (by
      intro hm
      have h1 := h _ hm
      have h2 : ((y).toNat : Int).toNat.toUInt8 = y := by simp
      rw [h2] at h1
      omega)] at this
  unfold single
  clear h2 hv
  go_enter Tryd.func56, Tryd.ntmps56
  go_wp2_with (go_at_call 62; refine (hV.out _).mono ?_; rintro e w' ⟨rfl, rfl⟩)
  go_step3
  go_wp2_with fail
  refine wp_loop_rounds 1 ?_
  rw [rounds_succ]
  go_wp2_with fail
  go_step3
  go_wp2_with fail
  go_quiet (fail)
  go_wp2_with fail
  · go_quiet ((go_at_call 61; exact (hIB.out _ _ (by decide)).mono fun _ _ h => ⟨h.1, _, h.2⟩))
    go_wp2_with fail
    simp only [Exit.noGoto_ret, Exit.inBlock, Exit.then]
    go_ret
    exact ⟨rfl, Below_drewN _ _⟩
  · exfalso
    have h : ((45 : Int) != ((y).toNat : Int)) = false := by assumption
    simp at h
    omega
set_option maxHeartbeats 1000000 in
set_option maxRecDepth 10000 in
theorem indexRune_three (r : Int) (h0 : 128 ≤ r) (h2 : r ≠ 65533) (hv : Lib.validRune r = true) (x y z : UInt8) (hE : Utf8.encode r = ⟨#[x, y, z]⟩) (hl : 128 ≤ (z).toNat) (w : World) :
    Calls Tryd.prog 56 #[.string single, .int .i32 r] w fun e w' => e = .returned (.int .i64 (-1)) ∧ Below w.heap.size w w' := by
  have e1 : (r == 65533) = false := by simpa using h2
  have hV : Hid (∀ w, Calls Tryd.prog 62 #[.int .i32 r] w fun e w' => e = .returned (.bool true) ∧ w' = w) := fun w => by have := Tryd.utf8_ValidRune r w; rwa [hv] at this
  have hIB : Hid (∀ (s : ByteArray) (w : World), (∀ c ∈ s.data.toList, c.toNat < 128) → Calls Tryd.prog 61 #[.string s, .int .u8 ((z).toNat : Int)] w fun e w' => e = .returned (.int .i64 (-1)) ∧ w' = w) := fun s w h => by
    have := Tryd.strings_IndexByte s ((z).toNat : Int) w
    rwa [indexByte_none _ _ (by
      intro hm
      have h1 := h _ hm
      have h2 : ((z).toNat : Int).toNat.toUInt8 = z := by simp
      rw [h2] at h1
      omega)] at this
  unfold single
  clear h2 hv
  go_enter Tryd.func56, Tryd.ntmps56
  go_wp2_with (go_at_call 62; refine (hV.out _).mono ?_; rintro e w' ⟨rfl, rfl⟩)
  go_step3
  go_wp2_with fail
  refine wp_loop_rounds 1 ?_
  rw [rounds_succ]
  go_wp2_with fail
  go_step3
  go_wp2_with fail
  go_quiet (fail)
  go_wp2_with fail
  · go_quiet ((go_at_call 61; exact (hIB.out _ _ (by decide)).mono fun _ _ h => ⟨h.1, _, h.2⟩))
    go_wp2_with fail
    simp only [Exit.noGoto_ret, Exit.inBlock, Exit.then]
    go_ret
    exact ⟨rfl, Below_drewN _ _⟩
  · exfalso
    have h : ((42 : Int) != ((z).toNat : Int)) = false := by assumption
    simp at h
    omega
set_option maxHeartbeats 1000000 in
set_option maxRecDepth 10000 in
theorem indexRune_four (r : Int) (h0 : 128 ≤ r) (h2 : r ≠ 65533) (hv : Lib.validRune r = true) (x y z u : UInt8) (hE : Utf8.encode r = ⟨#[x, y, z, u]⟩) (hl : 128 ≤ (u).toNat) (w : World) :
    Calls Tryd.prog 56 #[.string single, .int .i32 r] w fun e w' => e = .returned (.int .i64 (-1)) ∧ Below w.heap.size w w' := by
  have e1 : (r == 65533) = false := by simpa using h2
  have hV : Hid (∀ w, Calls Tryd.prog 62 #[.int .i32 r] w fun e w' => e = .returned (.bool true) ∧ w' = w) := fun w => by have := Tryd.utf8_ValidRune r w; rwa [hv] at this
  have hIB : Hid (∀ (s : ByteArray) (w : World), (∀ c ∈ s.data.toList, c.toNat < 128) → Calls Tryd.prog 61 #[.string s, .int .u8 ((u).toNat : Int)] w fun e w' => e = .returned (.int .i64 (-1)) ∧ w' = w) := fun s w h => by
    have := Tryd.strings_IndexByte s ((u).toNat : Int) w
    rwa [indexByte_none _ _ (by
      intro hm
      have h1 := h _ hm
      have h2 : ((u).toNat : Int).toNat.toUInt8 = u := by simp
      rw [h2] at h1
      omega)] at this
  unfold single
  clear h2 hv
  go_enter Tryd.func56, Tryd.ntmps56
  go_wp2_with (go_at_call 62; refine (hV.out _).mono ?_; rintro e w' ⟨rfl, rfl⟩)
  go_step3
  go_wp2_with fail
  refine wp_loop_rounds 1 ?_
  rw [rounds_succ]
  go_wp2_with fail
  go_step3
  go_wp2_with fail
  go_quiet (fail)
  go_wp2_with fail
  · go_quiet ((go_at_call 61; exact (hIB.out _ _ (by decide)).mono fun _ _ h => ⟨h.1, _, h.2⟩))
    go_wp2_with fail
    simp only [Exit.noGoto_ret, Exit.inBlock, Exit.then]
    go_ret
    exact ⟨rfl, Below_drewN _ _⟩
  · exfalso
    have h : ((38 : Int) != ((u).toNat : Int)) = false := by assumption
    simp at h
    omega
theorem indexRune_high (r : Int) (h0 : 128 ≤ r) (h1 : r ≤ 1114111) (w : World) :
    Calls Tryd.prog 56 #[.string single, .int .i32 r] w fun e w' => e = .returned (.int .i64 (-1)) ∧ Below w.heap.size w w' := by
  by_cases h2 : r = 65533
  · subst h2
    exact indexRune_err w
  · cases hv : Lib.validRune r with
    | false => exact indexRune_bad r h0 h1 h2 hv w
    | true =>
      rcases encode_of r h0 with ⟨x, y, e, h⟩ | ⟨x, y, z, e, h⟩ | ⟨x, y, z, u, e, h⟩
      · exact indexRune_two r h0 h2 hv x y e h w
      · exact indexRune_three r h0 h2 hv x y z e h w
      · exact indexRune_four r h0 h2 hv x y z u e h w

theorem containsRune_any (r : Int) (h0 : 0 < r) (h1 : r ≤ 1114111) (w : World) :
    Calls Tryd.prog 44 #[.string single, .int .i32 r] w fun e w' => e = .returned (.bool (sg1 r)) ∧ Below w.heap.size w w' := by
  by_cases h : r < 128
  · refine (Tryd.strings_ContainsRune_ascii single r w (by omega) h).mono ?_
    rintro e w' ⟨rfl, rfl⟩
    exact ⟨by simp [sg1, h]; rfl, Below.refl _ _⟩
  · have hs : sg1 r = false := by simp [sg1, h]
    rw [hs]
    go_enter Tryd.func44, Tryd.ntmps44
    go_wp2_with (go_at_call 56; refine (indexRune_high r (by omega) h1 _).mono ?_; rintro e w' ⟨rfl, hb⟩)
    go_ret
    exact ⟨rfl, hb⟩

end Go.Proofs.YtpamnnllijkpfaaDoor.LexW
