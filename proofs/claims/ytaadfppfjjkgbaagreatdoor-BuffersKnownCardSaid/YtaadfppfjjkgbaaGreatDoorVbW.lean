/- BuffersKnown, run by the small machine: what the run says. -/
import Derived.Test.YtaadfppfjjkgbaaGreatDoorVbX
namespace Go.Proofs.YtaadfppfjjkgbaaGreatDoor.Vm
open Go Go.RowKit

/-- The table's numbers. -/
def tabZ : List Int := [0, 1, 56, 2, 57, 49, 28, 3, 61, 58, 42, 50, 38, 29, 17, 4, 62, 47, 59, 36, 45, 43, 51, 22, 53, 39, 33, 30, 24, 18, 12, 5, 63, 55, 48, 27, 60, 41, 37, 16, 46, 35, 44, 21, 52, 32, 23, 11, 54, 26, 40, 15, 34, 20, 31, 10, 25, 14, 19, 9, 13, 8, 7, 6]
theorem tab_eq : tab0 = some (.ro (some 0) 0 (tabZ.map fun z => V.i .u8 z)) := by kernel_rfl
/-- The package's table, as it is laid. -/
def TabW (w : World) : Prop := ∀ j, j < 64 → w.cell? ⟨0, j, none⟩ = some (.int .u8 (tabZ.getD j 0))
theorem tab_len : tabZ.length = 64 := by kernel_rfl
theorem tab_mt {w : World} (hT : TabW w) : Mt ⟨fun b => b, fun _ => 0⟩ (hOf [tab0]) w := by
  have key : ∀ b U, (hOf [tab0]).t.get b = some U → b = 0 ∧ U = (PO.ro (some 0) 0 (tabZ.map fun z => V.i .u8 z)).toO := fun b U hb => by
    rw [hOf_get] at hb
    obtain ⟨p, hp, rfl⟩ := look_some hb
    match b with
    | 0 =>
      rw [tab_eq] at hp
      simp only [List.getElem?_cons_zero, Option.some.injEq] at hp
      exact ⟨rfl, by rw [← hp]⟩
    | b + 1 => simp at hp
  refine ⟨fun b U hb => ?_, fun b U hb => ?_, fun b b' U U' hb hb' _ => (key b U hb).1.trans (key b' U' hb').1.symm⟩
  · rw [(key b U hb).1]
    exact Nat.zero_lt_one
  · obtain ⟨rfl, rfl⟩ := key b U hb
    have h0 := hT 0 (by omega)
    unfold World.cell? at h0
    split at h0
    · rename_i cs e fr hx
      refine ⟨_, hx, (fun g hg => by injection hg), cs, e, fr, rfl, fun o ho => ?_⟩
      have ho : o < 64 := by rw [List.length_map, tab_len] at ho; exact ho
      have h1 := hT o ho
      have h2 : tabZ[o]? = some (tabZ.getD o 0) := by
        rw [List.getD_eq_getElem?_getD, List.getElem?_eq_getElem (by rw [tab_len]; exact ho)]
        rfl
      refine ⟨.i .u8 (tabZ.getD o 0), .int .u8 (tabZ.getD o 0), ?_, ?_, .i _ _, rfl⟩
      · rw [Tr.get_putsL, if_pos ⟨Nat.zero_le _, by rw [List.length_map, tab_len]; omega⟩, Nat.sub_zero, List.getElem?_map, h2]
        rfl
      · unfold World.cell? at h1
        rw [hx] at h1
        simpa using h1
    · cases h0
theorem fact_any {F : Fact} (hF : FactOk Tryz.prog F) (ha : F.args = []) (hp : F.pre = [tab0]) (hv : F.v = .b true) {w : World} (hT : TabW w) : Calls Tryz.prog F.f #[] w fun e w' => e = .returned (.bool true) ∧ Below w.heap.size w w' := by
  have hm := tab_mt hT
  rw [← hp] at hm
  refine (hF.2 ⟨fun b => b, fun _ => 0⟩ w [] hm (by rw [ha]; exact .nil)).mono fun e w' hx => ?_
  obtain ⟨x, he, _, A', hev, hr⟩ := hx
  rw [hv] at hr
  rw [he, hr.of_b]
  refine ⟨rfl, hev.os, hev.tape, hev.output, hev.size, fun k hk => ?_⟩
  by_cases h0 : k = 0
  · subst h0
    have hg : (hOf F.pre).t.get 0 = some (PO.ro (some 0) 0 (tabZ.map fun z => V.i .u8 z)).toO := by
      rw [hOf_get, hp, tab_eq]
      rfl
    exact (hev.pin 0 _ 0 hg rfl).2.2
  · refine hev.fr k hk fun b U hb he => ?_
    have := hm.lt b U hb
    rw [hp] at this
    have he : b = k := he
    have : b < 1 := this
    omega
theorem fact_mem {F : Fact} (h : F ∈ li34) : FactOk Tryz.prog F := lo34 F h
/-- The law. -/
theorem known_any {w : World} (hT : TabW w) : Calls Tryz.prog 3 #[] w fun e w' => e = .returned (.bool true) ∧ Below w.heap.size w w' :=
  fact_any (F := fa33) (lo34 _ (List.mem_cons_self ..)) rfl rfl rfl hT
end Go.Proofs.YtaadfppfjjkgbaaGreatDoor.Vm
