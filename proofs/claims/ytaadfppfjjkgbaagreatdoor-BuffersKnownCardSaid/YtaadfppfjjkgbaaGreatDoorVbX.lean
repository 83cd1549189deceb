/- Facts of calls: they hold. -/
import Derived.Test.YtaadfppfjjkgbaaGreatDoorVmZ
import Derived.Test.YtaadfppfjjkgbaaGreatDoorVbR0
import Derived.Test.YtaadfppfjjkgbaaGreatDoorVbR1
import Derived.Test.YtaadfppfjjkgbaaGreatDoorVbR2
import Derived.Test.YtaadfppfjjkgbaaGreatDoorVbR3
import Derived.Test.YtaadfppfjjkgbaaGreatDoorVbR4
import Derived.Test.YtaadfppfjjkgbaaGreatDoorVbR5
import Derived.Test.YtaadfppfjjkgbaaGreatDoorVbR6
import Derived.Test.YtaadfppfjjkgbaaGreatDoorVbR7
import Derived.Test.YtaadfppfjjkgbaaGreatDoorVbR8
import Derived.Test.YtaadfppfjjkgbaaGreatDoorVbR9
import Derived.Test.YtaadfppfjjkgbaaGreatDoorVbR10
import Derived.Test.YtaadfppfjjkgbaaGreatDoorVbR11
import Derived.Test.YtaadfppfjjkgbaaGreatDoorVbR12
import Derived.Test.YtaadfppfjjkgbaaGreatDoorVbR13
import Derived.Test.YtaadfppfjjkgbaaGreatDoorVbR14
import Derived.Test.YtaadfppfjjkgbaaGreatDoorVbR15
import Derived.Test.YtaadfppfjjkgbaaGreatDoorVbR16
import Derived.Test.YtaadfppfjjkgbaaGreatDoorVbR17
import Derived.Test.YtaadfppfjjkgbaaGreatDoorVbR18
import Derived.Test.YtaadfppfjjkgbaaGreatDoorVbR19
import Derived.Test.YtaadfppfjjkgbaaGreatDoorVbR20
namespace Go.Proofs.YtaadfppfjjkgbaaGreatDoor.Vm
open Go Go.RowKit

theorem bits_mem : ∀ (l : List Nat) (k : Nat), Nat.testBit (bits l) k = true → k ∈ l
  | [], k, h => by simp [bits] at h
  | j :: l, k, h => by
    simp only [bits, Nat.testBit_or, Bool.or_eq_true, Nat.testBit_two_pow, decide_eq_true_eq] at h
    rcases h with h | h
    · simp [h]
    · simp [bits_mem l k h]
theorem fitAll_ok {P : Program} {l : List Nat} (h : fitAll P l = true) {B : Nat} (hB : bits l = B) (f : FuncId) (fn : Func) (hf : Nat.testBit B f = true) (hfn : P.funcs[f]? = some fn) : (fn.name == "runtime.NumGoroutine") = false ∧ ∀ c, fn.body = some c → dokC (skB f) c = true := by
  subst hB
  have := List.all_eq_true.1 h f (bits_mem l f hf)
  rw [hfn] at this
  simp only [fitFn, Bool.and_eq_true, Bool.not_eq_true'] at this
  refine ⟨this.1, fun c hc => ?_⟩
  rw [hc] at this
  exact this.2
theorem cfg_fits {fs : List Fact} (h : ∀ F ∈ fs, FactOk Tryz.prog F) : Fits (cfg fs) := ⟨mixed, fun f fn hf hfn => fitAll_ok fit_all fs_bits f fn hf hfn, fun _ _ _ _ hr => facts_ok fs h hr⟩
theorem lo_cons {fs : List Fact} {F : Fact} (h : ∀ F ∈ fs, FactOk Tryz.prog F) (hr : runF (cfg fs) 3000 F = true) : ∀ G ∈ F :: fs, FactOk Tryz.prog G := fun G hG => by
  rcases List.mem_cons.1 hG with rfl | hG
  · exact fact_of (cfg_fits h) hr
  · exact h G hG
theorem lo0 : ∀ F ∈ li0, FactOk Tryz.prog F := fun F h => by cases h
theorem lo1 : ∀ F ∈ li1, FactOk Tryz.prog F := lo_cons lo0 ru0
theorem lo2 : ∀ F ∈ li2, FactOk Tryz.prog F := lo_cons lo1 ru1
theorem lo3 : ∀ F ∈ li3, FactOk Tryz.prog F := lo_cons lo2 ru2
theorem lo4 : ∀ F ∈ li4, FactOk Tryz.prog F := lo_cons lo3 ru3
theorem lo5 : ∀ F ∈ li5, FactOk Tryz.prog F := lo_cons lo4 ru4
theorem lo6 : ∀ F ∈ li6, FactOk Tryz.prog F := lo_cons lo5 ru5
theorem lo7 : ∀ F ∈ li7, FactOk Tryz.prog F := lo_cons lo6 ru6
theorem lo8 : ∀ F ∈ li8, FactOk Tryz.prog F := lo_cons lo7 ru7
theorem lo9 : ∀ F ∈ li9, FactOk Tryz.prog F := lo_cons lo8 ru8
theorem lo10 : ∀ F ∈ li10, FactOk Tryz.prog F := lo_cons lo9 ru9
theorem lo11 : ∀ F ∈ li11, FactOk Tryz.prog F := lo_cons lo10 ru10
theorem lo12 : ∀ F ∈ li12, FactOk Tryz.prog F := lo_cons lo11 ru11
theorem lo13 : ∀ F ∈ li13, FactOk Tryz.prog F := lo_cons lo12 ru12
theorem lo14 : ∀ F ∈ li14, FactOk Tryz.prog F := lo_cons lo13 ru13
theorem lo15 : ∀ F ∈ li15, FactOk Tryz.prog F := lo_cons lo14 ru14
theorem lo16 : ∀ F ∈ li16, FactOk Tryz.prog F := lo_cons lo15 ru15
theorem lo17 : ∀ F ∈ li17, FactOk Tryz.prog F := lo_cons lo16 ru16
theorem lo18 : ∀ F ∈ li18, FactOk Tryz.prog F := lo_cons lo17 ru17
theorem lo19 : ∀ F ∈ li19, FactOk Tryz.prog F := lo_cons lo18 ru18
theorem lo20 : ∀ F ∈ li20, FactOk Tryz.prog F := lo_cons lo19 ru19
theorem lo21 : ∀ F ∈ li21, FactOk Tryz.prog F := lo_cons lo20 ru20
theorem lo22 : ∀ F ∈ li22, FactOk Tryz.prog F := lo_cons lo21 ru21
theorem lo23 : ∀ F ∈ li23, FactOk Tryz.prog F := lo_cons lo22 ru22
theorem lo24 : ∀ F ∈ li24, FactOk Tryz.prog F := lo_cons lo23 ru23
theorem lo25 : ∀ F ∈ li25, FactOk Tryz.prog F := lo_cons lo24 ru24
theorem lo26 : ∀ F ∈ li26, FactOk Tryz.prog F := lo_cons lo25 ru25
theorem lo27 : ∀ F ∈ li27, FactOk Tryz.prog F := lo_cons lo26 ru26
theorem lo28 : ∀ F ∈ li28, FactOk Tryz.prog F := lo_cons lo27 ru27
theorem lo29 : ∀ F ∈ li29, FactOk Tryz.prog F := lo_cons lo28 ru28
theorem lo30 : ∀ F ∈ li30, FactOk Tryz.prog F := lo_cons lo29 ru29
theorem lo31 : ∀ F ∈ li31, FactOk Tryz.prog F := lo_cons lo30 ru30
theorem lo32 : ∀ F ∈ li32, FactOk Tryz.prog F := lo_cons lo31 ru31
theorem lo33 : ∀ F ∈ li33, FactOk Tryz.prog F := lo_cons lo32 ru32
theorem lo34 : ∀ F ∈ li34, FactOk Tryz.prog F := lo_cons lo33 ru33
end Go.Proofs.YtaadfppfjjkgbaaGreatDoor.Vm
