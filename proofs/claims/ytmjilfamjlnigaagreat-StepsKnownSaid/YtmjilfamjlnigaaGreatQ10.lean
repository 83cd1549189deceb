/- StepsKnown, run by the small machine: calls that look at nothing. -/
import Derived.Test.YtmjilfamjlnigaaGreatQ09
namespace Go.Proofs.YtmjilfamjlnigaaGreat.Vm
open Go

def ma0 : List V := []
def mv0 : V := (.b true)
set_option maxRecDepth 100000 in
theorem m0 : call (cfg []) 3000 8 ma0 ⟨0, .e⟩ = some (mv0, ⟨0, .e⟩) := by kernel_rfl
def ma1 : List V := [(.agg [(.i .i64 (.ofNat 1)), (.i .i64 (.ofNat 1)), (.i .i64 (.ofNat 0)), (.i .i64 (.ofNat 0)), (.i .i64 (.ofNat 1)), (.i .i64 (.ofNat 1))])]
def mv1 : V := (.i .u32 (.ofNat 3533701153))
set_option maxRecDepth 100000 in
theorem m1 : call (cfg []) 3000 39 ma1 ⟨0, .e⟩ = some (mv1, ⟨0, .e⟩) := by kernel_rfl
def ma2 : List V := [(.agg [(.i .i64 (.ofNat 12)), (.i .i64 (.ofNat 3)), (.i .i64 (.ofNat 2)), (.i .i64 (.ofNat 0)), (.i .i64 (.ofNat 1)), (.i .i64 (.ofNat 0))])]
def mv2 : V := (.i .u32 (.ofNat 2432697411))
set_option maxRecDepth 100000 in
theorem m2 : call (cfg []) 3000 39 ma2 ⟨0, .e⟩ = some (mv2, ⟨0, .e⟩) := by kernel_rfl
def ma3 : List V := [(.agg [(.i .i64 (.ofNat 21)), (.i .i64 (.ofNat 4)), (.i .i64 (.ofNat 0)), (.i .i64 (.ofNat 0)), (.i .i64 (.negSucc 2)), (.i .i64 (.ofNat 0))])]
def mv3 : V := (.i .u32 (.ofNat 3053453220))
set_option maxRecDepth 100000 in
theorem m3 : call (cfg []) 3000 39 ma3 ⟨0, .e⟩ = some (mv3, ⟨0, .e⟩) := by kernel_rfl
def ma4 : List V := [(.agg [(.i .i64 (.ofNat 26)), (.i .i64 (.ofNat 2)), (.i .i64 (.ofNat 1)), (.i .i64 (.ofNat 0)), (.i .i64 (.ofNat 0)), (.i .i64 (.ofNat 0))])]
def mv4 : V := (.i .u32 (.ofNat 3361700898))
set_option maxRecDepth 100000 in
theorem m4 : call (cfg []) 3000 39 ma4 ⟨0, .e⟩ = some (mv4, ⟨0, .e⟩) := by kernel_rfl
def ma5 : List V := [(.agg [(.i .i64 (.ofNat 28)), (.i .i64 (.ofNat 3)), (.i .i64 (.ofNat 1)), (.i .i64 (.ofNat 4)), (.i .i64 (.ofNat 0)), (.i .i64 (.ofNat 0))])]
def mv5 : V := (.i .u32 (.ofNat 3355737123))
set_option maxRecDepth 100000 in
theorem m5 : call (cfg []) 3000 39 ma5 ⟨0, .e⟩ = some (mv5, ⟨0, .e⟩) := by kernel_rfl
def ma6 : List V := [(.agg [(.i .i64 (.ofNat 34)), (.i .i64 (.ofNat 0)), (.i .i64 (.ofNat 0)), (.i .i64 (.ofNat 0)), (.i .i64 (.ofNat 0)), (.i .i64 (.ofNat 0))])]
def mv6 : V := (.i .u32 (.ofNat 3560964096))
set_option maxRecDepth 100000 in
theorem m6 : call (cfg []) 3000 39 ma6 ⟨0, .e⟩ = some (mv6, ⟨0, .e⟩) := by kernel_rfl
def ma7 : List V := [(.i .u32 (.ofNat 2432697411))]
def mv7 : V := (.tup [(.agg [(.i .i64 (.ofNat 12)), (.i .i64 (.ofNat 3)), (.i .i64 (.ofNat 2)), (.i .i64 (.ofNat 0)), (.i .i64 (.ofNat 1)), (.i .i64 (.ofNat 0))]), (.i .i64 (.ofNat 0))])
set_option maxRecDepth 100000 in
theorem m7 : call (cfg []) 3000 83 ma7 ⟨0, .e⟩ = some (mv7, ⟨0, .e⟩) := by kernel_rfl
def ma8 : List V := [(.i .u32 (.ofNat 3053453220))]
def mv8 : V := (.tup [(.agg [(.i .i64 (.ofNat 21)), (.i .i64 (.ofNat 4)), (.i .i64 (.ofNat 0)), (.i .i64 (.ofNat 0)), (.i .i64 (.negSucc 2)), (.i .i64 (.ofNat 0))]), (.i .i64 (.ofNat 0))])
set_option maxRecDepth 100000 in
theorem m8 : call (cfg []) 3000 83 ma8 ⟨0, .e⟩ = some (mv8, ⟨0, .e⟩) := by kernel_rfl
def ma9 : List V := [(.i .u32 (.ofNat 3355737123))]
def mv9 : V := (.tup [(.agg [(.i .i64 (.ofNat 28)), (.i .i64 (.ofNat 3)), (.i .i64 (.ofNat 1)), (.i .i64 (.ofNat 4)), (.i .i64 (.ofNat 0)), (.i .i64 (.ofNat 0))]), (.i .i64 (.ofNat 0))])
set_option maxRecDepth 100000 in
theorem m9 : call (cfg []) 3000 83 ma9 ⟨0, .e⟩ = some (mv9, ⟨0, .e⟩) := by kernel_rfl
def ma10 : List V := [(.i .u32 (.ofNat 3361700898))]
def mv10 : V := (.tup [(.agg [(.i .i64 (.ofNat 26)), (.i .i64 (.ofNat 2)), (.i .i64 (.ofNat 1)), (.i .i64 (.ofNat 0)), (.i .i64 (.ofNat 0)), (.i .i64 (.ofNat 0))]), (.i .i64 (.ofNat 0))])
set_option maxRecDepth 100000 in
theorem m10 : call (cfg []) 3000 83 ma10 ⟨0, .e⟩ = some (mv10, ⟨0, .e⟩) := by kernel_rfl
def ma11 : List V := [(.i .u32 (.ofNat 3533701153))]
def mv11 : V := (.tup [(.agg [(.i .i64 (.ofNat 1)), (.i .i64 (.ofNat 1)), (.i .i64 (.ofNat 0)), (.i .i64 (.ofNat 0)), (.i .i64 (.ofNat 1)), (.i .i64 (.ofNat 1))]), (.i .i64 (.ofNat 0))])
set_option maxRecDepth 100000 in
theorem m11 : call (cfg []) 3000 83 ma11 ⟨0, .e⟩ = some (mv11, ⟨0, .e⟩) := by kernel_rfl
def ma12 : List V := [(.i .u32 (.ofNat 3560964096))]
def mv12 : V := (.tup [(.agg [(.i .i64 (.ofNat 34)), (.i .i64 (.ofNat 0)), (.i .i64 (.ofNat 0)), (.i .i64 (.ofNat 0)), (.i .i64 (.ofNat 0)), (.i .i64 (.ofNat 0))]), (.i .i64 (.ofNat 0))])
set_option maxRecDepth 100000 in
theorem m12 : call (cfg []) 3000 83 ma12 ⟨0, .e⟩ = some (mv12, ⟨0, .e⟩) := by kernel_rfl
def memos : List (Nat × List V × V) := [(8, ma0, mv0), (39, ma1, mv1), (39, ma2, mv2), (39, ma3, mv3), (39, ma4, mv4), (39, ma5, mv5), (39, ma6, mv6), (83, ma7, mv7), (83, ma8, mv8), (83, ma9, mv9), (83, ma10, mv10), (83, ma11, mv11), (83, ma12, mv12)]
end Go.Proofs.YtmjilfamjlnigaaGreat.Vm
