/- THE LAW BuffersAllowed, up to a bound on what comes in: its second form's card. -/
import Derived.Test.YtkcdehffcddciaaGreatDoorQ53
namespace Go.Proofs.YtkcdehffcddciaaGreatDoor.BuffersAllowed
open Go Go.ChangeShapes Go.WideShapes Go.ChangeAt Go.RowKit Vm
set_option maxRecDepth 1000000 in
theorem reach:(Tryz.prog).closure 6 = [6,10,29,27,93,25,81,151,82,153,152,222,83,154,84,85,86,155,30,31,32,70,96,33,97,34,35,36,37,99,98,165,237,38,39,40,41,100,42,43,44,14,53,104,15,26,56,107,108,109,182,183,111,184,259,260,186,110,185,87,89,157,225,227,274,226,273,158,88,116,156,223,272,224,91,92,159,115,117,160,228,90,58,57,112,113,114,187,188,59,54,55,105,171,241,278,294,242,279,248,243,244,280,249,245,246,281,247,172,173,174,250,175,176,177,251,252,282,295,284,297,298,283,296,285,106,178,253,254,286,287,299,288,289,290,179,180,143,181,255,256,257,140,258,18,65,131,202,203,204,205,263,66,132,133,67,134,161,163,229,206,264,291,265,230,275,231,232,276,277,233,234,235,236,162,135,68,69,136,137,207,71,139,216,217,138,208,209,266,210,267,268,211,269,270,292,212,213,214,215,72,73,12,52,13,23,22,24]:=by kernel_rfl
set_option maxRecDepth 1000000 in
theorem in_place:(Tryz.prog).inPlace 6 = []:=by
 unfold Program.inPlace
 rw[reach]
 kernel_rfl
set_option maxRecDepth 1000000 in
theorem unfollowed_:(Tryz.prog).unfollowed 6=true:=by
 unfold Program.unfollowed
 rw[reach]
 kernel_rfl
theorem recurses_:(Tryz.prog).recurses 6=true:=by
 unfold Program.recurses
 rw[unfollowed_]
 rfl
set_option maxRecDepth 1000000 in
theorem vars_named:(Tryz.prog).varsNamed 6 = ["math/bits.deBruijn64tab"]:=by
 unfold Program.varsNamed
 rw[reach]
 kernel_rfl
set_option maxRecDepth 1000000 in
theorem closed:joinedFacts Tryz.prog 6 Tryz.f6 (Rows.OpenSpec.upto Rows.buffersAllowedSpec).bare Rows.buffersAllowedUptoRow=true:=by
 unfold joinedFacts
 rw[in_place,unfollowed_,recurses_,vars_named]
 kernel_rfl
theorem over:Rows.buffersAllowedUptoRow.holds Tryz.pinned (Rows.OpenSpec.upto Rows.buffersAllowedSpec) :=
 OpenClaim.holds_of_cond 6 Tryz.f6 rfl rfl rfl rfl rfl rfl rfl ⟨rfl,rfl,rfl,rfl,rfl⟩ rfl rfl rfl rfl rfl (by kernel_rfl) Tryz.func6 closed
  (of_decide_eq_true (by kernel_rfl)) (by unfold Func.isWrapper;first |(rw[if_pos (by decide +kernel)];kernel_rfl) |(rw[if_neg (by decide +kernel)];exact⟨rfl,rfl⟩))
  (fun os started H enc _ F=>by rw[OpenClaim.pre_eq_preRow];exact lifted os started H enc F)
theorem saidUpto:Rows.BuffersAllowedUptoSaid:=over
theorem cardUpto:Rows.BuffersAllowedUptoCardSaid :=
 Claim7.holds_tied_plain_at .later [] _ _ _ _ saidUpto (fun _ h=>by cases h) (by kernel_rfl) (fun _ h=>by cases h) buffersAllowedUpto_row_tie rfl ⟨rfl,rfl⟩ (by kernel_rfl) rfl plain (by kernel_rfl)
#print axioms cardUpto
end Go.Proofs.YtkcdehffcddciaaGreatDoor.BuffersAllowed
