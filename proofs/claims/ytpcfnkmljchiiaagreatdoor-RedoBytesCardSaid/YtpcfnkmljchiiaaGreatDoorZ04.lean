/- Steps towards RBoth: GRefx1. -/
import Derived.Test.YtpcfnkmljchiiaaGreatDoorZ03
set_option linter.unusedVariables false
set_option linter.unusedSimpArgs false
/- Written by a program of mine (wip/tools/mkprint.py turns the kit's print; given contracts by hand). Lean checks it. -/
namespace Go.Proofs.YtpcfnkmljchiiaaGreatDoor.GRef
open Go.RowKit Go.Proofs.YtpcfnkmljchiiaaGreatDoorW.PrintWords Go.Proofs.YtpcfnkmljchiiaaGreatDoorW.PrintLast Go.Proofs.YtpcfnkmljchiiaaGreatDoorW.PrintMore
attribute [local go_sem] max2_int min2_int max_two min_two max_three min_three max_four min_four   -- for this text's walks alone

/-! ### postbagref05_Step_Do: function 101 -/
/-! ### postbagref05_Names_Find: function 97 -/
/-! ### postbagref05_Names_File: function 99 -/
end Go.Proofs.YtpcfnkmljchiiaaGreatDoor.GRef
