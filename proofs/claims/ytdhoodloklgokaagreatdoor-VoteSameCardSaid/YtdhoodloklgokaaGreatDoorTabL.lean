
/- The rows' frame: the table of powers, out of what a row lays. -/
import Derived.Test.YtdhoodloklgokaaGreatDoorVoteD
import Derived.LaidSub
import Derived.MakeChecks
import Derived.Lib.LaidTab
namespace Go.Proofs.YtdhoodloklgokaaGreatDoor
open Go.RowKit
set_option linter.unusedVariables false

theorem tab_of_laid {w : World} {l : List (String × DataW Unit)} (h : laidMetH Tryz.prog l w) (h1 : (l.all fun x => x.2.handleName?.isNone) = true) (h2 : (l.filter fun x => x.1 == "internal/strconv.uint64pow10") = [("internal/strconv.uint64pow10", Lib.tabData .u64 Lib.pow10Tab)]) : Tab w := by
  rw [MakeChecks.laidMetH_plain _ _ _ h1] at h
  have h4 := h.filter (fun x => x.1 == "internal/strconv.uint64pow10")
  rw [h2] at h4
  exact Lib.tabIs_of_head (g := 1) (by kernel_rfl) (by kernel_rfl) Tryz.underlying291 Tryz.underlying245 (by kernel_rfl) (by kernel_rfl) h4
end Go.Proofs.YtdhoodloklgokaaGreatDoor
