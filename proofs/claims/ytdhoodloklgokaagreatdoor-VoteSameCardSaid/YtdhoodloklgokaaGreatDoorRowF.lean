
/- The rows' frame: closed facts on the program alone, told once for all rows. -/
import Derived.Test.YtdhoodloklgokaaGreatDoorOpen
import Derived.Test.YtdhoodloklgokaaGreatDoorRows
import Derived.SevenTiedAt
namespace Go.Proofs.YtdhoodloklgokaaGreatDoor
open Go.RowKit

theorem pf_lifts : Tryz.prog.liftsFinal = false := by kernel_rfl
theorem pf_keys : Tryz.prog.plainKeys = true := by kernel_rfl
theorem pf_heard : Tryz.prog.stopsHeard = true := by kernel_rfl
theorem pf_enter : Tryz.prog.mayEnter = true := by kernel_rfl
theorem pf_out : laidOutB Tryz.prog = true := by kernel_rfl
theorem pf_maps : mapsRowed Tryz.prog = true := by kernel_rfl
theorem pf_make : Tryz.prog.make = some .cut := by kernel_rfl
theorem pf_looks : Tryz.prog.looks [] = true := by kernel_rfl
end Go.Proofs.YtdhoodloklgokaaGreatDoor
