
/- DiffP: the plain law of what another one has not, objects and names. No program here. -/
import Derived.Test.YtdhoodloklgokaaGreatDoorStoreLaw
import Derived.Test.YtdhoodloklgokaaGreatDoorUpdP
namespace Go.Proofs.YtdhoodloklgokaaGreatDoor
set_option linter.unusedVariables false
set_option linter.unusedSimpArgs false

/- objects -/
/- names -/
theorem mv_ext {u v : Mv} (h1 : u.name = v.name) (h2 : u.old = v.old) (h3 : u.new = v.new) : u = v := by cases u; cases v; cases h1; cases h2; cases h3; rfl
end Go.Proofs.YtdhoodloklgokaaGreatDoor
