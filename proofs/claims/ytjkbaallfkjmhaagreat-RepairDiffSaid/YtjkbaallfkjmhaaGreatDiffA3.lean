
/- DiffA3: the reference's DiffOf. -/
import Derived.Test.YtjkbaallfkjmhaaGreatDiffA2
namespace Go.Proofs.YtjkbaallfkjmhaaGreat
open Go.RowKit
set_option linter.unusedVariables false
set_option linter.unusedSimpArgs false

end Go.Proofs.YtjkbaallfkjmhaaGreat
