/- The model of the sequential specification: its data. -/
import Derived.Test.YtcffiehcdadimaaGreatL3
import Derived.Test.YtcffiehcdadimaaGreatK1
namespace Go.Proofs.YtcffiehcdadimaaGreat.Abs
open Go.Proofs
set_option maxRecDepth 10000
set_option linter.unusedSimpArgs false
set_option linter.unusedVariables false
def intsV (l : List Int) : V:=.lst 1 (l.map intD) false
end Go.Proofs.YtcffiehcdadimaaGreat.Abs
