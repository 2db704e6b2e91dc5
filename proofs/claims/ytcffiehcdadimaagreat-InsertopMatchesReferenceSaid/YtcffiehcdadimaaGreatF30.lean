/- The model of the sequential specification: its data. -/
import Derived.Test.YtcffiehcdadimaaGreatL3
import Derived.Test.YtcffiehcdadimaaGreatK1
namespace Go.Proofs.YtcffiehcdadimaaGreat.Abs
open Go.Proofs
set_option maxRecDepth 10000
set_option linter.unusedSimpArgs false
set_option linter.unusedVariables false
structure Evt where
 time : Int
 handle : Int
deriving DecidableEq
def Evt.row (x : Evt) : List D := [.c (.int .i64 x.time), .c (.int .i64 x.handle)]
def intsV (l : List Int) : V := .lst 1 (l.map intD) false
def evtsV (l : List Evt) : V := .lst 2 (l.map Evt.row) false
structure Res where
 err : Int
 handle : Int
 canc : Bool
 evs : List Evt
deriving DecidableEq
def Res.v (r : Res) : V := .agg [V.int r.err, V.int r.handle, V.bool r.canc, evtsV r.evs]
end Go.Proofs.YtcffiehcdadimaaGreat.Abs
