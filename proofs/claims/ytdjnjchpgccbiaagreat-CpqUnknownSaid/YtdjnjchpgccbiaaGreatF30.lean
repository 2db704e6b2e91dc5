/- The model of the sequential specification: its data. -/
import Derived.Test.YtdjnjchpgccbiaaGreatL3
import Derived.Test.YtdjnjchpgccbiaaGreatK1
namespace Go.Proofs.YtdjnjchpgccbiaaGreat.Abs
open Go.Proofs
set_option maxRecDepth 10000
set_option linter.unusedSimpArgs false
set_option linter.unusedVariables false
structure Ent where
 time : Int
 seq : Int
 handle : Int
 dead : Bool
deriving DecidableEq
structure Evt where
 time : Int
 handle : Int
deriving DecidableEq
def Evt.row (x : Evt) : List D:=[.c (.int .i64 x.time),.c (.int .i64 x.handle)]
def ZkI (l : List Int) : V:=.lst 1 (l.map QF) false
def Zup (l : List Evt) : V:=.lst 2 (l.map Evt.row) false
structure Mod where
 cap : Int
 ents : List Ent
 next : Int
 iss : List Int
deriving DecidableEq
structure Cal where
 kind : Int
 time : Int
 handle : Int
 max : Int
 bound : Int
deriving DecidableEq
structure Res where
 err : Int
 handle : Int
 canc : Bool
 evs : List Evt
deriving DecidableEq
def Res.v (r : Res) : V:=.agg [V.int r.err,V.int r.handle,V.bool r.canc,Zup r.evs]
def Res.er (e : Int) : Res:=⟨e,0,false,[]⟩
end Go.Proofs.YtdjnjchpgccbiaaGreat.Abs
