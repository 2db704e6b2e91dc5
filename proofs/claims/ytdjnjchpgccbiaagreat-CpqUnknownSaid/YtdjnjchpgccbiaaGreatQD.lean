/- Violations: a batch Zs8 none; a call that runs alone Zs8 none. -/
import Derived.Test.YtdjnjchpgccbiaaGreatQB
import Derived.Test.YtdjnjchpgccbiaaGreatMP
import Derived.Test.YtdjnjchpgccbiaaGreatQC
namespace Go.Proofs.YtdjnjchpgccbiaaGreat.Abs
set_option linter.unusedSimpArgs false
set_option linter.unusedVariables false
open Go.Proofs
set_option maxRecDepth 10000
def Cl.row (c : Cl) : List D:=[.c (.int .i64 c.k),.c (.int .i64 c.t),.c (.int .i64 c.h),.c (.int .i64 c.m),.c (.int .i64 c.b)]
theorem Zu0 {m : Nat} {row : List D} (h : Z5 tab (m + 2) 24 row) : ∃ c : Cl,row = c.row:=by
 have h : Zhp (Z5 tab (m + 1)) [(0,3),(1,3),(2,3),(3,3),(4,3)] row:=h
 obtain ⟨_,_,rfl,h1,_,_,rfl,h2,_,_,rfl,h3,_,_,rfl,h4,_,_,rfl,h5,rfl⟩:=h
 obtain ⟨a,rfl,_⟩:=Zgr h1
 obtain ⟨b,rfl,_⟩:=Zgr h2
 obtain ⟨c,rfl,_⟩:=Zgr h3
 obtain ⟨d,rfl,_⟩:=Zgr h4
 obtain ⟨e,rfl,_⟩:=Zgr h5
 exact ⟨⟨a,b,c,d,e⟩,rfl⟩
theorem ZeB (rows : List (List D)) (h : AllR (Z5 tab 5) [5,22,24] rows) : PSpec Tryz.prog 3 (List.zipWith (Zpt tab) [5,22,24] rows) (V.bool true):=by
 obtain ⟨_,_,rfl,h1,h⟩:=h.cons
 obtain ⟨_,_,rfl,h2,h⟩:=h.cons
 obtain ⟨_,_,rfl,h3,h⟩:=h.cons
 cases h.nil
 obtain ⟨c,rfl,hc⟩:=Ztn h1
 obtain ⟨l,hl,rfl⟩:=ZrR h2
 obtain ⟨x,rfl⟩:=Zu0 h3
 exact cpqUnknown c hc l hl x
end Go.Proofs.YtdjnjchpgccbiaaGreat.Abs
