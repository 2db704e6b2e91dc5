/- law14: the fixed example. -/
import Derived.Test.YtdjnjchpgccbiaaGreatNC
import Derived.Test.YtdjnjchpgccbiaaGreatJB
namespace Go.Proofs.YtdjnjchpgccbiaaGreat.Abs
open Go.Proofs
set_option maxRecDepth 10000
set_option linter.unusedSimpArgs false
set_option linter.unusedVariables false
theorem ZuF (a b : Res) (hl : a.evs.length < 9223372036854775807) : PSpecN Tryz.prog 20 [a.v,b.v] (V.bool (decide (a = b))):=(ZlD a b hl).new rfl
theorem Zk4 (l : List (Int × Int)) : (Zdh l).map Evt.row = l.map evD:=by unfold Zdh;rw [List.map_map];rfl
theorem ZuU (e : Int) (ev : List (Int × Int)) (b : Res) (hl : ev.length < 1000) : PSpecN Tryz.prog 20 [.agg [V.int e,V.int 0,V.bool false,.lst 2 (ev.map evD) false],b.v] (V.bool (decide ((⟨e,0,false,Zdh ev⟩ : Res) = b))):=by
 have h1:=ZuF ⟨e,0,false,Zdh ev⟩ b (by show (Zdh ev).length < _;unfold Zdh;rw [List.length_map];omega)
 rw [← Zk4]
 exact h1
end Go.Proofs.YtdjnjchpgccbiaaGreat.Abs
