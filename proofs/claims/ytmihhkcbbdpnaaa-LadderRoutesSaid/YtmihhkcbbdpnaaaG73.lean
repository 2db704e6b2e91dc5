/- A contract of data is one of lent blocks, with none lent: accumulators among its arguments may be given up. -/
import Derived.Test.YtmihhkcbbdpnaaaG67
namespace Go.Proofs.Ytmihhkcbbdpnaaa.Abs
open Go.Proofs
set_option linter.unusedVariables false
theorem PSpec.toL {P : Program} {f : FuncId} {args : List V} {r : V} (hs : PSpec P f args r) : LSpec P f args [] 0 r [] 0 := by
  obtain ⟨ha, hr, hs⟩ := hs
  refine ⟨fun x hx => (ha x hx).mono fun _ h => h.elim, fun p hp => by simp at hp, fun F ids w vals hh hsz hv => ?_⟩
  obtain ⟨h1, h2⟩ := hs (Avoid F (hAt []) ids) ids w vals (fun b hb => hb.elim (hh.fsz b) fun hl => hh.liveLt hl) hsz hv
  refine ⟨h1, h2.mono ?_⟩
  rintro e w' ⟨v, rfl, hrv, hg⟩
  refine ⟨v, ids, rfl, ⟨⟨(fun n b hb => by cases hb), (fun n b hb => by cases hb), (fun n b hb => by cases hb), (fun n m b c hb => by cases hb), (fun n b hb => by cases hb), fun b hb => Nat.lt_of_lt_of_le (hh.fsz b hb) hg.size⟩, hg.weaken fun _ _ x => x.elim, fun _ _ x => x, fun _ _ => rfl, fun k hk => hk⟩, hrv, hr.mono fun _ h => h.elim⟩
end Go.Proofs.Ytmihhkcbbdpnaaa.Abs
