/- Closed facts of the program that every row asks for. The words of the program's head are reckoned over a list of signs: over the string itself the kernel runs out of memory. -/
import Derived.Test.YtdjnjchpgccbiaaGreatRows
import Derived.JoinedOf
namespace Go.Proofs.YtdjnjchpgccbiaaGreat.Facts
set_option maxRecDepth 100000
theorem and2 {a b : Bool} (h1 : a = true) (h2 : b = true) : (a && b) = true := by rw [h1, h2]; rfl
def signs : List Char := List.map Char.ofNat [104, 97, 114, 110, 101, 115, 115, 32, 97, 102, 53, 53, 52, 97, 54, 50, 54, 48, 102, 49, 101, 101, 57, 48, 54, 97, 100, 100, 100, 53, 51, 50, 57, 99, 100, 56, 56, 99, 97, 54, 56, 52, 57, 57, 53, 101, 102, 56, 55, 97, 56, 52, 49, 55, 50, 102, 53, 100, 55, 100, 97, 98, 53, 54, 97, 49, 97, 101, 101, 53, 100, 53, 32, 99, 117, 116, 32, 97, 116, 32, 114, 111, 112, 101, 108, 97, 100, 100, 101, 114, 47, 114, 111, 112, 101, 108, 97, 100, 100, 101, 114, 108, 97, 119, 49, 53, 46, 67, 112, 113, 85, 110, 107, 110, 111, 119, 110, 32, 114, 111, 112, 101, 108, 97, 100, 100, 101, 114, 47, 114, 111, 112, 101, 108, 97, 100, 100, 101, 114, 108, 97, 119, 49, 53, 46, 67, 112, 113, 83, 116, 97, 108, 108, 101, 100, 32, 114, 111, 112, 101, 108, 97, 100, 100, 101, 114, 47, 114, 111, 112, 101, 108, 97, 100, 100, 101, 114, 108, 97, 119, 49, 52, 46, 66, 97, 116, 99, 104, 111, 112, 68, 114, 97, 105, 110, 115, 32, 114, 111, 112, 101, 108, 97, 100, 100, 101, 114, 47, 114, 111, 112, 101, 108, 97, 100, 100, 101, 114, 108, 97, 119, 49, 52, 46, 66, 97, 116, 99, 104, 111, 112, 65, 108, 111, 110, 101, 32, 114, 111, 112, 101, 108, 97, 100, 100, 101, 114, 47, 114, 111, 112, 101, 108, 97, 100, 100, 101, 114, 108, 97, 119, 49, 52, 46, 66, 97, 116, 99, 104, 111, 112, 65, 116, 111, 109, 105, 99, 32, 114, 111, 112, 101, 108, 97, 100, 100, 101, 114, 47, 114, 111, 112, 101, 108, 97, 100, 100, 101, 114, 108, 97, 119, 49, 52, 46, 66, 97, 116, 99, 104, 111, 112, 77, 97, 116, 99, 104, 101, 115, 82, 101, 102, 101, 114, 101, 110, 99, 101, 32, 114, 111, 112, 101, 108, 97, 100, 100, 101, 114, 47, 114, 111, 112, 101, 108, 97, 100, 100, 101, 114, 108, 97, 119, 49, 53, 46, 67, 112, 113, 77, 97, 116, 99, 104, 101, 115, 82, 101, 102, 101, 114, 101, 110, 99, 101, 32, 114, 111, 112, 101, 108, 97, 100, 100, 101, 114, 47, 114, 111, 112, 101, 108, 97, 100, 100, 101, 114, 108, 97, 119, 49, 53, 46, 67, 112, 113, 66, 111, 117, 110, 100, 101, 100, 32, 114, 111, 112, 101, 108, 97, 100, 100, 101, 114, 47, 114, 111, 112, 101, 108, 97, 100, 100, 101, 114, 108, 97, 119, 49, 53, 46, 67, 112, 113, 83, 101, 113, 117, 101, 110, 116, 105, 97, 108]
theorem order : Tryz.prog.initOrder = String.ofList signs := by kernel_rfl
theorem toL : Tryz.prog.initOrder.toList = signs := by rw [order]; exact String.toList_ofList
theorem words : behindMainWord (wordsSigns Tryz.prog.initOrder.toList) = "cut".toList :: (behindMainWord (wordsSigns signs)).tail := by rw [toL]; kernel_rfl
theorem toL_ne {s t : String} (h : s ≠ t) : (s.toList == t.toList) = false := by
  rw [beq_eq_false_iff_ne]
  exact fun e => h (String.toList_inj.1 e)
theorem strip_cut (r : List (List Char)) : ∀ os : List String, (∀ o ∈ os, "cut" ≠ o) → stripLifts os ("cut".toList :: r) = ([], "cut".toList :: r)
  | [], _ => rfl
  | o :: os, h => by
    rw [stripLifts, toL_ne (h o (List.mem_cons_self ..))]
    exact strip_cut r os fun o ho => h o (List.mem_cons_of_mem _ ho)
theorem strip_words (r : List (List Char)) : stripLifts liftWords ("cut".toList :: r) = ([], "cut".toList :: r) := strip_cut r _ (by decide)
theorem fits_of (P : Program) (h : P.doorRows = []) : P.doorFits [] = true := by unfold Program.doorFits; rw [h]; rfl
theorem lifts0_of (P : Program) (r : List (List Char)) (h : behindMainWord (wordsSigns P.initOrder.toList) = "cut".toList :: r) : P.headLifts = [] := by unfold Program.headLifts; rw [h]; dsimp only; rw [strip_words]; simp
theorem lifts_of (P : Program) (r : List (List Char)) (h : behindMainWord (wordsSigns P.initOrder.toList) = "cut".toList :: r) : P.liftsFinal = false := by
  unfold Program.liftsFinal
  rw [lifts0_of P r h, h]
  have h : (some "cut".toList == some "carried".toList) = false := toL_ne (by decide)
  simp only [List.head?_cons, h]
  rfl
theorem made_of (P : Program) (r : List (List Char)) (h : behindMainWord (wordsSigns P.initOrder.toList) = "cut".toList :: r) : P.make = some .cut := by
  unfold Program.make
  rw [h]
  dsimp only
  rw [toL_ne (s := "cut") (t := "gc") (by decide), toL_ne (s := "cut") (t := "spec") (by decide)]
  simp
theorem enter_of (P : Program) (r : List (List Char)) (h : behindMainWord (wordsSigns P.initOrder.toList) = "cut".toList :: r) (lays : P.laysLater = false) (bears : P.bearsReflect = false) (doors : P.doorRows = []) : P.mayEnter = true := by
  unfold Program.mayEnter
  rw [h]
  dsimp only
  rw [strip_words, lays, bears, fits_of P doors]
  simp
theorem lays : Tryz.prog.laysLater = false := by kernel_rfl
theorem bears : Tryz.prog.bearsReflect = false := by kernel_rfl
theorem doors : Tryz.prog.doorRows = [] := by kernel_rfl
theorem lifts : Tryz.prog.liftsFinal = false := lifts_of _ _ words
theorem made : Tryz.prog.make = some .cut := made_of _ _ words
theorem enter : Tryz.prog.mayEnter = true := enter_of _ _ words lays bears doors
theorem laid : laidOutB Tryz.prog = true := by kernel_rfl
theorem mapsR : mapsRowed Tryz.prog = true := by kernel_rfl
theorem st : (Tryz.prog.stops == []) = true := by kernel_rfl
theorem stk : (Tryz.prog.stopKnobs == []) = true := by kernel_rfl
theorem heard : Tryz.prog.stopsHeard = true := by kernel_rfl
end Go.Proofs.YtdjnjchpgccbiaaGreat.Facts
