/- Closed facts of the program that every row asks for. The words of the program's head are reckoned over a list of signs: over the string itself the kernel runs out of memory. -/
import Derived.Test.YtmihhkcbbdpnaaaRows
import Derived.JoinedOf
namespace Go.Proofs.Ytmihhkcbbdpnaaa.Facts
set_option maxRecDepth 100000
theorem and2 {a b : Bool} (h1 : a = true) (h2 : b = true) : (a && b) = true := by rw [h1, h2]; rfl
def signs : List Char := List.map Char.ofNat [104, 97, 114, 110, 101, 115, 115, 32, 56, 99, 100, 48, 56, 48, 55, 56, 49, 98, 99, 51, 101, 57, 50, 57, 56, 54, 56, 102, 54, 98, 99, 57, 101, 52, 99, 49, 102, 57, 97, 54, 52, 49, 52, 98, 101, 53, 102, 100, 53, 97, 101, 49, 48, 54, 99, 97, 53, 49, 50, 51, 52, 51, 99, 56, 49, 49, 52, 54, 50, 53, 54, 101, 32, 99, 117, 116, 32, 97, 116, 32, 114, 111, 112, 101, 108, 97, 100, 100, 101, 114, 47, 114, 111, 112, 101, 108, 97, 100, 100, 101, 114, 108, 97, 119, 49, 48, 46, 80, 113, 109, 111, 100, 101, 108, 77, 97, 116, 99, 104, 101, 115, 82, 101, 102, 101, 114, 101, 110, 99, 101, 32, 114, 111, 112, 101, 108, 97, 100, 100, 101, 114, 47, 114, 111, 112, 101, 108, 97, 100, 100, 101, 114, 108, 97, 119, 49, 48, 46, 80, 113, 109, 111, 100, 101, 108, 73, 110, 118, 97, 114, 105, 97, 110, 116, 32, 114, 111, 112, 101, 108, 97, 100, 100, 101, 114, 47, 114, 111, 112, 101, 108, 97, 100, 100, 101, 114, 108, 97, 119, 49, 48, 46, 80, 113, 109, 111, 100, 101, 108, 79, 114, 100, 101, 114, 32, 114, 111, 112, 101, 108, 97, 100, 100, 101, 114, 47, 114, 111, 112, 101, 108, 97, 100, 100, 101, 114, 108, 97, 119, 49, 48, 46, 80, 113, 109, 111, 100, 101, 108, 79, 110, 99, 101, 32, 114, 111, 112, 101, 108, 97, 100, 100, 101, 114, 47, 114, 111, 112, 101, 108, 97, 100, 100, 101, 114, 108, 97, 119, 49, 48, 46, 80, 113, 109, 111, 100, 101, 108, 67, 97, 112, 97, 99, 105, 116, 121, 32, 114, 111, 112, 101, 108, 97, 100, 100, 101, 114, 47, 114, 111, 112, 101, 108, 97, 100, 100, 101, 114, 108, 97, 119, 49, 48, 46, 80, 113, 109, 111, 100, 101, 108, 65, 99, 99, 101, 112, 116, 115, 32, 114, 111, 112, 101, 108, 97, 100, 100, 101, 114, 47, 114, 111, 112, 101, 108, 97, 100, 100, 101, 114, 108, 97, 119, 48, 57, 46, 87, 111, 114, 107, 108, 111, 97, 100, 77, 97, 116, 99, 104, 101, 115, 82, 101, 102, 101, 114, 101, 110, 99, 101, 32, 114, 111, 112, 101, 108, 97, 100, 100, 101, 114, 47, 114, 111, 112, 101, 108, 97, 100, 100, 101, 114, 108, 97, 119, 48, 57, 46, 87, 111, 114, 107, 108, 111, 97, 100, 66, 111, 117, 110, 100, 115, 32, 114, 111, 112, 101, 108, 97, 100, 100, 101, 114, 47, 114, 111, 112, 101, 108, 97, 100, 100, 101, 114, 108, 97, 119, 48, 57, 46, 87, 111, 114, 107, 108, 111, 97, 100, 69, 113, 117, 105, 118, 97, 108, 101, 110, 116, 32, 114, 111, 112, 101, 108, 97, 100, 100, 101, 114, 47, 114, 111, 112, 101, 108, 97, 100, 100, 101, 114, 108, 97, 119, 48, 57, 46, 87, 111, 114, 107, 108, 111, 97, 100, 68, 114, 97, 105, 110, 115, 32, 114, 111, 112, 101, 108, 97, 100, 100, 101, 114, 47, 114, 111, 112, 101, 108, 97, 100, 100, 101, 114, 108, 97, 119, 48, 57, 46, 87, 111, 114, 107, 108, 111, 97, 100, 83, 104, 105, 102, 116, 101, 100, 32, 114, 111, 112, 101, 108, 97, 100, 100, 101, 114, 47, 114, 111, 112, 101, 108, 97, 100, 100, 101, 114, 108, 97, 119, 48, 56, 46, 76, 97, 100, 100, 101, 114, 73, 110, 118, 97, 114, 105, 97, 110, 116, 32, 114, 111, 112, 101, 108, 97, 100, 100, 101, 114, 47, 114, 111, 112, 101, 108, 97, 100, 100, 101, 114, 108, 97, 119, 48, 56, 46, 76, 97, 100, 100, 101, 114, 83, 111, 114, 116, 115, 32, 114, 111, 112, 101, 108, 97, 100, 100, 101, 114, 47, 114, 111, 112, 101, 108, 97, 100, 100, 101, 114, 108, 97, 119, 48, 56, 46, 76, 97, 100, 100, 101, 114, 77, 111, 100, 101, 108, 32, 114, 111, 112, 101, 108, 97, 100, 100, 101, 114, 47, 114, 111, 112, 101, 108, 97, 100, 100, 101, 114, 108, 97, 119, 48, 56, 46, 76, 97, 100, 100, 101, 114, 80, 101, 101, 107, 115, 32, 114, 111, 112, 101, 108, 97, 100, 100, 101, 114, 47, 114, 111, 112, 101, 108, 97, 100, 100, 101, 114, 108, 97, 119, 48, 56, 46, 76, 97, 100, 100, 101, 114, 77, 111, 118, 101, 115, 32, 114, 111, 112, 101, 108, 97, 100, 100, 101, 114, 47, 114, 111, 112, 101, 108, 97, 100, 100, 101, 114, 108, 97, 119, 48, 56, 46, 76, 97, 100, 100, 101, 114, 82, 111, 117, 116, 101, 115]
theorem order : Try.prog.initOrder = String.ofList signs := by kernel_rfl
theorem toL : Try.prog.initOrder.toList = signs := by rw [order]; exact String.toList_ofList
theorem words : behindMainWord (wordsSigns Try.prog.initOrder.toList) = "cut".toList :: (behindMainWord (wordsSigns signs)).tail := by rw [toL]; kernel_rfl
theorem toL_ne {s t : String} (h : s ≠ t) : (s.toList == t.toList) = false := by
  rw [beq_eq_false_iff_ne]
  exact fun e => h (String.toList_inj.1 e)
theorem strip_cut (r : List (List Char)) : ∀ os : List String, (∀ o ∈ os, "cut" ≠ o) → stripLifts os ("cut".toList :: r) = ([], "cut".toList :: r)
  | [], _ => rfl
  | o :: os, h => by
    rw [stripLifts, toL_ne (h o (List.mem_cons_self ..))]
    exact strip_cut r os fun o ho => h o (List.mem_cons_of_mem _ ho)
theorem strip_words (r : List (List Char)) : stripLifts liftWords ("cut".toList :: r) = ([], "cut".toList :: r) := strip_cut r _ (by decide)
theorem fits_of (P : Program) (h : P.doorRows = []) : P.doorFits [] = true := by unfold Program.doorFits; rw [h]; rfl
theorem lifts0_of (P : Program) (r : List (List Char)) (h : behindMainWord (wordsSigns P.initOrder.toList) = "cut".toList :: r) : P.headLifts = [] := by unfold Program.headLifts; rw [h]; dsimp only; rw [strip_words]; simp
theorem lifts_of (P : Program) (r : List (List Char)) (h : behindMainWord (wordsSigns P.initOrder.toList) = "cut".toList :: r) : P.liftsFinal = false := by
  unfold Program.liftsFinal
  rw [lifts0_of P r h, h]
  have h : (some "cut".toList == some "carried".toList) = false := toL_ne (by decide)
  simp only [List.head?_cons, h]
  rfl
theorem made_of (P : Program) (r : List (List Char)) (h : behindMainWord (wordsSigns P.initOrder.toList) = "cut".toList :: r) : P.make = some .cut := by
  unfold Program.make
  rw [h]
  dsimp only
  rw [toL_ne (s := "cut") (t := "gc") (by decide), toL_ne (s := "cut") (t := "spec") (by decide)]
  simp
theorem enter_of (P : Program) (r : List (List Char)) (h : behindMainWord (wordsSigns P.initOrder.toList) = "cut".toList :: r) (lays : P.laysLater = false) (bears : P.bearsReflect = false) (doors : P.doorRows = []) : P.mayEnter = true := by
  unfold Program.mayEnter
  rw [h]
  dsimp only
  rw [strip_words, lays, bears, fits_of P doors]
  simp
theorem lays : Try.prog.laysLater = false := by kernel_rfl
theorem bears : Try.prog.bearsReflect = false := by kernel_rfl
theorem doors : Try.prog.doorRows = [] := by kernel_rfl
theorem lifts : Try.prog.liftsFinal = false := lifts_of _ _ words
theorem made : Try.prog.make = some .cut := made_of _ _ words
theorem enter : Try.prog.mayEnter = true := enter_of _ _ words lays bears doors
theorem laid : laidOutB Try.prog = true := by kernel_rfl
theorem mapsR : mapsRowed Try.prog = true := by kernel_rfl
theorem st : (Try.prog.stops == []) = true := by kernel_rfl
theorem stk : (Try.prog.stopKnobs == []) = true := by kernel_rfl
theorem heard : Try.prog.stopsHeard = true := by kernel_rfl
end Go.Proofs.Ytmihhkcbbdpnaaa.Facts
