/- Lists with one element inserted, as copying makes them. -/
namespace Go.Proofs.Ytmihhkcbbdpnaaa.Abs
theorem insRows1 {α : Type} (M : List α) (i : Nat) (hi : i < M.length) (x : α) (Z : List α) (hz : Z.length = M.length + 1 - i) :
    ((M.take i ++ Z).take i ++ ([x] ++ (M.take i ++ Z).drop (i + 1))).take (i + 1) ++ ((M.drop i).take (M.length - i) ++ ((M.take i ++ Z).take i ++ ([x] ++ (M.take i ++ Z).drop (i + 1))).drop (i + 1 + (M.length - i))) = M.take i ++ x :: M.drop i := by
  have hl : (M.take i).length = i := by rw [List.length_take]; omega
  have a : (M.take i ++ Z).take i = M.take i := by
    have := List.take_left' (l₂ := Z) hl
    exact this
  rw [a]
  have e : M.take i ++ ([x] ++ (M.take i ++ Z).drop (i + 1)) = (M.take i ++ [x]) ++ (M.take i ++ Z).drop (i + 1) := by simp
  have b : (M.take i ++ ([x] ++ (M.take i ++ Z).drop (i + 1))).take (i + 1) = M.take i ++ [x] := by
    rw [e]; exact List.take_left' (by simp [hl])
  have c : (M.take i ++ ([x] ++ (M.take i ++ Z).drop (i + 1))).drop (i + 1 + (M.length - i)) = [] := by
    apply List.drop_eq_nil_of_le
    simp only [List.length_append, List.length_drop, List.length_singleton, hl, hz]
    omega
  have d : (M.drop i).take (M.length - i) = M.drop i := List.take_of_length_le (by rw [List.length_drop]; omega)
  rw [b, c, d]
  simp
theorem insRows2 {α : Type} (M : List α) (i : Nat) (hi : i < M.length) (x : α) :
    (M.take (i + 1) ++ ((M.drop i).take (M.length - i) ++ M.drop (i + 1 + (M.length - i)))).take i ++ ([x] ++ (M.take (i + 1) ++ ((M.drop i).take (M.length - i) ++ M.drop (i + 1 + (M.length - i)))).drop (i + 1)) = M.take i ++ x :: M.drop i := by
  have hl : (M.take (i + 1)).length = i + 1 := by rw [List.length_take]; omega
  have d : (M.drop i).take (M.length - i) = M.drop i := List.take_of_length_le (by rw [List.length_drop]; omega)
  have c : M.drop (i + 1 + (M.length - i)) = [] := List.drop_eq_nil_of_le (by omega)
  rw [c, d, List.append_nil]
  have e : (M.take (i + 1) ++ M.drop i).drop (i + 1) = M.drop i := List.drop_left' hl
  have f : (M.take (i + 1) ++ M.drop i).take i = M.take i := by
    rw [List.take_append_of_le_length (by omega), List.take_take]
    congr 1; omega
  rw [e, f]; rfl
end Go.Proofs.Ytmihhkcbbdpnaaa.Abs
