/- Contracts of package handle (layer 4), of its reference and of the statements' helpers: what the Go code computes. -/
import Derived.Test.YtepepidjefpckaaRows
import Derived.WalkKit
import Derived.ProofKit
import Derived.OpenShut
import Derived.Lib.Hide
import Derived.IntWalk
namespace Go.Proofs.Ytepepidjefpckaa.Hd
open Go.ChangeShapes Go.WideShapes Go.ChangeAt Go.RowKit

theorem ret_int {k : IntKind} {a b : Int} (h : a = b) : Ending.returned (.int k a) = .returned (.int k b) := by rw [h]
theorem ret_bool {a b : Bool} (h : a = b) : Ending.returned (.bool a) = .returned (.bool b) := by rw [h]
theorem wrap64_id (n : Int) (h1 : -9223372036854775808 ≤ n) (h2 : n < 9223372036854775808) : wrap64 n = n := by unfold wrap64; omega

theorem or_add (k : Nat) (g s : Int) (hg0 : 0 ≤ g) (hs0 : 0 ≤ s) (hs : s < 2 ^ k) (hk : g * 2 ^ k < 2 ^ 60) (hs2 : s < 2 ^ 60) :
    bits BinOp.or IntKind.i64 (g * 2 ^ k) s = g * 2 ^ k + s := by
  obtain ⟨g, rfl⟩ := Int.eq_ofNat_of_zero_le hg0
  obtain ⟨s, rfl⟩ := Int.eq_ofNat_of_zero_le hs0
  have e : ((g : Int) * 2 ^ k) = ((g * 2 ^ k : Nat) : Int) := by simp
  rw [e] at hk ⊢
  have hs' : s < 2 ^ k := by exact_mod_cast hs
  have hk' : g * 2 ^ k < 2 ^ 60 := by exact_mod_cast hk
  have hs3 : s < 2 ^ 60 := by exact_mod_cast hs2
  have ho : (g * 2 ^ k) ||| s = g * 2 ^ k + s := by
    rw [Nat.mul_comm, Nat.two_pow_add_eq_or_of_lt hs']
  have hb : (BitVec.ofInt 64 ((g * 2 ^ k : Nat) : Int) ||| BitVec.ofInt 64 (s : Int)).toNat = g * 2 ^ k + s := by
    rw [BitVec.toNat_or, BitVec.ofInt_natCast, BitVec.ofInt_natCast, BitVec.toNat_ofNat, BitVec.toNat_ofNat, Nat.mod_eq_of_lt (by omega), Nat.mod_eq_of_lt (by omega), ho]
  show IntKind.i64.wrap ((BitVec.ofInt 64 ((g * 2 ^ k : Nat) : Int) ||| BitVec.ofInt 64 (s : Int)).toNat : Int) = _
  rw [hb, IntWalk.i64_in _ (by omega)]
  simp

theorem and_mod (k : Nat) (hk : k < 62) (p : Int) (hp0 : 0 ≤ p) (hp : p < 2 ^ 62) : bits BinOp.and IntKind.i64 p (2 ^ k - 1) = p % 2 ^ k := by
  obtain ⟨p, rfl⟩ := Int.eq_ofNat_of_zero_le hp0
  have h1 : 1 ≤ 2 ^ k := Nat.one_le_two_pow
  have h2 : 2 ^ k < 2 ^ 62 := Nat.pow_lt_pow_right (by omega) hk
  have e : ((2 : Int) ^ k - 1) = ((2 ^ k - 1 : Nat) : Int) := by rw [Int.natCast_sub h1]; simp
  rw [e]
  have hp' : p < 2 ^ 62 := by exact_mod_cast hp
  have hlt : p % 2 ^ k < 2 ^ 62 := Nat.lt_of_le_of_lt (Nat.mod_le _ _) hp'
  have hb : (BitVec.ofInt 64 (p : Int) &&& BitVec.ofInt 64 ((2 ^ k - 1 : Nat) : Int)).toNat = p % 2 ^ k := by
    rw [BitVec.toNat_and, BitVec.ofInt_natCast, BitVec.ofInt_natCast, BitVec.toNat_ofNat, BitVec.toNat_ofNat, Nat.mod_eq_of_lt (by omega), Nat.mod_eq_of_lt (by omega), Nat.and_two_pow_sub_one_eq_mod]
  show IntKind.i64.wrap ((BitVec.ofInt 64 (p : Int) &&& BitVec.ofInt 64 ((2 ^ k - 1 : Nat) : Int)).toNat : Int) = _
  rw [hb, IntWalk.i64_in _ (by omega)]
  simp

theorem word_any (g s : Int) (w : World) (hg0 : 0 ≤ g) (hg : g ≤ 1099511627776) (hs0 : 0 ≤ s) (hs : s < 4) :
    Calls Try.prog 17 #[.int .i64 g, .int .i64 s] w fun e w' => e = .returned (.int .i64 (4 * g + s)) ∧ w = w' := by
  go_enter Try.func17, Try.ntmps17
  go_wp2
  go_ret
  exact ⟨ret_int (by have := or_add 2 g s hg0 hs0 (by omega) (by omega) (by omega); simp only [show (2 : Int) ^ 2 = 4 from rfl] at this; rw [this]; omega), rfl⟩
theorem make_any (s g : Int) (w : World) (hg0 : 0 ≤ g) (hg : g ≤ 1099511627776) (hs0 : 0 ≤ s) (hs : s < 64) :
    Calls Try.prog 22 #[.int .i64 s, .int .i64 g] w fun e w' => e = .returned (.int .i64 (64 * g + s)) ∧ w = w' := by
  go_enter Try.func22, Try.ntmps22
  go_wp2
  go_ret
  exact ⟨ret_int (by have := or_add 6 g s hg0 hs0 (by omega) (by omega) (by omega); simp only [show (2 : Int) ^ 6 = 64 from rfl] at this; rw [this]; omega), rfl⟩
theorem high2 (p : Int) (w : World) : Calls Try.prog 46 #[.int .i64 p, .int .i64 2] w fun e w' => e = .returned (.int .i64 (p / 4)) ∧ w = w' := by
  go_enter Try.func46, Try.ntmps46
  go_wp2
  go_ret
  exact ⟨ret_int (by simp), rfl⟩
theorem high6 (p : Int) (w : World) : Calls Try.prog 46 #[.int .i64 p, .int .i64 6] w fun e w' => e = .returned (.int .i64 (p / 64)) ∧ w = w' := by
  go_enter Try.func46, Try.ntmps46
  go_wp2
  go_ret
  exact ⟨ret_int (by simp), rfl⟩
theorem low2 (p : Int) (w : World) (h0 : 0 ≤ p) (h1 : p < 4611686018427387904) : Calls Try.prog 47 #[.int .i64 p, .int .i64 2] w fun e w' => e = .returned (.int .i64 (p % 4)) ∧ w = w' := by
  go_enter Try.func47, Try.ntmps47
  go_wp2
  go_ret
  exact ⟨ret_int (by have := and_mod 2 (by omega) p h0 (by omega); simpa using this), rfl⟩
theorem low6 (p : Int) (w : World) (h0 : 0 ≤ p) (h1 : p < 4611686018427387904) : Calls Try.prog 47 #[.int .i64 p, .int .i64 6] w fun e w' => e = .returned (.int .i64 (p % 64)) ∧ w = w' := by
  go_enter Try.func47, Try.ntmps47
  go_wp2
  go_ret
  exact ⟨ret_int (by have := and_mod 6 (by omega) p h0 (by omega); simpa using this), rfl⟩
theorem gen_any (p : Int) (w : World) : Calls Try.prog 18 #[.int .i64 p] w fun e w' => e = .returned (.int .i64 (p / 4)) ∧ w = w' := by
  go_enter Try.func18, Try.ntmps18
  go_wp2_with (go_at_call 46; refine (high2 _ _).mono ?_; rintro e w' ⟨rfl, rfl⟩)
  go_ret
  exact ⟨rfl, rfl⟩
theorem state_any (p : Int) (w : World) (h0 : 0 ≤ p) (h1 : p < 4611686018427387904) : Calls Try.prog 20 #[.int .i64 p] w fun e w' => e = .returned (.int .i64 (p % 4)) ∧ w = w' := by
  go_enter Try.func20, Try.ntmps20
  go_wp2_with (go_at_call 47; refine (low2 _ _ h0 h1).mono ?_; rintro e w' ⟨rfl, rfl⟩)
  go_ret
  exact ⟨rfl, rfl⟩
def vld (h : Int) : Bool := decide (0 ≤ h) && decide (h ≤ 70368744177727)
theorem valid_any (h : Int) (w : World) : Calls Try.prog 24 #[.int .i64 h] w fun e w' => e = .returned (.bool (vld h)) ∧ w = w' := by
  by_cases h0 : 0 ≤ h
  · go_enter Try.func24, Try.ntmps24
    go_wp2
    go_ret
    exact ⟨ret_bool (by simp [vld, h0]), rfl⟩
  · have h0' : decide (0 ≤ h) = false := by simpa using h0
    have e : vld h = false := by simp [vld]; omega
    have E := Lib.hid e
    clear e
    go_enter Try.func24, Try.ntmps24
    go_wp2
    go_ret
    exact ⟨ret_bool E.out.symm, rfl⟩
theorem vld_iff (h : Int) : vld h = true ↔ 0 ≤ h ∧ h ≤ 70368744177727 := by simp [vld]
theorem vld_iff_not (h : Int) : vld h = false ↔ ¬ (0 ≤ h ∧ h ≤ 70368744177727) := by rw [← Bool.not_eq_true, vld_iff]
def slotOf (h : Int) : Int := if 0 ≤ h ∧ h ≤ 70368744177727 then h % 64 else -1
def genOf (h : Int) : Int := if 0 ≤ h ∧ h ≤ 70368744177727 then h / 64 else -1
theorem field_low (h : Int) (w : World) : Calls Try.prog 48 #[.int .i64 h, .func (.func 47) #[.int .i64 h] #[]] w fun e w' => e = .returned (.int .i64 (slotOf h)) ∧ w = w' := by
  by_cases hv : 0 ≤ h ∧ h ≤ 70368744177727
  · have e := valid_any h
    rw [(vld_iff h).2 hv] at e
    have E := Lib.hid e
    have f : slotOf h = h % 64 := if_pos hv
    have F := Lib.hid f
    clear e f
    obtain ⟨h0, h1⟩ := hv
    go_enter Try.func48, Try.ntmps48
    go_wp2_with (first | (go_at_call 24; refine (E.out _).mono ?_; rintro e w' ⟨rfl, rfl⟩) | (go_at_call 47; refine (low6 _ _ h0 (by omega)).mono ?_; rintro e w' ⟨rfl, rfl⟩))
    go_ret
    exact ⟨ret_int F.out.symm, rfl⟩
  · have e := valid_any h
    rw [(vld_iff_not h).2 hv] at e
    have E := Lib.hid e
    have f : slotOf h = -1 := if_neg hv
    have F := Lib.hid f
    clear e f hv
    go_enter Try.func48, Try.ntmps48
    go_wp2_with (go_at_call 24; refine (E.out _).mono ?_; rintro e w' ⟨rfl, rfl⟩)
    go_ret
    exact ⟨ret_int F.out.symm, rfl⟩
theorem field_high (h : Int) (w : World) : Calls Try.prog 48 #[.int .i64 h, .func (.func 46) #[.int .i64 h] #[]] w fun e w' => e = .returned (.int .i64 (genOf h)) ∧ w = w' := by
  by_cases hv : 0 ≤ h ∧ h ≤ 70368744177727
  · have e := valid_any h
    rw [(vld_iff h).2 hv] at e
    have E := Lib.hid e
    have f : genOf h = h / 64 := if_pos hv
    have F := Lib.hid f
    clear e f
    obtain ⟨h0, h1⟩ := hv
    go_enter Try.func48, Try.ntmps48
    go_wp2_with (first | (go_at_call 24; refine (E.out _).mono ?_; rintro e w' ⟨rfl, rfl⟩) | (go_at_call 46; refine (high6 _ _).mono ?_; rintro e w' ⟨rfl, rfl⟩))
    go_ret
    exact ⟨ret_int F.out.symm, rfl⟩
  · have e := valid_any h
    rw [(vld_iff_not h).2 hv] at e
    have E := Lib.hid e
    have f : genOf h = -1 := if_neg hv
    have F := Lib.hid f
    clear e f hv
    go_enter Try.func48, Try.ntmps48
    go_wp2_with (go_at_call 24; refine (E.out _).mono ?_; rintro e w' ⟨rfl, rfl⟩)
    go_ret
    exact ⟨ret_int F.out.symm, rfl⟩
theorem slot_any (h : Int) (w : World) : Calls Try.prog 26 #[.int .i64 h] w fun e w' => e = .returned (.int .i64 (slotOf h)) ∧ w = w' := by
  go_enter Try.func26, Try.ntmps26
  go_wp2_with (go_at_call 48; refine (field_low _ _).mono ?_; rintro e w' ⟨rfl, rfl⟩)
  go_ret
  exact ⟨rfl, rfl⟩
theorem genOf_any (h : Int) (w : World) : Calls Try.prog 28 #[.int .i64 h] w fun e w' => e = .returned (.int .i64 (genOf h)) ∧ w = w' := by
  go_enter Try.func28, Try.ntmps28
  go_wp2_with (go_at_call 48; refine (field_high _ _).mono ?_; rintro e w' ⟨rfl, rfl⟩)
  go_ret
  exact ⟨rfl, rfl⟩
theorem head_any (w : World) : Calls Try.prog 14 #[] w fun e w' => e = .returned (.bool true) ∧ w = w' := by
  have a1 := word_any 3 1
  have a2 := gen_any 13
  have a3 := state_any 13
  have a4 := make_any 5 2
  have a5 := slot_any 133
  have a6 := genOf_any 133
  have a7 := valid_any 0
  have a8 := valid_any (-1)
  have a9 := slot_any (-1)
  have a10 := genOf_any (-64)
  simp [vld, slotOf, genOf] at a1 a2 a3 a4 a5 a6 a7 a8 a9 a10
  have A1 := Lib.hid a1
  have A2 := Lib.hid a2
  have A3 := Lib.hid a3
  have A4 := Lib.hid a4
  have A5 := Lib.hid a5
  have A6 := Lib.hid a6
  have A7 := Lib.hid a7
  have A8 := Lib.hid a8
  have A9 := Lib.hid a9
  have A10 := Lib.hid a10
  clear a1 a2 a3 a4 a5 a6 a7 a8 a9 a10
  go_enter Try.func14, Try.ntmps14
  go_wp2_with (first
    | (go_at_call 17; refine (A1.out _).mono ?_; rintro e w' ⟨rfl, rfl⟩)
    | (go_at_call 18; refine (A2.out _).mono ?_; rintro e w' ⟨rfl, rfl⟩)
    | (go_at_call 20; refine (A3.out _).mono ?_; rintro e w' ⟨rfl, rfl⟩)
    | (go_at_call 22; refine (A4.out _).mono ?_; rintro e w' ⟨rfl, rfl⟩)
    | (go_at_call 26; (with_reducible refine (A5.out _).mono ?_); rintro e w' ⟨rfl, rfl⟩)
    | (go_at_call 26; (with_reducible refine (A9.out _).mono ?_); rintro e w' ⟨rfl, rfl⟩)
    | (go_at_call 28; (with_reducible refine (A6.out _).mono ?_); rintro e w' ⟨rfl, rfl⟩)
    | (go_at_call 28; (with_reducible refine (A10.out _).mono ?_); rintro e w' ⟨rfl, rfl⟩)
    | (go_at_call 24; (with_reducible refine (A7.out _).mono ?_); rintro e w' ⟨rfl, rfl⟩)
    | (go_at_call 24; (with_reducible refine (A8.out _).mono ?_); rintro e w' ⟨rfl, rfl⟩))
  go_ret
  exact ⟨rfl, rfl⟩
/-- the generation that a statement draws out of a raw number -/
def gn (raw : Int) : Int := raw % 1099511627777
theorem gn_bd (raw : Int) : 0 ≤ gn raw ∧ gn raw ≤ 1099511627776 := by unfold gn; omega
theorem Gen_any (raw : Int) (w : World) (h0 : 0 ≤ raw) : Calls Try.prog 15 #[.int .u64 raw] w fun e w' => e = .returned (.int .i64 (gn raw)) ∧ w = w' := by
  go_enter Try.func15, Try.ntmps15
  go_wp2
  go_ret
  exact ⟨rfl, rfl⟩
theorem rword_any (g s : Int) (w : World) (hg0 : 0 ≤ g) (hg : g ≤ 1099511627776) (hs0 : 0 ≤ s) (hs : s < 4) :
    Calls Try.prog 16 #[.int .i64 g, .int .i64 s] w fun e w' => e = .returned (.int .i64 (4 * g + s)) ∧ w = w' := by
  go_enter Try.func16, Try.ntmps16
  go_wp2
  go_ret
  exact ⟨rfl, rfl⟩
theorem rgen_any (p : Int) (w : World) (h0 : 0 ≤ p) (h1 : p < 4611686018427387904) : Calls Try.prog 19 #[.int .i64 p] w fun e w' => e = .returned (.int .i64 (p / 4)) ∧ w = w' := by
  go_enter Try.func19, Try.ntmps19
  go_wp2
  go_ret
  exact ⟨rfl, rfl⟩
theorem rstate_any (p : Int) (w : World) (h0 : 0 ≤ p) (h1 : p < 4611686018427387904) : Calls Try.prog 21 #[.int .i64 p] w fun e w' => e = .returned (.int .i64 (p % 4)) ∧ w = w' := by
  go_enter Try.func21, Try.ntmps21
  go_wp2
  go_ret
  exact ⟨rfl, rfl⟩
theorem rmake_any (s g : Int) (w : World) (hg0 : 0 ≤ g) (hg : g ≤ 1099511627776) (hs0 : 0 ≤ s) (hs : s < 64) :
    Calls Try.prog 23 #[.int .i64 s, .int .i64 g] w fun e w' => e = .returned (.int .i64 (64 * g + s)) ∧ w = w' := by
  go_enter Try.func23, Try.ntmps23
  go_wp2
  go_ret
  exact ⟨rfl, rfl⟩
theorem rvalid_any (h : Int) (w : World) : Calls Try.prog 25 #[.int .i64 h] w fun e w' => e = .returned (.bool (vld h)) ∧ w = w' := by
  by_cases h0 : 0 ≤ h
  · go_enter Try.func25, Try.ntmps25
    go_wp2
    go_ret
    exact ⟨ret_bool (by simp [vld, h0]), rfl⟩
  · have h0' : decide (0 ≤ h) = false := by simpa using h0
    have e : vld h = false := by simp [vld]; omega
    have E := Lib.hid e
    clear e
    go_enter Try.func25, Try.ntmps25
    go_wp2
    go_ret
    exact ⟨ret_bool E.out.symm, rfl⟩
theorem rslot_any (h : Int) (w : World) : Calls Try.prog 27 #[.int .i64 h] w fun e w' => e = .returned (.int .i64 (slotOf h)) ∧ w = w' := by
  by_cases hv : 0 ≤ h ∧ h ≤ 70368744177727
  · have e := rvalid_any h
    rw [(vld_iff h).2 hv] at e
    have E := Lib.hid e
    have f : slotOf h = h % 64 := if_pos hv
    have F := Lib.hid f
    clear e f
    obtain ⟨h0, h1⟩ := hv
    go_enter Try.func27, Try.ntmps27
    go_wp2_with (go_at_call 25; refine (E.out _).mono ?_; rintro e w' ⟨rfl, rfl⟩)
    go_ret
    exact ⟨ret_int F.out.symm, rfl⟩
  · have e := rvalid_any h
    rw [(vld_iff_not h).2 hv] at e
    have E := Lib.hid e
    have f : slotOf h = -1 := if_neg hv
    have F := Lib.hid f
    clear e f hv
    go_enter Try.func27, Try.ntmps27
    go_wp2_with (go_at_call 25; refine (E.out _).mono ?_; rintro e w' ⟨rfl, rfl⟩)
    go_ret
    exact ⟨ret_int F.out.symm, rfl⟩
theorem rgenOf_any (h : Int) (w : World) : Calls Try.prog 29 #[.int .i64 h] w fun e w' => e = .returned (.int .i64 (genOf h)) ∧ w = w' := by
  by_cases hv : 0 ≤ h ∧ h ≤ 70368744177727
  · have e := rvalid_any h
    rw [(vld_iff h).2 hv] at e
    have E := Lib.hid e
    have f : genOf h = h / 64 := if_pos hv
    have F := Lib.hid f
    clear e f
    obtain ⟨h0, h1⟩ := hv
    go_enter Try.func29, Try.ntmps29
    go_wp2_with (go_at_call 25; refine (E.out _).mono ?_; rintro e w' ⟨rfl, rfl⟩)
    go_ret
    exact ⟨ret_int F.out.symm, rfl⟩
  · have e := rvalid_any h
    rw [(vld_iff_not h).2 hv] at e
    have E := Lib.hid e
    have f : genOf h = -1 := if_neg hv
    have F := Lib.hid f
    clear e f hv
    go_enter Try.func29, Try.ntmps29
    go_wp2_with (go_at_call 25; refine (E.out _).mono ?_; rintro e w' ⟨rfl, rfl⟩)
    go_ret
    exact ⟨ret_int F.out.symm, rfl⟩
end Go.Proofs.Ytepepidjefpckaa.Hd
