/-
  Contracts of small functions: world numbers, cmp, days, cuts' tests, assets' tests.
-/
import Derived.Test.YtljlnojelagmfaaDoorRows
import Derived.Test.YtljlnojelagmfaaDoorB3
import Derived.BigRegion
import Derived.BigQuiet
import Derived.Outline
import Derived.Lib.Hide
import Derived.Deep.RegionHeld3
namespace Go.Proofs.YtljlnojelagmfaaDoor
open Go.RowKit Go.Pl

theorem ret_bool {a b : Bool} (h : a = b) : Ending.returned (.bool a) = .returned (.bool b) := by rw [h]
theorem ret_int {k : IntKind} {a b : Int} (h : a = b) : Ending.returned (.int k a) = .returned (.int k b) := by rw [h]

theorem tmod_cases (n m : Int) (h0 : 0 < m) : (n.tmod m < 0 ∧ -m < n.tmod m ∧ n.tmod m + m = n % m) ∨ (0 ≤ n.tmod m ∧ n.tmod m < m ∧ n.tmod m = n % m) := by
  have h1 := Int.emod_nonneg n (by omega : m ≠ 0)
  have h2 := Int.emod_lt_of_pos n h0
  have h3 : (m.natAbs : Int) = m := by omega
  rw [Int.tmod_eq_emod]
  split <;> omega

set_option maxHeartbeats 400000 in
theorem number_any (n m : Int) (w : World) (h0 : 0 < m) (h1 : m ≤ 1000000000000) :
    Calls Tryd.prog 15 #[.int .i64 n, .int .i64 m] w fun e w' => e = .returned (.int .i64 (n % m)) ∧ w = w' := by
  have hm : m ≠ 0 := by omega
  rcases tmod_cases n m h0 with ⟨h2, h3, h4⟩ | ⟨h2, h3, h4⟩
  · have H := Lib.hid h4
    clear h4
    go_enter Tryd.func15, Tryd.ntmps15
    go_wp2
    go_ret
    exact ⟨ret_int H.out, rfl⟩
  · have H := Lib.hid h4
    clear h4
    go_enter Tryd.func15, Tryd.ntmps15
    go_wp2
    go_ret
    exact ⟨ret_int H.out, rfl⟩

theorem isNaN_any (n : Int) (w : World) : Calls Tryd.prog 150 #[.int .i64 n] w fun e w' => e = .returned (.bool false) ∧ w = w' := by
  go_enter Tryd.func150, Tryd.ntmps150
  go_wp2
  go_ret
  simp

theorem compare_lt (a b : Int) (w : World) (h : a < b) : Calls Tryd.prog 82 #[.int .i64 a, .int .i64 b] w fun e w' => e = .returned (.int .i64 (-1)) ∧ w = w' := by
  go_enter Tryd.func82, Tryd.ntmps82
  go_wp2_with (go_at_call 150; refine (isNaN_any _ _).mono ?_; rintro e w' ⟨rfl, rfl⟩)
  go_ret
  simp
theorem compare_gt (a b : Int) (w : World) (h : b < a) : Calls Tryd.prog 82 #[.int .i64 a, .int .i64 b] w fun e w' => e = .returned (.int .i64 1) ∧ w = w' := by
  have h' : ¬ a < b := by omega
  go_enter Tryd.func82, Tryd.ntmps82
  go_wp2_with (go_at_call 150; refine (isNaN_any _ _).mono ?_; rintro e w' ⟨rfl, rfl⟩)
  go_ret
  simp
theorem compare_eq (a : Int) (w : World) : Calls Tryd.prog 82 #[.int .i64 a, .int .i64 a] w fun e w' => e = .returned (.int .i64 0) ∧ w = w' := by
  go_enter Tryd.func82, Tryd.ntmps82
  go_wp2_with (go_at_call 150; refine (isNaN_any _ _).mono ?_; rintro e w' ⟨rfl, rfl⟩)
  go_ret
  simp
def cmpI (a b : Int) : Int := if a < b then -1 else if b < a then 1 else 0
theorem compare_any (a b : Int) (w : World) : Calls Tryd.prog 82 #[.int .i64 a, .int .i64 b] w fun e w' => e = .returned (.int .i64 (cmpI a b)) ∧ w = w' := by
  by_cases h1 : a < b
  · rw [show cmpI a b = -1 by simp [cmpI, h1]]; exact compare_lt a b w h1
  · by_cases h2 : b < a
    · rw [show cmpI a b = 1 by simp [cmpI, h1, h2]]; exact compare_gt a b w h2
    · obtain rfl : a = b := by omega
      rw [show cmpI a a = 0 by simp [cmpI]]; exact compare_eq a w

theorem left_none (today : Int) (w : World) : Calls Tryd.prog 84 #[.int .i64 0, .int .i64 today] w fun e w' => e = .returned (.tuple #[.int .i64 0, .bool true]) ∧ w = w' := by
  go_enter Tryd.func84, Tryd.ntmps84
  go_wp2
  go_ret2
  simp
theorem left_over (d today : Int) (w : World) (h : d ≠ 0) (h' : d ≤ today) : Calls Tryd.prog 84 #[.int .i64 d, .int .i64 today] w fun e w' => e = .returned (.tuple #[.int .i64 0, .bool false]) ∧ w = w' := by
  go_enter Tryd.func84, Tryd.ntmps84
  go_wp2
  go_ret2
  simp
theorem left_live (d today : Int) (w : World) (_h : d ≠ 0) (h' : today < d) (h1 : d ≤ 1000000000000) (h2 : 0 ≤ today) : Calls Tryd.prog 84 #[.int .i64 d, .int .i64 today] w fun e w' => e = .returned (.tuple #[.int .i64 (d - today), .bool true]) ∧ w = w' := by
  have h3 : ¬ d ≤ today := by omega
  go_enter Tryd.func84, Tryd.ntmps84
  go_wp2
  go_ret2
  simp
end Go.Proofs.YtljlnojelagmfaaDoor
