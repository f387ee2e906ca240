/-
  cmp.Or, and the closure that slices.SortedFunc is handed. (Chapter 12.)
-/
import Derived.Test.YtljlnojelagmfaaDoorD2
import Derived.Test.YtljlnojelagmfaaDoorS1
import Derived.Handy
import Derived.Test.YtljlnojelagmfaaDoorB6
namespace Go.Proofs.YtljlnojelagmfaaDoor
open Go.RowKit Go.Pl Go.Shelf Go.Sort
set_option maxRecDepth 100000

def or2 (x y : Int) : Int := if x = 0 then y else x

set_option maxHeartbeats 1000000 in
theorem or2_any (b : Nat) (x y : Int) (w : World) (h0 : w.cell? ⟨b, 0, none⟩ = some (.int .i64 x)) (h1 : w.cell? ⟨b, 1, none⟩ = some (.int .i64 y)) :
    Calls Tryd.prog 81 #[.slice (some ⟨b, 0, none⟩) 2 2] w fun e w' => e = .returned (.int .i64 (or2 x y)) ∧ w = w' := by
  unfold or2
  by_cases hx : x = 0
  · subst hx
    by_cases hy : y = 0
    · subst hy
      go_enter Tryd.func81, Tryd.ntmps81
      go_wp2
      go_rounds 3
      go_ret
      exact ⟨rfl, rfl⟩
    · have hy' : (y == 0) = false := by simpa using hy
      have hy'' : (y != 0) = true := by simpa using hy
      go_enter Tryd.func81, Tryd.ntmps81
      go_wp2
      go_rounds 2
      go_ret
      exact ⟨rfl, rfl⟩
  · have hx' : (x == 0) = false := by simpa using hx
    have hx'' : (x != 0) = true := by simpa using hx
    rw [if_neg hx]
    go_enter Tryd.func81, Tryd.ntmps81
    go_wp2
    go_rounds 1
    go_ret
    exact ⟨rfl, rfl⟩

/-- The order of pairs. -/
def cmp2 (x y : Int × Int) : Int := or2 (cmpI x.1 y.1) (cmpI x.2 y.2)

set_option maxHeartbeats 4000000 in
theorem closure80 (x1 x2 y1 y2 : Int) (W : World) : Calls Tryd.prog 80 #[.agg #[.int .i64 x1, .int .i64 x2], .agg #[.int .i64 y1, .int .i64 y2]] W fun e w' => e = .returned (.int .i64 (cmp2 (x1, x2) (y1, y2))) ∧ ∃ q os', w' = grow (W.drewN q) os' := by
  unfold cmp2
  simp only
  go_enter Tryd.func80, Tryd.ntmps80
  go_wp2
  go_region_held3 (fun w' => w'.cell? ⟨W.heap.size, 0, none⟩ = some (.int .i64 x1) ∧ w'.cell? ⟨W.heap.size, 1, none⟩ = some (.int .i64 x2) ∧ w'.cell? ⟨W.heap.size + 1, 0, none⟩ = some (.int .i64 y1) ∧ w'.cell? ⟨W.heap.size + 1, 1, none⟩ = some (.int .i64 y2)) (go_keep)
    (first | (go_at_call 82; refine (compare_any _ _ _).mono ?_; rintro e w' ⟨rfl, rfl⟩) | (go_at_call 81; refine (or2_any _ (cmpI x1 y1) (cmpI x2 y2) _ ?_ ?_).mono ?_; (simp [go_sem]); (simp [go_sem]); rintro e w' ⟨rfl, rfl⟩))
  go_wp2
  go_ret
  exact ⟨rfl, 1, _, by simp only [alloc_eq_grow, grow_grow]; rfl⟩

/-- 'cmp(a, b) < 0' on pairs. -/
def lt2 (x y : Int × Int) : Bool := decide (x.1 < y.1 ∨ (x.1 = y.1 ∧ x.2 < y.2))
theorem lt2_eq (x y : Int × Int) : ltOf cmp2 x y = lt2 x y := by
  unfold ltOf cmp2 lt2 or2 cmpI
  by_cases h1 : x.1 < y.1
  · simp [h1]
  · by_cases h2 : y.1 < x.1
    · have : ¬ x.1 = y.1 := by omega
      simp [h1, h2, this]
    · have h3 : x.1 = y.1 := by omega
      by_cases h4 : x.2 < y.2
      · simp [h3, h4]
      · by_cases h5 : y.2 < x.2 <;> simp [h3, h4, h5]

theorem swo2 : SWO (ltOf cmp2) where
  irrefl x := by rw [lt2_eq]; simp [lt2]
  trans x y z h1 h2 := by rw [lt2_eq] at *; simp [lt2] at *; omega
  ntrans x y z h1 h2 := by rw [lt2_eq] at *; simp [lt2] at *; omega

def enc2 (x : Int × Int) : List Value := [.int .i64 x.1, .int .i64 x.2]
theorem cmpLays80 (blk off size : Nat) (w : World) : CmpLays Tryd.prog 80 #[] enc2 2 cmp2 blk off size w :=
  fun _ _ _ _ x y => closure80 x.1 x.2 y.1 y.2 _
end Go.Proofs.YtljlnojelagmfaaDoor
