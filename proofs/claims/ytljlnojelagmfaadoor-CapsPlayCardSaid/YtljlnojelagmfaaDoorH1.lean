/-
  The reference: cuts, and what they call. (Chapter 12.)
-/
import Derived.Test.YtljlnojelagmfaaDoorA6
namespace Go.Proofs.YtljlnojelagmfaaDoor
open Go.RowKit Go.Pl
set_option maxRecDepth 100000

theorem in87 (n lo hi : Int) (w : World) : Calls Tryd.prog 87 #[.int .i64 n, .int .i64 lo, .int .i64 hi] w fun e w' => e = .returned (.bool (decide (lo ≤ n) && decide (n ≤ hi))) ∧ w = w' := by
  by_cases h : lo ≤ n
  · have h' : decide (lo ≤ n) = true := by simpa using h
    go_enter Tryd.func87, Tryd.ntmps87
    go_wp2
    go_ret
    simp [h']
  · have h' : decide (lo ≤ n) = false := by simpa using h
    go_enter Tryd.func87, Tryd.ntmps87
    go_wp2
    go_ret
    simp

theorem bucket90 (d : Int) (w : World) : Calls Tryd.prog 90 #[.int .i64 d] w fun e w' => e = .returned (.int .i64 (bucketN d)) ∧ w = w' := by
  unfold bucketN
  by_cases h1 : d < 30
  · rw [if_pos h1]
    go_enter Tryd.func90, Tryd.ntmps90
    go_wp2
    go_ret
    exact ⟨rfl, rfl⟩
  rw [if_neg h1]
  by_cases h2 : d < 90
  · rw [if_pos h2]
    go_enter Tryd.func90, Tryd.ntmps90
    go_wp2
    go_ret
    exact ⟨rfl, rfl⟩
  rw [if_neg h2]
  by_cases h3 : d < 365
  · rw [if_pos h3]
    go_enter Tryd.func90, Tryd.ntmps90
    go_wp2
    go_ret
    exact ⟨rfl, rfl⟩
  rw [if_neg h3]
  by_cases h4 : d < 1095
  · rw [if_pos h4]
    go_enter Tryd.func90, Tryd.ntmps90
    go_wp2
    go_ret
    exact ⟨rfl, rfl⟩
  rw [if_neg h4]
  by_cases h5 : d < 3650
  · rw [if_pos h5]
    go_enter Tryd.func90, Tryd.ntmps90
    go_wp2
    go_ret
    exact ⟨rfl, rfl⟩
  · rw [if_neg h5]
    go_enter Tryd.func90, Tryd.ntmps90
    go_wp2
    go_ret
    exact ⟨rfl, rfl⟩

def cutCell (l : List ((Int × Int) × Int)) (fx : Int) (i : Nat) : Value :=
  if i < 36 then .int .i64 ((lk l ((i / 6 + 1 : Nat), (i % 6 : Nat))).getD 0)
  else if i < 72 then .bool (lk l (((i - 36) / 6 + 1 : Nat), ((i - 36) % 6 : Nat))).isSome
  else .int .i64 fx
def cutCells (l : List ((Int × Int) × Int)) (fx : Int) : Array Value := Array.ofFn (n := 73) fun i => cutCell l fx i
/-- The reference's cuts. -/
def CutsAt (w : World) (b : Nat) (fx : Int) (l : List ((Int × Int) × Int)) : Prop := CellsAt w b (cutCells l fx) 46

theorem CutsAt.cellN {w : World} {b : Nat} {fx : Int} {l : List ((Int × Int) × Int)} (h : CutsAt w b fx l) (i : Nat) (hi : i < 73) : w.cell? ⟨b, i, none⟩ = some (cutCell l fx i) := by
  rw [CellsAt.cell h]
  simp [cutCells, hi]

theorem CutsAt.bp {w : World} {b : Nat} {fx : Int} {l : List ((Int × Int) × Int)} (h : CutsAt w b fx l) (c d : Int) (h1 : 1 ≤ c) (h2 : c ≤ 6) (h3 : 0 ≤ d) (h4 : d < 6) :
    w.cell? ⟨b, (c.toNat - 1) * 6 + d.toNat, none⟩ = some (.int .i64 ((lk l (c, d)).getD 0)) := by
  rw [h.cellN _ (by omega)]
  unfold cutCell
  rw [if_pos (by omega)]
  have e1 : ((((c.toNat - 1) * 6 + d.toNat) / 6 + 1 : Nat) : Int) = c := by omega
  have e2 : ((((c.toNat - 1) * 6 + d.toNat) % 6 : Nat) : Int) = d := by omega
  rw [e1, e2]
theorem CutsAt.isC {w : World} {b : Nat} {fx : Int} {l : List ((Int × Int) × Int)} (h : CutsAt w b fx l) (c d : Int) (h1 : 1 ≤ c) (h2 : c ≤ 6) (h3 : 0 ≤ d) (h4 : d < 6) :
    w.cell? ⟨b, 36 + (c.toNat - 1) * 6 + d.toNat, none⟩ = some (.bool (lk l (c, d)).isSome) := by
  rw [h.cellN _ (by omega)]
  unfold cutCell
  rw [if_neg (by omega), if_pos (by omega)]
  have e1 : (((36 + (c.toNat - 1) * 6 + d.toNat - 36) / 6 + 1 : Nat) : Int) = c := by omega
  have e2 : (((36 + (c.toNat - 1) * 6 + d.toNat - 36) % 6 : Nat) : Int) = d := by omega
  rw [e1, e2]
theorem CutsAt.fxC {w : World} {b : Nat} {fx : Int} {l : List ((Int × Int) × Int)} (h : CutsAt w b fx l) : w.cell? ⟨b, 72, none⟩ = some (.int .i64 fx) := by
  rw [h.cellN _ (by omega)]
  rfl

theorem cutGet25 (yb : Nat) (fx c d : Int) (l : List ((Int × Int) × Int)) (w : World) (hY : CutsAt w yb fx l) (h1 : 1 ≤ c) (h2 : c ≤ 6) (h3 : 0 ≤ d) (h4 : d < 6) :
    Calls Tryd.prog 25 #[.pointer (some ⟨yb, 0, .none⟩), .int .i64 c, .int .i64 d] w fun e w' => e = .returned (.int .i64 ((lk l (c, d)).getD 0)) ∧ w = w' := by
  have c0 := hY.bp c d h1 h2 h3 h4
  have hlt := CellsAt.lt hY
  have d1 : decide (1 ≤ c) = true := by simp; omega
  have d2 : decide (c ≤ 6) = true := by simp; omega
  have d3 : decide (0 ≤ d) = true := by simp; omega
  have d4 : decide (d ≤ 5) = true := by simp; omega
  go_enter Tryd.func25, Tryd.ntmps25
  go_wp2_with (first | (go_at_call 87; refine (in87 _ _ _ _).mono ?_; rintro e w' ⟨rfl, rfl⟩))
  go_ret
  exact ⟨rfl, rfl⟩

theorem cutGet25_out (yb : Nat) (c d : Int) (w : World) (h : ¬ (1 ≤ c ∧ c ≤ 6 ∧ 0 ≤ d ∧ d < 6)) :
    Calls Tryd.prog 25 #[.pointer (some ⟨yb, 0, .none⟩), .int .i64 c, .int .i64 d] w fun e w' => e = .returned (.int .i64 0) ∧ w = w' := by
  cases hc : (decide (1 ≤ c) && decide (c ≤ 6)) with
  | false =>
    have hcl : ∀ w, Calls Tryd.prog 87 #[.int .i64 c, .int .i64 1, .int .i64 6] w fun e w' => e = .returned (.bool false) ∧ w = w' := fun w => by have := in87 c 1 6 w; rwa [hc] at this
    have H := Lib.hid hcl
    clear hcl hc
    go_enter Tryd.func25, Tryd.ntmps25
    go_wp2_with (first | (go_at_call 87; refine (H.out _).mono ?_; rintro e w' ⟨rfl, rfl⟩))
    go_ret
    exact ⟨rfl, rfl⟩
  | true =>
    have hd : (decide (0 ≤ d) && decide (d ≤ 5)) = false := by simp at hc ⊢; omega
    have hcl : ∀ w, Calls Tryd.prog 87 #[.int .i64 c, .int .i64 1, .int .i64 6] w fun e w' => e = .returned (.bool true) ∧ w = w' := fun w => by have := in87 c 1 6 w; rwa [hc] at this
    have hdl : ∀ w, Calls Tryd.prog 87 #[.int .i64 d, .int .i64 0, .int .i64 5] w fun e w' => e = .returned (.bool false) ∧ w = w' := fun w => by have := in87 d 0 5 w; rwa [hd] at this
    have H := Lib.hid hcl
    have H' := Lib.hid hdl
    clear hcl hdl hd hc
    go_enter Tryd.func25, Tryd.ntmps25
    go_wp2_with fail
    refine (H.out _).mono ?_
    rintro e w' ⟨rfl, rfl⟩
    go_wp2_with fail
    refine (H'.out _).mono ?_
    rintro e w' ⟨rfl, rfl⟩
    go_wp2_with fail
    go_ret
    exact ⟨rfl, rfl⟩

theorem CutsAt.frozen {w : World} {b : Nat} {fx : Int} {l : List ((Int × Int) × Int)} (h : CutsAt w b fx l) (i : Nat) : w.frozen? ⟨b, i, none⟩ = false := CellsAt.frozen h i

theorem cutCells_get (l : List ((Int × Int) × Int)) (fx : Int) (i : Nat) : (cutCells l fx)[i]? = if i < 73 then some (cutCell l fx i) else none := by
  simp only [cutCells, Array.getElem?_ofFn]
  by_cases h : i < 73 <;> simp [h]
theorem cutCells_size (l : List ((Int × Int) × Int)) (fx : Int) : (cutCells l fx).size = 73 := by simp [cutCells]
theorem cutCell_put (l : List ((Int × Int) × Int)) (fx c d n : Int) (h1 : 1 ≤ c) (h2 : c ≤ 6) (h3 : 0 ≤ d) (h4 : d < 6) (i : Nat) :
    cutCell (put l (c, d) n) fx i = if 36 + (c.toNat - 1) * 6 + d.toNat = i then .bool true else if (c.toNat - 1) * 6 + d.toNat = i then .int .i64 n else cutCell l fx i := by
  unfold cutCell
  by_cases e1 : 36 + (c.toNat - 1) * 6 + d.toNat = i
  · rw [if_neg (by omega), if_pos (by omega), lk_put, if_pos (by ext <;> simp <;> omega), if_pos e1]
    rfl
  rw [if_neg e1]
  by_cases e2 : (c.toNat - 1) * 6 + d.toNat = i
  · rw [if_pos e2, if_pos (by omega), lk_put, if_pos (by ext <;> simp <;> omega)]
    rfl
  rw [if_neg e2]
  by_cases e3 : i < 36
  · simp only [if_pos e3]
    rw [lk_put, if_neg (by simp only [Prod.mk.injEq, not_and]; omega)]
  · simp only [if_neg e3]
    by_cases e4 : i < 72
    · simp only [if_pos e4]
      rw [lk_put, if_neg (by simp only [Prod.mk.injEq, not_and]; omega)]
    · simp only [if_neg e4]
theorem cutCells_put (l : List ((Int × Int) × Int)) (fx c d n : Int) (h1 : 1 ≤ c) (h2 : c ≤ 6) (h3 : 0 ≤ d) (h4 : d < 6) :
    ((cutCells l fx).setIfInBounds ((c.toNat - 1) * 6 + d.toNat) (.int .i64 n)).setIfInBounds (36 + (c.toNat - 1) * 6 + d.toNat) (.bool true) = cutCells (put l (c, d) n) fx := by
  apply Array.ext_getElem?
  intro i
  simp only [Array.getElem?_setIfInBounds, cutCells_get, Array.size_setIfInBounds, cutCells_size, cutCell_put l fx c d n h1 h2 h3 h4]
  by_cases e1 : 36 + (c.toNat - 1) * 6 + d.toNat = i
  · rw [if_pos e1, if_pos (by omega), if_pos (by omega), if_pos e1]
  rw [if_neg e1]
  by_cases e2 : (c.toNat - 1) * 6 + d.toNat = i
  · rw [if_pos e2, if_pos (by omega), if_pos (by omega), if_neg e1, if_pos e2]
  rw [if_neg e2, if_neg e1, if_neg e2]

theorem cutCells_fx (l : List ((Int × Int) × Int)) (fx n : Int) : (cutCells l fx).setIfInBounds 72 (.int .i64 n) = cutCells l n := by
  apply Array.ext_getElem?
  intro i
  simp only [Array.getElem?_setIfInBounds, cutCells_get, cutCells_size]
  unfold cutCell
  by_cases e1 : 72 = i
  · subst e1; simp
  · rw [if_neg e1]
    by_cases h : i < 72
    · simp only [if_pos h]
    · rw [if_neg (by omega), if_neg (by omega)]

set_option maxHeartbeats 1000000 in
theorem cutSet22 (yb : Nat) (fx c d n : Int) (l : List ((Int × Int) × Int)) (w : World) (hY : CutsAt w yb fx l) (h1 : 1 ≤ c) (h2 : c ≤ 6) (h3 : 0 ≤ d) (h4 : d < 6) (h5 : 0 ≤ n) (h6 : n ≤ 10000) :
    Calls Tryd.prog 22 #[.pointer (some ⟨yb, 0, .none⟩), .int .i64 c, .int .i64 d, .int .i64 n] w fun e w' => e = .returned (.int .i64 0) ∧ CutsAt w' yb fx (put l (c, d) n) ∧ Chg (S1 yb) w w' := by
  have c0 := hY.bp c d h1 h2 h3 h4
  have c1 := hY.isC c d h1 h2 h3 h4
  have f0 := hY.frozen ((c.toNat - 1) * 6 + d.toNat)
  have f1 := hY.frozen (36 + (c.toNat - 1) * 6 + d.toNat)
  have hlt := CellsAt.lt hY
  have d1 : decide (1 ≤ c) = true := by simp; omega
  have d2 : decide (c ≤ 6) = true := by simp; omega
  have d3 : decide (0 ≤ d) = true := by simp; omega
  have d4 : decide (d ≤ 5) = true := by simp; omega
  have d5 : decide (n < 0) = false := by simp; omega
  have d6 : decide (10000 < n) = false := by simp; omega
  have hne : (36 + (c.toNat - 1) * 6 + d.toNat == (c.toNat - 1) * 6 + d.toNat) = false := by simp
  have hne' : ¬ ((c.toNat - 1) * 6 + d.toNat = 36 + (c.toNat - 1) * 6 + d.toNat) := by omega
  have hput := cutCells_put l fx c d n h1 h2 h3 h4
  go_enter Tryd.func22, Tryd.ntmps22
  go_wp2_with (first | (go_at_call 87; refine (in87 _ _ _ _).mono ?_; rintro e w' ⟨rfl, rfl⟩))
  go_ret
  refine ⟨rfl, ?_, ?_⟩
  · unfold CutsAt
    rw [← hput]
    exact CellsAt.set (CellsAt.set hY _ _) _ _
  · exact Chg.setCell (S := S1 yb) (Chg.setCell (S := S1 yb) (Chg.refl _ _) ⟨yb, _, none⟩ _ (.inl rfl)) ⟨yb, _, none⟩ _ (.inl rfl)
end Go.Proofs.YtljlnojelagmfaaDoor
