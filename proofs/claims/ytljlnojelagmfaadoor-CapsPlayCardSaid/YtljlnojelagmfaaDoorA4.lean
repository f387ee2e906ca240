/-
  Contracts of package cut, and of what it calls: SetFx, Fx, bucket, day.Bucket, asset.Cash, asset.Valid. (Chapter 12.)
-/
import Derived.Test.YtljlnojelagmfaaDoorA3
import Derived.Handy
namespace Go.Proofs.YtljlnojelagmfaaDoor
open Go.RowKit Go.Pl
set_option maxRecDepth 100000

set_option maxHeartbeats 1000000 in
theorem ladFx (lb : Nat) (m : Option Nat) (fx : Int) (l : List ((Int × Int) × Int)) (w : World) (hL : LadAt w lb m fx l) :
    Calls Tryd.prog 19 #[.pointer (some ⟨lb, 0, .none⟩)] w fun e w' => e = .returned (.int .i64 fx) ∧ w = w' := by
  have c1 := hL.cells.cell 1
  simp at c1
  go_enter Tryd.func19, Tryd.ntmps19
  go_wp2
  go_ret
  exact ⟨rfl, rfl⟩

set_option maxHeartbeats 1000000 in
theorem ladSetFx (lb : Nat) (m : Option Nat) (fx n : Int) (l : List ((Int × Int) × Int)) (w : World) (hL : LadAt w lb m fx l) (h5 : 0 ≤ n) (h6 : n ≤ 10000) :
    Calls Tryd.prog 23 #[.pointer (some ⟨lb, 0, .none⟩), .int .i64 n] w fun e w' => e = .returned .nilIface ∧ LadAt w' lb m n l ∧ Chg (S1 lb) w w' := by
  have c1 := hL.cells.cell 1
  have f1 := hL.cells.frozen 1
  simp at c1
  have d5 : decide (0 ≤ n) = true := by simp; omega
  have d6 : decide (n ≤ 10000) = true := by simp; omega
  go_enter Tryd.func23, Tryd.ntmps23
  go_wp2_with (first | (go_at_call 77; refine (cut_is_any _ _).mono ?_; rintro e w' ⟨rfl, rfl⟩))
  go_ret
  refine ⟨rfl, ⟨hL.cells.set 1 _, hL.map.chg ((Chg.refl (S1 lb) w).setCell ⟨lb, 1, none⟩ _ (.inl rfl)) ?_⟩, (Chg.refl _ _).setCell ⟨lb, 1, none⟩ _ (.inl rfl)⟩
  intro k hk e
  subst hk
  exact MapAt.ne_cells hL.map hL.cells e

set_option maxHeartbeats 1000000 in
theorem ladSetFx_bad (lb : Nat) (n : Int) (w : World) (er : Value) (he : w.cell? ⟨0, 0, none⟩ = some er) (h : ¬ (0 ≤ n ∧ n ≤ 10000)) :
    Calls Tryd.prog 23 #[.pointer (some ⟨lb, 0, .none⟩), .int .i64 n] w fun e w' => e = .returned er ∧ Chg S0 w w' := by
  have d5 : (decide (0 ≤ n) && decide (n ≤ 10000)) = false := by
    simp
    omega
  have hcl : ∀ w, Calls Tryd.prog 77 #[.int .i64 n] w fun e w' => e = .returned (.bool false) ∧ w = w' := fun w => by have := cut_is_any n w; rwa [d5] at this
  have H := Lib.hid hcl
  clear d5 hcl
  go_enter Tryd.func23, Tryd.ntmps23
  go_wp2_with (first | (go_at_call 77; refine (H.out _).mono ?_; rintro e w' ⟨rfl, rfl⟩))
  go_ret
  exact ⟨rfl, by repeat (first | exact Chg.refl _ _ | apply Chg.drew | apply Chg.alloc)⟩

/-- An asset, as a value. -/
structure Ast where
  id : Int
  issuer : Int
  cls : Int
  money : Int
  fin : Int
abbrev Ast.val (a : Ast) : Value := .agg #[.int .i64 a.id, .int .i64 a.issuer, .int .i64 a.cls, .int .i64 a.money, .int .i64 a.fin]

def bucketN (d : Int) : Int := if d < 30 then 0 else if d < 90 then 1 else if d < 365 then 2 else if d < 1095 then 3 else if d < 3650 then 4 else 5

set_option maxHeartbeats 1000000 in
theorem dayBucket (d : Int) (w : World) : Calls Tryd.prog 152 #[.int .i64 d] w fun e w' => e = .returned (.int .i64 (bucketN d)) ∧ Chg S0 w w' := by
  unfold bucketN
  by_cases h1 : d < 30
  · rw [if_pos h1]
    go_enter Tryd.func152, Tryd.ntmps152
    go_wp2
    go_rounds 1
    go_ret
    exact ⟨rfl, by repeat (first | exact Chg.refl _ _ | apply Chg.drew | apply Chg.alloc)⟩
  rw [if_neg h1]
  by_cases h2 : d < 90
  · rw [if_pos h2]
    go_enter Tryd.func152, Tryd.ntmps152
    go_wp2
    go_rounds 2
    go_ret
    exact ⟨rfl, by repeat (first | exact Chg.refl _ _ | apply Chg.drew | apply Chg.alloc)⟩
  rw [if_neg h2]
  by_cases h3 : d < 365
  · rw [if_pos h3]
    go_enter Tryd.func152, Tryd.ntmps152
    go_wp2
    go_rounds 3
    go_ret
    exact ⟨rfl, by repeat (first | exact Chg.refl _ _ | apply Chg.drew | apply Chg.alloc)⟩
  rw [if_neg h3]
  by_cases h4 : d < 1095
  · rw [if_pos h4]
    go_enter Tryd.func152, Tryd.ntmps152
    go_wp2
    go_rounds 4
    go_ret
    exact ⟨rfl, by repeat (first | exact Chg.refl _ _ | apply Chg.drew | apply Chg.alloc)⟩
  rw [if_neg h4]
  by_cases h5 : d < 3650
  · rw [if_pos h5]
    go_enter Tryd.func152, Tryd.ntmps152
    go_wp2
    go_rounds 5
    go_ret
    exact ⟨rfl, by repeat (first | exact Chg.refl _ _ | apply Chg.drew | apply Chg.alloc)⟩
  · rw [if_neg h5]
    go_enter Tryd.func152, Tryd.ntmps152
    go_wp2
    go_rounds 6
    go_ret
    exact ⟨rfl, by repeat (first | exact Chg.refl _ _ | apply Chg.drew | apply Chg.alloc)⟩

theorem cash_any (a : Ast) (w : World) : Calls Tryd.prog 151 #[a.val] w fun e w' => e = .returned (.bool (a.cls == 1)) ∧ Chg S0 w w' := by
  obtain ⟨id, iss, c, m, f⟩ := a
  simp only [Ast.val]
  go_enter Tryd.func151, Tryd.ntmps151
  go_wp2
  go_ret
  exact ⟨rfl, by repeat (first | exact Chg.refl _ _ | apply Chg.drew | apply Chg.alloc)⟩

def bucketOf (a : Ast) (left : Int) : Int := if a.cls = 1 then 0 else if a.fin = 0 then 5 else bucketN left

set_option maxHeartbeats 1000000 in
theorem cutBucket (a : Ast) (d : Int) (w : World) : Calls Tryd.prog 85 #[a.val, .int .i64 d] w fun e w' => e = .returned (.int .i64 (bucketOf a d)) ∧ Chg S0 w w' := by
  have hc := cash_any a
  obtain ⟨id, iss, c, m, f⟩ := a
  simp only [Ast.val, bucketOf] at *
  have H := Lib.hid hc
  clear hc
  have hz : ∀ (w : World) (o : Obj), Chg S0 (w.alloc o) (w.alloc o) := fun w o => Chg.refl _ _
  by_cases h1 : c = 1
  · subst h1
    go_enter Tryd.func85, Tryd.ntmps85
    go_wp2_with (first | (go_at_call 151; refine (H.out _).mono ?_; rintro e w' ⟨rfl, hc1⟩))
    go_ret
    exact ⟨rfl, Chg.step ((Chg.refl _ _).alloc _) hc1 (fun k hk => hk.elim)⟩
  · have h1' : (c == 1) = false := by simpa using h1
    rw [if_neg h1]
    by_cases h2 : f = 0
    · subst h2
      go_enter Tryd.func85, Tryd.ntmps85
      go_wp2_with (first | (go_at_call 151; refine (H.out _).mono ?_; rintro e w1 ⟨rfl, hc1⟩; have k4 := hc1.cell (b := w.heap.size) (o := 4) (v := .int .i64 0) (by simp) (fun h => h)))
      go_ret
      exact ⟨rfl, Chg.step ((Chg.refl _ _).alloc _) hc1 (fun k hk => hk.elim)⟩
    · have h2' : (f == 0) = false := by simpa using h2
      rw [if_neg h2]
      go_enter Tryd.func85, Tryd.ntmps85
      go_wp2_with (first | (go_at_call 151; refine (H.out _).mono ?_; rintro e w1 ⟨rfl, hc1⟩; have k4 := hc1.cell (b := w.heap.size) (o := 4) (v := .int .i64 f) (by simp) (fun h => h)) | (go_at_call 152; refine (dayBucket _ _).mono ?_; rintro e w2 ⟨rfl, hc2⟩))
      go_ret
      exact ⟨rfl, Chg.step (Chg.step ((Chg.refl _ _).alloc _) hc1 (fun k hk => hk.elim)) hc2 (fun k hk => hk.elim)⟩
end Go.Proofs.YtljlnojelagmfaaDoor
