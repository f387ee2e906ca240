/-
  The contract of asset.Valid (printed by wip/gen_valid.py).
-/
import Derived.Test.YtljlnojelagmfaaDoorA4
namespace Go.Proofs.YtljlnojelagmfaaDoor
open Go.RowKit Go.Pl
set_option maxRecDepth 100000

def Ast.okB (a : Ast) : Bool := decide (1 ≤ a.id) && decide (a.id ≤ 32) && decide (0 ≤ a.issuer) && decide (a.issuer ≤ 32) && decide (1 ≤ a.cls) && decide (a.cls ≤ 6) && decide (1 ≤ a.money) && decide (a.money ≤ 6) && decide (0 ≤ a.fin) && decide (a.fin ≤ 40000) && (a.cls != 1 || (a.issuer == 0 && a.fin == 0))
def validR (a : Ast) (er : Value) : Value := if a.okB = true then .nilIface else er

set_option maxHeartbeats 8000000 in
theorem asset_valid (a : Ast) (w : World) (er : Value) (he : w.cell? ⟨0, 0, none⟩ = some er) : Calls Tryd.prog 83 #[a.val] w fun e w' => e = .returned (validR a er) ∧ Chg S0 w w' := by
  have hz := World.block_lt_of_cell? _ _ he
  have hcell : ∀ o, (w.alloc o).cell? ⟨0, 0, none⟩ = some er := fun o => (World.cell?_alloc_past _ _ _ hz).trans he
  have hc := cash_any a
  obtain ⟨id, iss, c, m, f⟩ := a
  simp only [Ast.val] at *
  have H := Lib.hid hc
  clear hc
  have HV : Hid (∀ b : Bool, Ast.okB ⟨id, iss, c, m, f⟩ = b → validR ⟨id, iss, c, m, f⟩ er = if b = true then .nilIface else er) := by intro b hb; simp [validR, hb]
  by_cases d0 : id < 1
  · skip
    go_enter Tryd.func83, Tryd.ntmps83
    go_wp2
    go_ret
    refine ⟨congrArg Ending.returned ?_, by repeat (first | exact Chg.refl _ _ | apply Chg.drew | apply Chg.alloc)⟩
    rw [HV.out false (by simp [Ast.okB] at *; omega)]
    rfl
  have d0 : decide (id < 1) = false := by simpa using d0
  by_cases d1 : 32 < id
  · skip
    go_enter Tryd.func83, Tryd.ntmps83
    go_wp2
    go_ret
    refine ⟨congrArg Ending.returned ?_, by repeat (first | exact Chg.refl _ _ | apply Chg.drew | apply Chg.alloc)⟩
    rw [HV.out false (by simp [Ast.okB] at *; omega)]
    rfl
  have d1 : decide (32 < id) = false := by simpa using d1
  by_cases d2 : iss < 0
  · skip
    go_enter Tryd.func83, Tryd.ntmps83
    go_wp2
    go_ret
    refine ⟨congrArg Ending.returned ?_, by repeat (first | exact Chg.refl _ _ | apply Chg.drew | apply Chg.alloc)⟩
    rw [HV.out false (by simp [Ast.okB] at *; omega)]
    rfl
  have d2 : decide (iss < 0) = false := by simpa using d2
  by_cases d3 : 32 < iss
  · skip
    go_enter Tryd.func83, Tryd.ntmps83
    go_wp2
    go_ret
    refine ⟨congrArg Ending.returned ?_, by repeat (first | exact Chg.refl _ _ | apply Chg.drew | apply Chg.alloc)⟩
    rw [HV.out false (by simp [Ast.okB] at *; omega)]
    rfl
  have d3 : decide (32 < iss) = false := by simpa using d3
  by_cases d4 : c < 1
  · skip
    go_enter Tryd.func83, Tryd.ntmps83
    go_wp2
    go_ret
    refine ⟨congrArg Ending.returned ?_, by repeat (first | exact Chg.refl _ _ | apply Chg.drew | apply Chg.alloc)⟩
    rw [HV.out false (by simp [Ast.okB] at *; omega)]
    rfl
  have d4 : decide (c < 1) = false := by simpa using d4
  by_cases d5 : 6 < c
  · skip
    go_enter Tryd.func83, Tryd.ntmps83
    go_wp2
    go_ret
    refine ⟨congrArg Ending.returned ?_, by repeat (first | exact Chg.refl _ _ | apply Chg.drew | apply Chg.alloc)⟩
    rw [HV.out false (by simp [Ast.okB] at *; omega)]
    rfl
  have d5 : decide (6 < c) = false := by simpa using d5
  by_cases d6 : m < 1
  · skip
    go_enter Tryd.func83, Tryd.ntmps83
    go_wp2
    go_ret
    refine ⟨congrArg Ending.returned ?_, by repeat (first | exact Chg.refl _ _ | apply Chg.drew | apply Chg.alloc)⟩
    rw [HV.out false (by simp [Ast.okB] at *; omega)]
    rfl
  have d6 : decide (m < 1) = false := by simpa using d6
  by_cases d7 : 6 < m
  · skip
    go_enter Tryd.func83, Tryd.ntmps83
    go_wp2
    go_ret
    refine ⟨congrArg Ending.returned ?_, by repeat (first | exact Chg.refl _ _ | apply Chg.drew | apply Chg.alloc)⟩
    rw [HV.out false (by simp [Ast.okB] at *; omega)]
    rfl
  have d7 : decide (6 < m) = false := by simpa using d7
  by_cases d8 : f < 0
  · skip
    go_enter Tryd.func83, Tryd.ntmps83
    go_wp2
    go_ret
    refine ⟨congrArg Ending.returned ?_, by repeat (first | exact Chg.refl _ _ | apply Chg.drew | apply Chg.alloc)⟩
    rw [HV.out false (by simp [Ast.okB] at *; omega)]
    rfl
  have d8 : decide (f < 0) = false := by simpa using d8
  by_cases d9 : 40000 < f
  · skip
    go_enter Tryd.func83, Tryd.ntmps83
    go_wp2
    go_ret
    refine ⟨congrArg Ending.returned ?_, by repeat (first | exact Chg.refl _ _ | apply Chg.drew | apply Chg.alloc)⟩
    rw [HV.out false (by simp [Ast.okB] at *; omega)]
    rfl
  have d9 : decide (40000 < f) = false := by simpa using d9
  by_cases e1 : c = 1
  · subst e1
    by_cases e2 : iss = 0
    · subst e2
      by_cases e3 : f = 0
      · subst e3
        go_enter Tryd.func83, Tryd.ntmps83
        go_wp2_with (first | (go_at_call 151; refine (H.out _).mono ?_; rintro e w1 ⟨rfl, hc1⟩; have k1 := hc1.cell (b := w.heap.size) (o := 1) (v := .int .i64 0) (by simp) (fun h => h); have k4 := hc1.cell (b := w.heap.size) (o := 4) (v := .int .i64 0) (by simp) (fun h => h); have k0 := hc1.cell (hcell _) (fun h => h)))
        go_ret
        refine ⟨congrArg Ending.returned ?_, Chg.step ((Chg.refl _ _).alloc _) hc1 (fun k hk => hk.elim)⟩
        rw [HV.out true (by simp [Ast.okB] at *; omega)]
        rfl
      · have e3' : (f == 0) = false := by simpa using e3
        have e3'' : (f != 0) = true := by simpa using e3
        clear e3
        go_enter Tryd.func83, Tryd.ntmps83
        go_wp2_with (first | (go_at_call 151; refine (H.out _).mono ?_; rintro e w1 ⟨rfl, hc1⟩; have k1 := hc1.cell (b := w.heap.size) (o := 1) (v := .int .i64 0) (by simp) (fun h => h); have k4 := hc1.cell (b := w.heap.size) (o := 4) (v := .int .i64 f) (by simp) (fun h => h); have k0 := hc1.cell (hcell _) (fun h => h)))
        go_ret
        refine ⟨congrArg Ending.returned ?_, Chg.step ((Chg.refl _ _).alloc _) hc1 (fun k hk => hk.elim)⟩
        rw [HV.out false (by simp [Ast.okB] at *; omega)]
        rfl
    · have e2' : (iss == 0) = false := by simpa using e2
      have e2'' : (iss != 0) = true := by simpa using e2
      clear e2
      go_enter Tryd.func83, Tryd.ntmps83
      go_wp2_with (first | (go_at_call 151; refine (H.out _).mono ?_; rintro e w1 ⟨rfl, hc1⟩; have k1 := hc1.cell (b := w.heap.size) (o := 1) (v := .int .i64 iss) (by simp) (fun h => h); have k4 := hc1.cell (b := w.heap.size) (o := 4) (v := .int .i64 f) (by simp) (fun h => h); have k0 := hc1.cell (hcell _) (fun h => h)))
      go_ret
      refine ⟨congrArg Ending.returned ?_, Chg.step ((Chg.refl _ _).alloc _) hc1 (fun k hk => hk.elim)⟩
      rw [HV.out false (by simp [Ast.okB] at *; omega)]
      rfl
  · have e1' : (c == 1) = false := by simpa using e1
    clear e1
    go_enter Tryd.func83, Tryd.ntmps83
    go_wp2_with (first | (go_at_call 151; refine (H.out _).mono ?_; rintro e w1 ⟨rfl, hc1⟩; have k1 := hc1.cell (b := w.heap.size) (o := 1) (v := .int .i64 iss) (by simp) (fun h => h); have k4 := hc1.cell (b := w.heap.size) (o := 4) (v := .int .i64 f) (by simp) (fun h => h); have k0 := hc1.cell (hcell _) (fun h => h)))
    go_ret
    refine ⟨congrArg Ending.returned ?_, Chg.step ((Chg.refl _ _).alloc _) hc1 (fun k hk => hk.elim)⟩
    rw [HV.out true (by simp [Ast.okB] at *; omega)]
    rfl

end Go.Proofs.YtljlnojelagmfaaDoor
