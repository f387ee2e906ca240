/-
  Contracts of package cut: Set (all of it), Get, SetFx, Fx. (Chapter 12.)
-/
import Derived.Test.YtljlnojelagmfaaDoorA2
namespace Go.Proofs.YtljlnojelagmfaaDoor
open Go.RowKit Go.Pl
set_option maxRecDepth 100000

theorem ladSet (lb : Nat) (m : Option Nat) (fx c b n : Int) (l : List ((Int × Int) × Int)) (w : World) (hL : LadAt w lb m fx l) (h1 : 1 ≤ c) (h2 : c ≤ 6) (h3 : 0 ≤ b) (h4 : b < 6) (h5 : 0 ≤ n) (h6 : n ≤ 10000) :
    Calls Tryd.prog 16 #[.pointer (some ⟨lb, 0, .none⟩), ek2 (c, b), .int .i64 n] w fun e w' => e = .returned .nilIface ∧ ∃ m', LadAt w' lb (some m') fx (put l (c, b) n) ∧ (m = some m' ∨ w.heap.size ≤ m') ∧ Chg (SL lb m) w w' := by
  by_cases hl : l = []
  · subst hl
    exact (ladSet_nil lb m fx c b n w hL h1 h2 h3 h4 h5 h6).mono fun e w' ⟨he, m', h, hm, hc⟩ => ⟨he, m', h, .inr hm, hc⟩
  · cases m with
    | none => exact absurd hL.map hl
    | some x =>
      exact (ladSet_some lb x fx c b n l w hL hl h1 h2 h3 h4 h5 h6).mono fun e w' ⟨he, h, hc⟩ => ⟨he, x, h, .inl rfl, hc.mono fun k _ hk => .inr (by rw [hk])⟩

set_option maxHeartbeats 2000000 in
theorem ladSet_bad (lb : Nat) (c b n : Int) (w : World) (er : Value) (he : w.cell? ⟨0, 0, none⟩ = some er) (h : ¬ (1 ≤ c ∧ c ≤ 6 ∧ 0 ≤ b ∧ b < 6 ∧ 0 ≤ n ∧ n ≤ 10000)) :
    Calls Tryd.prog 16 #[.pointer (some ⟨lb, 0, .none⟩), ek2 (c, b), .int .i64 n] w fun e w' => e = .returned er ∧ Chg S0 w w' := by
  have hz := World.block_lt_of_cell? _ _ he
  show Calls _ _ #[_, .agg #[.int .i64 c, .int .i64 b], _] _ _
  have hcell : ∀ o, (w.alloc o).cell? ⟨0, 0, none⟩ = some er := fun o => (World.cell?_alloc_past _ _ _ hz).trans he
  by_cases d1 : c < 1
  · go_enter Tryd.func16, Tryd.ntmps16
    go_wp2
    go_ret
    exact ⟨rfl, by repeat (first | exact Chg.refl _ _ | apply Chg.drew | apply Chg.alloc)⟩
  · have d1 : decide (c < 1) = false := by simpa using d1
    by_cases d2 : 6 < c
    · go_enter Tryd.func16, Tryd.ntmps16
      go_wp2
      go_ret
      exact ⟨rfl, by repeat (first | exact Chg.refl _ _ | apply Chg.drew | apply Chg.alloc)⟩
    · have d2 : decide (6 < c) = false := by simpa using d2
      by_cases d3 : b < 0
      · go_enter Tryd.func16, Tryd.ntmps16
        go_wp2
        go_ret
        exact ⟨rfl, by repeat (first | exact Chg.refl _ _ | apply Chg.drew | apply Chg.alloc)⟩
      · have d3 : decide (b < 0) = false := by simpa using d3
        by_cases d4 : 6 ≤ b
        · go_enter Tryd.func16, Tryd.ntmps16
          go_wp2
          go_ret
          exact ⟨rfl, by repeat (first | exact Chg.refl _ _ | apply Chg.drew | apply Chg.alloc)⟩
        · have d4 : decide (6 ≤ b) = false := by simpa using d4
          have d5 : (decide (0 ≤ n) && decide (n ≤ 10000)) = false := by
            simp at d1 d2 d3 d4 ⊢
            omega
          have hcl : ∀ w, Calls Tryd.prog 77 #[.int .i64 n] w fun e w' => e = .returned (.bool false) ∧ w = w' := fun w => by have := cut_is_any n w; rwa [d5] at this
          have H := Lib.hid hcl
          clear d5 hcl
          go_enter Tryd.func16, Tryd.ntmps16
          go_wp2_with (first | (go_at_call 77; refine (H.out _).mono ?_; rintro e w' ⟨rfl, rfl⟩))
          go_ret
          exact ⟨rfl, by repeat (first | exact Chg.refl _ _ | apply Chg.drew | apply Chg.alloc)⟩

set_option maxHeartbeats 1000000 in
theorem ladGet (lb : Nat) (m : Option Nat) (fx c b : Int) (l : List ((Int × Int) × Int)) (w : World) (hL : LadAt w lb m fx l) :
    Calls Tryd.prog 17 #[.pointer (some ⟨lb, 0, .none⟩), ek2 (c, b)] w fun e w' => e = .returned (.int .i64 ((lk l (c, b)).getD 0)) ∧ Chg S0 w w' := by
  have c0 := hL.cells.cell 0
  simp only [List.getElem?_toArray, List.getElem?_cons_zero] at c0
  have hlt := hL.cells.lt
  show Calls _ _ #[_, .agg #[.int .i64 c, .int .i64 b]] _ _
  cases m with
  | none =>
    have hn : l = [] := hL.map
    subst hn
    have hlk : ∀ (w : World), Sem.run Tryd.prog (Instr.lookup 24 (.map none) (.agg #[.int .i64 c, .int .i64 b]) false) w = .ok (.int .i64 0) w := fun w => lookup_nil key28 Tryd.underlying24 (zero2 w) (c, b) false
    go_enter Tryd.func17, Tryd.ntmps17
    go_wp2
    refine region_tail 5 (by kernel_rfl) (by kernel_rfl) ?_
    simp only [List.take_succ_cons, List.take_zero, List.drop_succ_cons, List.drop_zero]
    repeat still_step
    refine wpStill_nil ?_
    go_wp2
    go_ret
    exact ⟨rfl, by repeat (first | exact Chg.refl _ _ | apply Chg.drew | apply Chg.alloc)⟩
  | some x =>
    have hM : MapAt ek2 ekI w x l := hL.map
    have hM0 := hM.alloc (.cells #[.int .i64 c, .int .i64 b] 28)
    go_enter Tryd.func17, Tryd.ntmps17
    go_wp2
    refine region_tail 5 (by kernel_rfl) (by kernel_rfl) ?_
    simp only [List.take_succ_cons, List.take_zero, List.drop_succ_cons, List.drop_zero]
    repeat still_step
    refine wpStill_nil ?_
    go_wp2_with (first | (at_lookup; refine wpList_lookupI rfl _ _ 24 rfl 28 2 key28 Tryd.underlying24 (zero2 _) x l rfl hM0.drew (c, b) rfl ?_))
    go_ret
    exact ⟨rfl, by repeat (first | exact Chg.refl _ _ | apply Chg.drew | apply Chg.alloc)⟩

end Go.Proofs.YtljlnojelagmfaaDoor
