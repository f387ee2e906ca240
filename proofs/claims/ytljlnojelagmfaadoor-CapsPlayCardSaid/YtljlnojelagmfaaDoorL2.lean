/-
  Contracts of stress.Table: Set, Get. (Printed by wip/gen_tab.py.)
-/
import Derived.Test.YtljlnojelagmfaaDoorL1
import Derived.Test.YtljlnojelagmfaaDoorK1
namespace Go.Proofs.YtljlnojelagmfaaDoor
open Go.RowKit Go.Pl
set_option maxRecDepth 100000

theorem scene91 (n : Int) (w : World) : Calls Tryd.prog 91 #[.int .i64 n] w fun e w' => e = .returned (.bool (decide (1 ≤ n) && decide (n ≤ 16))) ∧ w = w' := by
  by_cases h : 1 ≤ n
  · have h' : decide (1 ≤ n) = true := by simpa using h
    go_enter Tryd.func91, Tryd.ntmps91
    go_wp2
    go_ret
    simp [h']
  · have h' : decide (1 ≤ n) = false := by simpa using h
    go_enter Tryd.func91, Tryd.ntmps91
    go_wp2
    go_ret
    simp
theorem amount92 (n : Int) (w : World) : Calls Tryd.prog 92 #[.int .i64 n] w fun e w' => e = .returned (.bool (decide (0 ≤ n) && decide (n ≤ 1000000000000000))) ∧ w = w' := by
  by_cases h : 0 ≤ n
  · have h' : decide (0 ≤ n) = true := by simpa using h
    go_enter Tryd.func92, Tryd.ntmps92
    go_wp2
    go_ret
    simp [h']
  · have h' : decide (0 ≤ n) = false := by simpa using h
    go_enter Tryd.func92, Tryd.ntmps92
    go_wp2
    go_ret
    simp

theorem tabGet38 (tb : Nat) (m : Option Nat) (c b : Int) (l : List ((Int × Int) × Int)) (w : World) (hL : TabAt 62 w tb m l) :
    Calls Tryd.prog 38 #[.pointer (some ⟨tb, 0, .none⟩), ek2 (c, b)] w fun e w' => e = .returned (.int .i64 ((lk l (c, b)).getD 0)) ∧ Chg S0 w w' := by
  have c0 := hL.cells.cell 0
  simp only [List.getElem?_toArray, List.getElem?_cons_zero] at c0
  have hlt := hL.cells.lt
  show Calls _ _ #[_, .agg #[.int .i64 c, .int .i64 b]] _ _
  cases m with
  | none =>
    have hn : l = [] := hL.map
    subst hn
    have hlk : ∀ (w : World), Sem.run Tryd.prog (Instr.lookup 60 (.map none) (.agg #[.int .i64 c, .int .i64 b]) false) w = .ok (.int .i64 0) w := fun w => lookup_nil key59 Tryd.underlying60 (zero2 w) (c, b) false
    go_enter Tryd.func38, Tryd.ntmps38
    go_wp2
    refine region_tail 5 (by kernel_rfl) (by kernel_rfl) ?_
    simp only [List.take_succ_cons, List.take_zero, List.drop_succ_cons, List.drop_zero]
    repeat still_step
    refine wpStill_nil ?_
    go_wp2
    go_ret
    exact ⟨rfl, by repeat (first | exact Chg.refl _ _ | apply Chg.drew | apply Chg.alloc)⟩
  | some x =>
    have hM : MapAt ek2 ekI w x l := hL.map
    have hM0 := hM.alloc (.cells #[.int .i64 c, .int .i64 b] 59)
    go_enter Tryd.func38, Tryd.ntmps38
    go_wp2
    refine region_tail 5 (by kernel_rfl) (by kernel_rfl) ?_
    simp only [List.take_succ_cons, List.take_zero, List.drop_succ_cons, List.drop_zero]
    repeat still_step
    refine wpStill_nil ?_
    go_wp2_with (first | (at_lookup; refine wpList_lookupI rfl _ _ 60 rfl 59 2 key59 Tryd.underlying60 (zero2 _) x l rfl hM0.drew (c, b) rfl ?_))
    go_ret
    exact ⟨rfl, by repeat (first | exact Chg.refl _ _ | apply Chg.drew | apply Chg.alloc)⟩


set_option maxHeartbeats 1000000 in
theorem tabSet29_nil0 (tb : Nat) (m : Option Nat) (c b : Int)  (w : World) (hL : TabAt 62 w tb m []) (h1 : 1 ≤ c) (h2 : c ≤ 16) (h3 : 1 ≤ b) (h4 : b ≤ 32) :
    Calls Tryd.prog 29 #[.pointer (some ⟨tb, 0, .none⟩), ek2 (c, b), .int .i64 0] w fun e w' => e = .returned .nilIface ∧ ∃ m', TabAt 62 w' tb (some m') (tset [] (c, b) 0) ∧ w.heap.size ≤ m' ∧ Chg (SL tb m) w w' := by
  have c0 := hL.cells.cell 0
  have f0 := hL.cells.frozen 0
  simp only [List.getElem?_toArray, List.getElem?_cons_zero] at c0
  have hlt := hL.cells.lt
  show Calls _ _ #[_, .agg #[.int .i64 c, .int .i64 b], _] _ _
  have d1 : decide (1 ≤ c) = true := by simp; omega
  have d2 : decide (c ≤ 16) = true := by simp; omega
  have d3 : decide (b < 1) = false := by simp; omega
  have d4 : decide (32 < b) = false := by simp; omega
  have hmm := @run_makeMap Tryd.prog
  have hln : ∀ (ty : TypeId) (o : Obj), Sem.run Tryd.prog (Builtin.len_ #[60] ty #[Value.map m]) (w.alloc o) = Result.ok (Value.int IntKind.i64 0) (w.alloc o) := by
    intro ty o
    cases m with
    | none => exact len_nil Tryd.underlying60 ty
    | some x => exact (MapAt.alloc hL.map o).len Tryd.underlying60 ty
  go_enter Tryd.func29, Tryd.ntmps29
  go_wp2_with (first | (go_at_call 91; refine (scene91 _ _).mono ?_; rintro e w' ⟨rfl, rfl⟩) | (go_at_call 92; refine (amount92 _ _).mono ?_; rintro e w' ⟨rfl, rfl⟩))
  refine region_tail 6 (by kernel_rfl) (by kernel_rfl) ?_
  simp only [List.take_succ_cons, List.take_zero, List.drop_succ_cons, List.drop_zero]
  repeat still_step
  refine wpStill_nil ?_
  have hM0 := MapAt.new ek2 ekI ((w.setCell ⟨tb, 0, none⟩ (.map (some (w.heap.size + 1)))).alloc (.cells #[.int .i64 c, .int .i64 b] 59))
  simp only [World.size_alloc, World.size_setCell] at hM0
  go_wp2_with (first | (at_mapUpdate; refine wpList_update rfl _ _ _ 60 rfl 59 2 key59 Tryd.underlying60 (w.heap.size + 1) [] rfl hM0 (c, b) 0 rfl rfl ?_; intro w1 hM1 hC1))
  have hC0 : CellsAt w1 tb #[.map (some (w.heap.size + 1))] 62 := CellsAt.chg (((hL.cells.set 0 _).alloc _).alloc _).drew hC1 (by unfold S1; omega)
  have kx : CellsAt (((w.setCell ⟨tb, 0, none⟩ (.map (some (w.heap.size + 1)))).alloc (.cells #[.int .i64 c, .int .i64 b] 59)).alloc (.map #[] 0)) w.heap.size #[.int .i64 c, .int .i64 b] 59 := (by have := CellsAt.new (w.setCell ⟨tb, 0, none⟩ (.map (some (w.heap.size + 1)))) #[.int .i64 c, .int .i64 b] 59; simpa using this : CellsAt _ _ _ _).alloc _
  have kx1 := kx.drew.chg hC1 (by unfold S1; omega)
  have k0 := kx1.cell 0
  have k1 := kx1.cell 1
  have k2 := hC0.cell 0
  simp only [List.getElem?_toArray, List.getElem?_cons_zero, List.getElem?_cons_succ] at k0 k1 k2
  have hz1 := hC0.lt
  have HC1 := Lib.hid hC1
  clear hC1
  refine region_tail 5 (by kernel_rfl) (by kernel_rfl) ?_
  simp only [List.take_succ_cons, List.take_zero, List.drop_succ_cons, List.drop_zero]
  repeat still_step
  refine wpStill_nil ?_
  go_wp2_with (first | (at_delete; refine wpList_delete rfl _ _ 60 59 rfl 2 key59 Tryd.underlying60 (w.heap.size + 1) _ rfl hM1.drew (c, b) rfl ?_; intro w2 hM2 hC2))
  go_ret
  refine ⟨rfl, w.heap.size + 1, ⟨hC0.drew.chg hC2 (by unfold S1; omega), hM2⟩, by omega, ?_⟩
  exact Chg.step (Chg.step ((((Chg.refl _ _).setCell ⟨tb, 0, none⟩ _ (.inl (.inl rfl))).alloc _).alloc _).drew HC1.out (by unfold S1; intro k hk; right; omega)).drew hC2 (by unfold S1; intro k hk; right; omega)


set_option maxHeartbeats 1000000 in
theorem tabSet29_nil1 (tb : Nat) (m : Option Nat) (c b : Int) (n : Int) (hn : n ≠ 0) (h5 : 0 ≤ n) (h6 : n ≤ 1000000000000000) (w : World) (hL : TabAt 62 w tb m []) (h1 : 1 ≤ c) (h2 : c ≤ 16) (h3 : 1 ≤ b) (h4 : b ≤ 32) :
    Calls Tryd.prog 29 #[.pointer (some ⟨tb, 0, .none⟩), ek2 (c, b), .int .i64 n] w fun e w' => e = .returned .nilIface ∧ ∃ m', TabAt 62 w' tb (some m') (tset [] (c, b) n) ∧ w.heap.size ≤ m' ∧ Chg (SL tb m) w w' := by
  have c0 := hL.cells.cell 0
  have f0 := hL.cells.frozen 0
  simp only [List.getElem?_toArray, List.getElem?_cons_zero] at c0
  have hlt := hL.cells.lt
  show Calls _ _ #[_, .agg #[.int .i64 c, .int .i64 b], _] _ _
  have d1 : decide (1 ≤ c) = true := by simp; omega
  have d2 : decide (c ≤ 16) = true := by simp; omega
  have d3 : decide (b < 1) = false := by simp; omega
  have d4 : decide (32 < b) = false := by simp; omega
  have d5 : decide (0 ≤ n) = true := by simp; omega
  have d6 : decide (n ≤ 1000000000000000) = true := by simp; omega
  have d7 : (n == 0) = false := by simpa using hn
  have hmm := @run_makeMap Tryd.prog
  have hln : ∀ (ty : TypeId) (o : Obj), Sem.run Tryd.prog (Builtin.len_ #[60] ty #[Value.map m]) (w.alloc o) = Result.ok (Value.int IntKind.i64 0) (w.alloc o) := by
    intro ty o
    cases m with
    | none => exact len_nil Tryd.underlying60 ty
    | some x => exact (MapAt.alloc hL.map o).len Tryd.underlying60 ty
  go_enter Tryd.func29, Tryd.ntmps29
  go_wp2_with (first | (go_at_call 91; refine (scene91 _ _).mono ?_; rintro e w' ⟨rfl, rfl⟩) | (go_at_call 92; refine (amount92 _ _).mono ?_; rintro e w' ⟨rfl, rfl⟩))
  refine region_tail 6 (by kernel_rfl) (by kernel_rfl) ?_
  simp only [List.take_succ_cons, List.take_zero, List.drop_succ_cons, List.drop_zero]
  repeat still_step
  refine wpStill_nil ?_
  have hM0 := MapAt.new ek2 ekI ((w.setCell ⟨tb, 0, none⟩ (.map (some (w.heap.size + 1)))).alloc (.cells #[.int .i64 c, .int .i64 b] 59))
  simp only [World.size_alloc, World.size_setCell] at hM0
  go_wp2_with (first | (at_mapUpdate; refine wpList_update rfl _ _ _ 60 rfl 59 2 key59 Tryd.underlying60 (w.heap.size + 1) [] rfl hM0 (c, b) n rfl rfl ?_; intro w1 hM1 hC1))
  go_ret
  refine ⟨rfl, w.heap.size + 1, ⟨?_, by unfold tset; rw [if_neg hn]; exact hM1⟩, by omega, ?_⟩
  · exact CellsAt.chg (((hL.cells.set 0 _).alloc _).alloc _).drew hC1 (by unfold S1; omega)
  · exact Chg.step ((((Chg.refl _ _).setCell ⟨tb, 0, none⟩ _ (.inl (.inl rfl))).alloc _).alloc _).drew hC1 (by unfold S1; intro k hk; right; omega)


set_option maxHeartbeats 1000000 in
theorem tabSet29_some0 (tb x : Nat) (c b : Int)  (l : List ((Int × Int) × Int)) (w : World) (hL : TabAt 62 w tb (some x) l) (hl : l ≠ []) (h1 : 1 ≤ c) (h2 : c ≤ 16) (h3 : 1 ≤ b) (h4 : b ≤ 32) :
    Calls Tryd.prog 29 #[.pointer (some ⟨tb, 0, .none⟩), ek2 (c, b), .int .i64 0] w fun e w' => e = .returned .nilIface ∧ TabAt 62 w' tb (some x) (tset l (c, b) 0) ∧ Chg (S1 x) w w' := by
  have c0 := hL.cells.cell 0
  simp only [List.getElem?_toArray, List.getElem?_cons_zero] at c0
  have hlt := hL.cells.lt
  have hM : MapAt ek2 ekI w x l := hL.map
  have hne := MapAt.ne_cells hM hL.cells
  have hxl := MapAt.lt hM
  show Calls _ _ #[_, .agg #[.int .i64 c, .int .i64 b], _] _ _
  have d1 : decide (1 ≤ c) = true := by simp; omega
  have d2 : decide (c ≤ 16) = true := by simp; omega
  have d3 : decide (b < 1) = false := by simp; omega
  have d4 : decide (32 < b) = false := by simp; omega
  have hln : ∀ (ty : TypeId) (o : Obj), Sem.run Tryd.prog (Builtin.len_ #[60] ty #[Value.map (some x)]) (w.alloc o) = Result.ok (Value.int IntKind.i64 l.length) (w.alloc o) :=
    fun ty o => (MapAt.alloc hM o).len Tryd.underlying60 ty
  have d8 : ((l.length : Int) == 0) = false := by
    cases l with
    | nil => exact absurd rfl hl
    | cons p q => simp; omega
  go_enter Tryd.func29, Tryd.ntmps29
  go_wp2_with (first | (go_at_call 91; refine (scene91 _ _).mono ?_; rintro e w' ⟨rfl, rfl⟩) | (go_at_call 92; refine (amount92 _ _).mono ?_; rintro e w' ⟨rfl, rfl⟩))
  refine region_tail 6 (by kernel_rfl) (by kernel_rfl) ?_
  simp only [List.take_succ_cons, List.take_zero, List.drop_succ_cons, List.drop_zero]
  repeat still_step
  refine wpStill_nil ?_
  have hM0 := hM.alloc (.cells #[.int .i64 c, .int .i64 b] 59)
  go_wp2_with (first | (at_mapUpdate; refine wpList_update rfl _ _ _ 60 rfl 59 2 key59 Tryd.underlying60 x l rfl hM0.drew (c, b) 0 rfl rfl ?_; intro w1 hM1 hC1))
  have hC0 : CellsAt w1 tb #[.map (some x)] 62 := CellsAt.chg (hL.cells.alloc _).drew hC1 (by unfold S1; omega)
  have kx1 := (CellsAt.new w #[.int .i64 c, .int .i64 b] 59).drew.chg hC1 (by unfold S1; omega)
  have k0 := kx1.cell 0
  have k1 := kx1.cell 1
  have k2 := hC0.cell 0
  simp only [List.getElem?_toArray, List.getElem?_cons_zero, List.getElem?_cons_succ] at k0 k1 k2
  have hz1 := hC0.lt
  have HC1 := Lib.hid hC1
  clear hC1
  refine region_tail 5 (by kernel_rfl) (by kernel_rfl) ?_
  simp only [List.take_succ_cons, List.take_zero, List.drop_succ_cons, List.drop_zero]
  repeat still_step
  refine wpStill_nil ?_
  go_wp2_with (first | (at_delete; refine wpList_delete rfl _ _ 60 59 rfl 2 key59 Tryd.underlying60 x _ rfl hM1.drew (c, b) rfl ?_; intro w2 hM2 hC2))
  go_ret
  refine ⟨rfl, ⟨hC0.drew.chg hC2 (by unfold S1; omega), hM2⟩, ?_⟩
  exact Chg.step (Chg.step ((Chg.refl _ _).alloc _).drew HC1.out (fun k hk => .inl hk)).drew hC2 (fun k hk => .inl hk)


set_option maxHeartbeats 1000000 in
theorem tabSet29_some1 (tb x : Nat) (c b : Int) (n : Int) (hn : n ≠ 0) (h5 : 0 ≤ n) (h6 : n ≤ 1000000000000000) (l : List ((Int × Int) × Int)) (w : World) (hL : TabAt 62 w tb (some x) l) (hl : l ≠ []) (h1 : 1 ≤ c) (h2 : c ≤ 16) (h3 : 1 ≤ b) (h4 : b ≤ 32) :
    Calls Tryd.prog 29 #[.pointer (some ⟨tb, 0, .none⟩), ek2 (c, b), .int .i64 n] w fun e w' => e = .returned .nilIface ∧ TabAt 62 w' tb (some x) (tset l (c, b) n) ∧ Chg (S1 x) w w' := by
  have c0 := hL.cells.cell 0
  simp only [List.getElem?_toArray, List.getElem?_cons_zero] at c0
  have hlt := hL.cells.lt
  have hM : MapAt ek2 ekI w x l := hL.map
  have hne := MapAt.ne_cells hM hL.cells
  have hxl := MapAt.lt hM
  show Calls _ _ #[_, .agg #[.int .i64 c, .int .i64 b], _] _ _
  have d1 : decide (1 ≤ c) = true := by simp; omega
  have d2 : decide (c ≤ 16) = true := by simp; omega
  have d3 : decide (b < 1) = false := by simp; omega
  have d4 : decide (32 < b) = false := by simp; omega
  have d5 : decide (0 ≤ n) = true := by simp; omega
  have d6 : decide (n ≤ 1000000000000000) = true := by simp; omega
  have d7 : (n == 0) = false := by simpa using hn
  have hln : ∀ (ty : TypeId) (o : Obj), Sem.run Tryd.prog (Builtin.len_ #[60] ty #[Value.map (some x)]) (w.alloc o) = Result.ok (Value.int IntKind.i64 l.length) (w.alloc o) :=
    fun ty o => (MapAt.alloc hM o).len Tryd.underlying60 ty
  have d8 : ((l.length : Int) == 0) = false := by
    cases l with
    | nil => exact absurd rfl hl
    | cons p q => simp; omega
  go_enter Tryd.func29, Tryd.ntmps29
  go_wp2_with (first | (go_at_call 91; refine (scene91 _ _).mono ?_; rintro e w' ⟨rfl, rfl⟩) | (go_at_call 92; refine (amount92 _ _).mono ?_; rintro e w' ⟨rfl, rfl⟩))
  refine region_tail 6 (by kernel_rfl) (by kernel_rfl) ?_
  simp only [List.take_succ_cons, List.take_zero, List.drop_succ_cons, List.drop_zero]
  repeat still_step
  refine wpStill_nil ?_
  have hM0 := hM.alloc (.cells #[.int .i64 c, .int .i64 b] 59)
  go_wp2_with (first | (at_mapUpdate; refine wpList_update rfl _ _ _ 60 rfl 59 2 key59 Tryd.underlying60 x l rfl hM0.drew (c, b) n rfl rfl ?_; intro w1 hM1 hC1))
  go_ret
  refine ⟨rfl, ⟨?_, by unfold tset; rw [if_neg hn]; exact hM1⟩, ?_⟩
  · exact CellsAt.chg ((hL.cells.alloc _).drew) hC1 (by unfold S1; omega)
  · exact Chg.step ((Chg.refl _ _).alloc _).drew hC1 (fun k hk => .inl hk)


/-- Set, where it may be: whatever lay there. -/
theorem tabSet29 (tb : Nat) (m : Option Nat) (c b n : Int) (l : List ((Int × Int) × Int)) (w : World) (hL : TabAt 62 w tb m l) (h1 : 1 ≤ c) (h2 : c ≤ 16) (h3 : 1 ≤ b) (h4 : b ≤ 32) (h5 : 0 ≤ n) (h6 : n ≤ 1000000000000000) :
    Calls Tryd.prog 29 #[.pointer (some ⟨tb, 0, .none⟩), ek2 (c, b), .int .i64 n] w fun e w' => e = .returned .nilIface ∧ ∃ m', TabAt 62 w' tb (some m') (tset l (c, b) n) ∧ (m = some m' ∨ w.heap.size ≤ m') ∧ Chg (SL tb m) w w' := by
  by_cases hl : l = []
  · subst hl
    by_cases hn : n = 0
    · subst hn
      exact (tabSet29_nil0 tb m c b w hL h1 h2 h3 h4).mono fun e w' ⟨h1, m', h2, h3, h4⟩ => ⟨h1, m', h2, .inr h3, h4⟩
    · exact (tabSet29_nil1 tb m c b n hn h5 h6 w hL h1 h2 h3 h4).mono fun e w' ⟨h1, m', h2, h3, h4⟩ => ⟨h1, m', h2, .inr h3, h4⟩
  · cases m with
    | none => exact absurd hL.map hl
    | some x =>
      by_cases hn : n = 0
      · subst hn
        exact (tabSet29_some0 tb x c b l w hL hl h1 h2 h3 h4).mono fun e w' ⟨h1, h2, h3⟩ => ⟨h1, x, h2, .inl rfl, h3.mono (fun k _ hk => .inr (by rw [show k = x from hk]))⟩
      · exact (tabSet29_some1 tb x c b n hn h5 h6 l w hL hl h1 h2 h3 h4).mono fun e w' ⟨h1, h2, h3⟩ => ⟨h1, x, h2, .inl rfl, h3.mono (fun k _ hk => .inr (by rw [show k = x from hk]))⟩

end Go.Proofs.YtljlnojelagmfaaDoor
