/-
  Contracts of caps.Caps: Set, Get, capped; what may be a limit. (Chapter 16.)
-/
import Derived.Test.YtljlnojelagmfaaDoorL1
import Derived.Test.YtljlnojelagmfaaDoorK2
import Derived.Test.YtljlnojelagmfaaDoorN1
import Derived.Deep.QuietTactic
import Derived.BigQuiet
namespace Go.Proofs.YtljlnojelagmfaaDoor
open Go.RowKit Go.Pl
set_option maxRecDepth 100000

/-- The greatest number of what a limit may be of. -/
def mostV (c : Int) : Int := if c = 1 then 6 else if c = 2 then 6 else if c = 3 then 32 else 0
def LimOk (c b : Int) : Prop := 1 ≤ b ∧ b ≤ mostV c
theorem most100 (c : Int) (w : World) : Calls Tryd.prog 100 #[.int .i64 c] w fun e w' => e = .returned (.int .i64 (mostV c)) ∧ w = w' := by
  unfold mostV
  by_cases h1 : c = 1
  · subst h1
    go_enter Tryd.func100, Tryd.ntmps100
    go_wp2
    go_ret
    exact ⟨rfl, rfl⟩
  · have h1' : (c == 1) = false := by simpa using h1
    rw [if_neg h1]
    by_cases h2 : c = 2
    · subst h2
      go_enter Tryd.func100, Tryd.ntmps100
      go_wp2
      go_ret
      exact ⟨rfl, rfl⟩
    · have h2' : (c == 2) = false := by simpa using h2
      rw [if_neg h2]
      by_cases h3 : c = 3
      · subst h3
        go_enter Tryd.func100, Tryd.ntmps100
        go_wp2
        go_ret
        exact ⟨rfl, rfl⟩
      · have h3' : (c == 3) = false := by simpa using h3
        rw [if_neg h3]
        go_enter Tryd.func100, Tryd.ntmps100
        go_wp2
        go_ret
        exact ⟨rfl, rfl⟩
theorem amt101 (n : Int) (w : World) : Calls Tryd.prog 101 #[.int .i64 n] w fun e w' => e = .returned (.bool (amtB n)) ∧ w = w' := by
  unfold amtB
  by_cases h : 0 ≤ n
  · have h' : decide (0 ≤ n) = true := by simpa using h
    go_enter Tryd.func101, Tryd.ntmps101
    go_wp2
    go_ret
    simp [h']
  · have h' : decide (0 ≤ n) = false := by simpa using h
    go_enter Tryd.func101, Tryd.ntmps101
    go_wp2
    go_ret
    simp
theorem mostV_lt (c : Int) : 0 ≤ mostV c ∧ mostV c ≤ 32 := by
  unfold mostV
  repeat' split
  all_goals omega

theorem capGet48 (tb : Nat) (m : Option Nat) (c b : Int) (l : List ((Int × Int) × Int)) (w : World) (hL : TabAt 86 w tb m l) :
    Calls Tryd.prog 48 #[.pointer (some ⟨tb, 0, .none⟩), ek2 (c, b)] w fun e w' => e = .returned (.int .i64 ((lk l (c, b)).getD 0)) ∧ Chg S0 w w' := by
  have c0 := hL.cells.cell 0
  simp only [List.getElem?_toArray, List.getElem?_cons_zero] at c0
  have hlt := hL.cells.lt
  show Calls _ _ #[_, .agg #[.int .i64 c, .int .i64 b]] _ _
  cases m with
  | none =>
    have hn : l = [] := hL.map
    subst hn
    have hlk : ∀ (w : World), Sem.run Tryd.prog (Instr.lookup 84 (.map none) (.agg #[.int .i64 c, .int .i64 b]) false) w = .ok (.int .i64 0) w := fun w => lookup_nil key89 Tryd.underlying84 (zero2 w) (c, b) false
    go_enter Tryd.func48, Tryd.ntmps48
    go_wp2
    refine region_tail 5 (by kernel_rfl) (by kernel_rfl) ?_
    simp only [List.take_succ_cons, List.take_zero, List.drop_succ_cons, List.drop_zero]
    repeat still_step
    refine wpStill_nil ?_
    go_wp2
    go_ret
    exact ⟨rfl, by repeat (first | exact Chg.refl _ _ | apply Chg.drew | apply Chg.alloc)⟩
  | some x =>
    have hM : MapAt ek2 ekI w x l := hL.map
    have hM0 := hM.alloc (.cells #[.int .i64 c, .int .i64 b] 89)
    go_enter Tryd.func48, Tryd.ntmps48
    go_wp2
    refine region_tail 5 (by kernel_rfl) (by kernel_rfl) ?_
    simp only [List.take_succ_cons, List.take_zero, List.drop_succ_cons, List.drop_zero]
    repeat still_step
    refine wpStill_nil ?_
    go_wp2_with (first | (at_lookup; refine wpList_lookupI rfl _ _ 84 rfl 89 2 key89 Tryd.underlying84 (zero2 _) x l rfl hM0.drew (c, b) rfl ?_))
    go_ret
    exact ⟨rfl, by repeat (first | exact Chg.refl _ _ | apply Chg.drew | apply Chg.alloc)⟩

set_option maxHeartbeats 2000000 in
theorem capSet41 (tb : Nat) (m : Option Nat) (c b n : Int) (l : List ((Int × Int) × Int)) (w : World) (hL : TabAt 86 w tb m l) (gd : LimOk c b) (ha : amtB n = true) :
    Calls Tryd.prog 41 #[.pointer (some ⟨tb, 0, .none⟩), ek2 (c, b), .int .i64 n] w fun e w' => e = .returned .nilIface ∧ ∃ m', TabAt 86 w' tb (some m') (tset l (c, b) n) ∧ (m = some m' ∨ w.heap.size ≤ m') ∧ Chg (SL tb m) w w' := by
  have hlt := hL.cells.lt
  show Calls _ _ #[_, .agg #[.int .i64 c, .int .i64 b], _] _ _
  obtain ⟨g1, g2⟩ := gd
  have d1 : decide (b < 1) = false := by simp; omega
  have d2 : decide (mostV c < b) = false := by simp; omega
  have am := fun w => amt101 n w
  rw [ha] at am
  have AM := Lib.hid am
  clear am ha
  go_enter Tryd.func41, Tryd.ntmps41
  go_wp2
  go_quiet ((first | (go_at_call 100; exact Calls.quiet_of_same ((most100 c _).mono fun _ _ ⟨h1, h2⟩ => ⟨h1, h2.symm⟩)) | (go_at_call 101; exact Calls.quiet_of_same ((AM.out _).mono fun _ _ ⟨h1, h2⟩ => ⟨h1, h2.symm⟩))))
  have hW0 : CellsAt ((w.alloc (.cells #[.int .i64 c, .int .i64 b] 89)).drewN nq) w.heap.size #[.int .i64 c, .int .i64 b] 89 := CellsAt.new w _ _
  have hT0 : TabAt 86 ((w.alloc (.cells #[.int .i64 c, .int .i64 b] 89)).drewN nq) tb m l := hL.chg (((Chg.refl S0 w).alloc _).drewN _) (fun h => h) (fun _ _ h => h)
  have hC0 : Chg (SL tb m) w ((w.alloc (.cells #[.int .i64 c, .int .i64 b] 89)).drewN nq) := ((Chg.refl _ w).alloc _).drewN _
  have hsz : w.heap.size < ((w.alloc (.cells #[.int .i64 c, .int .i64 b] 89)).drewN nq).heap.size := hW0.lt
  generalize ((w.alloc (.cells #[.int .i64 c, .int .i64 b] 89)).drewN nq) = W at *
  obtain ⟨kb, hkb⟩ : ∃ kb, w.heap.size = kb := ⟨_, rfl⟩
  rw [hkb] at hW0 hsz
  have hne : kb ≠ tb := by omega
  have HK := Lib.hid hkb
  rw [hkb]
  have k0 := hW0.cell 0
  have k1 := hW0.cell 1
  have c0 := hT0.cells.cell 0
  have f0 := hT0.cells.frozen 0
  simp only [List.getElem?_toArray, List.getElem?_cons_zero, List.getElem?_cons_succ] at k0 k1 c0
  have hlt0 := hT0.cells.lt
  have HC0 := Lib.hid hC0
  clear hC0 hkb
  by_cases hl : l = []
  · subst hl
    have hmm := @run_makeMap Tryd.prog
    have hln : ∀ (ty : TypeId), Sem.run Tryd.prog (Builtin.len_ #[84] ty #[Value.map m]) W = Result.ok (Value.int IntKind.i64 0) W := by
      intro ty
      cases m with
      | none => exact len_nil Tryd.underlying84 ty
      | some x => exact MapAt.len hT0.map Tryd.underlying84 ty
    have hM0 := MapAt.new ek2 ekI (W.setCell ⟨tb, 0, none⟩ (.map (some W.heap.size)))
    have hK0 : CellsAt ((W.setCell ⟨tb, 0, none⟩ (.map (some W.heap.size))).alloc (.map #[] 0)).drew kb #[.int .i64 c, .int .i64 b] 89 := ((hW0.other ⟨tb, 0, none⟩ _ hne).alloc _).drew
    have hB0 : CellsAt ((W.setCell ⟨tb, 0, none⟩ (.map (some W.heap.size))).alloc (.map #[] 0)).drew tb #[.map (some W.heap.size)] 86 := ((hT0.cells.set 0 _).alloc _).drew
    have hCh : Chg (SL tb m) W ((W.setCell ⟨tb, 0, none⟩ (.map (some W.heap.size))).alloc (.map #[] 0)).drew := (((Chg.refl _ _).setCell ⟨tb, 0, none⟩ _ (.inl (.inl rfl))).alloc _).drew
    simp only [World.size_setCell] at hM0
    have HM0 := Lib.hid hM0
    have HK0 := Lib.hid hK0
    have HB0 := Lib.hid hB0
    have HCh := Lib.hid hCh
    clear hM0 hK0 hB0 hCh
    by_cases hn : n = 0
    · subst hn
      go_wp2
      refine region_tail 6 (by kernel_rfl) (by kernel_rfl) ?_
      simp only [List.take_succ_cons, List.take_zero, List.drop_succ_cons, List.drop_zero]
      repeat still_step
      refine wpStill_nil ?_
      go_wp2_with (first | (at_mapUpdate; refine wpList_update rfl _ _ _ 84 rfl 89 2 key89 Tryd.underlying84 W.heap.size [] rfl HM0.out.drew (c, b) 0 rfl rfl ?_; intro w1 hM1 hC1))
      have hB1 := HB0.out.chg hC1 (by unfold S1; omega)
      have hK1 := HK0.out.chg hC1 (by unfold S1; omega)
      have j0 := hK1.cell 0
      have j1 := hK1.cell 1
      have j2 := hB1.cell 0
      simp only [List.getElem?_toArray, List.getElem?_cons_zero, List.getElem?_cons_succ] at j0 j1 j2
      have hz1 := hB1.lt
      have HC1 := Lib.hid hC1
      clear hC1
      refine region_tail 5 (by kernel_rfl) (by kernel_rfl) ?_
      simp only [List.take_succ_cons, List.take_zero, List.drop_succ_cons, List.drop_zero]
      repeat still_step
      refine wpStill_nil ?_
      go_wp2_with (first | (at_delete; refine wpList_delete rfl _ _ 84 89 rfl 2 key89 Tryd.underlying84 W.heap.size _ rfl hM1.drew (c, b) rfl ?_; intro w2 hM2 hC2))
      go_ret
      refine ⟨rfl, W.heap.size, ⟨hB1.drew.chg hC2 (by unfold S1; omega), hM2⟩, .inr HC0.out.size, ?_⟩
      refine Chg.step HC0.out (Chg.step (Chg.step HCh.out HC1.out (fun k hk => .inr (by unfold S1 at hk; omega))).drew hC2 (fun k hk => .inr (by unfold S1 at hk; omega))) (fun k hk => .inl hk)
    · have d7 : (n == 0) = false := by simpa using hn
      go_wp2
      refine region_tail 6 (by kernel_rfl) (by kernel_rfl) ?_
      simp only [List.take_succ_cons, List.take_zero, List.drop_succ_cons, List.drop_zero]
      repeat still_step
      refine wpStill_nil ?_
      go_wp2_with (first | (at_mapUpdate; refine wpList_update rfl _ _ _ 84 rfl 89 2 key89 Tryd.underlying84 W.heap.size [] rfl HM0.out.drew (c, b) n rfl rfl ?_; intro w1 hM1 hC1))
      go_ret
      refine ⟨rfl, W.heap.size, ⟨HB0.out.chg hC1 (by unfold S1; omega), by unfold tset; rw [if_neg hn]; exact hM1⟩, .inr HC0.out.size, ?_⟩
      exact Chg.step HC0.out (Chg.step HCh.out hC1 (fun k hk => .inr (by unfold S1 at hk; omega))) (fun k hk => .inl hk)
  · cases m with
    | none => exact absurd hT0.map hl
    | some x =>
      have hM : MapAt ek2 ekI W x l := hT0.map
      have hxt := MapAt.ne_cells hM hT0.cells
      have hxk := MapAt.ne_cells hM hW0
      have hxl := MapAt.lt hM
      have hln : ∀ (ty : TypeId), Sem.run Tryd.prog (Builtin.len_ #[84] ty #[Value.map (some x)]) W = Result.ok (Value.int IntKind.i64 l.length) W := fun ty => hM.len Tryd.underlying84 ty
      have d8 : ((l.length : Int) == 0) = false := by
        cases l with
        | nil => exact absurd rfl hl
        | cons p q => simp; omega
      have HM0 := Lib.hid hM
      have HT0 := Lib.hid hT0
      have HW0 := Lib.hid hW0
      clear hM hT0 hW0
      by_cases hn : n = 0
      · subst hn
        go_wp2
        refine region_tail 6 (by kernel_rfl) (by kernel_rfl) ?_
        simp only [List.take_succ_cons, List.take_zero, List.drop_succ_cons, List.drop_zero]
        repeat still_step
        refine wpStill_nil ?_
        go_wp2_with (first | (at_mapUpdate; refine wpList_update rfl _ _ _ 84 rfl 89 2 key89 Tryd.underlying84 x l rfl HM0.out.drew (c, b) 0 rfl rfl ?_; intro w1 hM1 hC1))
        have hB1 := HT0.out.cells.drew.chg hC1 (by unfold S1; omega)
        have hK1 := HW0.out.drew.chg hC1 (by unfold S1; omega)
        have j0 := hK1.cell 0
        have j1 := hK1.cell 1
        have j2 := hB1.cell 0
        simp only [List.getElem?_toArray, List.getElem?_cons_zero, List.getElem?_cons_succ] at j0 j1 j2
        have hz1 := hB1.lt
        have HC1 := Lib.hid hC1
        clear hC1
        refine region_tail 5 (by kernel_rfl) (by kernel_rfl) ?_
        simp only [List.take_succ_cons, List.take_zero, List.drop_succ_cons, List.drop_zero]
        repeat still_step
        refine wpStill_nil ?_
        go_wp2_with (first | (at_delete; refine wpList_delete rfl _ _ 84 89 rfl 2 key89 Tryd.underlying84 x _ rfl hM1.drew (c, b) rfl ?_; intro w2 hM2 hC2))
        go_ret
        refine ⟨rfl, x, ⟨hB1.drew.chg hC2 (by unfold S1; omega), hM2⟩, .inl rfl, ?_⟩
        refine Chg.step HC0.out (Chg.step (Chg.step (Chg.refl (SL tb (some x)) W).drew HC1.out (fun k hk => .inl (.inr (by rw [show k = x from hk])))).drew hC2 (fun k hk => .inl (.inr (by rw [show k = x from hk])))) (fun k hk => .inl hk)
      · have d7 : (n == 0) = false := by simpa using hn
        go_wp2
        refine region_tail 6 (by kernel_rfl) (by kernel_rfl) ?_
        simp only [List.take_succ_cons, List.take_zero, List.drop_succ_cons, List.drop_zero]
        repeat still_step
        refine wpStill_nil ?_
        go_wp2_with (first | (at_mapUpdate; refine wpList_update rfl _ _ _ 84 rfl 89 2 key89 Tryd.underlying84 x l rfl HM0.out.drew (c, b) n rfl rfl ?_; intro w1 hM1 hC1))
        go_ret
        refine ⟨rfl, x, ⟨HT0.out.cells.drew.chg hC1 (by unfold S1; omega), by unfold tset; rw [if_neg hn]; exact hM1⟩, .inl rfl, ?_⟩
        exact Chg.step HC0.out (Chg.step (Chg.refl (SL tb (some x)) W).drew hC1 (fun k hk => .inl (.inr (by rw [show k = x from hk])))) (fun k hk => .inl hk)

/-- Set, where it may not be. -/
theorem capSet41_bad (tb : Nat) (c b n : Int) (w : World) (er : Value) (he : w.cell? ⟨0, 0, none⟩ = some er) (h : ¬ (LimOk c b ∧ amtB n = true)) :
    Calls Tryd.prog 41 #[.pointer (some ⟨tb, 0, .none⟩), ek2 (c, b), .int .i64 n] w fun e w' => e = .returned er ∧ Chg S0 w w' := by
  have hz := World.block_lt_of_cell? _ _ he
  show Calls _ _ #[_, .agg #[.int .i64 c, .int .i64 b], _] _ _
  by_cases g1 : b < 1
  · have d1 : decide (b < 1) = true := by simpa using g1
    clear h
    go_enter Tryd.func41, Tryd.ntmps41
    go_wp2
    go_quiet (fail)
    go_wp2
    go_ret
    exact ⟨rfl, ((Chg.refl _ _).alloc _).drewN _⟩
  · have d1 : decide (b < 1) = false := by simpa using g1
    by_cases g2 : mostV c < b
    · have d2 : decide (mostV c < b) = true := by simpa using g2
      clear h
      go_enter Tryd.func41, Tryd.ntmps41
      go_wp2
      go_quiet ((go_at_call 100; exact Calls.quiet_of_same ((most100 c _).mono fun _ _ ⟨h1, h2⟩ => ⟨h1, h2.symm⟩)))
      go_wp2
      go_ret
      exact ⟨rfl, ((Chg.refl _ _).alloc _).drewN _⟩
    · have d2 : decide (mostV c < b) = false := by simpa using g2
      have ha : amtB n = false := by
        cases hq : amtB n with
        | false => rfl
        | true => exact absurd ⟨⟨by omega, by omega⟩, hq⟩ h
      have am := fun w => amt101 n w
      rw [ha] at am
      have AM := Lib.hid am
      clear am ha h
      go_enter Tryd.func41, Tryd.ntmps41
      go_wp2
      go_quiet ((first | (go_at_call 100; exact Calls.quiet_of_same ((most100 c _).mono fun _ _ ⟨h1, h2⟩ => ⟨h1, h2.symm⟩)) | (go_at_call 101; exact Calls.quiet_of_same ((AM.out _).mono fun _ _ ⟨h1, h2⟩ => ⟨h1, h2.symm⟩))))
      go_wp2
      go_ret
      exact ⟨rfl, ((Chg.refl _ _).alloc _).drewN _⟩
end Go.Proofs.YtljlnojelagmfaaDoor
