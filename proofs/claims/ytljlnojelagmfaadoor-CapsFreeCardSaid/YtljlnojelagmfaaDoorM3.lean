/-
  caps: add, capped, what a group goes to. (Chapter 16.)
-/
import Derived.Test.YtljlnojelagmfaaDoorM2
import Derived.Test.YtljlnojelagmfaaDoorL3
namespace Go.Proofs.YtljlnojelagmfaaDoor
open Go.RowKit Go.Pl
set_option maxRecDepth 100000

theorem key192 : KeyE Tryd.prog 192 ek3 := by
  refine KeyE.struct Tryd.underlying192 ek3 (fun {a b} e => ?_) (fun w em a => ?_) (fun w a b => ?_) (fun a => ?_)
  · simpa [ek3, Prod.ext_iff] using e
  · have : ∀ n, (Instr.checkKey em (n+2) 192 (ek3 a)).run Tryd.prog w = .ok () w := by
      intro n
      simp [Instr.checkKey, ek3, run_underlying Tryd.underlying192, run_underlying Tryd.underlying3, Result.andThen, go_sem, part]
    exact this 9998
  · have e1 : Tryd.prog.stoodInHeld 192 = false := by kernel_rfl
    simp [Op.equal, Op.maxDepth, ek3, go_sem, e1]
    obtain ⟨a1, a2, a3⟩ := a
    obtain ⟨b1, b2, b3⟩ := b
    by_cases h1 : a1 = b1 <;> by_cases h2 : a2 = b2 <;> by_cases h3 : a3 = b3 <;> simp [h1, h2, h3]
  · have : ∀ n, Instr.sameBits (n+1) (ek3 a) (ek3 a) = true := by intro n; simp [Instr.sameBits, ek3]
    exact this 9999

theorem ints2_at (w : World) (x y : Int) (t : TypeId) : IntsAt (w.alloc (.cells #[.int .i64 x, .int .i64 y] t)) (.slice (some ⟨w.heap.size, 0, none⟩) 2 2) [x, y] := by
  refine ⟨_, 2, rfl, Nat.le_refl _, fun k hk => ⟨⟨w.heap.size, 0, none⟩, w.heap.size, k, none, rfl, by unfold Addr.add; split <;> simp_all, ?_⟩⟩
  match k, hk with
  | 0, _ => simp
  | 1, _ => simp

set_option maxHeartbeats 2000000 in
theorem add103 (er : Value) (b : Nat) (O : List (Grp × Int)) (g : Grp) (n : Int) (w : World) (hE : w.cell? ⟨2, 0, none⟩ = some er) (hne : ∃ t v, er = .iface t v) (hM : MapAt ek3 ekI w b O) (hx : amtB ((lk O g).getD 0) = true) (hn : amtB n = true) :
    Calls Tryd.prog 103 #[.map (some b), ek3 g, .int .i64 n] w fun e w' =>
      ((lk O g).getD 0 + n ≤ 1000000000000000 ∧ e = .returned .nilIface ∧ MapAt ek3 ekI w' b (put O g ((lk O g).getD 0 + n)) ∧ Chg (S1 b) w w') ∨
      (1000000000000000 < (lk O g).getD 0 + n ∧ e = .returned er ∧ Chg S0 w w') := by
  obtain ⟨g1, g2, g3⟩ := g
  obtain ⟨x, hxx⟩ : ∃ x, (lk O (g1, g2, g3)).getD 0 = x := ⟨_, rfl⟩
  rw [hxx] at hx ⊢
  have hlk := hM.lt
  have hz := World.block_lt_of_cell? _ _ hE
  have hE1 : ((w.alloc (.cells #[.int .i64 g1, .int .i64 g2, .int .i64 g3] 192)).alloc (.cells #[.int .i64 x, .int .i64 n] 2)).cell? ⟨2, 0, none⟩ = some er := ((((Chg.refl S0 w).alloc _).alloc _).cell hE (fun h => h))
  have hT := total157 er _ [x, n] _ hE1 (ints2_at _ x n 2) (by simp) (by simp [hx, hn])
  have hsum : sumI [x, n] = x + n := by simp [sumI]
  rw [hsum] at hT
  simp only [World.size_alloc] at hT
  have hM1 := hM.alloc (.cells #[.int .i64 g1, .int .i64 g2, .int .i64 g3] 192)
  have HT := Lib.hid hT
  have HX := Lib.hid hxx
  show Calls _ _ #[_, .agg #[.int .i64 g1, .int .i64 g2, .int .i64 g3], _] _ _
  obtain ⟨t, v, rfl⟩ := hne
  clear hT hsum hE1 hxx
  by_cases hs : x + n ≤ 1000000000000000
  · have hv : totV (.iface t v) (x + n) = .tuple #[.int .i64 (x + n), .nilIface] := by unfold totV; rw [if_pos hs]
    have HV := Lib.hid hv
    clear hv
    go_enter Tryd.func103, Tryd.ntmps103
    go_wp2_with (first
      | (at_lookup; refine wpList_lookupI rfl _ _ 189 rfl 192 2 key192 Tryd.underlying189 (zero2 _) b O rfl hM1 (g1, g2, g3) rfl ?_; rw [HX.out])
      | (go_at_call 157; refine HT.out.mono ?_; rintro e w2 ⟨rfl, hc2⟩; rw [HV.out]; have j0 := hc2.cell (b := w.heap.size) (o := 0) (v := .int .i64 g1) (by simp [go_sem]) (fun h => h); have j1 := hc2.cell (b := w.heap.size) (o := 1) (v := .int .i64 g2) (by simp [go_sem]) (fun h => h); have j2 := hc2.cell (b := w.heap.size) (o := 2) (v := .int .i64 g3) (by simp [go_sem]) (fun h => h); have hM2 := (hM1.alloc (.cells #[.int .i64 x, .int .i64 n] 2)).chg hc2 (fun h => h); have Hc2 := Lib.hid hc2; clear hc2)
      | (at_mapUpdate; refine wpList_update rfl _ _ _ 189 rfl 192 2 key192 Tryd.underlying189 b O rfl hM2 (g1, g2, g3) (x + n) rfl rfl ?_; intro w3 hM3 hC3))
    go_ret
    exact .inl ⟨by omega, rfl, hM3, Chg.step (Chg.step (((Chg.refl _ _).alloc _).alloc _) Hc2.out (fun _ h => h.elim)) hC3 (fun k hk => .inl hk)⟩
  · have hv : totV (.iface t v) (x + n) = .tuple #[.int .i64 0, .iface t v] := by unfold totV; rw [if_neg hs]
    have HV := Lib.hid hv
    clear hv
    go_enter Tryd.func103, Tryd.ntmps103
    go_wp2_with (first
      | (at_lookup; refine wpList_lookupI rfl _ _ 189 rfl 192 2 key192 Tryd.underlying189 (zero2 _) b O rfl hM1 (g1, g2, g3) rfl ?_; rw [HX.out])
      | (go_at_call 157; refine HT.out.mono ?_; rintro e w2 ⟨rfl, hc2⟩; rw [HV.out]; have Hc2 := Lib.hid hc2; clear hc2))
    go_ret
    exact .inr ⟨by omega, rfl, Chg.step (((Chg.refl _ _).alloc _).alloc _) Hc2.out (fun _ h => h.elim)⟩

def gL (l : List ((Int × Int) × Int)) : Int × Int → Int := fun c => (lk l c).getD 0

set_option maxHeartbeats 1000000 in
theorem capped158 (tb : Nat) (m : Option Nat) (c b n : Int) (l : List ((Int × Int) × Int)) (w : World) (hL : TabAt 86 w tb m l) :
    Calls Tryd.prog 158 #[.pointer (some ⟨tb, 0, .none⟩), ek2 (c, b), .int .i64 n] w fun e w' => e = .returned (.int .i64 (capV (gL l (c, b)) n)) ∧ Chg S0 w w' := by
  have c0 := hL.cells.cell 0
  simp only [List.getElem?_toArray, List.getElem?_cons_zero] at c0
  have hlt := hL.cells.lt
  show Calls _ _ #[_, .agg #[.int .i64 c, .int .i64 b], _] _ _
  cases m with
  | none =>
    have hn : l = [] := hL.map
    subst hn
    have hv : capV (gL [] (c, b)) n = n := by simp [gL, capV, lk]
    rw [hv]
    have hlk : ∀ (w : World), Sem.run Tryd.prog (Instr.lookup 84 (.map none) (.agg #[.int .i64 c, .int .i64 b]) false) w = .ok (.int .i64 0) w := fun w => lookup_nil key89 Tryd.underlying84 (zero2 w) (c, b) false
    clear hv
    go_enter Tryd.func158, Tryd.ntmps158
    go_wp2
    refine region_tail 5 (by kernel_rfl) (by kernel_rfl) ?_
    simp only [List.take_succ_cons, List.take_zero, List.drop_succ_cons, List.drop_zero]
    repeat still_step
    refine wpStill_nil ?_
    go_wp2
    go_ret
    exact ⟨rfl, by repeat (first | exact Chg.refl _ _ | apply Chg.drew | apply Chg.alloc)⟩
  | some x =>
    have hM : MapAt ek2 ekI w x l := hL.map
    have hM0 := hM.alloc (.cells #[.int .i64 c, .int .i64 b] 89)
    obtain ⟨y, hy⟩ : ∃ y, gL l (c, b) = y := ⟨_, rfl⟩
    rw [hy]
    have hy' : (lk l (c, b)).getD 0 = y := hy
    have HY := Lib.hid hy'
    clear hy hy'
    by_cases h0 : 0 < y
    · have h0' : decide (0 < y) = true := by simpa using h0
      have hv : capV y n = min n y := by unfold capV; rw [if_pos h0]
      rw [hv]
      clear hv
      go_enter Tryd.func158, Tryd.ntmps158
      go_wp2
      refine region_tail 5 (by kernel_rfl) (by kernel_rfl) ?_
      simp only [List.take_succ_cons, List.take_zero, List.drop_succ_cons, List.drop_zero]
      repeat still_step
      refine wpStill_nil ?_
      go_wp2_with (first | (at_lookup; refine wpList_lookupI rfl _ _ 84 rfl 89 2 key89 Tryd.underlying84 (zero2 _) x l rfl hM0.drew (c, b) rfl ?_; rw [HY.out]))
      go_ret
      exact ⟨rfl, by repeat (first | exact Chg.refl _ _ | apply Chg.drew | apply Chg.alloc)⟩
    · have h0' : decide (0 < y) = false := by simpa using h0
      have hv : capV y n = n := by unfold capV; rw [if_neg h0]
      rw [hv]
      clear hv
      go_enter Tryd.func158, Tryd.ntmps158
      go_wp2
      refine region_tail 5 (by kernel_rfl) (by kernel_rfl) ?_
      simp only [List.take_succ_cons, List.take_zero, List.drop_succ_cons, List.drop_zero]
      repeat still_step
      refine wpStill_nil ?_
      go_wp2_with (first | (at_lookup; refine wpList_lookupI rfl _ _ 84 rfl 89 2 key89 Tryd.underlying84 (zero2 _) x l rfl hM0.drew (c, b) rfl ?_; rw [HY.out]))
      go_ret
      exact ⟨rfl, by repeat (first | exact Chg.refl _ _ | apply Chg.drew | apply Chg.alloc)⟩

/-- What a group's limit is of, and where the group goes: by issuers, by currencies, by classes. -/
def lim1 (g : Grp) : Int × Int := (3, g.2.2)
def lim2 (g : Grp) : Int × Int := (2, g.2.1)
def lim3 (g : Grp) : Int × Int := (1, g.1)
def to1 (g : Grp) : Grp := (g.1, g.2.1, 0)
def to2 (g : Grp) : Grp := (g.1, 0, 0)
def to3 (_ : Grp) : Grp := (0, 0, 0)

theorem to104 (g : Grp) (w : World) : Calls Tryd.prog 104 #[ek3 g] w fun e w' => e = .returned (.tuple #[ek2 (lim1 g), ek3 (to1 g)]) ∧ Chg S0 w w' := by
  obtain ⟨g1, g2, g3⟩ := g
  show Calls _ _ #[.agg #[.int .i64 g1, .int .i64 g2, .int .i64 g3]] _ _
  go_enter Tryd.func104, Tryd.ntmps104
  go_wp2
  go_region
  go_wp2
  exact bodyPost_ret (v := .tuple #[ek2 (3, g3), ek3 (g1, g2, 0)]) (by simp [results, Tryd.results104, go_sem, ek2, ek3]) rfl ⟨rfl, by repeat (first | exact Chg.refl _ _ | apply Chg.drew | apply Chg.alloc)⟩
theorem to105 (g : Grp) (w : World) : Calls Tryd.prog 105 #[ek3 g] w fun e w' => e = .returned (.tuple #[ek2 (lim2 g), ek3 (to2 g)]) ∧ Chg S0 w w' := by
  obtain ⟨g1, g2, g3⟩ := g
  show Calls _ _ #[.agg #[.int .i64 g1, .int .i64 g2, .int .i64 g3]] _ _
  go_enter Tryd.func105, Tryd.ntmps105
  go_wp2
  go_region
  go_wp2
  exact bodyPost_ret (v := .tuple #[ek2 (2, g2), ek3 (g1, 0, 0)]) (by simp [results, Tryd.results105, go_sem, ek2, ek3]) rfl ⟨rfl, by repeat (first | exact Chg.refl _ _ | apply Chg.drew | apply Chg.alloc)⟩
theorem to106 (g : Grp) (w : World) : Calls Tryd.prog 106 #[ek3 g] w fun e w' => e = .returned (.tuple #[ek2 (lim3 g), ek3 (to3 g)]) ∧ Chg S0 w w' := by
  obtain ⟨g1, g2, g3⟩ := g
  show Calls _ _ #[.agg #[.int .i64 g1, .int .i64 g2, .int .i64 g3]] _ _
  go_enter Tryd.func106, Tryd.ntmps106
  go_wp2
  exact bodyPost_ret (v := .tuple #[ek2 (1, g1), ek3 (0, 0, 0)]) (by simp [results, Tryd.results106, go_sem, ek2, ek3]) rfl ⟨rfl, by repeat (first | exact Chg.refl _ _ | apply Chg.drew | apply Chg.alloc)⟩
end Go.Proofs.YtljlnojelagmfaaDoor
