/-
  Contracts of package cut: Set, Get, SetFx, Fx. (Chapter 12.)
-/
import Derived.Test.YtljlnojelagmfaaDoorA1
namespace Go.Proofs.YtljlnojelagmfaaDoor
open Go.RowKit Go.Pl
set_option maxRecDepth 100000

theorem key28 : KeyE Tryd.prog 28 ek2 := by
  refine KeyE.struct Tryd.underlying28 ek2 (fun {a b} e => ?_) (fun w em a => ?_) (fun w a b => ?_) (fun a => ?_)
  · simpa [ek2, Prod.ext_iff] using e
  · have : ∀ n, (Instr.checkKey em (n+2) 28 (ek2 a)).run Tryd.prog w = .ok () w := by
      intro n
      simp [Instr.checkKey, ek2, run_underlying Tryd.underlying28, run_underlying Tryd.underlying3, Result.andThen, go_sem, part]
    exact this 9998
  · have e1 : Tryd.prog.stoodInHeld 28 = false := by kernel_rfl
    simp [Op.equal, Op.maxDepth, ek2, go_sem, e1]
    obtain ⟨a1, a2⟩ := a
    obtain ⟨b1, b2⟩ := b
    by_cases h1 : a1 = b1 <;> by_cases h2 : a2 = b2 <;> simp [h1, h2]
  · have : ∀ n, Instr.sameBits (n+1) (ek2 a) (ek2 a) = true := by intro n; simp [Instr.sameBits, ek2]
    exact this 9999

theorem zero2 (w : World) : (zeroValue 2).run Tryd.prog w = .ok (.int .i64 0) w := by kernel_rfl

theorem cut_is_any (n : Int) (w : World) :
    Calls Tryd.prog 77 #[.int .i64 n] w fun e w' => e = .returned (.bool (decide (0 ≤ n) && decide (n ≤ 10000))) ∧ w = w' := by
  by_cases h : 0 ≤ n
  · have h' : decide (0 ≤ n) = true := by simpa using h
    go_enter Tryd.func77, Tryd.ntmps77
    go_wp2
    go_ret
    simp [h']
  · have h' : decide (0 ≤ n) = false := by simpa using h
    go_enter Tryd.func77, Tryd.ntmps77
    go_wp2
    go_ret
    simp

/-- A map that may be nil. -/
def MapOpt {α β : Type} (ek : α → Value) (ev : β → Value) (w : World) (m : Option Nat) (l : List (α × β)) : Prop :=
  match m with
  | none => l = []
  | some b => MapAt ek ev w b l

/-- The blocks of a struct at lb that leads to a map. -/
def SL (lb : Nat) (m : Option Nat) : Nat → Prop := fun k => k = lb ∨ m = some k

theorem MapOpt.chg {α β : Type} {ek : α → Value} {ev : β → Value} {w w' : World} {m : Option Nat} {l : List (α × β)} {S : Nat → Prop} (h : MapOpt ek ev w m l) (hc : Chg S w w') (hs : ∀ k, m = some k → ¬ S k) : MapOpt ek ev w' m l := by
  cases m with
  | none => exact h
  | some b => exact MapAt.chg h hc (hs b rfl)

theorem MapOpt.nodup {α β : Type} {ek : α → Value} {ev : β → Value} {w : World} {m : Option Nat} {l : List (α × β)} (h : MapOpt ek ev w m l) : (l.map (·.1)).Nodup := by
  cases m with
  | none => have h : l = [] := h; subst h; simp
  | some b => exact MapAt.nodup h

theorem MapOpt.lt {α β : Type} {ek : α → Value} {ev : β → Value} {w : World} {m : Option Nat} {l : List (α × β)} (h : MapOpt ek ev w m l) : ∀ k, m = some k → k < w.heap.size := by
  intro k e
  subst e
  exact MapAt.lt h

theorem MapAt.ne_cells {α β : Type} {ek : α → Value} {ev : β → Value} {w : World} {m b : Nat} {l : List (α × β)} {cs : Array Value} {t : TypeId} (h : MapAt ek ev w m l) (hc : CellsAt w b cs t) : m ≠ b := by
  intro e
  subst e
  obtain ⟨es, ck, h1, _⟩ := h
  unfold CellsAt at hc
  rw [h1] at hc
  cases hc

/-- The ladder at an address: its map, what it holds, the cut of what is not in the base. -/
structure LadAt (w : World) (b : Nat) (m : Option Nat) (fx : Int) (l : List ((Int × Int) × Int)) : Prop where
  cells : CellsAt w b #[.map m, .int .i64 fx] 26
  map : MapOpt ek2 ekI w m l

theorem LadAt.chg {w w' : World} {b : Nat} {m : Option Nat} {fx : Int} {l : List ((Int × Int) × Int)} {S : Nat → Prop} (h : LadAt w b m fx l) (hc : Chg S w w') (hb : ¬ S b) (hs : ∀ k, m = some k → ¬ S k) : LadAt w' b m fx l :=
  ⟨h.cells.chg hc hb, h.map.chg hc hs⟩

set_option maxHeartbeats 1000000 in
theorem ladSet_nil (lb : Nat) (m : Option Nat) (fx c b n : Int) (w : World) (hL : LadAt w lb m fx []) (h1 : 1 ≤ c) (h2 : c ≤ 6) (h3 : 0 ≤ b) (h4 : b < 6) (h5 : 0 ≤ n) (h6 : n ≤ 10000) :
    Calls Tryd.prog 16 #[.pointer (some ⟨lb, 0, .none⟩), ek2 (c, b), .int .i64 n] w fun e w' => e = .returned .nilIface ∧ ∃ m', LadAt w' lb (some m') fx [((c, b), n)] ∧ w.heap.size ≤ m' ∧ Chg (SL lb m) w w' := by
  have c0 := hL.cells.cell 0
  have f0 := hL.cells.frozen 0
  simp only [List.getElem?_toArray, List.getElem?_cons_zero] at c0
  have hlt := hL.cells.lt
  show Calls _ _ #[_, .agg #[.int .i64 c, .int .i64 b], _] _ _
  have d1 : decide (c < 1) = false := by simp; omega
  have d2 : decide (6 < c) = false := by simp; omega
  have d3 : decide (b < 0) = false := by simp; omega
  have d4 : decide (6 ≤ b) = false := by simp; omega
  have d5 : decide (0 ≤ n) = true := by simp; omega
  have d6 : decide (n ≤ 10000) = true := by simp; omega
  have hmm := @run_makeMap Tryd.prog
  have hln : ∀ (ty : TypeId) (o : Obj), Sem.run Tryd.prog (Builtin.len_ #[24] ty #[Value.map m]) (w.alloc o) = Result.ok (Value.int IntKind.i64 0) (w.alloc o) := by
    intro ty o
    cases m with
    | none => exact len_nil Tryd.underlying24 ty
    | some x => exact (MapAt.alloc hL.map o).len Tryd.underlying24 ty
  go_enter Tryd.func16, Tryd.ntmps16
  go_wp2_with (first | (go_at_call 77; refine (cut_is_any _ _).mono ?_; rintro e w' ⟨rfl, rfl⟩))
  refine region_tail 6 (by kernel_rfl) (by kernel_rfl) ?_
  simp only [List.take_succ_cons, List.take_zero, List.drop_succ_cons, List.drop_zero]
  repeat still_step
  refine wpStill_nil ?_
  have hM0 := MapAt.new ek2 ekI ((w.setCell ⟨lb, 0, none⟩ (.map (some (w.heap.size + 1)))).alloc (.cells #[.int .i64 c, .int .i64 b] 28))
  simp only [World.size_alloc, World.size_setCell] at hM0
  go_wp2_with (first | (at_mapUpdate; refine wpList_update rfl _ _ _ 24 rfl 28 2 key28 Tryd.underlying24 (w.heap.size + 1) [] rfl hM0 (c, b) n rfl rfl ?_; intro w1 hM1 hC1))
  go_ret
  refine ⟨rfl, w.heap.size + 1, ⟨?_, hM1⟩, by omega, ?_⟩
  · exact CellsAt.chg (((hL.cells.set 0 _).alloc _).alloc _).drew hC1 (by unfold S1; omega)
  · exact Chg.step ((((Chg.refl _ _).setCell ⟨lb, 0, none⟩ _ (.inl (.inl rfl))).alloc _).alloc _).drew hC1 (by unfold S1; intro k hk; right; omega)

set_option maxHeartbeats 1000000 in
theorem ladSet_some (lb x : Nat) (fx c b n : Int) (l : List ((Int × Int) × Int)) (w : World) (hL : LadAt w lb (some x) fx l) (hl : l ≠ []) (h1 : 1 ≤ c) (h2 : c ≤ 6) (h3 : 0 ≤ b) (h4 : b < 6) (h5 : 0 ≤ n) (h6 : n ≤ 10000) :
    Calls Tryd.prog 16 #[.pointer (some ⟨lb, 0, .none⟩), ek2 (c, b), .int .i64 n] w fun e w' => e = .returned .nilIface ∧ LadAt w' lb (some x) fx (put l (c, b) n) ∧ Chg (S1 x) w w' := by
  have c0 := hL.cells.cell 0
  simp only [List.getElem?_toArray, List.getElem?_cons_zero] at c0
  have hlt := hL.cells.lt
  have hM : MapAt ek2 ekI w x l := hL.map
  have hne := MapAt.ne_cells hM hL.cells
  show Calls _ _ #[_, .agg #[.int .i64 c, .int .i64 b], _] _ _
  have d1 : decide (c < 1) = false := by simp; omega
  have d2 : decide (6 < c) = false := by simp; omega
  have d3 : decide (b < 0) = false := by simp; omega
  have d4 : decide (6 ≤ b) = false := by simp; omega
  have d5 : decide (0 ≤ n) = true := by simp; omega
  have d6 : decide (n ≤ 10000) = true := by simp; omega
  have hln : ∀ (ty : TypeId) (o : Obj), Sem.run Tryd.prog (Builtin.len_ #[24] ty #[Value.map (some x)]) (w.alloc o) = Result.ok (Value.int IntKind.i64 l.length) (w.alloc o) :=
    fun ty o => (MapAt.alloc hM o).len Tryd.underlying24 ty
  have d7 : ((l.length : Int) == 0) = false := by
    cases l with
    | nil => exact absurd rfl hl
    | cons p q => simp; omega
  go_enter Tryd.func16, Tryd.ntmps16
  go_wp2_with (first | (go_at_call 77; refine (cut_is_any _ _).mono ?_; rintro e w' ⟨rfl, rfl⟩))
  refine region_tail 6 (by kernel_rfl) (by kernel_rfl) ?_
  simp only [List.take_succ_cons, List.take_zero, List.drop_succ_cons, List.drop_zero]
  repeat still_step
  refine wpStill_nil ?_
  have hM0 := hM.alloc (.cells #[.int .i64 c, .int .i64 b] 28)
  go_wp2_with (first | (at_mapUpdate; refine wpList_update rfl _ _ _ 24 rfl 28 2 key28 Tryd.underlying24 x l rfl hM0.drew (c, b) n rfl rfl ?_; intro w1 hM1 hC1))
  go_ret
  refine ⟨rfl, ⟨?_, hM1⟩, ?_⟩
  · exact CellsAt.chg ((hL.cells.alloc _).drew) hC1 (by unfold S1; omega)
  · exact Chg.step ((Chg.refl _ _).alloc _).drew hC1 (fun k hk => .inl hk)

end Go.Proofs.YtljlnojelagmfaaDoor
