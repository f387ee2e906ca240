/-
  StressPlays: what is too long; its arguments, opened. (Chapter 22.)
-/
import Derived.Test.YtljlnojelagmfaaDoorN8
import Derived.Test.YtljlnojelagmfaaDoorG4
namespace Go.Proofs.YtljlnojelagmfaaDoor
open Go.ChangeShapes Go.WideShapes Go.ChangeAt Go.RowKit Go.Pl
set_option maxRecDepth 100000

theorem stressPlays_far (B : Nat) (A : Nat → Addr) (p pu : Option Addr) (n cap nl capu : Nat) (sc a1 a2 : Int) (w : World) (hE : ErrsAt B A w) (hf : ¬ (n ≤ 60 ∧ nl ≤ 40)) (h1 : n ≤ maxLen) (h2 : nl ≤ maxLen) :
    Calls Tryd.prog 5 #[.slice p n cap, .slice pu nl capu, .int .i64 sc, ek2 (a1, a2)] w fun e w' => e = .returned (.bool true) ∧ Chg S0 w w' := by
  show Calls _ _ #[_, _, _, .agg #[.int .i64 a1, .int .i64 a2]] _ _
  unfold maxLen at h1 h2
  have hfi := first22 B A _ (hE.alloc (.cells #[.int .i64 a1, .int .i64 a2] 59))
  have HF := Lib.hid hfi
  clear hfi hE
  by_cases hn : n ≤ 60
  · have hn' : decide ((60 : Int) < n) = false := by simp; omega
    have hl' : decide ((40 : Int) < nl) = true := by simp; omega
    clear hf
    go_enter Tryd.func5, Tryd.ntmps5
    go_wp2_with (go_at_call 28; refine HF.out.mono ?_; rintro e w1 ⟨rfl, hc1⟩)
    go_ret
    exact ⟨rfl, Chg.step ((Chg.refl _ _).alloc _) hc1 (fun _ h => h.elim)⟩
  · have hn' : decide ((60 : Int) < n) = true := by simp; omega
    clear hf
    go_enter Tryd.func5, Tryd.ntmps5
    go_wp2_with (go_at_call 28; refine HF.out.mono ?_; rintro e w1 ⟨rfl, hc1⟩)
    go_ret
    exact ⟨rfl, Chg.step ((Chg.refl _ _).alloc _) hc1 (fun _ h => h.elim)⟩

theorem stressPlays_any (B : Nat) (A : Nat → Addr) (v u : Value) (n : Nat) (D : Nat → Int × Int × Int) (l : List Int) (sc a1 a2 : Int) (w : World) (hE : ErrsAt B A w) (hB : B ≤ w.heap.size) (hD : TriAt w v n D) (hI : IntsAt w u l) (h1 : n ≤ maxLen) (h2 : l.length ≤ maxLen) :
    Calls Tryd.prog 5 #[v, u, .int .i64 sc, ek2 (a1, a2)] w fun e w' => e = .returned (.bool true) ∧ Chg S0 w w' := by
  by_cases hn : n ≤ 60 ∧ l.length ≤ 40
  · exact stressPlays_walk B A v u n D l sc a1 a2 w hE hB hD hI hn.1 hn.2
  · obtain ⟨p, cap, rfl, _⟩ := hD
    obtain ⟨pu, capu, rfl, _⟩ := hI
    exact stressPlays_far B A p pu n cap l.length capu sc a1 a2 w hE hn h1 h2

section
variable {H : Type} {enc : TypeId × Value → H} {w : World} {base : Nat} {spare : Nat → Bool} {held : Bool}

theorem lits_of_trod {n : Nat} {k : IntKind} {t : TypeId} (ht : Tryd.prog.underlying t = some (.int k)) {cs : List Value} {y : DataW H × List MemPlace} (h : DataW.trod enc Tryd.prog w base spare held n t cs = some y) : ∃ x, cs = [.int k x] := by
  obtain ⟨x, hx, _⟩ := DataW.trod_int ht h
  exact ⟨x, hx⟩

theorem cells3 : Tryd.prog.cellsOf 3 = 1 := by kernel_rfl
theorem cells2' : Tryd.prog.cellsOf 2 = 1 := by kernel_rfl

/-- A pair of numbers as an argument. -/
theorem pair_open {t : TypeId} {f0 f1 : Field} (ht : Tryd.prog.underlying t = some (.struct #[f0, f1])) (h0 : f0.type = 3) (h1 : f1.type = 3) (o0 : f0.offset = 0) (o1 : f1.offset = 1) (hc : Tryd.prog.cellsOf t = 2)
    {r : Reach} {b0 : Nat} {v : Value} {d : DataW H} {p : List MemPlace} (hv : Value.okWide Tryd.prog w r b0 t v) (h : DataW.Trod enc Tryd.prog w base spare held t v d p) : ∃ a b, v = ek2 (a, b) := by
  obtain ⟨cs, rfl, hsz⟩ := okWide_struct ht hv
  obtain ⟨l⟩ := cs
  match l, hsz.trans hc with
  | [c0, c1], _ =>
    obtain ⟨fuel, hf⟩ := h
    obtain ⟨y0, y1, n, _, _, g0, g1⟩ := trod_struct2 ht hf
    rw [h0, o0, cells3] at g0
    rw [h1, o1, cells3] at g1
    simp [Value.cells] at g0 g1
    obtain ⟨x0, e0⟩ := lits_of_trod Tryd.underlying3 g0
    obtain ⟨x1, e1⟩ := lits_of_trod Tryd.underlying3 g1
    simp at e0 e1
    subst e0 e1
    exact ⟨x0, x1, rfl⟩

/-- A slice of a pair and a number each. -/
theorem tri_open {t e c : TypeId} {f0 f1 g0 g1 : Field} (ht : Tryd.prog.underlying t = some (.slice e)) (he : Tryd.prog.underlying e = some (.struct #[f0, f1])) (hc : Tryd.prog.underlying c = some (.struct #[g0, g1]))
    (h0 : f0.type = c) (h1 : f1.type = 2) (o0 : f0.offset = 0) (o1 : f1.offset = 2) (k0 : g0.type = 3) (k1 : g1.type = 3) (q0 : g0.offset = 0) (q1 : g1.offset = 1) (hce : Tryd.prog.cellsOf e = 3) (hcc : Tryd.prog.cellsOf c = 2)
    {r : Reach} {b0 : Nat} {v : Value} {d : DataW H} {p : List MemPlace} (hv : Value.okWide Tryd.prog w r b0 t v) (h : DataW.Trod enc Tryd.prog w base spare held t v d p) : ∃ n D, TriAt w v n D ∧ n ≤ maxLen := by
  obtain ⟨a0, len, cap, rfl⟩ := okWide_slice ht hv
  obtain ⟨fuel, hf⟩ := h
  rcases Go.Deep.open_slice ht hf with h' | ⟨a, len', cap', m, n, D, Pl, hcs, _, hl, hcm, hmm, _, hi⟩
  · have h' := h'.1
    simp [Value.cells] at h'
    obtain ⟨rfl, rfl, rfl⟩ := h'
    exact ⟨0, fun _ => (0, 0, 0), ⟨none, 0, rfl, Nat.le_refl _, fun k hk => by omega⟩, Nat.zero_le _⟩
  · simp [Value.cells] at hcs
    obtain ⟨rfl, rfl, rfl⟩ := hcs
    have key : ∀ k, ∃ x : Int × Int × Int, k < len → w.cell? (a.add (k * 3)) = some (.int .i64 x.1) ∧ w.cell? ((a.add (k * 3)).add 1) = some (.int .i64 x.2.1) ∧ w.cell? ((a.add (k * 3)).add 2) = some (.int .i64 x.2.2) := by
      intro k
      by_cases hk : k < len
      · obtain ⟨cs', hcl, ht'⟩ := hi k (by rw [hmm]; split <;> omega)
        rw [hce] at hcl
        obtain ⟨_, hlen, hat⟩ := World.cells?_some hcl
        obtain ⟨y0, y1, n', _, _, j0, j1⟩ := trod_struct2 he ht'
        rw [h0, o0, hcc] at j0
        rw [h1, o1, cells2'] at j1
        obtain ⟨z0, z1, n'', _, _, i0, i1⟩ := trod_struct2 hc j0
        rw [k0, q0, cells3] at i0
        rw [k1, q1, cells3] at i1
        match cs', hlen with
        | [c0, c1, c2], _ =>
          simp at i0 i1 j1
          obtain ⟨x0, e0⟩ := lits_of_trod Tryd.underlying3 i0
          obtain ⟨x1, e1⟩ := lits_of_trod Tryd.underlying3 i1
          obtain ⟨x2, e2⟩ := lits_of_trod Tryd.underlying2 j1
          simp at e0 e1 e2
          subst e0 e1 e2
          have a0 := hat 0 (by decide)
          have a1 := hat 1 (by decide)
          have a2 := hat 2 (by decide)
          exact ⟨(x0, x1, x2), fun _ => ⟨by simpa [Addr.add] using a0, by simpa using a1, by simpa using a2⟩⟩
      · exact ⟨(0, 0, 0), fun h => absurd h hk⟩
    obtain ⟨D, hD⟩ := Classical.axiomOfChoice key
    refine ⟨len, D, ⟨some a, cap, rfl, hl, fun k hk => ?_⟩, by omega⟩
    obtain ⟨h0, h1, h2⟩ := hD k hk
    obtain ⟨q, hq⟩ : ∃ q, a.add (k * 3) = q := ⟨_, rfl⟩
    rw [hq] at h0 h1 h2
    exact ⟨a, q.block, q.off, q.spot, rfl, hq, h0, by simpa [Addr.add] using h1, by simpa [Addr.add] using h2⟩

/-- A slice of numbers. -/
theorem ints_open {t e : TypeId} (ht : Tryd.prog.underlying t = some (.slice e)) (he : Tryd.prog.underlying e = some (.int .i64)) (hce : Tryd.prog.cellsOf e = 1)
    {r : Reach} {b0 : Nat} {v : Value} {d : DataW H} {p : List MemPlace} (hv : Value.okWide Tryd.prog w r b0 t v) (h : DataW.Trod enc Tryd.prog w base spare held t v d p) : ∃ l, IntsAt w v l ∧ l.length ≤ maxLen := by
  obtain ⟨a0, len, cap, rfl⟩ := okWide_slice ht hv
  obtain ⟨fuel, hf⟩ := h
  rcases Go.Deep.open_slice1 ht hce hf with h' | ⟨a, len', cap', m, n, V, D, Pl, hcs, _, hl, hcm, hmm, _, hi⟩
  · have h' := h'.1
    simp [Value.cells] at h'
    obtain ⟨rfl, rfl, rfl⟩ := h'
    exact ⟨[], ⟨none, 0, rfl, Nat.le_refl _, fun k hk => by simp at hk⟩, Nat.zero_le _⟩
  · simp [Value.cells] at hcs
    obtain ⟨rfl, rfl, rfl⟩ := hcs
    have key : ∀ k, ∃ x : Int, k < len → w.cell? (a.add k) = some (.int .i64 x) := by
      intro k
      by_cases hk : k < len
      · obtain ⟨h1, h2⟩ := hi k (by rw [hmm]; split <;> omega)
        obtain ⟨x, hx⟩ := lits_of_trod he h2
        simp at hx
        exact ⟨x, fun _ => by rw [h1, hx]⟩
      · exact ⟨0, fun h => absurd h hk⟩
    obtain ⟨D, hD⟩ := Classical.axiomOfChoice key
    refine ⟨(List.range len).map D, ⟨some a, cap, by simp, by simpa using hl, fun k hk => ?_⟩, by simp; omega⟩
    have hk' : k < len := by simpa using hk
    have h0 := hD k hk'
    obtain ⟨q, hq⟩ : ∃ q, a.add k = q := ⟨_, rfl⟩
    rw [hq] at h0
    exact ⟨a, q.block, q.off, q.spot, rfl, hq, by simpa using h0⟩
end
end Go.Proofs.YtljlnojelagmfaaDoor
