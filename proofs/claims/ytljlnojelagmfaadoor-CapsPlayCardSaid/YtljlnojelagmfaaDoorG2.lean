/-
  The listed errors at the call's begin, all of them: 'ErrsAt'. (Printed by wip/gen_errs.py.)
-/
import Derived.Test.YtljlnojelagmfaaDoorG0
import Derived.Test.YtljlnojelagmfaaDoorH3
namespace Go.Proofs.YtljlnojelagmfaaDoor
open Go.ChangeShapes Go.WideShapes Go.ChangeAt Go.RowKit Go.Pl
set_option maxRecDepth 100000

/-- A listed error: the variable's cell, the text behind it, its row. -/
theorem errRow {l : List (String × DataW Unit)} {W : World} (h : laidMetH Tryd.prog l W) (n : String) (text : List UInt8) (g : Nat) (hf : l.filter (fun x => x.1 == n) = [(n, .iface "*errors.errorString" (.ptr (.agg [.lit (.string text)])))])
    (hg : Tryd.prog.globalNamed n = some g) (hgt : (Tryd.prog.globals[g]?).map (·.type) = some 30) :
    ∃ (a : Addr) (s : ByteArray), W.cell? ⟨g, 0, none⟩ = some (errV a) ∧ W.cell? a = some (.string s) ∧ s.data.toList = text ∧ ∃ cs t, W.heap[a.block]? = some (.cells cs t) := by
  have h' := h.filter (fun x => x.1 == n)
  rw [hf, MakeChecks.laidMetH_plain _ _ _ (by rfl)] at h'
  obtain ⟨ps, ⟨g0, t0, cs0, f0, p0, q0, hg0, ht0, hv0, hd0, _, e0⟩, _, hrows⟩ := h'
  obtain rfl := Option.some.inj (hg.symm.trans hg0)
  obtain rfl := Option.some.inj (hgt.symm.trans ht0)
  subst e0
  obtain ⟨l0⟩ := cs0
  have ok0 : ∀ u v, l0 = [.iface u v] → Value.okWide Tryd.prog W .any 0 u v := fun u v e => by
    subst e
    exact (hrows g 0 (by simp [MemPlace.row])).2 u v (by simpa using World.var?_cell hg0 hv0 0)
  obtain ⟨a0, s0, rfl, hc0, hs0, _, hp0⟩ := errorString_of_trod Tryd.underlying30 row391 Tryd.underlying391 Tryd.underlying405 rfl rfl Tryd.underlying9 cells405 cells9 hd0 ok0
  exact ⟨a0, s0, by simpa using World.var?_cell hg hv0 0, hc0, hs0, (hrows a0.block a0.off (by rw [hp0]; simp [MemPlace.row])).1⟩

def errName : Nat → String
  | 0 => "pledge/api.ErrRange"
  | 1 => "pledge/api.ErrMany"
  | 2 => "pledge/api.ErrOver"
  | 3 => "pledge/api.ErrKind"
  | 4 => "pledge/api.ErrFull"
  | 5 => "pledge/api.ErrShape"
  | 6 => "pledge/api.ErrCrash"
  | 8 => "pledge/api.ErrEnd"
  | 9 => "pledge/api.ErrNone"
  | 10 => "pledge/api.ErrThere"
  | 11 => "pledge/api.ErrTwice"
  | 12 => "pledge/api.ErrBarred"
  | 13 => "pledge/api.ErrShort"
  | 14 => "pledge/api.ErrBreach"
  | 15 => "pledge/api.ErrNeed"
  | 16 => "pledge/api.ErrBound"
  | 17 => "pledge/api.ErrDay"
  | 18 => "pledge/api.ErrWord"
  | 19 => "pledge/api.ErrNumber"
  | 20 => "pledge/api.ErrBudget"
  | 21 => "pledge/api.ErrNothing"
  | _ => ""
def errText : Nat → List UInt8
  | 0 => [97, 32, 110, 117, 109, 98, 101, 114, 32, 111, 117, 116, 32, 111, 102, 32, 105, 116, 115, 32, 114, 97, 110, 103, 101]
  | 1 => [116, 111, 111, 32, 109, 97, 110, 121]
  | 2 => [116, 111, 111, 32, 103, 114, 101, 97, 116, 32, 97, 32, 110, 117, 109, 98, 101, 114]
  | 3 => [110, 111, 32, 115, 117, 99, 104, 32, 107, 105, 110, 100]
  | 4 => [116, 104, 101, 114, 101, 32, 105, 115, 32, 110, 111, 32, 114, 111, 111, 109]
  | 5 => [110, 111, 116, 32, 97, 115, 32, 105, 116, 32, 104, 97, 115, 32, 116, 111, 32, 98, 101]
  | 6 => [105, 116, 32, 105, 115, 32, 100, 111, 119, 110]
  | 8 => [105, 116, 32, 101, 110, 100, 115, 32, 116, 111, 111, 32, 101, 97, 114, 108, 121]
  | 9 => [116, 104, 101, 114, 101, 32, 105, 115, 32, 110, 111, 110, 101]
  | 10 => [116, 104, 101, 114, 101, 32, 105, 115, 32, 111, 110, 101]
  | 11 => [100, 111, 110, 101, 32, 97, 108, 114, 101, 97, 100, 121]
  | 12 => [110, 111, 116, 32, 101, 108, 105, 103, 105, 98, 108, 101]
  | 13 => [110, 111, 116, 32, 101, 110, 111, 117, 103, 104, 32, 116, 104, 101, 114, 101]
  | 14 => [97, 32, 108, 105, 109, 105, 116, 32, 119, 111, 117, 108, 100, 32, 98, 101, 32, 98, 114, 111, 107, 101, 110]
  | 15 => [108, 101, 115, 115, 32, 116, 104, 97, 110, 32, 119, 104, 97, 116, 32, 105, 115, 32, 110, 101, 101, 100, 101, 100]
  | 16 => [98, 111, 117, 110, 100, 32, 98, 121, 32, 97, 32, 99, 97, 108, 108]
  | 17 => [110, 111, 116, 32, 111, 110, 32, 116, 104, 105, 115, 32, 100, 97, 121]
  | 18 => [110, 111, 32, 115, 117, 99, 104, 32, 119, 111, 114, 100]
  | 19 => [110, 111, 116, 32, 97, 32, 110, 117, 109, 98, 101, 114]
  | 20 => [110, 111, 116, 32, 108, 111, 111, 107, 101, 100, 32, 97, 116, 32, 97, 108, 108]
  | 21 => [105, 116, 32, 99, 97, 110, 39, 116, 32, 98, 101, 32, 100, 111, 110, 101]
  | _ => []
theorem named0 : Tryd.prog.globalNamed (errName 0) = some 0 := by kernel_rfl
theorem named1 : Tryd.prog.globalNamed (errName 1) = some 1 := by kernel_rfl
theorem named2 : Tryd.prog.globalNamed (errName 2) = some 2 := by kernel_rfl
theorem named3 : Tryd.prog.globalNamed (errName 3) = some 3 := by kernel_rfl
theorem named4 : Tryd.prog.globalNamed (errName 4) = some 4 := by kernel_rfl
theorem named5 : Tryd.prog.globalNamed (errName 5) = some 5 := by kernel_rfl
theorem named6 : Tryd.prog.globalNamed (errName 6) = some 6 := by kernel_rfl
theorem named8 : Tryd.prog.globalNamed (errName 8) = some 8 := by kernel_rfl
theorem named9 : Tryd.prog.globalNamed (errName 9) = some 9 := by kernel_rfl
theorem named10 : Tryd.prog.globalNamed (errName 10) = some 10 := by kernel_rfl
theorem named11 : Tryd.prog.globalNamed (errName 11) = some 11 := by kernel_rfl
theorem named12 : Tryd.prog.globalNamed (errName 12) = some 12 := by kernel_rfl
theorem named13 : Tryd.prog.globalNamed (errName 13) = some 13 := by kernel_rfl
theorem named14 : Tryd.prog.globalNamed (errName 14) = some 14 := by kernel_rfl
theorem named15 : Tryd.prog.globalNamed (errName 15) = some 15 := by kernel_rfl
theorem named16 : Tryd.prog.globalNamed (errName 16) = some 16 := by kernel_rfl
theorem named17 : Tryd.prog.globalNamed (errName 17) = some 17 := by kernel_rfl
theorem named18 : Tryd.prog.globalNamed (errName 18) = some 18 := by kernel_rfl
theorem named19 : Tryd.prog.globalNamed (errName 19) = some 19 := by kernel_rfl
theorem named20 : Tryd.prog.globalNamed (errName 20) = some 20 := by kernel_rfl
theorem named21 : Tryd.prog.globalNamed (errName 21) = some 21 := by kernel_rfl
theorem typed0 : (Tryd.prog.globals[0]?).map (·.type) = some 30 := by kernel_rfl
theorem typed1 : (Tryd.prog.globals[1]?).map (·.type) = some 30 := by kernel_rfl
theorem typed2 : (Tryd.prog.globals[2]?).map (·.type) = some 30 := by kernel_rfl
theorem typed3 : (Tryd.prog.globals[3]?).map (·.type) = some 30 := by kernel_rfl
theorem typed4 : (Tryd.prog.globals[4]?).map (·.type) = some 30 := by kernel_rfl
theorem typed5 : (Tryd.prog.globals[5]?).map (·.type) = some 30 := by kernel_rfl
theorem typed6 : (Tryd.prog.globals[6]?).map (·.type) = some 30 := by kernel_rfl
theorem typed8 : (Tryd.prog.globals[8]?).map (·.type) = some 30 := by kernel_rfl
theorem typed9 : (Tryd.prog.globals[9]?).map (·.type) = some 30 := by kernel_rfl
theorem typed10 : (Tryd.prog.globals[10]?).map (·.type) = some 30 := by kernel_rfl
theorem typed11 : (Tryd.prog.globals[11]?).map (·.type) = some 30 := by kernel_rfl
theorem typed12 : (Tryd.prog.globals[12]?).map (·.type) = some 30 := by kernel_rfl
theorem typed13 : (Tryd.prog.globals[13]?).map (·.type) = some 30 := by kernel_rfl
theorem typed14 : (Tryd.prog.globals[14]?).map (·.type) = some 30 := by kernel_rfl
theorem typed15 : (Tryd.prog.globals[15]?).map (·.type) = some 30 := by kernel_rfl
theorem typed16 : (Tryd.prog.globals[16]?).map (·.type) = some 30 := by kernel_rfl
theorem typed17 : (Tryd.prog.globals[17]?).map (·.type) = some 30 := by kernel_rfl
theorem typed18 : (Tryd.prog.globals[18]?).map (·.type) = some 30 := by kernel_rfl
theorem typed19 : (Tryd.prog.globals[19]?).map (·.type) = some 30 := by kernel_rfl
theorem typed20 : (Tryd.prog.globals[20]?).map (·.type) = some 30 := by kernel_rfl
theorem typed21 : (Tryd.prog.globals[21]?).map (·.type) = some 30 := by kernel_rfl
theorem errAll (g : Nat) (h : g < 22) (h7 : g ≠ 7) : Tryd.prog.globalNamed (errName g) = some g ∧ (Tryd.prog.globals[g]?).map (·.type) = some 30 := by
  match g with
  | 0 => exact ⟨named0, typed0⟩
  | 1 => exact ⟨named1, typed1⟩
  | 2 => exact ⟨named2, typed2⟩
  | 3 => exact ⟨named3, typed3⟩
  | 4 => exact ⟨named4, typed4⟩
  | 5 => exact ⟨named5, typed5⟩
  | 6 => exact ⟨named6, typed6⟩
  | 7 => exact absurd rfl h7
  | 8 => exact ⟨named8, typed8⟩
  | 9 => exact ⟨named9, typed9⟩
  | 10 => exact ⟨named10, typed10⟩
  | 11 => exact ⟨named11, typed11⟩
  | 12 => exact ⟨named12, typed12⟩
  | 13 => exact ⟨named13, typed13⟩
  | 14 => exact ⟨named14, typed14⟩
  | 15 => exact ⟨named15, typed15⟩
  | 16 => exact ⟨named16, typed16⟩
  | 17 => exact ⟨named17, typed17⟩
  | 18 => exact ⟨named18, typed18⟩
  | 19 => exact ⟨named19, typed19⟩
  | 20 => exact ⟨named20, typed20⟩
  | 21 => exact ⟨named21, typed21⟩
  | n + 22 => omega
theorem errText_inj : ∀ g, g < 22 → ∀ k, k < 22 → errText g = errText k → g = k := by decide

/-- What a row lists of the errors. -/
def ListsErrs (l : List (String × DataW Unit)) : Prop := ∀ g, g < 22 → g ≠ 7 → l.filter (fun x => x.1 == errName g) = [(errName g, .iface "*errors.errorString" (.ptr (.agg [.lit (.string (errText g))])))]

theorem errs_laid {l : List (String × DataW Unit)} {W : World} (h : laidMetH Tryd.prog l W) (hl : ListsErrs l) : ∃ A, ErrsAt W.heap.size A W := by
  have hall : ∀ g, ∃ a : Addr, g < 22 → g ≠ 7 → W.cell? ⟨g, 0, none⟩ = some (errV a) ∧ (∃ s : ByteArray, W.cell? a = some (.string s) ∧ s.data.toList = errText g) ∧ ∃ cs t, W.heap[a.block]? = some (.cells cs t) := by
    intro g
    by_cases hg : g < 22 ∧ g ≠ 7
    · obtain ⟨a, s, h1, h2, h3, h4⟩ := errRow h (errName g) (errText g) g (hl g hg.1 hg.2) (errAll g hg.1 hg.2).1 (errAll g hg.1 hg.2).2
      exact ⟨a, fun _ _ => ⟨h1, ⟨s, h2, h3⟩, h4⟩⟩
    · exact ⟨⟨0, 0, none⟩, fun h1 h2 => absurd ⟨h1, h2⟩ hg⟩
  obtain ⟨A, hA⟩ := Classical.axiomOfChoice hall
  refine ⟨A, fun g h1 h2 => (hA g h1 h2).1, fun g h1 h2 => (hA g h1 h2).2.2, fun g k h1 h2 h3 h4 he => ?_, fun g h1 h2 => ?_, ?_⟩
  · obtain ⟨s, e1, e2⟩ := (hA g h1 h2).2.1
    obtain ⟨s', e3, e4⟩ := (hA k h3 h4).2.1
    rw [he, e3] at e1
    cases e1
    exact errText_inj g h1 k h3 (e2.symm.trans e4)
  · obtain ⟨cs, t, hr⟩ := (hA g h1 h2).2.2
    exact (Array.getElem?_eq_some_iff.1 hr).1
  · have := World.block_lt_of_cell? _ _ (hA 21 (by decide) (by decide)).1
    exact this
end Go.Proofs.YtljlnojelagmfaaDoor
