/-
  What every row of this seat needs: the listed errors at the call's begin, a world in which they lie, the post out of 'Chg'.
-/
import Derived.Test.YtljlnojelagmfaaDoorCards
import Derived.Test.YtljlnojelagmfaaDoorTie
import Derived.Test.YtljlnojelagmfaaDoorB1
import Derived.WalkKit
import Derived.ProofKit
import Derived.OpenShut
import Derived.LaidMore
import Derived.LaidSub
import Derived.Stop.LaidErr
import Derived.Deep.DeepHandedRow
import Derived.Deep.DeepWitnessRowRef
namespace Go.Proofs.YtljlnojelagmfaaDoor
open Go.ChangeShapes Go.WideShapes Go.ChangeAt Go.RowKit Go.Pl

theorem own : ownKnob Tryd.prog.godebug = none := by kernel_rfl
theorem starErr : "*" ++ "errors.errorString" = "*errors.errorString" := by decide
theorem row391 (u : TypeId) (h : Tryd.prog.typeName? 3 u = some "*errors.errorString") : u = 391 :=
  typeName_ptr_named (nm := "errors.errorString") (by rw [starErr]; kernel_rfl) (by kernel_rfl) (by decide) u (by rw [starErr]; exact h)
theorem cells405 : Tryd.prog.cellsOf 405 = 1 := by kernel_rfl
theorem cells9 : Tryd.prog.cellsOf 9 = 1 := by kernel_rfl

/-- A listed error: the variable's cell, and the text behind it. -/
theorem errAt {l : List (String × DataW Unit)} {W : World} (h : laidMetH Tryd.prog l W) (n : String) (text : List UInt8) (g : Nat) (hf : l.filter (fun x => x.1 == n) = [(n, .iface "*errors.errorString" (.ptr (.agg [.lit (.string text)])))])
    (hg : Tryd.prog.globalNamed n = some g) (hgt : (Tryd.prog.globals[g]?).map (·.type) = some 30) :
    ∃ (a : Addr) (s : ByteArray), W.cell? ⟨g, 0, none⟩ = some (.iface 391 (.pointer (some a))) ∧ W.cell? a = some (.string s) ∧ s.data.toList = text := by
  have h' := h.filter (fun x => x.1 == n)
  rw [hf, MakeChecks.laidMetH_plain _ _ _ (by rfl)] at h'
  obtain ⟨a, s, hv, hc, hs, _⟩ := laid_sentinel h' hg hgt Tryd.underlying30 row391 Tryd.underlying391 Tryd.underlying405 rfl rfl Tryd.underlying9 cells405 cells9
  refine ⟨a, s, ?_, hc, hs⟩
  simpa using World.var?_cell hg hv 0

/-- The post, where nothing that lay before the call has turned. -/
theorem post_of_chg {H : Type} {enc : TypeId × Value → H} {P : Program} {f : Func} {s : ChangeSpec} {apart fresh handsOn : Bool} {W W' : World} {args : Array Value} {v : Value} {ds gs : List (DataW H)} {before pr pa pv : List MemPlace}
    (hW : DataW.Whole enc P f.params.toList s.vars apart W args.toList ds gs before)
    (hres : DataW.TrodAll enc P W' (match fresh with | true => W.heap.size | false => 0) (fun _ => false) handsOn f.resultTypes.toList (v.resultList f.resultTypes.size) (s.fn H (ds ++ gs)).results pr)
    (hargs : DataW.TrodAll enc P W' 0 (fun b => decide (b < W.heap.size)) true f.params.toList args.toList (s.fn H (ds ++ gs)).args pa)
    (hvars : DataW.TrodVars enc P W' (fun b => decide (b < W.heap.size)) s.vars (s.fn H (ds ++ gs)).vars pv)
    (hc : Chg S0 W W') : s.post enc P f apart fresh handsOn false W args v W' :=
  ⟨ds, gs, before, pr, pa, pv, hW, hres, hargs, hvars, hc.below.frame _, fun h => by cases h⟩

/-- The world that the program's own initialisers leave. -/
noncomputable abbrev W0 (os : Os) : World := World.doorLaid Tryd.prog 433 os

end Go.Proofs.YtljlnojelagmfaaDoor
