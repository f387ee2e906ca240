/-
  Closed facts on the program alone, one by one.
-/
import Derived.Test.YtljlnojelagmfaaDoorG0
namespace Go.Proofs.YtljlnojelagmfaaDoor
open Go
theorem P1 : (laidOutB Tryd.prog : Bool) = true := by kernel_rfl
theorem P2 : (mapsRowed Tryd.prog : Bool) = true := by kernel_rfl
theorem P6 : ((Tryd.prog.stops == []) : Bool) = true := by kernel_rfl
theorem P8 : ((Tryd.prog.stopKnobs == []) : Bool) = true := by kernel_rfl
theorem P24 : (Tryd.prog.stopsHeard : Bool) = true := by kernel_rfl
theorem P25 : (Tryd.prog.mayEnter : Bool) = true := by kernel_rfl

end Go.Proofs.YtljlnojelagmfaaDoor
