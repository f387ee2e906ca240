/-
  Own base, part 7: ranging over a nil map. Over whatever program.
-/
import Derived.Test.YtljlnojelagmfaaDoorB5
namespace Go.Pl
open Go.MapKept Go.RowKit

section
variable {P : Program} {w : World} {ops : Array Oper} {rest : List Oper} {o : Oper} {a : Act} {Q : Exit → Act → World → Prop} {F : Fence} {n : Nat}

theorem run_range_nil {t kt et : TypeId} (ht : P.underlying t = some (.map kt et)) (w : World) : (Instr.range t (.map none)).run P w = .ok (.pointer (some ⟨w.heap.size, 0, none⟩)) (w.alloc (.mapIter none 0 #[] 0)) := by
  simp [Instr.range, run_underlying ht, Result.andThen]

theorem run_next_nil {r : Nat} {since : Nat} {seen : Array Nat} {c0 : Nat} (h : w.heap[r]? = some (.mapIter none since seen c0)) (ty : TypeId) : (Instr.next (.pointer (some ⟨r, 0, none⟩)) false ty).run P w = .ok (.tuple #[.bool false]) w := by
  have hg : (getObj r).run P w = .ok (.mapIter none since seen c0) w := by simp [getObj, Sem.run, h]
  simp [Instr.next, hg, Result.andThen]

theorem wpListIn_rangeNil (hg : o.guard = .none) (m : Operand) (t : TypeId) (hop : o.op = Op.range t m) (kt et : TypeId) (ht : P.underlying t = some (.map kt et)) (hm : a.eval m = .map none)
    (hK : wpListIn F n P ops Q rest (a.put o.dst (.pointer (some ⟨w.heap.size, 0, .none⟩))) (w.alloc (.mapIter none 0 #[] 0))) : wpListIn F n P ops Q (o :: rest) a w := by
  refine wpListIn_plain hg fun K' hK' => ?_
  unfold Oper.wpIn
  refine ⟨by simp [Oper.about, hop], ?_⟩
  rw [Oper.semAt_plain F _ _ (by rw [hop]; intro c hc'; cases hc')]
  simp [execOp, hop, hm, run_range_nil ht, Result.andThen]
  exact hK' _ _ hK

theorem wpListIn_nextNil (hg : o.guard = .none) (it : Operand) (hop : o.op = Op.next it false) (r : Nat) (hit : a.eval it = .pointer (some ⟨r, 0, .none⟩)) (h : w.heap[r]? = some (.mapIter none 0 #[] 0))
    (hK : wpListIn F n P ops Q rest (a.put o.dst (.tuple #[.bool false])) w) : wpListIn F n P ops Q (o :: rest) a w := by
  refine wpListIn_plain hg fun K' hK' => ?_
  unfold Oper.wpIn
  refine ⟨by simp [Oper.about, hop], ?_⟩
  rw [Oper.semAt_plain F _ _ (by rw [hop]; intro c hc'; cases hc')]
  simp [execOp, hop, hit, run_next_nil h, Result.andThen]
  exact hK' _ _ hK
end
end Go.Pl
