/-
  Own base, part 5: ranging over a map, at the walk's operations. Over whatever program.
-/
import Derived.Test.YtljlnojelagmfaaDoorB4
import Derived.Shelf.SlIter.Collect
namespace Go.Pl
open Go.MapKept Go.RowKit

theorem Chg.grown1 {r : Nat} {w w' : World} (h : Chg (S1 r) w w') : w.grownBy w' (some r) :=
  ⟨h.os, h.tape, h.output, h.size, fun k hk hs => h.block k hk (fun e => hs (by rw [show k = r from e]))⟩
theorem Chg.grown0 {w w' : World} (h : Chg S0 w w') : w.grownBy w' .none :=
  ⟨h.os, h.tape, h.output, h.size, fun k hk _ => h.block k hk (fun e => e)⟩
theorem Chg.of_grown0 {w w' : World} (h : w.grownBy w' .none) : Chg S0 w w' :=
  ⟨h.os, h.tape, h.output, h.size, fun k hk _ => h.block k hk (by simp)⟩
theorem Chg.of_grown1 {r : Nat} {w w' : World} (h : w.grownBy w' (some r)) : Chg (S1 r) w w' :=
  ⟨h.os, h.tape, h.output, h.size, fun k hk hs => h.block k hk (fun e => hs (by cases e; rfl))⟩
theorem Chg.of_below0 {w w' : World} (h : Below w.heap.size w w') : Chg S0 w w' :=
  ⟨h.os, h.tape, h.output, h.size, fun k hk _ => h.block k hk⟩

section
variable {α β : Type} {P : Program} {ek : α → Value} {ev : β → Value} {w : World} {ops : Array Oper} {rest : List Oper} {o : Oper} {a : Act} {Q : Exit → Act → World → Prop}

theorem wpList_range (hg : o.guard = .none) (m : Operand) (t : TypeId) (hop : o.op = Op.range t m) (kt et : TypeId) (ht : P.underlying t = some (.map kt et)) (b : Nat) (l : List (α × β)) (hm : a.eval m = .map (some b)) (hM : MapAt ek ev w b l)
    (hK : ∀ w', IterAt ek ev w' b w.heap.size l l → Chg S0 w w' → w'.heap.size = w.heap.size + 1 → wpList P ops Q rest (a.put o.dst (.pointer (some ⟨w.heap.size, 0, .none⟩))) w') : wpList P ops Q (o :: rest) a w := by
  refine wpList_plain hg fun K' hK' => ?_
  obtain ⟨w', hrun, r1, r2, r3⟩ := hM.range ht
  unfold Oper.wp
  simp [execOp, hop, hm, hrun, Result.andThen]
  exact hK' _ _ (hK w' r1 r2 r3)

theorem wpList_next (hg : o.guard = .none) (it : Operand) (hop : o.op = Op.next it false) (b r : Nat) (l left : List (α × β)) (hit : a.eval it = .pointer (some ⟨r, 0, .none⟩)) (h : IterAt ek ev w b r l left)
    (hDone : left = [] → wpList P ops Q rest (a.put o.dst (.tuple #[.bool false])) w)
    (hMore : ∀ pre p post w', left = pre ++ p :: post → IterAt ek ev w' b r l (pre ++ post) → Chg (S1 r) w w' → w'.heap.size = w.heap.size →
      (Instr.entry (.pointer (some ⟨r, 0, .none⟩))).run P w' = .ok (.tuple #[ek p.1, ev p.2]) w' → wpList P ops Q rest (a.put o.dst (.tuple #[.bool true, ek p.1, ev p.2])) w') : wpList P ops Q (o :: rest) a w := by
  refine wpList_plain hg fun K' hK' => ?_
  unfold Oper.wp
  rcases h.next (P := P) o.type with ⟨h0, hrun⟩ | ⟨pre, p, post, w', h0, hrun, r1, r2, r3, r4⟩
  · simp [execOp, hop, hit, hrun, Result.andThen]
    exact hK' _ _ (hDone h0)
  · simp [execOp, hop, hit, hrun, Result.andThen]
    exact hK' _ _ (hMore pre p post w' h0 r1 r2 r3 r4)

variable {F : Fence} {n : Nat}

theorem wpListIn_range (hg : o.guard = .none) (m : Operand) (t : TypeId) (hop : o.op = Op.range t m) (kt et : TypeId) (ht : P.underlying t = some (.map kt et)) (b : Nat) (l : List (α × β)) (hm : a.eval m = .map (some b)) (hM : MapAt ek ev w b l)
    (hK : ∀ w', IterAt ek ev w' b w.heap.size l l → Chg S0 w w' → w'.heap.size = w.heap.size + 1 → wpListIn F n P ops Q rest (a.put o.dst (.pointer (some ⟨w.heap.size, 0, .none⟩))) w') : wpListIn F n P ops Q (o :: rest) a w := by
  refine wpListIn_plain hg fun K' hK' => ?_
  obtain ⟨w', hrun, r1, r2, r3⟩ := hM.range ht
  unfold Oper.wpIn
  refine ⟨by simp [Oper.about, hop], ?_⟩
  rw [Oper.semAt_plain F _ _ (by rw [hop]; intro c hc'; cases hc')]
  simp [execOp, hop, hm, hrun, Result.andThen]
  exact hK' _ _ (hK w' r1 r2 r3)

theorem wpListIn_next (hg : o.guard = .none) (it : Operand) (hop : o.op = Op.next it false) (b r : Nat) (l left : List (α × β)) (hit : a.eval it = .pointer (some ⟨r, 0, .none⟩)) (h : IterAt ek ev w b r l left)
    (hDone : left = [] → wpListIn F n P ops Q rest (a.put o.dst (.tuple #[.bool false])) w)
    (hMore : ∀ pre p post w', left = pre ++ p :: post → IterAt ek ev w' b r l (pre ++ post) → Chg (S1 r) w w' → w'.heap.size = w.heap.size →
      (Instr.entry (.pointer (some ⟨r, 0, .none⟩))).run P w' = .ok (.tuple #[ek p.1, ev p.2]) w' → wpListIn F n P ops Q rest (a.put o.dst (.tuple #[.bool true, ek p.1, ev p.2])) w') : wpListIn F n P ops Q (o :: rest) a w := by
  refine wpListIn_plain hg fun K' hK' => ?_
  unfold Oper.wpIn
  refine ⟨by simp [Oper.about, hop], ?_⟩
  rw [Oper.semAt_plain F _ _ (by rw [hop]; intro c hc'; cases hc')]
  rcases h.next (P := P) o.type with ⟨h0, hrun⟩ | ⟨pre, p, post, w', h0, hrun, r1, r2, r3, r4⟩
  · simp [execOp, hop, hit, hrun, Result.andThen]
    exact hK' _ _ (hDone h0)
  · simp [execOp, hop, hit, hrun, Result.andThen]
    exact hK' _ _ (hMore pre p post w' h0 r1 r2 r3 r4)
end
end Go.Pl
