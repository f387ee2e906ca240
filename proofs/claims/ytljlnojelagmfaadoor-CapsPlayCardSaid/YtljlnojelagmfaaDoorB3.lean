/-
  Own base, part 3: the laws of maps at the walk's operations. Over whatever program.
-/
import Derived.Test.YtljlnojelagmfaaDoorB2
import Derived.StillTailTactics
namespace Go.Pl
open Go.MapKept Go.RowKit

section
variable {α β : Type} [DecidableEq α] {P : Program} {ek : α → Value} {ev : β → Value} {w : World} {ops : Array Oper} {rest : List Oper} {o : Oper} {a : Act} {Q : Exit → Act → World → Prop}

theorem wpList_lookup1 (hg : o.guard = .none) (m x : Operand) (t : TypeId) (hop : o.op = Op.lookup t m x false) (kt et : TypeId) (K : KeyE P kt ek) (ht : P.underlying t = some (.map kt et)) (z : Value) (hz : (zeroValue et).run P w = .ok z w)
    (b : Nat) (l : List (α × β)) (hm : a.eval m = .map (some b)) (hM : MapAt ek ev w b l) (k : α) (hx : a.eval x = ek k)
    (hK : wpList P ops Q rest (a.put o.dst (((lk l k).map ev).getD z)) w) : wpList P ops Q (o :: rest) a w := by
  refine wpList_plain hg fun K' hK' => ?_
  unfold Oper.wp
  simp [execOp, hop, hm, hx, hM.lookup K ht hz k false, Result.andThen]
  exact hK' _ _ hK

theorem wpList_lookup2 (hg : o.guard = .none) (m x : Operand) (t : TypeId) (hop : o.op = Op.lookup t m x true) (kt et : TypeId) (K : KeyE P kt ek) (ht : P.underlying t = some (.map kt et)) (z : Value) (hz : (zeroValue et).run P w = .ok z w)
    (b : Nat) (l : List (α × β)) (hm : a.eval m = .map (some b)) (hM : MapAt ek ev w b l) (k : α) (hx : a.eval x = ek k)
    (hK : wpList P ops Q rest (a.put o.dst (.tuple #[((lk l k).map ev).getD z, .bool (lk l k).isSome])) w) : wpList P ops Q (o :: rest) a w := by
  refine wpList_plain hg fun K' hK' => ?_
  unfold Oper.wp
  simp [execOp, hop, hm, hx, hM.lookup K ht hz k true, Result.andThen]
  exact hK' _ _ hK

theorem wpList_update (hg : o.guard = .none) (m x v : Operand) (t : TypeId) (hop : o.op = Op.mapUpdate t m x v) (kt et : TypeId) (K : KeyE P kt ek) (ht : P.underlying t = some (.map kt et))
    (b : Nat) (l : List (α × β)) (hm : a.eval m = .map (some b)) (hM : MapAt ek ev w b l) (k : α) (y : β) (hx : a.eval x = ek k) (hv : a.eval v = ev y)
    (hK : ∀ w', MapAt ek ev w' b (put l k y) → Chg (S1 b) w w' → wpList P ops Q rest (a.put o.dst undef) w') : wpList P ops Q (o :: rest) a w := by
  refine wpList_plain hg fun K' hK' => ?_
  obtain ⟨w', hrun, r1, r2⟩ := hM.store K ht k y
  unfold Oper.wp
  simp [execOp, hop, hm, hx, hv, hrun, Result.andThen]
  exact hK' _ _ (hK w' r1 r2)

theorem wpList_delete (hg : o.guard = .none) (m x : Operand) (t kt : TypeId) (hop : o.op = Op.call { callee := Callee.builtin Builtin.delete, args := #[m, x], argTypes := #[t, kt] }) (et : TypeId) (K : KeyE P kt ek) (ht : P.underlying t = some (.map kt et))
    (b : Nat) (l : List (α × β)) (hm : a.eval m = .map (some b)) (hM : MapAt ek ev w b l) (k : α) (hx : a.eval x = ek k)
    (hK : ∀ w', MapAt ek ev w' b (del l k) → Chg (S1 b) w w' → wpList P ops Q rest (a.put o.dst (.tuple #[])) w') : wpList P ops Q (o :: rest) a w := by
  refine wpList_plain hg fun K' hK' => ?_
  obtain ⟨w', hrun, r1, r2⟩ := hM.drop K ht k o.type
  unfold Oper.wp
  simp [execOp, hop, resolve, invoke, builtin, hm, hx, hrun, Result.andThen]
  exact hK' _ _ (hK w' r1 r2)

omit [DecidableEq α] in
theorem wpList_maplen (hg : o.guard = .none) (m : Operand) (t : TypeId) (hop : o.op = Op.call { callee := Callee.builtin Builtin.len, args := #[m], argTypes := #[t] }) (kt et : TypeId) (ht : P.underlying t = some (.map kt et))
    (b : Nat) (l : List (α × β)) (hm : a.eval m = .map (some b)) (hM : MapAt ek ev w b l)
    (hK : wpList P ops Q rest (a.put o.dst (.int .i64 l.length)) w) : wpList P ops Q (o :: rest) a w := by
  refine wpList_plain hg fun K' hK' => ?_
  unfold Oper.wp
  simp [execOp, hop, resolve, invoke, builtin, hm, hM.len ht o.type, Result.andThen]
  exact hK' _ _ hK
end

/-- A region that draws its order and whose first n operations only read: in the order of the text. -/
theorem region_tail {P : Program} {id : Nat} {Q : Exit → Act → World → Prop} {a : Act} {w : World} {l : List Oper} (n : Nat) (hm : P.follows .mixedOrders = true) (hB : Region.lexTailB .any l.toArray n = true)
    (h : wpStill P l.toArray w.drew (fun a' => wpList P l.toArray Q (l.drop n) a' w.drew) (l.take n) a) : (Code.region id l.toArray true).wp P Q a w :=
  wp_region_still_tail n hm hB h

/-! ### key types -/
def ekI (n : Int) : Value := .int .i64 n
def ekS (s : ByteArray) : Value := .string s
def ek2 (p : Int × Int) : Value := .agg #[.int .i64 p.1, .int .i64 p.2]
def ek3 (p : Int × Int × Int) : Value := .agg #[.int .i64 p.1, .int .i64 p.2.1, .int .i64 p.2.2]

section
variable {α : Type} [DecidableEq α] {P : Program} {ek : α → Value} {w : World} {ops : Array Oper} {rest : List Oper} {o : Oper} {a : Act} {Q : Exit → Act → World → Prop}

theorem getD_ekI (x : Option Int) : (x.map ekI).getD (.int .i64 0) = .int .i64 (x.getD 0) := by cases x <;> rfl

/-- Look-ups of whole numbers. -/
theorem wpList_lookupI (hg : o.guard = .none) (m x : Operand) (t : TypeId) (hop : o.op = Op.lookup t m x false) (kt et : TypeId) (K : KeyE P kt ek) (ht : P.underlying t = some (.map kt et)) (hz : (zeroValue et).run P w = .ok (.int .i64 0) w)
    (b : Nat) (l : List (α × Int)) (hm : a.eval m = .map (some b)) (hM : MapAt ek ekI w b l) (k : α) (hx : a.eval x = ek k)
    (hK : wpList P ops Q rest (a.put o.dst (.int .i64 ((lk l k).getD 0))) w) : wpList P ops Q (o :: rest) a w :=
  wpList_lookup1 hg m x t hop kt et K ht _ hz b l hm hM k hx (by rw [getD_ekI]; exact hK)

theorem wpList_lookupI2 (hg : o.guard = .none) (m x : Operand) (t : TypeId) (hop : o.op = Op.lookup t m x true) (kt et : TypeId) (K : KeyE P kt ek) (ht : P.underlying t = some (.map kt et)) (hz : (zeroValue et).run P w = .ok (.int .i64 0) w)
    (b : Nat) (l : List (α × Int)) (hm : a.eval m = .map (some b)) (hM : MapAt ek ekI w b l) (k : α) (hx : a.eval x = ek k)
    (hK : wpList P ops Q rest (a.put o.dst (.tuple #[.int .i64 ((lk l k).getD 0), .bool (lk l k).isSome])) w) : wpList P ops Q (o :: rest) a w :=
  wpList_lookup2 hg m x t hop kt et K ht _ hz b l hm hM k hx (by rw [getD_ekI]; exact hK)
end

theorem keyI {P : Program} {kt : TypeId} (h : P.underlying kt = some (.int .i64)) : KeyE P kt ekI :=
  KeyE.plain h ekI (fun _ => rfl) (fun e => by simpa [ekI] using e)

theorem keyS {P : Program} {kt : TypeId} (h : P.underlying kt = some .string) : KeyE P kt ekS :=
  KeyE.plain h ekS (fun _ => trivial) (fun e => by simpa [ekS] using e)

end Go.Pl
