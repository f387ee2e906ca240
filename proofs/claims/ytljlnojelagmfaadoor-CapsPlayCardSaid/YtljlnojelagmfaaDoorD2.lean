/-
  slices.AppendSeq and slices.Collect over an iterator of two-cell structs. (Chapter 12.)
-/
import Derived.Test.YtljlnojelagmfaaDoorD1
import Derived.RangeFuncCalls
import Derived.RangeFuncLeaves
import Derived.OwnWalkIn
import Derived.TacticsInMore
import Derived.LoopNIn
import Derived.LoopIn
import Derived.Maps.AppendAt
namespace Go.Proofs.YtljlnojelagmfaaDoor
open Go.RowKit Go.Pl Go.Shelf
set_option maxRecDepth 100000
attribute [local go_sem] Oper.semAt_some

/-- The cells of pairs. -/
def cells2 (ks : List (Int × Int)) : List Value := ks.flatMap fun p => [.int .i64 p.1, .int .i64 p.2]
theorem cells2_length (ks : List (Int × Int)) : (cells2 ks).length = ks.length * 2 := by
  induction ks with
  | nil => rfl
  | cons p ks ih => simp only [cells2, List.flatMap_cons, List.length_append] at ih ⊢; simp [ih]; omega
theorem cells2_snoc (ks : List (Int × Int)) (p : Int × Int) : cells2 (ks ++ [p]) = cells2 ks ++ [.int .i64 p.1, .int .i64 p.2] := by simp [cells2]

/-- What a new block holds, cell by cell. -/
theorem cells_new (w : World) (cs : List Value) (t : TypeId) : ∀ (j : Nat) (u : Value), cs[j]? = some u → (w.alloc (.cells cs.toArray t)).cell? ((⟨w.heap.size, 0, none⟩ : Addr).add j) = some u := by
  intro j u h
  have e : (⟨w.heap.size, 0, none⟩ : Addr).add j = ⟨w.heap.size, j, none⟩ := by
    unfold Addr.add
    split
    · rename_i h0; subst h0; rfl
    · simp
  have e2 := World.cell?_alloc_at (w := w) cs.toArray t w.heap.size j rfl
  rw [e]
  rw [e2]
  simpa using h

theorem info28 : (Tryd.prog.info? 28).map (fun i => (i.zero, i.size, i.bytes)) = some (some (.agg #[.int .i64 0, .int .i64 0]), 2, 16) := by kernel_rfl

set_option maxHeartbeats 2000000 in
theorem appendSeq193_in (F : Fence) (n : Nat) (h11 : F.fn 193) (hro : F.round = none) (hn : 2 ≤ n) (g : Nat) (lb : Array Value) (hFg : F.fn g) (eg : ∀ args w, (callFunc g args).run Tryd.prog w = .ok (.enter g args) w)
    (S Sp : List (Int × Int) → Prop) (N : Nat) (hN : N ≤ maxLen) (hNb : N * 16 ≤ 140737488355328) (w : World) (hseq : SeqStopsK F (n - 1) Tryd.prog g lb (fun x => #[ek2 x]) KeepsWalks S Sp N w) :
    CallsIn F n Tryd.prog 193 #[.slice none 0 0, .func (.func g) #[] lb] w fun e w' => ∃ (v : Value) (ss : List (Int × Int)), e = .returned v ∧ S ss ∧ w'.ownsRow w.heap.size 28 2 v ss.length (cells2 ss) ∧ (v = .slice none 0 0 ↔ ss = []) ∧ Below w.heap.size w w' := by
  have h1 : 1 ≤ n := by omega
  obtain ⟨i0, hi, hz0, hz1, hz2⟩ := info_parts info28
  refine callsIn_of_wp_marks Tryd.func193 rfl h11 ?_ hro
  simp only [Tryd.ntmps193, List.size_toArray, List.length_cons, List.length_nil, Nat.reduceAdd, Nat.reduceSub, Array.replicate_succ, Array.replicate_zero, List.push_toArray, List.append_toArray, List.nil_append, List.cons_append]
  gi_wp2
  obtain ⟨W0, hW0⟩ : ∃ W0, w.alloc (.cells #[.slice none 0 0] 33) = W0 := ⟨_, rfl⟩
  have hs0 : W0.heap.size = w.heap.size + 1 := by rw [← hW0]; simp
  have hv0 : Boxed W0 w.heap.size 33 (.slice none 0 0) := by rw [← hW0]; exact Boxed.new w _ _
  have hb0 : Below w.heap.size w W0 := by rw [← hW0]; exact (Below.refl _ w).alloc (Nat.le_refl _) _
  rw [hW0]
  clear hW0
  refine wpIn_rangeFunc_ownH (Kp := KeepsWalks) hro h1 (gf := g) (lb := lb) rfl hFg eg hseq walksK_t walksK_b hb0 (fun _ => rfl)
    (fun pre W => (∃ v, Boxed W w.heap.size 33 v ∧ W.ownsRow w.heap.size 28 2 v pre.length (cells2 pre) ∧ (v = .slice none 0 0 ↔ pre = [])) ∧ Below w.heap.size w W) (fun _ _ _ => False)
    (OwnFrom.and (Own.from (holdsRow_own w.heap.size w.heap.size 33 28 2 _ _ _) _) (ownFrom_below (Nat.le_refl _) (by omega))) (fun _ => fun _ _ _ _ h _ _ => h) ⟨⟨_, hv0, ⟨rfl, .inl ⟨rfl, rfl⟩⟩, by simp⟩, hb0⟩
    (fun x a' W => ∃ Bx, w.heap.size < Bx ∧ CellsAt W Bx #[.int .i64 x.1, .int .i64 x.2] 28 ∧ a' = { tmps := #[.slice none 0 0, .func (.func g) #[] lb, .pointer (some ⟨w.heap.size, 0, none⟩), undef, .slice none 0 0, .pointer (some ⟨Bx, 0, none⟩), .func (.func g) #[] lb, ek2 x, undef, undef, undef, undef, undef], defers := [] })
    (fun x a' s A B row ⟨Bx, h1, h2, h3⟩ hg hr => ⟨Bx, h1, (hg.block Bx h2.lt (fun e => by obtain ⟨_, o, ho, hc⟩ := hr Bx e.symm; rw [show A.heap[Bx]? = _ from h2] at ho; cases ho; cases hc)).trans h2, h3⟩) ?assign ?body ?done ?stop
  case assign =>
    rintro l pre x W K ⟨⟨v, hv, hrow, hnil⟩, hB⟩ hK
    obtain ⟨x1, x2⟩ := x
    simp only [ek2] at *
    have HK := Lib.hid hK
    clear hK
    gi_wp2
    refine HK.out _ _ ((KeepsOthers.alloc _ _).from _) (KeepsWalks.alloc _ _) ⟨⟨v, hv.alloc _, hrow.alloc _, hnil⟩, hB.alloc hB.size _⟩ ⟨W.heap.size, hv.lt, CellsAt.new _ _ _, rfl⟩
  case body =>
    rintro l pre x a' W hl ⟨r, hr⟩ ⟨⟨v, hv, hrow, hnil⟩, hB⟩ ⟨Bx, hBx, bX, rfl⟩ hlt
    obtain ⟨x1, x2⟩ := x
    have q0 := hv.cell
    have q1 := hv.frozen
    have q2 := bX.cell 0
    have q3 := bX.cell 1
    simp at q2 q3
    have hcl := cells2_length pre
    have hBs := hB.size
    have hnew := cells_new W [.int .i64 x1, .int .i64 x2] 28
    gi_wp2_with (first
      | (gi_at_builtin; refine wpListIn_append_own _ rfl _ _ 33 rfl w.heap.size 28 i0 (.agg #[.int .i64 0, .int .i64 0]) 2 16 Tryd.underlying33 hi hz0 hz1 hz2 rfl (by decide) v pre.length (cells2 pre) rfl (hrow.alloc _) ⟨W.heap.size, 0, none⟩ 1 1 [.int .i64 x1, .int .i64 x2] rfl rfl hnew (by simp [Value.oneCell']) (by omega) (by omega) (by simp; omega) ?_; intro v' w1 hown' hgrow _; obtain ⟨g', cap', rfl⟩ := ownsRow_succ hown'; obtain ⟨hv1, hv2, hr2, hk2, hb2⟩ := hv.appended (by decide) hrow hB.size (Nat.le_refl _) hown' hgrow; have hc1 := hv1.cell; have hf1 := hv1.frozen)
      | gi_in)
    exact ⟨hk2.from _, hk2.walks, ⟨_, hv2, by simpa [cells2_snoc] using hr2, by simp⟩, hB.trans hb2⟩
  case done =>
    rintro D ys W hD hS ⟨⟨v, hv, hrow, hnil⟩, hB⟩ hK
    have q0 := hv.cell
    gi_wp2
    refine ⟨by simp, .inl ⟨_, _, rfl, run_takeDeferred hK, ?_⟩⟩
    exact ⟨_, results_tmp rfl _ _ _, v, ys, rfl, hS, ownsRow_putObj hrow _ hK rfl, hnil, hB.trans ((Below.refl _ _).grown (grownBy_putObj' _ D (.deferred none)) hB.size (fun k e => by cases e; omega))⟩
  case stop =>
    intro D c pre W _ _ h
    exact h.elim

set_option maxHeartbeats 1000000 in
theorem collect147_in (F : Fence) (n : Nat) (h8 : F.fn 147) (h11 : F.fn 193) (hro : F.round = none) (hn : 3 ≤ n) (g : Nat) (lb : Array Value) (hFg : F.fn g) (eg : ∀ args w, (callFunc g args).run Tryd.prog w = .ok (.enter g args) w)
    (S Sp : List (Int × Int) → Prop) (N : Nat) (hN : N ≤ maxLen) (hNb : N * 16 ≤ 140737488355328) (w : World) (hseq : SeqStopsK F (n - 1 - 1) Tryd.prog g lb (fun x => #[ek2 x]) KeepsWalks S Sp N w) :
    CallsIn F n Tryd.prog 147 #[.func (.func g) #[] lb] w fun e w' => ∃ (v : Value) (ss : List (Int × Int)), e = .returned v ∧ S ss ∧ w'.ownsRow w.heap.size 28 2 v ss.length (cells2 ss) ∧ (v = .slice none 0 0 ↔ ss = []) ∧ Below w.heap.size w w' := by
  have h1 : 1 ≤ n := by omega
  refine callsIn_of_wp Tryd.func147 rfl h8 ?_ hro
  simp only [Tryd.ntmps147, List.size_toArray, List.length_cons, List.length_nil, Nat.reduceAdd, Nat.reduceSub, Array.replicate_succ, Array.replicate_zero, List.push_toArray, List.append_toArray, List.nil_append, List.cons_append]
  gi_wp2_with (gi_at_call 193; refine (appendSeq193_in F (n - 1) h11 hro (by omega) g lb hFg eg S Sp N hN hNb _ hseq).mono ?_; rintro e w' ⟨v, ss, rfl, hS, hrow, hnil, hb⟩)
  go_ret
  exact ⟨v, ss, rfl, hS, hrow, hnil, hb⟩

end Go.Proofs.YtljlnojelagmfaaDoor
