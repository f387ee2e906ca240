/-
  The chapter's examples (first), and the statement CutSteps: its walk. (Chapter 12.)
-/
import Derived.Test.YtljlnojelagmfaaDoorD4
import Derived.Test.YtljlnojelagmfaaDoorA6
namespace Go.Proofs.YtljlnojelagmfaaDoor
open Go.RowKit Go.Pl Go.Shelf Go.Sort
set_option maxRecDepth 100000

theorem LadAt.new (w : World) : LadAt (w.alloc (.cells #[.map none, .int .i64 0] 26)) w.heap.size none 0 [] := ⟨CellsAt.new _ _ _, rfl⟩

theorem Cuts.nil : Cuts [] := fun _ h => by cases h
theorem Cuts.put {l : List ((Int × Int) × Int)} (h : Cuts l) {k : Int × Int} {n : Int} (h0 : 0 ≤ n) (h1 : n ≤ 10000) : Cuts (put l k n) := by
  intro p hp
  unfold Go.Pl.put at hp
  split at hp
  · obtain ⟨q, hq, rfl⟩ := List.mem_map.1 hp
    split
    · exact ⟨h0, h1⟩
    · exact h q hq
  · rcases List.mem_append.1 hp with hp | hp
    · exact h p hp
    · simp at hp
      subst hp
      exact ⟨h0, h1⟩

set_option maxHeartbeats 1000000 in
theorem first12 (w : World) (te : TypeId) (ve : Value) (he : w.cell? ⟨0, 0, none⟩ = some (.iface te ve)) :
    Calls Tryd.prog 14 #[] w fun e w' => e = .returned (.bool true) ∧ Chg S0 w w' := by
  have hz := World.block_lt_of_cell? _ _ he
  have he0 : (w.alloc (.cells #[.map none, .int .i64 0] 26)).cell? ⟨0, 0, none⟩ = some (.iface te ve) := (World.cell?_alloc_past _ _ _ hz).trans he
  have hL0 := LadAt.new w
  have v1 : ladOfV [] 0 ⟨1, 0, 1, 1, 0⟩ 5 = 0 := by decide
  have v2 : ladOfV (put [] (1, 0) 7) 0 ⟨1, 0, 1, 1, 0⟩ 5 = 7 := by decide
  have O1 := ladOf w.heap.size none 0 [] ⟨1, 0, 1, 1, 0⟩ 5 _ _ te ve rfl he0 hL0 Cuts.nil (by decide) (by decide) (by decide)
  have O2 := fun m w' he' hL' => ladOf w.heap.size m 0 (put [] (1, 0) 7) ⟨1, 0, 1, 1, 0⟩ 5 w' _ te ve rfl he' hL' (Cuts.nil.put (by decide) (by decide)) (by decide) (by decide) (by decide)
  rw [v1] at O1
  rw [v2] at O2
  have H1 := Lib.hid O1
  have H2 := Lib.hid O2
  clear O1 O2 v1 v2
  go_enter Tryd.func14, Tryd.ntmps14
  go_wp2_with fail
  refine H1.out.mono ?_
  rintro e w1 ⟨rfl, hc1⟩
  have hL1 := hL0.chg hc1 (fun h => h) (fun _ _ h => h)
  go_wp2_with fail
  refine (ladSet w.heap.size none 0 1 0 7 [] w1 hL1 (by decide) (by decide) (by decide) (by decide) (by decide) (by decide)).mono ?_
  rintro e w2 ⟨rfl, m', hL2, hm, hc2⟩
  have he2 : w2.cell? ⟨0, 0, none⟩ = some (.iface te ve) := hc2.cell (hc1.cell he0 (fun h => h)) (by unfold SL; simp; omega)
  go_wp2_with fail
  refine (H2.out m' w2 he2 hL2).mono ?_
  rintro e w3 ⟨rfl, hc3⟩
  go_wp2_with fail
  go_ret
  refine ⟨rfl, ?_⟩
  exact Chg.step (Chg.step (Chg.step ((Chg.refl _ _).alloc _) hc1 (fun k hk => hk.elim)) hc2 (by unfold SL; simp)) hc3 (fun k hk => hk.elim)
end Go.Proofs.YtljlnojelagmfaaDoor
