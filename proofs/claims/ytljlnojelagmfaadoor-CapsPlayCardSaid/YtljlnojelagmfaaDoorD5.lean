/-
  maps.Keys, slices.SortedFunc over a nil map; (*Ladder).All, whatever was set. (Chapter 12.)
-/
import Derived.Test.YtljlnojelagmfaaDoorD4
import Derived.Test.YtljlnojelagmfaaDoorB7
namespace Go.Proofs.YtljlnojelagmfaaDoor
open Go.RowKit Go.Pl Go.Shelf Go.Sort
set_option maxRecDepth 100000

set_option maxHeartbeats 1000000 in
theorem keysNil149_stops (F : Fence) (n : Nat) (h10 : F.fn 149) (hro : F.round = none) (Bm : Nat) (w : World) (hBm : Bm < w.heap.size) (hm : w.cell? ⟨Bm, 0, none⟩ = some (.map none)) :
    SeqStopsK F n Tryd.prog 149 #[.pointer (some ⟨Bm, 0, none⟩)] (fun x : Int × Int => #[ek2 x]) KeepsWalks (fun ks => ks = []) (fun _ => True) 0 w := by
  intro l J Jx W hW hJ _ hY h0
  have hm' : W.cell? ⟨Bm, 0, none⟩ = some (.map none) := (hW.cell (p := ⟨Bm, 0, none⟩) hBm).trans hm
  clear hm hY
  refine callsIn_of_wp Tryd.func149 rfl h10 ?_ hro
  simp only [Tryd.ntmps149, List.size_toArray, List.length_cons, List.length_nil, Nat.reduceAdd, Nat.reduceSub, Array.replicate_succ, Array.replicate_zero, List.push_toArray, List.append_toArray, List.nil_append, List.cons_append]
  have hit := (MapKept.heap_alloc W (.mapIter none 0 #[] 0)).1
  have hJ1 : J [] (W.alloc (.mapIter none 0 #[] 0)) := hJ [] W _ none h0 (World.grownBy_alloc _ _ _) (fun r e => by cases e)
  gi_wp2_with (first
    | (gi_at_range; refine wpListIn_rangeNil rfl _ 24 rfl 28 2 Tryd.underlying24 rfl ?_)
    | gi_in)
  go_frame
  gi_loopw [3] (fun _ wr => wr.heap[W.heap.size]? = some (.mapIter none 0 #[] 0) ∧ J [] wr) (fun _ _ => 0)
  case atStart => exact ⟨hit, hJ1⟩
  case round =>
    obtain ⟨hr, hJ2⟩ := hrel
    gi_wp2_with (first
      | (gi_at_next; refine wpListIn_nextNil rfl _ rfl W.heap.size rfl hr ?_)
      | gi_in)
    go_end0
    exact ⟨⟨_, rfl⟩, .inl ⟨[], rfl, hJ2⟩⟩

set_option maxHeartbeats 1000000 in
theorem sortedFunc78_nil (Bm : Nat) (w : World) (hm : w.cell? ⟨Bm, 0, none⟩ = some (.map none)) :
    Calls Tryd.prog 78 #[.func (.func 149) #[] #[.pointer (some ⟨Bm, 0, none⟩)], .func (.func 80) #[] #[]] w fun e w' => e = .returned (.slice none 0 0) ∧ Chg S0 w w' := by
  have hBm := World.block_lt_of_cell? _ _ hm
  have eg : ∀ args w, (callFunc 149 args).run Tryd.prog w = .ok (.enter 149 args) w := enters_of Tryd.func149 (by kernel_rfl) rfl
  have hcol := callsIn_wide.1 (collect147_in Fence.wide 5 trivial trivial rfl (by decide) 149 #[.pointer (some ⟨Bm, 0, none⟩)] trivial eg _ _ 0 (by unfold maxLen; omega) (by omega) w (keysNil149_stops Fence.wide 3 trivial rfl Bm w hBm hm))
  have H := Lib.hid hcol
  clear hcol
  go_enter Tryd.func78, Tryd.ntmps78
  go_wp2_with (go_at_call 147; refine H.out.mono ?_; rintro e W ⟨v, ss, rfl, rfl, hrow, hnil, hb⟩)
  obtain rfl : v = .slice none 0 0 := by simpa using hnil
  have hno := AnyF.slices_SortFunc_none Tryd.sort148 none 0 (.func (.func 80) #[] #[]) W
  change Calls Tryd.prog 148 _ _ _ at hno
  go_wp2_with (go_at_call 148; refine hno.mono ?_; rintro e w' ⟨rfl, rfl⟩)
  go_ret
  exact ⟨rfl, Chg.of_below0 hb⟩

set_option maxHeartbeats 1000000 in
/-- (*Ladder).All. -/
theorem ladAll (lb : Nat) (m : Option Nat) (fx : Int) (l : List ((Int × Int) × Int)) (w : World) (hL : LadAt w lb m fx l) (hN : l.length ≤ 1000000) :
    Calls Tryd.prog 18 #[.pointer (some ⟨lb, 0, .none⟩)] w fun e w' => ∃ (v : Value) (ks : List (Int × Int)), e = .returned v ∧ SortedKeys w w' v l ks ∧ Chg S0 w w' := by
  cases m with
  | some x => exact ladAll_some lb x fx l w hL hN
  | none =>
    have hl : l = [] := hL.map
    subst hl
    have c0 := hL.cells.cell 0
    simp only [List.getElem?_toArray, List.getElem?_cons_zero] at c0
    have hlt := hL.cells.lt
    have hs := sortedFunc78_nil w.heap.size (w.alloc (.cells #[.map none] 24)) (by simp)
    have H := Lib.hid hs
    clear hs
    go_enter Tryd.func18, Tryd.ntmps18
    go_wp2_with (first
      | (go_at_call 79; refine (mapsKeys79 _ _).mono ?_; rintro e w' ⟨rfl, rfl⟩)
      | (go_at_call 78; refine H.out.mono ?_; rintro e w' ⟨rfl, h4⟩))
    go_ret
    exact ⟨_, [], rfl, ⟨by simp, by simp, rfl, .inl ⟨rfl, rfl⟩⟩, Chg.step ((Chg.refl _ _).alloc _) h4 (fun k hk => hk.elim)⟩
end Go.Proofs.YtljlnojelagmfaaDoor
