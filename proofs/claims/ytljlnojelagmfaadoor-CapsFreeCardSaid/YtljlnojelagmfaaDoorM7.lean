/-
  caps: All; the chapter's examples; CapsFree: its walk. (Chapter 16.)
-/
import Derived.Test.YtljlnojelagmfaaDoorM6
namespace Go.Proofs.YtljlnojelagmfaaDoor
open Go.RowKit Go.Pl Go.Shelf Go.Sort
set_option maxRecDepth 100000

set_option maxHeartbeats 1000000 in
/-- (*caps.Caps).All. -/
theorem capAll43 (tb : Nat) (m : Option Nat) (l : List ((Int × Int) × Int)) (w : World) (hL : TabAt 86 w tb m l) (hN : l.length ≤ 1000000) :
    Calls Tryd.prog 43 #[.pointer (some ⟨tb, 0, .none⟩)] w fun e w' => ∃ (v : Value) (ks : List (Int × Int)), e = .returned v ∧ SortedKeys89 w w' v l ks ∧ Chg S0 w w' := by
  have c0 := hL.cells.cell 0
  simp only [List.getElem?_toArray, List.getElem?_cons_zero] at c0
  have hlt := hL.cells.lt
  cases m with
  | none =>
    have hl : l = [] := hL.map
    subst hl
    have hs := sortedFunc108_nil w.heap.size (w.alloc (.cells #[.map none] 84)) (by simp)
    have H := Lib.hid hs
    clear hs
    go_enter Tryd.func43, Tryd.ntmps43
    go_wp2_with (first
      | (go_at_call 109; refine (mapsKeys109 _ _).mono ?_; rintro e w' ⟨rfl, rfl⟩)
      | (go_at_call 108; refine H.out.mono ?_; rintro e w' ⟨rfl, h4⟩))
    go_ret
    exact ⟨_, [], rfl, ⟨by simp, by simp, rfl, .inl ⟨rfl, rfl⟩⟩, Chg.step ((Chg.refl _ _).alloc _) h4 (fun k hk => hk.elim)⟩
  | some x =>
    have hM : MapAt ek2 ekI w x l := hL.map
    have hs := sortedFunc108 w.heap.size x l (w.alloc (.cells #[.map (some x)] 84)) (by simp) (hM.alloc _) hN
    have H := Lib.hid hs
    clear hs
    go_enter Tryd.func43, Tryd.ntmps43
    go_wp2_with (first
      | (go_at_call 109; refine (mapsKeys109 _ _).mono ?_; rintro e w' ⟨rfl, rfl⟩)
      | (go_at_call 108; refine H.out.mono ?_; rintro e w' ⟨v, ks, rfl, ⟨h1, h2, h3⟩, h4⟩))
    go_ret
    exact ⟨v, ks, rfl, ⟨h1, h2, ownsRow_base_a h3 (by simp)⟩, Chg.step ((Chg.refl _ _).alloc _) h4 (fun k hk => hk.elim)⟩

/-- Sum, of lines of one group. -/
theorem sum42_single (t0 t2 : TypeId) (v0 v2 : Value) (tb : Nat) (m : Option Nat) (l : List ((Int × Int) × Int)) (v : Value) (n : Nat) (D : Nat → Quad) (w : World) (hE0 : w.cell? ⟨0, 0, none⟩ = some (.iface t0 v0)) (hE2 : w.cell? ⟨2, 0, none⟩ = some (.iface t2 v2)) (hL : TabAt 86 w tb m l) (hD : DosAt w v n D) (hn : n ≤ 1000)
    (hf : ∀ j, j < n → fitsB (D j) = true) (g : Grp) (s : Int) (hs : ∀ x, cameTo sameG allN (pairsOf D n) x = if g = x then s else 0) (h1 : 0 ≤ s) (h2 : s ≤ 1000000000000000) :
    Calls Tryd.prog 42 #[.pointer (some ⟨tb, 0, .none⟩), v] w fun e w' => e = .returned (.tuple #[.int .i64 (capG l g s), .nilIface]) ∧ Chg S0 w w' := by
  obtain ⟨k1, k2⟩ := sum_single l (pairsOf D n) g s hs h1 h2
  refine (sum42 t0 t2 v0 v2 tb m l v n D w hE0 hE2 hL hD hn).mono fun e w' ⟨hc, h⟩ => ⟨?_, hc⟩
  rcases h with ⟨k, ab, hk, _, hb, _⟩ | ⟨_, ho, _⟩ | ⟨_, S, hS, rfl⟩
  · rw [hf k hk] at hb; cases hb
  · exact absurd ho k2
  · rw [k1 S hS]

theorem dos1 (w : World) (a b c d : Int) (t : TypeId) : DosAt (w.alloc (.cells #[.int .i64 a, .int .i64 b, .int .i64 c, .int .i64 d] t)) (.slice (some ⟨w.heap.size, 0, none⟩) 1 1) 1 (fun _ => (a, b, c, d)) := by
  refine ⟨_, 1, rfl, Nat.le_refl _, fun k hk => ⟨⟨w.heap.size, 0, none⟩, w.heap.size, 0, none, rfl, ?_, by simp, by simp, by simp, by simp⟩⟩
  obtain rfl : k = 0 := by omega
  simp [Addr.add]
theorem dos2 (w : World) (a b c d : Int) (t : TypeId) : DosAt (w.alloc (.cells #[.int .i64 a, .int .i64 b, .int .i64 c, .int .i64 d, .int .i64 a, .int .i64 b, .int .i64 c, .int .i64 d] t)) (.slice (some ⟨w.heap.size, 0, none⟩) 2 2) 2 (fun _ => (a, b, c, d)) := by
  refine ⟨_, 2, rfl, Nat.le_refl _, fun k hk => ?_⟩
  match k, hk with
  | 0, _ => exact ⟨⟨w.heap.size, 0, none⟩, w.heap.size, 0, none, rfl, by simp [Addr.add], by simp, by simp, by simp, by simp⟩
  | 1, _ => exact ⟨⟨w.heap.size, 0, none⟩, w.heap.size, 4, none, rfl, by simp [Addr.add], by simp, by simp, by simp, by simp⟩

theorem first40 (t0 t2 : TypeId) (v0 v2 : Value) (w : World) (hE0 : w.cell? ⟨0, 0, none⟩ = some (.iface t0 v0)) (hE2 : w.cell? ⟨2, 0, none⟩ = some (.iface t2 v2)) :
    Calls Tryd.prog 40 #[] w fun e w' => e = .returned (.bool true) ∧ Chg S0 w w' := by
  have hz2 := World.block_lt_of_cell? _ _ hE2
  have hset := capSet41 w.heap.size none 3 4 7 [] _ (TabAt.new 86 w) (by unfold LimOk mostV; decide) (by decide)
  have HS := Lib.hid hset
  have hL : tset [] (3, 4) 7 = [((3, 4), 7)] := by decide
  have HL := Lib.hid hL
  have HE0 := Lib.hid hE0
  have HE2 := Lib.hid hE2
  clear hset hL hE0 hE2
  go_enter Tryd.func40, Tryd.ntmps40
  go_wp2_with (go_at_call 41; refine HS.out.mono ?_; rintro e w1 ⟨rfl, m', hT1, hm1, hc1⟩; have hs1 := hc1.size; have HC1 := Lib.hid (Chg.step ((Chg.refl S0 w).alloc _) hc1 (fun k hk => by rcases hk with hk | hk; exact .inr (by omega); cases hk)); have HT1 := Lib.hid (HL.out ▸ hT1); clear hc1 hT1 hm1)
  have hW : Chg S0 w1 ((w1.alloc (.cells #[.int .i64 2, .int .i64 1, .int .i64 4, .int .i64 5] 91)).alloc (.cells #[.int .i64 2, .int .i64 1, .int .i64 4, .int .i64 5, .int .i64 2, .int .i64 1, .int .i64 4, .int .i64 5] 91)) := ((Chg.refl _ _).alloc _).alloc _
  have hd := dos2 (w1.alloc (.cells #[.int .i64 2, .int .i64 1, .int .i64 4, .int .i64 5] 91)) 2 1 4 5 91
  simp only [World.size_alloc] at hd
  have hsum := sum42_single t0 t2 v0 v2 w.heap.size (some m') [((3, 4), 7)] _ 2 (fun _ => (2, 1, 4, 5)) _ (hW.cell (HC1.out.cell HE0.out (fun h => h)) (fun h => h)) (hW.cell (HC1.out.cell HE2.out (fun h => h)) (fun h => h)) (HT1.out.chg hW (fun h => h) (fun _ _ h => h)) hd (by decide) (fun _ _ => by decide) (2, 1, 4) 10
    (fun x => by by_cases e : (2, 1, 4) = x <;> simp [cameTo, pairsOf, pairOf, sameG, allN, List.range_succ, e, sumI]) (by decide) (by decide)
  have hv : capG [((3, 4), 7)] (2, 1, 4) 10 = 7 := by decide
  rw [hv] at hsum
  have HSum := Lib.hid hsum
  have HW := Lib.hid hW
  clear hsum hd hv hW
  go_wp2_with (go_at_call 42; refine HSum.out.mono ?_; rintro e w2 ⟨rfl, hc2⟩)
  go_ret
  exact ⟨rfl, Chg.step (Chg.step HC1.out HW.out (fun _ h => h.elim)) hc2 (fun _ h => h.elim)⟩
end Go.Proofs.YtljlnojelagmfaaDoor
