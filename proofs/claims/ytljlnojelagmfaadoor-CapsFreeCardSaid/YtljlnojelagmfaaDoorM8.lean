/-
  CapsFree: its walk. (Chapter 16. Printed by wip/gen_free.py.)
-/
import Derived.Test.YtljlnojelagmfaaDoorM7
namespace Go.Proofs.YtljlnojelagmfaaDoor
open Go.RowKit Go.Pl
set_option maxRecDepth 100000

theorem one_at (g : Grp) (x : Int) (y : Grp) : cameTo sameG allN (pairsOf (fun _ => (g.1, g.2.1, g.2.2, x)) 1) y = if g = y then x else 0 := by
  obtain ⟨a, b, c⟩ := g
  by_cases e : (a, b, c) = y <;> simp [cameTo, pairsOf, pairOf, sameG, allN, List.range_succ, e, sumI]
/-- The lines' places in memory. -/
structure TwoLines (w : World) (a b : Nat) (x : Int) : Prop where
  a0 : w.cell? ⟨a, 0, none⟩ = some (.int .i64 2)
  a1 : w.cell? ⟨a, 1, none⟩ = some (.int .i64 2)
  a2 : w.cell? ⟨a, 2, none⟩ = some (.int .i64 3)
  a3 : w.cell? ⟨a, 3, none⟩ = some (.int .i64 x)
  b0 : w.cell? ⟨b, 0, none⟩ = some (.int .i64 2)
  b1 : w.cell? ⟨b, 1, none⟩ = some (.int .i64 2)
  b2 : w.cell? ⟨b, 2, none⟩ = some (.int .i64 0)
  b3 : w.cell? ⟨b, 3, none⟩ = some (.int .i64 x)
theorem TwoLines.chg {w w' : World} {a b : Nat} {x : Int} {S : Nat → Prop} (h : TwoLines w a b x) (hc : Chg S w w') (ha : ¬ S a) (hb : ¬ S b) : TwoLines w' a b x :=
  ⟨hc.cell h.a0 ha, hc.cell h.a1 ha, hc.cell h.a2 ha, hc.cell h.a3 ha, hc.cell h.b0 hb, hc.cell h.b1 hb, hc.cell h.b2 hb, hc.cell h.b3 hb⟩


set_option maxHeartbeats 8000000 in
theorem capsFree_pos (t0 t2 : TypeId) (v0 v2 : Value) (v limit : Int) (w : World) (hE0 : w.cell? ⟨0, 0, none⟩ = some (.iface t0 v0)) (hE2 : w.cell? ⟨2, 0, none⟩ = some (.iface t2 v2)) (hv1 : -9223372036854775808 ≤ v) (hv2 : v ≤ 9223372036854775807) (hl1 : 0 < limit) (hl2 : limit ≤ 1000000000000000) :
    Calls Tryd.prog 6 #[.int .i64 v, .int .i64 limit] w fun e w' => e = .returned (.bool true) ∧ Chg S0 w w' := by
  have ha : amtB limit = true := by simp [amtB]; omega
  have hL1 : tset [] (3, 3) limit = [((3, 3), limit)] := by unfold tset; rw [if_neg (by omega)]; simp [put, lk]
  have hL2 : tset [((3, 3), limit)] (3, 3) 0 = [] := by simp [tset, put, lk, del]
  have hva : ∀ x, capG [((3, 3), limit)] (2, 2, 3) x = min x limit := fun x => by simp [capG, gL, lk, capV, hl1]
  have hvb : ∀ x, capG [((3, 3), limit)] (2, 2, 0) x = x := fun x => by simp [capG, gL, lk, capV]
  have hd0 : decide (0 < limit) = true := by simpa using hl1
  have hNIL : True := trivial
  have hz := World.block_lt_of_cell? _ _ hE2
  have hk : ∀ x, capG [] (2, 2, 3) x = x := fun x => by simp [capG, gL, lk, capV]
  have hf := first40 t0 t2 v0 v2 w hE0 hE2
  have HF := Lib.hid hf
  have HE0 := Lib.hid hE0
  have HE2 := Lib.hid hE2
  have HL2 := Lib.hid hL2
  have Hva := Lib.hid hva
  have Hvb := Lib.hid hvb
  have Hk := Lib.hid hk
  have HL1 := Lib.hid hL1
  have Ha := Lib.hid ha
  clear hf hE0 hE2 hL2 hva hvb hk hL1 ha
  rcases Int.lt_or_le v 0 with hneg | hneg
  all_goals
    go_enter Tryd.func6, Tryd.ntmps6
    go_wp2_with (go_at_call 40; refine HF.out.mono ?_; rintro e w1 ⟨rfl, hc1⟩; have HC1 := Lib.hid hc1; clear hc1)
    first
      | (have hx1 : 0 ≤ v % 1000000 ∧ v % 1000000 < 1000000 := by omega
         have hgo : 0 ≤ v := hneg
         obtain ⟨x, hx⟩ : ∃ x, v % 1000000 = x := ⟨_, rfl⟩
         rw [hx] at hx1 ⊢)
      | (have hx1 : 0 ≤ -(v + 1).tmod 1000000 ∧ -(v + 1).tmod 1000000 < 1000000 := by
           have e1 : -(v + 1).tmod 1000000 = (-(v + 1)) % 1000000 := by rw [← Int.neg_tmod, Int.tmod_eq_emod_of_nonneg (by omega)]
           omega
         obtain ⟨x, hx⟩ : ∃ x, -(v + 1).tmod 1000000 = x := ⟨_, rfl⟩
         rw [hx] at hx1 ⊢)
    have Hx := Lib.hid hx
    clear hx
    obtain ⟨hx1, hx2⟩ := hx1
    have hz1 := HC1.out.size
    have hset := fun W (hT : TabAt 86 W w1.heap.size none []) => capSet41 w1.heap.size none 3 3 limit [] W hT (by unfold LimOk mostV; decide) Ha.out
    have HS := Lib.hid hset
    clear hset
    go_wp2_with fail
    refine (HS.out _ (TabAt.new 86 w1)).mono ?_
    rintro e w2 ⟨rfl, m2, hT2, hm2, hc2⟩
    rw [HL1.out] at hT2
    have hm2' : w1.heap.size ≤ m2 := by rcases hm2 with h | h; cases h; simp at h; omega
    have hs2 := hc2.size
    simp only [World.size_alloc] at hs2
    have C2 := Lib.hid (Chg.step (HC1.out.alloc _) hc2 (SL_out HC1.out.size (fun x hx => by cases hx)))
    have T2 := Lib.hid (show TabAt 86 w2 w1.heap.size (some m2) [((3, 3), limit)] from hT2)
    obtain ⟨mm, hmm⟩ : ∃ mm, some m2 = mm := ⟨_, rfl⟩
    have hmo : ∀ x, mm = some x → w1.heap.size ≤ x := fun x hx => by rw [← hmm] at hx; cases hx; exact hm2'
    rw [hmm] at T2
    clear hc2 hT2 hm2 hm2' hmm
    go_wp2_with fail
    refine (capSet41_bad w1.heap.size 3 0 limit _ _ (C2.out.cell HE0.out (fun h => h)) (fun h => by have := h.1.1; omega)).mono ?_
    rintro e w3 ⟨rfl, hc3⟩
    have hs3 := hc3.size
    have C3 := Lib.hid (Chg.step C2.out hc3 (fun _ h => h.elim))
    have T3 := Lib.hid (T2.out.chg hc3 (fun h => h) (fun _ _ h => h))
    clear hc3
    obtain ⟨w3a, hw3a⟩ : ∃ W, ((w3.alloc (.cells #[.int .i64 2, .int .i64 2, .int .i64 3, .int .i64 x] 91)).alloc (.cells #[.int .i64 2, .int .i64 2, .int .i64 0, .int .i64 x] 91)) = W := ⟨_, rfl⟩
    have hc3a : Chg S0 w3 w3a := by rw [← hw3a]; exact ((Chg.refl _ _).alloc _).alloc _
    have hTL : TwoLines w3a w3.heap.size (w3.heap.size + 1) x := by rw [← hw3a]; exact ⟨by simp [go_sem], by simp [go_sem], by simp [go_sem], by simp [go_sem], by simp [go_sem], by simp [go_sem], by simp [go_sem], by simp [go_sem]⟩
    have hs3a : w3a.heap.size = w3.heap.size + 1 + 1 := by rw [← hw3a]; simp
    have C3a := Lib.hid (Chg.step C3.out hc3a (fun _ h => h.elim))
    have T3a := Lib.hid (T3.out.chg hc3a (fun h => h) (fun _ _ h => h))
    have hsum1 := fun W (hc : Chg S0 w3a W) v (hd : DosAt W v 1 (fun _ => (2, 2, 3, x))) => sum42_single t0 t2 v0 v2 w1.heap.size mm [((3, 3), limit)] v 1 (fun _ => (2, 2, 3, x)) W (hc.cell (C3a.out.cell HE0.out (fun h => h)) (fun h => h)) (hc.cell (C3a.out.cell HE2.out (fun h => h)) (fun h => h)) (T3a.out.chg hc (fun h => h) (fun _ _ h => h)) hd (by decide) (fun _ _ => by simp [fitsB, amtB]; omega) (2, 2, 3) x (one_at (2, 2, 3) x) hx1 (by omega)
    have hsum2 := fun W (hc : Chg S0 w3a W) v (hd : DosAt W v 1 (fun _ => (2, 2, 0, x))) => sum42_single t0 t2 v0 v2 w1.heap.size mm [((3, 3), limit)] v 1 (fun _ => (2, 2, 0, x)) W (hc.cell (C3a.out.cell HE0.out (fun h => h)) (fun h => h)) (hc.cell (C3a.out.cell HE2.out (fun h => h)) (fun h => h)) (T3a.out.chg hc (fun h => h) (fun _ _ h => h)) hd (by decide) (fun _ _ => by simp [fitsB, amtB]; omega) (2, 2, 0) x (one_at (2, 2, 0) x) hx1 (by omega)
    have HS1 := Lib.hid hsum1
    have HS2 := Lib.hid hsum2
    have TL := Lib.hid hTL
    have Hs3a := Lib.hid hs3a
    have hml : ∀ x, mm = some x → x < w3.heap.size := fun x hx => T3.out.map.lt x hx
    have hnS : ∀ k, w3.heap.size ≤ k → ¬ SL w1.heap.size mm k := fun k hk h => by
      rcases h with h | h
      · omega
      · have := hml k h; omega
    clear hsum1 hsum2 hTL hs3a
    obtain ⟨a0, a1, a2, a3, b0, b1, b2, b3⟩ := TL.out
    go_wp2_with fail
    refine (HS1.out _ ((Chg.refl _ _).alloc _) _ (dos1 w3a 2 2 3 x 91)).mono ?_
    rintro e w4 ⟨rfl, hc4⟩
    rw [Hva.out]
    have D4 := Lib.hid (Chg.step ((Chg.refl S0 w3a).alloc _) hc4 (fun _ h => h.elim))
    clear hc4 a0 a1 a2 a3 b0 b1 b2 b3
    obtain ⟨a0, a1, a2, a3, b0, b1, b2, b3⟩ := TL.out.chg D4.out (fun h => h) (fun h => h)
    go_wp2_with fail
    refine (HS2.out _ (D4.out.alloc _) _ (dos1 w4 2 2 0 x 91)).mono ?_
    rintro e w5 ⟨rfl, hc5⟩
    rw [Hvb.out]
    have D5 := Lib.hid (Chg.step (D4.out.alloc _) hc5 (fun _ h => h.elim))
    clear hc5 a0 a1 a2 a3 b0 b1 b2 b3
    go_wp2_with fail
    refine (capSet41 w1.heap.size mm 3 3 0 [((3, 3), limit)] w5 (T3a.out.chg D5.out (fun h => h) (fun _ _ h => h)) (by unfold LimOk mostV; decide) (by decide)).mono ?_
    rintro e w6 ⟨rfl, m6, hT6, hm6, hc6⟩
    rw [HL2.out] at hT6
    have hz5 := D5.out.size
    have hz3 := Hs3a.out
    have C6 := Lib.hid (Chg.step (Chg.step C3a.out D5.out (fun _ h => h.elim)) hc6 (SL_out hz1 (fun y hy => Nat.le_trans hz1 (hmo y hy))))
    have TL6 := Lib.hid ((TL.out.chg D5.out (fun h => h) (fun h => h)).chg hc6 (hnS _ (by omega)) (hnS _ (by omega)))
    have T6 := Lib.hid hT6
    clear hc6 hT6 hm6 hz3
    have hsum3 := fun W (hc : Chg S0 w6 W) v (hd : DosAt W v 1 (fun _ => (2, 2, 3, x))) => sum42_single t0 t2 v0 v2 w1.heap.size (some m6) [] v 1 (fun _ => (2, 2, 3, x)) W (hc.cell (C6.out.cell HE0.out (fun h => h)) (fun h => h)) (hc.cell (C6.out.cell HE2.out (fun h => h)) (fun h => h)) (T6.out.chg hc (fun h => h) (fun _ _ h => h)) hd (by decide) (fun _ _ => by simp [fitsB, amtB]; omega) (2, 2, 3) x (one_at (2, 2, 3) x) hx1 (by omega)
    have HS3 := Lib.hid hsum3
    clear hsum3
    obtain ⟨a0, a1, a2, a3, b0, b1, b2, b3⟩ := TL6.out
    go_wp2_with fail
    refine (HS3.out _ ((Chg.refl _ _).alloc _) _ (dos1 w6 2 2 3 x 91)).mono ?_
    rintro e w7 ⟨rfl, hc7⟩
    rw [Hk.out]
    have D7 := Lib.hid (Chg.step ((Chg.refl S0 w6).alloc _) hc7 (fun _ h => h.elim))
    clear hc7 a0 a1 a2 a3 b0 b1 b2 b3
    go_wp2_with fail
    refine (capAll43 w1.heap.size (some m6) [] w7 (T6.out.chg D7.out (fun h => h) (fun _ _ h => h)) (by decide)).mono ?_
    rintro e w8 ⟨vs, ks, rfl, ⟨hpm, _, hown⟩, hc8⟩
    have hks : ks = [] := by simpa using hpm
    subst hks
    obtain ⟨q, cp, rfl⟩ : ∃ q cp, vs = .slice q 0 cp := by
      rcases hown.2 with ⟨h, _⟩ | ⟨g, cap, cur, h, _⟩
      · exact ⟨none, 0, h⟩
      · exact ⟨_, cap, h⟩
    clear hown hpm
    go_wp2_with fail
    go_ret
    exact ⟨by simp, Chg.step (Chg.step C6.out D7.out (fun _ h => h.elim)) hc8 (fun _ h => h.elim)⟩


set_option maxHeartbeats 8000000 in
theorem capsFree_zero (t0 t2 : TypeId) (v0 v2 : Value) (v : Int) (w : World) (hE0 : w.cell? ⟨0, 0, none⟩ = some (.iface t0 v0)) (hE2 : w.cell? ⟨2, 0, none⟩ = some (.iface t2 v2)) (hv1 : -9223372036854775808 ≤ v) (hv2 : v ≤ 9223372036854775807)  :
    Calls Tryd.prog 6 #[.int .i64 v, .int .i64 0] w fun e w' => e = .returned (.bool true) ∧ Chg S0 w w' := by
  have ha : amtB 0 = true := by decide
  have hL1 : tset [] (3, 3) 0 = [] := by decide
  have hL2 : tset [] (3, 3) 0 = [] := by decide
  have hva : ∀ x, capG [] (2, 2, 3) x = x := fun x => by simp [capG, gL, lk, capV]
  have hvb : ∀ x, capG [] (2, 2, 0) x = x := fun x => by simp [capG, gL, lk, capV]
  have hz := World.block_lt_of_cell? _ _ hE2
  have hk : ∀ x, capG [] (2, 2, 3) x = x := fun x => by simp [capG, gL, lk, capV]
  have hf := first40 t0 t2 v0 v2 w hE0 hE2
  have HF := Lib.hid hf
  have HE0 := Lib.hid hE0
  have HE2 := Lib.hid hE2
  have HL2 := Lib.hid hL2
  have Hva := Lib.hid hva
  have Hvb := Lib.hid hvb
  have Hk := Lib.hid hk
  have HL1 := Lib.hid hL1
  have Ha := Lib.hid ha
  clear hf hE0 hE2 hL2 hva hvb hk hL1 ha
  rcases Int.lt_or_le v 0 with hneg | hneg
  all_goals
    go_enter Tryd.func6, Tryd.ntmps6
    go_wp2_with (go_at_call 40; refine HF.out.mono ?_; rintro e w1 ⟨rfl, hc1⟩; have HC1 := Lib.hid hc1; clear hc1)
    first
      | (have hx1 : 0 ≤ v % 1000000 ∧ v % 1000000 < 1000000 := by omega
         have hgo : 0 ≤ v := hneg
         obtain ⟨x, hx⟩ : ∃ x, v % 1000000 = x := ⟨_, rfl⟩
         rw [hx] at hx1 ⊢)
      | (have hx1 : 0 ≤ -(v + 1).tmod 1000000 ∧ -(v + 1).tmod 1000000 < 1000000 := by
           have e1 : -(v + 1).tmod 1000000 = (-(v + 1)) % 1000000 := by rw [← Int.neg_tmod, Int.tmod_eq_emod_of_nonneg (by omega)]
           omega
         obtain ⟨x, hx⟩ : ∃ x, -(v + 1).tmod 1000000 = x := ⟨_, rfl⟩
         rw [hx] at hx1 ⊢)
    have Hx := Lib.hid hx
    clear hx
    obtain ⟨hx1, hx2⟩ := hx1
    have hz1 := HC1.out.size
    have hset := fun W (hT : TabAt 86 W w1.heap.size none []) => capSet41 w1.heap.size none 3 3 0 [] W hT (by unfold LimOk mostV; decide) Ha.out
    have HS := Lib.hid hset
    clear hset
    go_wp2_with fail
    refine (HS.out _ (TabAt.new 86 w1)).mono ?_
    rintro e w2 ⟨rfl, m2, hT2, hm2, hc2⟩
    rw [HL1.out] at hT2
    have hm2' : w1.heap.size ≤ m2 := by rcases hm2 with h | h; cases h; simp at h; omega
    have hs2 := hc2.size
    simp only [World.size_alloc] at hs2
    have C2 := Lib.hid (Chg.step (HC1.out.alloc _) hc2 (SL_out HC1.out.size (fun x hx => by cases hx)))
    have T2 := Lib.hid (show TabAt 86 w2 w1.heap.size (some m2) [] from hT2)
    obtain ⟨mm, hmm⟩ : ∃ mm, some m2 = mm := ⟨_, rfl⟩
    have hmo : ∀ x, mm = some x → w1.heap.size ≤ x := fun x hx => by rw [← hmm] at hx; cases hx; exact hm2'
    rw [hmm] at T2
    clear hc2 hT2 hm2 hm2' hmm
    go_wp2_with fail
    refine (capSet41_bad w1.heap.size 3 0 0 _ _ (C2.out.cell HE0.out (fun h => h)) (fun h => by have := h.1.1; omega)).mono ?_
    rintro e w3 ⟨rfl, hc3⟩
    have hs3 := hc3.size
    have C3 := Lib.hid (Chg.step C2.out hc3 (fun _ h => h.elim))
    have T3 := Lib.hid (T2.out.chg hc3 (fun h => h) (fun _ _ h => h))
    clear hc3
    obtain ⟨w3a, hw3a⟩ : ∃ W, ((w3.alloc (.cells #[.int .i64 2, .int .i64 2, .int .i64 3, .int .i64 x] 91)).alloc (.cells #[.int .i64 2, .int .i64 2, .int .i64 0, .int .i64 x] 91)) = W := ⟨_, rfl⟩
    have hc3a : Chg S0 w3 w3a := by rw [← hw3a]; exact ((Chg.refl _ _).alloc _).alloc _
    have hTL : TwoLines w3a w3.heap.size (w3.heap.size + 1) x := by rw [← hw3a]; exact ⟨by simp [go_sem], by simp [go_sem], by simp [go_sem], by simp [go_sem], by simp [go_sem], by simp [go_sem], by simp [go_sem], by simp [go_sem]⟩
    have hs3a : w3a.heap.size = w3.heap.size + 1 + 1 := by rw [← hw3a]; simp
    have C3a := Lib.hid (Chg.step C3.out hc3a (fun _ h => h.elim))
    have T3a := Lib.hid (T3.out.chg hc3a (fun h => h) (fun _ _ h => h))
    have hsum1 := fun W (hc : Chg S0 w3a W) v (hd : DosAt W v 1 (fun _ => (2, 2, 3, x))) => sum42_single t0 t2 v0 v2 w1.heap.size mm [] v 1 (fun _ => (2, 2, 3, x)) W (hc.cell (C3a.out.cell HE0.out (fun h => h)) (fun h => h)) (hc.cell (C3a.out.cell HE2.out (fun h => h)) (fun h => h)) (T3a.out.chg hc (fun h => h) (fun _ _ h => h)) hd (by decide) (fun _ _ => by simp [fitsB, amtB]; omega) (2, 2, 3) x (one_at (2, 2, 3) x) hx1 (by omega)
    have hsum2 := fun W (hc : Chg S0 w3a W) v (hd : DosAt W v 1 (fun _ => (2, 2, 0, x))) => sum42_single t0 t2 v0 v2 w1.heap.size mm [] v 1 (fun _ => (2, 2, 0, x)) W (hc.cell (C3a.out.cell HE0.out (fun h => h)) (fun h => h)) (hc.cell (C3a.out.cell HE2.out (fun h => h)) (fun h => h)) (T3a.out.chg hc (fun h => h) (fun _ _ h => h)) hd (by decide) (fun _ _ => by simp [fitsB, amtB]; omega) (2, 2, 0) x (one_at (2, 2, 0) x) hx1 (by omega)
    have HS1 := Lib.hid hsum1
    have HS2 := Lib.hid hsum2
    have TL := Lib.hid hTL
    have Hs3a := Lib.hid hs3a
    have hml : ∀ x, mm = some x → x < w3.heap.size := fun x hx => T3.out.map.lt x hx
    have hnS : ∀ k, w3.heap.size ≤ k → ¬ SL w1.heap.size mm k := fun k hk h => by
      rcases h with h | h
      · omega
      · have := hml k h; omega
    clear hsum1 hsum2 hTL hs3a
    obtain ⟨a0, a1, a2, a3, b0, b1, b2, b3⟩ := TL.out
    go_wp2_with fail
    refine (HS1.out _ ((Chg.refl _ _).alloc _) _ (dos1 w3a 2 2 3 x 91)).mono ?_
    rintro e w4 ⟨rfl, hc4⟩
    rw [Hva.out]
    have D4 := Lib.hid (Chg.step ((Chg.refl S0 w3a).alloc _) hc4 (fun _ h => h.elim))
    clear hc4 a0 a1 a2 a3 b0 b1 b2 b3
    obtain ⟨a0, a1, a2, a3, b0, b1, b2, b3⟩ := TL.out.chg D4.out (fun h => h) (fun h => h)
    go_wp2_with fail
    refine (HS2.out _ (D4.out.alloc _) _ (dos1 w4 2 2 0 x 91)).mono ?_
    rintro e w5 ⟨rfl, hc5⟩
    rw [Hvb.out]
    have D5 := Lib.hid (Chg.step (D4.out.alloc _) hc5 (fun _ h => h.elim))
    clear hc5 a0 a1 a2 a3 b0 b1 b2 b3
    go_wp2_with fail
    refine (capSet41 w1.heap.size mm 3 3 0 [] w5 (T3a.out.chg D5.out (fun h => h) (fun _ _ h => h)) (by unfold LimOk mostV; decide) (by decide)).mono ?_
    rintro e w6 ⟨rfl, m6, hT6, hm6, hc6⟩
    rw [HL2.out] at hT6
    have hz5 := D5.out.size
    have hz3 := Hs3a.out
    have C6 := Lib.hid (Chg.step (Chg.step C3a.out D5.out (fun _ h => h.elim)) hc6 (SL_out hz1 (fun y hy => Nat.le_trans hz1 (hmo y hy))))
    have TL6 := Lib.hid ((TL.out.chg D5.out (fun h => h) (fun h => h)).chg hc6 (hnS _ (by omega)) (hnS _ (by omega)))
    have T6 := Lib.hid hT6
    clear hc6 hT6 hm6 hz3
    have hsum3 := fun W (hc : Chg S0 w6 W) v (hd : DosAt W v 1 (fun _ => (2, 2, 3, x))) => sum42_single t0 t2 v0 v2 w1.heap.size (some m6) [] v 1 (fun _ => (2, 2, 3, x)) W (hc.cell (C6.out.cell HE0.out (fun h => h)) (fun h => h)) (hc.cell (C6.out.cell HE2.out (fun h => h)) (fun h => h)) (T6.out.chg hc (fun h => h) (fun _ _ h => h)) hd (by decide) (fun _ _ => by simp [fitsB, amtB]; omega) (2, 2, 3) x (one_at (2, 2, 3) x) hx1 (by omega)
    have HS3 := Lib.hid hsum3
    clear hsum3
    obtain ⟨a0, a1, a2, a3, b0, b1, b2, b3⟩ := TL6.out
    go_wp2_with fail
    refine (HS3.out _ ((Chg.refl _ _).alloc _) _ (dos1 w6 2 2 3 x 91)).mono ?_
    rintro e w7 ⟨rfl, hc7⟩
    rw [Hk.out]
    have D7 := Lib.hid (Chg.step ((Chg.refl S0 w6).alloc _) hc7 (fun _ h => h.elim))
    clear hc7 a0 a1 a2 a3 b0 b1 b2 b3
    go_wp2_with fail
    refine (capAll43 w1.heap.size (some m6) [] w7 (T6.out.chg D7.out (fun h => h) (fun _ _ h => h)) (by decide)).mono ?_
    rintro e w8 ⟨vs, ks, rfl, ⟨hpm, _, hown⟩, hc8⟩
    have hks : ks = [] := by simpa using hpm
    subst hks
    obtain ⟨q, cp, rfl⟩ : ∃ q cp, vs = .slice q 0 cp := by
      rcases hown.2 with ⟨h, _⟩ | ⟨g, cap, cur, h, _⟩
      · exact ⟨none, 0, h⟩
      · exact ⟨_, cap, h⟩
    clear hown hpm
    go_wp2_with fail
    go_ret
    exact ⟨by simp, Chg.step (Chg.step C6.out D7.out (fun _ h => h.elim)) hc8 (fun _ h => h.elim)⟩


set_option maxHeartbeats 8000000 in
theorem capsFree_bad (t0 t2 : TypeId) (v0 v2 : Value) (v limit : Int) (w : World) (hE0 : w.cell? ⟨0, 0, none⟩ = some (.iface t0 v0)) (hE2 : w.cell? ⟨2, 0, none⟩ = some (.iface t2 v2)) (hv1 : -9223372036854775808 ≤ v) (hv2 : v ≤ 9223372036854775807) (hl3 : amtB limit = false) :
    Calls Tryd.prog 6 #[.int .i64 v, .int .i64 limit] w fun e w' => e = .returned (.bool true) ∧ Chg S0 w w' := by
  have hL2 : tset [] (3, 3) 0 = [] := by decide
  have hva : ∀ x, capG [] (2, 2, 3) x = x := fun x => by simp [capG, gL, lk, capV]
  have hvb : ∀ x, capG [] (2, 2, 0) x = x := fun x => by simp [capG, gL, lk, capV]
  have hz := World.block_lt_of_cell? _ _ hE2
  have hk : ∀ x, capG [] (2, 2, 3) x = x := fun x => by simp [capG, gL, lk, capV]
  have hf := first40 t0 t2 v0 v2 w hE0 hE2
  have HF := Lib.hid hf
  have HE0 := Lib.hid hE0
  have HE2 := Lib.hid hE2
  have HL2 := Lib.hid hL2
  have Hva := Lib.hid hva
  have Hvb := Lib.hid hvb
  have Hk := Lib.hid hk
  have Hbad := Lib.hid hl3

  clear hf hE0 hE2 hL2 hva hvb hk hl3
  rcases Int.lt_or_le v 0 with hneg | hneg
  all_goals
    go_enter Tryd.func6, Tryd.ntmps6
    go_wp2_with (go_at_call 40; refine HF.out.mono ?_; rintro e w1 ⟨rfl, hc1⟩; have HC1 := Lib.hid hc1; clear hc1)
    first
      | (have hx1 : 0 ≤ v % 1000000 ∧ v % 1000000 < 1000000 := by omega
         have hgo : 0 ≤ v := hneg
         obtain ⟨x, hx⟩ : ∃ x, v % 1000000 = x := ⟨_, rfl⟩
         rw [hx] at hx1 ⊢)
      | (have hx1 : 0 ≤ -(v + 1).tmod 1000000 ∧ -(v + 1).tmod 1000000 < 1000000 := by
           have e1 : -(v + 1).tmod 1000000 = (-(v + 1)) % 1000000 := by rw [← Int.neg_tmod, Int.tmod_eq_emod_of_nonneg (by omega)]
           omega
         obtain ⟨x, hx⟩ : ∃ x, -(v + 1).tmod 1000000 = x := ⟨_, rfl⟩
         rw [hx] at hx1 ⊢)
    have Hx := Lib.hid hx
    clear hx
    obtain ⟨hx1, hx2⟩ := hx1
    have hz1 := HC1.out.size
    go_wp2_with fail
    refine (capSet41_bad w1.heap.size 3 3 limit _ _ ((HC1.out.alloc _).cell HE0.out (fun h => h)) (fun h => by rw [Hbad.out] at h; cases h.2)).mono ?_
    rintro e w2 ⟨rfl, hc2⟩
    have hs2 := hc2.size
    simp only [World.size_alloc] at hs2
    have C2 := Lib.hid (Chg.step (HC1.out.alloc _) hc2 (fun _ h => h.elim))
    have T2 := Lib.hid ((TabAt.new 86 w1).chg hc2 (fun h => h) (fun _ _ h => h))
    obtain ⟨mm, hmm⟩ : ∃ mm : Option Nat, none = mm := ⟨_, rfl⟩
    have hmo : ∀ x, mm = some x → w1.heap.size ≤ x := fun x hx => by rw [← hmm] at hx; cases hx
    rw [hmm] at T2
    clear hc2 hmm
    go_wp2_with fail
    refine (capSet41_bad w1.heap.size 3 0 limit _ _ (C2.out.cell HE0.out (fun h => h)) (fun h => by have := h.1.1; omega)).mono ?_
    rintro e w3 ⟨rfl, hc3⟩
    have hs3 := hc3.size
    have C3 := Lib.hid (Chg.step C2.out hc3 (fun _ h => h.elim))
    have T3 := Lib.hid (T2.out.chg hc3 (fun h => h) (fun _ _ h => h))
    clear hc3
    obtain ⟨w3a, hw3a⟩ : ∃ W, ((w3.alloc (.cells #[.int .i64 2, .int .i64 2, .int .i64 3, .int .i64 x] 91)).alloc (.cells #[.int .i64 2, .int .i64 2, .int .i64 0, .int .i64 x] 91)) = W := ⟨_, rfl⟩
    have hc3a : Chg S0 w3 w3a := by rw [← hw3a]; exact ((Chg.refl _ _).alloc _).alloc _
    have hTL : TwoLines w3a w3.heap.size (w3.heap.size + 1) x := by rw [← hw3a]; exact ⟨by simp [go_sem], by simp [go_sem], by simp [go_sem], by simp [go_sem], by simp [go_sem], by simp [go_sem], by simp [go_sem], by simp [go_sem]⟩
    have hs3a : w3a.heap.size = w3.heap.size + 1 + 1 := by rw [← hw3a]; simp
    have C3a := Lib.hid (Chg.step C3.out hc3a (fun _ h => h.elim))
    have T3a := Lib.hid (T3.out.chg hc3a (fun h => h) (fun _ _ h => h))
    have hsum1 := fun W (hc : Chg S0 w3a W) v (hd : DosAt W v 1 (fun _ => (2, 2, 3, x))) => sum42_single t0 t2 v0 v2 w1.heap.size mm [] v 1 (fun _ => (2, 2, 3, x)) W (hc.cell (C3a.out.cell HE0.out (fun h => h)) (fun h => h)) (hc.cell (C3a.out.cell HE2.out (fun h => h)) (fun h => h)) (T3a.out.chg hc (fun h => h) (fun _ _ h => h)) hd (by decide) (fun _ _ => by simp [fitsB, amtB]; omega) (2, 2, 3) x (one_at (2, 2, 3) x) hx1 (by omega)
    have hsum2 := fun W (hc : Chg S0 w3a W) v (hd : DosAt W v 1 (fun _ => (2, 2, 0, x))) => sum42_single t0 t2 v0 v2 w1.heap.size mm [] v 1 (fun _ => (2, 2, 0, x)) W (hc.cell (C3a.out.cell HE0.out (fun h => h)) (fun h => h)) (hc.cell (C3a.out.cell HE2.out (fun h => h)) (fun h => h)) (T3a.out.chg hc (fun h => h) (fun _ _ h => h)) hd (by decide) (fun _ _ => by simp [fitsB, amtB]; omega) (2, 2, 0) x (one_at (2, 2, 0) x) hx1 (by omega)
    have HS1 := Lib.hid hsum1
    have HS2 := Lib.hid hsum2
    have TL := Lib.hid hTL
    have Hs3a := Lib.hid hs3a
    have hml : ∀ x, mm = some x → x < w3.heap.size := fun x hx => T3.out.map.lt x hx
    have hnS : ∀ k, w3.heap.size ≤ k → ¬ SL w1.heap.size mm k := fun k hk h => by
      rcases h with h | h
      · omega
      · have := hml k h; omega
    clear hsum1 hsum2 hTL hs3a
    obtain ⟨a0, a1, a2, a3, b0, b1, b2, b3⟩ := TL.out
    go_wp2_with fail
    refine (HS1.out _ ((Chg.refl _ _).alloc _) _ (dos1 w3a 2 2 3 x 91)).mono ?_
    rintro e w4 ⟨rfl, hc4⟩
    rw [Hva.out]
    have D4 := Lib.hid (Chg.step ((Chg.refl S0 w3a).alloc _) hc4 (fun _ h => h.elim))
    clear hc4 a0 a1 a2 a3 b0 b1 b2 b3
    obtain ⟨a0, a1, a2, a3, b0, b1, b2, b3⟩ := TL.out.chg D4.out (fun h => h) (fun h => h)
    go_wp2_with fail
    refine (HS2.out _ (D4.out.alloc _) _ (dos1 w4 2 2 0 x 91)).mono ?_
    rintro e w5 ⟨rfl, hc5⟩
    rw [Hvb.out]
    have D5 := Lib.hid (Chg.step (D4.out.alloc _) hc5 (fun _ h => h.elim))
    clear hc5 a0 a1 a2 a3 b0 b1 b2 b3
    go_wp2_with fail
    refine (capSet41 w1.heap.size mm 3 3 0 [] w5 (T3a.out.chg D5.out (fun h => h) (fun _ _ h => h)) (by unfold LimOk mostV; decide) (by decide)).mono ?_
    rintro e w6 ⟨rfl, m6, hT6, hm6, hc6⟩
    rw [HL2.out] at hT6
    have hz5 := D5.out.size
    have hz3 := Hs3a.out
    have C6 := Lib.hid (Chg.step (Chg.step C3a.out D5.out (fun _ h => h.elim)) hc6 (SL_out hz1 (fun y hy => Nat.le_trans hz1 (hmo y hy))))
    have TL6 := Lib.hid ((TL.out.chg D5.out (fun h => h) (fun h => h)).chg hc6 (hnS _ (by omega)) (hnS _ (by omega)))
    have T6 := Lib.hid hT6
    clear hc6 hT6 hm6 hz3
    have hsum3 := fun W (hc : Chg S0 w6 W) v (hd : DosAt W v 1 (fun _ => (2, 2, 3, x))) => sum42_single t0 t2 v0 v2 w1.heap.size (some m6) [] v 1 (fun _ => (2, 2, 3, x)) W (hc.cell (C6.out.cell HE0.out (fun h => h)) (fun h => h)) (hc.cell (C6.out.cell HE2.out (fun h => h)) (fun h => h)) (T6.out.chg hc (fun h => h) (fun _ _ h => h)) hd (by decide) (fun _ _ => by simp [fitsB, amtB]; omega) (2, 2, 3) x (one_at (2, 2, 3) x) hx1 (by omega)
    have HS3 := Lib.hid hsum3
    clear hsum3
    obtain ⟨a0, a1, a2, a3, b0, b1, b2, b3⟩ := TL6.out
    go_wp2_with fail
    refine (HS3.out _ ((Chg.refl _ _).alloc _) _ (dos1 w6 2 2 3 x 91)).mono ?_
    rintro e w7 ⟨rfl, hc7⟩
    rw [Hk.out]
    have D7 := Lib.hid (Chg.step ((Chg.refl S0 w6).alloc _) hc7 (fun _ h => h.elim))
    clear hc7 a0 a1 a2 a3 b0 b1 b2 b3
    go_wp2_with fail
    refine (capAll43 w1.heap.size (some m6) [] w7 (T6.out.chg D7.out (fun h => h) (fun _ _ h => h)) (by decide)).mono ?_
    rintro e w8 ⟨vs, ks, rfl, ⟨hpm, _, hown⟩, hc8⟩
    have hks : ks = [] := by simpa using hpm
    subst hks
    obtain ⟨q, cp, rfl⟩ : ∃ q cp, vs = .slice q 0 cp := by
      rcases hown.2 with ⟨h, _⟩ | ⟨g, cap, cur, h, _⟩
      · exact ⟨none, 0, h⟩
      · exact ⟨_, cap, h⟩
    clear hown hpm
    go_wp2_with fail
    go_ret
    exact ⟨by simp, Chg.step (Chg.step C6.out D7.out (fun _ h => h.elim)) hc8 (fun _ h => h.elim)⟩


theorem wf_bounds {n : Int} (h : (Lit.int .i64 n).wf = true) : -9223372036854775808 ≤ n ∧ n ≤ 9223372036854775807 := by
  have e1 : IntKind.i64.min = -9223372036854775808 := by decide
  have e2 : IntKind.i64.max = 9223372036854775807 := by decide
  simp only [Lit.wf, Bool.and_eq_true, decide_eq_true_eq, e1, e2] at h
  exact h
theorem capsFree_any (t0 t2 : TypeId) (v0 v2 : Value) (v limit : Int) (w : World) (hE0 : w.cell? ⟨0, 0, none⟩ = some (.iface t0 v0)) (hE2 : w.cell? ⟨2, 0, none⟩ = some (.iface t2 v2)) (hv1 : -9223372036854775808 ≤ v) (hv2 : v ≤ 9223372036854775807) :
    Calls Tryd.prog 6 #[.int .i64 v, .int .i64 limit] w fun e w' => e = .returned (.bool true) ∧ Chg S0 w w' := by
  cases ha : amtB limit with
  | false => exact capsFree_bad t0 t2 v0 v2 v limit w hE0 hE2 hv1 hv2 ha
  | true =>
    simp [amtB] at ha
    by_cases h0 : limit = 0
    · subst h0
      exact capsFree_zero t0 t2 v0 v2 v w hE0 hE2 hv1 hv2
    · exact capsFree_pos t0 t2 v0 v2 v limit w hE0 hE2 hv1 hv2 (by omega) ha.2

end Go.Proofs.YtljlnojelagmfaaDoor
