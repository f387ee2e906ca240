/-
  The reference's losses: Set, Get, Two, Cover. (Chapter 22.)
-/
import Derived.Test.YtljlnojelagmfaaDoorN4
import Derived.Test.YtljlnojelagmfaaDoorH1
namespace Go.Proofs.YtljlnojelagmfaaDoor
open Go.RowKit Go.Pl
set_option maxRecDepth 100000

def lossCell (L : List ((Int × Int) × Int)) (i : Nat) : Value := .int .i64 (gOf L ((i / 33 : Nat), (i % 33 : Nat)))
def lossCells (L : List ((Int × Int) × Int)) : Array Value := Array.ofFn (n := 561) fun i => lossCell L i
/-- The reference's losses. -/
def LossAt (w : World) (b : Nat) (L : List ((Int × Int) × Int)) : Prop := CellsAt w b (lossCells L) 66
theorem lossCells_get (L : List ((Int × Int) × Int)) (i : Nat) : (lossCells L)[i]? = if i < 561 then some (lossCell L i) else none := by
  simp only [lossCells, Array.getElem?_ofFn]
  by_cases h : i < 561 <;> simp [h]
theorem LossAt.at {w : World} {b : Nat} {L : List ((Int × Int) × Int)} (h : LossAt w b L) (s m : Int) (h1 : 0 ≤ s) (h2 : s ≤ 16) (h3 : 0 ≤ m) (h4 : m ≤ 32) :
    w.cell? ⟨b, s.toNat * 33 + m.toNat, none⟩ = some (.int .i64 (gOf L (s, m))) := by
  rw [CellsAt.cell h, lossCells_get, if_pos (by omega)]
  unfold lossCell
  have e1 : (((s.toNat * 33 + m.toNat) / 33 : Nat) : Int) = s := by omega
  have e2 : (((s.toNat * 33 + m.toNat) % 33 : Nat) : Int) = m := by omega
  rw [e1, e2]
theorem gOf_tset (L : List ((Int × Int) × Int)) (k : Int × Int) (n : Int) (c : Int × Int) : gOf (tset L k n) c = if k = c then n else gOf L c := by
  unfold gOf
  rw [lk_tset]
  by_cases h : k = c
  · rw [if_pos h, if_pos h]
    by_cases hn : n = 0 <;> simp [hn]
  · rw [if_neg h, if_neg h]
theorem lossCells_set (L : List ((Int × Int) × Int)) (s m n : Int) (h1 : 0 ≤ s) (h2 : s ≤ 16) (h3 : 0 ≤ m) (h4 : m ≤ 32) :
    (lossCells L).setIfInBounds (s.toNat * 33 + m.toNat) (.int .i64 n) = lossCells (tset L (s, m) n) := by
  apply Array.ext_getElem?
  intro i
  have hsz : (lossCells L).size = 561 := by simp [lossCells]
  simp only [Array.getElem?_setIfInBounds, lossCells_get, hsz]
  unfold lossCell
  rw [gOf_tset]
  by_cases e1 : s.toNat * 33 + m.toNat = i
  · rw [if_pos e1, if_pos (by omega), if_pos (by omega), if_pos (by ext <;> simp <;> omega)]
  · rw [if_neg e1]
    by_cases hi : i < 561
    · rw [if_pos hi, if_pos hi, if_neg (by simp only [Prod.mk.injEq, not_and]; omega)]
    · rw [if_neg hi, if_neg hi]

set_option maxHeartbeats 1000000 in
theorem lossSet30 (yb : Nat) (L : List ((Int × Int) × Int)) (s m n : Int) (w : World) (hY : LossAt w yb L) (h1 : 1 ≤ s) (h2 : s ≤ 16) (h3 : 1 ≤ m) (h4 : m ≤ 32) (h5 : 0 ≤ n) (h6 : n ≤ 1000000000000000) :
    Calls Tryd.prog 30 #[.pointer (some ⟨yb, 0, none⟩), .int .i64 s, .int .i64 m, .int .i64 n] w fun e w' => e = .returned (.int .i64 0) ∧ LossAt w' yb (tset L (s, m) n) ∧ Chg (S1 yb) w w' := by
  have c0 := hY.at s m (by omega) h2 (by omega) h4
  have f0 : w.frozen? ⟨yb, s.toNat * 33 + m.toNat, none⟩ = false := CellsAt.frozen hY _
  have hlt := CellsAt.lt hY
  have d1 : decide (1 ≤ s) = true := by simpa using h1
  have d2 : decide (s ≤ 16) = true := by simpa using h2
  have d3 : decide (1 ≤ m) = true := by simpa using h3
  have d4 : decide (m ≤ 32) = true := by simpa using h4
  have d5 : decide (0 ≤ n) = true := by simpa using h5
  have d6 : decide (n ≤ 1000000000000000) = true := by simpa using h6
  have hset := lossCells_set L s m n (by omega) h2 (by omega) h4
  have HS := Lib.hid hset
  clear hset
  go_enter Tryd.func30, Tryd.ntmps30
  go_wp2_with (first | (go_at_call 87; refine (in87 _ _ _ _).mono ?_; rintro e w' ⟨rfl, rfl⟩) | (go_at_call 93; refine (amount93 _ _).mono ?_; rintro e w' ⟨rfl, rfl⟩))
  go_ret
  refine ⟨rfl, ?_, Chg.setCell (S := S1 yb) (Chg.refl _ _) ⟨yb, _, none⟩ _ (.inl rfl)⟩
  unfold LossAt
  rw [← HS.out]
  exact CellsAt.set hY _ _

/-- What may be set. -/
def CellOk (s m n : Int) : Prop := 1 ≤ s ∧ s ≤ 16 ∧ 1 ≤ m ∧ m ≤ 32 ∧ 0 ≤ n ∧ n ≤ 1000000000000000

set_option maxHeartbeats 1000000 in
theorem lossSet30_bad (yb : Nat) (s m n : Int) (w : World) (h : ¬ CellOk s m n) :
    Calls Tryd.prog 30 #[.pointer (some ⟨yb, 0, none⟩), .int .i64 s, .int .i64 m, .int .i64 n] w fun e w' => e = .returned (.int .i64 103) ∧ w = w' := by
  have a1 := fun w => in87 s 1 16 w
  have a2 := fun w => in87 m 1 32 w
  have a3 := fun w => amount93 n w
  cases hs : (decide (1 ≤ s) && decide (s ≤ 16)) with
  | false =>
    rw [hs] at a1
    have H1 := Lib.hid a1
    clear a1 a2 a3 h hs
    go_enter Tryd.func30, Tryd.ntmps30
    go_wp2_with (first | (go_at_call 87; refine (H1.out _).mono ?_; rintro e w' ⟨rfl, rfl⟩))
    go_ret
    exact ⟨rfl, rfl⟩
  | true =>
    rw [hs] at a1
    cases hm : (decide (1 ≤ m) && decide (m ≤ 32)) with
    | false =>
      rw [hm] at a2
      have H1 := Lib.hid a1
      have H2 := Lib.hid a2
      clear a1 a2 a3 h hs hm
      go_enter Tryd.func30, Tryd.ntmps30
      go_wp2_with fail
      refine (H1.out _).mono ?_
      rintro e w' ⟨rfl, rfl⟩
      go_wp2_with fail
      refine (H2.out _).mono ?_
      rintro e w' ⟨rfl, rfl⟩
      go_wp2_with fail
      go_ret
      exact ⟨rfl, rfl⟩
    | true =>
      rw [hm] at a2
      have hn : (decide (0 ≤ n) && decide (n ≤ 1000000000000000)) = false := by
        unfold CellOk at h
        simp at hs hm ⊢
        omega
      rw [hn] at a3
      have H1 := Lib.hid a1
      have H2 := Lib.hid a2
      have H3 := Lib.hid a3
      clear a1 a2 a3 h hs hm hn
      go_enter Tryd.func30, Tryd.ntmps30
      go_wp2_with fail
      refine (H1.out _).mono ?_
      rintro e w' ⟨rfl, rfl⟩
      go_wp2_with fail
      refine (H2.out _).mono ?_
      rintro e w' ⟨rfl, rfl⟩
      go_wp2_with fail
      refine (H3.out _).mono ?_
      rintro e w' ⟨rfl, rfl⟩
      go_wp2_with fail
      go_ret
      exact ⟨rfl, rfl⟩

theorem Losses.out {L : List ((Int × Int) × Int)} (h : Losses L) {s m : Int} (hn : ¬ (1 ≤ s ∧ s ≤ 16 ∧ 1 ≤ m ∧ m ≤ 32)) : gOf L (s, m) = 0 := by
  unfold gOf
  cases hk : lk L (s, m) with
  | none => rfl
  | some y => have := h _ (mem_of_lk hk); exact absurd ⟨this.1, this.2.1, this.2.2.1, this.2.2.2.1⟩ hn

theorem lossGet39 (yb : Nat) (L : List ((Int × Int) × Int)) (s m : Int) (w : World) (hY : LossAt w yb L) (hL : Losses L) :
    Calls Tryd.prog 39 #[.pointer (some ⟨yb, 0, none⟩), .int .i64 s, .int .i64 m] w fun e w' => e = .returned (.int .i64 (gOf L (s, m))) ∧ w = w' := by
  have a1 := fun w => in87 s 1 16 w
  have a2 := fun w => in87 m 1 32 w
  cases hs : (decide (1 ≤ s) && decide (s ≤ 16)) with
  | false =>
    rw [hL.out (fun h => by simp at hs; omega)]
    rw [hs] at a1
    have H1 := Lib.hid a1
    clear a1 a2 hs
    go_enter Tryd.func39, Tryd.ntmps39
    go_wp2_with (first | (go_at_call 87; refine (H1.out _).mono ?_; rintro e w' ⟨rfl, rfl⟩))
    go_ret
    exact ⟨rfl, rfl⟩
  | true =>
    rw [hs] at a1
    cases hm : (decide (1 ≤ m) && decide (m ≤ 32)) with
    | false =>
      rw [hL.out (fun h => by simp at hm; omega)]
      rw [hm] at a2
      have H1 := Lib.hid a1
      have H2 := Lib.hid a2
      clear a1 a2 hs hm
      go_enter Tryd.func39, Tryd.ntmps39
      go_wp2_with fail
      refine (H1.out _).mono ?_
      rintro e w' ⟨rfl, rfl⟩
      go_wp2_with fail
      refine (H2.out _).mono ?_
      rintro e w' ⟨rfl, rfl⟩
      go_wp2_with fail
      go_ret
      exact ⟨rfl, rfl⟩
    | true =>
      rw [hm] at a2
      simp at hs hm
      obtain ⟨s1, s2⟩ := hs
      obtain ⟨m1, m2⟩ := hm
      have c0 := hY.at s m (by omega) s2 (by omega) m2
      have hlt := CellsAt.lt hY
      have H1 := Lib.hid a1
      have H2 := Lib.hid a2
      clear a1 a2
      go_enter Tryd.func39, Tryd.ntmps39
      go_wp2_with fail
      refine (H1.out _).mono ?_
      rintro e w' ⟨rfl, rfl⟩
      go_wp2_with fail
      refine (H2.out _).mono ?_
      rintro e w' ⟨rfl, rfl⟩
      go_wp2_with fail
      go_ret
      exact ⟨rfl, rfl⟩
end Go.Proofs.YtljlnojelagmfaaDoor
