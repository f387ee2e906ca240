/-
  Slices of numbers in memory; the two greatest (stress.Top, the reference's Top). (Chapter 22.)
-/
import Derived.Test.YtljlnojelagmfaaDoorN1
import Derived.Test.YtljlnojelagmfaaDoorH3
import Derived.Test.YtljlnojelagmfaaDoorL2
import Derived.Deep.QuietTactic
import Derived.BigQuiet
namespace Go.Proofs.YtljlnojelagmfaaDoor
open Go.RowKit Go.Pl
set_option maxRecDepth 100000

/-- A slice of numbers. -/
def IntsAt (w : World) (v : Value) (l : List Int) : Prop :=
  ∃ (p : Option Addr) (cap : Nat), v = .slice p l.length cap ∧ l.length ≤ cap ∧
    ∀ k, (hk : k < l.length) → ∃ (a : Addr) (pb po : Nat) (ps : Option Nat), p = some a ∧ a.add k = ⟨pb, po, ps⟩ ∧ w.cell? ⟨pb, po, ps⟩ = some (.int .i64 l[k])
theorem IntsAt.keep {w w' : World} {v : Value} {l : List Int} (h : IntsAt w v l) (hc : ∀ a u, w.cell? a = some u → w'.cell? a = some u) : IntsAt w' v l := by
  obtain ⟨p, cap, h1, h2, h3⟩ := h
  exact ⟨p, cap, h1, h2, fun k hk => by obtain ⟨a, pb, po, ps, e1, e2, e3⟩ := h3 k hk; exact ⟨a, pb, po, ps, e1, e2, hc _ _ e3⟩⟩

/-- The errors of codes. -/
def errC (A : Nat → Addr) (c : Int) : Value := if c = 0 then .nilIface else if c = 103 then errV (A 0) else if c = 104 then errV (A 2) else errV (A 1)
def CodeOk (c : Int) : Prop := c = 0 ∨ c = 103 ∨ c = 104 ∨ c = 105

theorem amount93 (n : Int) (w : World) : Calls Tryd.prog 93 #[.int .i64 n] w fun e w' => e = .returned (.bool (decide (0 ≤ n) && decide (n ≤ 1000000000000000))) ∧ w = w' := by
  by_cases h : 0 ≤ n
  · have h' : decide (0 ≤ n) = true := by simpa using h
    go_enter Tryd.func93, Tryd.ntmps93
    go_wp2
    go_ret
    simp [h']
  · have h' : decide (0 ≤ n) = false := by simpa using h
    go_enter Tryd.func93, Tryd.ntmps93
    go_wp2
    go_ret
    simp

theorem amt92 (n : Int) (w : World) : Calls Tryd.prog 92 #[.int .i64 n] w fun e w' => e = .returned (.bool (amtB n)) ∧ w = w' := amount92 n w
theorem amt93 (n : Int) (w : World) : Calls Tryd.prog 93 #[.int .i64 n] w fun e w' => e = .returned (.bool (amtB n)) ∧ w = w' := amount93 n w

theorem add99 (a b : Int) (w : World) (h1 : 0 ≤ a) (h2 : a ≤ 1000000000000000) (h3 : 0 ≤ b) (h4 : b ≤ 1000000000000000) :
    Calls Tryd.prog 99 #[.int .i64 a, .int .i64 b] w fun e w' => e = .returned (.tuple #[.int .i64 (a + b), .bool true]) ∧ w = w' := by
  by_cases hb : b = 0
  · subst hb
    go_enter Tryd.func99, Tryd.ntmps99
    go_wp2
    go_ret2
    exact ⟨by simp, rfl⟩
  · have h5 : decide (a < a + b) = true := by simp; omega
    have h6 : decide (0 < b) = true := by simp; omega
    go_enter Tryd.func99, Tryd.ntmps99
    go_wp2
    go_ret2
    exact ⟨rfl, rfl⟩

set_option maxHeartbeats 2000000 in
theorem top36 (B : Nat) (A : Nat → Addr) (v : Value) (l : List Int) (w : World) (hE : ErrsAt B A w) (hI : IntsAt w v l) (hl : l.length ≤ 1000) :
    Calls Tryd.prog 36 #[v] w fun e w' => e = .returned (.tuple #[.int .i64 (topV l).1, errC A (topV l).2]) ∧ Chg S0 w w' := by
  obtain ⟨p, cap, rfl, hcap, hI⟩ := hI
  have e0 := hE.cell 0 (by decide) (by decide)
  have e2 := hE.cell 2 (by decide) (by decide)
  have hz := World.block_lt_of_cell? _ _ e2
  go_enter Tryd.func36, Tryd.ntmps36
  go_wp2
  go_loop [4, 5, 12] (fun a b i => ∃ k : Nat, k ≤ l.length ∧ i = .int .i64 k ∧ (l.take k).all amtB = true ∧ a = .int .i64 (tops (l.take k)).1 ∧ b = .int .i64 (tops (l.take k)).2) (fun _ _ i => l.length - (intOf i).toNat)
  case atStart => exact ⟨0, Nat.zero_le _, rfl, rfl, rfl, rfl⟩
  case round =>
    obtain ⟨k, hk, rfl, hall, rfl, rfl⟩ := hrel
    have hok := tops_ok _ hall
    by_cases hkn : k < l.length
    · have hkn' : decide ((k : Int) < l.length) = true := by simp; omega
      obtain ⟨a, pb, po, ps, hpa, hadd, q0⟩ := hI k hkn
      subst hpa
      have hT := tops_take hkn
      obtain ⟨x, hxl⟩ : ∃ x, l[k] = x := ⟨_, rfl⟩
      rw [hxl] at q0 hT
      cases hx : amtB x with
      | false =>
        have hV : topV l = (0, 103) := by unfold topV; rw [not_all hkn (by rw [hxl]; exact hx)]; rfl
        have HV := Lib.hid hV
        clear hV hxl hT
        go_wp2_with (go_at_call 92; refine (amt92 _ _).mono ?_; rintro e w' ⟨rfl, rfl⟩)
        go_quiet (fail)
        go_wp2
        go_ret2
        exact ⟨by rw [HV.out]; rfl, (Chg.refl _ _).drewN _⟩
      | true =>
        have hall2 : (l.take (k + 1)).all amtB = true := all_take_succ hkn hall (by rw [hxl]; exact hx)
        have HT := Lib.hid hT
        have HA := Lib.hid hall2
        have hx1 : 0 ≤ x ∧ x ≤ 1000000000000000 := by have := hx; simp [amtB] at this; exact this
        clear hT hxl hall2
        by_cases c1 : (tops (l.take k)).1 < x
        · have c1' : decide ((tops (l.take k)).1 < x) = true := by simpa using c1
          go_wp2_with (go_at_call 92; refine (amt92 _ _).mono ?_; rintro e w' ⟨rfl, rfl⟩)
          exact ⟨⟨k + 1, by omega, by go_num, HA.out, by rw [HT.out]; simp [top2, c1], by rw [HT.out]; simp [top2, c1]⟩, by simp [intOf]; omega⟩
        · have c1' : decide ((tops (l.take k)).1 < x) = false := by simpa using c1
          by_cases c2 : (tops (l.take k)).2 < x
          · have c2' : decide ((tops (l.take k)).2 < x) = true := by simpa using c2
            go_wp2_with (go_at_call 92; refine (amt92 _ _).mono ?_; rintro e w' ⟨rfl, rfl⟩)
            exact ⟨⟨k + 1, by omega, by go_num, HA.out, by rw [HT.out]; unfold top2; rw [if_neg (by omega), if_pos c2], by rw [HT.out]; unfold top2; rw [if_neg (by omega), if_pos c2]⟩, by simp [intOf]; omega⟩
          · have c2' : decide ((tops (l.take k)).2 < x) = false := by simpa using c2
            go_wp2_with (go_at_call 92; refine (amt92 _ _).mono ?_; rintro e w' ⟨rfl, rfl⟩)
            exact ⟨⟨k + 1, by omega, by go_num, HA.out, by rw [HT.out]; unfold top2; rw [if_neg (by omega), if_neg (by omega)], by rw [HT.out]; unfold top2; rw [if_neg (by omega), if_neg (by omega)]⟩, by simp [intOf]; omega⟩
    · obtain rfl : k = l.length := by omega
      rw [List.take_length] at *
      obtain ⟨o1, o2, o3⟩ := hok
      have hall' := Lib.hid hall
      clear hall hkn
      by_cases hs : (tops l).1 + (tops l).2 ≤ 1000000000000000
      · have hV : topV l = ((tops l).1 + (tops l).2, 0) := by unfold topV; rw [hall'.out, if_pos rfl, if_pos hs]
        have HV := Lib.hid hV
        clear hV
        have hs' : decide (1000000000000000 < (tops l).1 + (tops l).2) = false := by simpa using hs
        go_wp2_with (go_at_call 99; refine (add99 _ _ _ (by omega) (by omega) (by omega) (by omega)).mono ?_; rintro e w' ⟨rfl, rfl⟩)
        go_ret2
        exact ⟨by rw [HV.out]; rfl, Chg.refl _ _⟩
      · have hV : topV l = (0, 104) := by unfold topV; rw [hall'.out, if_pos rfl, if_neg hs]
        have HV := Lib.hid hV
        clear hV
        have hs' : decide (1000000000000000 < (tops l).1 + (tops l).2) = true := by simp; omega
        go_wp2_with (go_at_call 99; refine (add99 _ _ _ (by omega) (by omega) (by omega) (by omega)).mono ?_; rintro e w' ⟨rfl, rfl⟩)
        go_quiet (fail)
        go_wp2
        go_ret2
        exact ⟨by rw [HV.out]; rfl, (Chg.refl _ _).drewN _⟩

set_option maxHeartbeats 2000000 in
theorem top37 (v : Value) (l : List Int) (w : World) (hI : IntsAt w v l) (hl : l.length ≤ 1000) :
    Calls Tryd.prog 37 #[v] w fun e w' => e = .returned (.tuple #[.int .i64 (topV l).1, .int .i64 (topV l).2]) ∧ w = w' := by
  obtain ⟨p, cap, rfl, hcap, hI⟩ := hI
  go_enter Tryd.func37, Tryd.ntmps37
  go_wp2
  go_loop [4, 5, 6] (fun a b i => ∃ k : Nat, k ≤ l.length ∧ i = .int .i64 k ∧ (l.take k).all amtB = true ∧ a = .int .i64 (tops (l.take k)).1 ∧ b = .int .i64 (tops (l.take k)).2) (fun _ _ i => l.length - (intOf i).toNat)
  case atStart => exact ⟨0, Nat.zero_le _, rfl, rfl, rfl, rfl⟩
  case round =>
    obtain ⟨k, hk, rfl, hall, rfl, rfl⟩ := hrel
    have hok := tops_ok _ hall
    by_cases hkn : k < l.length
    · have hkn' : decide ((k : Int) < l.length) = true := by simp; omega
      obtain ⟨a, pb, po, ps, hpa, hadd, q0⟩ := hI k hkn
      subst hpa
      have hT := tops_take hkn
      obtain ⟨x, hxl⟩ : ∃ x, l[k] = x := ⟨_, rfl⟩
      rw [hxl] at q0 hT
      cases hx : amtB x with
      | false =>
        have hV : topV l = (0, 103) := by unfold topV; rw [not_all hkn (by rw [hxl]; exact hx)]; rfl
        have HV := Lib.hid hV
        clear hV hxl hT
        go_wp2_with (go_at_call 93; refine (amt93 _ _).mono ?_; rintro e w' ⟨rfl, rfl⟩)
        go_ret2
        exact ⟨by rw [HV.out]; rfl, rfl⟩
      | true =>
        have hall2 : (l.take (k + 1)).all amtB = true := all_take_succ hkn hall (by rw [hxl]; exact hx)
        have HT := Lib.hid (hT.trans (top2_ref hok.2.1))
        have HA := Lib.hid hall2
        clear hT hxl hall2
        go_wp2_with (go_at_call 93; refine (amt93 _ _).mono ?_; rintro e w' ⟨rfl, rfl⟩)
        exact ⟨⟨k + 1, by omega, by go_num, HA.out, by rw [HT.out], by rw [HT.out]⟩, by simp [intOf]; omega⟩
    · obtain rfl : k = l.length := by omega
      rw [List.take_length] at *
      obtain ⟨o1, o2, o3⟩ := hok
      have hall' := Lib.hid hall
      clear hall hkn
      by_cases hs : (tops l).1 + (tops l).2 ≤ 1000000000000000
      · have hV : topV l = ((tops l).1 + (tops l).2, 0) := by unfold topV; rw [hall'.out, if_pos rfl, if_pos hs]
        have HV := Lib.hid hV
        clear hV
        have hs' : decide (1000000000000000 < (tops l).1 + (tops l).2) = false := by simpa using hs
        go_wp2
        go_ret2
        exact ⟨by rw [HV.out]; rfl, rfl⟩
      · have hV : topV l = (0, 104) := by unfold topV; rw [hall'.out, if_pos rfl, if_neg hs]
        have HV := Lib.hid hV
        clear hV
        have hs' : decide (1000000000000000 < (tops l).1 + (tops l).2) = true := by simp; omega
        go_wp2
        go_ret2
        exact ⟨by rw [HV.out]; rfl, rfl⟩
end Go.Proofs.YtljlnojelagmfaaDoor
