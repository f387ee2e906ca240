/-
  stress.Two: the losses of a scene above the needs. (Chapter 22.)
-/
import Derived.Test.YtljlnojelagmfaaDoorN2
namespace Go.Proofs.YtljlnojelagmfaaDoor
open Go.RowKit Go.Pl
set_option maxRecDepth 100000

theorem closure98 (n : Int) (w : World) : Calls Tryd.prog 98 #[.int .i64 n] w fun e w' => e = .returned (.bool (!amtB n)) ∧ w = w' := by
  go_enter Tryd.func98, Tryd.ntmps98
  go_wp2_with (go_at_call 92; refine (amt92 _ _).mono ?_; rintro e w' ⟨rfl, rfl⟩)
  go_ret
  exact ⟨rfl, rfl⟩

theorem index156_all (v : Value) (l : List Int) (w : World) (hI : IntsAt w v l) (hl : l.length ≤ 1000) (h : l.all amtB = true) :
    Calls Tryd.prog 156 #[v, .func (.func 98) #[] #[]] w fun e w' => e = .returned (.int .i64 (-1)) ∧ w = w' := by
  obtain ⟨p, cap, rfl, hcap, hI⟩ := hI
  have H := Lib.hid h
  clear h
  go_enter Tryd.func156, Tryd.ntmps156
  go_wp2
  go_loop [8] (fun i => ∃ k : Nat, k ≤ l.length ∧ i = .int .i64 k) (fun i => l.length - (intOf i).toNat)
  case atStart => exact ⟨0, Nat.zero_le _, rfl⟩
  case round =>
    obtain ⟨k, hk, rfl⟩ := hrel
    by_cases hkn : k < l.length
    · have hkn' : decide ((k : Int) < l.length) = true := by simp; omega
      obtain ⟨a, pb, po, ps, hpa, hadd, q0⟩ := hI k hkn
      subst hpa
      have hx : amtB l[k] = true := List.all_eq_true.1 H.out _ (List.getElem_mem hkn)
      generalize l[k] = x at *
      go_wp2_with (go_at_call 98; refine (closure98 _ _).mono ?_; rintro e w' ⟨rfl, rfl⟩)
      exact ⟨⟨k + 1, by omega, by go_num⟩, by simp [intOf]; omega⟩
    · obtain rfl : k = l.length := by omega
      clear hkn
      go_wp2
      go_ret
      exact ⟨rfl, rfl⟩

theorem index156_not (v : Value) (l : List Int) (w : World) (hI : IntsAt w v l) (hl : l.length ≤ 1000) (h : l.all amtB = false) :
    Calls Tryd.prog 156 #[v, .func (.func 98) #[] #[]] w fun e w' => ∃ k : Nat, e = .returned (.int .i64 k) ∧ k < 1000 ∧ w = w' := by
  obtain ⟨p, cap, rfl, hcap, hI⟩ := hI
  have H := Lib.hid h
  clear h
  go_enter Tryd.func156, Tryd.ntmps156
  go_wp2
  go_loop [8] (fun i => ∃ k : Nat, k ≤ l.length ∧ i = .int .i64 k ∧ (l.take k).all amtB = true) (fun i => l.length - (intOf i).toNat)
  case atStart => exact ⟨0, Nat.zero_le _, rfl, rfl⟩
  case round =>
    obtain ⟨k, hk, rfl, hall⟩ := hrel
    have HA := Lib.hid hall
    clear hall
    by_cases hkn : k < l.length
    · have hkn' : decide ((k : Int) < l.length) = true := by simp; omega
      obtain ⟨a, pb, po, ps, hpa, hadd, q0⟩ := hI k hkn
      subst hpa
      cases hx : amtB l[k] with
      | true =>
        have HA2 := Lib.hid (all_take_succ hkn HA.out hx)
        generalize l[k] = x at *
        go_wp2_with (go_at_call 98; refine (closure98 _ _).mono ?_; rintro e w' ⟨rfl, rfl⟩)
        exact ⟨⟨k + 1, by omega, by go_num, HA2.out⟩, by simp [intOf]; omega⟩
      | false =>
        generalize l[k] = x at *
        go_wp2_with (go_at_call 98; refine (closure98 _ _).mono ?_; rintro e w' ⟨rfl, rfl⟩)
        go_ret
        exact ⟨k, rfl, by omega, rfl⟩
    · exfalso
      obtain rfl : k = l.length := by omega
      have h1 := HA.out
      have h2 := H.out
      rw [List.take_length, h2] at h1
      cases h1

theorem contains97 (v : Value) (l : List Int) (w : World) (hI : IntsAt w v l) (hl : l.length ≤ 1000) :
    Calls Tryd.prog 97 #[v, .func (.func 98) #[] #[]] w fun e w' => e = .returned (.bool (!l.all amtB)) ∧ w = w' := by
  obtain ⟨b, hb⟩ : ∃ b, l.all amtB = b := ⟨_, rfl⟩
  rw [hb]
  cases b with
  | true =>
    have H := Lib.hid (index156_all v l w hI hl hb)
    clear hb hI
    go_enter Tryd.func97, Tryd.ntmps97
    go_wp2_with (go_at_call 156; refine H.out.mono ?_; rintro e w' ⟨rfl, rfl⟩)
    go_ret
    exact ⟨rfl, rfl⟩
  | false =>
    have H := Lib.hid (index156_not v l w hI hl hb)
    clear hb hI
    go_enter Tryd.func97, Tryd.ntmps97
    go_wp2_with (go_at_call 156; refine H.out.mono ?_; rintro e w' ⟨k, rfl, hk, rfl⟩)
    go_ret
    exact ⟨rfl, rfl⟩
end Go.Proofs.YtljlnojelagmfaaDoor
