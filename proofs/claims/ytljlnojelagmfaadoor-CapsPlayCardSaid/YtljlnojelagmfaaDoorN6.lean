/-
  The reference's losses: Two, Cover. (Chapter 22.)
-/
import Derived.Test.YtljlnojelagmfaaDoorN5
import Derived.Deep.RegionHeld3
import Derived.Deep.AppendLies
namespace Go.Proofs.YtljlnojelagmfaaDoor
open Go.RowKit Go.Pl
set_option maxRecDepth 100000

theorem topV_all {l : List Int} (h : l.all amtB = false) : topV l = (0, 103) := by unfold topV; rw [h]; rfl

/-- What is above the needs, or why not. -/
def twoIn (g : Int × Int → Int) (s : Int) (l : List Int) : Int × Int := if l.all amtB then topV (aboveL g s l) else (0, 103)
theorem twoIn_all {g : Int × Int → Int} {s : Int} {l : List Int} (h : l.all amtB = true) : twoIn g s l = topV (aboveL g s l) := by unfold twoIn; rw [h]; rfl
theorem twoIn_not {g : Int × Int → Int} {s : Int} {l : List Int} (h : l.all amtB = false) : twoIn g s l = (0, 103) := by unfold twoIn; rw [h]; rfl

set_option maxHeartbeats 4000000 in
theorem two33_ok (yb : Nat) (L : List ((Int × Int) × Int)) (s : Int) (v : Value) (l : List Int) (w : World) (hY : LossAt w yb L) (hL : Losses L) (hI : IntsAt w v l)
    (h1 : 1 ≤ s) (h2 : s ≤ 16) (hl : l.length ≤ 32) :
    Calls Tryd.prog 33 #[.pointer (some ⟨yb, 0, none⟩), .int .i64 s, v] w fun e w' => e = .returned (.tuple #[.int .i64 (twoIn (gOf L) s l).1, .int .i64 (twoIn (gOf L) s l).2]) ∧ Chg S0 w w' := by
  obtain ⟨p, cap, rfl, hcap, hI⟩ := hI
  have d1 : decide ((32 : Int) < l.length) = false := by simp; omega
  have d2 : decide (1 ≤ s) = true := by simpa using h1
  have d3 : decide (s ≤ 16) = true := by simpa using h2
  obtain ⟨i0, hi, hz0, hz1, hz2⟩ := info_parts info2
  have HY := Lib.hid hY
  clear hY
  go_enter Tryd.func33, Tryd.ntmps33
  go_wp2_with (first | (go_at_call 87; refine (in87 _ _ _ _).mono ?_; rintro e w' ⟨rfl, rfl⟩))
  go_loopw [8, 9] (fun a i wr => ∃ k : Nat, k ≤ l.length ∧ i = .int .i64 k ∧ (l.take k).all amtB = true ∧ Chg S0 w wr ∧ wr.ownsRow w.heap.size 2 1 a k (((aboveL (gOf L) s l).take k).map (Value.int .i64))) (fun _ i _ => l.length - (intOf i).toNat)
  case atStart => exact ⟨0, Nat.zero_le _, rfl, rfl, Chg.refl _ _, by simp [World.ownsRow]⟩
  case round =>
    obtain ⟨k, hk, rfl, hall, hc, hown⟩ := hrel
    have HAll := Lib.hid hall
    clear hall
    by_cases hkn : k < l.length
    · have hkn' : decide ((k : Int) < l.length) = true := by simp; omega
      obtain ⟨a, pb, po, ps, hpa, hadd, q00⟩ := hI k hkn
      have q0 := hc.cellA q00 (fun h => h)
      subst hpa
      have hA := aboveL_take (gOf L) s l k hkn
      have hY : LossAt wr yb L := CellsAt.chg HY.out hc (fun h => h)
      have hlt := CellsAt.lt hY
      have hlt0 := CellsAt.lt HY.out
      have hpb0 := World.block_lt_of_cell? _ _ q00
      have hg := hL.get (s, (k : Int) + 1)
      have c0 := hY.at s ((k : Int) + 1) (by omega) h2 (by omega) (by omega)
      have e1 : ((k : Int) + 1).toNat = k + 1 := by omega
      rw [e1] at c0
      obtain ⟨y, hy⟩ : ∃ y, gOf L (s, (k : Int) + 1) = y := ⟨_, rfl⟩
      rw [hy] at hA hg c0
      cases hx : amtB l[k] with
      | false =>
        have hV := not_all hkn hx
        have HV := Lib.hid hV
        have Hc := Lib.hid hc
        clear q00
        generalize l[k] = x at *
        clear hA hc hy hV hown hY e1
        go_wp2_with (first | (go_at_call 93; refine (amt93 _ _).mono ?_; rintro e w' ⟨rfl, rfl⟩))
        go_ret2
        exact ⟨by rw [twoIn_not HV.out]; rfl, Hc.out⟩
      | true =>
        have HAll2 := Lib.hid (all_take_succ hkn HAll.out hx)
        clear q00
        generalize l[k] = x at *
        have hx1 : 0 ≤ x ∧ x ≤ 1000000000000000 := by have := hx; simp [amtB] at this; exact this
        have HA := Lib.hid hA
        have Hc := Lib.hid hc
        have x1 : IntKind.i64.wrap ((k : Int) + 1) = (k : Int) + 1 := IntWalk.i64_in _ (by omega)
        have x6 : IntKind.i64.wrap (y - x) = y - x := IntWalk.i64_in _ (by omega)
        have hsz := Hc.out.size
        have x2 : 0 ≤ s := by omega
        have x3 : s < 17 := by omega
        have x4 : 0 ≤ (k : Int) + 1 := by omega
        have x5 : (k : Int) + 1 < 33 := by omega
        clear hA hc hy hY
        go_wp2_with (first | (go_at_call 93; refine (amt93 _ _).mono ?_; rintro e w' ⟨rfl, rfl⟩))
        have y1 : ∀ b, u8.ownBlock = some b → w.heap.size ≤ b := fun b hb => (hown.lt b hb).1
        have ya : u8.ownBlock ≠ some yb := fun h => by have := y1 _ h; omega
        have yb' : u8.ownBlock ≠ some pb := fun h => by have := y1 _ h; omega
        have Y1 := Lib.hid y1
        clear y1
        go_region_held3 (fun w' => w'.cell? ⟨yb, s.toNat * 33 + (k + 1), none⟩ = some (.int .i64 y) ∧ w'.cell? ⟨pb, po, ps⟩ = some (.int .i64 x))
          (first
            | go_keep
            | (go_split_ands
               refine ⟨?_, ?_⟩
               · (rw [hgrow.cell_far _ (by simp; omega) (Ne.symm ya)]; assumption)
               · (rw [hgrow.cell_far _ (by simp; omega) (Ne.symm yb')]; assumption)))
          ((refine step_append_lies _ (by rfl) _ _ _ (by rfl) w.heap.size 2 i0 _ 1 8 Tryd.underlying57 hi hz0 hz1 hz2 rfl (by omega) u8 k (((aboveL (gOf L) s l).take k).map (Value.int .i64)) (by rfl) ((hown.alloc _).drew)
              ⟨wr.heap.size, 0, none⟩ 1 1 [.int .i64 (max 0 (y - x))] (by rfl) (by rfl) (World.news_of_block (cs := #[.int .i64 (max 0 (y - x))]) (t := 2) (fr := (0, 0)) (heap_alloc_new wr _)) (by simp [Value.oneCell'])
              (by omega) (by unfold maxLen; omega) (by omega) (by simp; omega) (wr.heap.size + 1) (by simp) ?_; intro gg cap' w1 hown1 hgrow hat hlt))
        have Hg3 := Lib.hid (Chg.of_grownBy (Hc.out.alloc _).drew hgrow (fun b hb => .inr (Y1.out b hb)))
        have Ho3 := Lib.hid hown1
        clear hgrow hown hown1
        go_wp2
        exact ⟨⟨k + 1, by omega, by go_num, HAll2.out, Hg3.out, by rw [HA.out, List.map_append, Int.max_comm]; exact Ho3.out⟩, by simp [intOf]; omega⟩
    · obtain rfl : k = l.length := by omega
      have hlen := aboveL_length (gOf L) s l
      have hI3 : IntsAt wr u8 (aboveL (gOf L) s l) := by
        rw [List.take_of_length_le (by omega)] at hown
        exact ownsRow_ints (by rw [hlen]; exact hown)
      have htop := top37 u8 _ wr hI3 (by omega)
      have hV : twoIn (gOf L) s l = topV (aboveL (gOf L) s l) := twoIn_all (by have := HAll.out; rwa [List.take_length] at this)
      have HT := Lib.hid htop
      have HV := Lib.hid hV
      have Hc := Lib.hid hc
      clear htop hI3 hlen hkn hc hown hV
      go_wp2_with (first | (go_at_call 37; refine HT.out.mono ?_; rintro e w' ⟨rfl, rfl⟩))
      go_ret2
      exact ⟨by rw [HV.out]; rfl, Hc.out⟩

theorem two33_many (yb : Nat) (s : Int) (p : Option Addr) (n cap : Nat) (w : World) (hl : 32 < n) (hl2 : n ≤ 1000) :
    Calls Tryd.prog 33 #[.pointer (some ⟨yb, 0, none⟩), .int .i64 s, .slice p n cap] w fun e w' => e = .returned (.tuple #[.int .i64 0, .int .i64 105]) ∧ Chg S0 w w' := by
  have d1 : decide ((32 : Int) < n) = true := by simp; omega
  go_enter Tryd.func33, Tryd.ntmps33
  go_wp2
  go_ret2
  exact ⟨rfl, Chg.refl _ _⟩

theorem two33_bad (yb : Nat) (s : Int) (p : Option Addr) (n cap : Nat) (w : World) (hl : n ≤ 32) (hb : (decide (1 ≤ s) && decide (s ≤ 16)) = false) :
    Calls Tryd.prog 33 #[.pointer (some ⟨yb, 0, none⟩), .int .i64 s, .slice p n cap] w fun e w' => e = .returned (.tuple #[.int .i64 0, .int .i64 103]) ∧ Chg S0 w w' := by
  have d1 : decide ((32 : Int) < n) = false := by simp; omega
  have a1 := fun w => in87 s 1 16 w
  rw [hb] at a1
  have H1 := Lib.hid a1
  clear a1 hb
  go_enter Tryd.func33, Tryd.ntmps33
  go_wp2_with (go_at_call 87; refine (H1.out _).mono ?_; rintro e w' ⟨rfl, rfl⟩)
  go_ret2
  exact ⟨rfl, Chg.refl _ _⟩

theorem two33 (yb : Nat) (L : List ((Int × Int) × Int)) (s : Int) (v : Value) (l : List Int) (w : World) (hY : LossAt w yb L) (hL : Losses L) (hI : IntsAt w v l) (hl2 : l.length ≤ 1000) :
    Calls Tryd.prog 33 #[.pointer (some ⟨yb, 0, none⟩), .int .i64 s, v] w fun e w' => e = .returned (.tuple #[.int .i64 (twoV (gOf L) s l).1, .int .i64 (twoV (gOf L) s l).2]) ∧ Chg S0 w w' := by
  unfold twoV
  by_cases hl : l.length ≤ 32
  · rw [if_pos hl]
    cases hs : (decide (1 ≤ s) && decide (s ≤ 16)) with
    | true =>
      have hs' := hs
      simp only [Bool.and_eq_true, decide_eq_true_eq] at hs
      have := two33_ok yb L s v l w hY hL hI hs.1 hs.2 hl
      unfold twoIn at this
      simpa [hs'] using this
    | false =>
      obtain ⟨p, cap, rfl, _⟩ := hI
      simpa using two33_bad yb s p l.length cap w hl hs
  · rw [if_neg hl]
    obtain ⟨p, cap, rfl, _⟩ := hI
    exact two33_many yb s p l.length cap w (by omega) hl2

set_option maxHeartbeats 2000000 in
theorem cover35 (yb : Nat) (L : List ((Int × Int) × Int)) (v : Value) (l : List Int) (w : World) (hY : LossAt w yb L) (hL : Losses L) (hI : IntsAt w v l) (hl2 : l.length ≤ 1000) :
    Calls Tryd.prog 35 #[.pointer (some ⟨yb, 0, none⟩), v] w fun e w' => e = .returned (.tuple #[.int .i64 (covV (gOf L) l).1, .int .i64 (covV (gOf L) l).2.1, .int .i64 (covV (gOf L) l).2.2]) ∧ Chg S0 w w' := by
  have hall : ∀ wr s, Chg S0 w wr → Calls Tryd.prog 33 #[.pointer (some ⟨yb, 0, none⟩), .int .i64 s, v] wr fun e w' => e = .returned (.tuple #[.int .i64 (twoV (gOf L) s l).1, .int .i64 (twoV (gOf L) s l).2]) ∧ Chg S0 wr w' := fun wr s hc =>
    two33 yb L s v l wr (CellsAt.chg hY hc (fun h => h)) hL (hI.keep fun a u h => hc.cellA h (fun h => h)) hl2
  have HC := Lib.hid hall
  clear hall hY hI
  unfold covV
  obtain ⟨f, hf⟩ : ∃ f, (fun s => twoV (gOf L) s l) = f := ⟨_, rfl⟩
  have hf' : ∀ s, twoV (gOf L) s l = f s := fun s => by rw [← hf]
  rw [hf]
  have HF := Lib.hid hf'
  clear hf hf'
  go_enter Tryd.func35, Tryd.ntmps35
  go_wp2
  go_loopw [7, 8, 9] (fun mm bb ss wr => ∃ (k : Nat) (m b : Int), k ≤ 16 ∧ ss = .int .i64 (17 - k : Int) ∧ mm = .int .i64 m ∧ bb = .int .i64 b ∧ Chg S0 w wr ∧ covR f k m b = covR f 16 0 1) (fun _ _ ss _ => (17 - intOf ss).toNat)
  case atStart => exact ⟨16, 0, 1, Nat.le_refl _, by simp, rfl, rfl, Chg.refl _ _, rfl⟩
  case round =>
    obtain ⟨k, m, b, hk, rfl, rfl, rfl, hc, hcov⟩ := hrel
    cases k with
    | zero =>
      have HV := Lib.hid hcov
      have Hc := Lib.hid hc
      clear hcov hc
      go_wp2
      exact bodyPost_ret (v := .tuple #[.int .i64 m, .int .i64 b, .int .i64 0]) (by simp [results, Tryd.results35, go_sem]) rfl ⟨by rw [← HV.out]; rfl, Hc.out⟩
    | succ k =>
      have e1 : (17 - ((k + 1 : Nat) : Int)) = 16 - k := by omega
      have hcall := HC.out wr (16 - k) hc
      rw [HF.out] at hcall
      have hd : decide ((16 : Int) - k ≤ 16) = true := by simp; omega
      have hu : covR f (k + 1) m b = if (f (16 - k)).2 = 0 then (if m < (f (16 - k)).1 then covR f k (f (16 - k)).1 (16 - k) else covR f k m b) else (0, 0, (f (16 - k)).2) := rfl
      rw [hu] at hcov
      generalize f (16 - k) = r at *
      obtain ⟨r1, r2⟩ := r
      simp only at hcov hcall
      have HV := Lib.hid hcov
      have Hc := Lib.hid hc
      have HCa := Lib.hid hcall
      clear hcov hc hcall hu
      rw [e1]
      by_cases h2 : r2 = 0
      · subst h2
        by_cases hm : m < r1
        · have hm' : decide (m < r1) = true := by simpa using hm
          go_wp2_with fail
          refine HCa.out.mono ?_
          rintro e w2 ⟨rfl, hc2⟩
          have Hc2 := Lib.hid (Chg.step Hc.out hc2 (fun k hk => hk.elim))
          clear hc2
          go_wp2_with fail
          exact ⟨⟨k, _, _, by omega, by simp; omega, rfl, rfl, Hc2.out, by rw [← HV.out, if_pos trivial, if_pos hm]⟩, by simp [intOf]; omega⟩
        · have hm' : decide (m < r1) = false := by simpa using hm
          go_wp2_with fail
          refine HCa.out.mono ?_
          rintro e w2 ⟨rfl, hc2⟩
          have Hc2 := Lib.hid (Chg.step Hc.out hc2 (fun k hk => hk.elim))
          clear hc2
          go_wp2_with fail
          exact ⟨⟨k, _, _, by omega, by simp; omega, rfl, rfl, Hc2.out, by rw [← HV.out, if_pos trivial, if_neg (by omega)]⟩, by simp [intOf]; omega⟩
      · have hcv : covR f 16 0 1 = (0, 0, r2) := by rw [← HV.out, if_neg h2]
        have HV := Lib.hid hcv
        have h2' : (r2 != 0) = true := by simpa using h2
        clear hcv h2
        go_wp2_with fail
        refine HCa.out.mono ?_
        rintro e w2 ⟨rfl, hc2⟩
        have Hc2 := Lib.hid (Chg.step Hc.out hc2 (fun k hk => hk.elim))
        clear hc2
        go_wp2_with fail
        exact bodyPost_ret (v := .tuple #[.int .i64 0, .int .i64 0, .int .i64 r2]) (by simp [results, Tryd.results35, go_sem]) rfl ⟨by rw [HV.out], Hc2.out⟩
end Go.Proofs.YtljlnojelagmfaaDoor
