/-
  stress.Two, stress.Cover. (Chapter 22.)
-/
import Derived.Test.YtljlnojelagmfaaDoorN3
import Derived.Test.YtljlnojelagmfaaDoorH5
import Derived.Laws.AppendOwn
namespace Go.Proofs.YtljlnojelagmfaaDoor
open Go.RowKit Go.Pl
set_option maxRecDepth 100000

/-- What is above the needs. -/
def aboveL (g : Int × Int → Int) (s : Int) (l : List Int) : List Int := l.mapIdx fun i n => max (g (s, (i : Int) + 1) - n) 0
theorem aboveL_length (g : Int × Int → Int) (s : Int) (l : List Int) : (aboveL g s l).length = l.length := by simp [aboveL]
theorem aboveL_take (g : Int × Int → Int) (s : Int) (l : List Int) (k : Nat) (hk : k < l.length) : (aboveL g s l).take (k + 1) = (aboveL g s l).take k ++ [max (g (s, (k : Int) + 1) - l[k]) 0] := by
  rw [List.take_succ_eq_append_getElem (by rw [aboveL_length]; exact hk)]
  simp [aboveL]
/-- The two greatest above the needs. -/
def twoV (g : Int × Int → Int) (s : Int) (l : List Int) : Int × Int :=
  if l.length ≤ 32 then (if (decide (1 ≤ s) && decide (s ≤ 16) && l.all amtB) = true then topV (aboveL g s l) else (0, 103)) else (0, 105)

theorem info2 : (Tryd.prog.info? 2).map (fun i => (i.zero, i.size, i.bytes)) = some (some (.int .i64 0), 1, 8) := by kernel_rfl

/-- A row that is owned reads as a slice of numbers. -/
theorem ownsRow_ints {w : World} {base : Nat} {v : Value} {l : List Int} (h : w.ownsRow base 2 1 v l.length (l.map (Value.int .i64))) : IntsAt w v l := by
  rcases h.2 with ⟨rfl, hz⟩ | ⟨g, cap, cur, rfl, hbase, hgb, r1, r2, r3, r4⟩
  · exact ⟨none, 0, by rw [hz], by omega, fun k hk => by omega⟩
  · refine ⟨_, _, rfl, r1, fun k hk => ⟨⟨g, 0, none⟩, g, k, none, rfl, by unfold Addr.add; split <;> simp_all, ?_⟩⟩
    have h1 : (cur.toList.take (l.map (Value.int .i64)).length)[k]? = (l.map (Value.int .i64))[k]? := by
      have : l.length * 1 = (l.map (Value.int .i64)).length := by simp
      rw [← this, r4]
    rw [List.getElem?_take_of_lt (by simpa using hk)] at h1
    simp only [Array.getElem?_toList] at h1
    simp [World.cell?, hgb, h1, hk]

/-- The table is that of values in bounds. -/
def Losses (l : List ((Int × Int) × Int)) : Prop := ∀ p ∈ l, 1 ≤ p.1.1 ∧ p.1.1 ≤ 16 ∧ 1 ≤ p.1.2 ∧ p.1.2 ≤ 32 ∧ 1 ≤ p.2 ∧ p.2 ≤ 1000000000000000
def gOf (l : List ((Int × Int) × Int)) : Int × Int → Int := fun c => (lk l c).getD 0
theorem Losses.get {l : List ((Int × Int) × Int)} (h : Losses l) (c : Int × Int) : 0 ≤ gOf l c ∧ gOf l c ≤ 1000000000000000 := by
  unfold gOf
  cases hk : lk l c with
  | none => simp
  | some y => have := h _ (mem_of_lk hk); simp; omega

set_option maxHeartbeats 2000000 in
theorem two32_ok (B : Nat) (A : Nat → Addr) (tb : Nat) (m : Option Nat) (L : List ((Int × Int) × Int)) (s : Int) (v : Value) (l : List Int) (w : World) (hE : ErrsAt B A w) (hT : TabAt 62 w tb m L) (hL : Losses L) (hI : IntsAt w v l)
    (h1 : 1 ≤ s) (h2 : s ≤ 16) (hl : l.length ≤ 32) (hall : l.all amtB = true) :
    Calls Tryd.prog 32 #[.pointer (some ⟨tb, 0, none⟩), .int .i64 s, v] w fun e w' => e = .returned (.tuple #[.int .i64 (topV (aboveL (gOf L) s l)).1, errC A (topV (aboveL (gOf L) s l)).2]) ∧ Chg S0 w w' := by
  have hcon := contains97 v l w hI (by omega)
  rw [hall] at hcon
  have HC := Lib.hid hcon
  have HI := Lib.hid hI
  obtain ⟨p, cap, rfl, hcap, hI⟩ := hI
  have d1 : decide ((32 : Int) < l.length) = false := by simp; omega
  have d2 : decide (1 ≤ s) = true := by simpa using h1
  have d3 : decide (s ≤ 16) = true := by simpa using h2
  have hHall := Lib.hid hall
  have HE := Lib.hid hE
  have HT := Lib.hid hT
  obtain ⟨i0, hi, hz0, hz1, hz2⟩ := info_parts info2
  clear hcon hall hE hT
  go_enter Tryd.func32, Tryd.ntmps32
  go_wp2_with (first | (go_at_call 91; refine (scene91 _ _).mono ?_; rintro e w' ⟨rfl, rfl⟩) | (go_at_call 97; refine HC.out.mono ?_; rintro e w' ⟨rfl, rfl⟩))
  go_loopw [8, 25] (fun a i wr => ∃ k : Nat, k ≤ l.length ∧ i = .int .i64 k ∧ Chg S0 w wr ∧ wr.ownsRow w.heap.size 2 1 a k (((aboveL (gOf L) s l).take k).map (Value.int .i64))) (fun _ i _ => l.length - (intOf i).toNat)
  case atStart => exact ⟨0, Nat.zero_le _, rfl, Chg.refl _ _, by simp [World.ownsRow]⟩
  case round =>
    obtain ⟨k, hk, rfl, hc, hown⟩ := hrel
    by_cases hkn : k < l.length
    · have hkn' : decide ((k : Int) < l.length) = true := by simp; omega
      obtain ⟨a, pb, po, ps, hpa, hadd, q0⟩ := hI k hkn
      have q0 := hc.cellA q0 (fun h => h)
      subst hpa
      have hA := aboveL_take (gOf L) s l k hkn
      have hx : amtB l[k] = true := List.all_eq_true.1 hHall.out _ (List.getElem_mem hkn)
      have hTr := HT.out.chg hc (fun h => h) (fun _ _ h => h)
      have hg := hL.get (s, (k : Int) + 1)
      have hG := tabGet38 tb m s ((k : Int) + 1) L wr hTr
      obtain ⟨y, hy⟩ : ∃ y, gOf L (s, (k : Int) + 1) = y := ⟨_, rfl⟩
      rw [hy] at hA hg
      change Calls _ _ _ _ (fun e w' => e = .returned (.int .i64 (gOf L (s, (k : Int) + 1))) ∧ Chg S0 wr w') at hG
      rw [hy] at hG
      generalize l[k] = x at *
      have hx1 : 0 ≤ x ∧ x ≤ 1000000000000000 := by have := hx; simp [amtB] at this; exact this
      have HA := Lib.hid hA
      have HG := Lib.hid hG
      have Hc := Lib.hid hc
      have Hy := Lib.hid hy
      clear hA hG hx hc hy hTr
      go_wp2_with (first
        | (go_at_call 38; refine HG.out.mono ?_; rintro e w2 ⟨rfl, hc2⟩; have hsz := Nat.le_trans Hc.out.size hc2.size; have hown2 := hown.kept hc2.grown0 (by cases hv : Value.ownBlock _ <;> simp); have Hc2 := Lib.hid (Chg.step Hc.out hc2 (fun k hk => hk.elim)); clear hown hc2)
        | (at_builtin; refine wpList_append_own _ rfl _ _ 57 rfl w.heap.size 2 i0 (.int .i64 0) 1 8 Tryd.underlying57 hi hz0 hz1 hz2 rfl (by decide) _ k _ rfl (hown2.alloc _) ⟨w2.heap.size, 0, none⟩ 1 1 [.int .i64 (max (y - x) 0)] rfl rfl (cells_new w2 [.int .i64 (max (y - x) 0)] 2) (by simp [Value.oneCell']) (by unfold maxLen; omega) (by omega) (by simp; omega) ?_; intro v' w3 hown3 hgrow _))
      have Hg3 := Lib.hid (Chg.of_grownBy (Hc2.out.alloc _) hgrow (fun b hb => .inr (hown2.lt b hb).1))
      have Ho3 := Lib.hid hown3
      clear hgrow hown2 hown3
      exact ⟨⟨k + 1, by omega, by go_num, Hg3.out, by rw [HA.out, List.map_append]; exact Ho3.out⟩, by simp [intOf]; omega⟩
    · obtain rfl : k = l.length := by omega
      have hlen := aboveL_length (gOf L) s l
      have hI3 : IntsAt wr u8 (aboveL (gOf L) s l) := by
        rw [List.take_of_length_le (by omega)] at hown
        exact ownsRow_ints (by rw [hlen]; exact hown)
      have htop := top36 B A u8 _ wr (HE.out.chg0 hc) hI3 (by omega)
      have HV := Lib.hid htop
      have Hc := Lib.hid hc
      clear htop hI3 hlen hkn hc hown
      go_wp2_with (first | (go_at_call 36; refine HV.out.mono ?_; rintro e w2 ⟨rfl, hc2⟩))
      go_ret2
      exact ⟨rfl, Chg.step Hc.out hc2 (fun k hk => hk.elim)⟩

theorem two32_many (B : Nat) (A : Nat → Addr) (tb : Nat) (s : Int) (p : Option Addr) (n cap : Nat) (w : World) (hE : ErrsAt B A w) (hl : 32 < n) (hl2 : n ≤ 1000) :
    Calls Tryd.prog 32 #[.pointer (some ⟨tb, 0, none⟩), .int .i64 s, .slice p n cap] w fun e w' => e = .returned (.tuple #[.int .i64 0, errC A 105]) ∧ Chg S0 w w' := by
  have d1 : decide ((32 : Int) < n) = true := by simp; omega
  have e1 := hE.cell 1 (by decide) (by decide)
  have hz := World.block_lt_of_cell? _ _ e1
  go_enter Tryd.func32, Tryd.ntmps32
  go_wp2
  go_quiet (fail)
  go_wp2
  go_ret2
  exact ⟨rfl, (Chg.refl _ _).drewN _⟩

theorem two32_bad (B : Nat) (A : Nat → Addr) (tb : Nat) (s : Int) (v : Value) (l : List Int) (w : World) (hE : ErrsAt B A w) (hI : IntsAt w v l) (hl : l.length ≤ 32) (hb : (decide (1 ≤ s) && decide (s ≤ 16) && l.all amtB) = false) :
    Calls Tryd.prog 32 #[.pointer (some ⟨tb, 0, none⟩), .int .i64 s, v] w fun e w' => e = .returned (.tuple #[.int .i64 0, errC A 103]) ∧ Chg S0 w w' := by
  have hcon := contains97 v l w hI (by omega)
  obtain ⟨p, cap, rfl, hcap, hI⟩ := hI
  have d1 : decide ((32 : Int) < l.length) = false := by simp; omega
  have e0 := hE.cell 0 (by decide) (by decide)
  have hz := World.block_lt_of_cell? _ _ e0
  have hsc := fun w => scene91 s w
  cases hs : (decide (1 ≤ s) && decide (s ≤ 16)) with
  | false =>
    rw [hs] at hsc
    have HS := Lib.hid hsc
    clear hsc hs hb hcon hI
    go_enter Tryd.func32, Tryd.ntmps32
    go_wp2_with (go_at_call 91; refine (HS.out _).mono ?_; rintro e w' ⟨rfl, rfl⟩)
    go_quiet (fail)
    go_wp2
    go_ret2
    exact ⟨rfl, (Chg.refl _ _).drewN _⟩
  | true =>
    rw [hs] at hsc hb
    have hall : l.all amtB = false := by simpa using hb
    rw [hall] at hcon
    have HS := Lib.hid hsc
    have HC := Lib.hid hcon
    clear hsc hs hb hcon hI hall
    go_enter Tryd.func32, Tryd.ntmps32
    go_wp2_with (first | (go_at_call 91; refine (HS.out _).mono ?_; rintro e w' ⟨rfl, rfl⟩) | (go_at_call 97; refine HC.out.mono ?_; rintro e w' ⟨rfl, rfl⟩))
    go_quiet (fail)
    go_wp2
    go_ret2
    exact ⟨rfl, (Chg.refl _ _).drewN _⟩

theorem two32 (B : Nat) (A : Nat → Addr) (tb : Nat) (m : Option Nat) (L : List ((Int × Int) × Int)) (s : Int) (v : Value) (l : List Int) (w : World) (hE : ErrsAt B A w) (hT : TabAt 62 w tb m L) (hL : Losses L) (hI : IntsAt w v l) (hl2 : l.length ≤ 1000) :
    Calls Tryd.prog 32 #[.pointer (some ⟨tb, 0, none⟩), .int .i64 s, v] w fun e w' => e = .returned (.tuple #[.int .i64 (twoV (gOf L) s l).1, errC A (twoV (gOf L) s l).2]) ∧ Chg S0 w w' := by
  unfold twoV
  by_cases hl : l.length ≤ 32
  · rw [if_pos hl]
    by_cases hb : (decide (1 ≤ s) && decide (s ≤ 16) && l.all amtB) = true
    · rw [if_pos hb]
      simp only [Bool.and_eq_true, decide_eq_true_eq] at hb
      exact two32_ok B A tb m L s v l w hE hT hL hI hb.1.1 hb.1.2 hl hb.2
    · rw [if_neg hb]
      exact two32_bad B A tb s v l w hE hI hl (by simpa using hb)
  · rw [if_neg hl]
    obtain ⟨p, cap, rfl, _⟩ := hI
    exact two32_many B A tb s p l.length cap w hE (by omega) hl2

/-- The greatest over scenes, from scene 17 - k on. -/
def covR (f : Int → Int × Int) : Nat → Int → Int → Int × Int × Int
  | 0, m, b => (m, b, 0)
  | k + 1, m, b => if (f (16 - k)).2 = 0 then (if m < (f (16 - k)).1 then covR f k (f (16 - k)).1 (16 - k) else covR f k m b) else (0, 0, (f (16 - k)).2)
def covV (g : Int × Int → Int) (l : List Int) : Int × Int × Int := covR (fun s => twoV g s l) 16 0 1
theorem twoV_code (g : Int × Int → Int) (s : Int) (l : List Int) : CodeOk (twoV g s l).2 := by
  unfold twoV topV CodeOk
  repeat' split
  all_goals simp
theorem errC_nil {A : Nat → Addr} {c : Int} (h : c = 0) : errC A c = .nilIface := by unfold errC; rw [if_pos h]
theorem errC_not {A : Nat → Addr} {c : Int} (h : c ≠ 0) : ∃ a, errC A c = errV a := by
  unfold errC
  rw [if_neg h]
  repeat' split
  all_goals exact ⟨_, rfl⟩

set_option maxHeartbeats 2000000 in
theorem cover34 (B : Nat) (A : Nat → Addr) (tb : Nat) (m : Option Nat) (L : List ((Int × Int) × Int)) (v : Value) (l : List Int) (w : World) (hE : ErrsAt B A w) (hT : TabAt 62 w tb m L) (hL : Losses L) (hI : IntsAt w v l) (hl2 : l.length ≤ 1000) :
    Calls Tryd.prog 34 #[.pointer (some ⟨tb, 0, none⟩), v] w fun e w' => e = .returned (.tuple #[.int .i64 (covV (gOf L) l).1, .int .i64 (covV (gOf L) l).2.1, errC A (covV (gOf L) l).2.2]) ∧ Chg S0 w w' := by
  have hall : ∀ wr s, Chg S0 w wr → Calls Tryd.prog 32 #[.pointer (some ⟨tb, 0, none⟩), .int .i64 s, v] wr fun e w' => e = .returned (.tuple #[.int .i64 (twoV (gOf L) s l).1, errC A (twoV (gOf L) s l).2]) ∧ Chg S0 wr w' := fun wr s hc =>
    two32 B A tb m L s v l wr (hE.chg0 hc) (hT.chg hc (fun h => h) (fun _ _ h => h)) hL (hI.keep fun a u h => hc.cellA h (fun h => h)) hl2
  have HC := Lib.hid hall
  clear hall hE hT hI
  unfold covV
  obtain ⟨f, hf⟩ : ∃ f, (fun s => twoV (gOf L) s l) = f := ⟨_, rfl⟩
  have hcode : ∀ s, CodeOk (f s).2 := fun s => by rw [← hf]; exact twoV_code _ _ _
  have hf' : ∀ s, twoV (gOf L) s l = f s := fun s => by rw [← hf]
  rw [hf]
  have HF := Lib.hid hf'
  have HK := Lib.hid hcode
  clear hf hf' hcode
  go_enter Tryd.func34, Tryd.ntmps34
  go_wp2
  go_loopw [7, 8, 9] (fun mm bb ss wr => ∃ (k : Nat) (m b : Int), k ≤ 16 ∧ ss = .int .i64 (17 - k : Int) ∧ mm = .int .i64 m ∧ bb = .int .i64 b ∧ Chg S0 w wr ∧ covR f k m b = covR f 16 0 1) (fun _ _ ss _ => (17 - intOf ss).toNat)
  case atStart => exact ⟨16, 0, 1, Nat.le_refl _, by simp, rfl, rfl, Chg.refl _ _, rfl⟩
  case round =>
    obtain ⟨k, m, b, hk, rfl, rfl, rfl, hc, hcov⟩ := hrel
    cases k with
    | zero =>
      have HV := Lib.hid hcov
      have Hc := Lib.hid hc
      clear hcov hc
      go_wp2
      exact bodyPost_ret (v := .tuple #[.int .i64 m, .int .i64 b, .nilIface]) (by simp [results, Tryd.results34, go_sem]) rfl ⟨by rw [← HV.out]; rfl, Hc.out⟩
    | succ k =>
      have e1 : (17 - ((k + 1 : Nat) : Int)) = 16 - k := by omega
      have hcall := HC.out wr (16 - k) hc
      rw [HF.out] at hcall
      have hd : decide ((16 : Int) - k ≤ 16) = true := by simp; omega
      have hu : covR f (k + 1) m b = if (f (16 - k)).2 = 0 then (if m < (f (16 - k)).1 then covR f k (f (16 - k)).1 (16 - k) else covR f k m b) else (0, 0, (f (16 - k)).2) := rfl
      rw [hu] at hcov
      generalize f (16 - k) = r at *
      obtain ⟨r1, r2⟩ := r
      simp only at hcov hcall
      have HV := Lib.hid hcov
      have Hc := Lib.hid hc
      have HCa := Lib.hid hcall
      clear hcov hc hcall hu
      rw [e1]
      by_cases h2 : r2 = 0
      · subst h2
        by_cases hm : m < r1
        · have hm' : decide (m < r1) = true := by simpa using hm
          go_wp2_with fail
          refine HCa.out.mono ?_
          rintro e w2 ⟨rfl, hc2⟩
          have Hc2 := Lib.hid (Chg.step Hc.out hc2 (fun k hk => hk.elim))
          rw [errC_nil rfl]
          clear hc2
          go_wp2_with fail
          exact ⟨⟨k, _, _, by omega, by simp; omega, rfl, rfl, Hc2.out, by rw [← HV.out, if_pos trivial, if_pos hm]⟩, by simp [intOf]; omega⟩
        · have hm' : decide (m < r1) = false := by simpa using hm
          go_wp2_with fail
          refine HCa.out.mono ?_
          rintro e w2 ⟨rfl, hc2⟩
          have Hc2 := Lib.hid (Chg.step Hc.out hc2 (fun k hk => hk.elim))
          rw [errC_nil rfl]
          clear hc2
          go_wp2_with fail
          exact ⟨⟨k, _, _, by omega, by simp; omega, rfl, rfl, Hc2.out, by rw [← HV.out, if_pos trivial, if_neg (by omega)]⟩, by simp [intOf]; omega⟩
      · obtain ⟨a, ha⟩ := errC_not (A := A) h2
        have Ha := Lib.hid ha
        have hcv : covR f 16 0 1 = (0, 0, r2) := by rw [← HV.out, if_neg h2]
        have HV := Lib.hid hcv
        go_wp2_with fail
        refine HCa.out.mono ?_
        rintro e w2 ⟨rfl, hc2⟩
        have Hc2 := Lib.hid (Chg.step Hc.out hc2 (fun k hk => hk.elim))
        rw [Ha.out]
        clear hc2 ha hcv h2
        go_wp2_with fail
        exact bodyPost_ret (v := .tuple #[.int .i64 0, .int .i64 0, errV a]) (by simp [results, Tryd.results34, go_sem]) rfl ⟨by rw [HV.out, Ha.out], Hc2.out⟩
end Go.Proofs.YtljlnojelagmfaaDoor
