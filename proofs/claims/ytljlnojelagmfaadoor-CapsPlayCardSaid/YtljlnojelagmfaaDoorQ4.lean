/-
  The reference's Sum. (Chapter 16.)
-/
import Derived.Test.YtljlnojelagmfaaDoorQ3
namespace Go.Proofs.YtljlnojelagmfaaDoor
open Go.RowKit Go.Pl
set_option maxRecDepth 100000

/-- The lines of a group among the first so many. -/
def partF (D : Nat → Quad) (n : Nat) (g : Grp) : Int := F0 (pairsOf D n) g
theorem partF_succ (D : Nat → Quad) (n : Nat) (g : Grp) : partF D (n + 1) g = partF D n g + if (pairOf (D n)).1 = g then (D n).2.2.2 else 0 := by
  unfold partF F0
  rw [pairsOf_succ, cameTo_snoc]
  rfl
theorem allIn_pairs {D : Nat → Quad} {n : Nat} (h : ∀ j, j < n → fitsB (D j) = true) : AllIn (pairsOf D n) := fun p hp => by
  obtain ⟨j, hj, rfl⟩ := pairsOf_mem hp
  have hf := h j hj
  refine ⟨?_, fits_amt hf⟩
  unfold fitsB at hf
  simp only [Bool.and_eq_true, decide_eq_true_eq] at hf
  unfold inG pairOf
  simp only
  omega
theorem partF_mono {D : Nat → Quad} {j n : Nat} (h : ∀ j, j < n → fitsB (D j) = true) (hj : j ≤ n) (g : Grp) : partF D j g ≤ partF D n g := by
  induction n with
  | zero => obtain rfl : j = 0 := by omega
            exact Int.le_refl _
  | succ n ih =>
    rcases Nat.lt_or_ge j (n + 1) with h' | h'
    · have := ih (fun i hi => h i (by omega)) (by omega)
      rw [partF_succ]
      have hn := fits_amt (h n (by omega))
      simp [amtB] at hn
      split <;> omega
    · obtain rfl : j = n + 1 := by omega
      exact Int.le_refl _
theorem partF_nonneg {D : Nat → Quad} {n : Nat} (h : ∀ j, j < n → fitsB (D j) = true) (g : Grp) : 0 ≤ partF D n g := F0_nonneg (allIn_pairs h) g

/-- What the reference's Sum comes to. -/
def RefPost (l : List ((Int × Int) × Int)) (D : Nat → Quad) (n : Nat) (w : World) (e : Ending) (w' : World) : Prop :=
  Chg S0 w w' ∧
  ((∃ k, k < n ∧ (∀ j, j < k → fitsB (D j) = true) ∧ fitsB (D k) = false ∧ e = .returned (.tuple #[.int .i64 0, .agg #[.int .i64 103, .bool true, .int .i64 k]])) ∨
   ((∀ j, j < n → fitsB (D j) = true) ∧ OverQ l (pairsOf D n) ∧ e = .returned (.tuple #[.int .i64 0, faultV 104])) ∨
   ((∀ j, j < n → fitsB (D j) = true) ∧ ¬ OverQ l (pairsOf D n) ∧ e = .returned (.tuple #[.int .i64 (Sa l (pairsOf D n)), faultV 0])))

set_option maxHeartbeats 8000000 in
theorem refSum46 (yb : Nat) (l : List ((Int × Int) × Int)) (v : Value) (n : Nat) (D : Nat → Quad) (w : World) (hY : LimAt w yb l) (hD : DosAt w v n D) (hn : n ≤ 1000) :
    Calls Tryd.prog 46 #[.pointer (some ⟨yb, 0, .none⟩), v] w fun e w' => RefPost l D n w e w' := by
  obtain ⟨p, cap, rfl, hcap, hD⟩ := hD
  go_enter Tryd.func46, Tryd.ntmps46
  go_wp2
  obtain ⟨W, hW⟩ : ∃ W, w.alloc (.cells #[.int .i64 0, .bool false, .int .i64 0] 104) = W := ⟨_, rfl⟩
  have hcW : Chg S0 w W := by rw [← hW]; exact (Chg.refl _ _).alloc _
  have hFW : CellsAt W w.heap.size #[.int .i64 0, .bool false, .int .i64 0] 104 := by rw [← hW]; exact CellsAt.new _ _ _
  rw [hW]
  obtain ⟨fb, hfb⟩ : ∃ fb, w.heap.size = fb := ⟨_, rfl⟩
  rw [hfb] at hFW ⊢
  have Hfb := Lib.hid (Nat.le_of_eq hfb)
  have hYW : LimAt W yb l := CellsAt.chg hY hcW (fun h => h)
  have hlt := CellsAt.lt hYW
  have HY := Lib.hid hYW
  have HF := Lib.hid hFW
  have HW := Lib.hid hcW
  have HDw := Lib.hid hD
  clear hY hYW hFW hcW hW hfb hD
  go_loop [6] (fun i => ∃ k : Nat, k ≤ n ∧ i = .int .i64 k ∧ (∀ j, j < k → fitsB (D j) = true)) (fun i => n - (intOf i).toNat)
  case atStart => exact ⟨0, Nat.zero_le _, rfl, fun j hj => by omega⟩
  case round =>
    obtain ⟨k, hk, rfl, hfit⟩ := hrel
    have Hf := Lib.hid hfit
    clear hfit
    by_cases hkn : k < n
    · have hkn' : decide ((k : Int) < n) = true := by simp; omega
      obtain ⟨a, pb, po, ps, hpa, hadd, q0, q1, q2, q3⟩ := HDw.out k hkn
      have q0 := HW.out.cellA q0 (fun h => h)
      have q1 := HW.out.cellA q1 (fun h => h)
      have q2 := HW.out.cellA q2 (fun h => h)
      have q3 := HW.out.cellA q3 (fun h => h)
      subst hpa
      obtain ⟨d, hd⟩ : ∃ d, D k = d := ⟨_, rfl⟩
      rw [hd] at q0 q1 q2 q3
      obtain ⟨d0, d1, d2, d3⟩ := d
      simp only at q0 q1 q2 q3
      have Hd := Lib.hid hd
      clear hd
      have ac := fun w => in87 d0 1 6 w
      have am := fun w => in87 d1 1 6 w
      have ai := fun w => in87 d2 0 32 w
      have aa := fun w => amt93 d3 w
      have hfe : fitsB (d0, d1, d2, d3) = ((((decide (1 ≤ d0) && decide (d0 ≤ 6)) && (decide (1 ≤ d1) && decide (d1 ≤ 6))) && (decide (0 ≤ d2) && decide (d2 ≤ 32))) && amtB d3) := by
        unfold fitsB
        simp only [Bool.and_assoc]
      obtain ⟨b0, hb0⟩ : ∃ b, (decide (1 ≤ d0) && decide (d0 ≤ 6)) = b := ⟨_, rfl⟩
      obtain ⟨b1, hb1⟩ : ∃ b, (decide (1 ≤ d1) && decide (d1 ≤ 6)) = b := ⟨_, rfl⟩
      obtain ⟨b2, hb2⟩ : ∃ b, (decide (0 ≤ d2) && decide (d2 ≤ 32)) = b := ⟨_, rfl⟩
      obtain ⟨b3, hb3⟩ : ∃ b, amtB d3 = b := ⟨_, rfl⟩
      rw [hb0, hb1, hb2, hb3] at hfe
      rw [hb0] at ac
      rw [hb1] at am
      rw [hb2] at ai
      rw [hb3] at aa
      have AC := Lib.hid ac
      have AM := Lib.hid am
      have AI := Lib.hid ai
      have AA := Lib.hid aa
      clear ac am ai aa hb0 hb1 hb2 hb3
      cases b0 with
      | false =>
        have HB : Hid (fitsB (d0, d1, d2, d3) = false) := Lib.hid (by rw [hfe]; rfl)
        clear hfe
        go_wp2_with fail
        refine (AC.out _).mono ?_
        rintro e w' ⟨rfl, rfl⟩
        go_wp2_with fail
        refine (placed111 103 k _ (by decide)).mono ?_
        rintro e w2 ⟨rfl, hc2⟩
        have hF2 := HF.out.chg hc2 (fun h => h)
        have k0 := hF2.cell 0
        have k1 := hF2.cell 1
        have k2 := hF2.cell 2
        have g0 := hF2.frozen 0
        have g1 := hF2.frozen 1
        have g2 := hF2.frozen 2
        simp only [List.getElem?_toArray, List.getElem?_cons_zero, List.getElem?_cons_succ] at k0 k1 k2
        have hl2 := hF2.lt
        have Hc2 := Lib.hid (Chg.step HW.out hc2 (fun _ h => h.elim))
        clear hc2 hF2
        go_wp2_with fail
        refine bodyPost_ret (v := .tuple #[.int .i64 0, .agg #[.int .i64 103, .bool true, .int .i64 k]]) (by simp [results, Tryd.results46, go_sem, k0, k1, k2]) rfl ⟨?_, .inl ⟨k, hkn, Hf.out, by rw [Hd.out]; exact HB.out, rfl⟩⟩
        exact Chg.setCell (Chg.setCell (Chg.setCell Hc2.out ⟨fb, 0, none⟩ _ (.inr Hfb.out)) ⟨fb, 1, none⟩ _ (.inr Hfb.out)) ⟨fb, 2, none⟩ _ (.inr Hfb.out)
      | true =>
        cases b1 with
        | false =>
          have HB : Hid (fitsB (d0, d1, d2, d3) = false) := Lib.hid (by rw [hfe]; rfl)
          clear hfe
          go_wp2_with fail
          refine (AC.out _).mono ?_
          rintro e w' ⟨rfl, rfl⟩
          go_wp2_with fail
          refine (AM.out _).mono ?_
          rintro e w' ⟨rfl, rfl⟩
          go_wp2_with fail
          refine (placed111 103 k _ (by decide)).mono ?_
          rintro e w2 ⟨rfl, hc2⟩
          have hF2 := HF.out.chg hc2 (fun h => h)
          have k0 := hF2.cell 0
          have k1 := hF2.cell 1
          have k2 := hF2.cell 2
          have g0 := hF2.frozen 0
          have g1 := hF2.frozen 1
          have g2 := hF2.frozen 2
          simp only [List.getElem?_toArray, List.getElem?_cons_zero, List.getElem?_cons_succ] at k0 k1 k2
          have hl2 := hF2.lt
          have Hc2 := Lib.hid (Chg.step HW.out hc2 (fun _ h => h.elim))
          clear hc2 hF2
          go_wp2_with fail
          refine bodyPost_ret (v := .tuple #[.int .i64 0, .agg #[.int .i64 103, .bool true, .int .i64 k]]) (by simp [results, Tryd.results46, go_sem, k0, k1, k2]) rfl ⟨?_, .inl ⟨k, hkn, Hf.out, by rw [Hd.out]; exact HB.out, rfl⟩⟩
          exact Chg.setCell (Chg.setCell (Chg.setCell Hc2.out ⟨fb, 0, none⟩ _ (.inr Hfb.out)) ⟨fb, 1, none⟩ _ (.inr Hfb.out)) ⟨fb, 2, none⟩ _ (.inr Hfb.out)
        | true =>
          cases b2 with
          | false =>
            have HB : Hid (fitsB (d0, d1, d2, d3) = false) := Lib.hid (by rw [hfe]; rfl)
            clear hfe
            go_wp2_with fail
            refine (AC.out _).mono ?_
            rintro e w' ⟨rfl, rfl⟩
            go_wp2_with fail
            refine (AM.out _).mono ?_
            rintro e w' ⟨rfl, rfl⟩
            go_wp2_with fail
            refine (AI.out _).mono ?_
            rintro e w' ⟨rfl, rfl⟩
            go_wp2_with fail
            refine (placed111 103 k _ (by decide)).mono ?_
            rintro e w2 ⟨rfl, hc2⟩
            have hF2 := HF.out.chg hc2 (fun h => h)
            have k0 := hF2.cell 0
            have k1 := hF2.cell 1
            have k2 := hF2.cell 2
            have g0 := hF2.frozen 0
            have g1 := hF2.frozen 1
            have g2 := hF2.frozen 2
            simp only [List.getElem?_toArray, List.getElem?_cons_zero, List.getElem?_cons_succ] at k0 k1 k2
            have hl2 := hF2.lt
            have Hc2 := Lib.hid (Chg.step HW.out hc2 (fun _ h => h.elim))
            clear hc2 hF2
            go_wp2_with fail
            refine bodyPost_ret (v := .tuple #[.int .i64 0, .agg #[.int .i64 103, .bool true, .int .i64 k]]) (by simp [results, Tryd.results46, go_sem, k0, k1, k2]) rfl ⟨?_, .inl ⟨k, hkn, Hf.out, by rw [Hd.out]; exact HB.out, rfl⟩⟩
            exact Chg.setCell (Chg.setCell (Chg.setCell Hc2.out ⟨fb, 0, none⟩ _ (.inr Hfb.out)) ⟨fb, 1, none⟩ _ (.inr Hfb.out)) ⟨fb, 2, none⟩ _ (.inr Hfb.out)
          | true =>
            cases b3 with
            | false =>
              have HB : Hid (fitsB (d0, d1, d2, d3) = false) := Lib.hid (by rw [hfe]; rfl)
              clear hfe
              go_wp2_with fail
              refine (AC.out _).mono ?_
              rintro e w' ⟨rfl, rfl⟩
              go_wp2_with fail
              refine (AM.out _).mono ?_
              rintro e w' ⟨rfl, rfl⟩
              go_wp2_with fail
              refine (AI.out _).mono ?_
              rintro e w' ⟨rfl, rfl⟩
              go_wp2_with fail
              refine (AA.out _).mono ?_
              rintro e w' ⟨rfl, rfl⟩
              go_wp2_with fail
              refine (placed111 103 k _ (by decide)).mono ?_
              rintro e w2 ⟨rfl, hc2⟩
              have hF2 := HF.out.chg hc2 (fun h => h)
              have k0 := hF2.cell 0
              have k1 := hF2.cell 1
              have k2 := hF2.cell 2
              have g0 := hF2.frozen 0
              have g1 := hF2.frozen 1
              have g2 := hF2.frozen 2
              simp only [List.getElem?_toArray, List.getElem?_cons_zero, List.getElem?_cons_succ] at k0 k1 k2
              have hl2 := hF2.lt
              have Hc2 := Lib.hid (Chg.step HW.out hc2 (fun _ h => h.elim))
              clear hc2 hF2
              go_wp2_with fail
              refine bodyPost_ret (v := .tuple #[.int .i64 0, .agg #[.int .i64 103, .bool true, .int .i64 k]]) (by simp [results, Tryd.results46, go_sem, k0, k1, k2]) rfl ⟨?_, .inl ⟨k, hkn, Hf.out, by rw [Hd.out]; exact HB.out, rfl⟩⟩
              exact Chg.setCell (Chg.setCell (Chg.setCell Hc2.out ⟨fb, 0, none⟩ _ (.inr Hfb.out)) ⟨fb, 1, none⟩ _ (.inr Hfb.out)) ⟨fb, 2, none⟩ _ (.inr Hfb.out)
            | true =>
              have HB : Hid (fitsB (d0, d1, d2, d3) = true) := Lib.hid (by rw [hfe]; rfl)
              clear hfe
              go_wp2_with fail
              refine (AC.out _).mono ?_
              rintro e w' ⟨rfl, rfl⟩
              go_wp2_with fail
              refine (AM.out _).mono ?_
              rintro e w' ⟨rfl, rfl⟩
              go_wp2_with fail
              refine (AI.out _).mono ?_
              rintro e w' ⟨rfl, rfl⟩
              go_wp2_with fail
              refine (AA.out _).mono ?_
              rintro e w' ⟨rfl, rfl⟩
              go_wp2_with fail
              exact ⟨⟨k + 1, by omega, by go_num, fun j hj => by rcases Nat.lt_or_ge j k with h | h; exact Hf.out j h; (obtain rfl : j = k := by omega); rw [Hd.out]; exact HB.out⟩, by simp [intOf]; omega⟩
    · obtain rfl : k = n := by omega
      clear hkn
      go_wp2_with fail
      go_loop [7, 8, 9] (fun av ob cv => ∃ (cc al : Int), 1 ≤ cc ∧ cc ≤ 7 ∧ cv = .int .i64 cc ∧ av = .int .i64 al ∧ ob = .bool true ∧ 0 ≤ al ∧ al ≤ 1000000000000000 ∧ al = sumR (c3 l (pairsOf D k)) 1 (cc - 1).toNat ∧ ∀ c', 1 ≤ c' → c' < cc → (∀ m' i', 1 ≤ m' → m' ≤ 6 → 0 ≤ i' → i' ≤ 32 → F0 (pairsOf D k) (c', m', i') ≤ 1000000000000000) ∧ (∀ m', 1 ≤ m' → m' ≤ 6 → Sm l (pairsOf D k) c' m' ≤ 1000000000000000) ∧ Sc l (pairsOf D k) c' ≤ 1000000000000000) (fun _ _ cv => (7 - intOf cv).toNat)
      case atStart => exact ⟨1, 0, by decide, by decide, rfl, rfl, rfl, by decide, by decide, rfl, fun c' h0 h1 => by omega⟩
      case round =>
        obtain ⟨cc, al, hcc1, hcc7, rfl, rfl, rfl, hal0, hal1, h2⟩ := hrel
        have K2 := Lib.hid h2
        clear h2
        by_cases hcc6 : cc ≤ 6
        · have hcc6' : decide (cc ≤ 6) = true := by simpa using hcc6
          have Hcc : Hid (1 ≤ cc ∧ cc ≤ 6) := Lib.hid ⟨hcc1, hcc6⟩
          go_wp2_with fail
          go_loop [8, 10, 11] (fun ob bb mv => ∃ (mm bc : Int) (ok : Bool), 1 ≤ mm ∧ mm ≤ 7 ∧ mv = .int .i64 mm ∧ bb = .int .i64 bc ∧ ob = .bool ok ∧ 0 ≤ bc ∧ bc ≤ (mm - 1) * 66000000000000000 ∧ (ok = true → bc = sumR (c2 l (pairsOf D k) cc) 1 (mm - 1).toNat ∧ bc ≤ 1000000000000000 ∧ ∀ m', 1 ≤ m' → m' < mm → (∀ i', 0 ≤ i' → i' ≤ 32 → F0 (pairsOf D k) (cc, m', i') ≤ 1000000000000000) ∧ Sm l (pairsOf D k) cc m' ≤ 1000000000000000) ∧ (ok = false → OverQ l (pairsOf D k))) (fun _ _ mv => (7 - intOf mv).toNat)
          case atStart => exact ⟨1, 0, true, by decide, by decide, rfl, rfl, rfl, by decide, by decide, fun _ => ⟨rfl, by decide, fun m' h0 h1 => by omega⟩, fun h => by cases h⟩
          case round =>
            obtain ⟨mm, bc, ok3, hm1, hm7, rfl, rfl, rfl, hbc0, hbc1, h3⟩ := hrel
            have K3 := Lib.hid h3
            clear h3
            by_cases hm6 : mm ≤ 6
            · have hm6' : decide (mm ≤ 6) = true := by simpa using hm6
              have Hmm : Hid (1 ≤ mm ∧ mm ≤ 6) := Lib.hid ⟨hm1, hm6⟩
              go_wp2_with fail
              go_loop [8, 12, 13] (fun ob bb iv => ∃ (ii bm : Int) (ok : Bool), 0 ≤ ii ∧ ii ≤ 33 ∧ iv = .int .i64 ii ∧ bb = .int .i64 bm ∧ ob = .bool ok ∧ 0 ≤ bm ∧ bm ≤ ii * 2000000000000000 ∧ (ok = true → ok3 = true ∧ bm = sumR (c1 l (pairsOf D k) cc mm) 0 ii.toNat ∧ bm ≤ 1000000000000000 ∧ ∀ i', 0 ≤ i' → i' < ii → F0 (pairsOf D k) (cc, mm, i') ≤ 1000000000000000) ∧ (ok = false → OverQ l (pairsOf D k))) (fun _ _ iv => (33 - intOf iv).toNat)
              case atStart => exact ⟨0, 0, ok3, by decide, by decide, rfl, rfl, rfl, by decide, by decide, fun h => ⟨h, rfl, by decide, fun i' h0 h1 => by omega⟩, K3.out.2⟩
              case round =>
                obtain ⟨ii, bm, ok4, hi0, hi33, rfl, rfl, rfl, hb0, hb1, h4⟩ := hrel
                have K4 := Lib.hid h4
                clear h4
                by_cases hi32 : ii ≤ 32
                · have hi32' : decide (ii ≤ 32) = true := by simpa using hi32
                  go_wp2_with fail
                  go_loop [8, 14, 15] (fun ob nn jj => ∃ (j : Nat) (nv : Int) (ok : Bool), j ≤ k ∧ jj = .int .i64 j ∧ nn = .int .i64 nv ∧ ob = .bool ok ∧ 0 ≤ nv ∧ nv ≤ 2000000000000000 ∧ (ok = true → ok4 = true ∧ nv = partF D j (cc, mm, ii) ∧ nv ≤ 1000000000000000) ∧ (ok = false → OverQ l (pairsOf D k))) (fun _ _ jj => k - (intOf jj).toNat)
                  case atStart => exact ⟨0, 0, ok4, Nat.zero_le _, rfl, rfl, rfl, by decide, by decide, fun h => ⟨h, rfl, by decide⟩, K4.out.2⟩
                  case round =>
                    obtain ⟨j, nv, ok5, hj, rfl, rfl, rfl, hn0, hn1, h5⟩ := hrel
                    have K5 := Lib.hid h5
                    clear h5
                    cases ok5 with
                    | false =>
                      cases hjk : decide ((j : Int) < k)
                      all_goals
                        have c0 := HY.out.c3 ii hi0 (by omega)
                        have hcap := capV_nonneg (lim := gL l (3, ii)) hn0
                        generalize gL l (3, ii) = y at *
                        obtain ⟨hc1, hc2⟩ := hcap
                        cases hs' : decide (bm + capV y nv ≤ 1000000000000000)
                        all_goals
                          go_wp2_with (first
                            | (go_at_call 113; refine (most113 _ _ _).mono ?_; rintro e w' ⟨rfl, rfl⟩)
                            | (go_at_call 112; refine (sum112 _ _ _ (by omega) (by omega) (by omega) (by omega)).mono ?_; rintro e w' ⟨rfl, rfl⟩))
                          all_goals exact ⟨⟨ii + 1, bm + capV y nv, false, by omega, by omega, rfl, rfl, rfl, by omega, by omega, (fun h => by cases h), fun _ => K5.out.2 (by first | rfl | trivial)⟩, by simp [intOf]; omega⟩
                    | true =>
                      by_cases hjk : j < k
                      · have hjk' : decide ((j : Int) < k) = true := by simp; omega
                        obtain ⟨a, pb, po, ps, hpa, hadd, q0, q1, q2, q3⟩ := HDw.out j hjk
                        have q0 := HW.out.cellA q0 (fun h => h)
                        have q1 := HW.out.cellA q1 (fun h => h)
                        have q2 := HW.out.cellA q2 (fun h => h)
                        have q3 := HW.out.cellA q3 (fun h => h)
                        subst hpa
                        obtain ⟨d, hd⟩ : ∃ d, D j = d := ⟨_, rfl⟩
                        rw [hd] at q0 q1 q2 q3
                        obtain ⟨d0, d1, d2, d3⟩ := d
                        simp only at q0 q1 q2 q3
                        have hp := partF_succ D j (cc, mm, ii)
                        rw [hd] at hp
                        have hfd := Hf.out j hjk
                        rw [hd] at hfd
                        have hda := fits_amt hfd
                        simp [amtB] at hda
                        obtain ⟨hda1, hda2⟩ := hda
                        have hnv := (K5.out.1 (by first | rfl | trivial)).2.2
                        have Hp := Lib.hid hp
                        clear hp hd hfd
                        by_cases e0 : d0 = cc
                        · have e0' : (d0 == cc) = true := by simpa using e0
                          by_cases e1 : d1 = mm
                          · have e1' : (d1 == mm) = true := by simpa using e1
                            by_cases e2 : d2 = ii
                            · have e2' : (d2 == ii) = true := by simpa using e2
                              have HP2 : Hid (partF D (j + 1) (cc, mm, ii) = nv + d3) := Lib.hid (by have hp := Hp.out; rw [if_pos (by rw [← e0, ← e1, ← e2]; rfl)] at hp; rw [hp, ← (K5.out.1 (by first | rfl | trivial)).2.1])
                              clear e0 e1 e2
                              by_cases hs : nv + d3 ≤ 1000000000000000
                              · have hs' : decide (nv + d3 ≤ 1000000000000000) = true := by simpa using hs
                                go_wp2_with (first
                                  | (go_at_call 113; refine (most113 _ _ _).mono ?_; rintro e w' ⟨rfl, rfl⟩)
                                  | (go_at_call 112; refine (sum112 _ _ _ (by omega) (by omega) (by omega) (by omega)).mono ?_; rintro e w' ⟨rfl, rfl⟩))
                                exact ⟨⟨j + 1, nv + d3, true, by omega, by go_num, rfl, rfl, by omega, by omega, fun _ => ⟨(K5.out.1 (by first | rfl | trivial)).1, HP2.out.symm, hs⟩, fun h => by cases h⟩, by simp [intOf]; omega⟩
                              · have hs' : decide (nv + d3 ≤ 1000000000000000) = false := by simpa using hs
                                have hov : OverQ l (pairsOf D k) := by
                                  refine .inl ⟨(cc, mm, ii), ⟨Hcc.out.1, Hcc.out.2, Hmm.out.1, Hmm.out.2, hi0, by show ii ≤ 32; omega⟩, ?_⟩
                                  have h1 := partF_mono (n := k) Hf.out (j := j + 1) (by omega) (cc, mm, ii)
                                  rw [HP2.out] at h1
                                  unfold partF at h1
                                  omega
                                have HOv := Lib.hid hov
                                clear hov
                                go_wp2_with (first
                                  | (go_at_call 113; refine (most113 _ _ _).mono ?_; rintro e w' ⟨rfl, rfl⟩)
                                  | (go_at_call 112; refine (sum112 _ _ _ (by omega) (by omega) (by omega) (by omega)).mono ?_; rintro e w' ⟨rfl, rfl⟩))
                                exact ⟨⟨j + 1, nv + d3, false, by omega, by go_num, rfl, rfl, by omega, by omega, (fun h => by cases h), fun _ => HOv.out⟩, by simp [intOf]; omega⟩
                            · have e2' : (d2 == ii) = false := by simpa using e2
                              have HP2 : Hid (partF D (j + 1) (cc, mm, ii) = nv) := Lib.hid (by have hp := Hp.out; rw [if_neg (fun h => e2 (by simp [pairOf] at h; exact h.2.2))] at hp; rw [hp, ← (K5.out.1 (by first | rfl | trivial)).2.1]; omega)
                              clear e0 e1 e2
                              go_wp2_with fail
                              exact ⟨⟨j + 1, nv, true, by omega, by go_num, rfl, rfl, by omega, by omega, fun _ => ⟨(K5.out.1 (by first | rfl | trivial)).1, HP2.out.symm, hnv⟩, fun h => by cases h⟩, by simp [intOf]; omega⟩
                          · have e1' : (d1 == mm) = false := by simpa using e1
                            have HP2 : Hid (partF D (j + 1) (cc, mm, ii) = nv) := Lib.hid (by have hp := Hp.out; rw [if_neg (fun h => e1 (by simp [pairOf] at h; exact h.2.1))] at hp; rw [hp, ← (K5.out.1 (by first | rfl | trivial)).2.1]; omega)
                            clear e0 e1
                            go_wp2_with fail
                            exact ⟨⟨j + 1, nv, true, by omega, by go_num, rfl, rfl, by omega, by omega, fun _ => ⟨(K5.out.1 (by first | rfl | trivial)).1, HP2.out.symm, hnv⟩, fun h => by cases h⟩, by simp [intOf]; omega⟩
                        · have e0' : (d0 == cc) = false := by simpa using e0
                          have HP2 : Hid (partF D (j + 1) (cc, mm, ii) = nv) := Lib.hid (by have hp := Hp.out; rw [if_neg (fun h => e0 (by simp [pairOf] at h; exact h.1))] at hp; rw [hp, ← (K5.out.1 (by first | rfl | trivial)).2.1]; omega)
                          clear e0
                          go_wp2_with fail
                          exact ⟨⟨j + 1, nv, true, by omega, by go_num, rfl, rfl, by omega, by omega, fun _ => ⟨(K5.out.1 (by first | rfl | trivial)).1, HP2.out.symm, hnv⟩, fun h => by cases h⟩, by simp [intOf]; omega⟩
                      · obtain rfl : j = k := by omega
                        have hjk' : decide ((j : Int) < j) = false := by simp
                        clear hjk
                        have c0 := HY.out.c3 ii hi0 (by omega)
                        have hcap := capV_nonneg (lim := gL l (3, ii)) hn0
                        have hex := K5.out.1 (by first | rfl | trivial)
                        have hbm := K4.out.1 hex.1
                        have hst : sumR (c1 l (pairsOf D j) cc mm) 0 (ii + 1).toNat = bm + capV (gL l (3, ii)) nv := by
                          rw [show (ii + 1).toNat = ii.toNat + 1 by omega, sumR_succ, ← hbm.2.1, show (0 : Int) + (ii.toNat : Nat) = ii by omega]
                          unfold c1
                          rw [hex.2.1]
                          rfl
                        have HST := Lib.hid hst
                        have HBM := Lib.hid hbm
                        have HEX := Lib.hid hex
                        clear hst hbm hex
                        generalize gL l (3, ii) = y at *
                        have HST2 := HST
                        obtain ⟨hc1, hc2⟩ := hcap
                        by_cases hs : bm + capV y nv ≤ 1000000000000000
                        · have hs' : decide (bm + capV y nv ≤ 1000000000000000) = true := by simpa using hs
                          go_wp2_with (first
                            | (go_at_call 113; refine (most113 _ _ _).mono ?_; rintro e w' ⟨rfl, rfl⟩)
                            | (go_at_call 112; refine (sum112 _ _ _ (by omega) (by omega) (by omega) (by omega)).mono ?_; rintro e w' ⟨rfl, rfl⟩))
                          exact ⟨⟨ii + 1, bm + capV y nv, true, by omega, by omega, rfl, rfl, rfl, by omega, by omega, fun _ => ⟨HBM.out.1, HST2.out.symm, hs, fun i' h0 h1 => by
                            rcases Int.lt_or_le i' ii with h | h
                            · exact HBM.out.2.2.2 i' h0 h
                            · obtain rfl : i' = ii := by omega
                              have := HEX.out
                              unfold partF at this
                              omega⟩, fun h => by cases h⟩, by simp [intOf]; omega⟩
                        · have hs' : decide (bm + capV y nv ≤ 1000000000000000) = false := by simpa using hs
                          have hov : OverQ l (pairsOf D j) := by
                            refine .inr (.inl ⟨cc, mm, Hcc.out.1, Hcc.out.2, Hmm.out.1, Hmm.out.2, ?_⟩)
                            have h1 : sumR (c1 l (pairsOf D j) cc mm) 0 (ii + 1).toNat ≤ Sm l (pairsOf D j) cc mm := sumR_mono (c1_nonneg (allIn_pairs Hf.out) cc mm) (by omega)
                            rw [HST2.out] at h1
                            omega
                          have HOv := Lib.hid hov
                          clear hov
                          go_wp2_with (first
                            | (go_at_call 113; refine (most113 _ _ _).mono ?_; rintro e w' ⟨rfl, rfl⟩)
                            | (go_at_call 112; refine (sum112 _ _ _ (by omega) (by omega) (by omega) (by omega)).mono ?_; rintro e w' ⟨rfl, rfl⟩))
                          exact ⟨⟨ii + 1, bm + capV y nv, false, by omega, by omega, rfl, rfl, rfl, by omega, by omega, (fun h => by cases h), fun _ => HOv.out⟩, by simp [intOf]; omega⟩
                · obtain rfl : ii = 33 := by omega
                  clear hi32
                  cases ok4 with
                  | true =>
                    have c0 := HY.out.c2 mm (by omega) (by omega)
                    have hcap := capV_nonneg (lim := gL l (2, mm)) hb0
                    have hex := K4.out.1 (by first | rfl | trivial)
                    have hbc := K3.out.1 hex.1
                    have hsm : Sm l (pairsOf D k) cc mm = bm := by rw [hex.2.1]; rfl
                    have hst : sumR (c2 l (pairsOf D k) cc) 1 (mm + 1 - 1).toNat = bc + capV (gL l (2, mm)) bm := by
                      rw [show (mm + 1 - 1).toNat = (mm - 1).toNat + 1 by omega, sumR_succ, ← hbc.1, show (1 : Int) + ((mm - 1).toNat : Nat) = mm by omega]
                      unfold c2
                      rw [hsm]
                    have HST := Lib.hid hst
                    have HBC := Lib.hid hbc
                    have HEX := Lib.hid hex
                    have HSM := Lib.hid hsm
                    clear hst hbc hex hsm
                    generalize gL l (2, mm) = y at *
                    have HST2 := HST
                    obtain ⟨hc1, hc2⟩ := hcap
                    by_cases hs : bc + capV y bm ≤ 1000000000000000
                    · have hs' : decide (bc + capV y bm ≤ 1000000000000000) = true := by simpa using hs
                      go_wp2_with (first
                        | (go_at_call 113; refine (most113 _ _ _).mono ?_; rintro e w' ⟨rfl, rfl⟩)
                        | (go_at_call 112; refine (sum112 _ _ _ (by omega) (by omega) (by omega) (by omega)).mono ?_; rintro e w' ⟨rfl, rfl⟩))
                      exact ⟨⟨mm + 1, bc + capV y bm, true, by omega, by omega, rfl, rfl, rfl, by omega, by omega, fun _ => ⟨HST2.out.symm, hs, fun m' h0 h1 => by
                        rcases Int.lt_or_le m' mm with h | h
                        · exact HBC.out.2.2 m' h0 h
                        · obtain rfl : m' = mm := by omega
                          exact ⟨fun i' g0 g1 => HEX.out.2.2.2 i' g0 (by omega), by rw [HSM.out]; exact HEX.out.2.2.1⟩⟩, fun h => by cases h⟩, by simp [intOf]; omega⟩
                    · have hs' : decide (bc + capV y bm ≤ 1000000000000000) = false := by simpa using hs
                      have hov : OverQ l (pairsOf D k) := by
                        refine .inr (.inr (.inl ⟨cc, Hcc.out.1, Hcc.out.2, ?_⟩))
                        have h1 : sumR (c2 l (pairsOf D k) cc) 1 (mm + 1 - 1).toNat ≤ Sc l (pairsOf D k) cc := sumR_mono (c2_nonneg (allIn_pairs Hf.out) cc) (by omega)
                        rw [HST2.out] at h1
                        omega
                      have HOv := Lib.hid hov
                      clear hov
                      go_wp2_with (first
                        | (go_at_call 113; refine (most113 _ _ _).mono ?_; rintro e w' ⟨rfl, rfl⟩)
                        | (go_at_call 112; refine (sum112 _ _ _ (by omega) (by omega) (by omega) (by omega)).mono ?_; rintro e w' ⟨rfl, rfl⟩))
                      exact ⟨⟨mm + 1, bc + capV y bm, false, by omega, by omega, rfl, rfl, rfl, by omega, by omega, (fun h => by cases h), fun _ => HOv.out⟩, by simp [intOf]; omega⟩
                  | false =>
                    have c0 := HY.out.c2 mm (by omega) (by omega)
                    have hcap := capV_nonneg (lim := gL l (2, mm)) hb0
                    generalize gL l (2, mm) = y at *
                    obtain ⟨hc1, hc2⟩ := hcap
                    cases hs' : decide (bc + capV y bm ≤ 1000000000000000)
                    all_goals
                      go_wp2_with (first
                        | (go_at_call 113; refine (most113 _ _ _).mono ?_; rintro e w' ⟨rfl, rfl⟩)
                        | (go_at_call 112; refine (sum112 _ _ _ (by omega) (by omega) (by omega) (by omega)).mono ?_; rintro e w' ⟨rfl, rfl⟩))
                      exact ⟨⟨mm + 1, bc + capV y bm, false, by omega, by omega, rfl, rfl, rfl, by omega, by omega, (fun h => by cases h), fun _ => K4.out.2 (by first | rfl | trivial)⟩, by simp [intOf]; omega⟩
            · obtain rfl : mm = 7 := by omega
              clear hm6
              cases ok3 with
              | true =>
                have c0 := HY.out.c1 cc (by omega) (by omega)
                have hcap := capV_nonneg (lim := gL l (1, cc)) hbc0
                have hex := K3.out.1 (by first | rfl | trivial)
                have hsc : Sc l (pairsOf D k) cc = bc := by rw [hex.1]; rfl
                have hst : sumR (c3 l (pairsOf D k)) 1 (cc + 1 - 1).toNat = al + capV (gL l (1, cc)) bc := by
                  rw [show (cc + 1 - 1).toNat = (cc - 1).toNat + 1 by omega, sumR_succ, ← K2.out.1, show (1 : Int) + ((cc - 1).toNat : Nat) = cc by omega]
                  unfold c3
                  rw [hsc]
                have HST := Lib.hid hst
                have HEX := Lib.hid hex
                have HSC := Lib.hid hsc
                clear hst hex hsc
                generalize gL l (1, cc) = y at *
                have HST2 := HST
                obtain ⟨hc1, hc2⟩ := hcap
                by_cases hs : al + capV y bc ≤ 1000000000000000
                · have hs' : decide (al + capV y bc ≤ 1000000000000000) = true := by simpa using hs
                  go_wp2_with (first
                    | (go_at_call 113; refine (most113 _ _ _).mono ?_; rintro e w' ⟨rfl, rfl⟩)
                    | (go_at_call 112; refine (sum112 _ _ _ (by omega) (by omega) (by omega) (by omega)).mono ?_; rintro e w' ⟨rfl, rfl⟩))
                  exact ⟨⟨cc + 1, al + capV y bc, by omega, by omega, rfl, rfl, rfl, by omega, hs, HST2.out.symm, fun c' h0 h1 => by
                    rcases Int.lt_or_le c' cc with h | h
                    · exact K2.out.2 c' h0 h
                    · obtain rfl : c' = cc := by omega
                      exact ⟨fun m' i' g0 g1 g2 g3 => (HEX.out.2.2 m' g0 (by omega)).1 i' g2 g3, fun m' g0 g1 => (HEX.out.2.2 m' g0 (by omega)).2, by rw [HSC.out]; exact HEX.out.2.1⟩⟩, by simp [intOf]; omega⟩
                · have hs' : decide (al + capV y bc ≤ 1000000000000000) = false := by simpa using hs
                  have hov : OverQ l (pairsOf D k) := by
                    refine .inr (.inr (.inr ?_))
                    have h1 : sumR (c3 l (pairsOf D k)) 1 (cc + 1 - 1).toNat ≤ Sa l (pairsOf D k) := sumR_mono (c3_nonneg (allIn_pairs Hf.out)) (by omega)
                    rw [HST2.out] at h1
                    omega
                  have HOv := Lib.hid hov
                  clear hov
                  go_wp2_with (first
                    | (go_at_call 113; refine (most113 _ _ _).mono ?_; rintro e w' ⟨rfl, rfl⟩)
                    | (go_at_call 112; refine (sum112 _ _ _ (by omega) (by omega) (by omega) (by omega)).mono ?_; rintro e w' ⟨rfl, rfl⟩))
                  refine (bare86 _ _).mono ?_
                  rintro e w2 ⟨rfl, hc2⟩
                  skip
                  have hF2 := HF.out.chg hc2 (fun h => h)
                  have k0 := hF2.cell 0
                  have k1 := hF2.cell 1
                  have k2 := hF2.cell 2
                  have g0 := hF2.frozen 0
                  have g1 := hF2.frozen 1
                  have g2 := hF2.frozen 2
                  simp only [List.getElem?_toArray, List.getElem?_cons_zero, List.getElem?_cons_succ] at k0 k1 k2
                  have hl2 := hF2.lt
                  have Hc2 := Lib.hid (Chg.step HW.out hc2 (fun _ h => h.elim))
                  clear hc2 hF2
                  go_wp2_with fail
                  refine bodyPost_ret (v := .tuple #[.int .i64 0, faultV 104]) (by simp [results, Tryd.results46, go_sem, k0, k1, k2]) rfl ⟨?_, .inr (.inl ⟨Hf.out, HOv.out, rfl⟩)⟩
                  exact Chg.setCell (Chg.setCell (Chg.setCell Hc2.out ⟨fb, 0, none⟩ _ (.inr Hfb.out)) ⟨fb, 1, none⟩ _ (.inr Hfb.out)) ⟨fb, 2, none⟩ _ (.inr Hfb.out)
              | false =>
                have c0 := HY.out.c1 cc (by omega) (by omega)
                have hcap := capV_nonneg (lim := gL l (1, cc)) hbc0
                have HOv := Lib.hid (K3.out.2 (by first | rfl | trivial))
                generalize gL l (1, cc) = y at *
                obtain ⟨hc1, hc2⟩ := hcap
                cases hs' : decide (al + capV y bc ≤ 1000000000000000)
                all_goals
                  go_wp2_with (first
                    | (go_at_call 113; refine (most113 _ _ _).mono ?_; rintro e w' ⟨rfl, rfl⟩)
                    | (go_at_call 112; refine (sum112 _ _ _ (by omega) (by omega) (by omega) (by omega)).mono ?_; rintro e w' ⟨rfl, rfl⟩))
                  refine (bare86 _ _).mono ?_
                  rintro e w2 ⟨rfl, hc2⟩
                  skip
                  have hF2 := HF.out.chg hc2 (fun h => h)
                  have k0 := hF2.cell 0
                  have k1 := hF2.cell 1
                  have k2 := hF2.cell 2
                  have g0 := hF2.frozen 0
                  have g1 := hF2.frozen 1
                  have g2 := hF2.frozen 2
                  simp only [List.getElem?_toArray, List.getElem?_cons_zero, List.getElem?_cons_succ] at k0 k1 k2
                  have hl2 := hF2.lt
                  have Hc2 := Lib.hid (Chg.step HW.out hc2 (fun _ h => h.elim))
                  clear hc2 hF2
                  go_wp2_with fail
                  refine bodyPost_ret (v := .tuple #[.int .i64 0, faultV 104]) (by simp [results, Tryd.results46, go_sem, k0, k1, k2]) rfl ⟨?_, .inr (.inl ⟨Hf.out, HOv.out, rfl⟩)⟩
                  exact Chg.setCell (Chg.setCell (Chg.setCell Hc2.out ⟨fb, 0, none⟩ _ (.inr Hfb.out)) ⟨fb, 1, none⟩ _ (.inr Hfb.out)) ⟨fb, 2, none⟩ _ (.inr Hfb.out)
        · obtain rfl : cc = 7 := by omega
          clear hcc6
          have hno : ¬ OverQ l (pairsOf D k) := by
            rintro (⟨⟨g1, g2, g3⟩, hg, h⟩ | ⟨c, m, h1, h2, h3, h4, h⟩ | ⟨c, h1, h2, h⟩ | h)
            · unfold inG at hg
              simp only at hg
              have := (K2.out.2 g1 hg.1 (by omega)).1 g2 g3 hg.2.2.1 hg.2.2.2.1 hg.2.2.2.2.1 hg.2.2.2.2.2
              omega
            · have := (K2.out.2 c h1 (by omega)).2.1 m h3 h4
              omega
            · have := (K2.out.2 c h1 (by omega)).2.2
              omega
            · have : al = Sa l (pairsOf D k) := K2.out.1
              omega
          have HNo := Lib.hid hno
          have HAl : Hid (al = Sa l (pairsOf D k)) := Lib.hid K2.out.1
          clear hno
          go_wp2_with fail
          refine (none114 _).mono ?_
          rintro e w2 ⟨rfl, hc2⟩
          skip
          have hF2 := HF.out.chg hc2 (fun h => h)
          have k0 := hF2.cell 0
          have k1 := hF2.cell 1
          have k2 := hF2.cell 2
          have g0 := hF2.frozen 0
          have g1 := hF2.frozen 1
          have g2 := hF2.frozen 2
          simp only [List.getElem?_toArray, List.getElem?_cons_zero, List.getElem?_cons_succ] at k0 k1 k2
          have hl2 := hF2.lt
          have Hc2 := Lib.hid (Chg.step HW.out hc2 (fun _ h => h.elim))
          clear hc2 hF2
          go_wp2_with fail
          refine bodyPost_ret (v := .tuple #[.int .i64 al, faultV 0]) (by simp [results, Tryd.results46, go_sem, k0, k1, k2]) rfl ⟨?_, .inr (.inr ⟨Hf.out, HNo.out, by rw [HAl.out]⟩)⟩
          exact Chg.setCell (Chg.setCell (Chg.setCell Hc2.out ⟨fb, 0, none⟩ _ (.inr Hfb.out)) ⟨fb, 1, none⟩ _ (.inr Hfb.out)) ⟨fb, 2, none⟩ _ (.inr Hfb.out)
end Go.Proofs.YtljlnojelagmfaaDoor
