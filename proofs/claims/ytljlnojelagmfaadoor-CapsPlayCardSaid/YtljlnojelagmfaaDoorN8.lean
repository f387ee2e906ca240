/-
  StressPlays: whatever losses are set, the table answers as the reference: its walk. (Chapter 22.)
-/
import Derived.Test.YtljlnojelagmfaaDoorN7
namespace Go.Proofs.YtljlnojelagmfaaDoor
open Go.RowKit Go.Pl Go.Shelf Go.Sort
set_option maxRecDepth 100000

set_option maxHeartbeats 1000000 in
/-- (*stress.Table).All. -/
theorem tabAll31 (tb : Nat) (m : Option Nat) (l : List ((Int × Int) × Int)) (w : World) (hL : TabAt 62 w tb m l) (hN : l.length ≤ 1000000) :
    Calls Tryd.prog 31 #[.pointer (some ⟨tb, 0, .none⟩)] w fun e w' => ∃ (v : Value) (ks : List (Int × Int)), e = .returned v ∧ SortedKeys59 w w' v l ks ∧ Chg S0 w w' := by
  have c0 := hL.cells.cell 0
  simp only [List.getElem?_toArray, List.getElem?_cons_zero] at c0
  have hlt := hL.cells.lt
  cases m with
  | none =>
    have hl : l = [] := hL.map
    subst hl
    have hs := sortedFunc94_nil w.heap.size (w.alloc (.cells #[.map none] 60)) (by simp)
    have H := Lib.hid hs
    clear hs
    go_enter Tryd.func31, Tryd.ntmps31
    go_wp2_with (first
      | (go_at_call 95; refine (mapsKeys95 _ _).mono ?_; rintro e w' ⟨rfl, rfl⟩)
      | (go_at_call 94; refine H.out.mono ?_; rintro e w' ⟨rfl, h4⟩))
    go_ret
    exact ⟨_, [], rfl, ⟨by simp, by simp, rfl, .inl ⟨rfl, rfl⟩⟩, Chg.step ((Chg.refl _ _).alloc _) h4 (fun k hk => hk.elim)⟩
  | some x =>
    have hM : MapAt ek2 ekI w x l := hL.map
    have hs := sortedFunc94 w.heap.size x l (w.alloc (.cells #[.map (some x)] 60)) (by simp) (hM.alloc _) hN
    have H := Lib.hid hs
    clear hs
    go_enter Tryd.func31, Tryd.ntmps31
    go_wp2_with (first
      | (go_at_call 95; refine (mapsKeys95 _ _).mono ?_; rintro e w' ⟨rfl, rfl⟩)
      | (go_at_call 94; refine H.out.mono ?_; rintro e w' ⟨v, ks, rfl, ⟨h1, h2, h3⟩, h4⟩))
    go_ret
    exact ⟨v, ks, rfl, ⟨h1, h2, ownsRow_base_a h3 (by simp)⟩, Chg.step ((Chg.refl _ _).alloc _) h4 (fun k hk => hk.elim)⟩

theorem tabGet38g (tb : Nat) (m : Option Nat) (c b : Int) (l : List ((Int × Int) × Int)) (w : World) (hL : TabAt 62 w tb m l) :
    Calls Tryd.prog 38 #[.pointer (some ⟨tb, 0, .none⟩), ek2 (c, b)] w fun e w' => e = .returned (.int .i64 (gOf l (c, b))) ∧ Chg S0 w w' := tabGet38 tb m c b l w hL
theorem zero66 : Tryd.zeroCells66 = lossCells [] := by kernel_rfl

set_option maxHeartbeats 4000000 in
theorem stressPlays_walk (B : Nat) (A : Nat → Addr) (v u : Value) (n : Nat) (D : Nat → Int × Int × Int) (l : List Int) (sc a1 a2 : Int) (w : World) (hE : ErrsAt B A w) (hB : B ≤ w.heap.size) (hD : TriAt w v n D) (hI : IntsAt w u l) (hn : n ≤ 60) (hl : l.length ≤ 40) :
    Calls Tryd.prog 5 #[v, u, .int .i64 sc, ek2 (a1, a2)] w fun e w' => e = .returned (.bool true) ∧ Chg S0 w w' := by
  obtain ⟨p, cap, rfl, hcap, hD⟩ := hD
  have HI := Lib.hid hI
  obtain ⟨pu, capu, rfl, hcapu, _⟩ := hI
  show Calls _ _ #[_, _, _, .agg #[.int .i64 a1, .int .i64 a2]] _ _
  have hn' : decide ((60 : Int) < n) = false := by simp; omega
  have hl' : decide ((40 : Int) < l.length) = false := by simp; omega
  have hf := first22 B A _ (hE.alloc (.cells #[.int .i64 a1, .int .i64 a2] 59))
  have HF := Lib.hid hf
  have HE := Lib.hid hE
  clear hf hE
  go_enter Tryd.func5, Tryd.ntmps5
  go_wp2_with (go_at_call 28; refine HF.out.mono ?_; rintro e w1 ⟨rfl, hc1⟩)
  have hd1 : Chg S0 w w1 := Chg.step ((Chg.refl S0 w).alloc _) hc1 (fun k hk => hk.elim)
  have hs1 := hd1.size
  have hAsk : CellsAt w1 w.heap.size #[.int .i64 a1, .int .i64 a2] 59 := (CellsAt.new w _ _).chg hc1 (fun h => h)
  have HD1 := Lib.hid hd1
  have HA := Lib.hid hAsk
  clear hc1 hd1 hAsk
  go_loopw [12] (fun i wr => ∃ (k : Nat) (m : Option Nat) (L : List ((Int × Int) × Int)), k ≤ n ∧ i = .int .i64 k ∧ Strs B A w1 w1.heap.size (w1.heap.size + 1) m L L wr ∧ Losses L ∧ L.length ≤ k) (fun i _ => n - (intOf i).toNat)
  case atStart =>
    have hy : CellsAt ((w1.alloc (.cells #[.map none] 62)).alloc (.cells Tryd.zeroCells66 66)) (w1.heap.size + 1) (lossCells []) 66 := by have := CellsAt.new (w1.alloc (.cells #[.map none] 62)) Tryd.zeroCells66 66; rw [zero66] at this ⊢; simpa using this
    exact ⟨0, none, [], Nat.zero_le _, rfl, ⟨((HE.out.chg0 HD1.out).alloc _).alloc _, (TabAt.new 62 w1).chg ((Chg.refl S0 _).alloc _) (fun h => h) (fun _ _ h => h), hy, ((Chg.refl _ _).alloc _).alloc _, Nat.le_trans hB hs1, Nat.le_refl _, by omega, by omega, fun b hb => by cases hb⟩, Losses.nil, Nat.le_refl _⟩
  case round =>
    obtain ⟨k, m, L, hk, rfl, hP, hS, hlen⟩ := hrel
    by_cases hkn : k < n
    · have hkn' : decide ((k : Int) < n) = true := by simp; omega
      obtain ⟨a, pb, po, ps, hpa, hadd, q0, q1, q2⟩ := hD k hkn
      have hpb := World.block_lt_of_cell? _ _ q0
      simp only at hpb
      subst hpa
      have q0 := hP.chg.cellA (HD1.out.cellA q0 (fun h => h)) (fun h => h)
      have q1 := hP.chg.cellA (HD1.out.cellA q1 (fun h => h)) (fun h => h)
      have q2 := hP.chg.cellA (HD1.out.cellA q2 (fun h => h)) (fun h => h)
      generalize (D k).1 = d0 at *
      generalize (D k).2.1 = d1 at *
      generalize (D k).2.2 = d2 at *
      have hnX : ¬ SL w1.heap.size m pb := fun h => by
        rcases h with h | h
        · omega
        · have := (hP.my _ h).1; omega
      have hnY : ¬ S1 (w1.heap.size + 1) pb := fun h => by have : pb = w1.heap.size + 1 := h; omega
      have HP := Lib.hid hP
      clear hP
      by_cases hok : CellOk d0 d1 d2
      · obtain ⟨g1, g2, g3, g4, g5, g6⟩ := hok
        go_wp2_with fail
        go_region_held3 (fun w' => w'.cell? ⟨pb, po, ps⟩ = some (.int .i64 d0) ∧ w'.cell? ⟨pb, po + 1, none⟩ = some (.int .i64 d1) ∧ w'.cell? ⟨pb, po + 2, none⟩ = some (.int .i64 d2)) (go_keep)
          (first
          | (go_at_call 29; refine (tabSet29 w1.heap.size m d0 d1 d2 L _ (HP.out.step (Chg.refl S0 wr).drew).tab g1 g2 g3 g4 g5 g6).mono ?_; rintro e w2 ⟨rfl, m', hL2, hm2, hc2⟩; have j0 := hc2.cellA q0 hnX; have j1 := hc2.cellA q1 hnX; have j2 := hc2.cellA q2 hnX; have P2 := Lib.hid ((HP.out.step (Chg.refl S0 wr).drew).set hc2 hL2 (fun b hb => by cases hb; exact hm2)); clear hL2 hm2)
          | (go_at_call 30; refine (lossSet30 (w1.heap.size + 1) L d0 d1 d2 _ P2.out.loss g1 g2 g3 g4 g5 g6).mono ?_; rintro e w3 ⟨rfl, hY3, hc3⟩; have i0 := hc3.cellA j0 hnY; have i1 := hc3.cellA j1 hnY; have i2 := hc3.cellA j2 hnY; have P3 := Lib.hid (P2.out.put hc3 hY3); clear hY3)
          | (go_at_call 21; refine (is21_nil 0 _).mono ?_; rintro e w4 ⟨rfl, hc4⟩; have u0 := hc4.cellA i0 (fun h => h); have u1 := hc4.cellA i1 (fun h => h); have u2 := hc4.cellA i2 (fun h => h); have P4 := Lib.hid (P3.out.step hc4)))
        go_wp2_with fail
        exact ⟨⟨k + 1, _, _, hkn, by go_num, P4.out, hS.set ⟨g1, g2, g3, g4, g5, g6⟩, Nat.le_trans (tset_length _ _ _) (by omega)⟩, by simp [intOf]; omega⟩
      · go_wp2_with fail
        go_region_held3 (fun w' => w'.cell? ⟨pb, po, ps⟩ = some (.int .i64 d0) ∧ w'.cell? ⟨pb, po + 1, none⟩ = some (.int .i64 d1) ∧ w'.cell? ⟨pb, po + 2, none⟩ = some (.int .i64 d2)) (go_keep)
          (first
          | (go_at_call 29; refine (tabSet29_bad w1.heap.size d0 d1 d2 _ _ ((HP.out.step (Chg.refl S0 wr).drew).errs.cell 0 (by decide) (by decide)) hok).mono ?_; rintro e w2 ⟨rfl, hc2⟩; have j0 := hc2.cellA q0 (fun h => h); have j1 := hc2.cellA q1 (fun h => h); have j2 := hc2.cellA q2 (fun h => h); have P2 := Lib.hid ((HP.out.step (Chg.refl S0 wr).drew).step hc2))
          | (go_at_call 30; refine (lossSet30_bad (w1.heap.size + 1) d0 d1 d2 _ hok).mono ?_; rintro e w3 ⟨rfl, rfl⟩)
          | (go_at_call 21; refine (is21_R P2.out.errs _).mono ?_; rintro e w4 ⟨rfl, hc4⟩; have u0 := hc4.cellA j0 (fun h => h); have u1 := hc4.cellA j1 (fun h => h); have u2 := hc4.cellA j2 (fun h => h); have P4 := Lib.hid (P2.out.step hc4)))
        go_wp2_with fail
        exact ⟨⟨k + 1, _, _, hkn, by go_num, P4.out, hS, by omega⟩, by simp [intOf]; omega⟩
    · obtain rfl : k = n := by omega
      have hkn' : decide ((k : Int) < k) = false := by simp
      have HPn := Lib.hid hP
      clear hkn hP
      go_wp2_with fail
      refine (tabAll31 w1.heap.size m L wr HPn.out.tab (by omega)).mono ?_
      rintro e w2 ⟨v, ks, rfl, ⟨hpm, hst, hown⟩, hc2⟩
      have P2 := Lib.hid (HPn.out.step hc2)
      obtain ⟨q, cp, rfl, hks⟩ := ownsRow_pairsT hown
      have hkL : ∀ x ∈ ks, 1 ≤ x.1 ∧ x.1 ≤ 16 ∧ 1 ≤ x.2 ∧ x.2 ≤ 32 := fun x hx => by
        obtain ⟨y, hy, rfl⟩ := List.mem_map.1 (hpm.mem_iff.1 hx)
        have := hS y hy
        exact ⟨this.1, this.2.1, this.2.2.1, this.2.2.2.1⟩
      have hin : In32 ks := fun x hx => ⟨(hkL x hx).1, (hkL x hx).2.2⟩
      have hlast : ∀ x ∈ ks, pos32 x < 512 := fun x hx => by have := hkL x hx; unfold pos32; omega
      have hkl : ks.length ≤ 60 := by have := hpm.length_eq; simp at this; omega
      have hmem : ∀ c d, gOf L (c, d) = 0 ↔ (c, d) ∉ ks := fun c d => by
        rw [hpm.mem_iff, mem_keys]
        unfold gOf
        cases hk : lk L (c, d) with
        | none => simp
        | some y => have := hS _ (mem_of_lk hk); simp; omega
      clear hown hc2 hkL
      have Hks := Lib.hid hks
      have Hst := Lib.hid hst
      have Hin := Lib.hid hin
      have Hla := Lib.hid hlast
      have Hmem := Lib.hid hmem
      have HS := Lib.hid hS
      clear hks hst hin hmem hpm hS hlen hlast
      go_wp2_with fail
      go_loop [14, 15] (fun nn cc => ∃ (j : Nat) (ci : Int), nn = .int .i64 j ∧ cc = .int .i64 ci ∧ 1 ≤ ci ∧ ci ≤ 17 ∧ Up32 ks (32 * (ci - 1)) j) (fun _ cc => (17 - intOf cc).toNat)
      case atStart => exact ⟨0, 1, rfl, rfl, by decide, by decide, Up32.start Hin.out⟩
      case round =>
        obtain ⟨j, ci, rfl, rfl, hc1, hc7, hu⟩ := hrel
        by_cases hc6 : ci ≤ 16
        · have hc6' : decide (ci ≤ 16) = true := by simpa using hc6
          go_wp2_with fail
          go_loop [14, 16] (fun nn bb => ∃ (j : Nat) (bi : Int), nn = .int .i64 j ∧ bb = .int .i64 bi ∧ 1 ≤ bi ∧ bi ≤ 33 ∧ Up32 ks (32 * (ci - 1) + (bi - 1)) j) (fun _ bb => (33 - intOf bb).toNat)
          case atStart => exact ⟨j, 1, rfl, rfl, by decide, by decide, by simpa using hu⟩
          case round =>
            obtain ⟨j, bi, rfl, rfl, hb0, hb6, hu⟩ := hrel
            by_cases hb5 : bi ≤ 32
            · have hb5' : decide (bi ≤ 32) = true := by simpa using hb5
              have hcell := P2.out.loss.at ci bi (by omega) hc6 (by omega) hb5
              have hxb : w1.heap.size + 1 < w2.heap.size := CellsAt.lt P2.out.loss
              by_cases hb : gOf L (ci, bi) = 0
              · rw [hb] at hcell
                have hu2 := hu.miss Hin.out hb0 hb5 rfl ((Hmem.out ci bi).1 hb)
                have HU := Lib.hid hu2
                clear hb hu hu2
                go_wp2_with fail
                exact ⟨⟨j, bi + 1, rfl, rfl, by omega, by omega, by have := HU.out; rwa [show 32 * (ci - 1) + (bi - 1) + 1 = 32 * (ci - 1) + (bi + 1 - 1) from by omega] at this⟩, by simp [intOf]; omega⟩
              · have hm : (ci, bi) ∈ ks := Decidable.not_not.1 (fun h => hb ((Hmem.out ci bi).2 h))
                obtain ⟨hj, he, hu2⟩ := hu.hit Hin.out Hst.out rfl hm
                obtain ⟨g, hq, k1, k2⟩ := Hks.out j hj
                subst hq
                rw [he] at k1 k2
                obtain ⟨z, hz⟩ : ∃ z, gOf L (ci, bi) = z := ⟨_, rfl⟩
                rw [hz] at hcell hb
                have hb' : (z == 0) = false := by simpa using hb
                have hj' : decide ((ks.length : Int) ≤ j) = false := by simp; omega
                have HU := Lib.hid hu2
                have hjb : j < 1000000 := by omega
                clear hb hu hu2 he hm hz
                go_wp2_with fail
                exact ⟨⟨j + 1, bi + 1, by go_num, rfl, by omega, by omega, by have := HU.out; rwa [show 32 * (ci - 1) + (bi - 1) + 1 = 32 * (ci - 1) + (bi + 1 - 1) from by omega] at this⟩, by simp [intOf]; omega⟩
            · obtain rfl : bi = 33 := by omega
              have HU := Lib.hid hu
              clear hu hb5
              go_wp2_with fail
              exact ⟨⟨j, ci + 1, rfl, rfl, by omega, by omega, by have := HU.out; rwa [show 32 * (ci - 1) + (33 - 1) = 32 * (ci + 1 - 1) from by omega] at this⟩, by simp [intOf]; omega⟩
        · obtain rfl : ci = 17 := by omega
          obtain rfl : j = ks.length := Up32.all (p := 32 * (17 - 1)) (by simpa using Hla.out) hu
          clear hu hc6
          have hI2 := fun wx (hc : Chg S0 w2 wx) => HI.out.keep (w' := wx) fun a u h => hc.cellA (P2.out.chg.cellA (HD1.out.cellA h (fun h => h)) (fun h => h)) (fun h => h)
          have HI2 := Lib.hid hI2
          clear hI2
          have hk1 := twoV_code (gOf L) sc l
          have hk2 := covV_code (gOf L) l
          have hk3 := topV_code l
          obtain ⟨r1, hr1⟩ : ∃ r, twoV (gOf L) sc l = r := ⟨_, rfl⟩
          obtain ⟨r2, hr2⟩ : ∃ r, covV (gOf L) l = r := ⟨_, rfl⟩
          obtain ⟨r3, hr3⟩ : ∃ r, topV l = r := ⟨_, rfl⟩
          rw [hr1] at hk1
          rw [hr2] at hk2
          rw [hr3] at hk3
          have R1 := Lib.hid hr1
          have R2 := Lib.hid hr2
          have R3 := Lib.hid hr3
          clear hr1 hr2 hr3
          go_wp2_with fail
          refine (two32 B A w1.heap.size m L sc _ l _ P2.out.errs P2.out.tab HS.out (HI2.out _ (Chg.refl _ _)) (by omega)).mono ?_
          rintro e w3 ⟨rfl, hc3⟩
          have C3 := Lib.hid hc3
          have P3 := Lib.hid (P2.out.step hc3)
          rw [R1.out]
          clear hc3
          go_wp2_with fail
          refine (two33 (w1.heap.size + 1) L sc _ l _ P3.out.loss HS.out (HI2.out _ C3.out) (by omega)).mono ?_
          rintro e w4 ⟨rfl, hc4⟩
          have C4 := Lib.hid (Chg.step C3.out hc4 (fun _ h => h.elim))
          have P4 := Lib.hid (P3.out.step hc4)
          rw [R1.out]
          clear hc4
          go_wp2_with fail
          refine (cover34 B A w1.heap.size m L _ l _ P4.out.errs P4.out.tab HS.out (HI2.out _ C4.out) (by omega)).mono ?_
          rintro e w5 ⟨rfl, hc5⟩
          have C5 := Lib.hid (Chg.step C4.out hc5 (fun _ h => h.elim))
          have P5 := Lib.hid (P4.out.step hc5)
          rw [R2.out]
          clear hc5
          go_wp2_with fail
          refine (cover35 (w1.heap.size + 1) L _ l _ P5.out.loss HS.out (HI2.out _ C5.out) (by omega)).mono ?_
          rintro e w6 ⟨rfl, hc6⟩
          have C6 := Lib.hid (Chg.step C5.out hc6 (fun _ h => h.elim))
          have P6 := Lib.hid (P5.out.step hc6)
          rw [R2.out]
          clear hc6
          go_wp2_with fail
          refine (top36 B A _ l _ P6.out.errs (HI2.out _ C6.out) (by omega)).mono ?_
          rintro e w7 ⟨rfl, hc7⟩
          have C7 := Lib.hid (Chg.step C6.out hc7 (fun _ h => h.elim))
          have P7 := Lib.hid (P6.out.step hc7)
          rw [R3.out]
          clear hc7
          go_wp2_with fail
          refine (top37 _ l _ (HI2.out _ C7.out) (by omega)).mono ?_
          rintro e w' ⟨rfl, rfl⟩
          rw [R3.out]
          go_wp2_with fail
          have b0 : w7.cell? ⟨w.heap.size, 0, none⟩ = some (.int .i64 a1) := by have := (HA.out.chg P7.out.chg (fun h => h)).cell 0; simpa using this
          have b1 : w7.cell? ⟨w.heap.size, 1, none⟩ = some (.int .i64 a2) := by have := (HA.out.chg P7.out.chg (fun h => h)).cell 1; simpa using this
          go_region_held3 (fun w' => w'.cell? ⟨w.heap.size, 0, none⟩ = some (.int .i64 a1) ∧ w'.cell? ⟨w.heap.size, 1, none⟩ = some (.int .i64 a2)) (go_keep)
            (first
            | (go_at_call 38; refine (tabGet38g w1.heap.size m a1 a2 L _ (P7.out.step (Chg.refl S0 w7).drew).tab).mono ?_; rintro e w8 ⟨rfl, hc8⟩; have i0 := hc8.cell b0 (fun h => h); have i1 := hc8.cell b1 (fun h => h); have P8 := Lib.hid ((P7.out.step (Chg.refl S0 w7).drew).step hc8))
            | (go_at_call 39; refine (lossGet39 (w1.heap.size + 1) L a1 a2 _ P8.out.loss HS.out).mono ?_; rintro e w' ⟨rfl, rfl⟩)
            | (go_at_call 21; refine (is21_self P8.out.errs hk1).mono ?_; rintro e w9 ⟨rfl, hc9⟩; have j0 := hc9.cell i0 (fun h => h); have j1 := hc9.cell i1 (fun h => h); have P9 := Lib.hid (P8.out.step hc9); clear hk1)
            | (go_at_call 21; refine (is21_self P9.out.errs hk2).mono ?_; rintro e w10 ⟨rfl, hc10⟩; have x0 := hc10.cell j0 (fun h => h); have x1 := hc10.cell j1 (fun h => h); have P10 := Lib.hid (P9.out.step hc10); clear hk2)
            | (go_at_call 21; refine (is21_self P10.out.errs hk3).mono ?_; rintro e w11 ⟨rfl, hc11⟩; have y0 := hc11.cell x0 (fun h => h); have y1 := hc11.cell x1 (fun h => h); have P11 := Lib.hid (P10.out.step hc11); clear hk3))
          go_wp2_with fail
          go_ret
          exact ⟨by simp, Chg.step HD1.out P11.out.chg (fun _ h => h.elim)⟩
end Go.Proofs.YtljlnojelagmfaaDoor
