/-
  CutPlays: whatever cuts are set, the ladder answers as the reference: its walk. (Chapter 12. The hand-walked region is printed by wip/gen_h6.py.)
-/
import Derived.Test.YtljlnojelagmfaaDoorH5
namespace Go.Proofs.YtljlnojelagmfaaDoor
open Go.RowKit Go.Pl Go.Shelf Go.Sort
set_option maxRecDepth 100000

set_option maxHeartbeats 40000000 in
theorem cutPlays_walk (B : Nat) (A : Nat → Addr) (v : Value) (n : Nat) (D : Nat → Int × Int × Int × Int) (id iss c mo f today cls bu : Int) (w : World) (hE : ErrsAt B A w) (hB : B ≤ w.heap.size) (hD : DosAt w v n D) :
    Calls Tryd.prog 4 #[v, .agg #[.int .i64 id, .int .i64 iss, .int .i64 c, .int .i64 mo, .int .i64 f], .int .i64 today, .int .i64 cls, .int .i64 bu] w fun e w' => e = .returned (.bool true) ∧ Chg S0 w w' := by
  obtain ⟨p, cap, rfl, hcap, hD⟩ := hD
  · have he0 := (hE.alloc (.cells #[.int .i64 id, .int .i64 iss, .int .i64 c, .int .i64 mo, .int .i64 f] 38)).cell 0 (by decide) (by decide)
    by_cases hn : n ≤ 60
    · have hn' : decide ((60 : Int) < n) = false := by simp; omega
      go_enter Tryd.func4, Tryd.ntmps4
      go_wp2_with (go_at_call 14; refine (first12 _ _ _ he0).mono ?_; rintro e w1 ⟨rfl, hc1⟩)
      have hd1 : Chg S0 w w1 := Chg.step ((Chg.refl S0 w).alloc _) hc1 (fun k hk => hk.elim)
      have hs1 := hd1.size
      have hAst : ∀ wr, Chg S0 w1 wr → CellsAt wr w.heap.size #[.int .i64 id, .int .i64 iss, .int .i64 c, .int .i64 mo, .int .i64 f] 38 := fun wr h => ((CellsAt.new w _ _).chg hc1 (fun h => h)).chg h (fun h => h)
      have HE := Lib.hid hE
      have HD1 := Lib.hid hd1
      have HA := Lib.hid hAst
      clear hE hc1 hd1 hAst he0
      go_loopw [14] (fun i wr => ∃ (k : Nat) (m : Option Nat) (fx : Int) (L : List ((Int × Int) × Int)), k ≤ n ∧ i = .int .i64 k ∧ Play B A w1 w1.heap.size (w1.heap.size + 1) m fx L fx L wr ∧ Cuts L ∧ Steps L ∧ L.length ≤ k ∧ 0 ≤ fx ∧ fx ≤ 10000) (fun i _ => n - (intOf i).toNat)
      case atStart =>
        have hy : CellsAt ((w1.alloc (.cells #[.map none, .int .i64 0] 26)).alloc (.cells (cutCells [] 0) 46)) (w1.heap.size + 1) (cutCells [] 0) 46 := by have := CellsAt.new (w1.alloc (.cells #[.map none, .int .i64 0] 26)) (cutCells [] 0) 46; simpa using this
        exact ⟨0, none, 0, [], Nat.zero_le _, rfl, ⟨((HE.out.chg0 HD1.out).alloc _).alloc _, (LadAt.new w1).chg ((Chg.refl S0 _).alloc _) (fun h => h) (fun _ _ h => h), hy, ((Chg.refl _ _).alloc _).alloc _, Nat.le_trans hB hs1, Nat.le_refl _, by omega, by omega, fun b hb => by cases hb⟩, Cuts.nil, Steps.nil, Nat.le_refl _, by decide, by decide⟩
      case round =>
        obtain ⟨k, m, fx, L, hk, rfl, hP, hC, hS, hl, hf0, hf1⟩ := hrel
        by_cases hkn : k < n
        · have hkn' : decide ((k : Int) < n) = true := by simp; omega
          obtain ⟨a, pb, po, ps, hpa, hadd, q0, q1, q2, q3⟩ := hD k hkn
          subst hpa
          have q0 := hP.chg.cellA (HD1.out.cellA q0 (fun h => h)) (fun h => h)
          have q1 := hP.chg.cellA (HD1.out.cellA q1 (fun h => h)) (fun h => h)
          have q2 := hP.chg.cellA (HD1.out.cellA q2 (fun h => h)) (fun h => h)
          have q3 := hP.chg.cellA (HD1.out.cellA q3 (fun h => h)) (fun h => h)
          generalize (D k).1 = d0 at *
          generalize (D k).2.1 = d1 at *
          generalize (D k).2.2.1 = d2 at *
          generalize (D k).2.2.2 = d3 at *
          have HP := Lib.hid hP
          clear hP
          by_cases hkind : d0 = 1
          · subst hkind
            have hx1 : w1.heap.size < wr.heap.size := HP.out.lad.cells.lt
            have hx2 : w1.heap.size + 1 < wr.heap.size := CellsAt.lt HP.out.cuts
            have hnS : ¬ SL w1.heap.size m wr.heap.size := fun h => by
              rcases h with h | h
              · omega
              · have := HP.out.lad.map.lt _ h; omega
            have hnY : ¬ S1 (w1.heap.size + 1) wr.heap.size := fun h => by have : wr.heap.size = w1.heap.size + 1 := h; omega
            by_cases hok : StepOk d1 d2 d3
            · obtain ⟨g1, g2, g3, g4, g5, g6⟩ := hok
              go_wp2_with fail
              go_region_held3 (fun w' => w'.cell? ⟨wr.heap.size, 0, none⟩ = some (.int .i64 1) ∧ w'.cell? ⟨wr.heap.size, 1, none⟩ = some (.int .i64 d1) ∧ w'.cell? ⟨wr.heap.size, 2, none⟩ = some (.int .i64 d2) ∧ w'.cell? ⟨wr.heap.size, 3, none⟩ = some (.int .i64 d3)) (go_keep)
                (first
                | (go_at_call 16; refine (ladSet w1.heap.size m fx d1 d2 d3 L _ (HP.out.step ((Chg.refl S0 wr).alloc _).drew).lad g1 g2 g3 g4 g5 g6).mono ?_; rintro e w2 ⟨rfl, m', hL2, hm2, hc2⟩; have j0 := hc2.cell (b := wr.heap.size) (o := 0) (v := .int .i64 1) (by simp) hnS; have j1 := hc2.cell (b := wr.heap.size) (o := 1) (v := .int .i64 d1) (by simp) hnS; have j2 := hc2.cell (b := wr.heap.size) (o := 2) (v := .int .i64 d2) (by simp) hnS; have j3 := hc2.cell (b := wr.heap.size) (o := 3) (v := .int .i64 d3) (by simp) hnS; have P2 := Lib.hid ((HP.out.step ((Chg.refl S0 wr).alloc _).drew).set hc2 hL2 (fun b hb => by cases hb; exact hm2)); clear hL2 hm2)
                | (go_at_call 22; refine (cutSet22 (w1.heap.size + 1) fx d1 d2 d3 L _ P2.out.cuts g1 g2 g3 g4 g5 g6).mono ?_; rintro e w3 ⟨rfl, hY3, hc3⟩; have i0 := hc3.cell j0 hnY; have i1 := hc3.cell j1 hnY; have i2 := hc3.cell j2 hnY; have i3 := hc3.cell j3 hnY; have P3 := Lib.hid (P2.out.cut hc3 hY3); clear hY3)
                | (go_at_call 21; refine (is21_nil 0 _).mono ?_; rintro e w4 ⟨rfl, hc4⟩; have u0 := hc4.cell i0 (fun h => h); have u1 := hc4.cell i1 (fun h => h); have u2 := hc4.cell i2 (fun h => h); have u3 := hc4.cell i3 (fun h => h); have P4 := Lib.hid (P3.out.step hc4)))
              go_wp2_with fail
              exact ⟨⟨k + 1, _, _, _, hkn, by go_num, P4.out, hC.put g5 g6, hS.put g1 g2 g3 g4, Nat.le_trans (put_length _ _ _) (by omega), hf0, hf1⟩, by simp [intOf]; omega⟩
            · go_wp2_with fail
              go_region_held3 (fun w' => w'.cell? ⟨wr.heap.size, 0, none⟩ = some (.int .i64 1) ∧ w'.cell? ⟨wr.heap.size, 1, none⟩ = some (.int .i64 d1) ∧ w'.cell? ⟨wr.heap.size, 2, none⟩ = some (.int .i64 d2) ∧ w'.cell? ⟨wr.heap.size, 3, none⟩ = some (.int .i64 d3)) (go_keep)
                (first
                | (go_at_call 16; refine (ladSet_bad w1.heap.size d1 d2 d3 _ _ ((HP.out.step ((Chg.refl S0 wr).alloc _).drew).errs.cell 0 (by decide) (by decide)) hok).mono ?_; rintro e w2 ⟨rfl, hc2⟩; have j0 := hc2.cell (b := wr.heap.size) (o := 0) (v := .int .i64 1) (by simp) (fun h => h); have j1 := hc2.cell (b := wr.heap.size) (o := 1) (v := .int .i64 d1) (by simp) (fun h => h); have j2 := hc2.cell (b := wr.heap.size) (o := 2) (v := .int .i64 d2) (by simp) (fun h => h); have j3 := hc2.cell (b := wr.heap.size) (o := 3) (v := .int .i64 d3) (by simp) (fun h => h); have P2 := Lib.hid ((HP.out.step ((Chg.refl S0 wr).alloc _).drew).step hc2))
                | (go_at_call 22; refine (cutSet22_bad (w1.heap.size + 1) d1 d2 d3 _ hok).mono ?_; rintro e w3 ⟨rfl, rfl⟩)
                | (go_at_call 21; refine (is21_R P2.out.errs _).mono ?_; rintro e w4 ⟨rfl, hc4⟩; have u0 := hc4.cell j0 (fun h => h); have u1 := hc4.cell j1 (fun h => h); have u2 := hc4.cell j2 (fun h => h); have u3 := hc4.cell j3 (fun h => h); have P4 := Lib.hid (P2.out.step hc4)))
              go_wp2_with fail
              exact ⟨⟨k + 1, _, _, _, hkn, by go_num, P4.out, hC, hS, by omega, hf0, hf1⟩, by simp [intOf]; omega⟩
          · have hkind' : (d0 == 1) = false := by simpa using hkind
            have hx1 : w1.heap.size < wr.heap.size := HP.out.lad.cells.lt
            have hx2 : w1.heap.size + 1 < wr.heap.size := CellsAt.lt HP.out.cuts
            have hnX : ¬ S1 w1.heap.size wr.heap.size := fun h => by have : wr.heap.size = w1.heap.size := h; omega
            have hnY : ¬ S1 (w1.heap.size + 1) wr.heap.size := fun h => by have : wr.heap.size = w1.heap.size + 1 := h; omega
            by_cases hok : 0 ≤ d3 ∧ d3 ≤ 10000
            · obtain ⟨g5, g6⟩ := hok
              go_wp2_with fail
              go_region_held3 (fun w' => w'.cell? ⟨wr.heap.size, 0, none⟩ = some (.int .i64 d0) ∧ w'.cell? ⟨wr.heap.size, 1, none⟩ = some (.int .i64 d1) ∧ w'.cell? ⟨wr.heap.size, 2, none⟩ = some (.int .i64 d2) ∧ w'.cell? ⟨wr.heap.size, 3, none⟩ = some (.int .i64 d3)) (go_keep)
                (first
                | (go_at_call 23; refine (ladSetFx w1.heap.size m fx d3 L _ (HP.out.step ((Chg.refl S0 wr).alloc _).drew).lad g5 g6).mono ?_; rintro e w2 ⟨rfl, hL2, hc2⟩; have j0 := hc2.cell (b := wr.heap.size) (o := 0) (v := .int .i64 d0) (by simp) hnX; have j1 := hc2.cell (b := wr.heap.size) (o := 1) (v := .int .i64 d1) (by simp) hnX; have j2 := hc2.cell (b := wr.heap.size) (o := 2) (v := .int .i64 d2) (by simp) hnX; have j3 := hc2.cell (b := wr.heap.size) (o := 3) (v := .int .i64 d3) (by simp) hnX; have P2 := Lib.hid ((HP.out.step ((Chg.refl S0 wr).alloc _).drew).set (hc2.mono (fun k _ hk => .inl hk)) hL2 (fun b hb => .inl hb)); clear hL2)
                | (go_at_call 24; refine (cutSetFx24 (w1.heap.size + 1) fx d3 L _ P2.out.cuts g5 g6).mono ?_; rintro e w3 ⟨rfl, hY3, hc3⟩; have i0 := hc3.cell j0 hnY; have i1 := hc3.cell j1 hnY; have i2 := hc3.cell j2 hnY; have i3 := hc3.cell j3 hnY; have P3 := Lib.hid (P2.out.cut hc3 hY3); clear hY3)
                | (go_at_call 21; refine (is21_nil 0 _).mono ?_; rintro e w4 ⟨rfl, hc4⟩; have u0 := hc4.cell i0 (fun h => h); have u1 := hc4.cell i1 (fun h => h); have u2 := hc4.cell i2 (fun h => h); have u3 := hc4.cell i3 (fun h => h); have P4 := Lib.hid (P3.out.step hc4)))
              go_wp2_with fail
              exact ⟨⟨k + 1, _, _, _, hkn, by go_num, P4.out, hC, hS, by omega, g5, g6⟩, by simp [intOf]; omega⟩
            · go_wp2_with fail
              go_region_held3 (fun w' => w'.cell? ⟨wr.heap.size, 0, none⟩ = some (.int .i64 d0) ∧ w'.cell? ⟨wr.heap.size, 1, none⟩ = some (.int .i64 d1) ∧ w'.cell? ⟨wr.heap.size, 2, none⟩ = some (.int .i64 d2) ∧ w'.cell? ⟨wr.heap.size, 3, none⟩ = some (.int .i64 d3)) (go_keep)
                (first
                | (go_at_call 23; refine (ladSetFx_bad w1.heap.size d3 _ _ ((HP.out.step ((Chg.refl S0 wr).alloc _).drew).errs.cell 0 (by decide) (by decide)) hok).mono ?_; rintro e w2 ⟨rfl, hc2⟩; have j0 := hc2.cell (b := wr.heap.size) (o := 0) (v := .int .i64 d0) (by simp) (fun h => h); have j1 := hc2.cell (b := wr.heap.size) (o := 1) (v := .int .i64 d1) (by simp) (fun h => h); have j2 := hc2.cell (b := wr.heap.size) (o := 2) (v := .int .i64 d2) (by simp) (fun h => h); have j3 := hc2.cell (b := wr.heap.size) (o := 3) (v := .int .i64 d3) (by simp) (fun h => h); have P2 := Lib.hid ((HP.out.step ((Chg.refl S0 wr).alloc _).drew).step hc2))
                | (go_at_call 24; refine (cutSetFx24_bad (w1.heap.size + 1) d3 _ hok).mono ?_; rintro e w3 ⟨rfl, rfl⟩)
                | (go_at_call 21; refine (is21_R P2.out.errs _).mono ?_; rintro e w4 ⟨rfl, hc4⟩; have u0 := hc4.cell j0 (fun h => h); have u1 := hc4.cell j1 (fun h => h); have u2 := hc4.cell j2 (fun h => h); have u3 := hc4.cell j3 (fun h => h); have P4 := Lib.hid (P2.out.step hc4)))
              go_wp2_with fail
              exact ⟨⟨k + 1, _, _, _, hkn, by go_num, P4.out, hC, hS, by omega, hf0, hf1⟩, by simp [intOf]; omega⟩
        · obtain rfl : k = n := by omega
          have hkn' : decide ((k : Int) < k) = false := by simp
          have HPn := Lib.hid hP
          clear hkn hP
          have hx1 : w1.heap.size < wr.heap.size := HPn.out.lad.cells.lt
          go_wp2_with fail
          refine (ladAll w1.heap.size m fx L wr HPn.out.lad (by omega)).mono ?_
          rintro e w2 ⟨v, ks, rfl, ⟨hpm, hst, hown⟩, hc2⟩
          have P2 := Lib.hid (HPn.out.step hc2)
          obtain ⟨q, cp, rfl, hks⟩ := ownsRow_pairs hown
          have hin : InSteps ks := fun x hx => by
            obtain ⟨y, hy, rfl⟩ := List.mem_map.1 (hpm.mem_iff.1 hx)
            exact hS y hy
          have hkl : ks.length ≤ 60 := by have := hpm.length_eq; simp at this; omega
          have hmem : ∀ x, x ∈ ks ↔ (lk L x).isSome := fun x => hpm.mem_iff.trans mem_keys
          clear hown hc2
          have Hks := Lib.hid hks
          have Hst := Lib.hid hst
          have Hin := Lib.hid hin
          have Hmem := Lib.hid hmem
          have HC := Lib.hid hC
          have HS := Lib.hid hS
          clear hks hst hin hmem hpm hC hS hl
          go_wp2_with fail
          go_loop [17, 18] (fun nn cc => ∃ (j : Nat) (ci : Int), nn = .int .i64 j ∧ cc = .int .i64 ci ∧ 1 ≤ ci ∧ ci ≤ 7 ∧ UpTo ks (6 * (ci - 1)) j) (fun _ cc => (7 - intOf cc).toNat)
          case atStart => exact ⟨0, 1, rfl, rfl, by decide, by decide, UpTo.start Hin.out⟩
          case round =>
            obtain ⟨j, ci, rfl, rfl, hc1, hc7, hu⟩ := hrel
            by_cases hc6 : ci ≤ 6
            · have hc6' : decide (ci ≤ 6) = true := by simpa using hc6
              go_wp2_with fail
              go_loop [17, 19] (fun nn bb => ∃ (j : Nat) (bi : Int), nn = .int .i64 j ∧ bb = .int .i64 bi ∧ 0 ≤ bi ∧ bi ≤ 6 ∧ UpTo ks (6 * (ci - 1) + bi) j) (fun _ bb => (6 - intOf bb).toNat)
              case atStart => exact ⟨j, 0, rfl, rfl, by decide, by decide, by simpa using hu⟩
              case round =>
                obtain ⟨j, bi, rfl, rfl, hb0, hb6, hu⟩ := hrel
                by_cases hb5 : bi < 6
                · have hb5' : decide (bi < 6) = true := by simpa using hb5
                  have hcell := P2.out.cuts.isC ci bi hc1 hc6 hb0 hb5
                  have hxb : w1.heap.size + 1 < w2.heap.size := CellsAt.lt P2.out.cuts
                  cases hb : (lk L (ci, bi)).isSome with
                  | false =>
                    rw [hb] at hcell
                    have hnm : (ci, bi) ∉ ks := fun h => by have := (Hmem.out _).1 h; rw [hb] at this; cases this
                    have hu2 := hu.miss Hin.out hb0 hb5 rfl hnm
                    have HU := Lib.hid hu2
                    clear hb hnm hu hu2
                    go_wp2_with fail
                    exact ⟨⟨j, bi + 1, rfl, rfl, by omega, by omega, by have := HU.out; rwa [Int.add_assoc] at this⟩, by simp [intOf]; omega⟩
                  | true =>
                    rw [hb] at hcell
                    obtain ⟨hj, he, hu2⟩ := hu.hit Hin.out Hst.out rfl ((Hmem.out _).2 hb)
                    obtain ⟨g, hq, k1, k2⟩ := Hks.out j hj
                    subst hq
                    rw [he] at k1 k2
                    have hj' : decide ((ks.length : Int) ≤ j) = false := by simp; omega
                    have HU := Lib.hid hu2
                    have hjb : j < 1000000 := by omega
                    clear hb hu hu2 he
                    go_wp2_with fail
                    exact ⟨⟨j + 1, bi + 1, by go_num, rfl, by omega, by omega, by have := HU.out; rwa [Int.add_assoc] at this⟩, by simp [intOf]; omega⟩
                · obtain rfl : bi = 6 := by omega
                  have HU := Lib.hid hu
                  clear hu hb5
                  go_wp2_with fail
                  exact ⟨⟨j, ci + 1, rfl, rfl, by omega, by omega, by have := HU.out; rwa [show 6 * (ci - 1) + 6 = 6 * (ci + 1 - 1) from by omega] at this⟩, by simp [intOf]; omega⟩
            · obtain rfl : ci = 7 := by omega
              obtain rfl : j = ks.length := UpTo.all Hin.out hu
              clear hu hc6
              have hval : ∀ w', Calls Tryd.prog 26 #[.agg #[.int .i64 id, .int .i64 iss, .int .i64 c, .int .i64 mo, .int .i64 f]] w' fun e w'' => e = .returned (.int .i64 (validN ⟨id, iss, c, mo, f⟩)) ∧ Chg S0 w' w'' := fun w' => valid26 ⟨id, iss, c, mo, f⟩ w'
              have hfxc := P2.out.cuts.fxC
              go_wp2_with fail
              go_region_held3 (fun w' => w'.cell? ⟨w1.heap.size + 1, 72, none⟩ = some (.int .i64 fx)) (go_keep)
                (first
                | (go_at_call 17; refine (ladGet w1.heap.size m fx cls bu L _ (P2.out.step (Chg.refl S0 w2).drew).lad).mono ?_; rintro e w3 ⟨rfl, hc3⟩; have j0 := hc3.cell hfxc (fun h => h); have P3 := Lib.hid ((P2.out.step (Chg.refl S0 w2).drew).step hc3))
                | (go_at_call 25; refine (cutGet25_any (w1.heap.size + 1) fx cls bu L _ P3.out.cuts HS.out).mono ?_; rintro e w' ⟨rfl, rfl⟩)
                | (go_at_call 19; refine (ladFx w1.heap.size m fx L _ P3.out.lad).mono ?_; rintro e w' ⟨rfl, rfl⟩))
              go_wp2_with fail
              have a0 : w3.cell? ⟨w.heap.size, 0, none⟩ = some (.int .i64 id) := by simpa using (HA.out w3 P3.out.chg).cell 0
              have a1 : w3.cell? ⟨w.heap.size, 1, none⟩ = some (.int .i64 iss) := by simpa using (HA.out w3 P3.out.chg).cell 1
              have a2 : w3.cell? ⟨w.heap.size, 2, none⟩ = some (.int .i64 c) := by simpa using (HA.out w3 P3.out.chg).cell 2
              have a3 : w3.cell? ⟨w.heap.size, 3, none⟩ = some (.int .i64 mo) := by simpa using (HA.out w3 P3.out.chg).cell 3
              have a4 : w3.cell? ⟨w.heap.size, 4, none⟩ = some (.int .i64 f) := by simpa using (HA.out w3 P3.out.chg).cell 4
              cases hok : Ast.okB ⟨id, iss, c, mo, f⟩ with
              | false =>
                obtain ⟨vn, hv, hv'⟩ : ∃ vn, validN ⟨id, iss, c, mo, f⟩ = vn ∧ (vn != 0) = true := ⟨_, rfl, by simp [validN, hok]⟩
                rw [hv] at hval
                have HV := Lib.hid hval
                clear hval hok hv
                refine wp_region_held_drew (S := (fun w' => w'.cell? ⟨w.heap.size, 0, none⟩ = some (.int .i64 id) ∧ w'.cell? ⟨w.heap.size, 1, none⟩ = some (.int .i64 iss) ∧ w'.cell? ⟨w.heap.size, 2, none⟩ = some (.int .i64 c) ∧ w'.cell? ⟨w.heap.size, 3, none⟩ = some (.int .i64 mo) ∧ w'.cell? ⟨w.heap.size, 4, none⟩ = some (.int .i64 f))) (by kernel_rfl) (by go_keep) (fun hHeld => ?_)
                refine wpAnyH_take (i := 0) (oi := ?oi100) (v := .agg #[.int .i64 id, .int .i64 iss, .int .i64 c, .int .i64 mo, .int .i64 f]) ?hi100 (by kernel_rfl) ?hf100 (by kernel_rfl) ?hQ100 ?hy100 (by assumption) ?rest100
                case hi100 => simp only [List.getElem?_toArray, List.getElem?_cons_zero]; rfl
                case hf100 => kernel_rfl
                case hQ100 => exact fun _ _ _ h => h
                case hy100 => exact Or.inl ⟨by rfl, by intro w hSw; (try dsimp only at hSw); go_simp⟩
                try simp only [Act.put, List.setIfInBounds_toArray, List.set_cons_zero, List.set_cons_succ]
                refine wpAnyH_ready (rs := [1]) (by kernel_rfl) (by simp) ?_
                refine AllReadyH.cons rfl (fun K hK => ?_) AllReadyH.nil
                go_simp
                (go_at_call 26; refine (HV.out _).mono ?_; rintro e w4 ⟨rfl, hc4⟩; have j0 := hc4.cell a0 (fun h => h); have j1 := hc4.cell a1 (fun h => h); have j2 := hc4.cell a2 (fun h => h); have j3 := hc4.cell a3 (fun h => h); have j4 := hc4.cell a4 (fun h => h); have P4 := Lib.hid ((P3.out.step (Chg.refl S0 w3).drew).step hc4))
                go_wp2_with fail
                refine hK.out _ _ (by go_keep) (fun hHeld => ?_)
                clear hK K
                try simp only [Act.put, List.setIfInBounds_toArray, List.set_cons_zero, List.set_cons_succ]
                refine wpAnyH_take (i := 2) (oi := ?oi102) (v := .bool true) ?hi102 (by kernel_rfl) ?hf102 (by kernel_rfl) ?hQ102 ?hy102 (by assumption) ?rest102
                case hi102 => simp only [List.getElem?_toArray, List.getElem?_cons_succ, List.getElem?_cons_zero]; rfl
                case hf102 => kernel_rfl
                case hQ102 => exact fun _ _ _ h => h
                case hy102 => exact Or.inl ⟨by rfl, by intro w hSw; (try dsimp only at hSw); go_simp⟩
                try simp only [Act.put, List.setIfInBounds_toArray, List.set_cons_zero, List.set_cons_succ]
                refine wpAnyH_take (i := 3) (oi := ?oi103) (v := .bool true) ?hi103 (by kernel_rfl) ?hf103 (by kernel_rfl) ?hQ103 ?hy103 (by assumption) ?rest103
                case hi103 => simp only [List.getElem?_toArray, List.getElem?_cons_succ, List.getElem?_cons_zero]; rfl
                case hf103 => kernel_rfl
                case hQ103 => exact fun _ _ _ h => h
                case hy103 => exact Or.inl ⟨by rfl, by intro w hSw; (try dsimp only at hSw); go_simp⟩
                try simp only [Act.put, List.setIfInBounds_toArray, List.set_cons_zero, List.set_cons_succ]
                refine wpAnyH_take (i := 4) (oi := ?oi104) (v := undef) ?hi104 (by kernel_rfl) ?hf104 (by kernel_rfl) ?hQ104 ?hy104 (by assumption) ?rest104
                case hi104 => simp only [List.getElem?_toArray, List.getElem?_cons_succ, List.getElem?_cons_zero]; rfl
                case hf104 => kernel_rfl
                case hQ104 => exact fun _ _ _ h => h
                case hy104 => exact Or.inr ⟨by rfl, rfl⟩
                try simp only [Act.put, List.setIfInBounds_toArray, List.set_cons_zero, List.set_cons_succ]
                refine wpAnyH_take (i := 5) (oi := ?oi105) (v := undef) ?hi105 (by kernel_rfl) ?hf105 (by kernel_rfl) ?hQ105 ?hy105 (by assumption) ?rest105
                case hi105 => simp only [List.getElem?_toArray, List.getElem?_cons_succ, List.getElem?_cons_zero]; rfl
                case hf105 => kernel_rfl
                case hQ105 => exact fun _ _ _ h => h
                case hy105 => exact Or.inr ⟨by rfl, rfl⟩
                try simp only [Act.put, List.setIfInBounds_toArray, List.set_cons_zero, List.set_cons_succ]
                refine wpAnyH_take (i := 6) (oi := ?oi106) (v := .bool true) ?hi106 (by kernel_rfl) ?hf106 (by kernel_rfl) ?hQ106 ?hy106 (by assumption) ?rest106
                case hi106 => simp only [List.getElem?_toArray, List.getElem?_cons_succ, List.getElem?_cons_zero]; rfl
                case hf106 => kernel_rfl
                case hQ106 => exact fun _ _ _ h => h
                case hy106 => exact Or.inl ⟨by rfl, by intro w hSw; (try dsimp only at hSw); go_simp⟩
                try simp only [Act.put, List.setIfInBounds_toArray, List.set_cons_zero, List.set_cons_succ]
                refine wpAnyH_take (i := 7) (oi := ?oi107) (v := .bool true) ?hi107 (by kernel_rfl) ?hf107 (by kernel_rfl) ?hQ107 ?hy107 (by assumption) ?rest107
                case hi107 => simp only [List.getElem?_toArray, List.getElem?_cons_succ, List.getElem?_cons_zero]; rfl
                case hf107 => kernel_rfl
                case hQ107 => exact fun _ _ _ h => h
                case hy107 => exact Or.inl ⟨by rfl, by intro w hSw; (try dsimp only at hSw); go_simp⟩
                try simp only [Act.put, List.setIfInBounds_toArray, List.set_cons_zero, List.set_cons_succ]
                refine wpAnyH_take (i := 8) (oi := ?oi108) (v := undef) ?hi108 (by kernel_rfl) ?hf108 (by kernel_rfl) ?hQ108 ?hy108 (by assumption) ?rest108
                case hi108 => simp only [List.getElem?_toArray, List.getElem?_cons_succ, List.getElem?_cons_zero]; rfl
                case hf108 => kernel_rfl
                case hQ108 => exact fun _ _ _ h => h
                case hy108 => exact Or.inr ⟨by rfl, rfl⟩
                try simp only [Act.put, List.setIfInBounds_toArray, List.set_cons_zero, List.set_cons_succ]
                refine wpAnyH_take (i := 9) (oi := ?oi109) (v := undef) ?hi109 (by kernel_rfl) ?hf109 (by kernel_rfl) ?hQ109 ?hy109 (by assumption) ?rest109
                case hi109 => simp only [List.getElem?_toArray, List.getElem?_cons_succ, List.getElem?_cons_zero]; rfl
                case hf109 => kernel_rfl
                case hQ109 => exact fun _ _ _ h => h
                case hy109 => exact Or.inr ⟨by rfl, rfl⟩
                try simp only [Act.put, List.setIfInBounds_toArray, List.set_cons_zero, List.set_cons_succ]
                refine wpAnyH_take (i := 10) (oi := ?oi110) (v := .bool true) ?hi110 (by kernel_rfl) ?hf110 (by kernel_rfl) ?hQ110 ?hy110 (by assumption) ?rest110
                case hi110 => simp only [List.getElem?_toArray, List.getElem?_cons_succ, List.getElem?_cons_zero]; rfl
                case hf110 => kernel_rfl
                case hQ110 => exact fun _ _ _ h => h
                case hy110 => exact Or.inl ⟨by rfl, by intro w hSw; (try dsimp only at hSw); go_simp⟩
                try simp only [Act.put, List.setIfInBounds_toArray, List.set_cons_zero, List.set_cons_succ]
                refine wpAnyH_take (i := 11) (oi := ?oi111) (v := .bool true) ?hi111 (by kernel_rfl) ?hf111 (by kernel_rfl) ?hQ111 ?hy111 (by assumption) ?rest111
                case hi111 => simp only [List.getElem?_toArray, List.getElem?_cons_succ, List.getElem?_cons_zero]; rfl
                case hf111 => kernel_rfl
                case hQ111 => exact fun _ _ _ h => h
                case hy111 => exact Or.inl ⟨by rfl, by intro w hSw; (try dsimp only at hSw); go_simp⟩
                try simp only [Act.put, List.setIfInBounds_toArray, List.set_cons_zero, List.set_cons_succ]
                refine wpAnyH_take (i := 12) (oi := ?oi112) (v := undef) ?hi112 (by kernel_rfl) ?hf112 (by kernel_rfl) ?hQ112 ?hy112 (by assumption) ?rest112
                case hi112 => simp only [List.getElem?_toArray, List.getElem?_cons_succ, List.getElem?_cons_zero]; rfl
                case hf112 => kernel_rfl
                case hQ112 => exact fun _ _ _ h => h
                case hy112 => exact Or.inr ⟨by rfl, rfl⟩
                try simp only [Act.put, List.setIfInBounds_toArray, List.set_cons_zero, List.set_cons_succ]
                refine wpAnyH_take (i := 13) (oi := ?oi113) (v := undef) ?hi113 (by kernel_rfl) ?hf113 (by kernel_rfl) ?hQ113 ?hy113 (by assumption) ?rest113
                case hi113 => simp only [List.getElem?_toArray, List.getElem?_cons_succ, List.getElem?_cons_zero]; rfl
                case hf113 => kernel_rfl
                case hQ113 => exact fun _ _ _ h => h
                case hy113 => exact Or.inr ⟨by rfl, rfl⟩
                try simp only [Act.put, List.setIfInBounds_toArray, List.set_cons_zero, List.set_cons_succ]
                refine wpAnyH_take (i := 14) (oi := ?oi114) (v := undef) ?hi114 (by kernel_rfl) ?hf114 (by kernel_rfl) ?hQ114 ?hy114 (by assumption) ?rest114
                case hi114 => simp only [List.getElem?_toArray, List.getElem?_cons_succ, List.getElem?_cons_zero]; rfl
                case hf114 => kernel_rfl
                case hQ114 => exact fun _ _ _ h => h
                case hy114 => exact Or.inr ⟨by rfl, rfl⟩
                try simp only [Act.put, List.setIfInBounds_toArray, List.set_cons_zero, List.set_cons_succ]
                refine wpAnyH_take (i := 15) (oi := ?oi115) (v := undef) ?hi115 (by kernel_rfl) ?hf115 (by kernel_rfl) ?hQ115 ?hy115 (by assumption) ?rest115
                case hi115 => simp only [List.getElem?_toArray, List.getElem?_cons_succ, List.getElem?_cons_zero]; rfl
                case hf115 => kernel_rfl
                case hQ115 => exact fun _ _ _ h => h
                case hy115 => exact Or.inr ⟨by rfl, rfl⟩
                try simp only [Act.put, List.setIfInBounds_toArray, List.set_cons_zero, List.set_cons_succ]
                refine wpAnyH_take (i := 16) (oi := ?oi116) (v := undef) ?hi116 (by kernel_rfl) ?hf116 (by kernel_rfl) ?hQ116 ?hy116 (by assumption) ?rest116
                case hi116 => simp only [List.getElem?_toArray, List.getElem?_cons_succ, List.getElem?_cons_zero]; rfl
                case hf116 => kernel_rfl
                case hQ116 => exact fun _ _ _ h => h
                case hy116 => exact Or.inr ⟨by rfl, rfl⟩
                try simp only [Act.put, List.setIfInBounds_toArray, List.set_cons_zero, List.set_cons_succ]
                refine wpAnyH_take (i := 17) (oi := ?oi117) (v := undef) ?hi117 (by kernel_rfl) ?hf117 (by kernel_rfl) ?hQ117 ?hy117 (by assumption) ?rest117
                case hi117 => simp only [List.getElem?_toArray, List.getElem?_cons_succ, List.getElem?_cons_zero]; rfl
                case hf117 => kernel_rfl
                case hQ117 => exact fun _ _ _ h => h
                case hy117 => exact Or.inr ⟨by rfl, rfl⟩
                try simp only [Act.put, List.setIfInBounds_toArray, List.set_cons_zero, List.set_cons_succ]
                refine wpAnyH_take (i := 18) (oi := ?oi118) (v := undef) ?hi118 (by kernel_rfl) ?hf118 (by kernel_rfl) ?hQ118 ?hy118 (by assumption) ?rest118
                case hi118 => simp only [List.getElem?_toArray, List.getElem?_cons_succ, List.getElem?_cons_zero]; rfl
                case hf118 => kernel_rfl
                case hQ118 => exact fun _ _ _ h => h
                case hy118 => exact Or.inr ⟨by rfl, rfl⟩
                try simp only [Act.put, List.setIfInBounds_toArray, List.set_cons_zero, List.set_cons_succ]
                refine wpAnyH_take (i := 19) (oi := ?oi119) (v := .bool true) ?hi119 (by kernel_rfl) ?hf119 (by kernel_rfl) ?hQ119 ?hy119 (by assumption) ?rest119
                case hi119 => simp only [List.getElem?_toArray, List.getElem?_cons_succ, List.getElem?_cons_zero]; rfl
                case hf119 => kernel_rfl
                case hQ119 => exact fun _ _ _ h => h
                case hy119 => exact Or.inl ⟨by rfl, by intro w hSw; (try dsimp only at hSw); go_simp⟩
                try simp only [Act.put, List.setIfInBounds_toArray, List.set_cons_zero, List.set_cons_succ]
                refine wpAnyH_take (i := 20) (oi := ?oi120) (v := .bool true) ?hi120 (by kernel_rfl) ?hf120 (by kernel_rfl) ?hQ120 ?hy120 (by assumption) ?rest120
                case hi120 => simp only [List.getElem?_toArray, List.getElem?_cons_succ, List.getElem?_cons_zero]; rfl
                case hf120 => kernel_rfl
                case hQ120 => exact fun _ _ _ h => h
                case hy120 => exact Or.inl ⟨by rfl, by intro w hSw; (try dsimp only at hSw); go_simp⟩
                try simp only [Act.put, List.setIfInBounds_toArray, List.set_cons_zero, List.set_cons_succ]
                refine wpAnyH_done (by kernel_rfl) ?_ _
                go_wp2_with fail
                go_ret
                exact ⟨rfl, Chg.step HD1.out P4.out.chg (fun _ h => h.elim)⟩
              | true =>
                obtain ⟨vn, hv, hv'⟩ : ∃ vn, validN ⟨id, iss, c, mo, f⟩ = vn ∧ (vn != 0) = false := ⟨_, rfl, by simp [validN, hok]⟩
                rw [hv] at hval
                have HV := Lib.hid hval
                have HOK := Lib.hid hok
                clear hval hok hv
                by_cases ht0 : today < 0
                · have ht0' : decide (today < 0) = true := by simpa using ht0
                  clear ht0
                  refine wp_region_held_drew (S := (fun w' => w'.cell? ⟨w.heap.size, 0, none⟩ = some (.int .i64 id) ∧ w'.cell? ⟨w.heap.size, 1, none⟩ = some (.int .i64 iss) ∧ w'.cell? ⟨w.heap.size, 2, none⟩ = some (.int .i64 c) ∧ w'.cell? ⟨w.heap.size, 3, none⟩ = some (.int .i64 mo) ∧ w'.cell? ⟨w.heap.size, 4, none⟩ = some (.int .i64 f))) (by kernel_rfl) (by go_keep) (fun hHeld => ?_)
                  refine wpAnyH_take (i := 0) (oi := ?oi200) (v := .agg #[.int .i64 id, .int .i64 iss, .int .i64 c, .int .i64 mo, .int .i64 f]) ?hi200 (by kernel_rfl) ?hf200 (by kernel_rfl) ?hQ200 ?hy200 (by assumption) ?rest200
                  case hi200 => simp only [List.getElem?_toArray, List.getElem?_cons_zero]; rfl
                  case hf200 => kernel_rfl
                  case hQ200 => exact fun _ _ _ h => h
                  case hy200 => exact Or.inl ⟨by rfl, by intro w hSw; (try dsimp only at hSw); go_simp⟩
                  try simp only [Act.put, List.setIfInBounds_toArray, List.set_cons_zero, List.set_cons_succ]
                  refine wpAnyH_ready (rs := [1]) (by kernel_rfl) (by simp) ?_
                  refine AllReadyH.cons rfl (fun K hK => ?_) AllReadyH.nil
                  go_simp
                  (go_at_call 26; refine (HV.out _).mono ?_; rintro e w4 ⟨rfl, hc4⟩; have j0 := hc4.cell a0 (fun h => h); have j1 := hc4.cell a1 (fun h => h); have j2 := hc4.cell a2 (fun h => h); have j3 := hc4.cell a3 (fun h => h); have j4 := hc4.cell a4 (fun h => h); have P4 := Lib.hid ((P3.out.step (Chg.refl S0 w3).drew).step hc4))
                  go_wp2_with fail
                  refine hK.out _ _ (by go_keep) (fun hHeld => ?_)
                  clear hK K
                  try simp only [Act.put, List.setIfInBounds_toArray, List.set_cons_zero, List.set_cons_succ]
                  refine wpAnyH_take (i := 2) (oi := ?oi202) (v := .bool false) ?hi202 (by kernel_rfl) ?hf202 (by kernel_rfl) ?hQ202 ?hy202 (by assumption) ?rest202
                  case hi202 => simp only [List.getElem?_toArray, List.getElem?_cons_succ, List.getElem?_cons_zero]; rfl
                  case hf202 => kernel_rfl
                  case hQ202 => exact fun _ _ _ h => h
                  case hy202 => exact Or.inl ⟨by rfl, by intro w hSw; (try dsimp only at hSw); go_simp⟩
                  try simp only [Act.put, List.setIfInBounds_toArray, List.set_cons_zero, List.set_cons_succ]
                  refine wpAnyH_take (i := 3) (oi := ?oi203) (v := .bool false) ?hi203 (by kernel_rfl) ?hf203 (by kernel_rfl) ?hQ203 ?hy203 (by assumption) ?rest203
                  case hi203 => simp only [List.getElem?_toArray, List.getElem?_cons_succ, List.getElem?_cons_zero]; rfl
                  case hf203 => kernel_rfl
                  case hQ203 => exact fun _ _ _ h => h
                  case hy203 => exact Or.inl ⟨by rfl, by intro w hSw; (try dsimp only at hSw); go_simp⟩
                  try simp only [Act.put, List.setIfInBounds_toArray, List.set_cons_zero, List.set_cons_succ]
                  refine wpAnyH_take (i := 4) (oi := ?oi204) (v := .int .i64 today) ?hi204 (by kernel_rfl) ?hf204 (by kernel_rfl) ?hQ204 ?hy204 (by assumption) ?rest204
                  case hi204 => simp only [List.getElem?_toArray, List.getElem?_cons_succ, List.getElem?_cons_zero]; rfl
                  case hf204 => kernel_rfl
                  case hQ204 => exact fun _ _ _ h => h
                  case hy204 => exact Or.inl ⟨by rfl, by intro w hSw; (try dsimp only at hSw); go_simp⟩
                  try simp only [Act.put, List.setIfInBounds_toArray, List.set_cons_zero, List.set_cons_succ]
                  refine wpAnyH_take (i := 5) (oi := ?oi205) (v := .bool true) ?hi205 (by kernel_rfl) ?hf205 (by kernel_rfl) ?hQ205 ?hy205 (by assumption) ?rest205
                  case hi205 => simp only [List.getElem?_toArray, List.getElem?_cons_succ, List.getElem?_cons_zero]; rfl
                  case hf205 => kernel_rfl
                  case hQ205 => exact fun _ _ _ h => h
                  case hy205 => exact Or.inl ⟨by rfl, by intro w hSw; (try dsimp only at hSw); go_simp⟩
                  try simp only [Act.put, List.setIfInBounds_toArray, List.set_cons_zero, List.set_cons_succ]
                  refine wpAnyH_take (i := 6) (oi := ?oi206) (v := .bool true) ?hi206 (by kernel_rfl) ?hf206 (by kernel_rfl) ?hQ206 ?hy206 (by assumption) ?rest206
                  case hi206 => simp only [List.getElem?_toArray, List.getElem?_cons_succ, List.getElem?_cons_zero]; rfl
                  case hf206 => kernel_rfl
                  case hQ206 => exact fun _ _ _ h => h
                  case hy206 => exact Or.inl ⟨by rfl, by intro w hSw; (try dsimp only at hSw); go_simp⟩
                  try simp only [Act.put, List.setIfInBounds_toArray, List.set_cons_zero, List.set_cons_succ]
                  refine wpAnyH_take (i := 7) (oi := ?oi207) (v := .bool true) ?hi207 (by kernel_rfl) ?hf207 (by kernel_rfl) ?hQ207 ?hy207 (by assumption) ?rest207
                  case hi207 => simp only [List.getElem?_toArray, List.getElem?_cons_succ, List.getElem?_cons_zero]; rfl
                  case hf207 => kernel_rfl
                  case hQ207 => exact fun _ _ _ h => h
                  case hy207 => exact Or.inl ⟨by rfl, by intro w hSw; (try dsimp only at hSw); go_simp⟩
                  try simp only [Act.put, List.setIfInBounds_toArray, List.set_cons_zero, List.set_cons_succ]
                  refine wpAnyH_take (i := 8) (oi := ?oi208) (v := undef) ?hi208 (by kernel_rfl) ?hf208 (by kernel_rfl) ?hQ208 ?hy208 (by assumption) ?rest208
                  case hi208 => simp only [List.getElem?_toArray, List.getElem?_cons_succ, List.getElem?_cons_zero]; rfl
                  case hf208 => kernel_rfl
                  case hQ208 => exact fun _ _ _ h => h
                  case hy208 => exact Or.inr ⟨by rfl, rfl⟩
                  try simp only [Act.put, List.setIfInBounds_toArray, List.set_cons_zero, List.set_cons_succ]
                  refine wpAnyH_take (i := 9) (oi := ?oi209) (v := undef) ?hi209 (by kernel_rfl) ?hf209 (by kernel_rfl) ?hQ209 ?hy209 (by assumption) ?rest209
                  case hi209 => simp only [List.getElem?_toArray, List.getElem?_cons_succ, List.getElem?_cons_zero]; rfl
                  case hf209 => kernel_rfl
                  case hQ209 => exact fun _ _ _ h => h
                  case hy209 => exact Or.inr ⟨by rfl, rfl⟩
                  try simp only [Act.put, List.setIfInBounds_toArray, List.set_cons_zero, List.set_cons_succ]
                  refine wpAnyH_take (i := 10) (oi := ?oi210) (v := .bool true) ?hi210 (by kernel_rfl) ?hf210 (by kernel_rfl) ?hQ210 ?hy210 (by assumption) ?rest210
                  case hi210 => simp only [List.getElem?_toArray, List.getElem?_cons_succ, List.getElem?_cons_zero]; rfl
                  case hf210 => kernel_rfl
                  case hQ210 => exact fun _ _ _ h => h
                  case hy210 => exact Or.inl ⟨by rfl, by intro w hSw; (try dsimp only at hSw); go_simp⟩
                  try simp only [Act.put, List.setIfInBounds_toArray, List.set_cons_zero, List.set_cons_succ]
                  refine wpAnyH_take (i := 11) (oi := ?oi211) (v := .bool true) ?hi211 (by kernel_rfl) ?hf211 (by kernel_rfl) ?hQ211 ?hy211 (by assumption) ?rest211
                  case hi211 => simp only [List.getElem?_toArray, List.getElem?_cons_succ, List.getElem?_cons_zero]; rfl
                  case hf211 => kernel_rfl
                  case hQ211 => exact fun _ _ _ h => h
                  case hy211 => exact Or.inl ⟨by rfl, by intro w hSw; (try dsimp only at hSw); go_simp⟩
                  try simp only [Act.put, List.setIfInBounds_toArray, List.set_cons_zero, List.set_cons_succ]
                  refine wpAnyH_take (i := 12) (oi := ?oi212) (v := undef) ?hi212 (by kernel_rfl) ?hf212 (by kernel_rfl) ?hQ212 ?hy212 (by assumption) ?rest212
                  case hi212 => simp only [List.getElem?_toArray, List.getElem?_cons_succ, List.getElem?_cons_zero]; rfl
                  case hf212 => kernel_rfl
                  case hQ212 => exact fun _ _ _ h => h
                  case hy212 => exact Or.inr ⟨by rfl, rfl⟩
                  try simp only [Act.put, List.setIfInBounds_toArray, List.set_cons_zero, List.set_cons_succ]
                  refine wpAnyH_take (i := 13) (oi := ?oi213) (v := undef) ?hi213 (by kernel_rfl) ?hf213 (by kernel_rfl) ?hQ213 ?hy213 (by assumption) ?rest213
                  case hi213 => simp only [List.getElem?_toArray, List.getElem?_cons_succ, List.getElem?_cons_zero]; rfl
                  case hf213 => kernel_rfl
                  case hQ213 => exact fun _ _ _ h => h
                  case hy213 => exact Or.inr ⟨by rfl, rfl⟩
                  try simp only [Act.put, List.setIfInBounds_toArray, List.set_cons_zero, List.set_cons_succ]
                  refine wpAnyH_take (i := 14) (oi := ?oi214) (v := undef) ?hi214 (by kernel_rfl) ?hf214 (by kernel_rfl) ?hQ214 ?hy214 (by assumption) ?rest214
                  case hi214 => simp only [List.getElem?_toArray, List.getElem?_cons_succ, List.getElem?_cons_zero]; rfl
                  case hf214 => kernel_rfl
                  case hQ214 => exact fun _ _ _ h => h
                  case hy214 => exact Or.inr ⟨by rfl, rfl⟩
                  try simp only [Act.put, List.setIfInBounds_toArray, List.set_cons_zero, List.set_cons_succ]
                  refine wpAnyH_take (i := 15) (oi := ?oi215) (v := undef) ?hi215 (by kernel_rfl) ?hf215 (by kernel_rfl) ?hQ215 ?hy215 (by assumption) ?rest215
                  case hi215 => simp only [List.getElem?_toArray, List.getElem?_cons_succ, List.getElem?_cons_zero]; rfl
                  case hf215 => kernel_rfl
                  case hQ215 => exact fun _ _ _ h => h
                  case hy215 => exact Or.inr ⟨by rfl, rfl⟩
                  try simp only [Act.put, List.setIfInBounds_toArray, List.set_cons_zero, List.set_cons_succ]
                  refine wpAnyH_take (i := 16) (oi := ?oi216) (v := undef) ?hi216 (by kernel_rfl) ?hf216 (by kernel_rfl) ?hQ216 ?hy216 (by assumption) ?rest216
                  case hi216 => simp only [List.getElem?_toArray, List.getElem?_cons_succ, List.getElem?_cons_zero]; rfl
                  case hf216 => kernel_rfl
                  case hQ216 => exact fun _ _ _ h => h
                  case hy216 => exact Or.inr ⟨by rfl, rfl⟩
                  try simp only [Act.put, List.setIfInBounds_toArray, List.set_cons_zero, List.set_cons_succ]
                  refine wpAnyH_take (i := 17) (oi := ?oi217) (v := undef) ?hi217 (by kernel_rfl) ?hf217 (by kernel_rfl) ?hQ217 ?hy217 (by assumption) ?rest217
                  case hi217 => simp only [List.getElem?_toArray, List.getElem?_cons_succ, List.getElem?_cons_zero]; rfl
                  case hf217 => kernel_rfl
                  case hQ217 => exact fun _ _ _ h => h
                  case hy217 => exact Or.inr ⟨by rfl, rfl⟩
                  try simp only [Act.put, List.setIfInBounds_toArray, List.set_cons_zero, List.set_cons_succ]
                  refine wpAnyH_take (i := 18) (oi := ?oi218) (v := undef) ?hi218 (by kernel_rfl) ?hf218 (by kernel_rfl) ?hQ218 ?hy218 (by assumption) ?rest218
                  case hi218 => simp only [List.getElem?_toArray, List.getElem?_cons_succ, List.getElem?_cons_zero]; rfl
                  case hf218 => kernel_rfl
                  case hQ218 => exact fun _ _ _ h => h
                  case hy218 => exact Or.inr ⟨by rfl, rfl⟩
                  try simp only [Act.put, List.setIfInBounds_toArray, List.set_cons_zero, List.set_cons_succ]
                  refine wpAnyH_take (i := 19) (oi := ?oi219) (v := .bool true) ?hi219 (by kernel_rfl) ?hf219 (by kernel_rfl) ?hQ219 ?hy219 (by assumption) ?rest219
                  case hi219 => simp only [List.getElem?_toArray, List.getElem?_cons_succ, List.getElem?_cons_zero]; rfl
                  case hf219 => kernel_rfl
                  case hQ219 => exact fun _ _ _ h => h
                  case hy219 => exact Or.inl ⟨by rfl, by intro w hSw; (try dsimp only at hSw); go_simp⟩
                  try simp only [Act.put, List.setIfInBounds_toArray, List.set_cons_zero, List.set_cons_succ]
                  refine wpAnyH_take (i := 20) (oi := ?oi220) (v := .bool true) ?hi220 (by kernel_rfl) ?hf220 (by kernel_rfl) ?hQ220 ?hy220 (by assumption) ?rest220
                  case hi220 => simp only [List.getElem?_toArray, List.getElem?_cons_succ, List.getElem?_cons_zero]; rfl
                  case hf220 => kernel_rfl
                  case hQ220 => exact fun _ _ _ h => h
                  case hy220 => exact Or.inl ⟨by rfl, by intro w hSw; (try dsimp only at hSw); go_simp⟩
                  try simp only [Act.put, List.setIfInBounds_toArray, List.set_cons_zero, List.set_cons_succ]
                  refine wpAnyH_done (by kernel_rfl) ?_ _
                  go_wp2_with fail
                  go_ret
                  exact ⟨rfl, Chg.step HD1.out P4.out.chg (fun _ h => h.elim)⟩
                · have ht0' : decide (today < 0) = false := by simpa using ht0
                  by_cases ht1 : 40000 < today
                  · have ht1' : decide (40000 < today) = true := by simpa using ht1
                    clear ht1 ht0
                    refine wp_region_held_drew (S := (fun w' => w'.cell? ⟨w.heap.size, 0, none⟩ = some (.int .i64 id) ∧ w'.cell? ⟨w.heap.size, 1, none⟩ = some (.int .i64 iss) ∧ w'.cell? ⟨w.heap.size, 2, none⟩ = some (.int .i64 c) ∧ w'.cell? ⟨w.heap.size, 3, none⟩ = some (.int .i64 mo) ∧ w'.cell? ⟨w.heap.size, 4, none⟩ = some (.int .i64 f))) (by kernel_rfl) (by go_keep) (fun hHeld => ?_)
                    refine wpAnyH_take (i := 0) (oi := ?oi300) (v := .agg #[.int .i64 id, .int .i64 iss, .int .i64 c, .int .i64 mo, .int .i64 f]) ?hi300 (by kernel_rfl) ?hf300 (by kernel_rfl) ?hQ300 ?hy300 (by assumption) ?rest300
                    case hi300 => simp only [List.getElem?_toArray, List.getElem?_cons_zero]; rfl
                    case hf300 => kernel_rfl
                    case hQ300 => exact fun _ _ _ h => h
                    case hy300 => exact Or.inl ⟨by rfl, by intro w hSw; (try dsimp only at hSw); go_simp⟩
                    try simp only [Act.put, List.setIfInBounds_toArray, List.set_cons_zero, List.set_cons_succ]
                    refine wpAnyH_ready (rs := [1]) (by kernel_rfl) (by simp) ?_
                    refine AllReadyH.cons rfl (fun K hK => ?_) AllReadyH.nil
                    go_simp
                    (go_at_call 26; refine (HV.out _).mono ?_; rintro e w4 ⟨rfl, hc4⟩; have j0 := hc4.cell a0 (fun h => h); have j1 := hc4.cell a1 (fun h => h); have j2 := hc4.cell a2 (fun h => h); have j3 := hc4.cell a3 (fun h => h); have j4 := hc4.cell a4 (fun h => h); have P4 := Lib.hid ((P3.out.step (Chg.refl S0 w3).drew).step hc4))
                    go_wp2_with fail
                    refine hK.out _ _ (by go_keep) (fun hHeld => ?_)
                    clear hK K
                    try simp only [Act.put, List.setIfInBounds_toArray, List.set_cons_zero, List.set_cons_succ]
                    refine wpAnyH_take (i := 2) (oi := ?oi302) (v := .bool false) ?hi302 (by kernel_rfl) ?hf302 (by kernel_rfl) ?hQ302 ?hy302 (by assumption) ?rest302
                    case hi302 => simp only [List.getElem?_toArray, List.getElem?_cons_succ, List.getElem?_cons_zero]; rfl
                    case hf302 => kernel_rfl
                    case hQ302 => exact fun _ _ _ h => h
                    case hy302 => exact Or.inl ⟨by rfl, by intro w hSw; (try dsimp only at hSw); go_simp⟩
                    try simp only [Act.put, List.setIfInBounds_toArray, List.set_cons_zero, List.set_cons_succ]
                    refine wpAnyH_take (i := 3) (oi := ?oi303) (v := .bool false) ?hi303 (by kernel_rfl) ?hf303 (by kernel_rfl) ?hQ303 ?hy303 (by assumption) ?rest303
                    case hi303 => simp only [List.getElem?_toArray, List.getElem?_cons_succ, List.getElem?_cons_zero]; rfl
                    case hf303 => kernel_rfl
                    case hQ303 => exact fun _ _ _ h => h
                    case hy303 => exact Or.inl ⟨by rfl, by intro w hSw; (try dsimp only at hSw); go_simp⟩
                    try simp only [Act.put, List.setIfInBounds_toArray, List.set_cons_zero, List.set_cons_succ]
                    refine wpAnyH_take (i := 4) (oi := ?oi304) (v := .int .i64 today) ?hi304 (by kernel_rfl) ?hf304 (by kernel_rfl) ?hQ304 ?hy304 (by assumption) ?rest304
                    case hi304 => simp only [List.getElem?_toArray, List.getElem?_cons_succ, List.getElem?_cons_zero]; rfl
                    case hf304 => kernel_rfl
                    case hQ304 => exact fun _ _ _ h => h
                    case hy304 => exact Or.inl ⟨by rfl, by intro w hSw; (try dsimp only at hSw); go_simp⟩
                    try simp only [Act.put, List.setIfInBounds_toArray, List.set_cons_zero, List.set_cons_succ]
                    refine wpAnyH_take (i := 5) (oi := ?oi305) (v := .bool false) ?hi305 (by kernel_rfl) ?hf305 (by kernel_rfl) ?hQ305 ?hy305 (by assumption) ?rest305
                    case hi305 => simp only [List.getElem?_toArray, List.getElem?_cons_succ, List.getElem?_cons_zero]; rfl
                    case hf305 => kernel_rfl
                    case hQ305 => exact fun _ _ _ h => h
                    case hy305 => exact Or.inl ⟨by rfl, by intro w hSw; (try dsimp only at hSw); go_simp⟩
                    try simp only [Act.put, List.setIfInBounds_toArray, List.set_cons_zero, List.set_cons_succ]
                    refine wpAnyH_take (i := 6) (oi := ?oi306) (v := .bool false) ?hi306 (by kernel_rfl) ?hf306 (by kernel_rfl) ?hQ306 ?hy306 (by assumption) ?rest306
                    case hi306 => simp only [List.getElem?_toArray, List.getElem?_cons_succ, List.getElem?_cons_zero]; rfl
                    case hf306 => kernel_rfl
                    case hQ306 => exact fun _ _ _ h => h
                    case hy306 => exact Or.inl ⟨by rfl, by intro w hSw; (try dsimp only at hSw); go_simp⟩
                    try simp only [Act.put, List.setIfInBounds_toArray, List.set_cons_zero, List.set_cons_succ]
                    refine wpAnyH_take (i := 7) (oi := ?oi307) (v := .bool false) ?hi307 (by kernel_rfl) ?hf307 (by kernel_rfl) ?hQ307 ?hy307 (by assumption) ?rest307
                    case hi307 => simp only [List.getElem?_toArray, List.getElem?_cons_succ, List.getElem?_cons_zero]; rfl
                    case hf307 => kernel_rfl
                    case hQ307 => exact fun _ _ _ h => h
                    case hy307 => exact Or.inl ⟨by rfl, by intro w hSw; (try dsimp only at hSw); go_simp⟩
                    try simp only [Act.put, List.setIfInBounds_toArray, List.set_cons_zero, List.set_cons_succ]
                    refine wpAnyH_take (i := 8) (oi := ?oi308) (v := .int .i64 today) ?hi308 (by kernel_rfl) ?hf308 (by kernel_rfl) ?hQ308 ?hy308 (by assumption) ?rest308
                    case hi308 => simp only [List.getElem?_toArray, List.getElem?_cons_succ, List.getElem?_cons_zero]; rfl
                    case hf308 => kernel_rfl
                    case hQ308 => exact fun _ _ _ h => h
                    case hy308 => exact Or.inl ⟨by rfl, by intro w hSw; (try dsimp only at hSw); go_simp⟩
                    try simp only [Act.put, List.setIfInBounds_toArray, List.set_cons_zero, List.set_cons_succ]
                    refine wpAnyH_take (i := 9) (oi := ?oi309) (v := .bool true) ?hi309 (by kernel_rfl) ?hf309 (by kernel_rfl) ?hQ309 ?hy309 (by assumption) ?rest309
                    case hi309 => simp only [List.getElem?_toArray, List.getElem?_cons_succ, List.getElem?_cons_zero]; rfl
                    case hf309 => kernel_rfl
                    case hQ309 => exact fun _ _ _ h => h
                    case hy309 => exact Or.inl ⟨by rfl, by intro w hSw; (try dsimp only at hSw); go_simp⟩
                    try simp only [Act.put, List.setIfInBounds_toArray, List.set_cons_zero, List.set_cons_succ]
                    refine wpAnyH_take (i := 10) (oi := ?oi310) (v := .bool true) ?hi310 (by kernel_rfl) ?hf310 (by kernel_rfl) ?hQ310 ?hy310 (by assumption) ?rest310
                    case hi310 => simp only [List.getElem?_toArray, List.getElem?_cons_succ, List.getElem?_cons_zero]; rfl
                    case hf310 => kernel_rfl
                    case hQ310 => exact fun _ _ _ h => h
                    case hy310 => exact Or.inl ⟨by rfl, by intro w hSw; (try dsimp only at hSw); go_simp⟩
                    try simp only [Act.put, List.setIfInBounds_toArray, List.set_cons_zero, List.set_cons_succ]
                    refine wpAnyH_take (i := 11) (oi := ?oi311) (v := .bool true) ?hi311 (by kernel_rfl) ?hf311 (by kernel_rfl) ?hQ311 ?hy311 (by assumption) ?rest311
                    case hi311 => simp only [List.getElem?_toArray, List.getElem?_cons_succ, List.getElem?_cons_zero]; rfl
                    case hf311 => kernel_rfl
                    case hQ311 => exact fun _ _ _ h => h
                    case hy311 => exact Or.inl ⟨by rfl, by intro w hSw; (try dsimp only at hSw); go_simp⟩
                    try simp only [Act.put, List.setIfInBounds_toArray, List.set_cons_zero, List.set_cons_succ]
                    refine wpAnyH_take (i := 12) (oi := ?oi312) (v := undef) ?hi312 (by kernel_rfl) ?hf312 (by kernel_rfl) ?hQ312 ?hy312 (by assumption) ?rest312
                    case hi312 => simp only [List.getElem?_toArray, List.getElem?_cons_succ, List.getElem?_cons_zero]; rfl
                    case hf312 => kernel_rfl
                    case hQ312 => exact fun _ _ _ h => h
                    case hy312 => exact Or.inr ⟨by rfl, rfl⟩
                    try simp only [Act.put, List.setIfInBounds_toArray, List.set_cons_zero, List.set_cons_succ]
                    refine wpAnyH_take (i := 13) (oi := ?oi313) (v := undef) ?hi313 (by kernel_rfl) ?hf313 (by kernel_rfl) ?hQ313 ?hy313 (by assumption) ?rest313
                    case hi313 => simp only [List.getElem?_toArray, List.getElem?_cons_succ, List.getElem?_cons_zero]; rfl
                    case hf313 => kernel_rfl
                    case hQ313 => exact fun _ _ _ h => h
                    case hy313 => exact Or.inr ⟨by rfl, rfl⟩
                    try simp only [Act.put, List.setIfInBounds_toArray, List.set_cons_zero, List.set_cons_succ]
                    refine wpAnyH_take (i := 14) (oi := ?oi314) (v := undef) ?hi314 (by kernel_rfl) ?hf314 (by kernel_rfl) ?hQ314 ?hy314 (by assumption) ?rest314
                    case hi314 => simp only [List.getElem?_toArray, List.getElem?_cons_succ, List.getElem?_cons_zero]; rfl
                    case hf314 => kernel_rfl
                    case hQ314 => exact fun _ _ _ h => h
                    case hy314 => exact Or.inr ⟨by rfl, rfl⟩
                    try simp only [Act.put, List.setIfInBounds_toArray, List.set_cons_zero, List.set_cons_succ]
                    refine wpAnyH_take (i := 15) (oi := ?oi315) (v := undef) ?hi315 (by kernel_rfl) ?hf315 (by kernel_rfl) ?hQ315 ?hy315 (by assumption) ?rest315
                    case hi315 => simp only [List.getElem?_toArray, List.getElem?_cons_succ, List.getElem?_cons_zero]; rfl
                    case hf315 => kernel_rfl
                    case hQ315 => exact fun _ _ _ h => h
                    case hy315 => exact Or.inr ⟨by rfl, rfl⟩
                    try simp only [Act.put, List.setIfInBounds_toArray, List.set_cons_zero, List.set_cons_succ]
                    refine wpAnyH_take (i := 16) (oi := ?oi316) (v := undef) ?hi316 (by kernel_rfl) ?hf316 (by kernel_rfl) ?hQ316 ?hy316 (by assumption) ?rest316
                    case hi316 => simp only [List.getElem?_toArray, List.getElem?_cons_succ, List.getElem?_cons_zero]; rfl
                    case hf316 => kernel_rfl
                    case hQ316 => exact fun _ _ _ h => h
                    case hy316 => exact Or.inr ⟨by rfl, rfl⟩
                    try simp only [Act.put, List.setIfInBounds_toArray, List.set_cons_zero, List.set_cons_succ]
                    refine wpAnyH_take (i := 17) (oi := ?oi317) (v := undef) ?hi317 (by kernel_rfl) ?hf317 (by kernel_rfl) ?hQ317 ?hy317 (by assumption) ?rest317
                    case hi317 => simp only [List.getElem?_toArray, List.getElem?_cons_succ, List.getElem?_cons_zero]; rfl
                    case hf317 => kernel_rfl
                    case hQ317 => exact fun _ _ _ h => h
                    case hy317 => exact Or.inr ⟨by rfl, rfl⟩
                    try simp only [Act.put, List.setIfInBounds_toArray, List.set_cons_zero, List.set_cons_succ]
                    refine wpAnyH_take (i := 18) (oi := ?oi318) (v := undef) ?hi318 (by kernel_rfl) ?hf318 (by kernel_rfl) ?hQ318 ?hy318 (by assumption) ?rest318
                    case hi318 => simp only [List.getElem?_toArray, List.getElem?_cons_succ, List.getElem?_cons_zero]; rfl
                    case hf318 => kernel_rfl
                    case hQ318 => exact fun _ _ _ h => h
                    case hy318 => exact Or.inr ⟨by rfl, rfl⟩
                    try simp only [Act.put, List.setIfInBounds_toArray, List.set_cons_zero, List.set_cons_succ]
                    refine wpAnyH_take (i := 19) (oi := ?oi319) (v := .bool true) ?hi319 (by kernel_rfl) ?hf319 (by kernel_rfl) ?hQ319 ?hy319 (by assumption) ?rest319
                    case hi319 => simp only [List.getElem?_toArray, List.getElem?_cons_succ, List.getElem?_cons_zero]; rfl
                    case hf319 => kernel_rfl
                    case hQ319 => exact fun _ _ _ h => h
                    case hy319 => exact Or.inl ⟨by rfl, by intro w hSw; (try dsimp only at hSw); go_simp⟩
                    try simp only [Act.put, List.setIfInBounds_toArray, List.set_cons_zero, List.set_cons_succ]
                    refine wpAnyH_take (i := 20) (oi := ?oi320) (v := .bool true) ?hi320 (by kernel_rfl) ?hf320 (by kernel_rfl) ?hQ320 ?hy320 (by assumption) ?rest320
                    case hi320 => simp only [List.getElem?_toArray, List.getElem?_cons_succ, List.getElem?_cons_zero]; rfl
                    case hf320 => kernel_rfl
                    case hQ320 => exact fun _ _ _ h => h
                    case hy320 => exact Or.inl ⟨by rfl, by intro w hSw; (try dsimp only at hSw); go_simp⟩
                    try simp only [Act.put, List.setIfInBounds_toArray, List.set_cons_zero, List.set_cons_succ]
                    refine wpAnyH_done (by kernel_rfl) ?_ _
                    go_wp2_with fail
                    go_ret
                    exact ⟨rfl, Chg.step HD1.out P4.out.chg (fun _ h => h.elim)⟩
                  · have ht1' : decide (40000 < today) = false := by simpa using ht1
                    have hO1 := fun w' (he : w'.cell? ⟨0, 0, none⟩ = some (errV (A 0))) (hL : LadAt w' w1.heap.size m fx L) => ladOf w1.heap.size m fx L ⟨id, iss, c, mo, f⟩ today w' _ _ _ rfl he hL HC.out hf0 hf1 (by omega)
                    have hO2 := fun w' (hY : CutsAt w' (w1.heap.size + 1) fx L) => cutOf27 (w1.heap.size + 1) fx L ⟨id, iss, c, mo, f⟩ today w' hY HC.out hf0 hf1 HOK.out (by omega)
                    simp only [Ast.val] at hO1 hO2
                    generalize ladOfV L fx ⟨id, iss, c, mo, f⟩ today = r at hO1 hO2
                    have HO1 := Lib.hid hO1
                    have HO2 := Lib.hid hO2
                    clear hO1 hO2
                    go_region_held3 (fun w' => w'.cell? ⟨w.heap.size, 0, none⟩ = some (.int .i64 id) ∧ w'.cell? ⟨w.heap.size, 1, none⟩ = some (.int .i64 iss) ∧ w'.cell? ⟨w.heap.size, 2, none⟩ = some (.int .i64 c) ∧ w'.cell? ⟨w.heap.size, 3, none⟩ = some (.int .i64 mo) ∧ w'.cell? ⟨w.heap.size, 4, none⟩ = some (.int .i64 f)) (go_keep)
                      (first
                      | (go_at_call 26; refine (HV.out _).mono ?_; rintro e w4 ⟨rfl, hc4⟩; have j0 := hc4.cell a0 (fun h => h); have j1 := hc4.cell a1 (fun h => h); have j2 := hc4.cell a2 (fun h => h); have j3 := hc4.cell a3 (fun h => h); have j4 := hc4.cell a4 (fun h => h); have P4 := Lib.hid ((P3.out.step (Chg.refl S0 w3).drew).step hc4))
                      | (go_at_call 20; refine (HO1.out _ (P4.out.errs.cell 0 (by decide) (by decide)) P4.out.lad).mono ?_; rintro e w5 ⟨rfl, hc5⟩; have u0 := hc5.cell j0 (fun h => h); have u1 := hc5.cell j1 (fun h => h); have u2 := hc5.cell j2 (fun h => h); have u3 := hc5.cell j3 (fun h => h); have u4 := hc5.cell j4 (fun h => h); have P5 := Lib.hid (P4.out.step hc5))
                      | (go_at_call 27; refine (HO2.out _ P5.out.cuts).mono ?_; rintro e w6 ⟨rfl, hc6⟩; have v0 := hc6.cell u0 (fun h => h); have v1 := hc6.cell u1 (fun h => h); have v2 := hc6.cell u2 (fun h => h); have v3 := hc6.cell u3 (fun h => h); have v4 := hc6.cell u4 (fun h => h); have P6 := Lib.hid (P5.out.step hc6)))
                    go_wp2_with fail
                    go_ret
                    exact ⟨by simp, Chg.step HD1.out P6.out.chg (fun _ h => h.elim)⟩
    · have hn' : decide ((60 : Int) < n) = true := by simp; omega
      go_enter Tryd.func4, Tryd.ntmps4
      go_wp2_with (go_at_call 14; refine (first12 _ _ _ he0).mono ?_; rintro e w1 ⟨rfl, hc1⟩)
      go_ret
      exact ⟨rfl, Chg.step ((Chg.refl S0 w).alloc _) hc1 (fun k hk => hk.elim)⟩
end Go.Proofs.YtljlnojelagmfaaDoor
