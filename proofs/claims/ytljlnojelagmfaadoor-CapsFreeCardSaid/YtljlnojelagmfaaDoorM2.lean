/-
  Sums that do not go round: fix.Sum, money.Total. (Chapters 2, 3.)
-/
import Derived.Test.YtljlnojelagmfaaDoorN2
import Derived.Laws.Externs
import Derived.Test.YtljlnojelagmfaaDoorM1
import Derived.Test.YtljlnojelagmfaaDoorH5
namespace Go.Proofs.YtljlnojelagmfaaDoor
open Go.RowKit Go.Pl
set_option maxRecDepth 100000

theorem add286 (x y : Int) (h1 : 0 ≤ x) (h2 : 0 ≤ y) (h3 : x + y < 18446744073709551616) (w : World) :
    (callFunc 286 #[.int .u64 x, .int .u64 y, .int .u64 0]).run Tryd.prog w = .ok (.value (.tuple #[.int .u64 (x + y), .int .u64 0])) w := by
  rw [run_callFunc_extern Tryd.func286 (by kernel_rfl) (by kernel_rfl) (by kernel_rfl) (e := add64Entry) (by kernel_rfl), run_add64 x y 0 h1 h2 (by decide) (by decide)]
  have e1 : (x + y + 0) % 18446744073709551616 = x + y := by omega
  have e2 : (x + y + 0) / 18446744073709551616 = 0 := by omega
  rw [e1, e2]
  rfl

theorem plus239 (lo n : Int) (w : World) (h1 : 0 ≤ lo) (h2 : lo ≤ 1000000000000000000) (h3 : 0 ≤ n) (h4 : n ≤ 1000000000000000) :
    Calls Tryd.prog 239 #[.agg #[.int .i64 0, .int .u64 lo], .int .i64 n] w fun e w' => e = .returned (.agg #[.int .i64 0, .int .u64 (lo + n)]) ∧ Chg S0 w w' := by
  have hadd := fun w => add286 lo n h1 h3 (by omega) w
  have hdiv : n / 9223372036854775808 = 0 := by omega
  go_enter Tryd.func239, Tryd.ntmps239
  go_wp2
  refine bodyPost_ret (v := .agg #[.int .i64 0, .int .u64 (lo + n)]) (by simp [results, Tryd.results239, go_sem]) rfl ⟨rfl, ((Chg.refl _ _).alloc _).alloc _⟩


set_option maxHeartbeats 2000000 in
theorem sum199 (v : Value) (l : List Int) (w : World) (hI : IntsAt w v l) (hl : l.length ≤ 100) (h : l.all amtB = true) :
    Calls Tryd.prog 199 #[v] w fun e w' => e = .returned (.tuple #[.int .i64 (sumI l), .bool true]) ∧ Chg S0 w w' := by
  obtain ⟨p, cap, rfl, hcap, hI⟩ := hI
  have HH := Lib.hid h
  have hb := sumI_bd l h
  clear h
  go_enter Tryd.func199, Tryd.ntmps199
  go_wp2
  go_loopw [10] (fun i wr => ∃ k : Nat, k ≤ l.length ∧ i = .int .i64 k ∧ Chg S0 w wr ∧ CellsAt wr w.heap.size #[.int .i64 0, .int .u64 (sumI (l.take k))] 330) (fun i _ => l.length - (intOf i).toNat)
  case atStart => exact ⟨0, Nat.zero_le _, rfl, (Chg.refl _ _).alloc _, CellsAt.new _ _ _⟩
  case round =>
    obtain ⟨k, hk, rfl, hc, hC⟩ := hrel
    have q0 := hC.cell 0
    have q1 := hC.cell 1
    have f0 := hC.frozen 0
    have f1 := hC.frozen 1
    simp only [List.getElem?_toArray, List.getElem?_cons_zero, List.getElem?_cons_succ] at q0 q1
    have hlt := hC.lt
    by_cases hkn : k < l.length
    · have hkn' : decide ((k : Int) < l.length) = true := by simp; omega
      obtain ⟨a, pb, po, ps, hpa, hadd, q00⟩ := hI k hkn
      have q2 := hc.cellA q00 (fun h => h)
      subst hpa
      have hx : amtB l[k] = true := List.all_eq_true.1 HH.out _ (List.getElem_mem hkn)
      have hsb := sumI_bd _ (all_take HH.out k)
      have hT := sumI_take hkn
      have htl : (l.take k).length ≤ k := List.length_take_le _ _
      generalize l[k] = x at *
      simp [amtB] at hx
      have hpl := fun W => plus239 (sumI (l.take k)) x W hsb.1 (by omega) hx.1 hx.2
      have HP := Lib.hid hpl
      have HT := Lib.hid hT
      have Hc := Lib.hid hc
      have HC := Lib.hid hC
      clear hpl hT hc hC q00
      go_wp2_with (go_at_call 239; refine (HP.out _).mono ?_; rintro e w2 ⟨rfl, hc2⟩; have C2 := Lib.hid (HC.out.chg hc2 (fun h => h)); have Hc2 := Lib.hid (Chg.step Hc.out hc2 (fun _ h => h.elim)); have z2 := C2.out.lt; have y0 := C2.out.cell 0; have y1 := C2.out.cell 1; have g0 := C2.out.frozen 0; have g1 := C2.out.frozen 1; simp only [List.getElem?_toArray, List.getElem?_cons_zero, List.getElem?_cons_succ] at y0 y1; clear hc2)
      refine ⟨⟨k + 1, by omega, by go_num, ?_, ?_⟩, by simp [intOf]; omega⟩
      · exact Chg.setCell (Chg.setCell Hc2.out ⟨w.heap.size, 0, none⟩ _ (.inr (Nat.le_refl _))) ⟨w.heap.size, 1, none⟩ _ (.inr (Nat.le_refl _))
      · have := (C2.out.set 0 (.int .i64 0)).set 1 (.int .u64 (sumI (l.take k) + x))
        rw [HT.out]
        simpa using this
    · obtain rfl : k = l.length := by omega
      rw [List.take_length] at *
      have hdiv : sumI l / 9223372036854775808 = 0 := by omega
      have Hc := Lib.hid hc
      clear hc hkn
      go_wp2
      go_ret2
      exact ⟨rfl, Hc.out⟩

theorem within198 (n : Int) (w : World) : Calls Tryd.prog 198 #[.int .i64 n, .int .i64 1000000000000000] w fun e w' => e = .returned (.bool (amtB n)) ∧ w = w' := by
  unfold amtB
  by_cases h : 0 ≤ n
  · have h' : decide (0 ≤ n) = true := by simpa using h
    go_enter Tryd.func198, Tryd.ntmps198
    go_wp2
    go_ret
    simp [h']
  · have h' : decide (0 ≤ n) = false := by simpa using h
    go_enter Tryd.func198, Tryd.ntmps198
    go_wp2
    go_ret
    simp

/-- Amounts, added: the sum, or that it is too great. -/
def totV (er : Value) (s : Int) : Value := if s ≤ 1000000000000000 then .tuple #[.int .i64 s, .nilIface] else .tuple #[.int .i64 0, er]

set_option maxHeartbeats 2000000 in
theorem total157 (er v : Value) (l : List Int) (w : World) (hE : w.cell? ⟨2, 0, none⟩ = some er) (hI : IntsAt w v l) (hl : l.length ≤ 100) (h : l.all amtB = true) :
    Calls Tryd.prog 157 #[v] w fun e w' => e = .returned (totV er (sumI l)) ∧ Chg S0 w w' := by
  have hS := sum199 v l w hI hl h
  obtain ⟨p, cap, rfl, hcap, hI⟩ := hI
  have HH := Lib.hid h
  have HS := Lib.hid hS
  have hz := World.block_lt_of_cell? _ _ hE
  have HE := Lib.hid hE
  have hb := sumI_bd l h
  clear h hS hE
  go_enter Tryd.func157, Tryd.ntmps157
  go_wp2
  go_loop [10] (fun i => ∃ k : Nat, k ≤ l.length ∧ i = .int .i64 k) (fun i => l.length - (intOf i).toNat)
  case atStart => exact ⟨0, Nat.zero_le _, rfl⟩
  case round =>
    obtain ⟨k, hk, rfl⟩ := hrel
    by_cases hkn : k < l.length
    · have hkn' : decide ((k : Int) < l.length) = true := by simp; omega
      obtain ⟨a, pb, po, ps, hpa, hadd, q0⟩ := hI k hkn
      subst hpa
      have hx : amtB l[k] = true := List.all_eq_true.1 HH.out _ (List.getElem_mem hkn)
      generalize l[k] = x at *
      have hw := fun W => within198 x W
      rw [hx] at hw
      have HW := Lib.hid hw
      clear hw
      go_wp2_with (go_at_call 198; refine (HW.out _).mono ?_; rintro e w' ⟨rfl, rfl⟩)
      exact ⟨⟨k + 1, by omega, by go_num⟩, by simp [intOf]; omega⟩
    · obtain rfl : k = l.length := by omega
      clear hkn
      by_cases hs : sumI l ≤ 1000000000000000
      · have hs' : decide (1000000000000000 < sumI l) = false := by simp; omega
        have hv : totV er (sumI l) = .tuple #[.int .i64 (sumI l), .nilIface] := by unfold totV; rw [if_pos hs]
        have HV := Lib.hid hv
        clear hv
        go_wp2_with (go_at_call 199; refine HS.out.mono ?_; rintro e w2 ⟨rfl, hc2⟩; have Hc2 := Lib.hid hc2; clear hc2)
        go_ret2
        exact ⟨by rw [HV.out]; rfl, Hc2.out⟩
      · have hs' : decide (1000000000000000 < sumI l) = true := by simp; omega
        have hv : totV er (sumI l) = .tuple #[.int .i64 0, er] := by unfold totV; rw [if_neg hs]
        have HV := Lib.hid hv
        clear hv
        go_wp2_with (go_at_call 199; refine HS.out.mono ?_; rintro e w2 ⟨rfl, hc2⟩; have Hc2 := Lib.hid hc2; have hE2 := hc2.cell HE.out (fun h => h); have hz2 := hc2.lt hz; clear hc2)
        go_quiet (fail)
        go_wp2
        go_ret2
        exact ⟨by rw [HV.out]; rfl, (Hc2.out.drewN _)⟩
end Go.Proofs.YtljlnojelagmfaaDoor
