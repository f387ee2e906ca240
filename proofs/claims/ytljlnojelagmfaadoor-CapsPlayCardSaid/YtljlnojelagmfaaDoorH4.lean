/-
  The contract of the reference's Of (printed by wip/gen_of27.py): the same as the ladder's.
-/
import Derived.Test.YtljlnojelagmfaaDoorH2
namespace Go.Proofs.YtljlnojelagmfaaDoor
open Go.RowKit Go.Pl
set_option maxRecDepth 100000

theorem bucketN_in (d : Int) : 0 ≤ bucketN d ∧ bucketN d < 6 := by unfold bucketN; repeat' (first | split | omega)

set_option maxHeartbeats 4000000 in
theorem cutOf_over (yb : Nat) (fx : Int) (l : List ((Int × Int) × Int)) (id iss c mo f today : Int) (w : World) (hY : CutsAt w yb fx l) (_hC : Cuts l) (_hf0 : 0 ≤ fx) (_hf1 : fx ≤ 10000) (hb : Ast.okB ⟨id, iss, c, mo, f⟩ = true) (h1 : f ≠ 0) (h2 : f ≤ today) :
    Calls Tryd.prog 27 #[.pointer (some ⟨yb, 0, .none⟩), .agg #[.int .i64 id, .int .i64 iss, .int .i64 c, .int .i64 mo, .int .i64 f], .int .i64 today] w fun e w' => e = .returned (.int .i64 (ladOfV l fx ⟨id, iss, c, mo, f⟩ today)) ∧ Chg S0 w w' := by
  have hlt := CellsAt.lt hY
  have HR : Hid (ladOfV l fx ⟨id, iss, c, mo, f⟩ today = 10000) := by simp [Hid, ladOfV, hb, h1, h2]
  have HLv := live88 ⟨id, iss, c, mo, f⟩ today
  simp only [Ast.val] at HLv
  rw [show ((f : Int) == 0 || decide (today < f)) = false by simp; omega] at HLv
  have H := Lib.hid HLv
  clear HLv
  clear hb
  go_enter Tryd.func27, Tryd.ntmps27
  go_wp2_with (first | (go_at_call 88; refine (H.out _).mono ?_; rintro e w1 ⟨rfl, hc1⟩))
  go_ret
  exact ⟨by rw [HR.out]; rfl, Chg.step ((Chg.refl _ _).alloc _) hc1 (fun k hk => hk.elim)⟩

set_option maxHeartbeats 4000000 in
theorem cutOf_none (yb : Nat) (fx : Int) (l : List ((Int × Int) × Int)) (id iss c mo f today : Int) (w : World) (hY : CutsAt w yb fx l) (hC : Cuts l) (hf0 : 0 ≤ fx) (hf1 : fx ≤ 10000) (hb : Ast.okB ⟨id, iss, c, mo, f⟩ = true) (h1 : f = 0) (hc : c ≠ 1) :
    Calls Tryd.prog 27 #[.pointer (some ⟨yb, 0, .none⟩), .agg #[.int .i64 id, .int .i64 iss, .int .i64 c, .int .i64 mo, .int .i64 f], .int .i64 today] w fun e w' => e = .returned (.int .i64 (ladOfV l fx ⟨id, iss, c, mo, f⟩ today)) ∧ Chg S0 w w' := by
  subst h1
  have hlt := CellsAt.lt hY
  have hc' : (c == 1) = false := by simpa using hc
  have hin : 1 ≤ c ∧ c ≤ 6 := by simp [Ast.okB] at hb; omega
  have HR : Hid (ladOfV l fx ⟨id, iss, c, mo, 0⟩ today = min (ladGetV l c 5 + if mo = 1 then 0 else fx) 10000) := by simp [Hid, ladOfV, hb, bucketOf, hc]
  have HLv := live88 ⟨id, iss, c, mo, 0⟩ today
  simp only [Ast.val] at HLv
  rw [show ((0 : Int) == 0 || decide (today < 0)) = true by simp] at HLv
  have H := Lib.hid HLv
  clear HLv
  have hbk : (0 : Int) ≤ 5 ∧ (5 : Int) < 6 := by decide
  have hG := fun w' (hY' : CutsAt w' yb fx l) => cutGet25 yb fx c (5) l w' hY' hin.1 hin.2 hbk.1 hbk.2
  have hg := hC.get c (5)
  obtain ⟨v, hv⟩ : ∃ v, v = ladGetV l c (5) := ⟨_, rfl⟩
  have hv' : (lk l (c, 5)).getD 0 = v := by rw [hv]; rfl
  rw [← hv] at hg
  rw [hv'] at hG
  have HV := Lib.hid hv
  have HG := Lib.hid hG
  obtain ⟨g1, g2⟩ := hg
  clear hb hC hv hv' hG hin hbk
  by_cases hm : mo = 1
  · subst hm
    go_enter Tryd.func27, Tryd.ntmps27
    go_wp2_with (first | (go_at_call 88; refine (H.out _).mono ?_; rintro e w1 ⟨rfl, hc1⟩; have hc0 := Chg.step ((Chg.refl S0 w).alloc _) hc1 (fun k hk => hk.elim); have hY1 : CutsAt w1 yb fx l := CellsAt.chg hY hc0 (fun h => h); have cf := hY1.fxC; have k0 := hc1.cell (b := w.heap.size) (o := 0) (v := .int .i64 id) (by simp) (fun h => h); have k1 := hc1.cell (b := w.heap.size) (o := 1) (v := .int .i64 iss) (by simp) (fun h => h); have k2 := hc1.cell (b := w.heap.size) (o := 2) (v := .int .i64 c) (by simp) (fun h => h); have k3 := hc1.cell (b := w.heap.size) (o := 3) (v := .int .i64 1) (by simp) (fun h => h); have k4 := hc1.cell (b := w.heap.size) (o := 4) (v := .int .i64 0) (by simp) (fun h => h); have hlt1 := CellsAt.lt hY1; clear hc1) | (go_at_call 25; refine (HG.out _ hY1).mono ?_; rintro e w' ⟨rfl, rfl⟩))
    all_goals go_ret
    all_goals exact ⟨by rw [HR.out, ← HV.out]; exact ret_int (by simp only [if_true, Int.add_zero]; omega), hc0⟩
  · have hm' : (mo == 1) = false := by simpa using hm
    have hm'' : (mo != 1) = true := by simpa using hm
    go_enter Tryd.func27, Tryd.ntmps27
    go_wp2_with (first | (go_at_call 88; refine (H.out _).mono ?_; rintro e w1 ⟨rfl, hc1⟩; have hc0 := Chg.step ((Chg.refl S0 w).alloc _) hc1 (fun k hk => hk.elim); have hY1 : CutsAt w1 yb fx l := CellsAt.chg hY hc0 (fun h => h); have cf := hY1.fxC; have k0 := hc1.cell (b := w.heap.size) (o := 0) (v := .int .i64 id) (by simp) (fun h => h); have k1 := hc1.cell (b := w.heap.size) (o := 1) (v := .int .i64 iss) (by simp) (fun h => h); have k2 := hc1.cell (b := w.heap.size) (o := 2) (v := .int .i64 c) (by simp) (fun h => h); have k3 := hc1.cell (b := w.heap.size) (o := 3) (v := .int .i64 mo) (by simp) (fun h => h); have k4 := hc1.cell (b := w.heap.size) (o := 4) (v := .int .i64 0) (by simp) (fun h => h); have hlt1 := CellsAt.lt hY1; clear hc1) | (go_at_call 25; refine (HG.out _ hY1).mono ?_; rintro e w' ⟨rfl, rfl⟩))
    all_goals go_ret
    all_goals exact ⟨by rw [HR.out, ← HV.out]; exact ret_int (by simp only [hm, if_false]; omega), hc0⟩

set_option maxHeartbeats 4000000 in
theorem cutOf_cash (yb : Nat) (fx : Int) (l : List ((Int × Int) × Int)) (id iss c mo f today : Int) (w : World) (hY : CutsAt w yb fx l) (hC : Cuts l) (hf0 : 0 ≤ fx) (hf1 : fx ≤ 10000) (hb : Ast.okB ⟨id, iss, c, mo, f⟩ = true) (h1 : f = 0) (hc : c = 1) :
    Calls Tryd.prog 27 #[.pointer (some ⟨yb, 0, .none⟩), .agg #[.int .i64 id, .int .i64 iss, .int .i64 c, .int .i64 mo, .int .i64 f], .int .i64 today] w fun e w' => e = .returned (.int .i64 (ladOfV l fx ⟨id, iss, c, mo, f⟩ today)) ∧ Chg S0 w w' := by
  subst h1
  subst hc
  have hlt := CellsAt.lt hY
  have hin : (1 : Int) ≤ 1 ∧ (1 : Int) ≤ 6 := by decide
  have HR : Hid (ladOfV l fx ⟨id, iss, 1, mo, 0⟩ today = min (ladGetV l 1 0 + if mo = 1 then 0 else fx) 10000) := by simp [Hid, ladOfV, hb, bucketOf]
  have HLv := live88 ⟨id, iss, 1, mo, 0⟩ today
  simp only [Ast.val] at HLv
  rw [show ((0 : Int) == 0 || decide (today < 0)) = true by simp] at HLv
  have H := Lib.hid HLv
  clear HLv
  have hbk : (0 : Int) ≤ 0 ∧ (0 : Int) < 6 := by decide
  have hG := fun w' (hY' : CutsAt w' yb fx l) => cutGet25 yb fx 1 (0) l w' hY' hin.1 hin.2 hbk.1 hbk.2
  have hg := hC.get 1 (0)
  obtain ⟨v, hv⟩ : ∃ v, v = ladGetV l 1 (0) := ⟨_, rfl⟩
  have hv' : (lk l (1, 0)).getD 0 = v := by rw [hv]; rfl
  rw [← hv] at hg
  rw [hv'] at hG
  have HV := Lib.hid hv
  have HG := Lib.hid hG
  obtain ⟨g1, g2⟩ := hg
  clear hb hC hv hv' hG hin hbk
  by_cases hm : mo = 1
  · subst hm
    go_enter Tryd.func27, Tryd.ntmps27
    go_wp2_with (first | (go_at_call 88; refine (H.out _).mono ?_; rintro e w1 ⟨rfl, hc1⟩; have hc0 := Chg.step ((Chg.refl S0 w).alloc _) hc1 (fun k hk => hk.elim); have hY1 : CutsAt w1 yb fx l := CellsAt.chg hY hc0 (fun h => h); have cf := hY1.fxC; have k0 := hc1.cell (b := w.heap.size) (o := 0) (v := .int .i64 id) (by simp) (fun h => h); have k1 := hc1.cell (b := w.heap.size) (o := 1) (v := .int .i64 iss) (by simp) (fun h => h); have k2 := hc1.cell (b := w.heap.size) (o := 2) (v := .int .i64 1) (by simp) (fun h => h); have k3 := hc1.cell (b := w.heap.size) (o := 3) (v := .int .i64 1) (by simp) (fun h => h); have k4 := hc1.cell (b := w.heap.size) (o := 4) (v := .int .i64 0) (by simp) (fun h => h); have hlt1 := CellsAt.lt hY1; clear hc1) | (go_at_call 25; refine (HG.out _ hY1).mono ?_; rintro e w' ⟨rfl, rfl⟩))
    all_goals go_ret
    all_goals exact ⟨by rw [HR.out, ← HV.out]; exact ret_int (by simp only [if_true, Int.add_zero]; omega), hc0⟩
  · have hm' : (mo == 1) = false := by simpa using hm
    have hm'' : (mo != 1) = true := by simpa using hm
    go_enter Tryd.func27, Tryd.ntmps27
    go_wp2_with (first | (go_at_call 88; refine (H.out _).mono ?_; rintro e w1 ⟨rfl, hc1⟩; have hc0 := Chg.step ((Chg.refl S0 w).alloc _) hc1 (fun k hk => hk.elim); have hY1 : CutsAt w1 yb fx l := CellsAt.chg hY hc0 (fun h => h); have cf := hY1.fxC; have k0 := hc1.cell (b := w.heap.size) (o := 0) (v := .int .i64 id) (by simp) (fun h => h); have k1 := hc1.cell (b := w.heap.size) (o := 1) (v := .int .i64 iss) (by simp) (fun h => h); have k2 := hc1.cell (b := w.heap.size) (o := 2) (v := .int .i64 1) (by simp) (fun h => h); have k3 := hc1.cell (b := w.heap.size) (o := 3) (v := .int .i64 mo) (by simp) (fun h => h); have k4 := hc1.cell (b := w.heap.size) (o := 4) (v := .int .i64 0) (by simp) (fun h => h); have hlt1 := CellsAt.lt hY1; clear hc1) | (go_at_call 25; refine (HG.out _ hY1).mono ?_; rintro e w' ⟨rfl, rfl⟩))
    all_goals go_ret
    all_goals exact ⟨by rw [HR.out, ← HV.out]; exact ret_int (by simp only [hm, if_false]; omega), hc0⟩

set_option maxHeartbeats 4000000 in
theorem cutOf_live (yb : Nat) (fx : Int) (l : List ((Int × Int) × Int)) (id iss c mo f today : Int) (w : World) (hY : CutsAt w yb fx l) (hC : Cuts l) (hf0 : 0 ≤ fx) (hf1 : fx ≤ 10000) (hb : Ast.okB ⟨id, iss, c, mo, f⟩ = true) (h1 : f ≠ 0) (h2 : today < f) (h3 : f ≤ 40000) (h4 : 0 ≤ today) (hc : c ≠ 1) :
    Calls Tryd.prog 27 #[.pointer (some ⟨yb, 0, .none⟩), .agg #[.int .i64 id, .int .i64 iss, .int .i64 c, .int .i64 mo, .int .i64 f], .int .i64 today] w fun e w' => e = .returned (.int .i64 (ladOfV l fx ⟨id, iss, c, mo, f⟩ today)) ∧ Chg S0 w w' := by
  have hlt := CellsAt.lt hY
  have hc' : (c == 1) = false := by simpa using hc
  have h1' : (f == 0) = false := by simpa using h1
  have h1'' : (f != 0) = true := by simpa using h1
  have h5 : ¬ f ≤ today := by omega
  have hin : 1 ≤ c ∧ c ≤ 6 := by simp [Ast.okB] at hb; omega
  have HR : Hid (ladOfV l fx ⟨id, iss, c, mo, f⟩ today = min (ladGetV l c (bucketN (f - today)) + if mo = 1 then 0 else fx) 10000) := by simp [Hid, ladOfV, hb, leftOf, bucketOf, hc, h1, h5]
  have HLv := live88 ⟨id, iss, c, mo, f⟩ today
  simp only [Ast.val] at HLv
  rw [show ((f : Int) == 0 || decide (today < f)) = true by simp; omega] at HLv
  have H := Lib.hid HLv
  clear HLv
  have hbk : (0 : Int) ≤ (bucketN (f - today)) ∧ ((bucketN (f - today)) : Int) < 6 := by exact bucketN_in _
  have hG := fun w' (hY' : CutsAt w' yb fx l) => cutGet25 yb fx c ((bucketN (f - today))) l w' hY' hin.1 hin.2 hbk.1 hbk.2
  have hg := hC.get c ((bucketN (f - today)))
  obtain ⟨v, hv⟩ : ∃ v, v = ladGetV l c ((bucketN (f - today))) := ⟨_, rfl⟩
  have hv' : (lk l (c, (bucketN (f - today)))).getD 0 = v := by rw [hv]; rfl
  rw [← hv] at hg
  rw [hv'] at hG
  have HV := Lib.hid hv
  have hB := bucket90 (f - today)
  generalize bucketN (f - today) = bk at *
  have HB := Lib.hid hB
  clear hB hbk
  have HG := Lib.hid hG
  obtain ⟨g1, g2⟩ := hg
  clear hb hC hv hv' hG hin
  by_cases hm : mo = 1
  · subst hm
    go_enter Tryd.func27, Tryd.ntmps27
    go_wp2_with (first | (go_at_call 88; refine (H.out _).mono ?_; rintro e w1 ⟨rfl, hc1⟩; have hc0 := Chg.step ((Chg.refl S0 w).alloc _) hc1 (fun k hk => hk.elim); have hY1 : CutsAt w1 yb fx l := CellsAt.chg hY hc0 (fun h => h); have cf := hY1.fxC; have k0 := hc1.cell (b := w.heap.size) (o := 0) (v := .int .i64 id) (by simp) (fun h => h); have k1 := hc1.cell (b := w.heap.size) (o := 1) (v := .int .i64 iss) (by simp) (fun h => h); have k2 := hc1.cell (b := w.heap.size) (o := 2) (v := .int .i64 c) (by simp) (fun h => h); have k3 := hc1.cell (b := w.heap.size) (o := 3) (v := .int .i64 1) (by simp) (fun h => h); have k4 := hc1.cell (b := w.heap.size) (o := 4) (v := .int .i64 f) (by simp) (fun h => h); have hlt1 := CellsAt.lt hY1; clear hc1) | (go_at_call 89; refine (leftTo89 _ _ _ h1 h2 (by omega) h4).mono ?_; rintro e w' ⟨rfl, rfl⟩) | (go_at_call 90; refine (HB.out _).mono ?_; rintro e w' ⟨rfl, rfl⟩) | (go_at_call 25; refine (HG.out _ hY1).mono ?_; rintro e w' ⟨rfl, rfl⟩))
    all_goals go_ret
    all_goals exact ⟨by rw [HR.out, ← HV.out]; exact ret_int (by simp only [if_true, Int.add_zero]; omega), hc0⟩
  · have hm' : (mo == 1) = false := by simpa using hm
    have hm'' : (mo != 1) = true := by simpa using hm
    go_enter Tryd.func27, Tryd.ntmps27
    go_wp2_with (first | (go_at_call 88; refine (H.out _).mono ?_; rintro e w1 ⟨rfl, hc1⟩; have hc0 := Chg.step ((Chg.refl S0 w).alloc _) hc1 (fun k hk => hk.elim); have hY1 : CutsAt w1 yb fx l := CellsAt.chg hY hc0 (fun h => h); have cf := hY1.fxC; have k0 := hc1.cell (b := w.heap.size) (o := 0) (v := .int .i64 id) (by simp) (fun h => h); have k1 := hc1.cell (b := w.heap.size) (o := 1) (v := .int .i64 iss) (by simp) (fun h => h); have k2 := hc1.cell (b := w.heap.size) (o := 2) (v := .int .i64 c) (by simp) (fun h => h); have k3 := hc1.cell (b := w.heap.size) (o := 3) (v := .int .i64 mo) (by simp) (fun h => h); have k4 := hc1.cell (b := w.heap.size) (o := 4) (v := .int .i64 f) (by simp) (fun h => h); have hlt1 := CellsAt.lt hY1; clear hc1) | (go_at_call 89; refine (leftTo89 _ _ _ h1 h2 (by omega) h4).mono ?_; rintro e w' ⟨rfl, rfl⟩) | (go_at_call 90; refine (HB.out _).mono ?_; rintro e w' ⟨rfl, rfl⟩) | (go_at_call 25; refine (HG.out _ hY1).mono ?_; rintro e w' ⟨rfl, rfl⟩))
    all_goals go_ret
    all_goals exact ⟨by rw [HR.out, ← HV.out]; exact ret_int (by simp only [hm, if_false]; omega), hc0⟩

theorem cutOf27 (yb : Nat) (fx : Int) (l : List ((Int × Int) × Int)) (a : Ast) (today : Int) (w : World) (hY : CutsAt w yb fx l) (hC : Cuts l) (hf0 : 0 ≤ fx) (hf1 : fx ≤ 10000) (hb : a.okB = true) (h4 : 0 ≤ today) :
    Calls Tryd.prog 27 #[.pointer (some ⟨yb, 0, .none⟩), a.val, .int .i64 today] w fun e w' => e = .returned (.int .i64 (ladOfV l fx a today)) ∧ Chg S0 w w' := by
  obtain ⟨id, iss, c, mo, f⟩ := a
  simp only [Ast.val]
  by_cases h1 : f = 0
  · by_cases hc : c = 1
    · exact cutOf_cash yb fx l id iss c mo f today w hY hC hf0 hf1 hb h1 hc
    · exact cutOf_none yb fx l id iss c mo f today w hY hC hf0 hf1 hb h1 hc
  · by_cases h2 : f ≤ today
    · exact cutOf_over yb fx l id iss c mo f today w hY hC hf0 hf1 hb h1 h2
    · exact cutOf_live yb fx l id iss c mo f today w hY hC hf0 hf1 hb h1 (by omega) (by simp [Ast.okB] at hb; omega) h4 (by simp [Ast.okB] at hb; omega)

end Go.Proofs.YtljlnojelagmfaaDoor

