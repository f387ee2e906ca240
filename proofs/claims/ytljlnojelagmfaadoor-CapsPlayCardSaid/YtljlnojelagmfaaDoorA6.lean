/-
  The contract of Of (printed by wip/gen_of.py).
-/
import Derived.Test.YtljlnojelagmfaaDoorA5
namespace Go.Proofs.YtljlnojelagmfaaDoor
open Go.RowKit Go.Pl
set_option maxRecDepth 100000

theorem LadAt.drew {w : World} {b : Nat} {m : Option Nat} {fx : Int} {l : List ((Int × Int) × Int)} (h : LadAt w b m fx l) : LadAt w.drew b m fx l := ⟨h.cells, h.map⟩
def ladGetV (l : List ((Int × Int) × Int)) (c b : Int) : Int := (lk l (c, b)).getD 0
def leftOf (a : Ast) (today : Int) : Int := if a.fin = 0 then 0 else a.fin - today
def ladOfV (l : List ((Int × Int) × Int)) (fx : Int) (a : Ast) (today : Int) : Int :=
  if a.okB = true then (if a.fin ≠ 0 ∧ a.fin ≤ today then 10000 else min (ladGetV l a.cls (bucketOf a (leftOf a today)) + if a.money = 1 then 0 else fx) 10000) else 0
/-- All cuts of a ladder are cuts. -/
def Cuts (l : List ((Int × Int) × Int)) : Prop := ∀ p ∈ l, 0 ≤ p.2 ∧ p.2 ≤ 10000
theorem Cuts.get {l : List ((Int × Int) × Int)} (h : Cuts l) (c b : Int) : 0 ≤ ladGetV l c b ∧ ladGetV l c b ≤ 10000 := by
  unfold ladGetV
  cases hk : lk l (c, b) with
  | none => simp
  | some y => exact h _ (mem_of_lk hk)

set_option maxHeartbeats 4000000 in
theorem ladOf_bad (lb : Nat) (m : Option Nat) (fx : Int) (l : List ((Int × Int) × Int)) (id iss c mo f today : Int) (w : World) (er : Value) (te : TypeId) (ve : Value) (hee : er = .iface te ve) (he : w.cell? ⟨0, 0, none⟩ = some er) (hL : LadAt w lb m fx l) (_hC : Cuts l) (_hf0 : 0 ≤ fx) (_hf1 : fx ≤ 10000) (hb : Ast.okB ⟨id, iss, c, mo, f⟩ = false) :
    Calls Tryd.prog 20 #[.pointer (some ⟨lb, 0, .none⟩), .agg #[.int .i64 id, .int .i64 iss, .int .i64 c, .int .i64 mo, .int .i64 f], .int .i64 today] w fun e w' => e = .returned (.int .i64 (ladOfV l fx ⟨id, iss, c, mo, f⟩ today)) ∧ Chg S0 w w' := by
  subst hee
  have hlt := hL.cells.lt
  have hz := World.block_lt_of_cell? _ _ he
  have hv := asset_valid ⟨id, iss, c, mo, f⟩
  simp only [Ast.val] at hv
  have hv' : ∀ (o : Obj), Calls Tryd.prog 83 #[.agg #[.int .i64 id, .int .i64 iss, .int .i64 c, .int .i64 mo, .int .i64 f]] (w.alloc o) fun e w' => e = .returned (.iface te ve) ∧ Chg S0 (w.alloc o) w' := by
    intro o
    have := hv (w.alloc o) _ ((World.cell?_alloc_past _ _ _ hz).trans he)
    simpa [validR, hb] using this
  have H := Lib.hid hv'
  have HR : Hid (ladOfV l fx ⟨id, iss, c, mo, f⟩ today = 0) := by simp [Hid, ladOfV, hb]
  clear hv hv' hb
  go_enter Tryd.func20, Tryd.ntmps20
  go_wp2_with (first | (go_at_call 83; refine (H.out _).mono ?_; rintro e w1 ⟨rfl, hc1⟩))
  go_ret
  exact ⟨by rw [HR.out]; rfl, Chg.step ((Chg.refl _ _).alloc _) hc1 (fun k hk => hk.elim)⟩

set_option maxHeartbeats 4000000 in
theorem ladOf_over (lb : Nat) (m : Option Nat) (fx : Int) (l : List ((Int × Int) × Int)) (id iss c mo f today : Int) (w : World) (er : Value) (te : TypeId) (ve : Value) (hee : er = .iface te ve) (he : w.cell? ⟨0, 0, none⟩ = some er) (hL : LadAt w lb m fx l) (_hC : Cuts l) (_hf0 : 0 ≤ fx) (_hf1 : fx ≤ 10000) (hb : Ast.okB ⟨id, iss, c, mo, f⟩ = true) (h1 : f ≠ 0) (h2 : f ≤ today) :
    Calls Tryd.prog 20 #[.pointer (some ⟨lb, 0, .none⟩), .agg #[.int .i64 id, .int .i64 iss, .int .i64 c, .int .i64 mo, .int .i64 f], .int .i64 today] w fun e w' => e = .returned (.int .i64 (ladOfV l fx ⟨id, iss, c, mo, f⟩ today)) ∧ Chg S0 w w' := by
  subst hee
  have hlt := hL.cells.lt
  have hz := World.block_lt_of_cell? _ _ he
  have hv := asset_valid ⟨id, iss, c, mo, f⟩
  simp only [Ast.val] at hv
  have hv' : ∀ (o : Obj), Calls Tryd.prog 83 #[.agg #[.int .i64 id, .int .i64 iss, .int .i64 c, .int .i64 mo, .int .i64 f]] (w.alloc o) fun e w' => e = .returned .nilIface ∧ Chg S0 (w.alloc o) w' := by
    intro o
    have := hv (w.alloc o) _ ((World.cell?_alloc_past _ _ _ hz).trans he)
    simpa [validR, hb] using this
  have H := Lib.hid hv'
  have h1' : (f == 0) = false := by simpa using h1
  have HR : Hid (ladOfV l fx ⟨id, iss, c, mo, f⟩ today = 10000) := by simp [Hid, ladOfV, hb, h1, h2]
  clear hv hv' hb
  go_enter Tryd.func20, Tryd.ntmps20
  go_wp2_with (first | (go_at_call 83; refine (H.out _).mono ?_; rintro e w1 ⟨rfl, hc1⟩; have k0 := hc1.cell (b := w.heap.size) (o := 0) (v := .int .i64 id) (by simp) (fun h => h); have k1 := hc1.cell (b := w.heap.size) (o := 1) (v := .int .i64 iss) (by simp) (fun h => h); have k2 := hc1.cell (b := w.heap.size) (o := 2) (v := .int .i64 c) (by simp) (fun h => h); have k3 := hc1.cell (b := w.heap.size) (o := 3) (v := .int .i64 mo) (by simp) (fun h => h); have k4 := hc1.cell (b := w.heap.size) (o := 4) (v := .int .i64 f) (by simp) (fun h => h)) | (go_at_call 84; refine (left_over _ _ _ h1 h2).mono ?_; rintro e w' ⟨rfl, rfl⟩))
  go_ret
  exact ⟨by rw [HR.out]; rfl, Chg.step ((Chg.refl _ _).alloc _) hc1 (fun k hk => hk.elim)⟩

set_option maxHeartbeats 4000000 in
theorem ladOf_none (lb : Nat) (m : Option Nat) (fx : Int) (l : List ((Int × Int) × Int)) (id iss c mo f today : Int) (w : World) (er : Value) (te : TypeId) (ve : Value) (hee : er = .iface te ve) (he : w.cell? ⟨0, 0, none⟩ = some er) (hL : LadAt w lb m fx l) (hC : Cuts l) (hf0 : 0 ≤ fx) (hf1 : fx ≤ 10000) (hb : Ast.okB ⟨id, iss, c, mo, f⟩ = true) (h1 : f = 0) :
    Calls Tryd.prog 20 #[.pointer (some ⟨lb, 0, .none⟩), .agg #[.int .i64 id, .int .i64 iss, .int .i64 c, .int .i64 mo, .int .i64 f], .int .i64 today] w fun e w' => e = .returned (.int .i64 (ladOfV l fx ⟨id, iss, c, mo, f⟩ today)) ∧ Chg S0 w w' := by
  subst hee
  have hlt := hL.cells.lt
  have hz := World.block_lt_of_cell? _ _ he
  have hv := asset_valid ⟨id, iss, c, mo, f⟩
  simp only [Ast.val] at hv
  have hv' : ∀ (o : Obj), Calls Tryd.prog 83 #[.agg #[.int .i64 id, .int .i64 iss, .int .i64 c, .int .i64 mo, .int .i64 f]] (w.alloc o) fun e w' => e = .returned .nilIface ∧ Chg S0 (w.alloc o) w' := by
    intro o
    have := hv (w.alloc o) _ ((World.cell?_alloc_past _ _ _ hz).trans he)
    simpa [validR, hb] using this
  have H := Lib.hid hv'
  subst h1
  have HR : Hid (ladOfV l fx ⟨id, iss, c, mo, 0⟩ today = min (ladGetV l c (bucketOf ⟨id, iss, c, mo, 0⟩ 0) + if mo = 1 then 0 else fx) 10000) := by simp [Hid, ladOfV, hb, leftOf]
  clear hv hv' hb
  go_enter Tryd.func20, Tryd.ntmps20
  go_wp2_with (first | (go_at_call 83; refine (H.out _).mono ?_; rintro e w1 ⟨rfl, hc1⟩; have k0 := hc1.cell (b := w.heap.size) (o := 0) (v := .int .i64 id) (by simp) (fun h => h); have k1 := hc1.cell (b := w.heap.size) (o := 1) (v := .int .i64 iss) (by simp) (fun h => h); have k2 := hc1.cell (b := w.heap.size) (o := 2) (v := .int .i64 c) (by simp) (fun h => h); have k3 := hc1.cell (b := w.heap.size) (o := 3) (v := .int .i64 mo) (by simp) (fun h => h); have k4 := hc1.cell (b := w.heap.size) (o := 4) (v := .int .i64 0) (by simp) (fun h => h)) | (go_at_call 84; refine (left_none _ _).mono ?_; rintro e w' ⟨rfl, rfl⟩))
  have hL1 : LadAt w1 lb m fx l := hL.chg ((Chg.refl S0 w).alloc _ |>.step hc1 (fun k hk => hk.elim)) (fun h => h) (fun _ _ h => h)
  have hB := cutBucket ⟨id, iss, c, mo, 0⟩ (0)
  simp only [Ast.val] at hB
  obtain ⟨bk, hbk⟩ : ∃ bk, bucketOf ⟨id, iss, c, mo, 0⟩ (0) = bk := ⟨_, rfl⟩
  rw [hbk] at hB
  have HK := Lib.hid hbk
  clear hbk
  have HB := Lib.hid hB
  clear hB
  go_region_held3 (fun w' => w'.cell? ⟨w.heap.size, 0, none⟩ = some (.int .i64 id) ∧ w'.cell? ⟨w.heap.size, 1, none⟩ = some (.int .i64 iss) ∧ w'.cell? ⟨w.heap.size, 2, none⟩ = some (.int .i64 c) ∧ w'.cell? ⟨w.heap.size, 3, none⟩ = some (.int .i64 mo) ∧ w'.cell? ⟨w.heap.size, 4, none⟩ = some (.int .i64 0)) (go_keep)
    (first | (go_at_call 85; refine (HB.out _).mono ?_; rintro e w2 ⟨rfl, hc2⟩; have j0 := hc2.cell k0 (fun h => h); have j1 := hc2.cell k1 (fun h => h); have j2 := hc2.cell k2 (fun h => h); have j3 := hc2.cell k3 (fun h => h); have j4 := hc2.cell k4 (fun h => h)) | (go_at_call 17; refine (ladGet lb m fx _ _ l _ (LadAt.chg hL1.drew hc2 (fun h => h) (fun _ _ h => h))).mono ?_; rintro e w3 ⟨rfl, hc3⟩; have i0 := hc3.cell j0 (fun h => h); have i1 := hc3.cell j1 (fun h => h); have i2 := hc3.cell j2 (fun h => h); have i3 := hc3.cell j3 (fun h => h); have i4 := hc3.cell j4 (fun h => h)))
  have hL3 : LadAt w3 lb m fx l := (hL1.drew.chg hc2 (fun h => h) (fun _ _ h => h)).chg hc3 (fun h => h) (fun _ _ h => h)
  have c1 := hL3.cells.cell 1
  simp at c1
  have hg := hC.get c bk
  obtain ⟨v, hv⟩ : ∃ v, v = ladGetV l c bk := ⟨_, rfl⟩
  have hv' : (lk l (c, bk)).getD 0 = v := by rw [hv]; rfl
  rw [← hv] at hg
  rw [hv']
  have HV := Lib.hid hv
  clear hv hv' k0 k1 k2 k3 k4 j0 j1 j2 j4 i0 i1 i2 i4
  obtain ⟨g1, g2⟩ := hg
  have hfin : Chg S0 w w3 := Chg.step (Chg.step (Chg.step ((Chg.refl _ _).alloc _) hc1 (fun k hk => hk.elim)).drew hc2 (fun k hk => hk.elim)) hc3 (fun k hk => hk.elim)
  have Hfin := Lib.hid hfin
  clear hfin hc1 hc2 hc3 hL1 hL3 hL hC he
  by_cases hm : mo = 1
  · subst hm
    go_wp2
    all_goals go_ret
    all_goals exact ⟨by rw [HR.out, HK.out, ← HV.out]; exact ret_int (by simp only [if_true, Int.add_zero]; omega), Hfin.out⟩
  · have hm' : (mo == 1) = false := by simpa using hm
    have hm'' : (mo != 1) = true := by simpa using hm
    go_wp2
    all_goals go_ret
    all_goals exact ⟨by rw [HR.out, HK.out, ← HV.out]; exact ret_int (by simp only [hm, if_false]; omega), Hfin.out⟩

set_option maxHeartbeats 4000000 in
theorem ladOf_live (lb : Nat) (m : Option Nat) (fx : Int) (l : List ((Int × Int) × Int)) (id iss c mo f today : Int) (w : World) (er : Value) (te : TypeId) (ve : Value) (hee : er = .iface te ve) (he : w.cell? ⟨0, 0, none⟩ = some er) (hL : LadAt w lb m fx l) (hC : Cuts l) (hf0 : 0 ≤ fx) (hf1 : fx ≤ 10000) (hb : Ast.okB ⟨id, iss, c, mo, f⟩ = true) (h1 : f ≠ 0) (h2 : today < f) (h3 : f ≤ 40000) (h4 : 0 ≤ today) :
    Calls Tryd.prog 20 #[.pointer (some ⟨lb, 0, .none⟩), .agg #[.int .i64 id, .int .i64 iss, .int .i64 c, .int .i64 mo, .int .i64 f], .int .i64 today] w fun e w' => e = .returned (.int .i64 (ladOfV l fx ⟨id, iss, c, mo, f⟩ today)) ∧ Chg S0 w w' := by
  subst hee
  have hlt := hL.cells.lt
  have hz := World.block_lt_of_cell? _ _ he
  have hv := asset_valid ⟨id, iss, c, mo, f⟩
  simp only [Ast.val] at hv
  have hv' : ∀ (o : Obj), Calls Tryd.prog 83 #[.agg #[.int .i64 id, .int .i64 iss, .int .i64 c, .int .i64 mo, .int .i64 f]] (w.alloc o) fun e w' => e = .returned .nilIface ∧ Chg S0 (w.alloc o) w' := by
    intro o
    have := hv (w.alloc o) _ ((World.cell?_alloc_past _ _ _ hz).trans he)
    simpa [validR, hb] using this
  have H := Lib.hid hv'
  have h1' : (f == 0) = false := by simpa using h1
  have h5 : ¬ f ≤ today := by omega
  have HR : Hid (ladOfV l fx ⟨id, iss, c, mo, f⟩ today = min (ladGetV l c (bucketOf ⟨id, iss, c, mo, f⟩ (f - today)) + if mo = 1 then 0 else fx) 10000) := by simp [Hid, ladOfV, hb, leftOf, h1, h5]
  clear hv hv' hb
  go_enter Tryd.func20, Tryd.ntmps20
  go_wp2_with (first | (go_at_call 83; refine (H.out _).mono ?_; rintro e w1 ⟨rfl, hc1⟩; have k0 := hc1.cell (b := w.heap.size) (o := 0) (v := .int .i64 id) (by simp) (fun h => h); have k1 := hc1.cell (b := w.heap.size) (o := 1) (v := .int .i64 iss) (by simp) (fun h => h); have k2 := hc1.cell (b := w.heap.size) (o := 2) (v := .int .i64 c) (by simp) (fun h => h); have k3 := hc1.cell (b := w.heap.size) (o := 3) (v := .int .i64 mo) (by simp) (fun h => h); have k4 := hc1.cell (b := w.heap.size) (o := 4) (v := .int .i64 f) (by simp) (fun h => h)) | (go_at_call 84; refine (left_live _ _ _ h1 h2 (by omega) h4).mono ?_; rintro e w' ⟨rfl, rfl⟩))
  have hL1 : LadAt w1 lb m fx l := hL.chg ((Chg.refl S0 w).alloc _ |>.step hc1 (fun k hk => hk.elim)) (fun h => h) (fun _ _ h => h)
  have hB := cutBucket ⟨id, iss, c, mo, f⟩ (f - today)
  simp only [Ast.val] at hB
  obtain ⟨bk, hbk⟩ : ∃ bk, bucketOf ⟨id, iss, c, mo, f⟩ (f - today) = bk := ⟨_, rfl⟩
  rw [hbk] at hB
  have HK := Lib.hid hbk
  clear hbk
  have HB := Lib.hid hB
  clear hB
  go_region_held3 (fun w' => w'.cell? ⟨w.heap.size, 0, none⟩ = some (.int .i64 id) ∧ w'.cell? ⟨w.heap.size, 1, none⟩ = some (.int .i64 iss) ∧ w'.cell? ⟨w.heap.size, 2, none⟩ = some (.int .i64 c) ∧ w'.cell? ⟨w.heap.size, 3, none⟩ = some (.int .i64 mo) ∧ w'.cell? ⟨w.heap.size, 4, none⟩ = some (.int .i64 f)) (go_keep)
    (first | (go_at_call 85; refine (HB.out _).mono ?_; rintro e w2 ⟨rfl, hc2⟩; have j0 := hc2.cell k0 (fun h => h); have j1 := hc2.cell k1 (fun h => h); have j2 := hc2.cell k2 (fun h => h); have j3 := hc2.cell k3 (fun h => h); have j4 := hc2.cell k4 (fun h => h)) | (go_at_call 17; refine (ladGet lb m fx _ _ l _ (LadAt.chg hL1.drew hc2 (fun h => h) (fun _ _ h => h))).mono ?_; rintro e w3 ⟨rfl, hc3⟩; have i0 := hc3.cell j0 (fun h => h); have i1 := hc3.cell j1 (fun h => h); have i2 := hc3.cell j2 (fun h => h); have i3 := hc3.cell j3 (fun h => h); have i4 := hc3.cell j4 (fun h => h)))
  have hL3 : LadAt w3 lb m fx l := (hL1.drew.chg hc2 (fun h => h) (fun _ _ h => h)).chg hc3 (fun h => h) (fun _ _ h => h)
  have c1 := hL3.cells.cell 1
  simp at c1
  have hg := hC.get c bk
  obtain ⟨v, hv⟩ : ∃ v, v = ladGetV l c bk := ⟨_, rfl⟩
  have hv' : (lk l (c, bk)).getD 0 = v := by rw [hv]; rfl
  rw [← hv] at hg
  rw [hv']
  have HV := Lib.hid hv
  clear hv hv' k0 k1 k2 k3 k4 j0 j1 j2 j4 i0 i1 i2 i4
  obtain ⟨g1, g2⟩ := hg
  have hfin : Chg S0 w w3 := Chg.step (Chg.step (Chg.step ((Chg.refl _ _).alloc _) hc1 (fun k hk => hk.elim)).drew hc2 (fun k hk => hk.elim)) hc3 (fun k hk => hk.elim)
  have Hfin := Lib.hid hfin
  clear hfin hc1 hc2 hc3 hL1 hL3 hL hC he
  by_cases hm : mo = 1
  · subst hm
    go_wp2
    all_goals go_ret
    all_goals exact ⟨by rw [HR.out, HK.out, ← HV.out]; exact ret_int (by simp only [if_true, Int.add_zero]; omega), Hfin.out⟩
  · have hm' : (mo == 1) = false := by simpa using hm
    have hm'' : (mo != 1) = true := by simpa using hm
    go_wp2
    all_goals go_ret
    all_goals exact ⟨by rw [HR.out, HK.out, ← HV.out]; exact ret_int (by simp only [hm, if_false]; omega), Hfin.out⟩

theorem ladOf (lb : Nat) (m : Option Nat) (fx : Int) (l : List ((Int × Int) × Int)) (a : Ast) (today : Int) (w : World) (er : Value) (te : TypeId) (ve : Value) (hee : er = .iface te ve) (he : w.cell? ⟨0, 0, none⟩ = some er) (hL : LadAt w lb m fx l) (hC : Cuts l) (hf0 : 0 ≤ fx) (hf1 : fx ≤ 10000) (h4 : 0 ≤ today) :
    Calls Tryd.prog 20 #[.pointer (some ⟨lb, 0, .none⟩), a.val, .int .i64 today] w fun e w' => e = .returned (.int .i64 (ladOfV l fx a today)) ∧ Chg S0 w w' := by
  obtain ⟨id, iss, c, mo, f⟩ := a
  simp only [Ast.val]
  cases hb : Ast.okB ⟨id, iss, c, mo, f⟩ with
  | false => exact ladOf_bad lb m fx l id iss c mo f today w er te ve hee he hL hC hf0 hf1 hb
  | true =>
    by_cases h1 : f = 0
    · subst h1
      exact ladOf_none lb m fx l id iss c mo 0 today w er te ve hee he hL hC hf0 hf1 hb rfl
    · by_cases h2 : f ≤ today
      · exact ladOf_over lb m fx l id iss c mo f today w er te ve hee he hL hC hf0 hf1 hb h1 h2
      · exact ladOf_live lb m fx l id iss c mo f today w er te ve hee he hL hC hf0 hf1 hb h1 (by omega) (by simp [Ast.okB] at hb; omega) h4


end Go.Proofs.YtljlnojelagmfaaDoor
