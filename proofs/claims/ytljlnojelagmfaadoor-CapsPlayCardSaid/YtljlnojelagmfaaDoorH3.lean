/-
  The listed errors in memory ('ErrsAt'); package pledgesee: what an error is, as plain data.
-/
import Derived.Test.YtljlnojelagmfaaDoorA1
import Derived.LaidEql
import Derived.Handy
namespace Go.Proofs.YtljlnojelagmfaaDoor
open Go.RowKit Go.Pl
set_option maxRecDepth 100000

abbrev errV (a : Addr) : Value := .iface 391 (.pointer (some a))
/-- The errors of api: each one's variable, each of its own; all below B. -/
structure ErrsAt (B : Nat) (A : Nat → Addr) (w : World) : Prop where
  cell : ∀ g, g < 22 → g ≠ 7 → w.cell? ⟨g, 0, none⟩ = some (errV (A g))
  row : ∀ g, g < 22 → g ≠ 7 → ∃ cs t, w.heap[(A g).block]? = some (.cells cs t)
  inj : ∀ g h, g < 22 → g ≠ 7 → h < 22 → h ≠ 7 → A g = A h → g = h
  lt : ∀ g, g < 22 → g ≠ 7 → (A g).block < B
  le : 22 ≤ B
theorem ErrsAt.chg {B : Nat} {A : Nat → Addr} {w w' : World} {S : Nat → Prop} (h : ErrsAt B A w) (hc : Chg S w w') (hs : ∀ k, k < B → ¬ S k) : ErrsAt B A w' where
  cell g h1 h2 := hc.cell (h.cell g h1 h2) (hs g (Nat.lt_of_lt_of_le h1 h.le))
  row g h1 h2 := by
    obtain ⟨cs, t, hr⟩ := h.row g h1 h2
    exact ⟨cs, t, (hc.block _ (Array.getElem?_eq_some_iff.1 hr).1 (hs _ (h.lt g h1 h2))).trans hr⟩
  inj := h.inj
  lt := h.lt
  le := h.le
theorem ErrsAt.chg0 {B : Nat} {A : Nat → Addr} {w w' : World} (h : ErrsAt B A w) (hc : Chg S0 w w') : ErrsAt B A w' := h.chg hc (fun _ _ h => h)
theorem ErrsAt.alloc {B : Nat} {A : Nat → Addr} {w : World} (h : ErrsAt B A w) (o : Obj) : ErrsAt B A (w.alloc o) := h.chg0 ((Chg.refl S0 w).alloc o)

theorem comp391 : (Tryd.prog.info? 391).map (·.comparable) = some true := by kernel_rfl
theorem size405 : (Tryd.prog.info? 405).map (·.size != 0) = some true := by kernel_rfl

/-- Two of the errors, compared. -/
theorem ErrsAt.eql {B : Nat} {A : Nat → Addr} {w : World} (h : ErrsAt B A w) {g k : Nat} (g1 : g < 22) (g2 : g ≠ 7) (k1 : k < 22) (k2 : k ≠ 7) :
    (binOp .eql 30 (errV (A g)) (errV (A k))).run Tryd.prog w = .ok (.bool (decide (g = k))) w := by
  obtain ⟨i, hi, hcmp⟩ := Option.map_eq_some_iff.1 comp391
  obtain ⟨j, hj, hjs⟩ := Option.map_eq_some_iff.1 size405
  by_cases e : g = k
  · subst e
    simpa using run_eql_iface_ptr_same (P := Tryd.prog) w (A g) Tryd.underlying30 Tryd.underlying391 hi hcmp hj
  · obtain ⟨ca, ta, ha⟩ := h.row g g1 g2
    obtain ⟨cb, tb, hb⟩ := h.row k k1 k2
    have hne : A g ≠ A k := fun e' => e (h.inj g k g1 g2 k1 k2 e')
    have := run_eql_iface_ptr_other (P := Tryd.prog) w Tryd.underlying30 Tryd.underlying391 hi hcmp hj (by simpa using hjs) hne ha hb
    simpa [e] using this

theorem bare86 (n : Int) (w : World) : Calls Tryd.prog 86 #[.int .i64 n] w fun e w' => e = .returned (.agg #[.int .i64 n, .bool false, .int .i64 0]) ∧ Chg S0 w w' := by
  go_enter Tryd.func86, Tryd.ntmps86
  go_wp2
  refine bodyPost_ret (by simp [results, Tryd.f86, go_sem]; rfl) rfl ?_
  exact ⟨rfl, by repeat (first | exact Chg.refl _ _ | apply Chg.drew | apply Chg.alloc | exact Chg.setCell (S := S0) ((Chg.refl _ _).alloc _) _ _ (.inr (by simp)))⟩

theorem none114 (w : World) : Calls Tryd.prog 114 #[] w fun e w' => e = .returned (.agg #[.int .i64 0, .bool false, .int .i64 0]) ∧ Chg S0 w w' := by
  go_enter Tryd.func114, Tryd.ntmps114
  go_wp2
  refine bodyPost_ret (by simp [results, Tryd.f114, go_sem]; rfl) rfl ?_
  exact ⟨rfl, by repeat (first | exact Chg.refl _ _ | apply Chg.drew | apply Chg.alloc | exact Chg.setCell (S := S0) ((Chg.refl _ _).alloc _) _ _ (.inr (by simp)))⟩

theorem placed111 (n p : Int) (w : World) (h : n ≠ 0) : Calls Tryd.prog 111 #[.int .i64 n, .int .i64 p] w fun e w' => e = .returned (.agg #[.int .i64 n, .bool true, .int .i64 p]) ∧ Chg S0 w w' := by
  have h' : (n == 0) = false := by simpa using h
  go_enter Tryd.func111, Tryd.ntmps111
  go_wp2
  refine bodyPost_ret (by simp [results, Tryd.f111, go_sem]; rfl) rfl ?_
  exact ⟨rfl, by repeat (first | exact Chg.refl _ _ | apply Chg.drew | apply Chg.alloc | exact Chg.setCell (S := S0) ((Chg.refl _ _).alloc _) _ _ (.inr (by simp)))⟩

theorem sameFault115 (c c' p p' : Int) (b b' : Bool) (w : World) :
    Calls Tryd.prog 115 #[.agg #[.int .i64 c, .bool b, .int .i64 p], .agg #[.int .i64 c', .bool b', .int .i64 p']] w fun e w' => e = .returned (.bool (c == c' && b == b' && p == p')) ∧ Chg S0 w w' := by
  by_cases h1 : c = c'
  · subst h1
    by_cases h2 : b = b'
    · subst h2
      go_enter Tryd.func115, Tryd.ntmps115
      go_wp2
      go_ret
      exact ⟨by simp, by repeat (first | exact Chg.refl _ _ | apply Chg.drew | apply Chg.alloc)⟩
    · have h2' : (b == b') = false := by simpa using h2
      go_enter Tryd.func115, Tryd.ntmps115
      go_wp2
      go_ret
      exact ⟨by simp [h2'], by repeat (first | exact Chg.refl _ _ | apply Chg.drew | apply Chg.alloc)⟩
  · have h1' : (c == c') = false := by simpa using h1
    go_enter Tryd.func115, Tryd.ntmps115
    go_wp2
    go_ret
    exact ⟨by simp [h1'], by repeat (first | exact Chg.refl _ _ | apply Chg.drew | apply Chg.alloc)⟩

theorem alike203 {B : Nat} {A : Nat → Addr} {w : World} (h : ErrsAt B A w) {g k : Nat} (g1 : g < 22) (g2 : g ≠ 7) (k1 : k < 22) (k2 : k ≠ 7) :
    Calls Tryd.prog 203 #[errV (A g), errV (A k)] w fun e w' => e = .returned (.bool (decide (g = k))) ∧ w = w' := by
  have heq := h.eql g1 g2 k1 k2
  go_enter Tryd.func203, Tryd.ntmps203
  go_wp2
  go_ret
  exact ⟨rfl, rfl⟩

/-- The errors in the order of sentinels. -/
def senG : List Nat := [8, 5, 0, 2, 1, 9, 10, 4, 6, 11, 3, 12, 13, 14, 15, 16, 17, 18, 19, 20, 21]
def senV (A : Nat → Addr) : Array Value := (senG.map fun g => errV (A g)).toArray

theorem sentinels202 {B : Nat} {A : Nat → Addr} {w : World} (h : ErrsAt B A w) :
    Calls Tryd.prog 202 #[] w fun e w' => ∃ b t, e = .returned (.slice (some ⟨b, 0, none⟩) 21 21) ∧ w.heap.size ≤ b ∧ CellsAt w' b (senV A) t ∧ Chg S0 w w' := by
  have q0 := h.cell 0 (by decide) (by decide)
  have q1 := h.cell 1 (by decide) (by decide)
  have q2 := h.cell 2 (by decide) (by decide)
  have q3 := h.cell 3 (by decide) (by decide)
  have q4 := h.cell 4 (by decide) (by decide)
  have q5 := h.cell 5 (by decide) (by decide)
  have q6 := h.cell 6 (by decide) (by decide)
  have q8 := h.cell 8 (by decide) (by decide)
  have q9 := h.cell 9 (by decide) (by decide)
  have q10 := h.cell 10 (by decide) (by decide)
  have q11 := h.cell 11 (by decide) (by decide)
  have q12 := h.cell 12 (by decide) (by decide)
  have q13 := h.cell 13 (by decide) (by decide)
  have q14 := h.cell 14 (by decide) (by decide)
  have q15 := h.cell 15 (by decide) (by decide)
  have q16 := h.cell 16 (by decide) (by decide)
  have q17 := h.cell 17 (by decide) (by decide)
  have q18 := h.cell 18 (by decide) (by decide)
  have q19 := h.cell 19 (by decide) (by decide)
  have q20 := h.cell 20 (by decide) (by decide)
  have q21 := h.cell 21 (by decide) (by decide)
  go_enter Tryd.func202, Tryd.ntmps202
  go_wp2
  go_ret
  refine ⟨_, _, rfl, Nat.le_refl _, CellsAt.new _ _ _, by repeat (first | exact Chg.refl _ _ | apply Chg.drew | apply Chg.alloc)⟩

theorem senG_ok : ∀ i, (h : i < senG.length) → senG[i] < 22 ∧ senG[i] ≠ 7 := by decide
theorem senG_nodup : senG.Nodup := by decide
theorem senV_get (A : Nat → Addr) (k : Nat) (hk : k < 21) : (senV A)[k]? = some (errV (A (senG[k]'hk))) := by
  have : k < senG.length := hk
  simp [senV, this]
  rfl

set_option maxHeartbeats 1000000 in
theorem sentinel162 {B : Nat} {A : Nat → Addr} {w : World} (h : ErrsAt B A w) (i : Nat) (hi : i < 21) :
    Calls Tryd.prog 162 #[errV (A (senG[i]'hi))] w fun e w' => e = .returned (.int .i64 (101 + i)) ∧ Chg S0 w w' := by
  go_enter Tryd.func162, Tryd.ntmps162
  go_wp2_with (go_at_call 202; refine (sentinels202 h).mono ?_; rintro e w1 ⟨b, t, rfl, hb, hc, hg⟩)
  have h1 := h.chg0 hg
  have hlb := hc.lt
  go_loop [4] (fun j => ∃ k : Nat, k ≤ i ∧ j = .int .i64 k) (fun j => 21 - (intOf j).toNat)
  case atStart => exact ⟨0, Nat.zero_le _, rfl⟩
  case round =>
    obtain ⟨k, hk, rfl⟩ := hrel
    have hk' : k < 21 := by omega
    have hk2 : ((k : Int) < 21) := by omega
    have hcell : w1.cell? ⟨b, k, none⟩ = some (errV (A (senG[k]'hk'))) := (hc.cell k).trans (senV_get A k hk')
    have hal := alike203 h1 (senG_ok i hi).1 (senG_ok i hi).2 (senG_ok k hk').1 (senG_ok k hk').2
    by_cases e : i = k
    · subst e
      simp only [decide_true] at hal
      have H := Lib.hid hal
      clear hal
      go_wp2_with (go_at_call 203; refine H.out.mono ?_; rintro e w' ⟨rfl, rfl⟩)
      go_ret
      exact ⟨rfl, hg⟩
    · have hne : ¬ senG[i]'hi = senG[k]'hk' := fun e' => e ((List.getElem_inj senG_nodup).1 e')
      rw [decide_eq_false hne] at hal
      have H := Lib.hid hal
      clear hal hne
      go_wp2_with (go_at_call 203; refine H.out.mono ?_; rintro e w' ⟨rfl, rfl⟩)
      go_round
      case rel => exact ⟨k + 1, by omega, by go_num⟩
      case measure => simp [intOf]; omega

/-- Fault of an error: its number. (Nil: 0.) -/
theorem fault116_nil (w : World) : Calls Tryd.prog 116 #[.nilIface] w fun e w' => e = .returned (.agg #[.int .i64 0, .bool false, .int .i64 0]) ∧ Chg S0 w w' := by
  go_enter Tryd.func116, Tryd.ntmps116
  go_wp2_with (go_at_call 114; refine (none114 _).mono ?_; rintro e w1 ⟨rfl, hc1⟩; have hlt := hc1.lt (k := w.heap.size) (by simp); have k0 := hc1.cell (b := w.heap.size) (o := 0) (v := .int .i64 0) (by simp) (fun h => h); have k1 := hc1.cell (b := w.heap.size) (o := 1) (v := .bool false) (by simp) (fun h => h); have k2 := hc1.cell (b := w.heap.size) (o := 2) (v := .int .i64 0) (by simp) (fun h => h); have f0 := hc1.frozen (b := w.heap.size) (o := 0) (r := false) (by simp) (by simp) (fun h => h); have f1 := hc1.frozen (b := w.heap.size) (o := 1) (r := false) (by simp) (by simp) (fun h => h); have f2 := hc1.frozen (b := w.heap.size) (o := 2) (r := false) (by simp) (by simp) (fun h => h))
  refine bodyPost_ret (by simp [results, Tryd.f116, go_sem, k0, k1, k2]; rfl) rfl ?_
  exact ⟨rfl, Chg.setCell (Chg.setCell (Chg.setCell (Chg.step ((Chg.refl S0 w).alloc _) hc1 (fun k hk => hk.elim)) ⟨w.heap.size, 0, none⟩ _ (.inr (Nat.le_refl _))) ⟨w.heap.size, 1, none⟩ _ (.inr (Nat.le_refl _))) ⟨w.heap.size, 2, none⟩ _ (.inr (Nat.le_refl _))⟩

theorem notAt (a : Addr) (w : World) : (Instr.typeAssert (errV a) 30 186 true).run Tryd.prog w = .ok (.tuple #[.pointer none, .bool false]) w := by
  kernel_rfl
theorem isAt (a : Addr) (w : World) : (Instr.typeAssert (.iface 186 (.pointer (some a))) 30 186 true).run Tryd.prog w = .ok (.tuple #[.pointer (some a), .bool true]) w := by
  kernel_rfl

set_option maxHeartbeats 1000000 in
theorem fault116_err {B : Nat} {A : Nat → Addr} {w : World} (h : ErrsAt B A w) (i : Nat) (hi : i < 21) :
    Calls Tryd.prog 116 #[errV (A (senG[i]'hi))] w fun e w' => e = .returned (.agg #[.int .i64 (101 + i), .bool false, .int .i64 0]) ∧ Chg S0 w w' := by
  have hs := sentinel162 (h.alloc (.cells #[.int .i64 0, .bool false, .int .i64 0] 104)) i hi
  generalize (senG[i]'hi) = g at *
  have hna := notAt (A g)
  have H := Lib.hid hs
  clear hs
  go_enter Tryd.func116, Tryd.ntmps116
  go_wp2_with (first | (go_at_call 162; refine H.out.mono ?_; rintro e w0 ⟨rfl, hc0⟩) | (go_at_call 86; refine (bare86 _ _).mono ?_; rintro e w2 ⟨rfl, hc2⟩; have hc1 := Chg.step hc0 hc2 (fun k hk => hk.elim); clear hc0 hc2; have hlt := hc1.lt (k := w.heap.size) (by simp); have k0 := hc1.cell (b := w.heap.size) (o := 0) (v := .int .i64 0) (by simp) (fun h => h); have k1 := hc1.cell (b := w.heap.size) (o := 1) (v := .bool false) (by simp) (fun h => h); have k2 := hc1.cell (b := w.heap.size) (o := 2) (v := .int .i64 0) (by simp) (fun h => h); have f0 := hc1.frozen (b := w.heap.size) (o := 0) (r := false) (by simp) (by simp) (fun h => h); have f1 := hc1.frozen (b := w.heap.size) (o := 1) (r := false) (by simp) (by simp) (fun h => h); have f2 := hc1.frozen (b := w.heap.size) (o := 2) (r := false) (by simp) (by simp) (fun h => h)))
  refine bodyPost_ret (by simp [results, Tryd.f116, go_sem, k0, k1, k2]; rfl) rfl ?_
  exact ⟨rfl, Chg.setCell (Chg.setCell (Chg.setCell (Chg.step ((Chg.refl S0 w).alloc _) hc1 (fun k hk => hk.elim)) ⟨w.heap.size, 0, none⟩ _ (.inr (Nat.le_refl _))) ⟨w.heap.size, 1, none⟩ _ (.inr (Nat.le_refl _))) ⟨w.heap.size, 2, none⟩ _ (.inr (Nat.le_refl _))⟩

theorem senR : senG[2] = 0 := rfl
theorem senO : senG[3] = 2 := rfl
theorem senM : senG[4] = 1 := rfl

/-- A fault's value; whether one is this code. -/
abbrev faultV (n : Int) : Value := .agg #[.int .i64 n, .bool false, .int .i64 0]

set_option maxHeartbeats 1000000 in
theorem is21_of {e : Value} {n : Int} {w : World} (c : Int) (h : ∀ w', Chg S0 w w' → Calls Tryd.prog 116 #[e] w' fun e w'' => e = .returned (faultV n) ∧ Chg S0 w' w'') :
    Calls Tryd.prog 21 #[e, .int .i64 c] w fun r w' => r = .returned (.bool (n == c)) ∧ Chg S0 w w' := by
  have hs : ∀ w1, Chg S0 w w1 → Calls Tryd.prog 49 #[e, faultV c] w1 fun r w' => r = .returned (.bool (n == c)) ∧ Chg S0 w1 w' := by
    intro w1 h1
    have H := Lib.hid h
    have hc1 := Lib.hid h1
    clear h h1
    go_enter Tryd.func49, Tryd.ntmps49
    go_wp2
    go_region_held3 (fun w' => w'.cell? ⟨w1.heap.size, 0, none⟩ = some (.int .i64 c) ∧ w'.cell? ⟨w1.heap.size, 1, none⟩ = some (.bool false) ∧ w'.cell? ⟨w1.heap.size, 2, none⟩ = some (.int .i64 0)) (go_keep)
      (first | (go_at_call 116; refine (H.out _ ((hc1.out.alloc _).drew)).mono ?_; rintro e w2 ⟨rfl, hc2⟩; have j0 := hc2.cell (b := w1.heap.size) (o := 0) (v := .int .i64 c) (by simp) (fun h => h); have j1 := hc2.cell (b := w1.heap.size) (o := 1) (v := .bool false) (by simp) (fun h => h); have j2 := hc2.cell (b := w1.heap.size) (o := 2) (v := .int .i64 0) (by simp) (fun h => h)) | (go_at_call 115; refine (sameFault115 _ _ _ _ _ _ _).mono ?_; rintro e w3 ⟨rfl, hc3⟩; have i0 := hc3.cell j0 (fun h => h); have i1 := hc3.cell j1 (fun h => h); have i2 := hc3.cell j2 (fun h => h)))
    go_wp2
    go_ret
    exact ⟨by simp, Chg.step (Chg.step ((Chg.refl _ _).alloc _).drew hc2 (fun k hk => hk.elim)) hc3 (fun k hk => hk.elim)⟩
  have H := Lib.hid hs
  clear hs h
  go_enter Tryd.func21, Tryd.ntmps21
  go_wp2_with (first | (go_at_call 86; refine (bare86 _ _).mono ?_; rintro e w1 ⟨rfl, hc1⟩) | (go_at_call 49; refine (H.out _ hc1).mono ?_; rintro e w2 ⟨rfl, hc2⟩))
  go_ret
  exact ⟨rfl, Chg.step hc1 hc2 (fun k hk => hk.elim)⟩

theorem is21_nil (c : Int) (w : World) : Calls Tryd.prog 21 #[.nilIface, .int .i64 c] w fun r w' => r = .returned (.bool (0 == c)) ∧ Chg S0 w w' :=
  is21_of c fun w' _ => fault116_nil w'

theorem is21_err {B : Nat} {A : Nat → Addr} {w : World} (h : ErrsAt B A w) (i : Nat) (hi : i < 21) (c : Int) :
    Calls Tryd.prog 21 #[errV (A (senG[i]'hi)), .int .i64 c] w fun r w' => r = .returned (.bool ((101 + i : Int) == c)) ∧ Chg S0 w w' :=
  is21_of c fun _ hc => fault116_err (h.chg0 hc) i hi
end Go.Proofs.YtljlnojelagmfaaDoor
