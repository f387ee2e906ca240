/-
  pledgesee.Fault and Same of an error with a place. (Chapters 4, 16.) CapsPlay: whatever limits are set, they answer as the reference: its walk. (Chapter 16. Printed by wip/gen_capsplay.py.) CapsPlay: what is too long; its arguments, opened. (Chapter 16.)
-/
import Derived.Test.YtljlnojelagmfaaDoorH3
import Derived.Test.YtljlnojelagmfaaDoorN7
import Derived.Test.YtljlnojelagmfaaDoorQ4
import Derived.Test.YtljlnojelagmfaaDoorQ2
import Derived.Test.YtljlnojelagmfaaDoorN9
namespace Go.Proofs.YtljlnojelagmfaaDoor
open Go.RowKit Go.Pl
set_option maxRecDepth 100000

set_option maxHeartbeats 1000000 in
/-- An error with a place: its number, its place. -/
theorem fault116_at {B : Nat} {A : Nat → Addr} {w : World} (h : ErrsAt B A w) (i : Nat) (hi : i < 21) (ab : Nat) (pos : Int) (hC : CellsAt w ab #[.int .i64 pos, errV (A (senG[i]'hi))] 188) :
    Calls Tryd.prog 116 #[.iface 186 (.pointer (some ⟨ab, 0, none⟩))] w fun e w' => e = .returned (.agg #[.int .i64 (101 + i), .bool true, .int .i64 pos]) ∧ Chg S0 w w' := by
  have hs := fun W (hc : Chg S0 w W) => sentinel162 (h.chg0 hc) i hi
  have hlt := hC.lt
  have q0 := hC.cell 0
  have q1 := hC.cell 1
  simp only [List.getElem?_toArray, List.getElem?_cons_zero, List.getElem?_cons_succ] at q0 q1
  generalize (senG[i]'hi) = g at *
  have hna := isAt ⟨ab, 0, none⟩
  have H := Lib.hid hs
  clear hs
  go_enter Tryd.func116, Tryd.ntmps116
  go_wp2_with fail
  have H111 := fun n p W (hn : n ≠ 0) => placed111 n p W hn
  have hne : (101 + (i : Int)) ≠ 0 := by omega
  go_region_held3 (fun w' => w'.cell? ⟨ab, 0, none⟩ = some (.int .i64 pos) ∧ w'.cell? ⟨ab, 1, none⟩ = some (errV (A g)))
    (first
      | go_keep
      | exact ⟨((((Chg.refl (S1 w.heap.size) w3).setCell ⟨w.heap.size, 0, none⟩ _ (.inl rfl)).setCell ⟨w.heap.size, 1, none⟩ _ (.inl rfl)).setCell ⟨w.heap.size, 2, none⟩ _ (.inl rfl)).cell i0 (by unfold S1; omega), ((((Chg.refl (S1 w.heap.size) w3).setCell ⟨w.heap.size, 0, none⟩ _ (.inl rfl)).setCell ⟨w.heap.size, 1, none⟩ _ (.inl rfl)).setCell ⟨w.heap.size, 2, none⟩ _ (.inl rfl)).cell i1 (by unfold S1; omega)⟩)
    (first
    | (go_at_call 162; refine (H.out _ ((Chg.refl S0 w).alloc _).drew).mono ?_; rintro e w2 ⟨rfl, hc2⟩; have j0 := hc2.cell (b := ab) (o := 0) (v := .int .i64 pos) (by simp [go_sem, hlt, q0]) (fun h => h); have j1 := hc2.cell (b := ab) (o := 1) (v := errV (A g)) (by simp [go_sem, hlt, q1]) (fun h => h); have r0 := hc2.cell (b := w.heap.size) (o := 0) (v := .int .i64 0) (by simp) (fun h => h); have rf0 := hc2.frozen (b := w.heap.size) (o := 0) (r := false) (by simp) (by simp) (fun h => h); have r1 := hc2.cell (b := w.heap.size) (o := 1) (v := .bool false) (by simp) (fun h => h); have rf1 := hc2.frozen (b := w.heap.size) (o := 1) (r := false) (by simp) (by simp) (fun h => h); have r2 := hc2.cell (b := w.heap.size) (o := 2) (v := .int .i64 0) (by simp) (fun h => h); have rf2 := hc2.frozen (b := w.heap.size) (o := 2) (r := false) (by simp) (by simp) (fun h => h); have rl := hc2.lt (k := w.heap.size) (by simp); have C2 := Lib.hid (Chg.step ((Chg.refl S0 w).alloc _).drew hc2 (fun _ h => h.elim)); clear hc2)
    | (go_at_call 111; refine (H111 _ _ _ hne).mono ?_; rintro e w3 ⟨rfl, hc3⟩; have i0 := hc3.cell j0 (fun h => h); have i1 := hc3.cell j1 (fun h => h); have u0 := hc3.cell (b := w.heap.size) (o := 0) (v := .int .i64 0) (by assumption) (fun h => h); have uf0 := hc3.frozen (b := w.heap.size) (o := 0) (r := false) (by assumption) (by assumption) (fun h => h); have u1 := hc3.cell (b := w.heap.size) (o := 1) (v := .bool false) (by assumption) (fun h => h); have uf1 := hc3.frozen (b := w.heap.size) (o := 1) (r := false) (by assumption) (by assumption) (fun h => h); have u2 := hc3.cell (b := w.heap.size) (o := 2) (v := .int .i64 0) (by assumption) (fun h => h); have uf2 := hc3.frozen (b := w.heap.size) (o := 2) (r := false) (by assumption) (by assumption) (fun h => h); have ul := hc3.lt rl; have C3 := Lib.hid (Chg.step C2.out hc3 (fun _ h => h.elim)); clear hc3))
  go_wp2
  refine bodyPost_ret (v := .agg #[.int .i64 (101 + i), .bool true, .int .i64 pos]) (by simp [results, Tryd.results116, go_sem, u0, u1, u2]) rfl ⟨rfl, ?_⟩
  exact Chg.setCell (Chg.setCell (Chg.setCell C3.out ⟨w.heap.size, 0, none⟩ _ (.inr (Nat.le_refl _))) ⟨w.heap.size, 1, none⟩ _ (.inr (Nat.le_refl _))) ⟨w.heap.size, 2, none⟩ _ (.inr (Nat.le_refl _))

/-- Is an error this fault? -/
theorem same49_of {e : Value} {n p : Int} {b : Bool} {w : World} (n' p' : Int) (b' : Bool) (h : ∀ w', Chg S0 w w' → Calls Tryd.prog 116 #[e] w' fun e w'' => e = .returned (.agg #[.int .i64 n, .bool b, .int .i64 p]) ∧ Chg S0 w' w'') :
    Calls Tryd.prog 49 #[e, .agg #[.int .i64 n', .bool b', .int .i64 p']] w fun r w' => r = .returned (.bool (n == n' && b == b' && p == p')) ∧ Chg S0 w w' := by
  have H := Lib.hid h
  clear h
  go_enter Tryd.func49, Tryd.ntmps49
  go_wp2
  go_region_held3 (fun w' => w'.cell? ⟨w.heap.size, 0, none⟩ = some (.int .i64 n') ∧ w'.cell? ⟨w.heap.size, 1, none⟩ = some (.bool b') ∧ w'.cell? ⟨w.heap.size, 2, none⟩ = some (.int .i64 p')) (go_keep)
    (first | (go_at_call 116; refine (H.out _ (((Chg.refl S0 w).alloc _).drew)).mono ?_; rintro e w2 ⟨rfl, hc2⟩; have j0 := hc2.cell (b := w.heap.size) (o := 0) (v := .int .i64 n') (by simp) (fun h => h); have j1 := hc2.cell (b := w.heap.size) (o := 1) (v := .bool b') (by simp) (fun h => h); have j2 := hc2.cell (b := w.heap.size) (o := 2) (v := .int .i64 p') (by simp) (fun h => h)) | (go_at_call 115; refine (sameFault115 _ _ _ _ _ _ _).mono ?_; rintro e w3 ⟨rfl, hc3⟩; have i0 := hc3.cell j0 (fun h => h); have i1 := hc3.cell j1 (fun h => h); have i2 := hc3.cell j2 (fun h => h)))
  go_wp2
  go_ret
  exact ⟨rfl, Chg.step (Chg.step ((Chg.refl _ _).alloc _).drew hc2 (fun k hk => hk.elim)) hc3 (fun k hk => hk.elim)⟩
end Go.Proofs.YtljlnojelagmfaaDoor

namespace Go.Proofs.YtljlnojelagmfaaDoor
open Go.RowKit Go.Pl Go.Shelf Go.Sort
set_option maxRecDepth 100000

theorem Lims.nil : Lims [] := fun _ h => by cases h
theorem Lims.set {L : List ((Int × Int) × Int)} (h : Lims L) {c d n : Int} (hk : LimOk c d) (ha : amtB n = true) : Lims (tset L (c, d) n) := by
  intro p hp
  rcases tset_mem hp with ⟨rfl, hn⟩ | hp
  · simp [amtB] at ha
    exact ⟨hk, by simp only; omega, ha.2⟩
  · exact h p hp
theorem capGet48g (tb : Nat) (m : Option Nat) (c b : Int) (l : List ((Int × Int) × Int)) (w : World) (hL : TabAt 86 w tb m l) :
    Calls Tryd.prog 48 #[.pointer (some ⟨tb, 0, .none⟩), ek2 (c, b)] w fun e w' => e = .returned (.int .i64 (gL l (c, b))) ∧ Chg S0 w w' := capGet48 tb m c b l w hL
theorem fault116_over {B : Nat} {A : Nat → Addr} {w : World} (h : ErrsAt B A w) : Calls Tryd.prog 116 #[errV (A 2)] w fun e w' => e = .returned (.agg #[.int .i64 104, .bool false, .int .i64 0]) ∧ Chg S0 w w' :=
  fault116_err h 3 (by decide)
theorem fault116_rat {B : Nat} {A : Nat → Addr} {w : World} (h : ErrsAt B A w) (ab : Nat) (pos : Int) (hC : CellsAt w ab #[.int .i64 pos, errV (A 0)] 188) :
    Calls Tryd.prog 116 #[.iface 186 (.pointer (some ⟨ab, 0, none⟩))] w fun e w' => e = .returned (.agg #[.int .i64 103, .bool true, .int .i64 pos]) ∧ Chg S0 w w' :=
  fault116_at h 2 (by decide) ab pos hC
/-- The limits at xb, the reference's at yb: in the world wr, whose run began at w. -/
structure Cps (B : Nat) (A : Nat → Addr) (w : World) (xb yb : Nat) (m : Option Nat) (L L' : List ((Int × Int) × Int)) (wr : World) : Prop where
  errs : ErrsAt B A wr
  tab : TabAt 86 wr xb m L
  lim : LimAt wr yb L'
  chg : Chg S0 w wr
  hB : B ≤ w.heap.size
  x : w.heap.size ≤ xb
  y : w.heap.size ≤ yb
  xy : xb ≠ yb
  my : ∀ b, m = some b → w.heap.size ≤ b ∧ b ≠ yb

theorem Cps.step {B : Nat} {A : Nat → Addr} {w : World} {xb yb : Nat} {m : Option Nat} {L L' : List ((Int × Int) × Int)} {wr wr' : World} (h : Cps B A w xb yb m L L' wr) (hc : Chg S0 wr wr') : Cps B A w xb yb m L L' wr' :=
  ⟨h.errs.chg0 hc, h.tab.chg hc (fun h => h) (fun _ _ h => h), CellsAt.chg h.lim hc (fun h => h), Chg.step h.chg hc (fun _ h => h.elim), h.hB, h.x, h.y, h.xy, h.my⟩
theorem Cps.set {B : Nat} {A : Nat → Addr} {w : World} {xb yb : Nat} {m m' : Option Nat} {L L1 L' : List ((Int × Int) × Int)} {wr wr' : World} (h : Cps B A w xb yb m L L' wr) (hc : Chg (SL xb m) wr wr') (hL : TabAt 86 wr' xb m' L1) (hm : ∀ b, m' = some b → m = some b ∨ wr.heap.size ≤ b) : Cps B A w xb yb m' L1 L' wr' := by
  have hs : ∀ k, k < w.heap.size → ¬ SL xb m k := fun k hk hS => by
    rcases hS with hS | hS
    · have := h.x; omega
    · have := (h.my k hS).1; omega
  refine ⟨h.errs.chg hc (fun k hk => hs k (Nat.lt_of_lt_of_le hk h.hB)), hL, CellsAt.chg h.lim hc (fun hS => ?_), Chg.step h.chg hc (fun k hk => .inr ?_), h.hB, h.x, h.y, h.xy, fun b hb => ?_⟩
  · rcases hS with hS | hS
    · exact h.xy hS.symm
    · exact (h.my _ hS).2 rfl
  · exact Nat.le_of_not_lt fun hk' => hs k hk' hk
  · rcases hm b hb with hm | hm
    · exact h.my b hm
    · refine ⟨Nat.le_trans h.chg.size hm, fun e => ?_⟩
      have := CellsAt.lt h.lim
      omega
theorem Cps.put {B : Nat} {A : Nat → Addr} {w : World} {xb yb : Nat} {m : Option Nat} {L L' L1 : List ((Int × Int) × Int)} {wr wr' : World} (h : Cps B A w xb yb m L L' wr) (hc : Chg (S1 yb) wr wr') (hY : LimAt wr' yb L1) : Cps B A w xb yb m L L1 wr' := by
  have hy := h.y
  refine ⟨h.errs.chg hc (fun k hk hS => ?_), h.tab.chg hc h.xy (fun b hb hS => (h.my b hb).2 hS), hY, Chg.step h.chg hc (fun k hk => .inr ?_), h.hB, h.x, h.y, h.xy, h.my⟩
  · have := h.hB; have : k = yb := hS; omega
  · have : k = yb := hk; omega
theorem DosAt.keep {w w' : World} {v : Value} {n : Nat} {D : Nat → Quad} (h : DosAt w v n D) (hc : Chg S0 w w') : DosAt w' v n D := by
  obtain ⟨p, cap, h1, h2, h3⟩ := h
  exact ⟨p, cap, h1, h2, fun k hk => by obtain ⟨a, pb, po, ps, e1, e2, q0, q1, q2, q3⟩ := h3 k hk; exact ⟨a, pb, po, ps, e1, e2, hc.cellA q0 (fun h => h), hc.cellA q1 (fun h => h), hc.cellA q2 (fun h => h), hc.cellA q3 (fun h => h)⟩⟩

set_option maxHeartbeats 16000000 in
theorem capsPlay_walk (B : Nat) (A : Nat → Addr) (v u : Value) (n : Nat) (D : Nat → Int × Int × Int) (nl : Nat) (E : Nat → Quad) (a1 a2 : Int) (w : World) (hE : ErrsAt B A w) (hB : B ≤ w.heap.size) (hD : TriAt w v n D) (hI : DosAt w u nl E) (hn : n ≤ 40) (hl : nl ≤ 40) :
    Calls Tryd.prog 7 #[v, u, ek2 (a1, a2)] w fun e w' => e = .returned (.bool true) ∧ Chg S0 w w' := by
  obtain ⟨p, cap, rfl, hcap, hD⟩ := hD
  have HI := Lib.hid hI
  obtain ⟨pu, capu, rfl, hcapu, _⟩ := hI
  show Calls _ _ #[_, _, .agg #[.int .i64 a1, .int .i64 a2]] _ _
  have hn' : decide ((40 : Int) < n) = false := by simp; omega
  have hl' : decide ((40 : Int) < nl) = false := by simp; omega
  have hEa := hE.alloc (.cells #[.int .i64 a1, .int .i64 a2] 89)
  have hf := first40 _ _ _ _ _ (hEa.cell 0 (by decide) (by decide)) (hEa.cell 2 (by decide) (by decide))
  have HF := Lib.hid hf
  have HE := Lib.hid hE
  clear hf hE hEa
  go_enter Tryd.func7, Tryd.ntmps7
  go_wp2_with (go_at_call 40; refine HF.out.mono ?_; rintro e w1 ⟨rfl, hc1⟩)
  have hd1 : Chg S0 w w1 := Chg.step ((Chg.refl S0 w).alloc _) hc1 (fun k hk => hk.elim)
  have hs1 := hd1.size
  have hAsk : CellsAt w1 w.heap.size #[.int .i64 a1, .int .i64 a2] 89 := (CellsAt.new w _ _).chg hc1 (fun h => h)
  have HD1 := Lib.hid hd1
  have HA := Lib.hid hAsk
  clear hc1 hd1 hAsk
  go_loopw [10] (fun i wr => ∃ (k : Nat) (m : Option Nat) (L : List ((Int × Int) × Int)), k ≤ n ∧ i = .int .i64 k ∧ Cps B A w1 w1.heap.size (w1.heap.size + 1) m L L wr ∧ Lims L ∧ L.length ≤ k) (fun i _ => n - (intOf i).toNat)
  case atStart =>
    have hy : CellsAt ((w1.alloc (.cells #[.map none] 86)).alloc (.cells (limCells []) 100)) (w1.heap.size + 1) (limCells []) 100 := by have := CellsAt.new (w1.alloc (.cells #[.map none] 86)) (limCells []) 100; simpa using this
    exact ⟨0, none, [], Nat.zero_le _, rfl, ⟨((HE.out.chg0 HD1.out).alloc _).alloc _, (TabAt.new 86 w1).chg ((Chg.refl S0 _).alloc _) (fun h => h) (fun _ _ h => h), hy, ((Chg.refl _ _).alloc _).alloc _, Nat.le_trans hB hs1, Nat.le_refl _, by omega, by omega, fun b hb => by cases hb⟩, Lims.nil, Nat.le_refl _⟩
  case round =>
    obtain ⟨k, m, L, hk, rfl, hP, hS, hlen⟩ := hrel
    by_cases hkn : k < n
    · have hkn' : decide ((k : Int) < n) = true := by simp; omega
      obtain ⟨a, pb, po, ps, hpa, hadd, q0, q1, q2⟩ := hD k hkn
      have hpb := World.block_lt_of_cell? _ _ q0
      simp only at hpb
      subst hpa
      have q0 := hP.chg.cellA (HD1.out.cellA q0 (fun h => h)) (fun h => h)
      have q1 := hP.chg.cellA (HD1.out.cellA q1 (fun h => h)) (fun h => h)
      have q2 := hP.chg.cellA (HD1.out.cellA q2 (fun h => h)) (fun h => h)
      generalize (D k).1 = d0 at *
      generalize (D k).2.1 = d1 at *
      generalize (D k).2.2 = d2 at *
      have hnX : ¬ SL w1.heap.size m pb := fun h => by
        rcases h with h | h
        · omega
        · have := (hP.my _ h).1; omega
      have hnY : ¬ S1 (w1.heap.size + 1) pb := fun h => by have : pb = w1.heap.size + 1 := h; omega
      have HP := Lib.hid hP
      clear hP
      by_cases hok : LimOk d0 d1 ∧ amtB d2 = true
      · have HK := Lib.hid hok
        clear hok
        go_wp2_with fail
        go_region_held3 (fun w' => w'.cell? ⟨pb, po, ps⟩ = some (.int .i64 d0) ∧ w'.cell? ⟨pb, po + 1, none⟩ = some (.int .i64 d1) ∧ w'.cell? ⟨pb, po + 2, none⟩ = some (.int .i64 d2)) (go_keep)
          (first
          | (go_at_call 41; refine (capSet41 w1.heap.size m d0 d1 d2 L _ (HP.out.step (Chg.refl S0 wr).drew).tab HK.out.1 HK.out.2).mono ?_; rintro e w2 ⟨rfl, m', hL2, hm2, hc2⟩; have j0 := hc2.cellA q0 hnX; have j1 := hc2.cellA q1 hnX; have j2 := hc2.cellA q2 hnX; have P2 := Lib.hid ((HP.out.step (Chg.refl S0 wr).drew).set hc2 hL2 (fun b hb => by cases hb; exact hm2)); clear hL2 hm2)
          | (go_at_call 44; refine (limSet44 (w1.heap.size + 1) L d0 d1 d2 _ P2.out.lim HK.out.1 HK.out.2).mono ?_; rintro e w3 ⟨rfl, hY3, hc3⟩; have i0 := hc3.cellA j0 hnY; have i1 := hc3.cellA j1 hnY; have i2 := hc3.cellA j2 hnY; have P3 := Lib.hid (P2.out.put hc3 hY3); clear hY3)
          | (go_at_call 21; refine (is21_nil 0 _).mono ?_; rintro e w4 ⟨rfl, hc4⟩; have u0 := hc4.cellA i0 (fun h => h); have u1 := hc4.cellA i1 (fun h => h); have u2 := hc4.cellA i2 (fun h => h); have P4 := Lib.hid (P3.out.step hc4)))
        go_wp2_with fail
        exact ⟨⟨k + 1, _, _, hkn, by go_num, P4.out, hS.set HK.out.1 HK.out.2, Nat.le_trans (tset_length _ _ _) (by omega)⟩, by simp [intOf]; omega⟩
      · have HK := Lib.hid hok
        clear hok
        go_wp2_with fail
        go_region_held3 (fun w' => w'.cell? ⟨pb, po, ps⟩ = some (.int .i64 d0) ∧ w'.cell? ⟨pb, po + 1, none⟩ = some (.int .i64 d1) ∧ w'.cell? ⟨pb, po + 2, none⟩ = some (.int .i64 d2)) (go_keep)
          (first
          | (go_at_call 41; refine (capSet41_bad w1.heap.size d0 d1 d2 _ _ ((HP.out.step (Chg.refl S0 wr).drew).errs.cell 0 (by decide) (by decide)) HK.out).mono ?_; rintro e w2 ⟨rfl, hc2⟩; have j0 := hc2.cellA q0 (fun h => h); have j1 := hc2.cellA q1 (fun h => h); have j2 := hc2.cellA q2 (fun h => h); have P2 := Lib.hid ((HP.out.step (Chg.refl S0 wr).drew).step hc2))
          | (go_at_call 44; refine (limSet44_bad (w1.heap.size + 1) d0 d1 d2 _ HK.out).mono ?_; rintro e w3 ⟨rfl, rfl⟩)
          | (go_at_call 21; refine (is21_R P2.out.errs _).mono ?_; rintro e w4 ⟨rfl, hc4⟩; have u0 := hc4.cellA j0 (fun h => h); have u1 := hc4.cellA j1 (fun h => h); have u2 := hc4.cellA j2 (fun h => h); have P4 := Lib.hid (P2.out.step hc4)))
        go_wp2_with fail
        exact ⟨⟨k + 1, _, _, hkn, by go_num, P4.out, hS, by omega⟩, by simp [intOf]; omega⟩
    · obtain rfl : k = n := by omega
      have hkn' : decide ((k : Int) < k) = false := by simp
      have HPn := Lib.hid hP
      clear hkn hP
      go_wp2_with fail
      refine (capAll43 w1.heap.size m L wr HPn.out.tab (by omega)).mono ?_
      rintro e w2 ⟨v, ks, rfl, ⟨hpm, hst, hown⟩, hc2⟩
      have P2 := Lib.hid (HPn.out.step hc2)
      obtain ⟨q, cp, rfl, hks⟩ := ownsRow_pairsT hown
      have hkL : ∀ x ∈ ks, 1 ≤ x.1 ∧ x.1 ≤ 3 ∧ 1 ≤ x.2 ∧ x.2 ≤ 32 := fun x hx => by
        obtain ⟨y, hy, rfl⟩ := List.mem_map.1 (hpm.mem_iff.1 hx)
        have h1 := (hS y hy).1
        have h3 := mostV_lt y.1.1
        have h4 := h1.2
        have h5 := h1.1
        by_cases g1 : y.1.1 = 1
        · omega
        · by_cases g2 : y.1.1 = 2
          · omega
          · by_cases g3 : y.1.1 = 3
            · omega
            · rw [mostVn g1 g2 g3] at h4; omega
      have hin : In32 ks := fun x hx => ⟨(hkL x hx).1, (hkL x hx).2.2⟩
      have hlast : ∀ x ∈ ks, pos32 x < 96 := fun x hx => by have := hkL x hx; unfold pos32; omega
      have hkl : ks.length ≤ 40 := by have := hpm.length_eq; simp at this; omega
      have hmem : ∀ c d, gL L (c, d) = 0 ↔ (c, d) ∉ ks := fun c d => by
        rw [hpm.mem_iff, mem_keys]
        unfold gL
        cases hk : lk L (c, d) with
        | none => simp
        | some y => have := hS _ (mem_of_lk hk); simp; omega
      clear hown hc2 hkL
      have Hks := Lib.hid hks
      have Hst := Lib.hid hst
      have Hin := Lib.hid hin
      have Hla := Lib.hid hlast
      have Hmem := Lib.hid hmem
      have HS := Lib.hid hS
      clear hks hst hin hmem hpm hS hlen hlast
      go_wp2_with fail
      go_loop [12, 13] (fun nn cc => ∃ (j : Nat) (ci : Int), nn = .int .i64 j ∧ cc = .int .i64 ci ∧ 1 ≤ ci ∧ ci ≤ 4 ∧ Up32 ks (32 * (ci - 1)) j) (fun _ cc => (4 - intOf cc).toNat)
      case atStart => exact ⟨0, 1, rfl, rfl, by decide, by decide, Up32.start Hin.out⟩
      case round =>
        obtain ⟨j, ci, rfl, rfl, hc1, hc7, hu⟩ := hrel
        by_cases hc6 : ci ≤ 3
        · have hc6' : decide (ci ≤ 3) = true := by simpa using hc6
          go_wp2_with fail
          go_loop [12, 14] (fun nn bb => ∃ (j : Nat) (bi : Int), nn = .int .i64 j ∧ bb = .int .i64 bi ∧ 1 ≤ bi ∧ bi ≤ 33 ∧ Up32 ks (32 * (ci - 1) + (bi - 1)) j) (fun _ bb => (33 - intOf bb).toNat)
          case atStart => exact ⟨j, 1, rfl, rfl, by decide, by decide, by simpa using hu⟩
          case round =>
            obtain ⟨j, bi, rfl, rfl, hb0, hb6, hu⟩ := hrel
            by_cases hb5 : bi ≤ 32
            · have hb5' : decide (bi ≤ 32) = true := by simpa using hb5
              have hget := limGet45 (w1.heap.size + 1) L ci bi w2 P2.out.lim HS.out
              by_cases hb : gL L (ci, bi) = 0
              · rw [hb] at hget
                have hu2 := hu.miss Hin.out hb0 hb5 rfl ((Hmem.out ci bi).1 hb)
                have HU := Lib.hid hu2
                have HG := Lib.hid hget
                clear hb hu hu2 hget
                go_wp2_with (go_at_call 45; refine HG.out.mono ?_; rintro e w' ⟨rfl, rfl⟩)
                exact ⟨⟨j, bi + 1, rfl, rfl, by omega, by omega, by have := HU.out; rwa [show 32 * (ci - 1) + (bi - 1) + 1 = 32 * (ci - 1) + (bi + 1 - 1) from by omega] at this⟩, by simp [intOf]; omega⟩
              · have hm : (ci, bi) ∈ ks := Decidable.not_not.1 (fun h => hb ((Hmem.out ci bi).2 h))
                obtain ⟨hj, he, hu2⟩ := hu.hit Hin.out Hst.out rfl hm
                obtain ⟨g, hq, k1, k2⟩ := Hks.out j hj
                subst hq
                rw [he] at k1 k2
                obtain ⟨z, hz⟩ : ∃ z, gL L (ci, bi) = z := ⟨_, rfl⟩
                rw [hz] at hget hb
                have hb' : (z == 0) = false := by simpa using hb
                have hj' : decide ((ks.length : Int) ≤ j) = false := by simp; omega
                have HU := Lib.hid hu2
                have HG := Lib.hid hget
                have hjb : j < 1000000 := by omega
                clear hb hu hu2 he hm hz hget
                go_wp2_with (go_at_call 45; refine HG.out.mono ?_; rintro e w' ⟨rfl, rfl⟩)
                exact ⟨⟨j + 1, bi + 1, by go_num, rfl, by omega, by omega, by have := HU.out; rwa [show 32 * (ci - 1) + (bi - 1) + 1 = 32 * (ci - 1) + (bi + 1 - 1) from by omega] at this⟩, by simp [intOf]; omega⟩
            · obtain rfl : bi = 33 := by omega
              have HU := Lib.hid hu
              clear hu hb5
              go_wp2_with fail
              exact ⟨⟨j, ci + 1, rfl, rfl, by omega, by omega, by have := HU.out; rwa [show 32 * (ci - 1) + (33 - 1) = 32 * (ci + 1 - 1) from by omega] at this⟩, by simp [intOf]; omega⟩
        · obtain rfl : ci = 4 := by omega
          obtain rfl : j = ks.length := Up32.all (p := 32 * (4 - 1)) (by simpa using Hla.out) hu
          clear hu hc6
          have hI2 : DosAt w2 (.slice pu nl capu) nl E := (HI.out.keep HD1.out).keep P2.out.chg
          have HI2 := Lib.hid hI2
          clear hI2
          go_wp2_with fail
          refine (sum42 _ _ _ _ w1.heap.size m L _ nl E w2 (P2.out.errs.cell 0 (by decide) (by decide)) (P2.out.errs.cell 2 (by decide) (by decide)) P2.out.tab HI2.out (by omega)).mono ?_
          rintro e w3 ⟨hc3, hsum⟩
          have P3 := Lib.hid (P2.out.step hc3)
          have HI3 := Lib.hid (HI2.out.keep hc3)
          clear hc3
          rcases hsum with ⟨x, ab, hx, hxf, hxb, rfl, hC, hab⟩ | ⟨hall, hover, rfl⟩ | ⟨hall, S, hSt, rfl⟩
          · have HC := Lib.hid hC
            have Hx := Lib.hid (show x < nl ∧ (∀ j, j < x → fitsB (E j) = true) ∧ fitsB (E x) = false from ⟨hx, hxf, hxb⟩)
            clear hx hxf hxb hC
            go_wp2_with fail
            refine (other47 _ nl E w3 HI3.out (by omega)).mono ?_
            rintro e w4 ⟨un, rfl, hI4, hc4⟩
            have P4 := Lib.hid (P3.out.step hc4)
            have HI4 := Lib.hid hI4
            obtain ⟨pn, capn, rfl, _, _⟩ := hI4
            have C34 := Lib.hid hc4
            clear hc4
            go_wp2_with fail
            refine (refSum46 (w1.heap.size + 1) L _ nl E w4 P4.out.lim HI4.out (by omega)).mono ?_
            rintro e w5 ⟨hc5, href⟩
            have P5 := Lib.hid (P4.out.step hc5)
            have C35 := Lib.hid (Chg.step C34.out hc5 (fun _ h => h.elim))
            clear hc5
            have hre : e = .returned (.tuple #[.int .i64 0, .agg #[.int .i64 103, .bool true, .int .i64 x]]) := by
              rcases href with ⟨y, hy, hyf, hyb, h⟩ | ⟨hall, _⟩ | ⟨hall, _⟩
              · have e1 : y = x := by
                  rcases Nat.lt_trichotomy y x with h1 | h1 | h1
                  · rw [Hx.out.2.1 y h1] at hyb; cases hyb
                  · exact h1
                  · have := hyf x h1; rw [Hx.out.2.2] at this; cases this
                rw [h, e1]
              · have := hall x Hx.out.1; rw [Hx.out.2.2] at this; cases this
              · have := hall x Hx.out.1; rw [Hx.out.2.2] at this; cases this
            clear href
            subst hre
            go_wp2_with fail
            have hO : Chg S0 w5 (w5.alloc (.cells #[.int .i64 103, .bool true, .int .i64 x] 104)) := (Chg.refl _ _).alloc _
            have f0 : (w5.alloc (.cells #[.int .i64 103, .bool true, .int .i64 x] 104)).cell? ⟨w5.heap.size, 0, none⟩ = some (.int .i64 103) := by simp
            have f1 : (w5.alloc (.cells #[.int .i64 103, .bool true, .int .i64 x] 104)).cell? ⟨w5.heap.size, 1, none⟩ = some (.bool true) := by simp
            have f2 : (w5.alloc (.cells #[.int .i64 103, .bool true, .int .i64 x] 104)).cell? ⟨w5.heap.size, 2, none⟩ = some (.int .i64 x) := by simp
            have P6 := Lib.hid (P5.out.step hO)
            have C36 := Lib.hid (Chg.step C35.out hO (fun _ h => h.elim))
            have b0 : (w5.alloc (.cells #[.int .i64 103, .bool true, .int .i64 x] 104)).cell? ⟨w.heap.size, 0, none⟩ = some (.int .i64 a1) := by have := (HA.out.chg P6.out.chg (fun h => h)).cell 0; simpa using this
            have b1 : (w5.alloc (.cells #[.int .i64 103, .bool true, .int .i64 x] 104)).cell? ⟨w.heap.size, 1, none⟩ = some (.int .i64 a2) := by have := (HA.out.chg P6.out.chg (fun h => h)).cell 1; simpa using this
            clear hO
            generalize (w5.alloc (.cells #[.int .i64 103, .bool true, .int .i64 x] 104)) = w6 at *
            generalize w5.heap.size = fb at *
            go_region_held3 (fun w' => w'.cell? ⟨w.heap.size, 0, none⟩ = some (.int .i64 a1) ∧ w'.cell? ⟨w.heap.size, 1, none⟩ = some (.int .i64 a2) ∧ w'.cell? ⟨fb, 0, none⟩ = some (.int .i64 103) ∧ w'.cell? ⟨fb, 1, none⟩ = some (.bool true) ∧ w'.cell? ⟨fb, 2, none⟩ = some (.int .i64 x)) (go_keep)
              (first
              | (go_at_call 48; refine (capGet48g w1.heap.size m a1 a2 L _ (P6.out.step (Chg.refl S0 w6).drew).tab).mono ?_; rintro e w8 ⟨rfl, hc8⟩; have i0 := hc8.cell b0 (fun h => h); have i1 := hc8.cell b1 (fun h => h); have i2 := hc8.cell f0 (fun h => h); have i3 := hc8.cell f1 (fun h => h); have i4 := hc8.cell f2 (fun h => h); have P8 := Lib.hid ((P6.out.step (Chg.refl S0 w6).drew).step hc8); have C38 := Lib.hid (Chg.step C36.out.drew hc8 (fun _ h => h.elim)); clear hc8)
              | (go_at_call 45; refine (limGet45 (w1.heap.size + 1) L a1 a2 _ P8.out.lim HS.out).mono ?_; rintro e w' ⟨rfl, rfl⟩)
              | (go_at_call 49; refine (same49_of 103 x true (fun W hW => fault116_rat ((P8.out.errs).chg0 hW) ab x ((HC.out.chg C38.out (fun h => h)).chg hW (fun h => h)))).mono ?_; rintro e w9 ⟨rfl, hc9⟩; have j0 := hc9.cell i0 (fun h => h); have j1 := hc9.cell i1 (fun h => h); have j2 := hc9.cell i2 (fun h => h); have j3 := hc9.cell i3 (fun h => h); have j4 := hc9.cell i4 (fun h => h); have P9 := Lib.hid (P8.out.step hc9); clear hc9))
            go_wp2_with fail
            go_ret
            exact ⟨by simp, Chg.step HD1.out P9.out.chg (fun _ h => h.elim)⟩
          · have hov := over_ranges (allIn_pairs hall) hover
            have HOv := Lib.hid hov
            have HAll := Lib.hid hall
            clear hov hover hall
            go_wp2_with fail
            refine (other47 _ nl E w3 HI3.out (by omega)).mono ?_
            rintro e w4 ⟨un, rfl, hI4, hc4⟩
            have P4 := Lib.hid (P3.out.step hc4)
            have HI4 := Lib.hid hI4
            obtain ⟨pn, capn, rfl, _, _⟩ := hI4
            have C34 := Lib.hid hc4
            clear hc4
            go_wp2_with fail
            refine (refSum46 (w1.heap.size + 1) L _ nl E w4 P4.out.lim HI4.out (by omega)).mono ?_
            rintro e w5 ⟨hc5, href⟩
            have P5 := Lib.hid (P4.out.step hc5)
            have C35 := Lib.hid (Chg.step C34.out hc5 (fun _ h => h.elim))
            clear hc5
            have hre : e = .returned (.tuple #[.int .i64 0, faultV 104]) := by
              rcases href with ⟨y, hy, hyf, hyb, h⟩ | ⟨_, _, h⟩ | ⟨_, h, _⟩
              · rw [HAll.out y hy] at hyb; cases hyb
              · exact h
              · exact absurd HOv.out h
            clear href
            subst hre
            go_wp2_with fail
            have hO : Chg S0 w5 (w5.alloc (.cells #[.int .i64 104, .bool false, .int .i64 0] 104)) := (Chg.refl _ _).alloc _
            have f0 : (w5.alloc (.cells #[.int .i64 104, .bool false, .int .i64 0] 104)).cell? ⟨w5.heap.size, 0, none⟩ = some (.int .i64 104) := by simp
            have f1 : (w5.alloc (.cells #[.int .i64 104, .bool false, .int .i64 0] 104)).cell? ⟨w5.heap.size, 1, none⟩ = some (.bool false) := by simp
            have f2 : (w5.alloc (.cells #[.int .i64 104, .bool false, .int .i64 0] 104)).cell? ⟨w5.heap.size, 2, none⟩ = some (.int .i64 0) := by simp
            have P6 := Lib.hid (P5.out.step hO)
            have C36 := Lib.hid (Chg.step C35.out hO (fun _ h => h.elim))
            have b0 : (w5.alloc (.cells #[.int .i64 104, .bool false, .int .i64 0] 104)).cell? ⟨w.heap.size, 0, none⟩ = some (.int .i64 a1) := by have := (HA.out.chg P6.out.chg (fun h => h)).cell 0; simpa using this
            have b1 : (w5.alloc (.cells #[.int .i64 104, .bool false, .int .i64 0] 104)).cell? ⟨w.heap.size, 1, none⟩ = some (.int .i64 a2) := by have := (HA.out.chg P6.out.chg (fun h => h)).cell 1; simpa using this
            clear hO
            generalize (w5.alloc (.cells #[.int .i64 104, .bool false, .int .i64 0] 104)) = w6 at *
            generalize w5.heap.size = fb at *
            go_region_held3 (fun w' => w'.cell? ⟨w.heap.size, 0, none⟩ = some (.int .i64 a1) ∧ w'.cell? ⟨w.heap.size, 1, none⟩ = some (.int .i64 a2) ∧ w'.cell? ⟨fb, 0, none⟩ = some (.int .i64 104) ∧ w'.cell? ⟨fb, 1, none⟩ = some (.bool false) ∧ w'.cell? ⟨fb, 2, none⟩ = some (.int .i64 0)) (go_keep)
              (first
              | (go_at_call 48; refine (capGet48g w1.heap.size m a1 a2 L _ (P6.out.step (Chg.refl S0 w6).drew).tab).mono ?_; rintro e w8 ⟨rfl, hc8⟩; have i0 := hc8.cell b0 (fun h => h); have i1 := hc8.cell b1 (fun h => h); have i2 := hc8.cell f0 (fun h => h); have i3 := hc8.cell f1 (fun h => h); have i4 := hc8.cell f2 (fun h => h); have P8 := Lib.hid ((P6.out.step (Chg.refl S0 w6).drew).step hc8); have C38 := Lib.hid (Chg.step C36.out.drew hc8 (fun _ h => h.elim)); clear hc8)
              | (go_at_call 45; refine (limGet45 (w1.heap.size + 1) L a1 a2 _ P8.out.lim HS.out).mono ?_; rintro e w' ⟨rfl, rfl⟩)
              | (go_at_call 49; refine (same49_of 104 0 false (fun W hW => fault116_over ((P8.out.errs).chg0 hW))).mono ?_; rintro e w9 ⟨rfl, hc9⟩; have j0 := hc9.cell i0 (fun h => h); have j1 := hc9.cell i1 (fun h => h); have j2 := hc9.cell i2 (fun h => h); have j3 := hc9.cell i3 (fun h => h); have j4 := hc9.cell i4 (fun h => h); have P9 := Lib.hid (P8.out.step hc9); clear hc9))
            go_wp2_with fail
            go_ret
            exact ⟨by simp, Chg.step HD1.out P9.out.chg (fun _ h => h.elim)⟩
          · have hno := not_over (allIn_pairs hall) hSt
            have hval := st3_lk (allIn_pairs hall) hSt
            rw [hval]
            have HNo := Lib.hid hno
            have HAll := Lib.hid hall
            clear hno hSt hall hval
            go_wp2_with fail
            refine (other47 _ nl E w3 HI3.out (by omega)).mono ?_
            rintro e w4 ⟨un, rfl, hI4, hc4⟩
            have P4 := Lib.hid (P3.out.step hc4)
            have HI4 := Lib.hid hI4
            obtain ⟨pn, capn, rfl, _, _⟩ := hI4
            have C34 := Lib.hid hc4
            clear hc4
            go_wp2_with fail
            refine (refSum46 (w1.heap.size + 1) L _ nl E w4 P4.out.lim HI4.out (by omega)).mono ?_
            rintro e w5 ⟨hc5, href⟩
            have P5 := Lib.hid (P4.out.step hc5)
            have C35 := Lib.hid (Chg.step C34.out hc5 (fun _ h => h.elim))
            clear hc5
            have hre : e = .returned (.tuple #[.int .i64 (Sa L (pairsOf E nl)), faultV 0]) := by
              rcases href with ⟨y, hy, hyf, hyb, h⟩ | ⟨_, h, _⟩ | ⟨_, _, h⟩
              · rw [HAll.out y hy] at hyb; cases hyb
              · exact absurd h HNo.out
              · exact h
            clear href
            subst hre
            go_wp2_with fail
            have hO : Chg S0 w5 (w5.alloc (.cells #[.int .i64 0, .bool false, .int .i64 0] 104)) := (Chg.refl _ _).alloc _
            have f0 : (w5.alloc (.cells #[.int .i64 0, .bool false, .int .i64 0] 104)).cell? ⟨w5.heap.size, 0, none⟩ = some (.int .i64 0) := by simp
            have f1 : (w5.alloc (.cells #[.int .i64 0, .bool false, .int .i64 0] 104)).cell? ⟨w5.heap.size, 1, none⟩ = some (.bool false) := by simp
            have f2 : (w5.alloc (.cells #[.int .i64 0, .bool false, .int .i64 0] 104)).cell? ⟨w5.heap.size, 2, none⟩ = some (.int .i64 0) := by simp
            have P6 := Lib.hid (P5.out.step hO)
            have C36 := Lib.hid (Chg.step C35.out hO (fun _ h => h.elim))
            have b0 : (w5.alloc (.cells #[.int .i64 0, .bool false, .int .i64 0] 104)).cell? ⟨w.heap.size, 0, none⟩ = some (.int .i64 a1) := by have := (HA.out.chg P6.out.chg (fun h => h)).cell 0; simpa using this
            have b1 : (w5.alloc (.cells #[.int .i64 0, .bool false, .int .i64 0] 104)).cell? ⟨w.heap.size, 1, none⟩ = some (.int .i64 a2) := by have := (HA.out.chg P6.out.chg (fun h => h)).cell 1; simpa using this
            clear hO
            generalize (w5.alloc (.cells #[.int .i64 0, .bool false, .int .i64 0] 104)) = w6 at *
            generalize w5.heap.size = fb at *
            go_region_held3 (fun w' => w'.cell? ⟨w.heap.size, 0, none⟩ = some (.int .i64 a1) ∧ w'.cell? ⟨w.heap.size, 1, none⟩ = some (.int .i64 a2) ∧ w'.cell? ⟨fb, 0, none⟩ = some (.int .i64 0) ∧ w'.cell? ⟨fb, 1, none⟩ = some (.bool false) ∧ w'.cell? ⟨fb, 2, none⟩ = some (.int .i64 0)) (go_keep)
              (first
              | (go_at_call 48; refine (capGet48g w1.heap.size m a1 a2 L _ (P6.out.step (Chg.refl S0 w6).drew).tab).mono ?_; rintro e w8 ⟨rfl, hc8⟩; have i0 := hc8.cell b0 (fun h => h); have i1 := hc8.cell b1 (fun h => h); have i2 := hc8.cell f0 (fun h => h); have i3 := hc8.cell f1 (fun h => h); have i4 := hc8.cell f2 (fun h => h); have P8 := Lib.hid ((P6.out.step (Chg.refl S0 w6).drew).step hc8); have C38 := Lib.hid (Chg.step C36.out.drew hc8 (fun _ h => h.elim)); clear hc8)
              | (go_at_call 45; refine (limGet45 (w1.heap.size + 1) L a1 a2 _ P8.out.lim HS.out).mono ?_; rintro e w' ⟨rfl, rfl⟩)
              | (go_at_call 49; refine (same49_of 0 0 false (fun W hW => fault116_nil W)).mono ?_; rintro e w9 ⟨rfl, hc9⟩; have j0 := hc9.cell i0 (fun h => h); have j1 := hc9.cell i1 (fun h => h); have j2 := hc9.cell i2 (fun h => h); have j3 := hc9.cell i3 (fun h => h); have j4 := hc9.cell i4 (fun h => h); have P9 := Lib.hid (P8.out.step hc9); clear hc9))
            go_wp2_with fail
            go_ret
            exact ⟨by simp, Chg.step HD1.out P9.out.chg (fun _ h => h.elim)⟩
end Go.Proofs.YtljlnojelagmfaaDoor

namespace Go.Proofs.YtljlnojelagmfaaDoor
open Go.ChangeShapes Go.WideShapes Go.ChangeAt Go.RowKit Go.Pl
set_option maxRecDepth 100000

theorem capsPlay_far (B : Nat) (A : Nat → Addr) (p pu : Option Addr) (n cap nl capu : Nat) (a1 a2 : Int) (w : World) (hE : ErrsAt B A w) (hf : ¬ (n ≤ 40 ∧ nl ≤ 40)) (h1 : n ≤ maxLen) (h2 : nl ≤ maxLen) :
    Calls Tryd.prog 7 #[.slice p n cap, .slice pu nl capu, ek2 (a1, a2)] w fun e w' => e = .returned (.bool true) ∧ Chg S0 w w' := by
  show Calls _ _ #[_, _, .agg #[.int .i64 a1, .int .i64 a2]] _ _
  unfold maxLen at h1 h2
  have hEa := hE.alloc (.cells #[.int .i64 a1, .int .i64 a2] 89)
  have hfi := first40 _ _ _ _ _ (hEa.cell 0 (by decide) (by decide)) (hEa.cell 2 (by decide) (by decide))
  have HF := Lib.hid hfi
  clear hfi hE hEa
  by_cases hn : n ≤ 40
  · have hn' : decide ((40 : Int) < n) = false := by simp; omega
    have hl' : decide ((40 : Int) < nl) = true := by simp; omega
    clear hf
    go_enter Tryd.func7, Tryd.ntmps7
    go_wp2_with (go_at_call 40; refine HF.out.mono ?_; rintro e w1 ⟨rfl, hc1⟩)
    go_ret
    exact ⟨rfl, Chg.step ((Chg.refl _ _).alloc _) hc1 (fun _ h => h.elim)⟩
  · have hn' : decide ((40 : Int) < n) = true := by simp; omega
    clear hf
    go_enter Tryd.func7, Tryd.ntmps7
    go_wp2_with (go_at_call 40; refine HF.out.mono ?_; rintro e w1 ⟨rfl, hc1⟩)
    go_ret
    exact ⟨rfl, Chg.step ((Chg.refl _ _).alloc _) hc1 (fun _ h => h.elim)⟩

theorem capsPlay_any (B : Nat) (A : Nat → Addr) (v u : Value) (n : Nat) (D : Nat → Int × Int × Int) (nl : Nat) (E : Nat → Quad) (a1 a2 : Int) (w : World) (hE : ErrsAt B A w) (hB : B ≤ w.heap.size) (hD : TriAt w v n D) (hI : DosAt w u nl E) (h1 : n ≤ maxLen) (h2 : nl ≤ maxLen) :
    Calls Tryd.prog 7 #[v, u, ek2 (a1, a2)] w fun e w' => e = .returned (.bool true) ∧ Chg S0 w w' := by
  by_cases hn : n ≤ 40 ∧ nl ≤ 40
  · exact capsPlay_walk B A v u n D nl E a1 a2 w hE hB hD hI hn.1 hn.2
  · obtain ⟨p, cap, rfl, _⟩ := hD
    obtain ⟨pu, capu, rfl, _⟩ := hI
    exact capsPlay_far B A p pu n cap nl capu a1 a2 w hE hn h1 h2

section
variable {H : Type} {enc : TypeId × Value → H} {w : World} {base : Nat} {spare : Nat → Bool} {held : Bool}

/-- A slice of structs of four numbers. -/
theorem quad_open {t e : TypeId} {f0 f1 f2 f3 : Field} (ht : Tryd.prog.underlying t = some (.slice e)) (he : Tryd.prog.underlying e = some (.struct #[f0, f1, f2, f3])) (k0 : f0.type = 3) (k1 : f1.type = 3) (k2 : f2.type = 3) (k3 : f3.type = 2)
    (hone : Go.Deep.oneCellFields Tryd.prog #[f0, f1, f2, f3] = true) (hC : Tryd.prog.cellsOf e = 4) {r : Reach} {b0 : Nat} {v : Value} {d : DataW H} {p : List MemPlace} (hv : Value.okWide Tryd.prog w r b0 t v) (h : DataW.Trod enc Tryd.prog w base spare held t v d p) : ∃ n D, DosAt w v n D ∧ n ≤ maxLen := by
  obtain ⟨a0, len, cap, rfl⟩ := okWide_slice ht hv
  obtain ⟨fuel, hf⟩ := h
  have hlen : len ≤ maxLen := by
    rcases Go.Deep.open_slice ht hf with h' | ⟨a, len', cap', m, n, D, Pl, hcs, _, hl, hcm, _⟩
    · have h' := h'.1
      simp [Value.cells] at h'
      omega
    · simp [Value.cells] at hcs
      omega
  rcases slice_fields ht he hone hC hf with h0 | ⟨a, len', cap', hcs, hle, hcell⟩
  · simp [Value.cells] at h0
    obtain ⟨rfl, rfl, rfl⟩ := h0
    exact ⟨0, fun _ => (0, 0, 0, 0), ⟨none, 0, rfl, Nat.le_refl _, fun k hk => by omega⟩, Nat.zero_le _⟩
  · simp [Value.cells] at hcs
    obtain ⟨rfl, rfl, rfl⟩ := hcs
    have key : ∀ k, ∃ x : Int × Int × Int × Int, k < len → w.cell? (a.add (k * 4)) = some (.int .i64 x.1) ∧ w.cell? ((a.add (k * 4)).add 1) = some (.int .i64 x.2.1) ∧ w.cell? ((a.add (k * 4)).add 2) = some (.int .i64 x.2.2.1) ∧ w.cell? ((a.add (k * 4)).add 3) = some (.int .i64 x.2.2.2) := by
      intro k
      by_cases hk : k < len
      · obtain ⟨n0, v0, y0, c0, t0⟩ := hcell k hk 0 f0 rfl
        obtain ⟨n1, v1, y1, c1, t1⟩ := hcell k hk 1 f1 rfl
        obtain ⟨n2, v2, y2, c2, t2⟩ := hcell k hk 2 f2 rfl
        obtain ⟨n3, v3, y3, c3, t3⟩ := hcell k hk 3 f3 rfl
        rw [k0] at t0
        rw [k1] at t1
        rw [k2] at t2
        rw [k3] at t3
        obtain ⟨x0, rfl⟩ := ints_of_trod Tryd.underlying3 t0
        obtain ⟨x1, rfl⟩ := ints_of_trod Tryd.underlying3 t1
        obtain ⟨x2, rfl⟩ := ints_of_trod Tryd.underlying3 t2
        obtain ⟨x3, rfl⟩ := ints_of_trod Tryd.underlying2 t3
        exact ⟨(x0, x1, x2, x3), fun _ => ⟨by simpa [Addr.add] using c0, c1, c2, c3⟩⟩
      · exact ⟨(0, 0, 0, 0), fun h => absurd h hk⟩
    obtain ⟨D, hD⟩ := Classical.axiomOfChoice key
    refine ⟨len, D, ⟨some a, cap, rfl, hle, fun k hk => ?_⟩, hlen⟩
    obtain ⟨h0, h1, h2, h3⟩ := hD k hk
    obtain ⟨q, hq⟩ : ∃ q, a.add (k * 4) = q := ⟨_, rfl⟩
    rw [hq] at h0 h1 h2 h3
    exact ⟨a, q.block, q.off, q.spot, rfl, hq, h0, by simpa [Addr.add] using h1, by simpa [Addr.add] using h2, by simpa [Addr.add] using h3⟩
end
end Go.Proofs.YtljlnojelagmfaaDoor
