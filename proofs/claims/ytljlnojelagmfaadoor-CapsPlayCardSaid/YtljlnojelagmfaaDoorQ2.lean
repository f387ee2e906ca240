/-
  caps: Sum. (Chapter 16.) What counts of lines: sums over maps' lists as sums over ranges; lines of one group. (Chapter 16.) caps: All; the chapter's examples; CapsFree: its walk. (Chapter 16.)
-/
import Derived.Test.YtljlnojelagmfaaDoorQ1
import Derived.Test.YtljlnojelagmfaaDoorH5
namespace Go.Proofs.YtljlnojelagmfaaDoor
open Go.RowKit Go.Pl
set_option maxRecDepth 100000

/-- May a line be? -/
def fitsB (l : Int × Int × Int × Int) : Bool := decide (1 ≤ l.1) && decide (l.1 ≤ 6) && decide (1 ≤ l.2.1) && decide (l.2.1 ≤ 6) && decide (0 ≤ l.2.2.1) && decide (l.2.2.1 ≤ 32) && amtB l.2.2.2

set_option maxHeartbeats 2000000 in
theorem fits102 (c m i v : Int) (w : World) : Calls Tryd.prog 102 #[.agg #[.int .i64 c, .int .i64 m, .int .i64 i, .int .i64 v]] w fun e w' => e = .returned (.bool (fitsB (c, m, i, v))) ∧ Chg S0 w w' := by
  have key : ∀ b, fitsB (c, m, i, v) = b → Calls Tryd.prog 102 #[.agg #[.int .i64 c, .int .i64 m, .int .i64 i, .int .i64 v]] w fun e w' => e = .returned (.bool b) ∧ Chg S0 w w' := by
    intro b hb
    unfold fitsB at hb
    simp only at hb
    have H101 := amt101 v
    by_cases h1 : 1 ≤ c
    · have g1 : decide (1 ≤ c) = true := by simpa using h1
      by_cases h2 : c ≤ 6
      · have g2 : decide (c ≤ 6) = true := by simpa using h2
        by_cases h3 : 1 ≤ m
        · have g3 : decide (1 ≤ m) = true := by simpa using h3
          by_cases h4 : m ≤ 6
          · have g4 : decide (m ≤ 6) = true := by simpa using h4
            by_cases h5 : 0 ≤ i
            · have g5 : decide (0 ≤ i) = true := by simpa using h5
              by_cases h6 : i ≤ 32
              · have g6 : decide (i ≤ 32) = true := by simpa using h6
                rw [g1, g2, g3, g4, g5, g6] at hb
                simp only [Bool.true_and] at hb
                subst hb
                go_enter Tryd.func102, Tryd.ntmps102
                go_wp2_with (go_at_call 101; refine (amt101 _ _).mono ?_; rintro e w' ⟨rfl, rfl⟩)
                go_ret
                exact ⟨rfl, (Chg.refl _ _).alloc _⟩
              · have g6 : decide (i ≤ 32) = false := by simpa using h6
                rw [g6] at hb
                simp only [Bool.and_false, Bool.false_and] at hb
                subst hb
                go_enter Tryd.func102, Tryd.ntmps102
                go_wp2
                go_ret
                exact ⟨rfl, (Chg.refl _ _).alloc _⟩
            · have g5 : decide (0 ≤ i) = false := by simpa using h5
              rw [g5] at hb
              simp only [Bool.and_false, Bool.false_and] at hb
              subst hb
              go_enter Tryd.func102, Tryd.ntmps102
              go_wp2
              go_ret
              exact ⟨rfl, (Chg.refl _ _).alloc _⟩
          · have g4 : decide (m ≤ 6) = false := by simpa using h4
            rw [g4] at hb
            simp only [Bool.and_false, Bool.false_and] at hb
            subst hb
            go_enter Tryd.func102, Tryd.ntmps102
            go_wp2
            go_ret
            exact ⟨rfl, (Chg.refl _ _).alloc _⟩
        · have g3 : decide (1 ≤ m) = false := by simpa using h3
          rw [g3] at hb
          simp only [Bool.and_false, Bool.false_and] at hb
          subst hb
          go_enter Tryd.func102, Tryd.ntmps102
          go_wp2
          go_ret
          exact ⟨rfl, (Chg.refl _ _).alloc _⟩
      · have g2 : decide (c ≤ 6) = false := by simpa using h2
        rw [g2] at hb
        simp only [Bool.and_false, Bool.false_and] at hb
        subst hb
        go_enter Tryd.func102, Tryd.ntmps102
        go_wp2
        go_ret
        exact ⟨rfl, (Chg.refl _ _).alloc _⟩
    · have g1 : decide (1 ≤ c) = false := by simpa using h1
      rw [g1] at hb
      simp only [Bool.false_and] at hb
      subst hb
      go_enter Tryd.func102, Tryd.ntmps102
      go_wp2
      go_ret
      exact ⟨rfl, (Chg.refl _ _).alloc _⟩
  exact key _ rfl

abbrev Quad := Int × Int × Int × Int
def pairOf (d : Quad) : Grp × Int := ((d.1, d.2.1, d.2.2.1), d.2.2.2)
/-- The lines' groups, and their amounts. -/
def pairsOf (D : Nat → Quad) (n : Nat) : List (Grp × Int) := (List.range n).map fun k => pairOf (D k)
theorem pairsOf_succ (D : Nat → Quad) (n : Nat) : pairsOf D (n + 1) = pairsOf D n ++ [pairOf (D n)] := by simp [pairsOf, List.range_succ]

theorem pairsOf_split (D : Nat → Quad) {j n : Nat} (h : j < n) : ∃ post, pairsOf D n = pairsOf D j ++ ([] ++ pairOf (D j) :: post) := by
  induction n with
  | zero => omega
  | succ n ih =>
    rcases Nat.lt_or_ge j n with h' | h'
    · obtain ⟨post, e⟩ := ih h'
      exact ⟨post ++ [pairOf (D n)], by rw [pairsOf_succ, e]; simp⟩
    · obtain rfl : j = n := by omega
      exact ⟨[], by rw [pairsOf_succ]; simp⟩
theorem pairsOf_mem {D : Nat → Quad} {n : Nat} {p : Grp × Int} (h : p ∈ pairsOf D n) : ∃ j, j < n ∧ p = pairOf (D j) := by
  obtain ⟨j, hj, rfl⟩ := List.mem_map.1 h
  exact ⟨j, by simpa using hj, rfl⟩
theorem fits_amt {d : Quad} (h : fitsB d = true) : amtB d.2.2.2 = true := by unfold fitsB at h; simp only [Bool.and_eq_true] at h; exact h.2

def sameG (g : Grp) : Grp := g
def allN (_ : Grp) (n : Int) : Int := n
abbrev hL1 (l : List ((Int × Int) × Int)) : Grp → Int → Int := fun g n => capV (gL l (lim1 g)) n
abbrev hL2 (l : List ((Int × Int) × Int)) : Grp → Int → Int := fun g n => capV (gL l (lim2 g)) n
abbrev hL3 (l : List ((Int × Int) × Int)) : Grp → Int → Int := fun g n => capV (gL l (lim3 g)) n
/-- The maps of sums, one behind the other. -/
def St0 (Lp S : List (Grp × Int)) : Prop := OutIs sameG allN S Lp ∧ (S.map (·.1)).Nodup
def St1 (l : List ((Int × Int) × Int)) (Lp S : List (Grp × Int)) : Prop := ∃ R, St0 Lp R ∧ OutIs to1 (hL1 l) S R ∧ (S.map (·.1)).Nodup
def St2 (l : List ((Int × Int) × Int)) (Lp S : List (Grp × Int)) : Prop := ∃ R, St1 l Lp R ∧ OutIs to2 (hL2 l) S R ∧ (S.map (·.1)).Nodup
def St3 (l : List ((Int × Int) × Int)) (Lp S : List (Grp × Int)) : Prop := ∃ R, St2 l Lp R ∧ OutIs to3 (hL3 l) S R ∧ (S.map (·.1)).Nodup
/-- The map of sums behind so many steps. -/
def Stg (l : List ((Int × Int) × Int)) (Lp : List (Grp × Int)) : Nat → List (Grp × Int) → Prop
  | 0, S => St0 Lp S
  | 1, S => St1 l Lp S
  | 2, S => St2 l Lp S
  | _, S => St3 l Lp S
/-- A sum is too great. -/
def OverP (l : List ((Int × Int) × Int)) (Lp : List (Grp × Int)) : Prop :=
  (∃ x, 1000000000000000 < cameTo sameG allN Lp x) ∨ (∃ R x, St0 Lp R ∧ 1000000000000000 < cameTo to1 (hL1 l) R x) ∨ (∃ R x, St1 l Lp R ∧ 1000000000000000 < cameTo to2 (hL2 l) R x) ∨ ∃ R x, St2 l Lp R ∧ 1000000000000000 < cameTo to3 (hL3 l) R x

/-- What Sum comes to. -/
def SumPost (l : List ((Int × Int) × Int)) (D : Nat → Quad) (n : Nat) (e0 e2 : Value) (w : World) (e : Ending) (w' : World) : Prop :=
  Chg S0 w w' ∧
  ((∃ k ab, k < n ∧ (∀ j, j < k → fitsB (D j) = true) ∧ fitsB (D k) = false ∧ e = .returned (.tuple #[.int .i64 0, .iface 186 (.pointer (some ⟨ab, 0, none⟩))]) ∧ CellsAt w' ab #[.int .i64 k, e0] 188 ∧ w.heap.size ≤ ab) ∨
   ((∀ j, j < n → fitsB (D j) = true) ∧ OverP l (pairsOf D n) ∧ e = .returned (.tuple #[.int .i64 0, e2])) ∨
   ((∀ j, j < n → fitsB (D j) = true) ∧ ∃ S, St3 l (pairsOf D n) S ∧ e = .returned (.tuple #[.int .i64 ((lk S (0, 0, 0)).getD 0), .nilIface])))

set_option maxHeartbeats 8000000 in
theorem sum42 (t0 t2 : TypeId) (v0 v2 : Value) (tb : Nat) (m : Option Nat) (l : List ((Int × Int) × Int)) (v : Value) (n : Nat) (D : Nat → Quad) (w : World) (hE0 : w.cell? ⟨0, 0, none⟩ = some (.iface t0 v0)) (hE2 : w.cell? ⟨2, 0, none⟩ = some (.iface t2 v2)) (hL : TabAt 86 w tb m l) (hD : DosAt w v n D) (hn : n ≤ 1000) :
    Calls Tryd.prog 42 #[.pointer (some ⟨tb, 0, .none⟩), v] w fun e w' => SumPost l D n (.iface t0 v0) (.iface t2 v2) w e w' := by
  obtain ⟨p, cap, rfl, hcap, hD⟩ := hD
  have hltb := hL.cells.lt
  have hz0 := World.block_lt_of_cell? _ _ hE0
  have HE0 := Lib.hid hE0
  have HE2 := Lib.hid hE2
  have HL := Lib.hid hL
  clear hE0 hE2 hL
  go_enter Tryd.func42, Tryd.ntmps42
  go_wp2
  go_loopw [18] (fun i wr => ∃ k : Nat, k ≤ n ∧ i = .int .i64 k ∧ (∀ j, j < k → fitsB (D j) = true) ∧ Chg S0 w wr) (fun i _ => n - (intOf i).toNat)
  case atStart => exact ⟨0, Nat.zero_le _, rfl, fun j hj => by omega, Chg.refl _ _⟩
  case round =>
    obtain ⟨k, hk, rfl, hfit, hc⟩ := hrel
    have Hf := Lib.hid hfit
    have Hc := Lib.hid hc
    clear hfit hc
    by_cases hkn : k < n
    · have hkn' : decide ((k : Int) < n) = true := by simp; omega
      obtain ⟨a, pb, po, ps, hpa, hadd, q0, q1, q2, q3⟩ := hD k hkn
      have q0 := Hc.out.cellA q0 (fun h => h)
      have q1 := Hc.out.cellA q1 (fun h => h)
      have q2 := Hc.out.cellA q2 (fun h => h)
      have q3 := Hc.out.cellA q3 (fun h => h)
      subst hpa
      obtain ⟨d, hd⟩ : ∃ d, D k = d := ⟨_, rfl⟩
      rw [hd] at q0 q1 q2 q3
      obtain ⟨d0, d1, d2, d3⟩ := d
      simp only at q0 q1 q2 q3
      have Hd := Lib.hid hd
      clear hd
      cases hfb : fitsB (d0, d1, d2, d3) with
      | true =>
        have hfc := fun W => fits102 d0 d1 d2 d3 W
        rw [hfb] at hfc
        have HF := Lib.hid hfc
        have HB := Lib.hid hfb
        clear hfc hfb
        go_wp2_with (go_at_call 102; refine (HF.out _).mono ?_; rintro e w2 ⟨rfl, hc2⟩)
        exact ⟨⟨k + 1, by omega, by go_num, fun j hj => by rcases Nat.lt_or_ge j k with h | h; exact Hf.out j h; (obtain rfl : j = k := by omega); rw [Hd.out]; exact HB.out, Chg.step (Hc.out.alloc _) hc2 (fun _ h => h.elim)⟩, by simp [intOf]; omega⟩
      | false =>
        have hfc := fun W => fits102 d0 d1 d2 d3 W
        rw [hfb] at hfc
        have HF := Lib.hid hfc
        have HB := Lib.hid hfb
        clear hfc hfb
        go_wp2_with (go_at_call 102; refine (HF.out _).mono ?_; rintro e w2 ⟨rfl, hc2⟩)
        have hc3 := Lib.hid (Chg.step (Hc.out.alloc _) hc2 (fun _ h => h.elim))
        have e0c := hc3.out.cell HE0.out (fun h => h)
        have z0 := hc3.out.lt hz0
        clear hc2
        go_region
        go_wp2
        go_ret2
        exact ⟨(hc3.out.alloc _).drew, .inl ⟨k, w2.heap.size, hkn, Hf.out, by rw [Hd.out]; exact HB.out, rfl, CellsAt.new _ _ _, hc3.out.size⟩⟩
    · obtain rfl : k = n := by omega
      clear hkn
      obtain ⟨wo, rfl⟩ : ∃ wo : World, wo = wr := ⟨_, rfl⟩
      have hmm := @run_makeMap Tryd.prog
      have hO0 := Lib.hid (MapAt.new ek3 ekI wo)
      have hzr : w.heap.size ≤ wo.heap.size := Hc.out.size
      go_wp2
      go_loopw [35] (fun i wq => ∃ (j : Nat) (O : List (Grp × Int)), j ≤ k ∧ i = .int .i64 j ∧ MapAt ek3 ekI wq wo.heap.size O ∧ OutIs sameG allN O (pairsOf D j) ∧ Chg S0 w wq) (fun i _ => k - (intOf i).toNat)
      case atStart => exact ⟨0, [], Nat.zero_le _, rfl, hO0.out, OutIs.nil _ _, Hc.out.alloc _⟩
      case round =>
        obtain ⟨j, O, hj, rfl, hO, hOut, hcq⟩ := hrel
        have HO := Lib.hid hO
        have Hout := Lib.hid hOut
        have Hcq := Lib.hid hcq
        have hx := hOut.amt
        clear hO hOut hcq
        by_cases hjn : j < k
        · have hjn' : decide ((j : Int) < k) = true := by simp; omega
          obtain ⟨a, pb, po, ps, hpa, hadd, q0, q1, q2, q3⟩ := hD j hjn
          have q0 := Hcq.out.cellA q0 (fun h => h)
          have q1 := Hcq.out.cellA q1 (fun h => h)
          have q2 := Hcq.out.cellA q2 (fun h => h)
          have q3 := Hcq.out.cellA q3 (fun h => h)
          subst hpa
          have hfj := Hf.out j hjn
          obtain ⟨d, hd⟩ : ∃ d, D j = d := ⟨_, rfl⟩
          rw [hd] at q0 q1 q2 q3 hfj
          obtain ⟨d0, d1, d2, d3⟩ := d
          simp only at q0 q1 q2 q3
          have hp : pairsOf D (j + 1) = pairsOf D j ++ [((d0, d1, d2), d3)] := by rw [pairsOf_succ, hd]; rfl
          have hn3 : amtB d3 = true := by unfold fitsB at hfj; simp only [Bool.and_eq_true] at hfj; exact hfj.2
          have hx := hx (d0, d1, d2)
          obtain ⟨z, hz⟩ : ∃ z, (lk O (d0, d1, d2)).getD 0 = z := ⟨_, rfl⟩
          have HX := Lib.hid hx
          have Hd := Lib.hid hd
          have Hz := Lib.hid hz
          have Hp := Lib.hid hp
          have Hn3 := Lib.hid hn3
          clear hx hz hp hn3 hd hfj
          by_cases hs : z + d3 ≤ 1000000000000000
          · have hadd3 := fun W (hc : Chg S0 wr W) => add103_ok (.iface t2 v2) wo.heap.size O (d0, d1, d2) d3 W (hc.cell (Hcq.out.cell HE2.out (fun h => h)) (fun h => h)) ⟨_, _, rfl⟩ (HO.out.chg hc (fun h => h)) HX.out Hn3.out (by rw [Hz.out]; exact hs)
            have HA3 := Lib.hid hadd3
            clear hadd3
            go_wp2_with (go_at_call 103; refine (HA3.out _ ((Chg.refl _ _).alloc _)).mono ?_; rintro e w2 ⟨rfl, hM2, hc2⟩; have M2 := Lib.hid hM2; have C2 := Lib.hid hc2; clear hM2 hc2)
            refine ⟨⟨j + 1, _, by omega, by go_num, M2.out, ?_, ?_⟩, by simp [intOf]; omega⟩
            · rw [Hp.out]
              have hn := Hn3.out
              simp [amtB] at hn
              exact Hout.out.snoc ((d0, d1, d2), d3) hn.1 (by show (lk O (d0, d1, d2)).getD 0 + d3 ≤ _; rw [Hz.out]; exact hs)
            · exact Chg.step (Hcq.out.alloc _) C2.out (fun x hx => .inr (by unfold S1 at hx; omega))
          · have hs2 : 1000000000000000 < z + d3 := by omega
            have hadd3 := fun W (hc : Chg S0 wr W) => add103_over (.iface t2 v2) wo.heap.size O (d0, d1, d2) d3 W (hc.cell (Hcq.out.cell HE2.out (fun h => h)) (fun h => h)) ⟨_, _, rfl⟩ (HO.out.chg hc (fun h => h)) HX.out Hn3.out (by rw [Hz.out]; exact hs2)
            have HA3 := Lib.hid hadd3
            clear hadd3
            go_wp2_with (go_at_call 103; refine (HA3.out _ ((Chg.refl _ _).alloc _)).mono ?_; rintro e w2 ⟨rfl, hc2⟩; have C2 := Lib.hid hc2; clear hc2)
            go_ret2
            obtain ⟨post, hpost⟩ := pairsOf_split D hjn
            refine ⟨Chg.step (Hcq.out.alloc _) C2.out (fun _ h => h.elim), .inr (.inl ⟨Hf.out, .inl ⟨(d0, d1, d2), ?_⟩, rfl⟩)⟩
            have hq : pairOf (D j) = ((d0, d1, d2), d3) := by rw [Hd.out]; rfl
            rw [hq] at hpost
            refine over_of (p := ((d0, d1, d2), d3)) (pre := []) (post := post) Hout.out (by rw [hpost]) (fun q hq => ?_) (by show _ < (lk O (d0, d1, d2)).getD 0 + d3; rw [Hz.out]; exact hs2)
            obtain ⟨i, hi, rfl⟩ := pairsOf_mem hq
            have := fits_amt (Hf.out i hi)
            simp [amtB] at this
            exact this.1
        · obtain rfl : j = k := by omega
          clear hjn hx
          have hnd := HO.out.nodup
          have hst : St0 (pairsOf D j) O := ⟨Hout.out, hnd⟩
          have Hst := Lib.hid hst
          clear hst hnd
          go_wp2
          obtain ⟨wf, hwf⟩ : ∃ wf : World, wf = wr := ⟨_, rfl⟩
          subst hwf
          have hF0 := CellsAt.new wf #[.func (.func 104) #[] #[], .func (.func 105) #[] #[], .func (.func 106) #[] #[]] 193
          go_loopw [8, 56] (fun s i wq => ∃ (c sb : Nat) (S : List (Grp × Int)), c ≤ 3 ∧ i = .int .i64 c ∧ s = .map (some sb) ∧ MapAt ek3 ekI wq sb S ∧ Stg l (pairsOf D j) c S ∧ Chg S0 w wq ∧ CellsAt wq wf.heap.size #[.func (.func 104) #[] #[], .func (.func 105) #[] #[], .func (.func 106) #[] #[]] 193) (fun _ i _ => 3 - (intOf i).toNat)
          case atStart => exact ⟨0, wo.heap.size, O, by decide, rfl, rfl, HO.out.alloc _, Hst.out, Hcq.out.alloc _, hF0⟩
          case round =>
            obtain ⟨c, sb, S, hc3, rfl, rfl, hMs, hS, hcr, hFn⟩ := hrel
            have f0 := hFn.cell 0
            have f1 := hFn.cell 1
            have f2 := hFn.cell 2
            simp only [List.getElem?_toArray, List.getElem?_cons_zero, List.getElem?_cons_succ] at f0 f1 f2
            have hfl := hFn.lt
            have hMl := hMs.lt
            have HMs := Lib.hid hMs
            have Hcr := Lib.hid hcr
            have HFn := Lib.hid hFn
            clear hMs hcr hFn hF0
            match c, hc3 with
            | 0, hi =>
              have hSA : ∀ q ∈ S, amtB q.2 = true := hS.1.2.1
              have HS := Lib.hid hS
              have hst := step104 (.iface t2 v2) tb m l sb S wr (Hcr.out.cell HE2.out (fun h => h)) ⟨_, _, rfl⟩ (HL.out.chg Hcr.out (fun h => h) (fun _ _ h => h)) HMs.out hSA
              have Hst3 := Lib.hid hst
              clear hst hSA hS
              go_wp2_with fail
              refine Hst3.out.mono ?_
              intro e w4 hpost
              rcases hpost with ⟨rfl, ⟨x, hx⟩, hc4⟩ | ⟨ob, O4, rfl, hM4, hO4, hob, hc4⟩
              · have C4 := Lib.hid (Chg.step Hcr.out hc4 (fun _ h => h.elim))
                clear hc4
                go_wp2_with fail
                go_ret2
                exact ⟨C4.out, .inr (.inl ⟨Hf.out, .inr (.inl ⟨S, x, HS.out, hx⟩), rfl⟩)⟩
              · have C4 := Lib.hid (Chg.step Hcr.out hc4 (fun _ h => h.elim))
                have F4 := Lib.hid (HFn.out.chg hc4 (fun h => h))
                have M4 := Lib.hid (show MapAt ek3 ekI w4 ob O4 ∧ Stg l (pairsOf D j) 1 O4 from ⟨hM4, ⟨S, HS.out, hO4, hM4.nodup⟩⟩)
                clear hc4 hM4 hO4 hob
                go_wp2_with fail
                exact ⟨⟨1, ob, O4, by decide, rfl, rfl, M4.out.1, M4.out.2, C4.out, F4.out⟩, by simp [intOf]⟩
            | 1, hi =>
              have hSA : ∀ q ∈ S, amtB q.2 = true := by obtain ⟨_, _, h, _⟩ := hS; exact h.2.1
              have HS := Lib.hid hS
              have hst := step105 (.iface t2 v2) tb m l sb S wr (Hcr.out.cell HE2.out (fun h => h)) ⟨_, _, rfl⟩ (HL.out.chg Hcr.out (fun h => h) (fun _ _ h => h)) HMs.out hSA
              have Hst3 := Lib.hid hst
              clear hst hSA hS
              go_wp2_with fail
              refine Hst3.out.mono ?_
              intro e w4 hpost
              rcases hpost with ⟨rfl, ⟨x, hx⟩, hc4⟩ | ⟨ob, O4, rfl, hM4, hO4, hob, hc4⟩
              · have C4 := Lib.hid (Chg.step Hcr.out hc4 (fun _ h => h.elim))
                clear hc4
                go_wp2_with fail
                go_ret2
                exact ⟨C4.out, .inr (.inl ⟨Hf.out, .inr (.inr (.inl ⟨S, x, HS.out, hx⟩)), rfl⟩)⟩
              · have C4 := Lib.hid (Chg.step Hcr.out hc4 (fun _ h => h.elim))
                have F4 := Lib.hid (HFn.out.chg hc4 (fun h => h))
                have M4 := Lib.hid (show MapAt ek3 ekI w4 ob O4 ∧ Stg l (pairsOf D j) 2 O4 from ⟨hM4, ⟨S, HS.out, hO4, hM4.nodup⟩⟩)
                clear hc4 hM4 hO4 hob
                go_wp2_with fail
                exact ⟨⟨2, ob, O4, by decide, rfl, rfl, M4.out.1, M4.out.2, C4.out, F4.out⟩, by simp [intOf]⟩
            | 2, hi =>
              have hSA : ∀ q ∈ S, amtB q.2 = true := by obtain ⟨_, _, h, _⟩ := hS; exact h.2.1
              have HS := Lib.hid hS
              have hst := step106 (.iface t2 v2) tb m l sb S wr (Hcr.out.cell HE2.out (fun h => h)) ⟨_, _, rfl⟩ (HL.out.chg Hcr.out (fun h => h) (fun _ _ h => h)) HMs.out hSA
              have Hst3 := Lib.hid hst
              clear hst hSA hS
              go_wp2_with fail
              refine Hst3.out.mono ?_
              intro e w4 hpost
              rcases hpost with ⟨rfl, ⟨x, hx⟩, hc4⟩ | ⟨ob, O4, rfl, hM4, hO4, hob, hc4⟩
              · have C4 := Lib.hid (Chg.step Hcr.out hc4 (fun _ h => h.elim))
                clear hc4
                go_wp2_with fail
                go_ret2
                exact ⟨C4.out, .inr (.inl ⟨Hf.out, .inr (.inr (.inr ⟨S, x, HS.out, hx⟩)), rfl⟩)⟩
              · have C4 := Lib.hid (Chg.step Hcr.out hc4 (fun _ h => h.elim))
                have F4 := Lib.hid (HFn.out.chg hc4 (fun h => h))
                have M4 := Lib.hid (show MapAt ek3 ekI w4 ob O4 ∧ Stg l (pairsOf D j) 3 O4 from ⟨hM4, ⟨S, HS.out, hO4, hM4.nodup⟩⟩)
                clear hc4 hM4 hO4 hob
                go_wp2_with fail
                exact ⟨⟨3, ob, O4, by decide, rfl, rfl, M4.out.1, M4.out.2, C4.out, F4.out⟩, by simp [intOf]⟩
            | 3, hi =>
              have HS := Lib.hid hS
              have hM := HMs.out
              obtain ⟨z, hz⟩ : ∃ z, (lk S (0, 0, 0)).getD 0 = z := ⟨_, rfl⟩
              have Hz := Lib.hid hz
              clear hS hz
              go_wp2_with (first | (at_lookup; refine wpList_lookupI rfl _ _ 189 rfl 192 2 key192 Tryd.underlying189 (zero2 _) sb S rfl hM (0, 0, 0) rfl ?_; rw [Hz.out]))
              go_ret2
              exact ⟨Hcr.out, .inr (.inr ⟨Hf.out, S, HS.out, by rw [Hz.out]; rfl⟩)⟩
end Go.Proofs.YtljlnojelagmfaaDoor

namespace Go.Proofs.YtljlnojelagmfaaDoor
open Go.Pl

theorem sumI_zero {α : Type} (l : List α) (f : α → Int) (h : ∀ a ∈ l, f a = 0) : sumI (l.map f) = 0 := by
  induction l with
  | nil => rfl
  | cons a l ih => rw [List.map_cons, sumI_cons, h a (by simp), ih (fun b hb => h b (by simp [hb]))]; rfl
theorem sumI_congr {α : Type} (l : List α) (f g : α → Int) (h : ∀ a ∈ l, f a = g a) : sumI (l.map f) = sumI (l.map g) := by
  rw [List.map_congr_left h]

theorem sum_at {R : List Grp} (hR : R.Nodup) (k : Grp) (a : Int) (f : Grp → Int) (hk : k ∈ R) (h0 : f k = 0) : sumI (R.map fun g => if k = g then a else f g) = a + sumI (R.map f) := by
  induction R with
  | nil => cases hk
  | cons g R ih =>
    rw [List.nodup_cons] at hR
    rw [List.map_cons, List.map_cons, sumI_cons, sumI_cons]
    by_cases e : k = g
    · subst e
      rw [if_pos rfl, h0]
      have : sumI (R.map fun g => if k = g then a else f g) = sumI (R.map f) := sumI_congr _ _ _ fun g hg => by
        rw [if_neg]
        intro e
        subst e
        exact hR.1 hg
      omega
    · rw [if_neg e]
      have hk' : k ∈ R := by
        rcases List.mem_cons.1 hk with h | h
        · exact absurd h e
        · exact h
      have := ih hR.2 hk'
      omega

/-- A sum over a map's list is one over keys. -/
theorem assocSum (h : Grp → Int → Int) (h0 : ∀ g, h g 0 = 0) {R : List Grp} (hR : R.Nodup) (O : List (Grp × Int)) (hn : (O.map (·.1)).Nodup) (hout : ∀ p ∈ O, p.1 ∉ R → h p.1 p.2 = 0) :
    sumI (O.map fun p => h p.1 p.2) = sumI (R.map fun g => h g ((lk O g).getD 0)) := by
  induction O with
  | nil =>
    rw [sumI_zero R _ (fun g _ => by simp [lk, h0])]
    rfl
  | cons p O ih =>
    rw [List.map_cons, List.nodup_cons] at hn
    have ih' := ih hn.2 (fun q hq => hout q (by simp [hq]))
    rw [List.map_cons, sumI_cons, ih']
    have hno : lk O p.1 = none := lk_none.2 fun q hq e => hn.1 (e ▸ List.mem_map_of_mem hq)
    have e1 : ∀ g, h g ((lk (p :: O) g).getD 0) = if p.1 = g then h p.1 p.2 else h g ((lk O g).getD 0) := by
      intro g
      by_cases e : p.1 = g
      · subst e; simp [lk]
      · rw [if_neg e]; simp [lk, e]
    simp only [e1]
    by_cases hp : p.1 ∈ R
    · rw [sum_at hR p.1 _ (fun g => h g ((lk O g).getD 0)) hp (by rw [hno]; simp [h0])]
    · rw [hout p (by simp) hp, sumI_congr R (fun g => if p.1 = g then 0 else h g ((lk O g).getD 0)) (fun g => h g ((lk O g).getD 0)) (fun g hg => by rw [if_neg (fun (e : p.1 = g) => hp (e ▸ hg))])]
      omega

theorem cameTo_eq (T : Grp → Grp) (h : Grp → Int → Int) (L : List (Grp × Int)) (x : Grp) : cameTo T h L x = sumI (L.map fun p => if T p.1 = x then h p.1 p.2 else 0) := by
  unfold cameTo
  induction L with
  | nil => rfl
  | cons p L ih =>
    rw [List.map_cons, sumI_cons, List.filter_cons]
    by_cases e : T p.1 = x
    · simp only [e, decide_true, if_true, List.map_cons, sumI_cons, ih]
    · simp only [e, decide_false, if_false, Bool.false_eq_true, ih]
      omega

/-- What comes to x out of a map, as a sum over keys. -/
theorem cameTo_keys (T : Grp → Grp) (h : Grp → Int → Int) (h0 : ∀ g, h g 0 = 0) {R : List Grp} (hR : R.Nodup) (O : List (Grp × Int)) (hn : (O.map (·.1)).Nodup) (x : Grp) (hout : ∀ p ∈ O, p.1 ∉ R → T p.1 = x → h p.1 p.2 = 0) :
    cameTo T h O x = sumI (R.map fun g => if T g = x then h g ((lk O g).getD 0) else 0) := by
  rw [cameTo_eq]
  exact assocSum (fun g n => if T g = x then h g n else 0) (fun g => by simp [h0]) hR O hn (fun p hp hr => by
    by_cases e : T p.1 = x
    · simp only [e, if_true]; exact hout p hp hr e
    · simp only [e, if_false])

/-- All that there is lies at g. -/
def Single (S : List (Grp × Int)) (g : Grp) (n : Int) : Prop := ∀ (T : Grp → Grp) (h : Grp → Int → Int), (∀ g, h g 0 = 0) → ∀ x, cameTo T h S x = if T g = x then h g n else 0
theorem single_of {T : Grp → Grp} {h : Grp → Int → Int} {S L : List (Grp × Int)} (ho : OutIs T h S L) (hn : (S.map (·.1)).Nodup) {g : Grp} {n : Int} (hs : ∀ x, cameTo T h L x = if g = x then n else 0) : Single S g n := by
  intro T' h' h0 x
  have hlk : ∀ k, (lk S k).getD 0 = if g = k then n else 0 := fun k => (ho.1 k).trans (hs k)
  rw [cameTo_keys T' h' h0 (R := [g]) (by simp) S hn x (fun p hp hr _ => by
    have : p.2 = 0 := by
      have h1 := hlk p.1
      rw [lk_of_mem hn hp, if_neg (fun e => hr (by simp [e]))] at h1
      simpa using h1
    rw [this, h0])]
  simp only [List.map_cons, List.map_nil, sumI_cons, sumI_nil, hlk, if_true]
  omega
theorem single_step {T : Grp → Grp} {h : Grp → Int → Int} {S R : List (Grp × Int)} (h0 : ∀ g, h g 0 = 0) (ho : OutIs T h S R) (hn : (S.map (·.1)).Nodup) {g : Grp} {n : Int} (hs : Single R g n) : Single S (T g) (h g n) :=
  single_of ho hn (fun x => hs T h h0 x)

/-- What counts of one group's amount. -/
def capG (l : List ((Int × Int) × Int)) (g : Grp) (n : Int) : Int := capV (gL l (1, g.1)) (capV (gL l (2, g.2.1)) (capV (gL l (3, g.2.2)) n))
theorem sum_single (l : List ((Int × Int) × Int)) (Lp : List (Grp × Int)) (g : Grp) (n : Int) (hs : ∀ x, cameTo sameG allN Lp x = if g = x then n else 0) (h1 : 0 ≤ n) (h2 : n ≤ 1000000000000000) :
    (∀ S, St3 l Lp S → (lk S (0, 0, 0)).getD 0 = capG l g n) ∧ ¬ OverP l Lp := by
  have z1 : ∀ g, hL1 l g 0 = 0 := fun g => capV_zero _
  have z2 : ∀ g, hL2 l g 0 = 0 := fun g => capV_zero _
  have z3 : ∀ g, hL3 l g 0 = 0 := fun g => capV_zero _
  have s0 : ∀ S, St0 Lp S → Single S g n := fun S h => single_of h.1 h.2 hs
  have s1 : ∀ S, St1 l Lp S → Single S (to1 g) (hL1 l g n) := fun S ⟨R, hR, ho, hn⟩ => single_step z1 ho hn (s0 R hR)
  have s2 : ∀ S, St2 l Lp S → Single S (to2 (to1 g)) (hL2 l (to1 g) (hL1 l g n)) := fun S ⟨R, hR, ho, hn⟩ => single_step z2 ho hn (s1 R hR)
  have b1 := capV_nonneg (lim := gL l (lim1 g)) h1
  have b2 := capV_nonneg (lim := gL l (lim2 (to1 g))) b1.1
  have b3 := capV_nonneg (lim := gL l (lim3 (to2 (to1 g)))) b2.1
  refine ⟨fun S ⟨R, hR, ho, _⟩ => ?_, fun ho => ?_⟩
  · rw [ho.1, s2 R hR to3 (hL3 l) z3]
    rfl
  · rcases ho with ⟨x, hx⟩ | ⟨R, x, hR, hx⟩ | ⟨R, x, hR, hx⟩ | ⟨R, x, hR, hx⟩
    · rw [hs] at hx
      split at hx <;> omega
    · rw [s0 R hR to1 (hL1 l) z1] at hx
      split at hx
      · simp only [hL1] at hx; omega
      · omega
    · rw [s1 R hR to2 (hL2 l) z2] at hx
      split at hx
      · simp only [hL2, hL1] at hx; omega
      · omega
    · rw [s2 R hR to3 (hL3 l) z3] at hx
      split at hx
      · simp only [hL3, hL2, hL1] at hx; omega
      · omega
end Go.Proofs.YtljlnojelagmfaaDoor

namespace Go.Proofs.YtljlnojelagmfaaDoor
open Go.RowKit Go.Pl Go.Shelf Go.Sort
set_option maxRecDepth 100000

set_option maxHeartbeats 1000000 in
/-- (*caps.Caps).All. -/
theorem capAll43 (tb : Nat) (m : Option Nat) (l : List ((Int × Int) × Int)) (w : World) (hL : TabAt 86 w tb m l) (hN : l.length ≤ 1000000) :
    Calls Tryd.prog 43 #[.pointer (some ⟨tb, 0, .none⟩)] w fun e w' => ∃ (v : Value) (ks : List (Int × Int)), e = .returned v ∧ SortedKeys89 w w' v l ks ∧ Chg S0 w w' := by
  have c0 := hL.cells.cell 0
  simp only [List.getElem?_toArray, List.getElem?_cons_zero] at c0
  have hlt := hL.cells.lt
  cases m with
  | none =>
    have hl : l = [] := hL.map
    subst hl
    have hs := sortedFunc108_nil w.heap.size (w.alloc (.cells #[.map none] 84)) (by simp)
    have H := Lib.hid hs
    clear hs
    go_enter Tryd.func43, Tryd.ntmps43
    go_wp2_with (first
      | (go_at_call 109; refine (mapsKeys109 _ _).mono ?_; rintro e w' ⟨rfl, rfl⟩)
      | (go_at_call 108; refine H.out.mono ?_; rintro e w' ⟨rfl, h4⟩))
    go_ret
    exact ⟨_, [], rfl, ⟨by simp, by simp, rfl, .inl ⟨rfl, rfl⟩⟩, Chg.step ((Chg.refl _ _).alloc _) h4 (fun k hk => hk.elim)⟩
  | some x =>
    have hM : MapAt ek2 ekI w x l := hL.map
    have hs := sortedFunc108 w.heap.size x l (w.alloc (.cells #[.map (some x)] 84)) (by simp) (hM.alloc _) hN
    have H := Lib.hid hs
    clear hs
    go_enter Tryd.func43, Tryd.ntmps43
    go_wp2_with (first
      | (go_at_call 109; refine (mapsKeys109 _ _).mono ?_; rintro e w' ⟨rfl, rfl⟩)
      | (go_at_call 108; refine H.out.mono ?_; rintro e w' ⟨v, ks, rfl, ⟨h1, h2, h3⟩, h4⟩))
    go_ret
    exact ⟨v, ks, rfl, ⟨h1, h2, ownsRow_base_a h3 (by simp)⟩, Chg.step ((Chg.refl _ _).alloc _) h4 (fun k hk => hk.elim)⟩

/-- Sum, of lines of one group. -/
theorem sum42_single (t0 t2 : TypeId) (v0 v2 : Value) (tb : Nat) (m : Option Nat) (l : List ((Int × Int) × Int)) (v : Value) (n : Nat) (D : Nat → Quad) (w : World) (hE0 : w.cell? ⟨0, 0, none⟩ = some (.iface t0 v0)) (hE2 : w.cell? ⟨2, 0, none⟩ = some (.iface t2 v2)) (hL : TabAt 86 w tb m l) (hD : DosAt w v n D) (hn : n ≤ 1000)
    (hf : ∀ j, j < n → fitsB (D j) = true) (g : Grp) (s : Int) (hs : ∀ x, cameTo sameG allN (pairsOf D n) x = if g = x then s else 0) (h1 : 0 ≤ s) (h2 : s ≤ 1000000000000000) :
    Calls Tryd.prog 42 #[.pointer (some ⟨tb, 0, .none⟩), v] w fun e w' => e = .returned (.tuple #[.int .i64 (capG l g s), .nilIface]) ∧ Chg S0 w w' := by
  obtain ⟨k1, k2⟩ := sum_single l (pairsOf D n) g s hs h1 h2
  refine (sum42 t0 t2 v0 v2 tb m l v n D w hE0 hE2 hL hD hn).mono fun e w' ⟨hc, h⟩ => ⟨?_, hc⟩
  rcases h with ⟨k, ab, hk, _, hb, _⟩ | ⟨_, ho, _⟩ | ⟨_, S, hS, rfl⟩
  · rw [hf k hk] at hb; cases hb
  · exact absurd ho k2
  · rw [k1 S hS]

theorem dos1 (w : World) (a b c d : Int) (t : TypeId) : DosAt (w.alloc (.cells #[.int .i64 a, .int .i64 b, .int .i64 c, .int .i64 d] t)) (.slice (some ⟨w.heap.size, 0, none⟩) 1 1) 1 (fun _ => (a, b, c, d)) := by
  refine ⟨_, 1, rfl, Nat.le_refl _, fun k hk => ⟨⟨w.heap.size, 0, none⟩, w.heap.size, 0, none, rfl, ?_, by simp, by simp, by simp, by simp⟩⟩
  obtain rfl : k = 0 := by omega
  simp [Addr.add]
theorem dos2 (w : World) (a b c d : Int) (t : TypeId) : DosAt (w.alloc (.cells #[.int .i64 a, .int .i64 b, .int .i64 c, .int .i64 d, .int .i64 a, .int .i64 b, .int .i64 c, .int .i64 d] t)) (.slice (some ⟨w.heap.size, 0, none⟩) 2 2) 2 (fun _ => (a, b, c, d)) := by
  refine ⟨_, 2, rfl, Nat.le_refl _, fun k hk => ?_⟩
  match k, hk with
  | 0, _ => exact ⟨⟨w.heap.size, 0, none⟩, w.heap.size, 0, none, rfl, by simp [Addr.add], by simp, by simp, by simp, by simp⟩
  | 1, _ => exact ⟨⟨w.heap.size, 0, none⟩, w.heap.size, 4, none, rfl, by simp [Addr.add], by simp, by simp, by simp, by simp⟩

theorem first40 (t0 t2 : TypeId) (v0 v2 : Value) (w : World) (hE0 : w.cell? ⟨0, 0, none⟩ = some (.iface t0 v0)) (hE2 : w.cell? ⟨2, 0, none⟩ = some (.iface t2 v2)) :
    Calls Tryd.prog 40 #[] w fun e w' => e = .returned (.bool true) ∧ Chg S0 w w' := by
  have hz2 := World.block_lt_of_cell? _ _ hE2
  have hset := capSet41 w.heap.size none 3 4 7 [] _ (TabAt.new 86 w) (by unfold LimOk mostV; decide) (by decide)
  have HS := Lib.hid hset
  have hL : tset [] (3, 4) 7 = [((3, 4), 7)] := by decide
  have HL := Lib.hid hL
  have HE0 := Lib.hid hE0
  have HE2 := Lib.hid hE2
  clear hset hL hE0 hE2
  go_enter Tryd.func40, Tryd.ntmps40
  go_wp2_with (go_at_call 41; refine HS.out.mono ?_; rintro e w1 ⟨rfl, m', hT1, hm1, hc1⟩; have hs1 := hc1.size; have HC1 := Lib.hid (Chg.step ((Chg.refl S0 w).alloc _) hc1 (fun k hk => by rcases hk with hk | hk; exact .inr (by omega); cases hk)); have HT1 := Lib.hid (HL.out ▸ hT1); clear hc1 hT1 hm1)
  have hW : Chg S0 w1 ((w1.alloc (.cells #[.int .i64 2, .int .i64 1, .int .i64 4, .int .i64 5] 91)).alloc (.cells #[.int .i64 2, .int .i64 1, .int .i64 4, .int .i64 5, .int .i64 2, .int .i64 1, .int .i64 4, .int .i64 5] 91)) := ((Chg.refl _ _).alloc _).alloc _
  have hd := dos2 (w1.alloc (.cells #[.int .i64 2, .int .i64 1, .int .i64 4, .int .i64 5] 91)) 2 1 4 5 91
  simp only [World.size_alloc] at hd
  have hsum := sum42_single t0 t2 v0 v2 w.heap.size (some m') [((3, 4), 7)] _ 2 (fun _ => (2, 1, 4, 5)) _ (hW.cell (HC1.out.cell HE0.out (fun h => h)) (fun h => h)) (hW.cell (HC1.out.cell HE2.out (fun h => h)) (fun h => h)) (HT1.out.chg hW (fun h => h) (fun _ _ h => h)) hd (by decide) (fun _ _ => by decide) (2, 1, 4) 10
    (fun x => by by_cases e : (2, 1, 4) = x <;> simp [cameTo, pairsOf, pairOf, sameG, allN, List.range_succ, e, sumI]) (by decide) (by decide)
  have hv : capG [((3, 4), 7)] (2, 1, 4) 10 = 7 := by decide
  rw [hv] at hsum
  have HSum := Lib.hid hsum
  have HW := Lib.hid hW
  clear hsum hd hv hW
  go_wp2_with (go_at_call 42; refine HSum.out.mono ?_; rintro e w2 ⟨rfl, hc2⟩)
  go_ret
  exact ⟨rfl, Chg.step (Chg.step HC1.out HW.out (fun _ h => h.elim)) hc2 (fun _ h => h.elim)⟩
end Go.Proofs.YtljlnojelagmfaaDoor
