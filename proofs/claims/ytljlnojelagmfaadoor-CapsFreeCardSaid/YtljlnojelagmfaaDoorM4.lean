/-
  caps: step. (Chapter 16. Printed for each of the three by wip/gen_step.py.)
-/
import Derived.Test.YtljlnojelagmfaaDoorM3
import Derived.Deep.RegionHeld3
namespace Go.Proofs.YtljlnojelagmfaaDoor
open Go.RowKit Go.Pl
set_option maxRecDepth 100000

theorem _root_.Go.Pl.OutIs.perm {T : Grp → Grp} {h : Grp → Int → Int} {O L M : List (Grp × Int)} (ho : OutIs T h O L) (hp : L.Perm M) : OutIs T h O M :=
  ⟨fun x => (ho.1 x).trans (cameTo_perm hp x), ho.2.1, fun p hp' => by obtain ⟨q, hq, e⟩ := ho.2.2 p hp'; exact ⟨q, hp.mem_iff.1 hq, e⟩⟩
theorem _root_.Go.Pl.OutIs.amt {T : Grp → Grp} {h : Grp → Int → Int} {O L : List (Grp × Int)} (ho : OutIs T h O L) (g : Grp) : amtB ((lk O g).getD 0) = true := by
  cases hk : lk O g with
  | none => rfl
  | some y => exact ho.2.1 _ (mem_of_lk hk)

theorem add103_ok (er : Value) (b : Nat) (O : List (Grp × Int)) (g : Grp) (n : Int) (w : World) (hE : w.cell? ⟨2, 0, none⟩ = some er) (hne : ∃ t v, er = .iface t v) (hM : MapAt ek3 ekI w b O) (hx : amtB ((lk O g).getD 0) = true) (hn : amtB n = true) (hs : (lk O g).getD 0 + n ≤ 1000000000000000) :
    Calls Tryd.prog 103 #[.map (some b), ek3 g, .int .i64 n] w fun e w' => e = .returned .nilIface ∧ MapAt ek3 ekI w' b (put O g ((lk O g).getD 0 + n)) ∧ Chg (S1 b) w w' :=
  (add103 er b O g n w hE hne hM hx hn).mono fun e w' h => by
    rcases h with ⟨_, h⟩ | ⟨h, _⟩
    · exact h
    · omega
theorem add103_over (er : Value) (b : Nat) (O : List (Grp × Int)) (g : Grp) (n : Int) (w : World) (hE : w.cell? ⟨2, 0, none⟩ = some er) (hne : ∃ t v, er = .iface t v) (hM : MapAt ek3 ekI w b O) (hx : amtB ((lk O g).getD 0) = true) (hn : amtB n = true) (hs : 1000000000000000 < (lk O g).getD 0 + n) :
    Calls Tryd.prog 103 #[.map (some b), ek3 g, .int .i64 n] w fun e w' => e = .returned er ∧ Chg S0 w w' :=
  (add103 er b O g n w hE hne hM hx hn).mono fun e w' h => by
    rcases h with ⟨h, _⟩ | ⟨_, h⟩
    · omega
    · exact h

/-- What step comes to. -/
def StepPost (T : Grp → Grp) (h : Grp → Int → Int) (L : List (Grp × Int)) (er : Value) (w : World) (e : Ending) (w' : World) : Prop :=
  (e = .returned (.tuple #[.map none, er]) ∧ (∃ x, 1000000000000000 < cameTo T h L x) ∧ Chg S0 w w') ∨
  ∃ ob O, e = .returned (.tuple #[.map (some ob), .nilIface]) ∧ MapAt ek3 ekI w' ob O ∧ OutIs T h O L ∧ w.heap.size ≤ ob ∧ Chg S0 w w'

theorem amt_cap {lim n : Int} (h : amtB n = true) : amtB (capV lim n) = true := by
  simp [amtB] at h
  have := capV_nonneg (lim := lim) h.1
  simp [amtB]
  omega

theorem over_of {T : Grp → Grp} {h : Grp → Int → Int} {O L done pre post : List (Grp × Int)} {p : Grp × Int} (ho : OutIs T h O done) (hp : (done ++ (pre ++ p :: post)).Perm L) (hh : ∀ p ∈ L, 0 ≤ h p.1 p.2) (hs : 1000000000000000 < (lk O (T p.1)).getD 0 + h p.1 p.2) :
    1000000000000000 < cameTo T h L (T p.1) := by
  have hp' : ((done ++ [p]) ++ (pre ++ post)).Perm L := by
    refine List.Perm.trans ?_ hp
    rw [List.append_assoc]
    exact List.Perm.append_left done (by simpa using (List.perm_middle (a := p) (l₁ := pre) (l₂ := post)).symm)
  rw [← cameTo_perm hp', cameTo_append, cameTo_snoc, if_pos rfl, ← ho.1]
  have : 0 ≤ cameTo T h (pre ++ post) (T p.1) := cameTo_nonneg (fun q hq => hh q (hp'.mem_iff.1 (by simp only [List.mem_append] at *; right; exact hq))) _
  omega


set_option maxHeartbeats 8000000 in
theorem step104 (er : Value) (tb : Nat) (m : Option Nat) (l : List ((Int × Int) × Int)) (b : Nat) (L : List (Grp × Int)) (w : World) (hE : w.cell? ⟨2, 0, none⟩ = some er) (hne : ∃ t v, er = .iface t v) (hL : TabAt 86 w tb m l) (hM : MapAt ek3 ekI w b L) (hA : ∀ p ∈ L, amtB p.2 = true) :
    Calls Tryd.prog 107 #[.pointer (some ⟨tb, 0, .none⟩), .map (some b), .func (.func 104) #[] #[]] w fun e w' => StepPost to1 (fun g n => capV (gL l (lim1 g)) n) L er w e w' := by
  have hlb := hM.lt
  have hltb := hL.cells.lt
  have hz := World.block_lt_of_cell? _ _ hE
  have hmm := @run_makeMap Tryd.prog
  have hO0 := MapAt.new ek3 ekI w
  have HE := Lib.hid hE
  have HL := Lib.hid hL
  have HA := Lib.hid hA
  have hM1 := hM.alloc (.map #[] 0)
  have HM := Lib.hid hM
  clear hE hL hA hM
  go_enter Tryd.func107, Tryd.ntmps107
  go_wp2_with (first
    | (at_range; refine wpList_range rfl _ 189 rfl 192 2 Tryd.underlying189 b L rfl hM1 ?_; intro w0 hrg0 hg0 hs0))
  have hO1 : MapAt ek3 ekI w0 w.heap.size [] := hO0.chg hg0 (fun h => h)
  have hc0 : Chg S0 w w0 := Chg.step ((Chg.refl _ _).alloc _) hg0 (fun _ h => h.elim)
  simp only [World.size_alloc] at hrg0 hs0
  have hb0 : w.heap.size < w0.heap.size := by omega
  have HG := Lib.hid hO1
  have HR := Lib.hid hrg0
  have HC := Lib.hid hc0
  clear hO0 hO1 hrg0 hc0 hg0 hM1 hs0
  go_loopw [17] (fun _ wr => ∃ (left done O : List (Grp × Int)), IterAt ek3 ekI wr b (w.heap.size + 1) L left ∧ (done ++ left).Perm L ∧ MapAt ek3 ekI wr w.heap.size O ∧ OutIs to1 (fun g n => capV (gL l (lim1 g)) n) O done ∧ Chg S0 w wr) (fun _ wr => wr.rangeLeft b (w.heap.size + 1))
  case atStart => exact ⟨L, [], [], HR.out, by simp, HG.out, OutIs.nil _ _, HC.out⟩
  case round =>
    obtain ⟨left, done, O, hI, hP, hO, hOut, hc⟩ := hrel
    have HI := Lib.hid hI
    have HP := Lib.hid hP
    have HO := Lib.hid hO
    have Hout := Lib.hid hOut
    have Hc := Lib.hid hc
    clear hP hO hOut hc
    go_wp2_with (first
      | (at_next; refine wpList_next rfl _ rfl b (w.heap.size + 1) L left rfl hI ?_ ?_))
    · intro h0
      subst h0
      clear hI
      go_wp2
      go_ret2
      refine .inr ⟨_, O, rfl, HO.out, Hout.out.perm (by simpa using HP.out), Nat.le_refl _, Hc.out⟩
    · intro pre p1 p2 p3 n post w2 hleft hI2 hc2 hs2 hen
      clear hI
      unfold ek3 ekI at hen
      subst hleft
      have hmem : ((p1, p2, p3), n) ∈ L := HP.out.mem_iff.1 (by simp)
      have hn : amtB n = true := HA.out _ hmem
      have hcn : amtB (capV (gL l (3, p3)) n) = true := amt_cap hn
      have hx := Hout.out.amt (p1, p2, 0)
      obtain ⟨z, hz0⟩ : ∃ z, (lk O (p1, p2, 0)).getD 0 = z := ⟨_, rfl⟩
      obtain ⟨cv, hcv⟩ : ∃ cv, capV (gL l (3, p3)) n = cv := ⟨_, rfl⟩
      have hnn : ∀ q ∈ L, 0 ≤ capV (gL l (lim1 q.1)) q.2 := fun q hq => by have := HA.out q hq; simp [amtB] at this; exact (capV_nonneg this.1).1
      have Hcw2 : Hid (Chg S0 w w2) := Lib.hid (Chg.step Hc.out hc2 (fun k hk => .inr (by unfold S1 at hk; omega)))
      have HI2 := Lib.hid hI2
      have HO2 : Hid (MapAt ek3 ekI w2 w.heap.size O) := Lib.hid (HO.out.chg hc2 (by unfold S1; omega))
      have HNN := Lib.hid hnn
      have HN := Lib.hid hcn
      have HX := Lib.hid hx
      have Hcv := Lib.hid hcv
      have Hz0 := Lib.hid hz0
      clear hI2 hc2 hs2 hmem hn hcn hx hnn hcv hz0
      have hto : ∀ W, Calls Tryd.prog 104 #[.agg #[.int .i64 p1, .int .i64 p2, .int .i64 p3]] W fun e w' => e = .returned (.tuple #[.agg #[.int .i64 3, .int .i64 p3], .agg #[.int .i64 p1, .int .i64 p2, .int .i64 0]]) ∧ Chg S0 W w' := fun W => to104 (p1, p2, p3) W
      have HTo := Lib.hid hto
      clear hto
      go_wp2_with fail
      refine (HTo.out _).mono ?_
      rintro e w3 ⟨rfl, hc3⟩
      have Hcw3 : Hid (Chg S0 w2 w3) := Lib.hid (Chg.step ((Chg.refl _ _).alloc _) hc3 (fun _ h => h.elim))
      clear hc3
      go_wp2_with fail
      have hW0 : CellsAt ((w3.alloc (.cells #[.int .i64 3, .int .i64 p3] 89)).alloc (.cells #[.int .i64 p1, .int .i64 p2, .int .i64 0] 192)).drew w3.heap.size #[.int .i64 3, .int .i64 p3] 89 := ((CellsAt.new w3 _ _).alloc _).drew
      have hW1 : CellsAt ((w3.alloc (.cells #[.int .i64 3, .int .i64 p3] 89)).alloc (.cells #[.int .i64 p1, .int .i64 p2, .int .i64 0] 192)).drew (w3.heap.size + 1) #[.int .i64 p1, .int .i64 p2, .int .i64 0] 192 := by have := CellsAt.new (w3.alloc (.cells #[.int .i64 3, .int .i64 p3] 89)) #[.int .i64 p1, .int .i64 p2, .int .i64 0] 192; simp only [World.size_alloc] at this; exact this.drew
      have hWc : Chg S0 w3 ((w3.alloc (.cells #[.int .i64 3, .int .i64 p3] 89)).alloc (.cells #[.int .i64 p1, .int .i64 p2, .int .i64 0] 192)).drew := (((Chg.refl _ _).alloc _).alloc _).drew
      have hz3 : w.heap.size < w3.heap.size := Nat.lt_of_lt_of_le HO2.out.lt Hcw3.out.size
      have HW0 := Lib.hid hW0
      have HW1 := Lib.hid hW1
      have HWc := Lib.hid hWc
      clear hW0 hW1 hWc
      by_cases hs : z + cv ≤ 1000000000000000
      · go_region_held3 (fun w' => w'.cell? ⟨w3.heap.size, 0, none⟩ = some (.int .i64 3) ∧ w'.cell? ⟨w3.heap.size, 1, none⟩ = some (.int .i64 p3) ∧ w'.cell? ⟨w3.heap.size + 1, 0, none⟩ = some (.int .i64 p1) ∧ w'.cell? ⟨w3.heap.size + 1, 1, none⟩ = some (.int .i64 p2) ∧ w'.cell? ⟨w3.heap.size + 1, 2, none⟩ = some (.int .i64 0)) (go_keep)
          (first
          | (go_at_call 158; refine (capped158 tb m 3 p3 n l _ (((HL.out.chg Hcw2.out (fun h => h) (fun _ _ h => h)).chg Hcw3.out (fun h => h) (fun _ _ h => h)).chg HWc.out (fun h => h) (fun _ _ h => h))).mono ?_; rintro e w4 ⟨rfl, hc4⟩; rw [Hcv.out]; have y0 := hc4.cell (b := w3.heap.size) (o := 0) (v := .int .i64 3) (by simp) (fun h => h); have y1 := hc4.cell (b := w3.heap.size) (o := 1) (v := .int .i64 p3) (by simp) (fun h => h); have y2 := hc4.cell (b := (w3.heap.size + 1)) (o := 0) (v := .int .i64 p1) (by simp) (fun h => h); have y3 := hc4.cell (b := (w3.heap.size + 1)) (o := 1) (v := .int .i64 p2) (by simp) (fun h => h); have y4 := hc4.cell (b := (w3.heap.size + 1)) (o := 2) (v := .int .i64 0) (by simp) (fun h => h); have C4 := Lib.hid (Chg.step HWc.out hc4 (fun _ h => h.elim)); clear hc4)
          | (go_at_call 103; refine (add103_ok er w.heap.size O (p1, p2, 0) cv _ (C4.out.cell (Hcw3.out.cell (Hcw2.out.cell HE.out (fun h => h)) (fun h => h)) (fun h => h)) hne ((HO2.out.chg Hcw3.out (fun h => h)).chg C4.out (fun h => h)) HX.out (by rw [← Hcv.out]; exact HN.out) (by rw [Hz0.out]; exact hs)).mono ?_; rintro e w5 ⟨rfl, hM5, hc5⟩; have hn1 : ¬ S1 w.heap.size w3.heap.size := (by unfold S1; omega); have hn2 : ¬ S1 w.heap.size (w3.heap.size + 1) := (by unfold S1; omega); have u0 := hc5.cell y0 hn1; have u1 := hc5.cell y1 hn1; have u2 := hc5.cell y2 hn2; have u3 := hc5.cell y3 hn2; have u4 := hc5.cell y4 hn2; have C5 := Lib.hid hc5; have M5 := Lib.hid hM5; clear hc5 hM5))
        go_wp2_with fail
        have cI : IterAt ek3 ekI w5 b (w.heap.size + 1) L (pre ++ post) := ((HI2.out.chg Hcw3.out (fun h => h) (fun h => h)).chg C4.out (fun h => h) (fun h => h)).chg C5.out (by unfold S1; omega) (by unfold S1; omega)
        refine ⟨⟨pre ++ post, done ++ [((p1, p2, p3), n)], _, cI, ?_, M5.out, ?_, ?_⟩, ?_⟩
        · refine List.Perm.trans ?_ HP.out
          rw [List.append_assoc]
          exact List.Perm.append_left done (by simpa using (List.perm_middle (a := ((p1, p2, p3), n)) (l₁ := pre) (l₂ := post)).symm)
        · have := Hout.out.snoc ((p1, p2, p3), n) (HNN.out _ (HP.out.mem_iff.1 (by simp))) (by show (lk O (p1, p2, 0)).getD 0 + capV (gL l (3, p3)) n ≤ _; rw [Hz0.out, Hcv.out]; exact hs)
          have e2 : capV (gL l (lim1 (p1, p2, p3))) n = cv := Hcv.out
          simp only [e2] at this
          exact this
        · exact Chg.step (Chg.step (Chg.step Hcw2.out Hcw3.out (fun _ h => h.elim)) C4.out (fun _ h => h.elim)) C5.out (fun k hk => .inr (by unfold S1 at hk; omega))
        · rw [cI.left_eq, HI.out.left_eq]; simp
      · have hs2 : 1000000000000000 < z + cv := by omega
        obtain ⟨et, ev, rfl⟩ := hne
        go_region_held3 (fun w' => w'.cell? ⟨w3.heap.size, 0, none⟩ = some (.int .i64 3) ∧ w'.cell? ⟨w3.heap.size, 1, none⟩ = some (.int .i64 p3) ∧ w'.cell? ⟨w3.heap.size + 1, 0, none⟩ = some (.int .i64 p1) ∧ w'.cell? ⟨w3.heap.size + 1, 1, none⟩ = some (.int .i64 p2) ∧ w'.cell? ⟨w3.heap.size + 1, 2, none⟩ = some (.int .i64 0)) (go_keep)
          (first
          | (go_at_call 158; refine (capped158 tb m 3 p3 n l _ (((HL.out.chg Hcw2.out (fun h => h) (fun _ _ h => h)).chg Hcw3.out (fun h => h) (fun _ _ h => h)).chg HWc.out (fun h => h) (fun _ _ h => h))).mono ?_; rintro e w4 ⟨rfl, hc4⟩; rw [Hcv.out]; have y0 := hc4.cell (b := w3.heap.size) (o := 0) (v := .int .i64 3) (by simp) (fun h => h); have y1 := hc4.cell (b := w3.heap.size) (o := 1) (v := .int .i64 p3) (by simp) (fun h => h); have y2 := hc4.cell (b := (w3.heap.size + 1)) (o := 0) (v := .int .i64 p1) (by simp) (fun h => h); have y3 := hc4.cell (b := (w3.heap.size + 1)) (o := 1) (v := .int .i64 p2) (by simp) (fun h => h); have y4 := hc4.cell (b := (w3.heap.size + 1)) (o := 2) (v := .int .i64 0) (by simp) (fun h => h); have C4 := Lib.hid (Chg.step HWc.out hc4 (fun _ h => h.elim)); clear hc4)
          | (go_at_call 103; refine (add103_over (.iface et ev) w.heap.size O (p1, p2, 0) cv _ (C4.out.cell (Hcw3.out.cell (Hcw2.out.cell HE.out (fun h => h)) (fun h => h)) (fun h => h)) ⟨et, ev, rfl⟩ ((HO2.out.chg Hcw3.out (fun h => h)).chg C4.out (fun h => h)) HX.out (by rw [← Hcv.out]; exact HN.out) (by rw [Hz0.out]; exact hs2)).mono ?_; rintro e w5 ⟨rfl, hc5⟩; have u0 := hc5.cell y0 (fun h => h); have u1 := hc5.cell y1 (fun h => h); have u2 := hc5.cell y2 (fun h => h); have u3 := hc5.cell y3 (fun h => h); have u4 := hc5.cell y4 (fun h => h); have C5 := Lib.hid hc5; clear hc5))
        go_wp2_with fail
        go_ret2
        refine .inl ⟨rfl, ⟨to1 (p1, p2, p3), over_of (p := ((p1, p2, p3), n)) Hout.out HP.out HNN.out ?_⟩, Chg.step (Chg.step (Chg.step Hcw2.out Hcw3.out (fun _ h => h.elim)) C4.out (fun _ h => h.elim)) C5.out (fun _ h => h.elim)⟩
        show _ < (lk O (p1, p2, 0)).getD 0 + capV (gL l (3, p3)) n
        rw [Hz0.out, Hcv.out]
        exact hs2


set_option maxHeartbeats 8000000 in
theorem step105 (er : Value) (tb : Nat) (m : Option Nat) (l : List ((Int × Int) × Int)) (b : Nat) (L : List (Grp × Int)) (w : World) (hE : w.cell? ⟨2, 0, none⟩ = some er) (hne : ∃ t v, er = .iface t v) (hL : TabAt 86 w tb m l) (hM : MapAt ek3 ekI w b L) (hA : ∀ p ∈ L, amtB p.2 = true) :
    Calls Tryd.prog 107 #[.pointer (some ⟨tb, 0, .none⟩), .map (some b), .func (.func 105) #[] #[]] w fun e w' => StepPost to2 (fun g n => capV (gL l (lim2 g)) n) L er w e w' := by
  have hlb := hM.lt
  have hltb := hL.cells.lt
  have hz := World.block_lt_of_cell? _ _ hE
  have hmm := @run_makeMap Tryd.prog
  have hO0 := MapAt.new ek3 ekI w
  have HE := Lib.hid hE
  have HL := Lib.hid hL
  have HA := Lib.hid hA
  have hM1 := hM.alloc (.map #[] 0)
  have HM := Lib.hid hM
  clear hE hL hA hM
  go_enter Tryd.func107, Tryd.ntmps107
  go_wp2_with (first
    | (at_range; refine wpList_range rfl _ 189 rfl 192 2 Tryd.underlying189 b L rfl hM1 ?_; intro w0 hrg0 hg0 hs0))
  have hO1 : MapAt ek3 ekI w0 w.heap.size [] := hO0.chg hg0 (fun h => h)
  have hc0 : Chg S0 w w0 := Chg.step ((Chg.refl _ _).alloc _) hg0 (fun _ h => h.elim)
  simp only [World.size_alloc] at hrg0 hs0
  have hb0 : w.heap.size < w0.heap.size := by omega
  have HG := Lib.hid hO1
  have HR := Lib.hid hrg0
  have HC := Lib.hid hc0
  clear hO0 hO1 hrg0 hc0 hg0 hM1 hs0
  go_loopw [17] (fun _ wr => ∃ (left done O : List (Grp × Int)), IterAt ek3 ekI wr b (w.heap.size + 1) L left ∧ (done ++ left).Perm L ∧ MapAt ek3 ekI wr w.heap.size O ∧ OutIs to2 (fun g n => capV (gL l (lim2 g)) n) O done ∧ Chg S0 w wr) (fun _ wr => wr.rangeLeft b (w.heap.size + 1))
  case atStart => exact ⟨L, [], [], HR.out, by simp, HG.out, OutIs.nil _ _, HC.out⟩
  case round =>
    obtain ⟨left, done, O, hI, hP, hO, hOut, hc⟩ := hrel
    have HI := Lib.hid hI
    have HP := Lib.hid hP
    have HO := Lib.hid hO
    have Hout := Lib.hid hOut
    have Hc := Lib.hid hc
    clear hP hO hOut hc
    go_wp2_with (first
      | (at_next; refine wpList_next rfl _ rfl b (w.heap.size + 1) L left rfl hI ?_ ?_))
    · intro h0
      subst h0
      clear hI
      go_wp2
      go_ret2
      refine .inr ⟨_, O, rfl, HO.out, Hout.out.perm (by simpa using HP.out), Nat.le_refl _, Hc.out⟩
    · intro pre p1 p2 p3 n post w2 hleft hI2 hc2 hs2 hen
      clear hI
      unfold ek3 ekI at hen
      subst hleft
      have hmem : ((p1, p2, p3), n) ∈ L := HP.out.mem_iff.1 (by simp)
      have hn : amtB n = true := HA.out _ hmem
      have hcn : amtB (capV (gL l (2, p2)) n) = true := amt_cap hn
      have hx := Hout.out.amt (p1, 0, 0)
      obtain ⟨z, hz0⟩ : ∃ z, (lk O (p1, 0, 0)).getD 0 = z := ⟨_, rfl⟩
      obtain ⟨cv, hcv⟩ : ∃ cv, capV (gL l (2, p2)) n = cv := ⟨_, rfl⟩
      have hnn : ∀ q ∈ L, 0 ≤ capV (gL l (lim2 q.1)) q.2 := fun q hq => by have := HA.out q hq; simp [amtB] at this; exact (capV_nonneg this.1).1
      have Hcw2 : Hid (Chg S0 w w2) := Lib.hid (Chg.step Hc.out hc2 (fun k hk => .inr (by unfold S1 at hk; omega)))
      have HI2 := Lib.hid hI2
      have HO2 : Hid (MapAt ek3 ekI w2 w.heap.size O) := Lib.hid (HO.out.chg hc2 (by unfold S1; omega))
      have HNN := Lib.hid hnn
      have HN := Lib.hid hcn
      have HX := Lib.hid hx
      have Hcv := Lib.hid hcv
      have Hz0 := Lib.hid hz0
      clear hI2 hc2 hs2 hmem hn hcn hx hnn hcv hz0
      have hto : ∀ W, Calls Tryd.prog 105 #[.agg #[.int .i64 p1, .int .i64 p2, .int .i64 p3]] W fun e w' => e = .returned (.tuple #[.agg #[.int .i64 2, .int .i64 p2], .agg #[.int .i64 p1, .int .i64 0, .int .i64 0]]) ∧ Chg S0 W w' := fun W => to105 (p1, p2, p3) W
      have HTo := Lib.hid hto
      clear hto
      go_wp2_with fail
      refine (HTo.out _).mono ?_
      rintro e w3 ⟨rfl, hc3⟩
      have Hcw3 : Hid (Chg S0 w2 w3) := Lib.hid (Chg.step ((Chg.refl _ _).alloc _) hc3 (fun _ h => h.elim))
      clear hc3
      go_wp2_with fail
      have hW0 : CellsAt ((w3.alloc (.cells #[.int .i64 2, .int .i64 p2] 89)).alloc (.cells #[.int .i64 p1, .int .i64 0, .int .i64 0] 192)).drew w3.heap.size #[.int .i64 2, .int .i64 p2] 89 := ((CellsAt.new w3 _ _).alloc _).drew
      have hW1 : CellsAt ((w3.alloc (.cells #[.int .i64 2, .int .i64 p2] 89)).alloc (.cells #[.int .i64 p1, .int .i64 0, .int .i64 0] 192)).drew (w3.heap.size + 1) #[.int .i64 p1, .int .i64 0, .int .i64 0] 192 := by have := CellsAt.new (w3.alloc (.cells #[.int .i64 2, .int .i64 p2] 89)) #[.int .i64 p1, .int .i64 0, .int .i64 0] 192; simp only [World.size_alloc] at this; exact this.drew
      have hWc : Chg S0 w3 ((w3.alloc (.cells #[.int .i64 2, .int .i64 p2] 89)).alloc (.cells #[.int .i64 p1, .int .i64 0, .int .i64 0] 192)).drew := (((Chg.refl _ _).alloc _).alloc _).drew
      have hz3 : w.heap.size < w3.heap.size := Nat.lt_of_lt_of_le HO2.out.lt Hcw3.out.size
      have HW0 := Lib.hid hW0
      have HW1 := Lib.hid hW1
      have HWc := Lib.hid hWc
      clear hW0 hW1 hWc
      by_cases hs : z + cv ≤ 1000000000000000
      · go_region_held3 (fun w' => w'.cell? ⟨w3.heap.size, 0, none⟩ = some (.int .i64 2) ∧ w'.cell? ⟨w3.heap.size, 1, none⟩ = some (.int .i64 p2) ∧ w'.cell? ⟨w3.heap.size + 1, 0, none⟩ = some (.int .i64 p1) ∧ w'.cell? ⟨w3.heap.size + 1, 1, none⟩ = some (.int .i64 0) ∧ w'.cell? ⟨w3.heap.size + 1, 2, none⟩ = some (.int .i64 0)) (go_keep)
          (first
          | (go_at_call 158; refine (capped158 tb m 2 p2 n l _ (((HL.out.chg Hcw2.out (fun h => h) (fun _ _ h => h)).chg Hcw3.out (fun h => h) (fun _ _ h => h)).chg HWc.out (fun h => h) (fun _ _ h => h))).mono ?_; rintro e w4 ⟨rfl, hc4⟩; rw [Hcv.out]; have y0 := hc4.cell (b := w3.heap.size) (o := 0) (v := .int .i64 2) (by simp) (fun h => h); have y1 := hc4.cell (b := w3.heap.size) (o := 1) (v := .int .i64 p2) (by simp) (fun h => h); have y2 := hc4.cell (b := (w3.heap.size + 1)) (o := 0) (v := .int .i64 p1) (by simp) (fun h => h); have y3 := hc4.cell (b := (w3.heap.size + 1)) (o := 1) (v := .int .i64 0) (by simp) (fun h => h); have y4 := hc4.cell (b := (w3.heap.size + 1)) (o := 2) (v := .int .i64 0) (by simp) (fun h => h); have C4 := Lib.hid (Chg.step HWc.out hc4 (fun _ h => h.elim)); clear hc4)
          | (go_at_call 103; refine (add103_ok er w.heap.size O (p1, 0, 0) cv _ (C4.out.cell (Hcw3.out.cell (Hcw2.out.cell HE.out (fun h => h)) (fun h => h)) (fun h => h)) hne ((HO2.out.chg Hcw3.out (fun h => h)).chg C4.out (fun h => h)) HX.out (by rw [← Hcv.out]; exact HN.out) (by rw [Hz0.out]; exact hs)).mono ?_; rintro e w5 ⟨rfl, hM5, hc5⟩; have hn1 : ¬ S1 w.heap.size w3.heap.size := (by unfold S1; omega); have hn2 : ¬ S1 w.heap.size (w3.heap.size + 1) := (by unfold S1; omega); have u0 := hc5.cell y0 hn1; have u1 := hc5.cell y1 hn1; have u2 := hc5.cell y2 hn2; have u3 := hc5.cell y3 hn2; have u4 := hc5.cell y4 hn2; have C5 := Lib.hid hc5; have M5 := Lib.hid hM5; clear hc5 hM5))
        go_wp2_with fail
        have cI : IterAt ek3 ekI w5 b (w.heap.size + 1) L (pre ++ post) := ((HI2.out.chg Hcw3.out (fun h => h) (fun h => h)).chg C4.out (fun h => h) (fun h => h)).chg C5.out (by unfold S1; omega) (by unfold S1; omega)
        refine ⟨⟨pre ++ post, done ++ [((p1, p2, p3), n)], _, cI, ?_, M5.out, ?_, ?_⟩, ?_⟩
        · refine List.Perm.trans ?_ HP.out
          rw [List.append_assoc]
          exact List.Perm.append_left done (by simpa using (List.perm_middle (a := ((p1, p2, p3), n)) (l₁ := pre) (l₂ := post)).symm)
        · have := Hout.out.snoc ((p1, p2, p3), n) (HNN.out _ (HP.out.mem_iff.1 (by simp))) (by show (lk O (p1, 0, 0)).getD 0 + capV (gL l (2, p2)) n ≤ _; rw [Hz0.out, Hcv.out]; exact hs)
          have e2 : capV (gL l (lim2 (p1, p2, p3))) n = cv := Hcv.out
          simp only [e2] at this
          exact this
        · exact Chg.step (Chg.step (Chg.step Hcw2.out Hcw3.out (fun _ h => h.elim)) C4.out (fun _ h => h.elim)) C5.out (fun k hk => .inr (by unfold S1 at hk; omega))
        · rw [cI.left_eq, HI.out.left_eq]; simp
      · have hs2 : 1000000000000000 < z + cv := by omega
        obtain ⟨et, ev, rfl⟩ := hne
        go_region_held3 (fun w' => w'.cell? ⟨w3.heap.size, 0, none⟩ = some (.int .i64 2) ∧ w'.cell? ⟨w3.heap.size, 1, none⟩ = some (.int .i64 p2) ∧ w'.cell? ⟨w3.heap.size + 1, 0, none⟩ = some (.int .i64 p1) ∧ w'.cell? ⟨w3.heap.size + 1, 1, none⟩ = some (.int .i64 0) ∧ w'.cell? ⟨w3.heap.size + 1, 2, none⟩ = some (.int .i64 0)) (go_keep)
          (first
          | (go_at_call 158; refine (capped158 tb m 2 p2 n l _ (((HL.out.chg Hcw2.out (fun h => h) (fun _ _ h => h)).chg Hcw3.out (fun h => h) (fun _ _ h => h)).chg HWc.out (fun h => h) (fun _ _ h => h))).mono ?_; rintro e w4 ⟨rfl, hc4⟩; rw [Hcv.out]; have y0 := hc4.cell (b := w3.heap.size) (o := 0) (v := .int .i64 2) (by simp) (fun h => h); have y1 := hc4.cell (b := w3.heap.size) (o := 1) (v := .int .i64 p2) (by simp) (fun h => h); have y2 := hc4.cell (b := (w3.heap.size + 1)) (o := 0) (v := .int .i64 p1) (by simp) (fun h => h); have y3 := hc4.cell (b := (w3.heap.size + 1)) (o := 1) (v := .int .i64 0) (by simp) (fun h => h); have y4 := hc4.cell (b := (w3.heap.size + 1)) (o := 2) (v := .int .i64 0) (by simp) (fun h => h); have C4 := Lib.hid (Chg.step HWc.out hc4 (fun _ h => h.elim)); clear hc4)
          | (go_at_call 103; refine (add103_over (.iface et ev) w.heap.size O (p1, 0, 0) cv _ (C4.out.cell (Hcw3.out.cell (Hcw2.out.cell HE.out (fun h => h)) (fun h => h)) (fun h => h)) ⟨et, ev, rfl⟩ ((HO2.out.chg Hcw3.out (fun h => h)).chg C4.out (fun h => h)) HX.out (by rw [← Hcv.out]; exact HN.out) (by rw [Hz0.out]; exact hs2)).mono ?_; rintro e w5 ⟨rfl, hc5⟩; have u0 := hc5.cell y0 (fun h => h); have u1 := hc5.cell y1 (fun h => h); have u2 := hc5.cell y2 (fun h => h); have u3 := hc5.cell y3 (fun h => h); have u4 := hc5.cell y4 (fun h => h); have C5 := Lib.hid hc5; clear hc5))
        go_wp2_with fail
        go_ret2
        refine .inl ⟨rfl, ⟨to2 (p1, p2, p3), over_of (p := ((p1, p2, p3), n)) Hout.out HP.out HNN.out ?_⟩, Chg.step (Chg.step (Chg.step Hcw2.out Hcw3.out (fun _ h => h.elim)) C4.out (fun _ h => h.elim)) C5.out (fun _ h => h.elim)⟩
        show _ < (lk O (p1, 0, 0)).getD 0 + capV (gL l (2, p2)) n
        rw [Hz0.out, Hcv.out]
        exact hs2


set_option maxHeartbeats 8000000 in
theorem step106 (er : Value) (tb : Nat) (m : Option Nat) (l : List ((Int × Int) × Int)) (b : Nat) (L : List (Grp × Int)) (w : World) (hE : w.cell? ⟨2, 0, none⟩ = some er) (hne : ∃ t v, er = .iface t v) (hL : TabAt 86 w tb m l) (hM : MapAt ek3 ekI w b L) (hA : ∀ p ∈ L, amtB p.2 = true) :
    Calls Tryd.prog 107 #[.pointer (some ⟨tb, 0, .none⟩), .map (some b), .func (.func 106) #[] #[]] w fun e w' => StepPost to3 (fun g n => capV (gL l (lim3 g)) n) L er w e w' := by
  have hlb := hM.lt
  have hltb := hL.cells.lt
  have hz := World.block_lt_of_cell? _ _ hE
  have hmm := @run_makeMap Tryd.prog
  have hO0 := MapAt.new ek3 ekI w
  have HE := Lib.hid hE
  have HL := Lib.hid hL
  have HA := Lib.hid hA
  have hM1 := hM.alloc (.map #[] 0)
  have HM := Lib.hid hM
  clear hE hL hA hM
  go_enter Tryd.func107, Tryd.ntmps107
  go_wp2_with (first
    | (at_range; refine wpList_range rfl _ 189 rfl 192 2 Tryd.underlying189 b L rfl hM1 ?_; intro w0 hrg0 hg0 hs0))
  have hO1 : MapAt ek3 ekI w0 w.heap.size [] := hO0.chg hg0 (fun h => h)
  have hc0 : Chg S0 w w0 := Chg.step ((Chg.refl _ _).alloc _) hg0 (fun _ h => h.elim)
  simp only [World.size_alloc] at hrg0 hs0
  have hb0 : w.heap.size < w0.heap.size := by omega
  have HG := Lib.hid hO1
  have HR := Lib.hid hrg0
  have HC := Lib.hid hc0
  clear hO0 hO1 hrg0 hc0 hg0 hM1 hs0
  go_loopw [17] (fun _ wr => ∃ (left done O : List (Grp × Int)), IterAt ek3 ekI wr b (w.heap.size + 1) L left ∧ (done ++ left).Perm L ∧ MapAt ek3 ekI wr w.heap.size O ∧ OutIs to3 (fun g n => capV (gL l (lim3 g)) n) O done ∧ Chg S0 w wr) (fun _ wr => wr.rangeLeft b (w.heap.size + 1))
  case atStart => exact ⟨L, [], [], HR.out, by simp, HG.out, OutIs.nil _ _, HC.out⟩
  case round =>
    obtain ⟨left, done, O, hI, hP, hO, hOut, hc⟩ := hrel
    have HI := Lib.hid hI
    have HP := Lib.hid hP
    have HO := Lib.hid hO
    have Hout := Lib.hid hOut
    have Hc := Lib.hid hc
    clear hP hO hOut hc
    go_wp2_with (first
      | (at_next; refine wpList_next rfl _ rfl b (w.heap.size + 1) L left rfl hI ?_ ?_))
    · intro h0
      subst h0
      clear hI
      go_wp2
      go_ret2
      refine .inr ⟨_, O, rfl, HO.out, Hout.out.perm (by simpa using HP.out), Nat.le_refl _, Hc.out⟩
    · intro pre p1 p2 p3 n post w2 hleft hI2 hc2 hs2 hen
      clear hI
      unfold ek3 ekI at hen
      subst hleft
      have hmem : ((p1, p2, p3), n) ∈ L := HP.out.mem_iff.1 (by simp)
      have hn : amtB n = true := HA.out _ hmem
      have hcn : amtB (capV (gL l (1, p1)) n) = true := amt_cap hn
      have hx := Hout.out.amt (0, 0, 0)
      obtain ⟨z, hz0⟩ : ∃ z, (lk O (0, 0, 0)).getD 0 = z := ⟨_, rfl⟩
      obtain ⟨cv, hcv⟩ : ∃ cv, capV (gL l (1, p1)) n = cv := ⟨_, rfl⟩
      have hnn : ∀ q ∈ L, 0 ≤ capV (gL l (lim3 q.1)) q.2 := fun q hq => by have := HA.out q hq; simp [amtB] at this; exact (capV_nonneg this.1).1
      have Hcw2 : Hid (Chg S0 w w2) := Lib.hid (Chg.step Hc.out hc2 (fun k hk => .inr (by unfold S1 at hk; omega)))
      have HI2 := Lib.hid hI2
      have HO2 : Hid (MapAt ek3 ekI w2 w.heap.size O) := Lib.hid (HO.out.chg hc2 (by unfold S1; omega))
      have HNN := Lib.hid hnn
      have HN := Lib.hid hcn
      have HX := Lib.hid hx
      have Hcv := Lib.hid hcv
      have Hz0 := Lib.hid hz0
      clear hI2 hc2 hs2 hmem hn hcn hx hnn hcv hz0
      have hto : ∀ W, Calls Tryd.prog 106 #[.agg #[.int .i64 p1, .int .i64 p2, .int .i64 p3]] W fun e w' => e = .returned (.tuple #[.agg #[.int .i64 1, .int .i64 p1], .agg #[.int .i64 0, .int .i64 0, .int .i64 0]]) ∧ Chg S0 W w' := fun W => to106 (p1, p2, p3) W
      have HTo := Lib.hid hto
      clear hto
      go_wp2_with fail
      refine (HTo.out _).mono ?_
      rintro e w3 ⟨rfl, hc3⟩
      have Hcw3 : Hid (Chg S0 w2 w3) := Lib.hid (Chg.step ((Chg.refl _ _).alloc _) hc3 (fun _ h => h.elim))
      clear hc3
      go_wp2_with fail
      have hW0 : CellsAt ((w3.alloc (.cells #[.int .i64 1, .int .i64 p1] 89)).alloc (.cells #[.int .i64 0, .int .i64 0, .int .i64 0] 192)).drew w3.heap.size #[.int .i64 1, .int .i64 p1] 89 := ((CellsAt.new w3 _ _).alloc _).drew
      have hW1 : CellsAt ((w3.alloc (.cells #[.int .i64 1, .int .i64 p1] 89)).alloc (.cells #[.int .i64 0, .int .i64 0, .int .i64 0] 192)).drew (w3.heap.size + 1) #[.int .i64 0, .int .i64 0, .int .i64 0] 192 := by have := CellsAt.new (w3.alloc (.cells #[.int .i64 1, .int .i64 p1] 89)) #[.int .i64 0, .int .i64 0, .int .i64 0] 192; simp only [World.size_alloc] at this; exact this.drew
      have hWc : Chg S0 w3 ((w3.alloc (.cells #[.int .i64 1, .int .i64 p1] 89)).alloc (.cells #[.int .i64 0, .int .i64 0, .int .i64 0] 192)).drew := (((Chg.refl _ _).alloc _).alloc _).drew
      have hz3 : w.heap.size < w3.heap.size := Nat.lt_of_lt_of_le HO2.out.lt Hcw3.out.size
      have HW0 := Lib.hid hW0
      have HW1 := Lib.hid hW1
      have HWc := Lib.hid hWc
      clear hW0 hW1 hWc
      by_cases hs : z + cv ≤ 1000000000000000
      · go_region_held3 (fun w' => w'.cell? ⟨w3.heap.size, 0, none⟩ = some (.int .i64 1) ∧ w'.cell? ⟨w3.heap.size, 1, none⟩ = some (.int .i64 p1) ∧ w'.cell? ⟨w3.heap.size + 1, 0, none⟩ = some (.int .i64 0) ∧ w'.cell? ⟨w3.heap.size + 1, 1, none⟩ = some (.int .i64 0) ∧ w'.cell? ⟨w3.heap.size + 1, 2, none⟩ = some (.int .i64 0)) (go_keep)
          (first
          | (go_at_call 158; refine (capped158 tb m 1 p1 n l _ (((HL.out.chg Hcw2.out (fun h => h) (fun _ _ h => h)).chg Hcw3.out (fun h => h) (fun _ _ h => h)).chg HWc.out (fun h => h) (fun _ _ h => h))).mono ?_; rintro e w4 ⟨rfl, hc4⟩; rw [Hcv.out]; have y0 := hc4.cell (b := w3.heap.size) (o := 0) (v := .int .i64 1) (by simp) (fun h => h); have y1 := hc4.cell (b := w3.heap.size) (o := 1) (v := .int .i64 p1) (by simp) (fun h => h); have y2 := hc4.cell (b := (w3.heap.size + 1)) (o := 0) (v := .int .i64 0) (by simp) (fun h => h); have y3 := hc4.cell (b := (w3.heap.size + 1)) (o := 1) (v := .int .i64 0) (by simp) (fun h => h); have y4 := hc4.cell (b := (w3.heap.size + 1)) (o := 2) (v := .int .i64 0) (by simp) (fun h => h); have C4 := Lib.hid (Chg.step HWc.out hc4 (fun _ h => h.elim)); clear hc4)
          | (go_at_call 103; refine (add103_ok er w.heap.size O (0, 0, 0) cv _ (C4.out.cell (Hcw3.out.cell (Hcw2.out.cell HE.out (fun h => h)) (fun h => h)) (fun h => h)) hne ((HO2.out.chg Hcw3.out (fun h => h)).chg C4.out (fun h => h)) HX.out (by rw [← Hcv.out]; exact HN.out) (by rw [Hz0.out]; exact hs)).mono ?_; rintro e w5 ⟨rfl, hM5, hc5⟩; have hn1 : ¬ S1 w.heap.size w3.heap.size := (by unfold S1; omega); have hn2 : ¬ S1 w.heap.size (w3.heap.size + 1) := (by unfold S1; omega); have u0 := hc5.cell y0 hn1; have u1 := hc5.cell y1 hn1; have u2 := hc5.cell y2 hn2; have u3 := hc5.cell y3 hn2; have u4 := hc5.cell y4 hn2; have C5 := Lib.hid hc5; have M5 := Lib.hid hM5; clear hc5 hM5))
        go_wp2_with fail
        have cI : IterAt ek3 ekI w5 b (w.heap.size + 1) L (pre ++ post) := ((HI2.out.chg Hcw3.out (fun h => h) (fun h => h)).chg C4.out (fun h => h) (fun h => h)).chg C5.out (by unfold S1; omega) (by unfold S1; omega)
        refine ⟨⟨pre ++ post, done ++ [((p1, p2, p3), n)], _, cI, ?_, M5.out, ?_, ?_⟩, ?_⟩
        · refine List.Perm.trans ?_ HP.out
          rw [List.append_assoc]
          exact List.Perm.append_left done (by simpa using (List.perm_middle (a := ((p1, p2, p3), n)) (l₁ := pre) (l₂ := post)).symm)
        · have := Hout.out.snoc ((p1, p2, p3), n) (HNN.out _ (HP.out.mem_iff.1 (by simp))) (by show (lk O (0, 0, 0)).getD 0 + capV (gL l (1, p1)) n ≤ _; rw [Hz0.out, Hcv.out]; exact hs)
          have e2 : capV (gL l (lim3 (p1, p2, p3))) n = cv := Hcv.out
          simp only [e2] at this
          exact this
        · exact Chg.step (Chg.step (Chg.step Hcw2.out Hcw3.out (fun _ h => h.elim)) C4.out (fun _ h => h.elim)) C5.out (fun k hk => .inr (by unfold S1 at hk; omega))
        · rw [cI.left_eq, HI.out.left_eq]; simp
      · have hs2 : 1000000000000000 < z + cv := by omega
        obtain ⟨et, ev, rfl⟩ := hne
        go_region_held3 (fun w' => w'.cell? ⟨w3.heap.size, 0, none⟩ = some (.int .i64 1) ∧ w'.cell? ⟨w3.heap.size, 1, none⟩ = some (.int .i64 p1) ∧ w'.cell? ⟨w3.heap.size + 1, 0, none⟩ = some (.int .i64 0) ∧ w'.cell? ⟨w3.heap.size + 1, 1, none⟩ = some (.int .i64 0) ∧ w'.cell? ⟨w3.heap.size + 1, 2, none⟩ = some (.int .i64 0)) (go_keep)
          (first
          | (go_at_call 158; refine (capped158 tb m 1 p1 n l _ (((HL.out.chg Hcw2.out (fun h => h) (fun _ _ h => h)).chg Hcw3.out (fun h => h) (fun _ _ h => h)).chg HWc.out (fun h => h) (fun _ _ h => h))).mono ?_; rintro e w4 ⟨rfl, hc4⟩; rw [Hcv.out]; have y0 := hc4.cell (b := w3.heap.size) (o := 0) (v := .int .i64 1) (by simp) (fun h => h); have y1 := hc4.cell (b := w3.heap.size) (o := 1) (v := .int .i64 p1) (by simp) (fun h => h); have y2 := hc4.cell (b := (w3.heap.size + 1)) (o := 0) (v := .int .i64 0) (by simp) (fun h => h); have y3 := hc4.cell (b := (w3.heap.size + 1)) (o := 1) (v := .int .i64 0) (by simp) (fun h => h); have y4 := hc4.cell (b := (w3.heap.size + 1)) (o := 2) (v := .int .i64 0) (by simp) (fun h => h); have C4 := Lib.hid (Chg.step HWc.out hc4 (fun _ h => h.elim)); clear hc4)
          | (go_at_call 103; refine (add103_over (.iface et ev) w.heap.size O (0, 0, 0) cv _ (C4.out.cell (Hcw3.out.cell (Hcw2.out.cell HE.out (fun h => h)) (fun h => h)) (fun h => h)) ⟨et, ev, rfl⟩ ((HO2.out.chg Hcw3.out (fun h => h)).chg C4.out (fun h => h)) HX.out (by rw [← Hcv.out]; exact HN.out) (by rw [Hz0.out]; exact hs2)).mono ?_; rintro e w5 ⟨rfl, hc5⟩; have u0 := hc5.cell y0 (fun h => h); have u1 := hc5.cell y1 (fun h => h); have u2 := hc5.cell y2 (fun h => h); have u3 := hc5.cell y3 (fun h => h); have u4 := hc5.cell y4 (fun h => h); have C5 := Lib.hid hc5; clear hc5))
        go_wp2_with fail
        go_ret2
        refine .inl ⟨rfl, ⟨to3 (p1, p2, p3), over_of (p := ((p1, p2, p3), n)) Hout.out HP.out HNN.out ?_⟩, Chg.step (Chg.step (Chg.step Hcw2.out Hcw3.out (fun _ h => h.elim)) C4.out (fun _ h => h.elim)) C5.out (fun _ h => h.elim)⟩
        show _ < (lk O (0, 0, 0)).getD 0 + capV (gL l (1, p1)) n
        rw [Hz0.out, Hcv.out]
        exact hs2

end Go.Proofs.YtljlnojelagmfaaDoor
