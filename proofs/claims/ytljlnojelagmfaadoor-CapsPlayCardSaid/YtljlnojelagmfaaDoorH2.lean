import Derived.Test.YtljlnojelagmfaaDoorH1
namespace Go.Proofs.YtljlnojelagmfaaDoor
open Go.RowKit Go.Pl
set_option maxRecDepth 100000

theorem cutSet22_bad (yb : Nat) (c d n : Int) (w : World) (h : ¬ (1 ≤ c ∧ c ≤ 6 ∧ 0 ≤ d ∧ d < 6 ∧ 0 ≤ n ∧ n ≤ 10000)) :
    Calls Tryd.prog 22 #[.pointer (some ⟨yb, 0, .none⟩), .int .i64 c, .int .i64 d, .int .i64 n] w fun e w' => e = .returned (.int .i64 103) ∧ w = w' := by
  have I1 := in87 c 1 6
  have I2 := in87 d 0 5
  cases hc : (decide (1 ≤ c) && decide (c ≤ 6)) with
  | false =>
    rw [hc] at I1
    have H := Lib.hid I1
    clear I1 I2 hc
    go_enter Tryd.func22, Tryd.ntmps22
    go_wp2_with fail
    refine (H.out _).mono ?_
    rintro e w' ⟨rfl, rfl⟩
    go_wp2_with fail
    go_ret
    exact ⟨rfl, rfl⟩
  | true =>
    rw [hc] at I1
    have H := Lib.hid I1
    cases hd : (decide (0 ≤ d) && decide (d ≤ 5)) with
    | false =>
      rw [hd] at I2
      have H' := Lib.hid I2
      clear I1 I2 hd hc
      go_enter Tryd.func22, Tryd.ntmps22
      go_wp2_with fail
      refine (H.out _).mono ?_
      rintro e w' ⟨rfl, rfl⟩
      go_wp2_with fail
      refine (H'.out _).mono ?_
      rintro e w' ⟨rfl, rfl⟩
      go_wp2_with fail
      go_ret
      exact ⟨rfl, rfl⟩
    | true =>
      rw [hd] at I2
      have H' := Lib.hid I2
      by_cases hn : n < 0
      · have hn' : decide (n < 0) = true := by simpa using hn
        clear I1 I2 hd hc h
        go_enter Tryd.func22, Tryd.ntmps22
        go_wp2_with fail
        refine (H.out _).mono ?_
        rintro e w' ⟨rfl, rfl⟩
        go_wp2_with fail
        refine (H'.out _).mono ?_
        rintro e w' ⟨rfl, rfl⟩
        go_wp2_with fail
        go_ret
        exact ⟨rfl, rfl⟩
      · have hn' : decide (n < 0) = false := by simpa using hn
        have hn'' : decide (10000 < n) = true := by simp at *; omega
        clear I1 I2 hd hc h
        go_enter Tryd.func22, Tryd.ntmps22
        go_wp2_with fail
        refine (H.out _).mono ?_
        rintro e w' ⟨rfl, rfl⟩
        go_wp2_with fail
        refine (H'.out _).mono ?_
        rintro e w' ⟨rfl, rfl⟩
        go_wp2_with fail
        go_ret
        exact ⟨rfl, rfl⟩

theorem cutSetFx24 (yb : Nat) (fx n : Int) (l : List ((Int × Int) × Int)) (w : World) (hY : CutsAt w yb fx l) (h5 : 0 ≤ n) (h6 : n ≤ 10000) :
    Calls Tryd.prog 24 #[.pointer (some ⟨yb, 0, .none⟩), .int .i64 n] w fun e w' => e = .returned (.int .i64 0) ∧ CutsAt w' yb n l ∧ Chg (S1 yb) w w' := by
  have c0 := hY.fxC
  have f0 := hY.frozen 72
  have hlt := CellsAt.lt hY
  have d5 : decide (n < 0) = false := by simp; omega
  have d6 : decide (10000 < n) = false := by simp; omega
  have hput := cutCells_fx l fx n
  go_enter Tryd.func24, Tryd.ntmps24
  go_wp2
  go_ret
  refine ⟨rfl, ?_, Chg.setCell (S := S1 yb) (Chg.refl _ _) ⟨yb, _, none⟩ _ (.inl rfl)⟩
  unfold CutsAt
  rw [← hput]
  exact CellsAt.set hY _ _

theorem cutSetFx24_bad (yb : Nat) (n : Int) (w : World) (h : ¬ (0 ≤ n ∧ n ≤ 10000)) :
    Calls Tryd.prog 24 #[.pointer (some ⟨yb, 0, .none⟩), .int .i64 n] w fun e w' => e = .returned (.int .i64 103) ∧ w = w' := by
  by_cases hn : n < 0
  · have hn' : decide (n < 0) = true := by simpa using hn
    clear h
    go_enter Tryd.func24, Tryd.ntmps24
    go_wp2
    go_ret
    exact ⟨rfl, rfl⟩
  · have hn' : decide (n < 0) = false := by simpa using hn
    have hn'' : decide (10000 < n) = true := by simp at *; omega
    clear h
    go_enter Tryd.func24, Tryd.ntmps24
    go_wp2
    go_ret
    exact ⟨rfl, rfl⟩

theorem live88 (a : Ast) (t : Int) (w : World) : Calls Tryd.prog 88 #[a.val, .int .i64 t] w fun e w' => e = .returned (.bool (a.fin == 0 || decide (t < a.fin))) ∧ Chg S0 w w' := by
  obtain ⟨id, iss, c, m, f⟩ := a
  simp only [Ast.val]
  by_cases h : f = 0
  · subst h
    go_enter Tryd.func88, Tryd.ntmps88
    go_wp2
    go_ret
    exact ⟨rfl, by repeat (first | exact Chg.refl _ _ | apply Chg.drew | apply Chg.alloc)⟩
  · have h' : (f == 0) = false := by simpa using h
    go_enter Tryd.func88, Tryd.ntmps88
    go_wp2
    go_ret
    exact ⟨by simp [h'], by repeat (first | exact Chg.refl _ _ | apply Chg.drew | apply Chg.alloc)⟩

theorem leftTo89 (d today : Int) (w : World) (_h : d ≠ 0) (h' : today < d) (h1 : d ≤ 1000000000000) (h2 : 0 ≤ today) : Calls Tryd.prog 89 #[.int .i64 d, .int .i64 today] w fun e w' => e = .returned (.tuple #[.int .i64 (d - today), .bool true]) ∧ w = w' := by
  have h3 : ¬ d ≤ today := by omega
  go_enter Tryd.func89, Tryd.ntmps89
  go_wp2
  go_ret2
  simp

def validN (a : Ast) : Int := if a.okB = true then 0 else 103

set_option maxHeartbeats 8000000 in
theorem valid26 (a : Ast) (w : World) : Calls Tryd.prog 26 #[a.val] w fun e w' => e = .returned (.int .i64 (validN a)) ∧ Chg S0 w w' := by
  obtain ⟨id, iss, c, m, f⟩ := a
  simp only [Ast.val] at *
  have I0 := in87 id 1 32
  have I1 := in87 iss 0 32
  have I2 := in87 c 1 6
  have I3 := in87 m 1 6
  have I4 := in87 f 0 40000
  have HV : Hid (∀ b : Bool, Ast.okB ⟨id, iss, c, m, f⟩ = b → validN ⟨id, iss, c, m, f⟩ = if b = true then 0 else 103) := by intro b hb; simp [validN, hb]
  cases h0 : (decide (1 ≤ id) && decide (id ≤ 32)) with
  | false =>
    have G0 := Lib.hid h0
    rw [h0] at I0
    have K0 := Lib.hid I0
    clear h0 I0 I1 I2 I3 I4
    go_enter Tryd.func26, Tryd.ntmps26
    go_wp2_with fail
    refine (K0.out _).mono ?_
    rintro e w' ⟨rfl, rfl⟩
    go_wp2_with fail
    go_ret
    refine ⟨congrArg Ending.returned (congrArg (Value.int .i64) ?_), by repeat (first | exact Chg.refl _ _ | apply Chg.drew | apply Chg.alloc)⟩
    rw [HV.out false (by have t := G0.out; simp [Ast.okB] at t ⊢; omega)]
    rfl
  | true =>
  have G0 := Lib.hid h0
  rw [h0] at I0
  have K0 := Lib.hid I0
  clear h0 I0
  cases h1 : (decide (0 ≤ iss) && decide (iss ≤ 32)) with
  | false =>
    have G1 := Lib.hid h1
    rw [h1] at I1
    have K1 := Lib.hid I1
    clear h1 I1 I2 I3 I4
    go_enter Tryd.func26, Tryd.ntmps26
    go_wp2_with fail
    refine (K0.out _).mono ?_
    rintro e w' ⟨rfl, rfl⟩
    go_wp2_with fail
    refine (K1.out _).mono ?_
    rintro e w' ⟨rfl, rfl⟩
    go_wp2_with fail
    go_ret
    refine ⟨congrArg Ending.returned (congrArg (Value.int .i64) ?_), by repeat (first | exact Chg.refl _ _ | apply Chg.drew | apply Chg.alloc)⟩
    rw [HV.out false (by have t := G1.out; simp [Ast.okB] at t ⊢; omega)]
    rfl
  | true =>
  have G1 := Lib.hid h1
  rw [h1] at I1
  have K1 := Lib.hid I1
  clear h1 I1
  cases h2 : (decide (1 ≤ c) && decide (c ≤ 6)) with
  | false =>
    have G2 := Lib.hid h2
    rw [h2] at I2
    have K2 := Lib.hid I2
    clear h2 I2 I3 I4
    go_enter Tryd.func26, Tryd.ntmps26
    go_wp2_with fail
    refine (K0.out _).mono ?_
    rintro e w' ⟨rfl, rfl⟩
    go_wp2_with fail
    refine (K1.out _).mono ?_
    rintro e w' ⟨rfl, rfl⟩
    go_wp2_with fail
    refine (K2.out _).mono ?_
    rintro e w' ⟨rfl, rfl⟩
    go_wp2_with fail
    go_ret
    refine ⟨congrArg Ending.returned (congrArg (Value.int .i64) ?_), by repeat (first | exact Chg.refl _ _ | apply Chg.drew | apply Chg.alloc)⟩
    rw [HV.out false (by have t := G2.out; simp [Ast.okB] at t ⊢; omega)]
    rfl
  | true =>
  have G2 := Lib.hid h2
  rw [h2] at I2
  have K2 := Lib.hid I2
  clear h2 I2
  cases h3 : (decide (1 ≤ m) && decide (m ≤ 6)) with
  | false =>
    have G3 := Lib.hid h3
    rw [h3] at I3
    have K3 := Lib.hid I3
    clear h3 I3 I4
    go_enter Tryd.func26, Tryd.ntmps26
    go_wp2_with fail
    refine (K0.out _).mono ?_
    rintro e w' ⟨rfl, rfl⟩
    go_wp2_with fail
    refine (K1.out _).mono ?_
    rintro e w' ⟨rfl, rfl⟩
    go_wp2_with fail
    refine (K2.out _).mono ?_
    rintro e w' ⟨rfl, rfl⟩
    go_wp2_with fail
    refine (K3.out _).mono ?_
    rintro e w' ⟨rfl, rfl⟩
    go_wp2_with fail
    go_ret
    refine ⟨congrArg Ending.returned (congrArg (Value.int .i64) ?_), by repeat (first | exact Chg.refl _ _ | apply Chg.drew | apply Chg.alloc)⟩
    rw [HV.out false (by have t := G3.out; simp [Ast.okB] at t ⊢; omega)]
    rfl
  | true =>
  have G3 := Lib.hid h3
  rw [h3] at I3
  have K3 := Lib.hid I3
  clear h3 I3
  cases h4 : (decide (0 ≤ f) && decide (f ≤ 40000)) with
  | false =>
    have G4 := Lib.hid h4
    rw [h4] at I4
    have K4 := Lib.hid I4
    clear h4 I4
    go_enter Tryd.func26, Tryd.ntmps26
    go_wp2_with fail
    refine (K0.out _).mono ?_
    rintro e w' ⟨rfl, rfl⟩
    go_wp2_with fail
    refine (K1.out _).mono ?_
    rintro e w' ⟨rfl, rfl⟩
    go_wp2_with fail
    refine (K2.out _).mono ?_
    rintro e w' ⟨rfl, rfl⟩
    go_wp2_with fail
    refine (K3.out _).mono ?_
    rintro e w' ⟨rfl, rfl⟩
    go_wp2_with fail
    refine (K4.out _).mono ?_
    rintro e w' ⟨rfl, rfl⟩
    go_wp2_with fail
    go_ret
    refine ⟨congrArg Ending.returned (congrArg (Value.int .i64) ?_), by repeat (first | exact Chg.refl _ _ | apply Chg.drew | apply Chg.alloc)⟩
    rw [HV.out false (by have t := G4.out; simp [Ast.okB] at t ⊢; omega)]
    rfl
  | true =>
  have G4 := Lib.hid h4
  rw [h4] at I4
  have K4 := Lib.hid I4
  clear h4 I4
  by_cases e1 : c = 1
  · subst e1
    by_cases e2 : iss = 0
    · subst e2
      by_cases e3 : f = 0
      · subst e3
        go_enter Tryd.func26, Tryd.ntmps26
        go_wp2_with fail
        refine (K0.out _).mono ?_
        rintro e w' ⟨rfl, rfl⟩
        go_wp2_with fail
        refine (K1.out _).mono ?_
        rintro e w' ⟨rfl, rfl⟩
        go_wp2_with fail
        refine (K2.out _).mono ?_
        rintro e w' ⟨rfl, rfl⟩
        go_wp2_with fail
        refine (K3.out _).mono ?_
        rintro e w' ⟨rfl, rfl⟩
        go_wp2_with fail
        refine (K4.out _).mono ?_
        rintro e w' ⟨rfl, rfl⟩
        go_wp2_with fail
        go_ret
        refine ⟨congrArg Ending.returned (congrArg (Value.int .i64) ?_), by repeat (first | exact Chg.refl _ _ | apply Chg.drew | apply Chg.alloc)⟩
        rw [HV.out true (by have t0 := G0.out; have t1 := G1.out; have t2 := G2.out; have t3 := G3.out; have t4 := G4.out; simp [Ast.okB] at t0 t1 t2 t3 t4 ⊢; omega)]
        rfl
      · have e3' : (f == 0) = false := by simpa using e3
        have e3'' : (f != 0) = true := by simpa using e3
        have E := Lib.hid e3
        clear e3
        go_enter Tryd.func26, Tryd.ntmps26
        go_wp2_with fail
        refine (K0.out _).mono ?_
        rintro e w' ⟨rfl, rfl⟩
        go_wp2_with fail
        refine (K1.out _).mono ?_
        rintro e w' ⟨rfl, rfl⟩
        go_wp2_with fail
        refine (K2.out _).mono ?_
        rintro e w' ⟨rfl, rfl⟩
        go_wp2_with fail
        refine (K3.out _).mono ?_
        rintro e w' ⟨rfl, rfl⟩
        go_wp2_with fail
        refine (K4.out _).mono ?_
        rintro e w' ⟨rfl, rfl⟩
        go_wp2_with fail
        go_ret
        refine ⟨congrArg Ending.returned (congrArg (Value.int .i64) ?_), by repeat (first | exact Chg.refl _ _ | apply Chg.drew | apply Chg.alloc)⟩
        rw [HV.out false (by have t0 := G0.out; have t1 := G1.out; have t2 := G2.out; have t3 := G3.out; have t4 := G4.out; have t5 := E.out; simp [Ast.okB] at t0 t1 t2 t3 t4 ⊢; omega)]
        rfl
    · have e2' : (iss == 0) = false := by simpa using e2
      have e2'' : (iss != 0) = true := by simpa using e2
      have E := Lib.hid e2
      clear e2
      go_enter Tryd.func26, Tryd.ntmps26
      go_wp2_with fail
      refine (K0.out _).mono ?_
      rintro e w' ⟨rfl, rfl⟩
      go_wp2_with fail
      refine (K1.out _).mono ?_
      rintro e w' ⟨rfl, rfl⟩
      go_wp2_with fail
      refine (K2.out _).mono ?_
      rintro e w' ⟨rfl, rfl⟩
      go_wp2_with fail
      refine (K3.out _).mono ?_
      rintro e w' ⟨rfl, rfl⟩
      go_wp2_with fail
      refine (K4.out _).mono ?_
      rintro e w' ⟨rfl, rfl⟩
      go_wp2_with fail
      go_ret
      refine ⟨congrArg Ending.returned (congrArg (Value.int .i64) ?_), by repeat (first | exact Chg.refl _ _ | apply Chg.drew | apply Chg.alloc)⟩
      rw [HV.out false (by have t0 := G0.out; have t1 := G1.out; have t2 := G2.out; have t3 := G3.out; have t4 := G4.out; have t5 := E.out; simp [Ast.okB] at t0 t1 t2 t3 t4 ⊢; omega)]
      rfl
  · have e1' : (c == 1) = false := by simpa using e1
    have E := Lib.hid e1
    clear e1
    go_enter Tryd.func26, Tryd.ntmps26
    go_wp2_with fail
    refine (K0.out _).mono ?_
    rintro e w' ⟨rfl, rfl⟩
    go_wp2_with fail
    refine (K1.out _).mono ?_
    rintro e w' ⟨rfl, rfl⟩
    go_wp2_with fail
    refine (K2.out _).mono ?_
    rintro e w' ⟨rfl, rfl⟩
    go_wp2_with fail
    refine (K3.out _).mono ?_
    rintro e w' ⟨rfl, rfl⟩
    go_wp2_with fail
    refine (K4.out _).mono ?_
    rintro e w' ⟨rfl, rfl⟩
    go_wp2_with fail
    go_ret
    refine ⟨congrArg Ending.returned (congrArg (Value.int .i64) ?_), by repeat (first | exact Chg.refl _ _ | apply Chg.drew | apply Chg.alloc)⟩
    rw [HV.out true (by have t0 := G0.out; have t1 := G1.out; have t2 := G2.out; have t3 := G3.out; have t4 := G4.out; have t5 := E.out; simp [Ast.okB] at t0 t1 t2 t3 t4 ⊢; omega)]
    rfl

end Go.Proofs.YtljlnojelagmfaaDoor
