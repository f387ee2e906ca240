import Derived.Test.YtljlnojelagmfaaDoorE1
namespace Go.Proofs.YtljlnojelagmfaaDoor
open Go.RowKit Go.Pl Go.Shelf Go.Sort
set_option maxRecDepth 100000

theorem SL_none {lb k : Nat} (h : k ≠ lb) : ¬ SL lb none k := fun hk => by rcases hk with hk | hk; exact h hk; cases hk
theorem SL_some {lb m k : Nat} (h : k ≠ lb) (h' : k ≠ m) : ¬ SL lb (some m) k := fun hk => by rcases hk with hk | hk; exact h hk; cases hk; exact h' rfl
theorem SL_out {B lb : Nat} {m : Option Nat} (h : B ≤ lb) (h' : ∀ x, m = some x → B ≤ x) {S : Nat → Prop} : ∀ k, SL lb m k → S k ∨ B ≤ k := fun k hk => by
  rcases hk with hk | hk
  · subst hk; exact .inr h
  · exact .inr (h' k hk)

theorem ladOf_cash (L : List ((Int × Int) × Int)) (h : Cuts L) (t : Int) : ladOfV L 0 ⟨1, 0, 1, 1, 0⟩ t = (lk L (1, 0)).getD 0 := by
  have hb : Ast.okB ⟨1, 0, 1, 1, 0⟩ = true := by decide
  have hg := h.get 1 0
  unfold ladGetV at hg
  simp only [ladOfV, hb, ladGetV, bucketOf]
  simp
  omega

/-- What stays: the error's cell, the two steps' cells. -/
structure Fr (B : Nat) (er : Value) (c d q r : Int) (w : World) : Prop where
  e : w.cell? ⟨0, 0, none⟩ = some er
  s0 : w.cell? ⟨B + 1, 0, none⟩ = some (.int .i64 c)
  s1 : w.cell? ⟨B + 1, 1, none⟩ = some (.int .i64 d)
  o0 : w.cell? ⟨B + 1 + 1, 0, none⟩ = some (.int .i64 q)
  o1 : w.cell? ⟨B + 1 + 1, 1, none⟩ = some (.int .i64 r)
theorem Fr.chg {B : Nat} {er : Value} {c d q r : Int} {w w' : World} {S : Nat → Prop} (h : Fr B er c d q r w) (hc : Chg S w w') (h0 : ¬ S 0) (h1 : ¬ S (B + 1)) (h2 : ¬ S (B + 1 + 1)) : Fr B er c d q r w' :=
  ⟨hc.cell h.e h0, hc.cell h.s0 h1, hc.cell h.s1 h1, hc.cell h.o0 h2, hc.cell h.o1 h2⟩

set_option maxHeartbeats 2000000 in
theorem cutSteps_walk (cl bu ot a b : Int) (w : World) (te : TypeId) (ve : Value) (he : w.cell? ⟨0, 0, none⟩ = some (.iface te ve)) :
    Calls Tryd.prog 3 #[.int .i64 cl, .int .i64 bu, .int .i64 ot, .int .i64 a, .int .i64 b] w fun e w' => e = .returned (.bool true) ∧ Chg S0 w w' := by
  have hz := World.block_lt_of_cell? _ _ he
  have N1 := fun w => number_any cl 6 w (by decide) (by decide)
  have N2 := fun w => number_any bu 6 w (by decide) (by decide)
  have N3 := fun w => number_any ot 36 w (by decide) (by decide)
  have N4 := fun w => number_any a 10001 w (by decide) (by decide)
  have N5 := fun w => number_any b 10001 w (by decide) (by decide)
  have b1 : 0 ≤ cl % 6 ∧ cl % 6 < 6 := by omega
  have b2 : 0 ≤ bu % 6 ∧ bu % 6 < 6 := by omega
  have b3 : 0 ≤ ot % 36 ∧ ot % 36 < 36 := by omega
  have b4 : 0 ≤ a % 10001 ∧ a % 10001 < 10001 := by omega
  have b5 : 0 ≤ b % 10001 ∧ b % 10001 < 10001 := by omega
  generalize cl % 6 = c0 at *
  generalize bu % 6 = d0 at *
  generalize ot % 36 = o0 at *
  generalize a % 10001 = x0 at *
  generalize b % 10001 = y0 at *
  obtain ⟨b11, b12⟩ := b1
  obtain ⟨b21, b22⟩ := b2
  obtain ⟨b31, b32⟩ := b3
  obtain ⟨b41, b42⟩ := b4
  obtain ⟨b51, b52⟩ := b5
  have H1 := Lib.hid N1
  have H2 := Lib.hid N2
  have H3 := Lib.hid N3
  have H4 := Lib.hid N4
  have H5 := Lib.hid N5
  clear N1 N2 N3 N4 N5
  go_enter Tryd.func3, Tryd.ntmps3
  go_wp2_with fail
  refine (first12 w te ve he).mono ?_
  rintro e w1 ⟨rfl, hc1⟩
  go_wp2_with fail
  refine (H1.out _).mono ?_
  rintro e w' ⟨rfl, rfl⟩
  go_wp2_with fail
  refine (H2.out _).mono ?_
  rintro e w' ⟨rfl, rfl⟩
  go_wp2_with fail
  refine (H3.out _).mono ?_
  rintro e w' ⟨rfl, rfl⟩
  go_wp2_with fail
  refine (H4.out _).mono ?_
  rintro e w' ⟨rfl, rfl⟩
  go_wp2_with fail
  refine (H5.out _).mono ?_
  rintro e w' ⟨rfl, rfl⟩
  go_wp2_with fail
  have q1 : 0 ≤ o0 / 6 ∧ o0 / 6 < 6 := by omega
  have q2 : 0 ≤ o0 % 6 ∧ o0 % 6 < 6 := by omega
  generalize o0 / 6 = q at *
  generalize o0 % 6 = r at *
  obtain ⟨q11, q12⟩ := q1
  obtain ⟨q21, q22⟩ := q2
  clear b31 b32
  have hL1 : LadAt (((w1.alloc (.cells #[.map none, .int .i64 0] 26)).alloc (.cells #[.int .i64 (c0 + 1), .int .i64 d0] 28)).alloc (.cells #[.int .i64 (q + 1), .int .i64 r] 28)) w1.heap.size none 0 [] :=
    (LadAt.new w1).chg (((Chg.refl S0 _).alloc _).alloc _) (fun h => h) (fun _ _ h => h)
  have hz1 : 0 < w1.heap.size := Nat.lt_of_lt_of_le hz hc1.size
  have he1 := hc1.cell he (fun h => h)
  have hF1 : Fr w1.heap.size (.iface te ve) (c0 + 1) d0 (q + 1) r (((w1.alloc (.cells #[.map none, .int .i64 0] 26)).alloc (.cells #[.int .i64 (c0 + 1), .int .i64 d0] 28)).alloc (.cells #[.int .i64 (q + 1), .int .i64 r] 28)) :=
    ⟨by simp [go_sem, hz1, he1], by simp [go_sem], by simp [go_sem], by simp [go_sem], by simp [go_sem]⟩
  have hc1' := hc1
  have HC1 := Lib.hid hc1
  clear hc1 he he1
  refine (ladSet w1.heap.size none 0 (q + 1) r 33 [] _ hL1 (by omega) (by omega) (by omega) (by omega) (by decide) (by decide)).mono ?_
  rintro e w2 ⟨rfl, m2, hL2, hm2, hc2⟩
  simp at hm2
  have hF2 := hF1.chg hc2 (SL_none (by omega)) (SL_none (by omega)) (SL_none (by omega))
  have hd2 : Chg S0 w w2 := Chg.step ((((HC1.out.alloc _).alloc _).alloc _)) hc2 (SL_out HC1.out.size (fun x hx => by cases hx))
  clear hF1 hL1
  have HC2 := Lib.hid hc2
  have HD2 := Lib.hid hd2
  clear hc2 hd2
  obtain ⟨t0, t1, t2, t3, t4⟩ := hF2
  go_wp2_with fail
  refine (ladSet w1.heap.size (some m2) 0 (c0 + 1) d0 x0 _ _ hL2 (by omega) (by omega) (by omega) (by omega) (by omega) (by omega)).mono ?_
  rintro e w3 ⟨rfl, m3, hL3, hm3, hc3⟩
  have hs2 := HC2.out.size
  have hs3 := hc3.size
  simp at hm3 hs2
  have hF3 := (Fr.mk t0 t1 t2 t3 t4 : Fr w1.heap.size (.iface te ve) (c0 + 1) d0 (q + 1) r w2).chg hc3 (SL_some (by omega) (by omega)) (SL_some (by omega) (by omega)) (SL_some (by omega) (by omega))
  have hd3 : Chg S0 w w3 := Chg.step HD2.out hc3 (SL_out HC1.out.size (fun x hx => by cases hx; have := HC1.out.size; omega))
  have hm3' : w1.heap.size + 1 + 1 < m3 := by omega
  clear t0 t1 t2 t3 t4 hm3 hL2
  have HC3 := Lib.hid hc3
  have HD3 := Lib.hid hd3
  clear hc3 hd3
  obtain ⟨t0, t1, t2, t3, t4⟩ := hF3
  go_wp2_with fail
  refine (ladSet w1.heap.size (some m3) 0 (c0 + 1) d0 y0 _ _ hL3 (by omega) (by omega) (by omega) (by omega) (by omega) (by omega)).mono ?_
  rintro e w4 ⟨rfl, m4, hL4, hm4, hc4⟩
  have hs4 := hc4.size
  simp at hm4
  have hF4 := (Fr.mk t0 t1 t2 t3 t4 : Fr w1.heap.size (.iface te ve) (c0 + 1) d0 (q + 1) r w3).chg hc4 (SL_some (by omega) (by omega)) (SL_some (by omega) (by omega)) (SL_some (by omega) (by omega))
  have hd4 : Chg S0 w w4 := Chg.step HD3.out hc4 (SL_out HC1.out.size (fun x hx => by cases hx; have := HC1.out.size; omega))
  have hm4' : w1.heap.size + 1 + 1 < m4 := by omega
  clear t0 t1 t2 t3 t4 hm4 hL3
  have HC4 := Lib.hid hc4
  have HD4 := Lib.hid hd4
  clear hc4 hd4
  obtain ⟨t0, t1, t2, t3, t4⟩ := hF4
  obtain ⟨L, hL⟩ : ∃ L, put (put (put [] (q + 1, r) 33) (c0 + 1, d0) x0) (c0 + 1, d0) y0 = L := ⟨_, rfl⟩
  rw [hL] at hL4
  have hC : Cuts L := by rw [← hL]; exact ((Cuts.nil.put (by decide) (by decide)).put (by omega) (by omega)).put (by omega) (by omega)
  have hO := fun w he hA => ladOf w1.heap.size (some m4) 0 L ⟨1, 0, 1, 1, 0⟩ 9 w _ te ve rfl he hA hC (by decide) (by decide) (by decide)
  rw [ladOf_cash L hC] at hO
  have hG3 := fun w hA => ladGet w1.heap.size (some m4) 0 1 0 L w hA
  generalize (lk L (1, 0)).getD 0 = g0 at hO hG3
  have hG1 := fun w hA => ladGet w1.heap.size (some m4) 0 (c0 + 1) d0 L w hA
  have hG2 := fun w hA => ladGet w1.heap.size (some m4) 0 (q + 1) r L w hA
  have hv1 : (lk L (c0 + 1, d0)).getD 0 = y0 := by rw [← hL]; simp [lk_put]
  rw [hv1] at hG1
  have HO := Lib.hid hO
  have HG3 := Lib.hid hG3
  have HG1 := Lib.hid hG1
  clear hO hG3 hG1 hv1
  by_cases hqr : q = c0 ∧ r = d0
  · obtain ⟨rfl, rfl⟩ := hqr
    have hv2 : (lk L (q + 1, r)).getD 0 = y0 := by rw [← hL]; simp [lk_put]
    have hlen : L.length = 1 := by rw [← hL]; simp [put, lk]
    rw [hv2] at hG2
    have HG2 := Lib.hid hG2
    have HL := Lib.hid hL
    clear hL hv2 hG2
    go_wp2_with fail
    refine (HG1.out _ hL4).mono ?_
    rintro e w5 ⟨rfl, hc5⟩
    have hL5 := hL4.chg hc5 (fun h => h) (fun _ _ h => h)
    have hF5 := (Fr.mk t0 t1 t2 t3 t4 : Fr w1.heap.size (.iface te ve) (q + 1) r (q + 1) r w4).chg hc5 (fun h => h) (fun h => h) (fun h => h)
    have HD5 := Lib.hid (Chg.step HD4.out hc5 (fun _ h => h.elim))
    clear t0 t1 t2 t3 t4 hc5 hL4
    obtain ⟨t0, t1, t2, t3, t4⟩ := hF5
    go_wp2_with fail
    refine (HG2.out _ hL5).mono ?_
    rintro e w6 ⟨rfl, hc6⟩
    have hL6 := hL5.chg hc6 (fun h => h) (fun _ _ h => h)
    have hF6 := (Fr.mk t0 t1 t2 t3 t4 : Fr w1.heap.size (.iface te ve) (q + 1) r (q + 1) r w5).chg hc6 (fun h => h) (fun h => h) (fun h => h)
    have HD6 := Lib.hid (Chg.step HD5.out hc6 (fun _ h => h.elim))
    clear t0 t1 t2 t3 t4 hc6 hL5
    obtain ⟨t0, t1, t2, t3, t4⟩ := hF6
    go_wp2_with fail
    refine (ladAll_some w1.heap.size m4 0 L w6 hL6 (by omega)).mono ?_
    rintro e w7 ⟨v, ks, rfl, ⟨hp, _, hown⟩, hc7⟩
    have hL7 := hL6.chg hc7 (fun h => h) (fun _ _ h => h)
    have hF7 := (Fr.mk t0 t1 t2 t3 t4 : Fr w1.heap.size (.iface te ve) (q + 1) r (q + 1) r w6).chg hc7 (fun h => h) (fun h => h) (fun h => h)
    have HD7 := Lib.hid (Chg.step HD6.out hc7 (fun _ h => h.elim))
    have hkl : ks.length = 1 := by have := hp.length_eq; simp [hlen] at this; exact this
    clear t0 t1 t2 t3 t4 hc7 hL6 hp hlen
    obtain ⟨t0, t1, t2, t3, t4⟩ := hF7
    obtain ⟨gk, ck, hvk⟩ : ∃ gk ck, v = .slice (some ⟨gk, 0, none⟩) 1 ck := by
      rcases hown.2 with ⟨_, h0⟩ | ⟨g, cap, cur, hv, _⟩
      · omega
      · exact ⟨g, cap, by rw [hv, hkl]⟩
    subst hvk
    clear hown hkl
    go_wp2_with fail
    refine (ladFx w1.heap.size (some m4) 0 L w7 hL7).mono ?_
    rintro e w' ⟨rfl, rfl⟩
    go_wp2_with fail
    refine (HO.out _ t0 hL7).mono ?_
    rintro e w8 ⟨rfl, hc8⟩
    have hL8 := hL7.chg hc8 (fun h => h) (fun _ _ h => h)
    have HD8 := Lib.hid (Chg.step HD7.out hc8 (fun _ h => h.elim))
    clear t0 t1 t2 t3 t4 hc8 hL7
    go_wp2_with fail
    refine (HG3.out _ hL8).mono ?_
    rintro e w9 ⟨rfl, hc9⟩
    go_wp2_with fail
    go_ret
    exact ⟨by simp, Chg.step HD8.out hc9 (fun _ h => h.elim)⟩
  · have hne : ¬ ((c0 + 1, d0) : Int × Int) = (q + 1, r) := by
      intro e
      simp at e
      exact hqr ⟨e.1.symm, e.2.symm⟩
    have hv2 : (lk L (q + 1, r)).getD 0 = 33 := by rw [← hL]; simp only [lk_put, if_neg hne]; simp
    have hlen : L.length = 2 := by
      rw [← hL]
      have hk : ∀ l : List ((Int × Int) × Int), ∀ k n, (put l k n).length = if (lk l k).isSome then l.length else l.length + 1 := by
        intro l k n; unfold put; split <;> simp
      simp only [hk, lk_put, if_neg (Ne.symm hne)]
      simp [lk]
    rw [hv2] at hG2
    have HG2 := Lib.hid hG2
    have HL := Lib.hid hL
    clear hL hv2 hG2 hne
    have hqr1 : ((q + 1 == c0 + 1) && (r == d0)) = false := by simp; intro h h'; exact hqr ⟨h, h'⟩
    by_cases hq : q = c0
    · subst hq
      have hr : (r == d0) = false := by simp; intro h; exact hqr ⟨rfl, h⟩
      clear hqr hqr1
      go_wp2_with fail
      refine (HG1.out _ hL4).mono ?_
      rintro e w5 ⟨rfl, hc5⟩
      have hL5 := hL4.chg hc5 (fun h => h) (fun _ _ h => h)
      have hF5 := (Fr.mk t0 t1 t2 t3 t4 : Fr w1.heap.size (.iface te ve) (q + 1) d0 (q + 1) r w4).chg hc5 (fun h => h) (fun h => h) (fun h => h)
      have HD5 := Lib.hid (Chg.step HD4.out hc5 (fun _ h => h.elim))
      clear t0 t1 t2 t3 t4 hc5 hL4
      obtain ⟨t0, t1, t2, t3, t4⟩ := hF5
      go_wp2_with fail
      refine (HG2.out _ hL5).mono ?_
      rintro e w6 ⟨rfl, hc6⟩
      have hL6 := hL5.chg hc6 (fun h => h) (fun _ _ h => h)
      have hF6 := (Fr.mk t0 t1 t2 t3 t4 : Fr w1.heap.size (.iface te ve) (q + 1) d0 (q + 1) r w5).chg hc6 (fun h => h) (fun h => h) (fun h => h)
      have HD6 := Lib.hid (Chg.step HD5.out hc6 (fun _ h => h.elim))
      clear t0 t1 t2 t3 t4 hc6 hL5
      obtain ⟨t0, t1, t2, t3, t4⟩ := hF6
      go_wp2_with fail
      refine (ladAll_some w1.heap.size m4 0 L w6 hL6 (by omega)).mono ?_
      rintro e w7 ⟨v, ks, rfl, ⟨hp, _, hown⟩, hc7⟩
      have hL7 := hL6.chg hc7 (fun h => h) (fun _ _ h => h)
      have hF7 := (Fr.mk t0 t1 t2 t3 t4 : Fr w1.heap.size (.iface te ve) (q + 1) d0 (q + 1) r w6).chg hc7 (fun h => h) (fun h => h) (fun h => h)
      have HD7 := Lib.hid (Chg.step HD6.out hc7 (fun _ h => h.elim))
      have hkl : ks.length = 2 := by have := hp.length_eq; simp [hlen] at this; exact this
      clear t0 t1 t2 t3 t4 hc7 hL6 hp hlen
      obtain ⟨t0, t1, t2, t3, t4⟩ := hF7
      obtain ⟨gk, ck, hvk⟩ : ∃ gk ck, v = .slice (some ⟨gk, 0, none⟩) 2 ck := by
        rcases hown.2 with ⟨_, h0⟩ | ⟨g, cap, cur, hv, _⟩
        · omega
        · exact ⟨g, cap, by rw [hv, hkl]⟩
      subst hvk
      clear hown hkl
      go_wp2_with fail
      refine (ladFx w1.heap.size (some m4) 0 L w7 hL7).mono ?_
      rintro e w' ⟨rfl, rfl⟩
      go_wp2_with fail
      refine (HO.out _ t0 hL7).mono ?_
      rintro e w8 ⟨rfl, hc8⟩
      have hL8 := hL7.chg hc8 (fun h => h) (fun _ _ h => h)
      have HD8 := Lib.hid (Chg.step HD7.out hc8 (fun _ h => h.elim))
      clear t0 t1 t2 t3 t4 hc8 hL7
      go_wp2_with fail
      refine (HG3.out _ hL8).mono ?_
      rintro e w9 ⟨rfl, hc9⟩
      go_wp2_with fail
      go_ret
      exact ⟨by simp, Chg.step HD8.out hc9 (fun _ h => h.elim)⟩
    · have hq' : (q == c0) = false := by simpa using hq
      have hq'' : (q + 1 == c0 + 1) = false := by simp; exact hq
      clear hqr hqr1 hq
      go_wp2_with fail
      refine (HG1.out _ hL4).mono ?_
      rintro e w5 ⟨rfl, hc5⟩
      have hL5 := hL4.chg hc5 (fun h => h) (fun _ _ h => h)
      have hF5 := (Fr.mk t0 t1 t2 t3 t4 : Fr w1.heap.size (.iface te ve) (c0 + 1) d0 (q + 1) r w4).chg hc5 (fun h => h) (fun h => h) (fun h => h)
      have HD5 := Lib.hid (Chg.step HD4.out hc5 (fun _ h => h.elim))
      clear t0 t1 t2 t3 t4 hc5 hL4
      obtain ⟨t0, t1, t2, t3, t4⟩ := hF5
      go_wp2_with fail
      refine (HG2.out _ hL5).mono ?_
      rintro e w6 ⟨rfl, hc6⟩
      have hL6 := hL5.chg hc6 (fun h => h) (fun _ _ h => h)
      have hF6 := (Fr.mk t0 t1 t2 t3 t4 : Fr w1.heap.size (.iface te ve) (c0 + 1) d0 (q + 1) r w5).chg hc6 (fun h => h) (fun h => h) (fun h => h)
      have HD6 := Lib.hid (Chg.step HD5.out hc6 (fun _ h => h.elim))
      clear t0 t1 t2 t3 t4 hc6 hL5
      obtain ⟨t0, t1, t2, t3, t4⟩ := hF6
      go_wp2_with fail
      refine (ladAll_some w1.heap.size m4 0 L w6 hL6 (by omega)).mono ?_
      rintro e w7 ⟨v, ks, rfl, ⟨hp, _, hown⟩, hc7⟩
      have hL7 := hL6.chg hc7 (fun h => h) (fun _ _ h => h)
      have hF7 := (Fr.mk t0 t1 t2 t3 t4 : Fr w1.heap.size (.iface te ve) (c0 + 1) d0 (q + 1) r w6).chg hc7 (fun h => h) (fun h => h) (fun h => h)
      have HD7 := Lib.hid (Chg.step HD6.out hc7 (fun _ h => h.elim))
      have hkl : ks.length = 2 := by have := hp.length_eq; simp [hlen] at this; exact this
      clear t0 t1 t2 t3 t4 hc7 hL6 hp hlen
      obtain ⟨t0, t1, t2, t3, t4⟩ := hF7
      obtain ⟨gk, ck, hvk⟩ : ∃ gk ck, v = .slice (some ⟨gk, 0, none⟩) 2 ck := by
        rcases hown.2 with ⟨_, h0⟩ | ⟨g, cap, cur, hv, _⟩
        · omega
        · exact ⟨g, cap, by rw [hv, hkl]⟩
      subst hvk
      clear hown hkl
      go_wp2_with fail
      refine (ladFx w1.heap.size (some m4) 0 L w7 hL7).mono ?_
      rintro e w' ⟨rfl, rfl⟩
      go_wp2_with fail
      refine (HO.out _ t0 hL7).mono ?_
      rintro e w8 ⟨rfl, hc8⟩
      have hL8 := hL7.chg hc8 (fun h => h) (fun _ _ h => h)
      have HD8 := Lib.hid (Chg.step HD7.out hc8 (fun _ h => h.elim))
      clear t0 t1 t2 t3 t4 hc8 hL7
      go_wp2_with fail
      refine (HG3.out _ hL8).mono ?_
      rintro e w9 ⟨rfl, hc9⟩
      go_wp2_with fail
      go_ret
      exact ⟨by simp, Chg.step HD8.out hc9 (fun _ h => h.elim)⟩
end Go.Proofs.YtljlnojelagmfaaDoor
