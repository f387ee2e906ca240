/-
  What counts of groups: plain words. (Chapter 16.) Sums that do not go round: fix.Sum, money.Total. (Chapters 2, 3.) caps: add, capped, what a group goes to. (Chapter 16.) caps: step. (Chapter 16. Printed for each of the three by wip/gen_step.py.)
-/
import Derived.Test.YtljlnojelagmfaaDoorB2
import Derived.Test.YtljlnojelagmfaaDoorN1
import Derived.Test.YtljlnojelagmfaaDoorN2
import Derived.Laws.Externs
import Derived.Test.YtljlnojelagmfaaDoorH5
import Derived.Test.YtljlnojelagmfaaDoorL3
import Derived.Deep.RegionHeld3
namespace Go.Pl

abbrev Grp := Int × Int × Int
/-- The sum of numbers. -/
def sumI (l : List Int) : Int := l.foldl (· + ·) 0
theorem sumI_nil : sumI [] = 0 := rfl
theorem foldl_add (l : List Int) (a : Int) : l.foldl (· + ·) a = a + sumI l := by
  unfold sumI
  induction l generalizing a with
  | nil => simp
  | cons n l ih => simp only [List.foldl_cons]; rw [ih, ih (0 + n)]; omega
theorem sumI_cons (n : Int) (l : List Int) : sumI (n :: l) = n + sumI l := by
  have := foldl_add l (0 + n)
  simp only [sumI, List.foldl_cons] at *
  omega
theorem sumI_snoc (l : List Int) (n : Int) : sumI (l ++ [n]) = sumI l + n := by simp [sumI]
theorem sumI_append (l m : List Int) : sumI (l ++ m) = sumI l + sumI m := by
  induction l with
  | nil => simp [sumI_nil]
  | cons n l ih => simp only [List.cons_append, sumI_cons, ih]; omega
theorem sumI_take {l : List Int} {k : Nat} (hk : k < l.length) : sumI (l.take (k + 1)) = sumI (l.take k) + l[k] := by rw [List.take_succ_eq_append_getElem hk, sumI_snoc]
theorem sumI_bd (l : List Int) (h : l.all amtB = true) : 0 ≤ sumI l ∧ sumI l ≤ 1000000000000000 * l.length := by
  induction l with
  | nil => simp [sumI_nil]
  | cons n l ih =>
    simp only [List.all_cons, Bool.and_eq_true] at h
    have := ih h.2
    have hn := h.1
    simp [amtB] at hn
    rw [sumI_cons]
    simp only [List.length_cons]
    omega
theorem sumI_nonneg (l : List Int) (h : ∀ n ∈ l, 0 ≤ n) : 0 ≤ sumI l := by
  induction l with
  | nil => simp [sumI_nil]
  | cons n l ih =>
    have h1 := h n (by simp)
    have h2 := ih (fun m hm => h m (by simp [hm]))
    rw [sumI_cons]
    omega
theorem sumI_perm {l m : List Int} (h : l.Perm m) : sumI l = sumI m := by
  induction h with
  | nil => rfl
  | cons x _ ih => rw [sumI_cons, sumI_cons, ih]
  | swap x y l => rw [sumI_cons, sumI_cons, sumI_cons, sumI_cons]; omega
  | trans _ _ h1 h2 => exact h1.trans h2
theorem all_take {l : List Int} (h : l.all amtB = true) (k : Nat) : (l.take k).all amtB = true := List.all_eq_true.2 fun x hx => List.all_eq_true.1 h x (List.mem_of_mem_take hx)

/-- What counts under a limit. (0: none.) -/
def capV (lim n : Int) : Int := if 0 < lim then min n lim else n
theorem capV_nonneg {lim n : Int} (h : 0 ≤ n) : 0 ≤ capV lim n ∧ capV lim n ≤ n := by unfold capV; split <;> omega
theorem capV_zero (lim : Int) : capV lim 0 = 0 := by unfold capV; split <;> omega

/-- What comes to x: the sum of h over what T sends there. -/
def cameTo (T : Grp → Grp) (h : Grp → Int → Int) (L : List (Grp × Int)) (x : Grp) : Int := sumI ((L.filter (fun p => decide (T p.1 = x))).map (fun p => h p.1 p.2))
theorem cameTo_nil (T : Grp → Grp) (h : Grp → Int → Int) (x : Grp) : cameTo T h [] x = 0 := rfl
theorem cameTo_snoc (T : Grp → Grp) (h : Grp → Int → Int) (L : List (Grp × Int)) (p : Grp × Int) (x : Grp) : cameTo T h (L ++ [p]) x = cameTo T h L x + if T p.1 = x then h p.1 p.2 else 0 := by
  unfold cameTo
  rw [List.filter_append, List.map_append, sumI_append]
  by_cases e : T p.1 = x <;> simp [e, sumI]
theorem cameTo_perm {T : Grp → Grp} {h : Grp → Int → Int} {L M : List (Grp × Int)} (hp : L.Perm M) (x : Grp) : cameTo T h L x = cameTo T h M x :=
  sumI_perm ((hp.filter _).map _)
theorem cameTo_nonneg {T : Grp → Grp} {h : Grp → Int → Int} {L : List (Grp × Int)} (hh : ∀ p ∈ L, 0 ≤ h p.1 p.2) (x : Grp) : 0 ≤ cameTo T h L x := by
  unfold cameTo
  refine sumI_nonneg _ fun n hn => ?_
  obtain ⟨p, hp, rfl⟩ := List.mem_map.1 hn
  exact hh p (List.mem_filter.1 hp).1
theorem cameTo_append (T : Grp → Grp) (h : Grp → Int → Int) (L M : List (Grp × Int)) (x : Grp) : cameTo T h (L ++ M) x = cameTo T h L x + cameTo T h M x := by
  unfold cameTo
  rw [List.filter_append, List.map_append, sumI_append]

/-- A map holds just what comes to each. -/
def OutIs (T : Grp → Grp) (h : Grp → Int → Int) (O L : List (Grp × Int)) : Prop := (∀ x, (lk O x).getD 0 = cameTo T h L x) ∧ (∀ p ∈ O, amtB p.2 = true) ∧ ∀ p ∈ O, ∃ q ∈ L, T q.1 = p.1
theorem OutIs.nil (T : Grp → Grp) (h : Grp → Int → Int) : OutIs T h [] [] := ⟨fun _ => rfl, (by simp), (by simp)⟩
theorem mem_put {α β : Type} [DecidableEq α] {l : List (α × β)} {k : α} {n : β} {p : α × β} (h : p ∈ put l k n) : p = (k, n) ∨ p ∈ l := by
  unfold put at h
  split at h
  · obtain ⟨q, hq, rfl⟩ := List.mem_map.1 h
    split
    · exact .inl rfl
    · exact .inr hq
  · rcases List.mem_append.1 h with h | h
    · exact .inr h
    · simp at h
      exact .inl h
theorem OutIs.snoc {T : Grp → Grp} {h : Grp → Int → Int} {O L : List (Grp × Int)} (ho : OutIs T h O L) (p : Grp × Int) (h0 : 0 ≤ h p.1 p.2) (h1 : (lk O (T p.1)).getD 0 + h p.1 p.2 ≤ 1000000000000000) :
    OutIs T h (put O (T p.1) ((lk O (T p.1)).getD 0 + h p.1 p.2)) (L ++ [p]) := by
  obtain ⟨o1, o2, o3⟩ := ho
  have hb : 0 ≤ (lk O (T p.1)).getD 0 := by
    cases hk : lk O (T p.1) with
    | none => simp
    | some y => have := o2 _ (mem_of_lk hk); simp [amtB] at this; simp; omega
  refine ⟨fun x => ?_, fun q hq => ?_, fun q hq => ?_⟩
  · rw [lk_put, cameTo_snoc]
    by_cases e : T p.1 = x
    · rw [if_pos e, if_pos e, ← o1 x, ← e]
      simp
    · rw [if_neg e, if_neg e, o1 x]
      omega
  · rcases mem_put hq with rfl | hq
    · simp [amtB]
      omega
    · exact o2 q hq
  · rcases mem_put hq with rfl | hq
    · exact ⟨p, by simp, rfl⟩
    · obtain ⟨r, hr, e⟩ := o3 q hq
      exact ⟨r, by simp [hr], e⟩
end Go.Pl

namespace Go.Proofs.YtljlnojelagmfaaDoor
open Go.RowKit Go.Pl
set_option maxRecDepth 100000

theorem add286 (x y : Int) (h1 : 0 ≤ x) (h2 : 0 ≤ y) (h3 : x + y < 18446744073709551616) (w : World) :
    (callFunc 286 #[.int .u64 x, .int .u64 y, .int .u64 0]).run Tryd.prog w = .ok (.value (.tuple #[.int .u64 (x + y), .int .u64 0])) w := by
  rw [run_callFunc_extern Tryd.func286 (by kernel_rfl) (by kernel_rfl) (by kernel_rfl) (e := add64Entry) (by kernel_rfl), run_add64 x y 0 h1 h2 (by decide) (by decide)]
  have e1 : (x + y + 0) % 18446744073709551616 = x + y := by omega
  have e2 : (x + y + 0) / 18446744073709551616 = 0 := by omega
  rw [e1, e2]
  rfl

theorem plus239 (lo n : Int) (w : World) (h1 : 0 ≤ lo) (h2 : lo ≤ 1000000000000000000) (h3 : 0 ≤ n) (h4 : n ≤ 1000000000000000) :
    Calls Tryd.prog 239 #[.agg #[.int .i64 0, .int .u64 lo], .int .i64 n] w fun e w' => e = .returned (.agg #[.int .i64 0, .int .u64 (lo + n)]) ∧ Chg S0 w w' := by
  have hadd := fun w => add286 lo n h1 h3 (by omega) w
  have hdiv : n / 9223372036854775808 = 0 := by omega
  go_enter Tryd.func239, Tryd.ntmps239
  go_wp2
  refine bodyPost_ret (v := .agg #[.int .i64 0, .int .u64 (lo + n)]) (by simp [results, Tryd.results239, go_sem]) rfl ⟨rfl, ((Chg.refl _ _).alloc _).alloc _⟩


set_option maxHeartbeats 2000000 in
theorem sum199 (v : Value) (l : List Int) (w : World) (hI : IntsAt w v l) (hl : l.length ≤ 100) (h : l.all amtB = true) :
    Calls Tryd.prog 199 #[v] w fun e w' => e = .returned (.tuple #[.int .i64 (sumI l), .bool true]) ∧ Chg S0 w w' := by
  obtain ⟨p, cap, rfl, hcap, hI⟩ := hI
  have HH := Lib.hid h
  have hb := sumI_bd l h
  clear h
  go_enter Tryd.func199, Tryd.ntmps199
  go_wp2
  go_loopw [10] (fun i wr => ∃ k : Nat, k ≤ l.length ∧ i = .int .i64 k ∧ Chg S0 w wr ∧ CellsAt wr w.heap.size #[.int .i64 0, .int .u64 (sumI (l.take k))] 330) (fun i _ => l.length - (intOf i).toNat)
  case atStart => exact ⟨0, Nat.zero_le _, rfl, (Chg.refl _ _).alloc _, CellsAt.new _ _ _⟩
  case round =>
    obtain ⟨k, hk, rfl, hc, hC⟩ := hrel
    have q0 := hC.cell 0
    have q1 := hC.cell 1
    have f0 := hC.frozen 0
    have f1 := hC.frozen 1
    simp only [List.getElem?_toArray, List.getElem?_cons_zero, List.getElem?_cons_succ] at q0 q1
    have hlt := hC.lt
    by_cases hkn : k < l.length
    · have hkn' : decide ((k : Int) < l.length) = true := by simp; omega
      obtain ⟨a, pb, po, ps, hpa, hadd, q00⟩ := hI k hkn
      have q2 := hc.cellA q00 (fun h => h)
      subst hpa
      have hx : amtB l[k] = true := List.all_eq_true.1 HH.out _ (List.getElem_mem hkn)
      have hsb := sumI_bd _ (all_take HH.out k)
      have hT := sumI_take hkn
      have htl : (l.take k).length ≤ k := List.length_take_le _ _
      generalize l[k] = x at *
      simp [amtB] at hx
      have hpl := fun W => plus239 (sumI (l.take k)) x W hsb.1 (by omega) hx.1 hx.2
      have HP := Lib.hid hpl
      have HT := Lib.hid hT
      have Hc := Lib.hid hc
      have HC := Lib.hid hC
      clear hpl hT hc hC q00
      go_wp2_with (go_at_call 239; refine (HP.out _).mono ?_; rintro e w2 ⟨rfl, hc2⟩; have C2 := Lib.hid (HC.out.chg hc2 (fun h => h)); have Hc2 := Lib.hid (Chg.step Hc.out hc2 (fun _ h => h.elim)); have z2 := C2.out.lt; have y0 := C2.out.cell 0; have y1 := C2.out.cell 1; have g0 := C2.out.frozen 0; have g1 := C2.out.frozen 1; simp only [List.getElem?_toArray, List.getElem?_cons_zero, List.getElem?_cons_succ] at y0 y1; clear hc2)
      refine ⟨⟨k + 1, by omega, by go_num, ?_, ?_⟩, by simp [intOf]; omega⟩
      · exact Chg.setCell (Chg.setCell Hc2.out ⟨w.heap.size, 0, none⟩ _ (.inr (Nat.le_refl _))) ⟨w.heap.size, 1, none⟩ _ (.inr (Nat.le_refl _))
      · have := (C2.out.set 0 (.int .i64 0)).set 1 (.int .u64 (sumI (l.take k) + x))
        rw [HT.out]
        simpa using this
    · obtain rfl : k = l.length := by omega
      rw [List.take_length] at *
      have hdiv : sumI l / 9223372036854775808 = 0 := by omega
      have Hc := Lib.hid hc
      clear hc hkn
      go_wp2
      go_ret2
      exact ⟨rfl, Hc.out⟩

theorem within198 (n : Int) (w : World) : Calls Tryd.prog 198 #[.int .i64 n, .int .i64 1000000000000000] w fun e w' => e = .returned (.bool (amtB n)) ∧ w = w' := by
  unfold amtB
  by_cases h : 0 ≤ n
  · have h' : decide (0 ≤ n) = true := by simpa using h
    go_enter Tryd.func198, Tryd.ntmps198
    go_wp2
    go_ret
    simp [h']
  · have h' : decide (0 ≤ n) = false := by simpa using h
    go_enter Tryd.func198, Tryd.ntmps198
    go_wp2
    go_ret
    simp

/-- Amounts, added: the sum, or that it is too great. -/
def totV (er : Value) (s : Int) : Value := if s ≤ 1000000000000000 then .tuple #[.int .i64 s, .nilIface] else .tuple #[.int .i64 0, er]

set_option maxHeartbeats 2000000 in
theorem total157 (er v : Value) (l : List Int) (w : World) (hE : w.cell? ⟨2, 0, none⟩ = some er) (hI : IntsAt w v l) (hl : l.length ≤ 100) (h : l.all amtB = true) :
    Calls Tryd.prog 157 #[v] w fun e w' => e = .returned (totV er (sumI l)) ∧ Chg S0 w w' := by
  have hS := sum199 v l w hI hl h
  obtain ⟨p, cap, rfl, hcap, hI⟩ := hI
  have HH := Lib.hid h
  have HS := Lib.hid hS
  have hz := World.block_lt_of_cell? _ _ hE
  have HE := Lib.hid hE
  have hb := sumI_bd l h
  clear h hS hE
  go_enter Tryd.func157, Tryd.ntmps157
  go_wp2
  go_loop [10] (fun i => ∃ k : Nat, k ≤ l.length ∧ i = .int .i64 k) (fun i => l.length - (intOf i).toNat)
  case atStart => exact ⟨0, Nat.zero_le _, rfl⟩
  case round =>
    obtain ⟨k, hk, rfl⟩ := hrel
    by_cases hkn : k < l.length
    · have hkn' : decide ((k : Int) < l.length) = true := by simp; omega
      obtain ⟨a, pb, po, ps, hpa, hadd, q0⟩ := hI k hkn
      subst hpa
      have hx : amtB l[k] = true := List.all_eq_true.1 HH.out _ (List.getElem_mem hkn)
      generalize l[k] = x at *
      have hw := fun W => within198 x W
      rw [hx] at hw
      have HW := Lib.hid hw
      clear hw
      go_wp2_with (go_at_call 198; refine (HW.out _).mono ?_; rintro e w' ⟨rfl, rfl⟩)
      exact ⟨⟨k + 1, by omega, by go_num⟩, by simp [intOf]; omega⟩
    · obtain rfl : k = l.length := by omega
      clear hkn
      by_cases hs : sumI l ≤ 1000000000000000
      · have hs' : decide (1000000000000000 < sumI l) = false := by simp; omega
        have hv : totV er (sumI l) = .tuple #[.int .i64 (sumI l), .nilIface] := by unfold totV; rw [if_pos hs]
        have HV := Lib.hid hv
        clear hv
        go_wp2_with (go_at_call 199; refine HS.out.mono ?_; rintro e w2 ⟨rfl, hc2⟩; have Hc2 := Lib.hid hc2; clear hc2)
        go_ret2
        exact ⟨by rw [HV.out]; rfl, Hc2.out⟩
      · have hs' : decide (1000000000000000 < sumI l) = true := by simp; omega
        have hv : totV er (sumI l) = .tuple #[.int .i64 0, er] := by unfold totV; rw [if_neg hs]
        have HV := Lib.hid hv
        clear hv
        go_wp2_with (go_at_call 199; refine HS.out.mono ?_; rintro e w2 ⟨rfl, hc2⟩; have Hc2 := Lib.hid hc2; have hE2 := hc2.cell HE.out (fun h => h); have hz2 := hc2.lt hz; clear hc2)
        go_quiet (fail)
        go_wp2
        go_ret2
        exact ⟨by rw [HV.out]; rfl, (Hc2.out.drewN _)⟩
end Go.Proofs.YtljlnojelagmfaaDoor

namespace Go.Proofs.YtljlnojelagmfaaDoor
open Go.RowKit Go.Pl
set_option maxRecDepth 100000

theorem key192 : KeyE Tryd.prog 192 ek3 := by
  refine KeyE.struct Tryd.underlying192 ek3 (fun {a b} e => ?_) (fun w em a => ?_) (fun w a b => ?_) (fun a => ?_)
  · simpa [ek3, Prod.ext_iff] using e
  · have : ∀ n, (Instr.checkKey em (n+2) 192 (ek3 a)).run Tryd.prog w = .ok () w := by
      intro n
      simp [Instr.checkKey, ek3, run_underlying Tryd.underlying192, run_underlying Tryd.underlying3, Result.andThen, go_sem, part]
    exact this 9998
  · have e1 : Tryd.prog.stoodInHeld 192 = false := by kernel_rfl
    simp [Op.equal, Op.maxDepth, ek3, go_sem, e1]
    obtain ⟨a1, a2, a3⟩ := a
    obtain ⟨b1, b2, b3⟩ := b
    by_cases h1 : a1 = b1 <;> by_cases h2 : a2 = b2 <;> by_cases h3 : a3 = b3 <;> simp [h1, h2, h3]
  · have : ∀ n, Instr.sameBits (n+1) (ek3 a) (ek3 a) = true := by intro n; simp [Instr.sameBits, ek3]
    exact this 9999

theorem ints2_at (w : World) (x y : Int) (t : TypeId) : IntsAt (w.alloc (.cells #[.int .i64 x, .int .i64 y] t)) (.slice (some ⟨w.heap.size, 0, none⟩) 2 2) [x, y] := by
  refine ⟨_, 2, rfl, Nat.le_refl _, fun k hk => ⟨⟨w.heap.size, 0, none⟩, w.heap.size, k, none, rfl, by unfold Addr.add; split <;> simp_all, ?_⟩⟩
  match k, hk with
  | 0, _ => simp
  | 1, _ => simp

set_option maxHeartbeats 2000000 in
theorem add103 (er : Value) (b : Nat) (O : List (Grp × Int)) (g : Grp) (n : Int) (w : World) (hE : w.cell? ⟨2, 0, none⟩ = some er) (hne : ∃ t v, er = .iface t v) (hM : MapAt ek3 ekI w b O) (hx : amtB ((lk O g).getD 0) = true) (hn : amtB n = true) :
    Calls Tryd.prog 103 #[.map (some b), ek3 g, .int .i64 n] w fun e w' =>
      ((lk O g).getD 0 + n ≤ 1000000000000000 ∧ e = .returned .nilIface ∧ MapAt ek3 ekI w' b (put O g ((lk O g).getD 0 + n)) ∧ Chg (S1 b) w w') ∨
      (1000000000000000 < (lk O g).getD 0 + n ∧ e = .returned er ∧ Chg S0 w w') := by
  obtain ⟨g1, g2, g3⟩ := g
  obtain ⟨x, hxx⟩ : ∃ x, (lk O (g1, g2, g3)).getD 0 = x := ⟨_, rfl⟩
  rw [hxx] at hx ⊢
  have hlk := hM.lt
  have hz := World.block_lt_of_cell? _ _ hE
  have hE1 : ((w.alloc (.cells #[.int .i64 g1, .int .i64 g2, .int .i64 g3] 192)).alloc (.cells #[.int .i64 x, .int .i64 n] 2)).cell? ⟨2, 0, none⟩ = some er := ((((Chg.refl S0 w).alloc _).alloc _).cell hE (fun h => h))
  have hT := total157 er _ [x, n] _ hE1 (ints2_at _ x n 2) (by simp) (by simp [hx, hn])
  have hsum : sumI [x, n] = x + n := by simp [sumI]
  rw [hsum] at hT
  simp only [World.size_alloc] at hT
  have hM1 := hM.alloc (.cells #[.int .i64 g1, .int .i64 g2, .int .i64 g3] 192)
  have HT := Lib.hid hT
  have HX := Lib.hid hxx
  show Calls _ _ #[_, .agg #[.int .i64 g1, .int .i64 g2, .int .i64 g3], _] _ _
  obtain ⟨t, v, rfl⟩ := hne
  clear hT hsum hE1 hxx
  by_cases hs : x + n ≤ 1000000000000000
  · have hv : totV (.iface t v) (x + n) = .tuple #[.int .i64 (x + n), .nilIface] := by unfold totV; rw [if_pos hs]
    have HV := Lib.hid hv
    clear hv
    go_enter Tryd.func103, Tryd.ntmps103
    go_wp2_with (first
      | (at_lookup; refine wpList_lookupI rfl _ _ 189 rfl 192 2 key192 Tryd.underlying189 (zero2 _) b O rfl hM1 (g1, g2, g3) rfl ?_; rw [HX.out])
      | (go_at_call 157; refine HT.out.mono ?_; rintro e w2 ⟨rfl, hc2⟩; rw [HV.out]; have j0 := hc2.cell (b := w.heap.size) (o := 0) (v := .int .i64 g1) (by simp [go_sem]) (fun h => h); have j1 := hc2.cell (b := w.heap.size) (o := 1) (v := .int .i64 g2) (by simp [go_sem]) (fun h => h); have j2 := hc2.cell (b := w.heap.size) (o := 2) (v := .int .i64 g3) (by simp [go_sem]) (fun h => h); have hM2 := (hM1.alloc (.cells #[.int .i64 x, .int .i64 n] 2)).chg hc2 (fun h => h); have Hc2 := Lib.hid hc2; clear hc2)
      | (at_mapUpdate; refine wpList_update rfl _ _ _ 189 rfl 192 2 key192 Tryd.underlying189 b O rfl hM2 (g1, g2, g3) (x + n) rfl rfl ?_; intro w3 hM3 hC3))
    go_ret
    exact .inl ⟨by omega, rfl, hM3, Chg.step (Chg.step (((Chg.refl _ _).alloc _).alloc _) Hc2.out (fun _ h => h.elim)) hC3 (fun k hk => .inl hk)⟩
  · have hv : totV (.iface t v) (x + n) = .tuple #[.int .i64 0, .iface t v] := by unfold totV; rw [if_neg hs]
    have HV := Lib.hid hv
    clear hv
    go_enter Tryd.func103, Tryd.ntmps103
    go_wp2_with (first
      | (at_lookup; refine wpList_lookupI rfl _ _ 189 rfl 192 2 key192 Tryd.underlying189 (zero2 _) b O rfl hM1 (g1, g2, g3) rfl ?_; rw [HX.out])
      | (go_at_call 157; refine HT.out.mono ?_; rintro e w2 ⟨rfl, hc2⟩; rw [HV.out]; have Hc2 := Lib.hid hc2; clear hc2))
    go_ret
    exact .inr ⟨by omega, rfl, Chg.step (((Chg.refl _ _).alloc _).alloc _) Hc2.out (fun _ h => h.elim)⟩

def gL (l : List ((Int × Int) × Int)) : Int × Int → Int := fun c => (lk l c).getD 0

set_option maxHeartbeats 1000000 in
theorem capped158 (tb : Nat) (m : Option Nat) (c b n : Int) (l : List ((Int × Int) × Int)) (w : World) (hL : TabAt 86 w tb m l) :
    Calls Tryd.prog 158 #[.pointer (some ⟨tb, 0, .none⟩), ek2 (c, b), .int .i64 n] w fun e w' => e = .returned (.int .i64 (capV (gL l (c, b)) n)) ∧ Chg S0 w w' := by
  have c0 := hL.cells.cell 0
  simp only [List.getElem?_toArray, List.getElem?_cons_zero] at c0
  have hlt := hL.cells.lt
  show Calls _ _ #[_, .agg #[.int .i64 c, .int .i64 b], _] _ _
  cases m with
  | none =>
    have hn : l = [] := hL.map
    subst hn
    have hv : capV (gL [] (c, b)) n = n := by simp [gL, capV, lk]
    rw [hv]
    have hlk : ∀ (w : World), Sem.run Tryd.prog (Instr.lookup 84 (.map none) (.agg #[.int .i64 c, .int .i64 b]) false) w = .ok (.int .i64 0) w := fun w => lookup_nil key89 Tryd.underlying84 (zero2 w) (c, b) false
    clear hv
    go_enter Tryd.func158, Tryd.ntmps158
    go_wp2
    refine region_tail 5 (by kernel_rfl) (by kernel_rfl) ?_
    simp only [List.take_succ_cons, List.take_zero, List.drop_succ_cons, List.drop_zero]
    repeat still_step
    refine wpStill_nil ?_
    go_wp2
    go_ret
    exact ⟨rfl, by repeat (first | exact Chg.refl _ _ | apply Chg.drew | apply Chg.alloc)⟩
  | some x =>
    have hM : MapAt ek2 ekI w x l := hL.map
    have hM0 := hM.alloc (.cells #[.int .i64 c, .int .i64 b] 89)
    obtain ⟨y, hy⟩ : ∃ y, gL l (c, b) = y := ⟨_, rfl⟩
    rw [hy]
    have hy' : (lk l (c, b)).getD 0 = y := hy
    have HY := Lib.hid hy'
    clear hy hy'
    by_cases h0 : 0 < y
    · have h0' : decide (0 < y) = true := by simpa using h0
      have hv : capV y n = min n y := by unfold capV; rw [if_pos h0]
      rw [hv]
      clear hv
      go_enter Tryd.func158, Tryd.ntmps158
      go_wp2
      refine region_tail 5 (by kernel_rfl) (by kernel_rfl) ?_
      simp only [List.take_succ_cons, List.take_zero, List.drop_succ_cons, List.drop_zero]
      repeat still_step
      refine wpStill_nil ?_
      go_wp2_with (first | (at_lookup; refine wpList_lookupI rfl _ _ 84 rfl 89 2 key89 Tryd.underlying84 (zero2 _) x l rfl hM0.drew (c, b) rfl ?_; rw [HY.out]))
      go_ret
      exact ⟨rfl, by repeat (first | exact Chg.refl _ _ | apply Chg.drew | apply Chg.alloc)⟩
    · have h0' : decide (0 < y) = false := by simpa using h0
      have hv : capV y n = n := by unfold capV; rw [if_neg h0]
      rw [hv]
      clear hv
      go_enter Tryd.func158, Tryd.ntmps158
      go_wp2
      refine region_tail 5 (by kernel_rfl) (by kernel_rfl) ?_
      simp only [List.take_succ_cons, List.take_zero, List.drop_succ_cons, List.drop_zero]
      repeat still_step
      refine wpStill_nil ?_
      go_wp2_with (first | (at_lookup; refine wpList_lookupI rfl _ _ 84 rfl 89 2 key89 Tryd.underlying84 (zero2 _) x l rfl hM0.drew (c, b) rfl ?_; rw [HY.out]))
      go_ret
      exact ⟨rfl, by repeat (first | exact Chg.refl _ _ | apply Chg.drew | apply Chg.alloc)⟩

/-- What a group's limit is of, and where the group goes: by issuers, by currencies, by classes. -/
def lim1 (g : Grp) : Int × Int := (3, g.2.2)
def lim2 (g : Grp) : Int × Int := (2, g.2.1)
def lim3 (g : Grp) : Int × Int := (1, g.1)
def to1 (g : Grp) : Grp := (g.1, g.2.1, 0)
def to2 (g : Grp) : Grp := (g.1, 0, 0)
def to3 (_ : Grp) : Grp := (0, 0, 0)

theorem to104 (g : Grp) (w : World) : Calls Tryd.prog 104 #[ek3 g] w fun e w' => e = .returned (.tuple #[ek2 (lim1 g), ek3 (to1 g)]) ∧ Chg S0 w w' := by
  obtain ⟨g1, g2, g3⟩ := g
  show Calls _ _ #[.agg #[.int .i64 g1, .int .i64 g2, .int .i64 g3]] _ _
  go_enter Tryd.func104, Tryd.ntmps104
  go_wp2
  go_region
  go_wp2
  exact bodyPost_ret (v := .tuple #[ek2 (3, g3), ek3 (g1, g2, 0)]) (by simp [results, Tryd.results104, go_sem, ek2, ek3]) rfl ⟨rfl, by repeat (first | exact Chg.refl _ _ | apply Chg.drew | apply Chg.alloc)⟩
theorem to105 (g : Grp) (w : World) : Calls Tryd.prog 105 #[ek3 g] w fun e w' => e = .returned (.tuple #[ek2 (lim2 g), ek3 (to2 g)]) ∧ Chg S0 w w' := by
  obtain ⟨g1, g2, g3⟩ := g
  show Calls _ _ #[.agg #[.int .i64 g1, .int .i64 g2, .int .i64 g3]] _ _
  go_enter Tryd.func105, Tryd.ntmps105
  go_wp2
  go_region
  go_wp2
  exact bodyPost_ret (v := .tuple #[ek2 (2, g2), ek3 (g1, 0, 0)]) (by simp [results, Tryd.results105, go_sem, ek2, ek3]) rfl ⟨rfl, by repeat (first | exact Chg.refl _ _ | apply Chg.drew | apply Chg.alloc)⟩
theorem to106 (g : Grp) (w : World) : Calls Tryd.prog 106 #[ek3 g] w fun e w' => e = .returned (.tuple #[ek2 (lim3 g), ek3 (to3 g)]) ∧ Chg S0 w w' := by
  obtain ⟨g1, g2, g3⟩ := g
  show Calls _ _ #[.agg #[.int .i64 g1, .int .i64 g2, .int .i64 g3]] _ _
  go_enter Tryd.func106, Tryd.ntmps106
  go_wp2
  exact bodyPost_ret (v := .tuple #[ek2 (1, g1), ek3 (0, 0, 0)]) (by simp [results, Tryd.results106, go_sem, ek2, ek3]) rfl ⟨rfl, by repeat (first | exact Chg.refl _ _ | apply Chg.drew | apply Chg.alloc)⟩
end Go.Proofs.YtljlnojelagmfaaDoor

namespace Go.Proofs.YtljlnojelagmfaaDoor
open Go.RowKit Go.Pl
set_option maxRecDepth 100000

theorem _root_.Go.Pl.OutIs.perm {T : Grp → Grp} {h : Grp → Int → Int} {O L M : List (Grp × Int)} (ho : OutIs T h O L) (hp : L.Perm M) : OutIs T h O M :=
  ⟨fun x => (ho.1 x).trans (cameTo_perm hp x), ho.2.1, fun p hp' => by obtain ⟨q, hq, e⟩ := ho.2.2 p hp'; exact ⟨q, hp.mem_iff.1 hq, e⟩⟩
theorem _root_.Go.Pl.OutIs.amt {T : Grp → Grp} {h : Grp → Int → Int} {O L : List (Grp × Int)} (ho : OutIs T h O L) (g : Grp) : amtB ((lk O g).getD 0) = true := by
  cases hk : lk O g with
  | none => rfl
  | some y => exact ho.2.1 _ (mem_of_lk hk)

theorem add103_ok (er : Value) (b : Nat) (O : List (Grp × Int)) (g : Grp) (n : Int) (w : World) (hE : w.cell? ⟨2, 0, none⟩ = some er) (hne : ∃ t v, er = .iface t v) (hM : MapAt ek3 ekI w b O) (hx : amtB ((lk O g).getD 0) = true) (hn : amtB n = true) (hs : (lk O g).getD 0 + n ≤ 1000000000000000) :
    Calls Tryd.prog 103 #[.map (some b), ek3 g, .int .i64 n] w fun e w' => e = .returned .nilIface ∧ MapAt ek3 ekI w' b (put O g ((lk O g).getD 0 + n)) ∧ Chg (S1 b) w w' :=
  (add103 er b O g n w hE hne hM hx hn).mono fun e w' h => by
    rcases h with ⟨_, h⟩ | ⟨h, _⟩
    · exact h
    · omega
theorem add103_over (er : Value) (b : Nat) (O : List (Grp × Int)) (g : Grp) (n : Int) (w : World) (hE : w.cell? ⟨2, 0, none⟩ = some er) (hne : ∃ t v, er = .iface t v) (hM : MapAt ek3 ekI w b O) (hx : amtB ((lk O g).getD 0) = true) (hn : amtB n = true) (hs : 1000000000000000 < (lk O g).getD 0 + n) :
    Calls Tryd.prog 103 #[.map (some b), ek3 g, .int .i64 n] w fun e w' => e = .returned er ∧ Chg S0 w w' :=
  (add103 er b O g n w hE hne hM hx hn).mono fun e w' h => by
    rcases h with ⟨h, _⟩ | ⟨_, h⟩
    · omega
    · exact h

/-- What step comes to. -/
def StepPost (T : Grp → Grp) (h : Grp → Int → Int) (L : List (Grp × Int)) (er : Value) (w : World) (e : Ending) (w' : World) : Prop :=
  (e = .returned (.tuple #[.map none, er]) ∧ (∃ x, 1000000000000000 < cameTo T h L x) ∧ Chg S0 w w') ∨
  ∃ ob O, e = .returned (.tuple #[.map (some ob), .nilIface]) ∧ MapAt ek3 ekI w' ob O ∧ OutIs T h O L ∧ w.heap.size ≤ ob ∧ Chg S0 w w'

theorem amt_cap {lim n : Int} (h : amtB n = true) : amtB (capV lim n) = true := by
  simp [amtB] at h
  have := capV_nonneg (lim := lim) h.1
  simp [amtB]
  omega

theorem over_of {T : Grp → Grp} {h : Grp → Int → Int} {O L done pre post : List (Grp × Int)} {p : Grp × Int} (ho : OutIs T h O done) (hp : (done ++ (pre ++ p :: post)).Perm L) (hh : ∀ p ∈ L, 0 ≤ h p.1 p.2) (hs : 1000000000000000 < (lk O (T p.1)).getD 0 + h p.1 p.2) :
    1000000000000000 < cameTo T h L (T p.1) := by
  have hp' : ((done ++ [p]) ++ (pre ++ post)).Perm L := by
    refine List.Perm.trans ?_ hp
    rw [List.append_assoc]
    exact List.Perm.append_left done (by simpa using (List.perm_middle (a := p) (l₁ := pre) (l₂ := post)).symm)
  rw [← cameTo_perm hp', cameTo_append, cameTo_snoc, if_pos rfl, ← ho.1]
  have : 0 ≤ cameTo T h (pre ++ post) (T p.1) := cameTo_nonneg (fun q hq => hh q (hp'.mem_iff.1 (by simp only [List.mem_append] at *; right; exact hq))) _
  omega


set_option maxHeartbeats 8000000 in
theorem step104 (er : Value) (tb : Nat) (m : Option Nat) (l : List ((Int × Int) × Int)) (b : Nat) (L : List (Grp × Int)) (w : World) (hE : w.cell? ⟨2, 0, none⟩ = some er) (hne : ∃ t v, er = .iface t v) (hL : TabAt 86 w tb m l) (hM : MapAt ek3 ekI w b L) (hA : ∀ p ∈ L, amtB p.2 = true) :
    Calls Tryd.prog 107 #[.pointer (some ⟨tb, 0, .none⟩), .map (some b), .func (.func 104) #[] #[]] w fun e w' => StepPost to1 (fun g n => capV (gL l (lim1 g)) n) L er w e w' := by
  have hlb := hM.lt
  have hltb := hL.cells.lt
  have hz := World.block_lt_of_cell? _ _ hE
  have hmm := @run_makeMap Tryd.prog
  have hO0 := MapAt.new ek3 ekI w
  have HE := Lib.hid hE
  have HL := Lib.hid hL
  have HA := Lib.hid hA
  have hM1 := hM.alloc (.map #[] 0)
  have HM := Lib.hid hM
  clear hE hL hA hM
  go_enter Tryd.func107, Tryd.ntmps107
  go_wp2_with (first
    | (at_range; refine wpList_range rfl _ 189 rfl 192 2 Tryd.underlying189 b L rfl hM1 ?_; intro w0 hrg0 hg0 hs0))
  have hO1 : MapAt ek3 ekI w0 w.heap.size [] := hO0.chg hg0 (fun h => h)
  have hc0 : Chg S0 w w0 := Chg.step ((Chg.refl _ _).alloc _) hg0 (fun _ h => h.elim)
  simp only [World.size_alloc] at hrg0 hs0
  have hb0 : w.heap.size < w0.heap.size := by omega
  have HG := Lib.hid hO1
  have HR := Lib.hid hrg0
  have HC := Lib.hid hc0
  clear hO0 hO1 hrg0 hc0 hg0 hM1 hs0
  go_loopw [17] (fun _ wr => ∃ (left done O : List (Grp × Int)), IterAt ek3 ekI wr b (w.heap.size + 1) L left ∧ (done ++ left).Perm L ∧ MapAt ek3 ekI wr w.heap.size O ∧ OutIs to1 (fun g n => capV (gL l (lim1 g)) n) O done ∧ Chg S0 w wr) (fun _ wr => wr.rangeLeft b (w.heap.size + 1))
  case atStart => exact ⟨L, [], [], HR.out, by simp, HG.out, OutIs.nil _ _, HC.out⟩
  case round =>
    obtain ⟨left, done, O, hI, hP, hO, hOut, hc⟩ := hrel
    have HI := Lib.hid hI
    have HP := Lib.hid hP
    have HO := Lib.hid hO
    have Hout := Lib.hid hOut
    have Hc := Lib.hid hc
    clear hP hO hOut hc
    go_wp2_with (first
      | (at_next; refine wpList_next rfl _ rfl b (w.heap.size + 1) L left rfl hI ?_ ?_))
    · intro h0
      subst h0
      clear hI
      go_wp2
      go_ret2
      refine .inr ⟨_, O, rfl, HO.out, Hout.out.perm (by simpa using HP.out), Nat.le_refl _, Hc.out⟩
    · intro pre p1 p2 p3 n post w2 hleft hI2 hc2 hs2 hen
      clear hI
      unfold ek3 ekI at hen
      subst hleft
      have hmem : ((p1, p2, p3), n) ∈ L := HP.out.mem_iff.1 (by simp)
      have hn : amtB n = true := HA.out _ hmem
      have hcn : amtB (capV (gL l (3, p3)) n) = true := amt_cap hn
      have hx := Hout.out.amt (p1, p2, 0)
      obtain ⟨z, hz0⟩ : ∃ z, (lk O (p1, p2, 0)).getD 0 = z := ⟨_, rfl⟩
      obtain ⟨cv, hcv⟩ : ∃ cv, capV (gL l (3, p3)) n = cv := ⟨_, rfl⟩
      have hnn : ∀ q ∈ L, 0 ≤ capV (gL l (lim1 q.1)) q.2 := fun q hq => by have := HA.out q hq; simp [amtB] at this; exact (capV_nonneg this.1).1
      have Hcw2 : Hid (Chg S0 w w2) := Lib.hid (Chg.step Hc.out hc2 (fun k hk => .inr (by unfold S1 at hk; omega)))
      have HI2 := Lib.hid hI2
      have HO2 : Hid (MapAt ek3 ekI w2 w.heap.size O) := Lib.hid (HO.out.chg hc2 (by unfold S1; omega))
      have HNN := Lib.hid hnn
      have HN := Lib.hid hcn
      have HX := Lib.hid hx
      have Hcv := Lib.hid hcv
      have Hz0 := Lib.hid hz0
      clear hI2 hc2 hs2 hmem hn hcn hx hnn hcv hz0
      have hto : ∀ W, Calls Tryd.prog 104 #[.agg #[.int .i64 p1, .int .i64 p2, .int .i64 p3]] W fun e w' => e = .returned (.tuple #[.agg #[.int .i64 3, .int .i64 p3], .agg #[.int .i64 p1, .int .i64 p2, .int .i64 0]]) ∧ Chg S0 W w' := fun W => to104 (p1, p2, p3) W
      have HTo := Lib.hid hto
      clear hto
      go_wp2_with fail
      refine (HTo.out _).mono ?_
      rintro e w3 ⟨rfl, hc3⟩
      have Hcw3 : Hid (Chg S0 w2 w3) := Lib.hid (Chg.step ((Chg.refl _ _).alloc _) hc3 (fun _ h => h.elim))
      clear hc3
      go_wp2_with fail
      have hW0 : CellsAt ((w3.alloc (.cells #[.int .i64 3, .int .i64 p3] 89)).alloc (.cells #[.int .i64 p1, .int .i64 p2, .int .i64 0] 192)).drew w3.heap.size #[.int .i64 3, .int .i64 p3] 89 := ((CellsAt.new w3 _ _).alloc _).drew
      have hW1 : CellsAt ((w3.alloc (.cells #[.int .i64 3, .int .i64 p3] 89)).alloc (.cells #[.int .i64 p1, .int .i64 p2, .int .i64 0] 192)).drew (w3.heap.size + 1) #[.int .i64 p1, .int .i64 p2, .int .i64 0] 192 := by have := CellsAt.new (w3.alloc (.cells #[.int .i64 3, .int .i64 p3] 89)) #[.int .i64 p1, .int .i64 p2, .int .i64 0] 192; simp only [World.size_alloc] at this; exact this.drew
      have hWc : Chg S0 w3 ((w3.alloc (.cells #[.int .i64 3, .int .i64 p3] 89)).alloc (.cells #[.int .i64 p1, .int .i64 p2, .int .i64 0] 192)).drew := (((Chg.refl _ _).alloc _).alloc _).drew
      have hz3 : w.heap.size < w3.heap.size := Nat.lt_of_lt_of_le HO2.out.lt Hcw3.out.size
      have HW0 := Lib.hid hW0
      have HW1 := Lib.hid hW1
      have HWc := Lib.hid hWc
      clear hW0 hW1 hWc
      by_cases hs : z + cv ≤ 1000000000000000
      · go_region_held3 (fun w' => w'.cell? ⟨w3.heap.size, 0, none⟩ = some (.int .i64 3) ∧ w'.cell? ⟨w3.heap.size, 1, none⟩ = some (.int .i64 p3) ∧ w'.cell? ⟨w3.heap.size + 1, 0, none⟩ = some (.int .i64 p1) ∧ w'.cell? ⟨w3.heap.size + 1, 1, none⟩ = some (.int .i64 p2) ∧ w'.cell? ⟨w3.heap.size + 1, 2, none⟩ = some (.int .i64 0)) (go_keep)
          (first
          | (go_at_call 158; refine (capped158 tb m 3 p3 n l _ (((HL.out.chg Hcw2.out (fun h => h) (fun _ _ h => h)).chg Hcw3.out (fun h => h) (fun _ _ h => h)).chg HWc.out (fun h => h) (fun _ _ h => h))).mono ?_; rintro e w4 ⟨rfl, hc4⟩; rw [Hcv.out]; have y0 := hc4.cell (b := w3.heap.size) (o := 0) (v := .int .i64 3) (by simp) (fun h => h); have y1 := hc4.cell (b := w3.heap.size) (o := 1) (v := .int .i64 p3) (by simp) (fun h => h); have y2 := hc4.cell (b := (w3.heap.size + 1)) (o := 0) (v := .int .i64 p1) (by simp) (fun h => h); have y3 := hc4.cell (b := (w3.heap.size + 1)) (o := 1) (v := .int .i64 p2) (by simp) (fun h => h); have y4 := hc4.cell (b := (w3.heap.size + 1)) (o := 2) (v := .int .i64 0) (by simp) (fun h => h); have C4 := Lib.hid (Chg.step HWc.out hc4 (fun _ h => h.elim)); clear hc4)
          | (go_at_call 103; refine (add103_ok er w.heap.size O (p1, p2, 0) cv _ (C4.out.cell (Hcw3.out.cell (Hcw2.out.cell HE.out (fun h => h)) (fun h => h)) (fun h => h)) hne ((HO2.out.chg Hcw3.out (fun h => h)).chg C4.out (fun h => h)) HX.out (by rw [← Hcv.out]; exact HN.out) (by rw [Hz0.out]; exact hs)).mono ?_; rintro e w5 ⟨rfl, hM5, hc5⟩; have hn1 : ¬ S1 w.heap.size w3.heap.size := (by unfold S1; omega); have hn2 : ¬ S1 w.heap.size (w3.heap.size + 1) := (by unfold S1; omega); have u0 := hc5.cell y0 hn1; have u1 := hc5.cell y1 hn1; have u2 := hc5.cell y2 hn2; have u3 := hc5.cell y3 hn2; have u4 := hc5.cell y4 hn2; have C5 := Lib.hid hc5; have M5 := Lib.hid hM5; clear hc5 hM5))
        go_wp2_with fail
        have cI : IterAt ek3 ekI w5 b (w.heap.size + 1) L (pre ++ post) := ((HI2.out.chg Hcw3.out (fun h => h) (fun h => h)).chg C4.out (fun h => h) (fun h => h)).chg C5.out (by unfold S1; omega) (by unfold S1; omega)
        refine ⟨⟨pre ++ post, done ++ [((p1, p2, p3), n)], _, cI, ?_, M5.out, ?_, ?_⟩, ?_⟩
        · refine List.Perm.trans ?_ HP.out
          rw [List.append_assoc]
          exact List.Perm.append_left done (by simpa using (List.perm_middle (a := ((p1, p2, p3), n)) (l₁ := pre) (l₂ := post)).symm)
        · have := Hout.out.snoc ((p1, p2, p3), n) (HNN.out _ (HP.out.mem_iff.1 (by simp))) (by show (lk O (p1, p2, 0)).getD 0 + capV (gL l (3, p3)) n ≤ _; rw [Hz0.out, Hcv.out]; exact hs)
          have e2 : capV (gL l (lim1 (p1, p2, p3))) n = cv := Hcv.out
          simp only [e2] at this
          exact this
        · exact Chg.step (Chg.step (Chg.step Hcw2.out Hcw3.out (fun _ h => h.elim)) C4.out (fun _ h => h.elim)) C5.out (fun k hk => .inr (by unfold S1 at hk; omega))
        · rw [cI.left_eq, HI.out.left_eq]; simp
      · have hs2 : 1000000000000000 < z + cv := by omega
        obtain ⟨et, ev, rfl⟩ := hne
        go_region_held3 (fun w' => w'.cell? ⟨w3.heap.size, 0, none⟩ = some (.int .i64 3) ∧ w'.cell? ⟨w3.heap.size, 1, none⟩ = some (.int .i64 p3) ∧ w'.cell? ⟨w3.heap.size + 1, 0, none⟩ = some (.int .i64 p1) ∧ w'.cell? ⟨w3.heap.size + 1, 1, none⟩ = some (.int .i64 p2) ∧ w'.cell? ⟨w3.heap.size + 1, 2, none⟩ = some (.int .i64 0)) (go_keep)
          (first
          | (go_at_call 158; refine (capped158 tb m 3 p3 n l _ (((HL.out.chg Hcw2.out (fun h => h) (fun _ _ h => h)).chg Hcw3.out (fun h => h) (fun _ _ h => h)).chg HWc.out (fun h => h) (fun _ _ h => h))).mono ?_; rintro e w4 ⟨rfl, hc4⟩; rw [Hcv.out]; have y0 := hc4.cell (b := w3.heap.size) (o := 0) (v := .int .i64 3) (by simp) (fun h => h); have y1 := hc4.cell (b := w3.heap.size) (o := 1) (v := .int .i64 p3) (by simp) (fun h => h); have y2 := hc4.cell (b := (w3.heap.size + 1)) (o := 0) (v := .int .i64 p1) (by simp) (fun h => h); have y3 := hc4.cell (b := (w3.heap.size + 1)) (o := 1) (v := .int .i64 p2) (by simp) (fun h => h); have y4 := hc4.cell (b := (w3.heap.size + 1)) (o := 2) (v := .int .i64 0) (by simp) (fun h => h); have C4 := Lib.hid (Chg.step HWc.out hc4 (fun _ h => h.elim)); clear hc4)
          | (go_at_call 103; refine (add103_over (.iface et ev) w.heap.size O (p1, p2, 0) cv _ (C4.out.cell (Hcw3.out.cell (Hcw2.out.cell HE.out (fun h => h)) (fun h => h)) (fun h => h)) ⟨et, ev, rfl⟩ ((HO2.out.chg Hcw3.out (fun h => h)).chg C4.out (fun h => h)) HX.out (by rw [← Hcv.out]; exact HN.out) (by rw [Hz0.out]; exact hs2)).mono ?_; rintro e w5 ⟨rfl, hc5⟩; have u0 := hc5.cell y0 (fun h => h); have u1 := hc5.cell y1 (fun h => h); have u2 := hc5.cell y2 (fun h => h); have u3 := hc5.cell y3 (fun h => h); have u4 := hc5.cell y4 (fun h => h); have C5 := Lib.hid hc5; clear hc5))
        go_wp2_with fail
        go_ret2
        refine .inl ⟨rfl, ⟨to1 (p1, p2, p3), over_of (p := ((p1, p2, p3), n)) Hout.out HP.out HNN.out ?_⟩, Chg.step (Chg.step (Chg.step Hcw2.out Hcw3.out (fun _ h => h.elim)) C4.out (fun _ h => h.elim)) C5.out (fun _ h => h.elim)⟩
        show _ < (lk O (p1, p2, 0)).getD 0 + capV (gL l (3, p3)) n
        rw [Hz0.out, Hcv.out]
        exact hs2


set_option maxHeartbeats 8000000 in
theorem step105 (er : Value) (tb : Nat) (m : Option Nat) (l : List ((Int × Int) × Int)) (b : Nat) (L : List (Grp × Int)) (w : World) (hE : w.cell? ⟨2, 0, none⟩ = some er) (hne : ∃ t v, er = .iface t v) (hL : TabAt 86 w tb m l) (hM : MapAt ek3 ekI w b L) (hA : ∀ p ∈ L, amtB p.2 = true) :
    Calls Tryd.prog 107 #[.pointer (some ⟨tb, 0, .none⟩), .map (some b), .func (.func 105) #[] #[]] w fun e w' => StepPost to2 (fun g n => capV (gL l (lim2 g)) n) L er w e w' := by
  have hlb := hM.lt
  have hltb := hL.cells.lt
  have hz := World.block_lt_of_cell? _ _ hE
  have hmm := @run_makeMap Tryd.prog
  have hO0 := MapAt.new ek3 ekI w
  have HE := Lib.hid hE
  have HL := Lib.hid hL
  have HA := Lib.hid hA
  have hM1 := hM.alloc (.map #[] 0)
  have HM := Lib.hid hM
  clear hE hL hA hM
  go_enter Tryd.func107, Tryd.ntmps107
  go_wp2_with (first
    | (at_range; refine wpList_range rfl _ 189 rfl 192 2 Tryd.underlying189 b L rfl hM1 ?_; intro w0 hrg0 hg0 hs0))
  have hO1 : MapAt ek3 ekI w0 w.heap.size [] := hO0.chg hg0 (fun h => h)
  have hc0 : Chg S0 w w0 := Chg.step ((Chg.refl _ _).alloc _) hg0 (fun _ h => h.elim)
  simp only [World.size_alloc] at hrg0 hs0
  have hb0 : w.heap.size < w0.heap.size := by omega
  have HG := Lib.hid hO1
  have HR := Lib.hid hrg0
  have HC := Lib.hid hc0
  clear hO0 hO1 hrg0 hc0 hg0 hM1 hs0
  go_loopw [17] (fun _ wr => ∃ (left done O : List (Grp × Int)), IterAt ek3 ekI wr b (w.heap.size + 1) L left ∧ (done ++ left).Perm L ∧ MapAt ek3 ekI wr w.heap.size O ∧ OutIs to2 (fun g n => capV (gL l (lim2 g)) n) O done ∧ Chg S0 w wr) (fun _ wr => wr.rangeLeft b (w.heap.size + 1))
  case atStart => exact ⟨L, [], [], HR.out, by simp, HG.out, OutIs.nil _ _, HC.out⟩
  case round =>
    obtain ⟨left, done, O, hI, hP, hO, hOut, hc⟩ := hrel
    have HI := Lib.hid hI
    have HP := Lib.hid hP
    have HO := Lib.hid hO
    have Hout := Lib.hid hOut
    have Hc := Lib.hid hc
    clear hP hO hOut hc
    go_wp2_with (first
      | (at_next; refine wpList_next rfl _ rfl b (w.heap.size + 1) L left rfl hI ?_ ?_))
    · intro h0
      subst h0
      clear hI
      go_wp2
      go_ret2
      refine .inr ⟨_, O, rfl, HO.out, Hout.out.perm (by simpa using HP.out), Nat.le_refl _, Hc.out⟩
    · intro pre p1 p2 p3 n post w2 hleft hI2 hc2 hs2 hen
      clear hI
      unfold ek3 ekI at hen
      subst hleft
      have hmem : ((p1, p2, p3), n) ∈ L := HP.out.mem_iff.1 (by simp)
      have hn : amtB n = true := HA.out _ hmem
      have hcn : amtB (capV (gL l (2, p2)) n) = true := amt_cap hn
      have hx := Hout.out.amt (p1, 0, 0)
      obtain ⟨z, hz0⟩ : ∃ z, (lk O (p1, 0, 0)).getD 0 = z := ⟨_, rfl⟩
      obtain ⟨cv, hcv⟩ : ∃ cv, capV (gL l (2, p2)) n = cv := ⟨_, rfl⟩
      have hnn : ∀ q ∈ L, 0 ≤ capV (gL l (lim2 q.1)) q.2 := fun q hq => by have := HA.out q hq; simp [amtB] at this; exact (capV_nonneg this.1).1
      have Hcw2 : Hid (Chg S0 w w2) := Lib.hid (Chg.step Hc.out hc2 (fun k hk => .inr (by unfold S1 at hk; omega)))
      have HI2 := Lib.hid hI2
      have HO2 : Hid (MapAt ek3 ekI w2 w.heap.size O) := Lib.hid (HO.out.chg hc2 (by unfold S1; omega))
      have HNN := Lib.hid hnn
      have HN := Lib.hid hcn
      have HX := Lib.hid hx
      have Hcv := Lib.hid hcv
      have Hz0 := Lib.hid hz0
      clear hI2 hc2 hs2 hmem hn hcn hx hnn hcv hz0
      have hto : ∀ W, Calls Tryd.prog 105 #[.agg #[.int .i64 p1, .int .i64 p2, .int .i64 p3]] W fun e w' => e = .returned (.tuple #[.agg #[.int .i64 2, .int .i64 p2], .agg #[.int .i64 p1, .int .i64 0, .int .i64 0]]) ∧ Chg S0 W w' := fun W => to105 (p1, p2, p3) W
      have HTo := Lib.hid hto
      clear hto
      go_wp2_with fail
      refine (HTo.out _).mono ?_
      rintro e w3 ⟨rfl, hc3⟩
      have Hcw3 : Hid (Chg S0 w2 w3) := Lib.hid (Chg.step ((Chg.refl _ _).alloc _) hc3 (fun _ h => h.elim))
      clear hc3
      go_wp2_with fail
      have hW0 : CellsAt ((w3.alloc (.cells #[.int .i64 2, .int .i64 p2] 89)).alloc (.cells #[.int .i64 p1, .int .i64 0, .int .i64 0] 192)).drew w3.heap.size #[.int .i64 2, .int .i64 p2] 89 := ((CellsAt.new w3 _ _).alloc _).drew
      have hW1 : CellsAt ((w3.alloc (.cells #[.int .i64 2, .int .i64 p2] 89)).alloc (.cells #[.int .i64 p1, .int .i64 0, .int .i64 0] 192)).drew (w3.heap.size + 1) #[.int .i64 p1, .int .i64 0, .int .i64 0] 192 := by have := CellsAt.new (w3.alloc (.cells #[.int .i64 2, .int .i64 p2] 89)) #[.int .i64 p1, .int .i64 0, .int .i64 0] 192; simp only [World.size_alloc] at this; exact this.drew
      have hWc : Chg S0 w3 ((w3.alloc (.cells #[.int .i64 2, .int .i64 p2] 89)).alloc (.cells #[.int .i64 p1, .int .i64 0, .int .i64 0] 192)).drew := (((Chg.refl _ _).alloc _).alloc _).drew
      have hz3 : w.heap.size < w3.heap.size := Nat.lt_of_lt_of_le HO2.out.lt Hcw3.out.size
      have HW0 := Lib.hid hW0
      have HW1 := Lib.hid hW1
      have HWc := Lib.hid hWc
      clear hW0 hW1 hWc
      by_cases hs : z + cv ≤ 1000000000000000
      · go_region_held3 (fun w' => w'.cell? ⟨w3.heap.size, 0, none⟩ = some (.int .i64 2) ∧ w'.cell? ⟨w3.heap.size, 1, none⟩ = some (.int .i64 p2) ∧ w'.cell? ⟨w3.heap.size + 1, 0, none⟩ = some (.int .i64 p1) ∧ w'.cell? ⟨w3.heap.size + 1, 1, none⟩ = some (.int .i64 0) ∧ w'.cell? ⟨w3.heap.size + 1, 2, none⟩ = some (.int .i64 0)) (go_keep)
          (first
          | (go_at_call 158; refine (capped158 tb m 2 p2 n l _ (((HL.out.chg Hcw2.out (fun h => h) (fun _ _ h => h)).chg Hcw3.out (fun h => h) (fun _ _ h => h)).chg HWc.out (fun h => h) (fun _ _ h => h))).mono ?_; rintro e w4 ⟨rfl, hc4⟩; rw [Hcv.out]; have y0 := hc4.cell (b := w3.heap.size) (o := 0) (v := .int .i64 2) (by simp) (fun h => h); have y1 := hc4.cell (b := w3.heap.size) (o := 1) (v := .int .i64 p2) (by simp) (fun h => h); have y2 := hc4.cell (b := (w3.heap.size + 1)) (o := 0) (v := .int .i64 p1) (by simp) (fun h => h); have y3 := hc4.cell (b := (w3.heap.size + 1)) (o := 1) (v := .int .i64 0) (by simp) (fun h => h); have y4 := hc4.cell (b := (w3.heap.size + 1)) (o := 2) (v := .int .i64 0) (by simp) (fun h => h); have C4 := Lib.hid (Chg.step HWc.out hc4 (fun _ h => h.elim)); clear hc4)
          | (go_at_call 103; refine (add103_ok er w.heap.size O (p1, 0, 0) cv _ (C4.out.cell (Hcw3.out.cell (Hcw2.out.cell HE.out (fun h => h)) (fun h => h)) (fun h => h)) hne ((HO2.out.chg Hcw3.out (fun h => h)).chg C4.out (fun h => h)) HX.out (by rw [← Hcv.out]; exact HN.out) (by rw [Hz0.out]; exact hs)).mono ?_; rintro e w5 ⟨rfl, hM5, hc5⟩; have hn1 : ¬ S1 w.heap.size w3.heap.size := (by unfold S1; omega); have hn2 : ¬ S1 w.heap.size (w3.heap.size + 1) := (by unfold S1; omega); have u0 := hc5.cell y0 hn1; have u1 := hc5.cell y1 hn1; have u2 := hc5.cell y2 hn2; have u3 := hc5.cell y3 hn2; have u4 := hc5.cell y4 hn2; have C5 := Lib.hid hc5; have M5 := Lib.hid hM5; clear hc5 hM5))
        go_wp2_with fail
        have cI : IterAt ek3 ekI w5 b (w.heap.size + 1) L (pre ++ post) := ((HI2.out.chg Hcw3.out (fun h => h) (fun h => h)).chg C4.out (fun h => h) (fun h => h)).chg C5.out (by unfold S1; omega) (by unfold S1; omega)
        refine ⟨⟨pre ++ post, done ++ [((p1, p2, p3), n)], _, cI, ?_, M5.out, ?_, ?_⟩, ?_⟩
        · refine List.Perm.trans ?_ HP.out
          rw [List.append_assoc]
          exact List.Perm.append_left done (by simpa using (List.perm_middle (a := ((p1, p2, p3), n)) (l₁ := pre) (l₂ := post)).symm)
        · have := Hout.out.snoc ((p1, p2, p3), n) (HNN.out _ (HP.out.mem_iff.1 (by simp))) (by show (lk O (p1, 0, 0)).getD 0 + capV (gL l (2, p2)) n ≤ _; rw [Hz0.out, Hcv.out]; exact hs)
          have e2 : capV (gL l (lim2 (p1, p2, p3))) n = cv := Hcv.out
          simp only [e2] at this
          exact this
        · exact Chg.step (Chg.step (Chg.step Hcw2.out Hcw3.out (fun _ h => h.elim)) C4.out (fun _ h => h.elim)) C5.out (fun k hk => .inr (by unfold S1 at hk; omega))
        · rw [cI.left_eq, HI.out.left_eq]; simp
      · have hs2 : 1000000000000000 < z + cv := by omega
        obtain ⟨et, ev, rfl⟩ := hne
        go_region_held3 (fun w' => w'.cell? ⟨w3.heap.size, 0, none⟩ = some (.int .i64 2) ∧ w'.cell? ⟨w3.heap.size, 1, none⟩ = some (.int .i64 p2) ∧ w'.cell? ⟨w3.heap.size + 1, 0, none⟩ = some (.int .i64 p1) ∧ w'.cell? ⟨w3.heap.size + 1, 1, none⟩ = some (.int .i64 0) ∧ w'.cell? ⟨w3.heap.size + 1, 2, none⟩ = some (.int .i64 0)) (go_keep)
          (first
          | (go_at_call 158; refine (capped158 tb m 2 p2 n l _ (((HL.out.chg Hcw2.out (fun h => h) (fun _ _ h => h)).chg Hcw3.out (fun h => h) (fun _ _ h => h)).chg HWc.out (fun h => h) (fun _ _ h => h))).mono ?_; rintro e w4 ⟨rfl, hc4⟩; rw [Hcv.out]; have y0 := hc4.cell (b := w3.heap.size) (o := 0) (v := .int .i64 2) (by simp) (fun h => h); have y1 := hc4.cell (b := w3.heap.size) (o := 1) (v := .int .i64 p2) (by simp) (fun h => h); have y2 := hc4.cell (b := (w3.heap.size + 1)) (o := 0) (v := .int .i64 p1) (by simp) (fun h => h); have y3 := hc4.cell (b := (w3.heap.size + 1)) (o := 1) (v := .int .i64 0) (by simp) (fun h => h); have y4 := hc4.cell (b := (w3.heap.size + 1)) (o := 2) (v := .int .i64 0) (by simp) (fun h => h); have C4 := Lib.hid (Chg.step HWc.out hc4 (fun _ h => h.elim)); clear hc4)
          | (go_at_call 103; refine (add103_over (.iface et ev) w.heap.size O (p1, 0, 0) cv _ (C4.out.cell (Hcw3.out.cell (Hcw2.out.cell HE.out (fun h => h)) (fun h => h)) (fun h => h)) ⟨et, ev, rfl⟩ ((HO2.out.chg Hcw3.out (fun h => h)).chg C4.out (fun h => h)) HX.out (by rw [← Hcv.out]; exact HN.out) (by rw [Hz0.out]; exact hs2)).mono ?_; rintro e w5 ⟨rfl, hc5⟩; have u0 := hc5.cell y0 (fun h => h); have u1 := hc5.cell y1 (fun h => h); have u2 := hc5.cell y2 (fun h => h); have u3 := hc5.cell y3 (fun h => h); have u4 := hc5.cell y4 (fun h => h); have C5 := Lib.hid hc5; clear hc5))
        go_wp2_with fail
        go_ret2
        refine .inl ⟨rfl, ⟨to2 (p1, p2, p3), over_of (p := ((p1, p2, p3), n)) Hout.out HP.out HNN.out ?_⟩, Chg.step (Chg.step (Chg.step Hcw2.out Hcw3.out (fun _ h => h.elim)) C4.out (fun _ h => h.elim)) C5.out (fun _ h => h.elim)⟩
        show _ < (lk O (p1, 0, 0)).getD 0 + capV (gL l (2, p2)) n
        rw [Hz0.out, Hcv.out]
        exact hs2


set_option maxHeartbeats 8000000 in
theorem step106 (er : Value) (tb : Nat) (m : Option Nat) (l : List ((Int × Int) × Int)) (b : Nat) (L : List (Grp × Int)) (w : World) (hE : w.cell? ⟨2, 0, none⟩ = some er) (hne : ∃ t v, er = .iface t v) (hL : TabAt 86 w tb m l) (hM : MapAt ek3 ekI w b L) (hA : ∀ p ∈ L, amtB p.2 = true) :
    Calls Tryd.prog 107 #[.pointer (some ⟨tb, 0, .none⟩), .map (some b), .func (.func 106) #[] #[]] w fun e w' => StepPost to3 (fun g n => capV (gL l (lim3 g)) n) L er w e w' := by
  have hlb := hM.lt
  have hltb := hL.cells.lt
  have hz := World.block_lt_of_cell? _ _ hE
  have hmm := @run_makeMap Tryd.prog
  have hO0 := MapAt.new ek3 ekI w
  have HE := Lib.hid hE
  have HL := Lib.hid hL
  have HA := Lib.hid hA
  have hM1 := hM.alloc (.map #[] 0)
  have HM := Lib.hid hM
  clear hE hL hA hM
  go_enter Tryd.func107, Tryd.ntmps107
  go_wp2_with (first
    | (at_range; refine wpList_range rfl _ 189 rfl 192 2 Tryd.underlying189 b L rfl hM1 ?_; intro w0 hrg0 hg0 hs0))
  have hO1 : MapAt ek3 ekI w0 w.heap.size [] := hO0.chg hg0 (fun h => h)
  have hc0 : Chg S0 w w0 := Chg.step ((Chg.refl _ _).alloc _) hg0 (fun _ h => h.elim)
  simp only [World.size_alloc] at hrg0 hs0
  have hb0 : w.heap.size < w0.heap.size := by omega
  have HG := Lib.hid hO1
  have HR := Lib.hid hrg0
  have HC := Lib.hid hc0
  clear hO0 hO1 hrg0 hc0 hg0 hM1 hs0
  go_loopw [17] (fun _ wr => ∃ (left done O : List (Grp × Int)), IterAt ek3 ekI wr b (w.heap.size + 1) L left ∧ (done ++ left).Perm L ∧ MapAt ek3 ekI wr w.heap.size O ∧ OutIs to3 (fun g n => capV (gL l (lim3 g)) n) O done ∧ Chg S0 w wr) (fun _ wr => wr.rangeLeft b (w.heap.size + 1))
  case atStart => exact ⟨L, [], [], HR.out, by simp, HG.out, OutIs.nil _ _, HC.out⟩
  case round =>
    obtain ⟨left, done, O, hI, hP, hO, hOut, hc⟩ := hrel
    have HI := Lib.hid hI
    have HP := Lib.hid hP
    have HO := Lib.hid hO
    have Hout := Lib.hid hOut
    have Hc := Lib.hid hc
    clear hP hO hOut hc
    go_wp2_with (first
      | (at_next; refine wpList_next rfl _ rfl b (w.heap.size + 1) L left rfl hI ?_ ?_))
    · intro h0
      subst h0
      clear hI
      go_wp2
      go_ret2
      refine .inr ⟨_, O, rfl, HO.out, Hout.out.perm (by simpa using HP.out), Nat.le_refl _, Hc.out⟩
    · intro pre p1 p2 p3 n post w2 hleft hI2 hc2 hs2 hen
      clear hI
      unfold ek3 ekI at hen
      subst hleft
      have hmem : ((p1, p2, p3), n) ∈ L := HP.out.mem_iff.1 (by simp)
      have hn : amtB n = true := HA.out _ hmem
      have hcn : amtB (capV (gL l (1, p1)) n) = true := amt_cap hn
      have hx := Hout.out.amt (0, 0, 0)
      obtain ⟨z, hz0⟩ : ∃ z, (lk O (0, 0, 0)).getD 0 = z := ⟨_, rfl⟩
      obtain ⟨cv, hcv⟩ : ∃ cv, capV (gL l (1, p1)) n = cv := ⟨_, rfl⟩
      have hnn : ∀ q ∈ L, 0 ≤ capV (gL l (lim3 q.1)) q.2 := fun q hq => by have := HA.out q hq; simp [amtB] at this; exact (capV_nonneg this.1).1
      have Hcw2 : Hid (Chg S0 w w2) := Lib.hid (Chg.step Hc.out hc2 (fun k hk => .inr (by unfold S1 at hk; omega)))
      have HI2 := Lib.hid hI2
      have HO2 : Hid (MapAt ek3 ekI w2 w.heap.size O) := Lib.hid (HO.out.chg hc2 (by unfold S1; omega))
      have HNN := Lib.hid hnn
      have HN := Lib.hid hcn
      have HX := Lib.hid hx
      have Hcv := Lib.hid hcv
      have Hz0 := Lib.hid hz0
      clear hI2 hc2 hs2 hmem hn hcn hx hnn hcv hz0
      have hto : ∀ W, Calls Tryd.prog 106 #[.agg #[.int .i64 p1, .int .i64 p2, .int .i64 p3]] W fun e w' => e = .returned (.tuple #[.agg #[.int .i64 1, .int .i64 p1], .agg #[.int .i64 0, .int .i64 0, .int .i64 0]]) ∧ Chg S0 W w' := fun W => to106 (p1, p2, p3) W
      have HTo := Lib.hid hto
      clear hto
      go_wp2_with fail
      refine (HTo.out _).mono ?_
      rintro e w3 ⟨rfl, hc3⟩
      have Hcw3 : Hid (Chg S0 w2 w3) := Lib.hid (Chg.step ((Chg.refl _ _).alloc _) hc3 (fun _ h => h.elim))
      clear hc3
      go_wp2_with fail
      have hW0 : CellsAt ((w3.alloc (.cells #[.int .i64 1, .int .i64 p1] 89)).alloc (.cells #[.int .i64 0, .int .i64 0, .int .i64 0] 192)).drew w3.heap.size #[.int .i64 1, .int .i64 p1] 89 := ((CellsAt.new w3 _ _).alloc _).drew
      have hW1 : CellsAt ((w3.alloc (.cells #[.int .i64 1, .int .i64 p1] 89)).alloc (.cells #[.int .i64 0, .int .i64 0, .int .i64 0] 192)).drew (w3.heap.size + 1) #[.int .i64 0, .int .i64 0, .int .i64 0] 192 := by have := CellsAt.new (w3.alloc (.cells #[.int .i64 1, .int .i64 p1] 89)) #[.int .i64 0, .int .i64 0, .int .i64 0] 192; simp only [World.size_alloc] at this; exact this.drew
      have hWc : Chg S0 w3 ((w3.alloc (.cells #[.int .i64 1, .int .i64 p1] 89)).alloc (.cells #[.int .i64 0, .int .i64 0, .int .i64 0] 192)).drew := (((Chg.refl _ _).alloc _).alloc _).drew
      have hz3 : w.heap.size < w3.heap.size := Nat.lt_of_lt_of_le HO2.out.lt Hcw3.out.size
      have HW0 := Lib.hid hW0
      have HW1 := Lib.hid hW1
      have HWc := Lib.hid hWc
      clear hW0 hW1 hWc
      by_cases hs : z + cv ≤ 1000000000000000
      · go_region_held3 (fun w' => w'.cell? ⟨w3.heap.size, 0, none⟩ = some (.int .i64 1) ∧ w'.cell? ⟨w3.heap.size, 1, none⟩ = some (.int .i64 p1) ∧ w'.cell? ⟨w3.heap.size + 1, 0, none⟩ = some (.int .i64 0) ∧ w'.cell? ⟨w3.heap.size + 1, 1, none⟩ = some (.int .i64 0) ∧ w'.cell? ⟨w3.heap.size + 1, 2, none⟩ = some (.int .i64 0)) (go_keep)
          (first
          | (go_at_call 158; refine (capped158 tb m 1 p1 n l _ (((HL.out.chg Hcw2.out (fun h => h) (fun _ _ h => h)).chg Hcw3.out (fun h => h) (fun _ _ h => h)).chg HWc.out (fun h => h) (fun _ _ h => h))).mono ?_; rintro e w4 ⟨rfl, hc4⟩; rw [Hcv.out]; have y0 := hc4.cell (b := w3.heap.size) (o := 0) (v := .int .i64 1) (by simp) (fun h => h); have y1 := hc4.cell (b := w3.heap.size) (o := 1) (v := .int .i64 p1) (by simp) (fun h => h); have y2 := hc4.cell (b := (w3.heap.size + 1)) (o := 0) (v := .int .i64 0) (by simp) (fun h => h); have y3 := hc4.cell (b := (w3.heap.size + 1)) (o := 1) (v := .int .i64 0) (by simp) (fun h => h); have y4 := hc4.cell (b := (w3.heap.size + 1)) (o := 2) (v := .int .i64 0) (by simp) (fun h => h); have C4 := Lib.hid (Chg.step HWc.out hc4 (fun _ h => h.elim)); clear hc4)
          | (go_at_call 103; refine (add103_ok er w.heap.size O (0, 0, 0) cv _ (C4.out.cell (Hcw3.out.cell (Hcw2.out.cell HE.out (fun h => h)) (fun h => h)) (fun h => h)) hne ((HO2.out.chg Hcw3.out (fun h => h)).chg C4.out (fun h => h)) HX.out (by rw [← Hcv.out]; exact HN.out) (by rw [Hz0.out]; exact hs)).mono ?_; rintro e w5 ⟨rfl, hM5, hc5⟩; have hn1 : ¬ S1 w.heap.size w3.heap.size := (by unfold S1; omega); have hn2 : ¬ S1 w.heap.size (w3.heap.size + 1) := (by unfold S1; omega); have u0 := hc5.cell y0 hn1; have u1 := hc5.cell y1 hn1; have u2 := hc5.cell y2 hn2; have u3 := hc5.cell y3 hn2; have u4 := hc5.cell y4 hn2; have C5 := Lib.hid hc5; have M5 := Lib.hid hM5; clear hc5 hM5))
        go_wp2_with fail
        have cI : IterAt ek3 ekI w5 b (w.heap.size + 1) L (pre ++ post) := ((HI2.out.chg Hcw3.out (fun h => h) (fun h => h)).chg C4.out (fun h => h) (fun h => h)).chg C5.out (by unfold S1; omega) (by unfold S1; omega)
        refine ⟨⟨pre ++ post, done ++ [((p1, p2, p3), n)], _, cI, ?_, M5.out, ?_, ?_⟩, ?_⟩
        · refine List.Perm.trans ?_ HP.out
          rw [List.append_assoc]
          exact List.Perm.append_left done (by simpa using (List.perm_middle (a := ((p1, p2, p3), n)) (l₁ := pre) (l₂ := post)).symm)
        · have := Hout.out.snoc ((p1, p2, p3), n) (HNN.out _ (HP.out.mem_iff.1 (by simp))) (by show (lk O (0, 0, 0)).getD 0 + capV (gL l (1, p1)) n ≤ _; rw [Hz0.out, Hcv.out]; exact hs)
          have e2 : capV (gL l (lim3 (p1, p2, p3))) n = cv := Hcv.out
          simp only [e2] at this
          exact this
        · exact Chg.step (Chg.step (Chg.step Hcw2.out Hcw3.out (fun _ h => h.elim)) C4.out (fun _ h => h.elim)) C5.out (fun k hk => .inr (by unfold S1 at hk; omega))
        · rw [cI.left_eq, HI.out.left_eq]; simp
      · have hs2 : 1000000000000000 < z + cv := by omega
        obtain ⟨et, ev, rfl⟩ := hne
        go_region_held3 (fun w' => w'.cell? ⟨w3.heap.size, 0, none⟩ = some (.int .i64 1) ∧ w'.cell? ⟨w3.heap.size, 1, none⟩ = some (.int .i64 p1) ∧ w'.cell? ⟨w3.heap.size + 1, 0, none⟩ = some (.int .i64 0) ∧ w'.cell? ⟨w3.heap.size + 1, 1, none⟩ = some (.int .i64 0) ∧ w'.cell? ⟨w3.heap.size + 1, 2, none⟩ = some (.int .i64 0)) (go_keep)
          (first
          | (go_at_call 158; refine (capped158 tb m 1 p1 n l _ (((HL.out.chg Hcw2.out (fun h => h) (fun _ _ h => h)).chg Hcw3.out (fun h => h) (fun _ _ h => h)).chg HWc.out (fun h => h) (fun _ _ h => h))).mono ?_; rintro e w4 ⟨rfl, hc4⟩; rw [Hcv.out]; have y0 := hc4.cell (b := w3.heap.size) (o := 0) (v := .int .i64 1) (by simp) (fun h => h); have y1 := hc4.cell (b := w3.heap.size) (o := 1) (v := .int .i64 p1) (by simp) (fun h => h); have y2 := hc4.cell (b := (w3.heap.size + 1)) (o := 0) (v := .int .i64 0) (by simp) (fun h => h); have y3 := hc4.cell (b := (w3.heap.size + 1)) (o := 1) (v := .int .i64 0) (by simp) (fun h => h); have y4 := hc4.cell (b := (w3.heap.size + 1)) (o := 2) (v := .int .i64 0) (by simp) (fun h => h); have C4 := Lib.hid (Chg.step HWc.out hc4 (fun _ h => h.elim)); clear hc4)
          | (go_at_call 103; refine (add103_over (.iface et ev) w.heap.size O (0, 0, 0) cv _ (C4.out.cell (Hcw3.out.cell (Hcw2.out.cell HE.out (fun h => h)) (fun h => h)) (fun h => h)) ⟨et, ev, rfl⟩ ((HO2.out.chg Hcw3.out (fun h => h)).chg C4.out (fun h => h)) HX.out (by rw [← Hcv.out]; exact HN.out) (by rw [Hz0.out]; exact hs2)).mono ?_; rintro e w5 ⟨rfl, hc5⟩; have u0 := hc5.cell y0 (fun h => h); have u1 := hc5.cell y1 (fun h => h); have u2 := hc5.cell y2 (fun h => h); have u3 := hc5.cell y3 (fun h => h); have u4 := hc5.cell y4 (fun h => h); have C5 := Lib.hid hc5; clear hc5))
        go_wp2_with fail
        go_ret2
        refine .inl ⟨rfl, ⟨to3 (p1, p2, p3), over_of (p := ((p1, p2, p3), n)) Hout.out HP.out HNN.out ?_⟩, Chg.step (Chg.step (Chg.step Hcw2.out Hcw3.out (fun _ h => h.elim)) C4.out (fun _ h => h.elim)) C5.out (fun _ h => h.elim)⟩
        show _ < (lk O (0, 0, 0)).getD 0 + capV (gL l (1, p1)) n
        rw [Hz0.out, Hcv.out]
        exact hs2

end Go.Proofs.YtljlnojelagmfaaDoor
