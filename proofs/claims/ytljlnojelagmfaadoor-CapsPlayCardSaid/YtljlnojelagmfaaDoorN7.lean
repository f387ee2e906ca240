/-
  StressPlays: what stays true while losses are set; the keys one by one; the errors of codes. (Chapter 22; the keys' part serves chapter 16 too.)
-/
import Derived.Test.YtljlnojelagmfaaDoorN6
namespace Go.Proofs.YtljlnojelagmfaaDoor
open Go.RowKit Go.Pl
set_option maxRecDepth 100000

/-! ### the keys, one by one -/
def pos32 (k : Int × Int) : Int := 32 * (k.1 - 1) + (k.2 - 1)
def In32 (ks : List (Int × Int)) : Prop := ∀ k ∈ ks, 1 ≤ k.1 ∧ 1 ≤ k.2 ∧ k.2 ≤ 32
/-- The first n of the keys are those ahead of place p. -/
def Up32 (ks : List (Int × Int)) (p : Int) (n : Nat) : Prop := n ≤ ks.length ∧ ∀ i, (h : i < ks.length) → (i < n ↔ pos32 ks[i] < p)

theorem Up32.start {ks : List (Int × Int)} (h : In32 ks) : Up32 ks 0 0 := by
  refine ⟨Nat.zero_le _, fun i hi => ?_⟩
  have := h _ (List.getElem_mem hi)
  unfold pos32
  omega
theorem Up32.all {ks : List (Int × Int)} {p : Int} (h : ∀ k ∈ ks, pos32 k < p) {n : Nat} (hu : Up32 ks p n) : n = ks.length := by
  have hn := hu.1
  refine Nat.le_antisymm hn (Nat.le_of_not_lt fun hlt => ?_)
  have := (hu.2 n hlt).2 (h _ (List.getElem_mem hlt))
  omega
theorem Up32.miss {ks : List (Int × Int)} (h : In32 ks) {n : Nat} {c d p : Int} (hd1 : 1 ≤ d) (hd2 : d ≤ 32) (hu : Up32 ks p n) (hp : p = pos32 (c, d)) (hm : (c, d) ∉ ks) : Up32 ks (p + 1) n := by
  refine ⟨hu.1, fun i hi => ?_⟩
  rw [hu.2 i hi]
  have hk := h _ (List.getElem_mem hi)
  have hne : ks[i] ≠ (c, d) := fun e => hm (e ▸ List.getElem_mem hi)
  have : pos32 ks[i] ≠ p := by
    intro e
    apply hne
    unfold pos32 at *
    simp only at hp
    ext <;> simp <;> omega
  omega
theorem Up32.hit {ks : List (Int × Int)} (h : In32 ks) (hs : ks.Pairwise (fun x y => lt2 x y = true)) {n : Nat} {c d p : Int} (hu : Up32 ks p n) (hp : p = pos32 (c, d)) (hm : (c, d) ∈ ks) :
    ∃ hn : n < ks.length, ks[n] = (c, d) ∧ Up32 ks (p + 1) (n + 1) := by
  obtain ⟨i, hi, e⟩ := List.getElem_of_mem hm
  rw [List.pairwise_iff_getElem] at hs
  have hmono : ∀ i j (hi : i < ks.length) (hj : j < ks.length), i < j → pos32 ks[i] < pos32 ks[j] := by
    intro i j hi hj hij
    have h1 := hs i j hi hj hij
    have h2 := h _ (List.getElem_mem hi)
    have h3 := h _ (List.getElem_mem hj)
    simp [lt2] at h1
    unfold pos32
    omega
  have hin : ¬ i < n := by
    rw [hu.2 i hi, e]
    omega
  have hni : i = n := by
    refine Nat.le_antisymm (Nat.le_of_not_lt fun hlt => ?_) (by omega)
    have h1 := hmono n i (by omega) hi hlt
    have h2 := (hu.2 n (by omega)).2 (by rw [e] at h1; omega)
    omega
  subst hni
  refine ⟨hi, e, by omega, fun j hj => ?_⟩
  constructor
  · intro hji
    rcases Nat.lt_or_ge j i with hlt | hge
    · have := (hu.2 j hj).1 hlt
      omega
    · have : j = i := by omega
      subst this
      rw [e]
      omega
  · intro hjp
    refine Nat.lt_succ_of_le (Nat.le_of_not_lt fun hlt => ?_)
    have := hmono i j hi hj hlt
    rw [e] at this
    omega

/-- Sorted keys in memory, key by key. -/
theorem ownsRow_pairsT {t : TypeId} {w : World} {base : Nat} {v : Value} {ks : List (Int × Int)} (h : w.ownsRow base t 2 v ks.length (cells2 ks)) :
    ∃ (q : Option Addr) (cp : Nat), v = .slice q ks.length cp ∧ ∀ i, (hi : i < ks.length) → ∃ g, q = some ⟨g, 0, none⟩ ∧ w.cell? ⟨g, i * 2, none⟩ = some (.int .i64 (ks[i]).1) ∧ w.cell? ⟨g, i * 2 + 1, none⟩ = some (.int .i64 (ks[i]).2) := by
  rcases h.2 with ⟨rfl, hz⟩ | ⟨g, cap, cur, rfl, hbase, hgb, r1, r2, r3, r4⟩
  · exact ⟨none, 0, by rw [hz], fun i hi => by omega⟩
  · refine ⟨_, _, rfl, fun i hi => ⟨g, rfl, ?_⟩⟩
    have key : ∀ (ks : List (Int × Int)) (i : Nat) (hi : i < ks.length), (cells2 ks)[i * 2]? = some (.int .i64 (ks[i]).1) ∧ (cells2 ks)[i * 2 + 1]? = some (.int .i64 (ks[i]).2) := by
      intro ks
      induction ks with
      | nil => intro i hi; simp at hi
      | cons p ks ih =>
        intro i hi
        cases i with
        | zero => exact ⟨rfl, rfl⟩
        | succ i =>
          have := ih i (by simpa using hi)
          have e1 : (i + 1) * 2 = i * 2 + 2 := by omega
          rw [e1]
          exact this
    obtain ⟨k1, k2⟩ := key ks i hi
    rw [← r4, List.getElem?_take, if_pos (by omega)] at k1 k2
    simp only [Array.getElem?_toList] at k1 k2
    refine ⟨?_, ?_⟩ <;> simp [World.cell?, hgb, k1, k2]

/-! ### errors of codes -/
theorem is21_code {B : Nat} {A : Nat → Addr} {w : World} (h : ErrsAt B A w) {c : Int} (hc : CodeOk c) (c' : Int) :
    Calls Tryd.prog 21 #[errC A c, .int .i64 c'] w fun r w' => r = .returned (.bool (c == c')) ∧ Chg S0 w w' := by
  rcases hc with rfl | rfl | rfl | rfl
  · exact is21_nil c' w
  · exact is21_err h 2 (by decide) c'
  · exact is21_err h 3 (by decide) c'
  · exact is21_err h 4 (by decide) c'
theorem is21_self {B : Nat} {A : Nat → Addr} {w : World} (h : ErrsAt B A w) {c : Int} (hc : CodeOk c) :
    Calls Tryd.prog 21 #[errC A c, .int .i64 c] w fun r w' => r = .returned (.bool true) ∧ Chg S0 w w' := by
  have := is21_code h hc c
  simpa using this
theorem topV_code (l : List Int) : CodeOk (topV l).2 := by
  unfold topV CodeOk
  repeat' split
  all_goals simp
theorem covV_code (g : Int × Int → Int) (l : List Int) : CodeOk (covV g l).2.2 := by
  have key : ∀ (f : Int → Int × Int) (hf : ∀ s, CodeOk (f s).2) (k : Nat) (m b : Int), CodeOk (covR f k m b).2.2 := by
    intro f hf k
    induction k with
    | zero => intro m b; exact .inl rfl
    | succ k ih =>
      intro m b
      unfold covR
      split
      · split
        · exact ih _ _
        · exact ih _ _
      · exact hf _
  exact key _ (fun s => twoV_code g s l) _ _ _

/-! ### Set, where it may not be -/
theorem tabSet29_bad (tb : Nat) (s m n : Int) (w : World) (er : Value) (he : w.cell? ⟨0, 0, none⟩ = some er) (h : ¬ CellOk s m n) :
    Calls Tryd.prog 29 #[.pointer (some ⟨tb, 0, none⟩), ek2 (s, m), .int .i64 n] w fun e w' => e = .returned er ∧ Chg S0 w w' := by
  have hz := World.block_lt_of_cell? _ _ he
  show Calls _ _ #[_, .agg #[.int .i64 s, .int .i64 m], _] _ _
  have a1 := fun w => scene91 s w
  have a3 := fun w => amount92 n w
  cases hs : (decide (1 ≤ s) && decide (s ≤ 16)) with
  | false =>
    rw [hs] at a1
    have H1 := Lib.hid a1
    clear a1 a3 h hs
    go_enter Tryd.func29, Tryd.ntmps29
    go_wp2_with (first | (go_at_call 91; refine (H1.out _).mono ?_; rintro e w' ⟨rfl, rfl⟩))
    go_ret
    exact ⟨rfl, (Chg.refl _ _).alloc _⟩
  | true =>
    rw [hs] at a1
    have H1 := Lib.hid a1
    clear a1
    by_cases m1 : m < 1
    · have m1' : decide (m < 1) = true := by simpa using m1
      clear h hs a3
      go_enter Tryd.func29, Tryd.ntmps29
      go_wp2_with (first | (go_at_call 91; refine (H1.out _).mono ?_; rintro e w' ⟨rfl, rfl⟩))
      go_ret
      exact ⟨rfl, (Chg.refl _ _).alloc _⟩
    · have m1' : decide (m < 1) = false := by simpa using m1
      by_cases m2 : 32 < m
      · have m2' : decide (32 < m) = true := by simpa using m2
        clear h hs a3
        go_enter Tryd.func29, Tryd.ntmps29
        go_wp2_with (first | (go_at_call 91; refine (H1.out _).mono ?_; rintro e w' ⟨rfl, rfl⟩))
        go_ret
        exact ⟨rfl, (Chg.refl _ _).alloc _⟩
      · have m2' : decide (32 < m) = false := by simpa using m2
        have hn : (decide (0 ≤ n) && decide (n ≤ 1000000000000000)) = false := by
          unfold CellOk at h
          simp at hs ⊢
          omega
        rw [hn] at a3
        have H3 := Lib.hid a3
        clear h hs a3 hn
        go_enter Tryd.func29, Tryd.ntmps29
        go_wp2_with (first | (go_at_call 91; refine (H1.out _).mono ?_; rintro e w' ⟨rfl, rfl⟩) | (go_at_call 92; refine (H3.out _).mono ?_; rintro e w' ⟨rfl, rfl⟩))
        go_ret
        exact ⟨rfl, (Chg.refl _ _).alloc _⟩

/-! ### the play -/
theorem Losses.nil : Losses [] := fun _ h => by cases h
theorem Losses.set {L : List ((Int × Int) × Int)} (h : Losses L) {s m n : Int} (hk : CellOk s m n) : Losses (tset L (s, m) n) := by
  intro p hp
  rcases tset_mem hp with ⟨rfl, hn⟩ | hp
  · unfold CellOk at hk
    exact ⟨hk.1, hk.2.1, hk.2.2.1, hk.2.2.2.1, by simp; omega, hk.2.2.2.2.2⟩
  · exact h p hp

/-- The table at xb, the reference's losses at yb: in the world wr, whose run began at w. -/
structure Strs (B : Nat) (A : Nat → Addr) (w : World) (xb yb : Nat) (m : Option Nat) (L L' : List ((Int × Int) × Int)) (wr : World) : Prop where
  errs : ErrsAt B A wr
  tab : TabAt 62 wr xb m L
  loss : LossAt wr yb L'
  chg : Chg S0 w wr
  hB : B ≤ w.heap.size
  x : w.heap.size ≤ xb
  y : w.heap.size ≤ yb
  xy : xb ≠ yb
  my : ∀ b, m = some b → w.heap.size ≤ b ∧ b ≠ yb

theorem Strs.step {B : Nat} {A : Nat → Addr} {w : World} {xb yb : Nat} {m : Option Nat} {L L' : List ((Int × Int) × Int)} {wr wr' : World} (h : Strs B A w xb yb m L L' wr) (hc : Chg S0 wr wr') : Strs B A w xb yb m L L' wr' :=
  ⟨h.errs.chg0 hc, h.tab.chg hc (fun h => h) (fun _ _ h => h), CellsAt.chg h.loss hc (fun h => h), Chg.step h.chg hc (fun _ h => h.elim), h.hB, h.x, h.y, h.xy, h.my⟩
theorem Strs.set {B : Nat} {A : Nat → Addr} {w : World} {xb yb : Nat} {m m' : Option Nat} {L L1 L' : List ((Int × Int) × Int)} {wr wr' : World} (h : Strs B A w xb yb m L L' wr) (hc : Chg (SL xb m) wr wr') (hL : TabAt 62 wr' xb m' L1) (hm : ∀ b, m' = some b → m = some b ∨ wr.heap.size ≤ b) : Strs B A w xb yb m' L1 L' wr' := by
  have hs : ∀ k, k < w.heap.size → ¬ SL xb m k := fun k hk hS => by
    rcases hS with hS | hS
    · have := h.x; omega
    · have := (h.my k hS).1; omega
  refine ⟨h.errs.chg hc (fun k hk => hs k (Nat.lt_of_lt_of_le hk h.hB)), hL, CellsAt.chg h.loss hc (fun hS => ?_), Chg.step h.chg hc (fun k hk => .inr ?_), h.hB, h.x, h.y, h.xy, fun b hb => ?_⟩
  · rcases hS with hS | hS
    · exact h.xy hS.symm
    · exact (h.my _ hS).2 rfl
  · exact Nat.le_of_not_lt fun hk' => hs k hk' hk
  · rcases hm b hb with hm | hm
    · exact h.my b hm
    · refine ⟨Nat.le_trans h.chg.size hm, fun e => ?_⟩
      have := CellsAt.lt h.loss
      omega
theorem Strs.put {B : Nat} {A : Nat → Addr} {w : World} {xb yb : Nat} {m : Option Nat} {L L' L1 : List ((Int × Int) × Int)} {wr wr' : World} (h : Strs B A w xb yb m L L' wr) (hc : Chg (S1 yb) wr wr') (hY : LossAt wr' yb L1) : Strs B A w xb yb m L L1 wr' := by
  have hy := h.y
  refine ⟨h.errs.chg hc (fun k hk hS => ?_), h.tab.chg hc h.xy (fun b hb hS => (h.my b hb).2 hS), hY, Chg.step h.chg hc (fun k hk => .inr ?_), h.hB, h.x, h.y, h.xy, h.my⟩
  · have := h.hB; have : k = yb := hS; omega
  · have : k = yb := hk; omega

/-- Losses that are told, in memory: three numbers each. -/
def TriAt (w : World) (v : Value) (n : Nat) (D : Nat → Int × Int × Int) : Prop :=
  ∃ (p : Option Addr) (cap : Nat), v = .slice p n cap ∧ n ≤ cap ∧
    ∀ k, k < n → ∃ (a : Addr) (pb po : Nat) (ps : Option Nat), p = some a ∧ a.add (k * 3) = ⟨pb, po, ps⟩ ∧ w.cell? ⟨pb, po, ps⟩ = some (.int .i64 (D k).1) ∧ w.cell? ⟨pb, po + 1, none⟩ = some (.int .i64 (D k).2.1) ∧ w.cell? ⟨pb, po + 2, none⟩ = some (.int .i64 (D k).2.2)

theorem first22 (B : Nat) (A : Nat → Addr) (w : World) (hE : ErrsAt B A w) : Calls Tryd.prog 28 #[] w fun e w' => e = .returned (.bool true) ∧ Chg S0 w w' := by
  have hv : covV (gOf []) [] = (0, 1, 0) := by decide
  have hc := cover34 B A w.heap.size none [] (.slice none 0 0) [] _ (hE.alloc _) (TabAt.new 62 w) Losses.nil ⟨none, 0, rfl, Nat.le_refl _, fun k hk => by simp at hk⟩ (by decide)
  rw [hv] at hc
  have H := Lib.hid hc
  clear hc hv
  go_enter Tryd.func28, Tryd.ntmps28
  go_wp2_with (go_at_call 34; refine H.out.mono ?_; rintro e w2 ⟨rfl, hc2⟩; rw [errC_nil rfl])
  go_ret
  exact ⟨rfl, Chg.step ((Chg.refl _ _).alloc _) hc2 (fun _ h => h.elim)⟩
end Go.Proofs.YtljlnojelagmfaaDoor
