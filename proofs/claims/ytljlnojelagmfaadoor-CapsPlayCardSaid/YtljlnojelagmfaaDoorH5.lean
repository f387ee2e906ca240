/-
  CutPlays: what stays true while cuts are set; the list of what is set, in memory. (Chapter 12.)
-/
import Derived.Test.YtljlnojelagmfaaDoorE2
import Derived.Test.YtljlnojelagmfaaDoorD5
import Derived.Test.YtljlnojelagmfaaDoorH3
import Derived.Test.YtljlnojelagmfaaDoorH4
namespace Go.Proofs.YtljlnojelagmfaaDoor
open Go.RowKit Go.Pl
set_option maxRecDepth 100000

theorem _root_.Go.Pl.Chg.cellA {S : Nat → Prop} {w w' : World} (h : Chg S w w') {a : Addr} {v : Value} (hc : w.cell? a = some v) (hs : ¬ S a.block) : w'.cell? a = some v := by
  have hb : a.block < w.heap.size := World.block_lt_of_cell? _ _ hc
  rw [← hc]
  exact World.cell?_of_block (h.block a.block hb hs)

/-- All steps of a ladder are steps. -/
def Steps (l : List ((Int × Int) × Int)) : Prop := ∀ p ∈ l, 1 ≤ p.1.1 ∧ p.1.1 ≤ 6 ∧ 0 ≤ p.1.2 ∧ p.1.2 < 6
theorem Steps.nil : Steps [] := fun _ h => by cases h
theorem Steps.put {l : List ((Int × Int) × Int)} (h : Steps l) {c d n : Int} (h1 : 1 ≤ c) (h2 : c ≤ 6) (h3 : 0 ≤ d) (h4 : d < 6) : Steps (put l (c, d) n) := by
  intro p hp
  unfold Go.Pl.put at hp
  split at hp
  · obtain ⟨q, hq, rfl⟩ := List.mem_map.1 hp
    split
    · exact ⟨h1, h2, h3, h4⟩
    · exact h q hq
  · rcases List.mem_append.1 hp with hp | hp
    · exact h p hp
    · simp at hp
      subst hp
      exact ⟨h1, h2, h3, h4⟩
theorem Steps.out {l : List ((Int × Int) × Int)} (h : Steps l) {c d : Int} (hn : ¬ (1 ≤ c ∧ c ≤ 6 ∧ 0 ≤ d ∧ d < 6)) : lk l (c, d) = none := by
  cases hk : lk l (c, d) with
  | none => rfl
  | some y => exact absurd (h _ (mem_of_lk hk)) hn
theorem put_length (l : List ((Int × Int) × Int)) (k : Int × Int) (n : Int) : (put l k n).length ≤ l.length + 1 := by
  unfold put
  split <;> simp

/-- The ladder at xb, the reference's cuts at yb: in the world wr, whose run began at w. -/
structure Play (B : Nat) (A : Nat → Addr) (w : World) (xb yb : Nat) (m : Option Nat) (fx : Int) (L : List ((Int × Int) × Int)) (fx' : Int) (L' : List ((Int × Int) × Int)) (wr : World) : Prop where
  errs : ErrsAt B A wr
  lad : LadAt wr xb m fx L
  cuts : CutsAt wr yb fx' L'
  chg : Chg S0 w wr
  hB : B ≤ w.heap.size
  x : w.heap.size ≤ xb
  y : w.heap.size ≤ yb
  xy : xb ≠ yb
  my : ∀ b, m = some b → w.heap.size ≤ b ∧ b ≠ yb

theorem Play.step {B : Nat} {A : Nat → Addr} {w : World} {xb yb : Nat} {m : Option Nat} {fx : Int} {L : List ((Int × Int) × Int)} {fx' : Int} {L' : List ((Int × Int) × Int)} {wr wr' : World} (h : Play B A w xb yb m fx L fx' L' wr) (hc : Chg S0 wr wr') : Play B A w xb yb m fx L fx' L' wr' :=
  ⟨h.errs.chg0 hc, h.lad.chg hc (fun h => h) (fun _ _ h => h), CellsAt.chg h.cuts hc (fun h => h), Chg.step h.chg hc (fun _ h => h.elim), h.hB, h.x, h.y, h.xy, h.my⟩
theorem Play.set {B : Nat} {A : Nat → Addr} {w : World} {xb yb : Nat} {m m' : Option Nat} {fx g : Int} {L L1 : List ((Int × Int) × Int)} {fx' : Int} {L' : List ((Int × Int) × Int)} {wr wr' : World} (h : Play B A w xb yb m fx L fx' L' wr) (hc : Chg (SL xb m) wr wr') (hL : LadAt wr' xb m' g L1) (hm : ∀ b, m' = some b → m = some b ∨ wr.heap.size ≤ b) : Play B A w xb yb m' g L1 fx' L' wr' := by
  have hs : ∀ k, k < w.heap.size → ¬ SL xb m k := fun k hk hS => by
    rcases hS with hS | hS
    · have := h.x; omega
    · have := (h.my k hS).1; omega
  refine ⟨h.errs.chg hc (fun k hk => hs k (Nat.lt_of_lt_of_le hk h.hB)), hL, CellsAt.chg h.cuts hc (fun hS => ?_), Chg.step h.chg hc (fun k hk => .inr ?_), h.hB, h.x, h.y, h.xy, fun b hb => ?_⟩
  · rcases hS with hS | hS
    · exact h.xy hS.symm
    · exact (h.my _ hS).2 rfl
  · exact Nat.le_of_not_lt fun hk' => hs k hk' hk
  · rcases hm b hb with hm | hm
    · exact h.my b hm
    · refine ⟨Nat.le_trans h.chg.size hm, fun e => ?_⟩
      have := CellsAt.lt h.cuts
      omega
theorem Play.cut {B : Nat} {A : Nat → Addr} {w : World} {xb yb : Nat} {m : Option Nat} {fx : Int} {L : List ((Int × Int) × Int)} {fx' g : Int} {L' L1 : List ((Int × Int) × Int)} {wr wr' : World} (h : Play B A w xb yb m fx L fx' L' wr) (hc : Chg (S1 yb) wr wr') (hY : CutsAt wr' yb g L1) : Play B A w xb yb m fx L g L1 wr' := by
  have hy := h.y
  refine ⟨h.errs.chg hc (fun k hk hS => ?_), h.lad.chg hc h.xy (fun b hb hS => (h.my b hb).2 hS), hY, Chg.step h.chg hc (fun k hk => .inr ?_), h.hB, h.x, h.y, h.xy, h.my⟩
  · have := h.hB; have : k = yb := hS; omega
  · have : k = yb := hk; omega

/-- Things that are told, in memory: four numbers each. -/
def DosAt (w : World) (v : Value) (n : Nat) (D : Nat → Int × Int × Int × Int) : Prop :=
  ∃ (p : Option Addr) (cap : Nat), v = .slice p n cap ∧ n ≤ cap ∧
    ∀ k, k < n → ∃ (a : Addr) (pb po : Nat) (ps : Option Nat), p = some a ∧ a.add (k * 4) = ⟨pb, po, ps⟩ ∧ w.cell? ⟨pb, po, ps⟩ = some (.int .i64 (D k).1) ∧ w.cell? ⟨pb, po + 1, none⟩ = some (.int .i64 (D k).2.1) ∧ w.cell? ⟨pb, po + 2, none⟩ = some (.int .i64 (D k).2.2.1) ∧ w.cell? ⟨pb, po + 3, none⟩ = some (.int .i64 (D k).2.2.2)

/-- 1 ≤ class ≤ 6, 0 ≤ bucket < 6, 0 ≤ cut ≤ 10000. -/
def StepOk (c d n : Int) : Prop := 1 ≤ c ∧ c ≤ 6 ∧ 0 ≤ d ∧ d < 6 ∧ 0 ≤ n ∧ n ≤ 10000

theorem cutGet25_any (yb : Nat) (fx c d : Int) (l : List ((Int × Int) × Int)) (w : World) (hY : CutsAt w yb fx l) (hS : Steps l) :
    Calls Tryd.prog 25 #[.pointer (some ⟨yb, 0, .none⟩), .int .i64 c, .int .i64 d] w fun e w' => e = .returned (.int .i64 ((lk l (c, d)).getD 0)) ∧ w = w' := by
  by_cases h : 1 ≤ c ∧ c ≤ 6 ∧ 0 ≤ d ∧ d < 6
  · exact cutGet25 yb fx c d l w hY h.1 h.2.1 h.2.2.1 h.2.2.2
  · have := cutGet25_out yb c d w h
    rw [hS.out h]
    exact this

theorem is21_R {B : Nat} {A : Nat → Addr} {w : World} (h : ErrsAt B A w) (c : Int) :
    Calls Tryd.prog 21 #[errV (A 0), .int .i64 c] w fun r w' => r = .returned (.bool ((103 : Int) == c)) ∧ Chg S0 w w' := is21_err h 2 (by decide) c

theorem CutsAt.new (w : World) : CutsAt (w.alloc (.cells (cutCells [] 0) 46)) w.heap.size 0 [] := CellsAt.new _ _ _

/-- Sorted keys in memory, key by key. -/
theorem ownsRow_pairs {w : World} {base : Nat} {v : Value} {ks : List (Int × Int)} (h : w.ownsRow base 28 2 v ks.length (cells2 ks)) :
    ∃ (q : Option Addr) (cp : Nat), v = .slice q ks.length cp ∧ ∀ i, (hi : i < ks.length) → ∃ g, q = some ⟨g, 0, none⟩ ∧ w.cell? ⟨g, i * 2, none⟩ = some (.int .i64 (ks[i]).1) ∧ w.cell? ⟨g, i * 2 + 1, none⟩ = some (.int .i64 (ks[i]).2) := by
  rcases h.2 with ⟨rfl, hz⟩ | ⟨g, cap, cur, rfl, hbase, hgb, r1, r2, r3, r4⟩
  · exact ⟨none, 0, by rw [hz], fun i hi => by omega⟩
  · refine ⟨_, _, rfl, fun i hi => ⟨g, rfl, ?_⟩⟩
    have key : ∀ (ks : List (Int × Int)) (i : Nat) (hi : i < ks.length), (cells2 ks)[i * 2]? = some (.int .i64 (ks[i]).1) ∧ (cells2 ks)[i * 2 + 1]? = some (.int .i64 (ks[i]).2) := by
      intro ks
      induction ks with
      | nil => intro i hi; simp at hi
      | cons p ks ih =>
        intro i hi
        cases i with
        | zero => exact ⟨rfl, rfl⟩
        | succ i =>
          have := ih i (by simpa using hi)
          have e1 : (i + 1) * 2 = i * 2 + 2 := by omega
          rw [e1]
          exact this
    obtain ⟨k1, k2⟩ := key ks i hi
    rw [← r4, List.getElem?_take, if_pos (by omega)] at k1 k2
    simp only [Array.getElem?_toList] at k1 k2
    refine ⟨?_, ?_⟩ <;> simp [World.cell?, hgb, k1, k2]

/-! ### the keys, one by one -/
def posOf (k : Int × Int) : Int := 6 * (k.1 - 1) + k.2
def InSteps (ks : List (Int × Int)) : Prop := ∀ k ∈ ks, 1 ≤ k.1 ∧ k.1 ≤ 6 ∧ 0 ≤ k.2 ∧ k.2 < 6
/-- The first n of the keys are those ahead of place p. -/
def UpTo (ks : List (Int × Int)) (p : Int) (n : Nat) : Prop := n ≤ ks.length ∧ ∀ i, (h : i < ks.length) → (i < n ↔ posOf ks[i] < p)

theorem UpTo.start {ks : List (Int × Int)} (h : InSteps ks) : UpTo ks 0 0 := by
  refine ⟨Nat.zero_le _, fun i hi => ?_⟩
  have := h _ (List.getElem_mem hi)
  unfold posOf
  omega
theorem UpTo.all {ks : List (Int × Int)} (h : InSteps ks) {n : Nat} (hu : UpTo ks 36 n) : n = ks.length := by
  have hn := hu.1
  refine Nat.le_antisymm hn (Nat.le_of_not_lt fun hlt => ?_)
  have := (hu.2 n hlt).2 (by have := h _ (List.getElem_mem hlt); unfold posOf; omega)
  omega
theorem UpTo.miss {ks : List (Int × Int)} (h : InSteps ks) {n : Nat} {c d p : Int} (hd1 : 0 ≤ d) (hd2 : d < 6) (hu : UpTo ks p n) (hp : p = posOf (c, d)) (hm : (c, d) ∉ ks) : UpTo ks (p + 1) n := by
  refine ⟨hu.1, fun i hi => ?_⟩
  rw [hu.2 i hi]
  have hk := h _ (List.getElem_mem hi)
  have hne : ks[i] ≠ (c, d) := fun e => hm (e ▸ List.getElem_mem hi)
  have : posOf ks[i] ≠ p := by
    intro e
    apply hne
    unfold posOf at *
    simp only at hp
    ext <;> simp <;> omega
  omega
theorem UpTo.hit {ks : List (Int × Int)} (h : InSteps ks) (hs : ks.Pairwise (fun x y => lt2 x y = true)) {n : Nat} {c d p : Int} (hu : UpTo ks p n) (hp : p = posOf (c, d)) (hm : (c, d) ∈ ks) :
    ∃ hn : n < ks.length, ks[n] = (c, d) ∧ UpTo ks (p + 1) (n + 1) := by
  obtain ⟨i, hi, e⟩ := List.getElem_of_mem hm
  rw [List.pairwise_iff_getElem] at hs
  have hmono : ∀ i j (hi : i < ks.length) (hj : j < ks.length), i < j → posOf ks[i] < posOf ks[j] := by
    intro i j hi hj hij
    have h1 := hs i j hi hj hij
    have h2 := h _ (List.getElem_mem hi)
    have h3 := h _ (List.getElem_mem hj)
    simp [lt2] at h1
    unfold posOf
    omega
  have hin : ¬ i < n := by
    rw [hu.2 i hi, e]
    omega
  have hni : i = n := by
    refine Nat.le_antisymm (Nat.le_of_not_lt fun hlt => ?_) (by omega)
    have h1 := hmono n i (by omega) hi hlt
    have h2 := (hu.2 n (by omega)).2 (by rw [e] at h1; omega)
    omega
  subst hni
  refine ⟨hi, e, by omega, fun j hj => ?_⟩
  constructor
  · intro hji
    rcases Nat.lt_or_ge j i with hlt | hge
    · have := (hu.2 j hj).1 hlt
      omega
    · have : j = i := by omega
      subst this
      rw [e]
      omega
  · intro hjp
    refine Nat.lt_succ_of_le (Nat.le_of_not_lt fun hlt => ?_)
    have := hmono i j hi hj hlt
    rw [e] at this
    omega
end Go.Proofs.YtljlnojelagmfaaDoor
