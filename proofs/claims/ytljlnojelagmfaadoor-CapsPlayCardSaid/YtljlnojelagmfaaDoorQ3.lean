/-
  What counts of lines, as sums over ranges; the maps' sums are those. (Chapter 16.) The reference's limits: Set, Get; its small words; the lines, as the document has them. (Chapter 16.) The reference's limits: what may not be set, Get; the lines, as the document has them. (Chapter 16.)
-/
import Derived.Test.YtljlnojelagmfaaDoorQ2
import Derived.Test.YtljlnojelagmfaaDoorH1
import Derived.Test.YtljlnojelagmfaaDoorN2
import Derived.Deep.RegionHeld3
import Derived.Deep.AppendLies
import Derived.Test.YtljlnojelagmfaaDoorH3
namespace Go.Proofs.YtljlnojelagmfaaDoor
open Go.Pl

/-- Limits that may be. -/
def Lims (l : List ((Int × Int) × Int)) : Prop := ∀ p ∈ l, LimOk p.1.1 p.1.2 ∧ 1 ≤ p.2 ∧ p.2 ≤ 1000000000000000

/-- The sum of f over lo, lo + 1, .. (k of them). -/
def sumR (f : Int → Int) (lo : Int) (k : Nat) : Int := sumI ((List.range k).map fun (j : Nat) => f (lo + (j : Int)))
theorem sumR_zero (f : Int → Int) (lo : Int) : sumR f lo 0 = 0 := rfl
theorem sumR_succ (f : Int → Int) (lo : Int) (k : Nat) : sumR f lo (k + 1) = sumR f lo k + f (lo + k) := by
  unfold sumR
  rw [List.range_succ, List.map_append, sumI_append]
  simp [sumI]
theorem sumR_nonneg {f : Int → Int} {lo : Int} (h : ∀ x, 0 ≤ f x) (k : Nat) : 0 ≤ sumR f lo k := by
  induction k with
  | zero => exact Int.le_refl _
  | succ k ih => rw [sumR_succ]; have := h (lo + k); omega
theorem sumR_mono {f : Int → Int} {lo : Int} (h : ∀ x, 0 ≤ f x) {j k : Nat} (hjk : j ≤ k) : sumR f lo j ≤ sumR f lo k := by
  induction k with
  | zero => obtain rfl : j = 0 := by omega
            exact Int.le_refl _
  | succ k ih =>
    rcases Nat.lt_or_ge j (k + 1) with h' | h'
    · have := ih (by omega)
      rw [sumR_succ]
      have := h (lo + k)
      omega
    · obtain rfl : j = k + 1 := by omega
      exact Int.le_refl _

/-- What a group's lines are, in sum. -/
def F0 (Lp : List (Grp × Int)) (g : Grp) : Int := cameTo sameG allN Lp g
def c1 (l : List ((Int × Int) × Int)) (Lp : List (Grp × Int)) (c m i : Int) : Int := capV (gL l (3, i)) (F0 Lp (c, m, i))
def Sm (l : List ((Int × Int) × Int)) (Lp : List (Grp × Int)) (c m : Int) : Int := sumR (c1 l Lp c m) 0 33
def c2 (l : List ((Int × Int) × Int)) (Lp : List (Grp × Int)) (c m : Int) : Int := capV (gL l (2, m)) (Sm l Lp c m)
def Sc (l : List ((Int × Int) × Int)) (Lp : List (Grp × Int)) (c : Int) : Int := sumR (c2 l Lp c) 1 6
def c3 (l : List ((Int × Int) × Int)) (Lp : List (Grp × Int)) (c : Int) : Int := capV (gL l (1, c)) (Sc l Lp c)
def Sa (l : List ((Int × Int) × Int)) (Lp : List (Grp × Int)) : Int := sumR (c3 l Lp) 1 6
def inG (g : Grp) : Prop := 1 ≤ g.1 ∧ g.1 ≤ 6 ∧ 1 ≤ g.2.1 ∧ g.2.1 ≤ 6 ∧ 0 ≤ g.2.2 ∧ g.2.2 ≤ 32
/-- A sum is too great, by ranges. -/
def OverQ (l : List ((Int × Int) × Int)) (Lp : List (Grp × Int)) : Prop :=
  (∃ g, inG g ∧ 1000000000000000 < F0 Lp g) ∨ (∃ c m, 1 ≤ c ∧ c ≤ 6 ∧ 1 ≤ m ∧ m ≤ 6 ∧ 1000000000000000 < Sm l Lp c m) ∨ (∃ c, 1 ≤ c ∧ c ≤ 6 ∧ 1000000000000000 < Sc l Lp c) ∨ 1000000000000000 < Sa l Lp

def AllIn (Lp : List (Grp × Int)) : Prop := ∀ p ∈ Lp, inG p.1 ∧ amtB p.2 = true
theorem F0_nonneg {Lp : List (Grp × Int)} (h : AllIn Lp) (g : Grp) : 0 ≤ F0 Lp g := cameTo_nonneg (fun p hp => by have := (h p hp).2; simp [amtB] at this; exact this.1) g
theorem F0_out {Lp : List (Grp × Int)} (h : AllIn Lp) {g : Grp} (hg : ¬ inG g) : F0 Lp g = 0 := by
  unfold F0
  rw [cameTo_eq]
  refine sumI_zero _ _ fun p hp => ?_
  rw [if_neg]
  intro e
  exact hg (e ▸ (h p hp).1)
theorem c1_nonneg {l : List ((Int × Int) × Int)} {Lp : List (Grp × Int)} (h : AllIn Lp) (c m i : Int) : 0 ≤ c1 l Lp c m i := (capV_nonneg (F0_nonneg h _)).1
theorem Sm_nonneg {l : List ((Int × Int) × Int)} {Lp : List (Grp × Int)} (h : AllIn Lp) (c m : Int) : 0 ≤ Sm l Lp c m := sumR_nonneg (c1_nonneg h c m) 33
theorem c2_nonneg {l : List ((Int × Int) × Int)} {Lp : List (Grp × Int)} (h : AllIn Lp) (c m : Int) : 0 ≤ c2 l Lp c m := (capV_nonneg (Sm_nonneg h _ _)).1
theorem Sc_nonneg {l : List ((Int × Int) × Int)} {Lp : List (Grp × Int)} (h : AllIn Lp) (c : Int) : 0 ≤ Sc l Lp c := sumR_nonneg (c2_nonneg h c) 6
theorem c3_nonneg {l : List ((Int × Int) × Int)} {Lp : List (Grp × Int)} (h : AllIn Lp) (c : Int) : 0 ≤ c3 l Lp c := (capV_nonneg (Sc_nonneg h _)).1

/-! ### the maps -/
theorem st0_val {Lp S : List (Grp × Int)} (h : St0 Lp S) (g : Grp) : (lk S g).getD 0 = F0 Lp g := h.1.1 g
theorem st0_in {Lp S : List (Grp × Int)} (hL : AllIn Lp) (h : St0 Lp S) : ∀ p ∈ S, inG p.1 := fun p hp => by
  obtain ⟨q, hq, e⟩ := h.1.2.2 p hp
  rw [← e]
  exact (hL q hq).1

theorem nodup_map_inj {α : Type} {l : List Nat} (hl : l.Nodup) {f : Nat → α} (hf : ∀ a b, f a = f b → a = b) : (l.map f).Nodup :=
  List.Pairwise.map f (fun _ _ hne e => hne (hf _ _ e)) hl

theorem st1_val {l : List ((Int × Int) × Int)} {Lp S : List (Grp × Int)} (hL : AllIn Lp) (h : St0 Lp S) (x : Grp) : cameTo to1 (hL1 l) S x = if x.2.2 = 0 then Sm l Lp x.1 x.2.1 else 0 := by
  obtain ⟨a, b, c⟩ := x
  by_cases hc : c = 0
  · subst hc
    rw [if_pos rfl, cameTo_keys to1 (hL1 l) (fun g => capV_zero _) (R := (List.range 33).map fun (j : Nat) => ((a, b, (0 : Int) + (j : Int)) : Grp)) (nodup_map_inj List.nodup_range (fun i j e => by simp at e; omega)) S h.2 (a, b, 0) (fun p hp hr he => by
      exfalso
      apply hr
      have := st0_in hL h p hp
      obtain ⟨⟨p1, p2, p3⟩, n⟩ := p
      simp only [to1, Prod.mk.injEq] at he
      unfold inG at this
      simp only at this
      refine List.mem_map.2 ⟨p3.toNat, by simp; omega, ?_⟩
      ext <;> simp <;> omega), List.map_map]
    unfold Sm sumR
    refine sumI_congr _ _ _ fun j _ => ?_
    simp only [Function.comp]
    rw [if_pos (show to1 (a, b, (0 : Int) + (j : Int)) = (a, b, 0) from rfl), st0_val h]
    rfl
  · rw [if_neg hc, cameTo_eq]
    refine sumI_zero _ _ fun p _ => ?_
    rw [if_neg]
    intro e
    simp only [to1, Prod.mk.injEq] at e
    exact hc e.2.2.symm
theorem st1_in {l : List ((Int × Int) × Int)} {Lp S : List (Grp × Int)} (hL : AllIn Lp) (h : St1 l Lp S) : ∀ p ∈ S, 1 ≤ p.1.1 ∧ p.1.1 ≤ 6 ∧ 1 ≤ p.1.2.1 ∧ p.1.2.1 ≤ 6 ∧ p.1.2.2 = 0 := fun p hp => by
  obtain ⟨R, hR, ho, _⟩ := h
  obtain ⟨q, hq, e⟩ := ho.2.2 p hp
  have := st0_in hL hR q hq
  rw [← e]
  exact ⟨this.1, this.2.1, this.2.2.1, this.2.2.2.1, rfl⟩
theorem st1_lk {l : List ((Int × Int) × Int)} {Lp S : List (Grp × Int)} (hL : AllIn Lp) (h : St1 l Lp S) (x : Grp) : (lk S x).getD 0 = if x.2.2 = 0 then Sm l Lp x.1 x.2.1 else 0 := by
  obtain ⟨R, hR, ho, _⟩ := h
  rw [ho.1, st1_val hL hR]

theorem st2_val {l : List ((Int × Int) × Int)} {Lp S : List (Grp × Int)} (hL : AllIn Lp) (h : St1 l Lp S) (x : Grp) : cameTo to2 (hL2 l) S x = if x.2 = (0, 0) then Sc l Lp x.1 else 0 := by
  obtain ⟨a, b, c⟩ := x
  have hn : (S.map (·.1)).Nodup := by obtain ⟨_, _, _, hn⟩ := h; exact hn
  by_cases hc : ((b, c) : Int × Int) = (0, 0)
  · obtain ⟨rfl, rfl⟩ : b = 0 ∧ c = 0 := by simpa using hc
    rw [if_pos rfl, cameTo_keys to2 (hL2 l) (fun g => capV_zero _) (R := (List.range 6).map fun (j : Nat) => ((a, (1 : Int) + (j : Int), 0) : Grp)) (nodup_map_inj List.nodup_range (fun i j e => by simp at e; omega)) S hn (a, 0, 0) (fun p hp hr he => by
      exfalso
      apply hr
      have := st1_in hL h p hp
      obtain ⟨⟨p1, p2, p3⟩, n⟩ := p
      simp only [to2, Prod.mk.injEq] at he
      simp only at this
      refine List.mem_map.2 ⟨(p2 - 1).toNat, by simp; omega, ?_⟩
      ext <;> simp <;> omega), List.map_map]
    unfold Sc sumR
    refine sumI_congr _ _ _ fun j _ => ?_
    simp only [Function.comp]
    rw [if_pos (show to2 (a, (1 : Int) + (j : Int), 0) = (a, 0, 0) from rfl), st1_lk hL h]
    rfl
  · rw [if_neg hc, cameTo_eq]
    refine sumI_zero _ _ fun p _ => ?_
    rw [if_neg]
    intro e
    simp only [to2, Prod.mk.injEq] at e
    exact hc (by rw [← e.2.1, ← e.2.2])
theorem st2_in {l : List ((Int × Int) × Int)} {Lp S : List (Grp × Int)} (hL : AllIn Lp) (h : St2 l Lp S) : ∀ p ∈ S, 1 ≤ p.1.1 ∧ p.1.1 ≤ 6 ∧ p.1.2 = (0, 0) := fun p hp => by
  obtain ⟨R, hR, ho, _⟩ := h
  obtain ⟨q, hq, e⟩ := ho.2.2 p hp
  have := st1_in hL hR q hq
  rw [← e]
  exact ⟨this.1, this.2.1, rfl⟩
theorem st2_lk {l : List ((Int × Int) × Int)} {Lp S : List (Grp × Int)} (hL : AllIn Lp) (h : St2 l Lp S) (x : Grp) : (lk S x).getD 0 = if x.2 = (0, 0) then Sc l Lp x.1 else 0 := by
  obtain ⟨R, hR, ho, _⟩ := h
  rw [ho.1, st2_val hL hR]
theorem st3_val {l : List ((Int × Int) × Int)} {Lp S : List (Grp × Int)} (hL : AllIn Lp) (h : St2 l Lp S) (x : Grp) : cameTo to3 (hL3 l) S x = if x = (0, 0, 0) then Sa l Lp else 0 := by
  have hn : (S.map (·.1)).Nodup := by obtain ⟨_, _, _, hn⟩ := h; exact hn
  by_cases hc : x = (0, 0, 0)
  · subst hc
    rw [if_pos rfl, cameTo_keys to3 (hL3 l) (fun g => capV_zero _) (R := (List.range 6).map fun (j : Nat) => (((1 : Int) + (j : Int), 0, 0) : Grp)) (nodup_map_inj List.nodup_range (fun i j e => by simp at e; omega)) S hn (0, 0, 0) (fun p hp hr _ => by
      exfalso
      apply hr
      have := st2_in hL h p hp
      obtain ⟨⟨p1, p2, p3⟩, n⟩ := p
      simp only [Prod.mk.injEq] at this
      refine List.mem_map.2 ⟨(p1 - 1).toNat, by simp; omega, ?_⟩
      ext <;> simp <;> omega), List.map_map]
    unfold Sa sumR
    refine sumI_congr _ _ _ fun j _ => ?_
    simp only [Function.comp]
    rw [if_pos (show to3 ((1 : Int) + (j : Int), 0, 0) = (0, 0, 0) from rfl), st2_lk hL h]
    rfl
  · rw [if_neg hc, cameTo_eq]
    refine sumI_zero _ _ fun p _ => ?_
    rw [if_neg]
    intro e
    exact hc e.symm
theorem st3_lk {l : List ((Int × Int) × Int)} {Lp S : List (Grp × Int)} (hL : AllIn Lp) (h : St3 l Lp S) : (lk S (0, 0, 0)).getD 0 = Sa l Lp := by
  obtain ⟨R, hR, ho, _⟩ := h
  rw [ho.1, st3_val hL hR, if_pos rfl]

/-- The maps' overflow is one by ranges. -/
theorem over_ranges {l : List ((Int × Int) × Int)} {Lp : List (Grp × Int)} (hL : AllIn Lp) (h : OverP l Lp) : OverQ l Lp := by
  rcases h with ⟨x, hx⟩ | ⟨R, x, hR, hx⟩ | ⟨R, x, hR, hx⟩ | ⟨R, x, hR, hx⟩
  · refine .inl ⟨x, ?_, hx⟩
    refine Classical.byContradiction fun hn => ?_
    have : F0 Lp x = 0 := F0_out hL hn
    unfold F0 at this
    omega
  · rw [st1_val hL hR] at hx
    split at hx
    · refine .inr (.inl ?_)
      refine Classical.byContradiction fun hn => ?_
      have hz : Sm l Lp x.1 x.2.1 = 0 := by
        unfold Sm
        have hz1 : ∀ i, c1 l Lp x.1 x.2.1 i = 0 := fun i => by
          unfold c1
          rw [F0_out (g := (x.1, x.2.1, i)) hL (fun hg => hn ⟨x.1, x.2.1, hg.1, hg.2.1, hg.2.2.1, hg.2.2.2.1, hx⟩), capV_zero]
        exact sumI_zero _ _ fun j _ => hz1 _
      omega
    · omega
  · rw [st2_val hL hR] at hx
    split at hx
    · refine .inr (.inr (.inl ?_))
      refine Classical.byContradiction fun hn => ?_
      have hz : Sc l Lp x.1 = 0 := by
        have hz1 : ∀ m i, c1 l Lp x.1 m i = 0 := fun m i => by
          unfold c1
          rw [F0_out (g := (x.1, m, i)) hL (fun hg => hn ⟨x.1, hg.1, hg.2.1, hx⟩), capV_zero]
        have hz2 : ∀ m, c2 l Lp x.1 m = 0 := fun m => by
          have : Sm l Lp x.1 m = 0 := sumI_zero _ _ fun j _ => hz1 m _
          unfold c2
          rw [this, capV_zero]
        exact sumI_zero _ _ fun j _ => hz2 _
      omega
    · omega
  · rw [st3_val hL hR] at hx
    split at hx
    · exact .inr (.inr (.inr hx))
    · omega
theorem not_over {l : List ((Int × Int) × Int)} {Lp S : List (Grp × Int)} (hL : AllIn Lp) (h : St3 l Lp S) : ¬ OverQ l Lp := by
  obtain ⟨R2, ⟨R1, ⟨R0, h0, o1, n1⟩, o2, n2⟩, o3, n3⟩ := h
  have b0 : ∀ g, F0 Lp g ≤ 1000000000000000 := fun g => by rw [← st0_val h0]; have := h0.1.amt g; simp [amtB] at this; omega
  have b1 : ∀ c m, Sm l Lp c m ≤ 1000000000000000 := fun c m => by
    have e := st1_lk hL ⟨R0, h0, o1, n1⟩ (c, m, 0)
    rw [if_pos rfl] at e
    have := o1.amt (c, m, 0)
    simp only at e
    rw [e] at this
    simp [amtB] at this
    exact this.2
  have b2 : ∀ c, Sc l Lp c ≤ 1000000000000000 := fun c => by
    have e := st2_lk hL ⟨R1, ⟨R0, h0, o1, n1⟩, o2, n2⟩ (c, 0, 0)
    rw [if_pos rfl] at e
    have := o2.amt (c, 0, 0)
    simp only at e
    rw [e] at this
    simp [amtB] at this
    exact this.2
  have b3 : Sa l Lp ≤ 1000000000000000 := by
    have e := st3_lk hL ⟨R2, ⟨R1, ⟨R0, h0, o1, n1⟩, o2, n2⟩, o3, n3⟩
    have := o3.amt (0, 0, 0)
    rw [e] at this
    simp [amtB] at this
    exact this.2
  rintro (⟨g, _, h⟩ | ⟨c, m, _, _, _, _, h⟩ | ⟨c, _, _, h⟩ | h)
  · have := b0 g; omega
  · have := b1 c m; omega
  · have := b2 c; omega
  · omega
end Go.Proofs.YtljlnojelagmfaaDoor

namespace Go.Proofs.YtljlnojelagmfaaDoor
open Go.RowKit Go.Pl
set_option maxRecDepth 100000

def limCell (L : List ((Int × Int) × Int)) (i : Nat) : Value :=
  .int .i64 (if i < 7 then gL L (1, (i : Nat)) else if i < 14 then gL L (2, (i - 7 : Nat)) else gL L (3, (i - 14 : Nat)))
def limCells (L : List ((Int × Int) × Int)) : Array Value := Array.ofFn (n := 47) fun i => limCell L i
/-- The reference's limits. -/
def LimAt (w : World) (b : Nat) (L : List ((Int × Int) × Int)) : Prop := CellsAt w b (limCells L) 100
theorem limCells_get (L : List ((Int × Int) × Int)) (i : Nat) : (limCells L)[i]? = if i < 47 then some (limCell L i) else none := by
  simp only [limCells, Array.getElem?_ofFn]
  by_cases h : i < 47 <;> simp [h]
theorem LimAt.c1 {w : World} {b : Nat} {L : List ((Int × Int) × Int)} (h : LimAt w b L) (d : Int) (h1 : 0 ≤ d) (h2 : d ≤ 6) : w.cell? ⟨b, d.toNat, none⟩ = some (.int .i64 (gL L (1, d))) := by
  rw [CellsAt.cell h, limCells_get, if_pos (by omega)]
  unfold limCell
  rw [if_pos (by omega), show ((d.toNat : Nat) : Int) = d by omega]
theorem LimAt.c2 {w : World} {b : Nat} {L : List ((Int × Int) × Int)} (h : LimAt w b L) (d : Int) (h1 : 0 ≤ d) (h2 : d ≤ 6) : w.cell? ⟨b, 7 + d.toNat, none⟩ = some (.int .i64 (gL L (2, d))) := by
  rw [CellsAt.cell h, limCells_get, if_pos (by omega)]
  unfold limCell
  rw [if_neg (by omega), if_pos (by omega), show ((7 + d.toNat - 7 : Nat) : Int) = d by omega]
theorem LimAt.c3 {w : World} {b : Nat} {L : List ((Int × Int) × Int)} (h : LimAt w b L) (d : Int) (h1 : 0 ≤ d) (h2 : d ≤ 32) : w.cell? ⟨b, 14 + d.toNat, none⟩ = some (.int .i64 (gL L (3, d))) := by
  rw [CellsAt.cell h, limCells_get, if_pos (by omega)]
  unfold limCell
  rw [if_neg (by omega), if_neg (by omega), show ((14 + d.toNat - 14 : Nat) : Int) = d by omega]
theorem gL_tset (L : List ((Int × Int) × Int)) (k : Int × Int) (n : Int) (c : Int × Int) : gL (tset L k n) c = if k = c then n else gL L c := by
  unfold gL
  rw [lk_tset]
  by_cases h : k = c
  · rw [if_pos h, if_pos h]
    by_cases hn : n = 0 <;> simp [hn]
  · rw [if_neg h, if_neg h]
def limIx (c d : Int) : Nat := if c = 1 then d.toNat else if c = 2 then 7 + d.toNat else 14 + d.toNat
theorem limCells_set (L : List ((Int × Int) × Int)) (c d n : Int) (h : LimOk c d) : (limCells L).setIfInBounds (limIx c d) (.int .i64 n) = limCells (tset L (c, d) n) := by
  have hc : c = 1 ∧ d ≤ 6 ∨ c = 2 ∧ d ≤ 6 ∨ c = 3 ∧ d ≤ 32 := by
    obtain ⟨h1, h2⟩ := h
    unfold mostV at h2
    by_cases e1 : c = 1
    · rw [if_pos e1] at h2; exact .inl ⟨e1, h2⟩
    · rw [if_neg e1] at h2
      by_cases e2 : c = 2
      · rw [if_pos e2] at h2; exact .inr (.inl ⟨e2, h2⟩)
      · rw [if_neg e2] at h2
        by_cases e3 : c = 3
        · rw [if_pos e3] at h2; exact .inr (.inr ⟨e3, h2⟩)
        · rw [if_neg e3] at h2; omega
  have hd := h.1
  apply Array.ext_getElem?
  intro i
  have hsz : (limCells L).size = 47 := by simp [limCells]
  simp only [Array.getElem?_setIfInBounds, limCells_get, hsz]
  unfold limCell limIx
  simp only [gL_tset]
  rcases hc with ⟨rfl, h2⟩ | ⟨rfl, h2⟩ | ⟨rfl, h2⟩
  · simp only [if_pos]
    by_cases e : d.toNat = i
    · rw [if_pos e, if_pos (by omega), if_pos (by omega), if_pos (by omega), if_pos (by ext <;> simp <;> omega)]
    · rw [if_neg e]
      by_cases hi : i < 47
      · rw [if_pos hi, if_pos hi]
        by_cases h7 : i < 7
        · rw [if_pos h7, if_pos h7, if_neg (by simp only [Prod.mk.injEq, not_and]; omega)]
        · rw [if_neg h7, if_neg h7]
          simp
      · rw [if_neg hi, if_neg hi]
  · simp only [show ¬ ((2 : Int) = 1) by decide, if_false, if_pos]
    by_cases e : 7 + d.toNat = i
    · rw [if_pos e, if_pos (by omega), if_pos (by omega), if_neg (by omega), if_pos (by omega), if_pos (by ext <;> simp <;> omega)]
    · rw [if_neg e]
      by_cases hi : i < 47
      · rw [if_pos hi, if_pos hi]
        by_cases h7 : i < 7
        · rw [if_pos h7, if_pos h7]
          simp
        · rw [if_neg h7, if_neg h7]
          by_cases h14 : i < 14
          · rw [if_pos h14, if_pos h14, if_neg (by simp only [Prod.mk.injEq, not_and]; omega)]
          · rw [if_neg h14, if_neg h14]
            simp
      · rw [if_neg hi, if_neg hi]
  · simp only [show ¬ ((3 : Int) = 1) by decide, show ¬ ((3 : Int) = 2) by decide, if_false]
    by_cases e : 14 + d.toNat = i
    · rw [if_pos e, if_pos (by omega), if_pos (by omega), if_neg (by omega), if_neg (by omega), if_pos (by ext <;> simp <;> omega)]
    · rw [if_neg e]
      by_cases hi : i < 47
      · rw [if_pos hi, if_pos hi]
        by_cases h7 : i < 7
        · rw [if_pos h7, if_pos h7]
          simp
        · rw [if_neg h7, if_neg h7]
          by_cases h14 : i < 14
          · rw [if_pos h14, if_pos h14]
            simp
          · rw [if_neg h14, if_neg h14, if_neg (by simp only [Prod.mk.injEq, not_and]; omega)]
      · rw [if_neg hi, if_neg hi]

theorem sum112 (a b : Int) (w : World) (h1 : -1000000000000000000 ≤ a) (h2 : a ≤ 1000000000000000000) (h3 : 0 ≤ b) (h4 : b ≤ 1000000000000000000) :
    Calls Tryd.prog 112 #[.int .i64 a, .int .i64 b] w fun e w' => e = .returned (.tuple #[.int .i64 (a + b), .bool (decide (a + b ≤ 1000000000000000))]) ∧ w = w' := by
  go_enter Tryd.func112, Tryd.ntmps112
  go_wp2
  go_ret2
  exact ⟨rfl, rfl⟩
theorem most113 (n lim : Int) (w : World) : Calls Tryd.prog 113 #[.int .i64 n, .int .i64 lim] w fun e w' => e = .returned (.int .i64 (capV lim n)) ∧ w = w' := by
  unfold capV
  by_cases h : 0 < lim
  · have h' : decide (0 < lim) = true := by simpa using h
    rw [if_pos h]
    by_cases h2 : lim < n
    · have h2' : decide (lim < n) = true := by simpa using h2
      rw [show min n lim = lim by omega]
      go_enter Tryd.func113, Tryd.ntmps113
      go_wp2
      go_ret
      exact ⟨rfl, rfl⟩
    · have h2' : decide (lim < n) = false := by simpa using h2
      rw [show min n lim = n by omega]
      go_enter Tryd.func113, Tryd.ntmps113
      go_wp2
      go_ret
      exact ⟨rfl, rfl⟩
  · have h' : decide (0 < lim) = false := by simpa using h
    rw [if_neg h]
    go_enter Tryd.func113, Tryd.ntmps113
    go_wp2
    go_ret
    exact ⟨rfl, rfl⟩

set_option maxHeartbeats 1000000 in
theorem limSet44 (yb : Nat) (L : List ((Int × Int) × Int)) (c d n : Int) (w : World) (hY : LimAt w yb L) (h : LimOk c d) (ha : amtB n = true) :
    Calls Tryd.prog 44 #[.pointer (some ⟨yb, 0, none⟩), .int .i64 c, .int .i64 d, .int .i64 n] w fun e w' => e = .returned (.int .i64 0) ∧ LimAt w' yb (tset L (c, d) n) ∧ Chg (S1 yb) w w' := by
  have hlt := CellsAt.lt hY
  have hset := limCells_set L c d n h
  have am := fun w => amt93 n w
  rw [ha] at am
  have AM := Lib.hid am
  obtain ⟨h1, h2⟩ := h
  have d1 : decide (d < 1) = false := by simp; omega
  unfold mostV at h2
  by_cases e1 : c = 1
  · subst e1
    simp only [if_pos] at h2
    have c0 := hY.c1 d (by omega) h2
    have f0 : w.frozen? ⟨yb, d.toNat, none⟩ = false := CellsAt.frozen hY _
    have d2 : decide (d ≤ 6) = true := by simpa using h2
    have HS := Lib.hid hset
    clear hset am ha
    go_enter Tryd.func44, Tryd.ntmps44
    go_wp2_with (go_at_call 93; refine (AM.out _).mono ?_; rintro e w' ⟨rfl, rfl⟩)
    go_ret
    refine ⟨rfl, ?_, Chg.setCell (S := S1 yb) (Chg.refl _ _) ⟨yb, _, none⟩ _ (.inl rfl)⟩
    unfold LimAt
    rw [← HS.out]
    exact CellsAt.set hY _ _
  · rw [if_neg e1] at h2
    by_cases e2 : c = 2
    · subst e2
      simp only [if_pos] at h2
      have c0 := hY.c2 d (by omega) h2
      have f0 : w.frozen? ⟨yb, 7 + d.toNat, none⟩ = false := CellsAt.frozen hY _
      have d2 : decide (d ≤ 6) = true := by simpa using h2
      have HS := Lib.hid hset
      clear hset am ha
      go_enter Tryd.func44, Tryd.ntmps44
      go_wp2_with (go_at_call 93; refine (AM.out _).mono ?_; rintro e w' ⟨rfl, rfl⟩)
      go_ret
      refine ⟨rfl, ?_, Chg.setCell (S := S1 yb) (Chg.refl _ _) ⟨yb, _, none⟩ _ (.inl rfl)⟩
      unfold LimAt
      rw [← HS.out]
      exact CellsAt.set hY _ _
    · rw [if_neg e2] at h2
      by_cases e3 : c = 3
      · subst e3
        simp only [if_pos] at h2
        have c0 := hY.c3 d (by omega) h2
        have f0 : w.frozen? ⟨yb, 14 + d.toNat, none⟩ = false := CellsAt.frozen hY _
        have d2 : decide (d ≤ 32) = true := by simpa using h2
        have HS := Lib.hid hset
        clear hset am ha
        go_enter Tryd.func44, Tryd.ntmps44
        go_wp2_with (go_at_call 93; refine (AM.out _).mono ?_; rintro e w' ⟨rfl, rfl⟩)
        go_ret
        refine ⟨rfl, ?_, Chg.setCell (S := S1 yb) (Chg.refl _ _) ⟨yb, _, none⟩ _ (.inl rfl)⟩
        unfold LimAt
        rw [← HS.out]
        exact CellsAt.set hY _ _
      · rw [if_neg e3] at h2
        omega
end Go.Proofs.YtljlnojelagmfaaDoor

namespace Go.Proofs.YtljlnojelagmfaaDoor
open Go.RowKit Go.Pl
set_option maxRecDepth 100000

theorem Lims.out {L : List ((Int × Int) × Int)} (h : Lims L) {c d : Int} (hn : ¬ LimOk c d) : gL L (c, d) = 0 := by
  unfold gL
  cases hk : lk L (c, d) with
  | none => rfl
  | some y => exact absurd (h _ (mem_of_lk hk)).1 hn
theorem mostV1 : mostV 1 = 6 := rfl
theorem mostV2 : mostV 2 = 6 := rfl
theorem mostV3 : mostV 3 = 32 := rfl
theorem mostVn {c : Int} (h1 : c ≠ 1) (h2 : c ≠ 2) (h3 : c ≠ 3) : mostV c = 0 := by unfold mostV; rw [if_neg h1, if_neg h2, if_neg h3]

set_option maxHeartbeats 1000000 in
theorem limSet44_bad (yb : Nat) (c d n : Int) (w : World) (h : ¬ (LimOk c d ∧ amtB n = true)) :
    Calls Tryd.prog 44 #[.pointer (some ⟨yb, 0, none⟩), .int .i64 c, .int .i64 d, .int .i64 n] w fun e w' => e = .returned (.int .i64 103) ∧ w = w' := by
  have am := fun w => amt93 n w
  cases ha : amtB n with
  | false =>
    rw [ha] at am
    have AM := Lib.hid am
    clear am ha h
    go_enter Tryd.func44, Tryd.ntmps44
    go_wp2_with (go_at_call 93; refine (AM.out _).mono ?_; rintro e w' ⟨rfl, rfl⟩)
    go_ret
    exact ⟨rfl, rfl⟩
  | true =>
    rw [ha] at am
    have AM := Lib.hid am
    clear am
    by_cases g1 : d < 1
    · have d1 : decide (d < 1) = true := by simpa using g1
      clear h ha
      go_enter Tryd.func44, Tryd.ntmps44
      go_wp2_with (go_at_call 93; refine (AM.out _).mono ?_; rintro e w' ⟨rfl, rfl⟩)
      go_ret
      exact ⟨rfl, rfl⟩
    · have d1 : decide (d < 1) = false := by simpa using g1
      have hm : mostV c < d := by
        refine Int.lt_of_not_ge fun hge => h ⟨⟨by omega, hge⟩, ha⟩
      clear h ha
      by_cases e1 : c = 1
      · subst e1
        rw [mostV1] at hm
        have d2 : decide (d ≤ 6) = false := by simp; omega
        go_enter Tryd.func44, Tryd.ntmps44
        go_wp2_with (go_at_call 93; refine (AM.out _).mono ?_; rintro e w' ⟨rfl, rfl⟩)
        go_ret
        exact ⟨rfl, rfl⟩
      · have e1' : (c == 1) = false := by simpa using e1
        by_cases e2 : c = 2
        · subst e2
          rw [mostV2] at hm
          have d2 : decide (d ≤ 6) = false := by simp; omega
          go_enter Tryd.func44, Tryd.ntmps44
          go_wp2_with (go_at_call 93; refine (AM.out _).mono ?_; rintro e w' ⟨rfl, rfl⟩)
          go_ret
          exact ⟨rfl, rfl⟩
        · have e2' : (c == 2) = false := by simpa using e2
          by_cases e3 : c = 3
          · subst e3
            rw [mostV3] at hm
            have d2 : decide (d ≤ 32) = false := by simp; omega
            go_enter Tryd.func44, Tryd.ntmps44
            go_wp2_with (go_at_call 93; refine (AM.out _).mono ?_; rintro e w' ⟨rfl, rfl⟩)
            go_ret
            exact ⟨rfl, rfl⟩
          · have e3' : (c == 3) = false := by simpa using e3
            clear hm e1 e2 e3
            go_enter Tryd.func44, Tryd.ntmps44
            go_wp2_with (go_at_call 93; refine (AM.out _).mono ?_; rintro e w' ⟨rfl, rfl⟩)
            go_ret
            exact ⟨rfl, rfl⟩

set_option maxHeartbeats 1000000 in
theorem limGet45 (yb : Nat) (L : List ((Int × Int) × Int)) (c d : Int) (w : World) (hY : LimAt w yb L) (hL : Lims L) :
    Calls Tryd.prog 45 #[.pointer (some ⟨yb, 0, none⟩), .int .i64 c, .int .i64 d] w fun e w' => e = .returned (.int .i64 (gL L (c, d))) ∧ w = w' := by
  have hlt := CellsAt.lt hY
  have a6 := fun w => in87 d 1 6 w
  have a32 := fun w => in87 d 1 32 w
  by_cases e1 : c = 1
  · subst e1
    cases hd : (decide (1 ≤ d) && decide (d ≤ 6)) with
    | false =>
      rw [hL.out (fun h => by have := h.1; have := h.2; rw [mostV1] at this; simp at hd; omega)]
      rw [hd] at a6
      have A := Lib.hid a6
      clear a6 a32 hd
      go_enter Tryd.func45, Tryd.ntmps45
      go_wp2_with (go_at_call 87; refine (A.out _).mono ?_; rintro e w' ⟨rfl, rfl⟩)
      go_ret
      exact ⟨rfl, rfl⟩
    | true =>
      rw [hd] at a6
      simp at hd
      obtain ⟨d1, d2⟩ := hd
      have c0 := hY.c1 d (by omega) d2
      have A := Lib.hid a6
      clear a6 a32
      go_enter Tryd.func45, Tryd.ntmps45
      go_wp2_with (go_at_call 87; refine (A.out _).mono ?_; rintro e w' ⟨rfl, rfl⟩)
      go_ret
      exact ⟨rfl, rfl⟩
  · have e1' : (c == 1) = false := by simpa using e1
    by_cases e2 : c = 2
    · subst e2
      cases hd : (decide (1 ≤ d) && decide (d ≤ 6)) with
      | false =>
        rw [hL.out (fun h => by have := h.1; have := h.2; rw [mostV2] at this; simp at hd; omega)]
        rw [hd] at a6
        have A := Lib.hid a6
        clear a6 a32 hd
        go_enter Tryd.func45, Tryd.ntmps45
        go_wp2_with (go_at_call 87; refine (A.out _).mono ?_; rintro e w' ⟨rfl, rfl⟩)
        go_ret
        exact ⟨rfl, rfl⟩
      | true =>
        rw [hd] at a6
        simp at hd
        obtain ⟨d1, d2⟩ := hd
        have c0 := hY.c2 d (by omega) d2
        have A := Lib.hid a6
        clear a6 a32
        go_enter Tryd.func45, Tryd.ntmps45
        go_wp2_with (go_at_call 87; refine (A.out _).mono ?_; rintro e w' ⟨rfl, rfl⟩)
        go_ret
        exact ⟨rfl, rfl⟩
    · have e2' : (c == 2) = false := by simpa using e2
      by_cases e3 : c = 3
      · subst e3
        cases hd : (decide (1 ≤ d) && decide (d ≤ 32)) with
        | false =>
          rw [hL.out (fun h => by have := h.1; have := h.2; rw [mostV3] at this; simp at hd; omega)]
          rw [hd] at a32
          have A := Lib.hid a32
          clear a6 a32 hd
          go_enter Tryd.func45, Tryd.ntmps45
          go_wp2_with (go_at_call 87; refine (A.out _).mono ?_; rintro e w' ⟨rfl, rfl⟩)
          go_ret
          exact ⟨rfl, rfl⟩
        | true =>
          rw [hd] at a32
          simp at hd
          obtain ⟨d1, d2⟩ := hd
          have c0 := hY.c3 d (by omega) d2
          have A := Lib.hid a32
          clear a6 a32
          go_enter Tryd.func45, Tryd.ntmps45
          go_wp2_with (go_at_call 87; refine (A.out _).mono ?_; rintro e w' ⟨rfl, rfl⟩)
          go_ret
          exact ⟨rfl, rfl⟩
      · have e3' : (c == 3) = false := by simpa using e3
        rw [hL.out (fun h => by have := h.1; have := h.2; rw [mostVn e1 e2 e3] at this; omega)]
        clear a6 a32 e1 e2 e3
        go_enter Tryd.func45, Tryd.ntmps45
        go_wp2
        go_ret
        exact ⟨rfl, rfl⟩

/-- The cells of lines. -/
def cells4 (ks : List Quad) : List Value := ks.flatMap fun p => [.int .i64 p.1, .int .i64 p.2.1, .int .i64 p.2.2.1, .int .i64 p.2.2.2]
theorem cells4_length (ks : List Quad) : (cells4 ks).length = ks.length * 4 := by
  induction ks with
  | nil => rfl
  | cons p ks ih => simp only [cells4, List.flatMap_cons, List.length_append] at ih ⊢; simp [ih]; omega
theorem cells4_snoc (ks : List Quad) (p : Quad) : cells4 (ks ++ [p]) = cells4 ks ++ [.int .i64 p.1, .int .i64 p.2.1, .int .i64 p.2.2.1, .int .i64 p.2.2.2] := by simp [cells4]
def quads (D : Nat → Quad) (n : Nat) : List Quad := (List.range n).map D
theorem quads_succ (D : Nat → Quad) (n : Nat) : quads D (n + 1) = quads D n ++ [D n] := by simp [quads, List.range_succ]
theorem quads_length (D : Nat → Quad) (n : Nat) : (quads D n).length = n := by simp [quads]
theorem cells4_at (ks : List Quad) (i : Nat) (hi : i < ks.length) : (cells4 ks)[i * 4]? = some (.int .i64 (ks[i]).1) ∧ (cells4 ks)[i * 4 + 1]? = some (.int .i64 (ks[i]).2.1) ∧ (cells4 ks)[i * 4 + 2]? = some (.int .i64 (ks[i]).2.2.1) ∧ (cells4 ks)[i * 4 + 3]? = some (.int .i64 (ks[i]).2.2.2) := by
  induction ks generalizing i with
  | nil => simp at hi
  | cons p ks ih =>
    cases i with
    | zero => exact ⟨rfl, rfl, rfl, rfl⟩
    | succ i =>
      have := ih i (by simpa using hi)
      have e1 : (i + 1) * 4 = i * 4 + 4 := by omega
      rw [e1]
      exact this
/-- A row of lines of the call's own. -/
theorem ownsRow_quads {t : TypeId} {w : World} {base : Nat} {v : Value} {D : Nat → Quad} {n : Nat} (h : w.ownsRow base t 4 v n (cells4 (quads D n))) : DosAt w v n D := by
  rcases h.2 with ⟨rfl, hz⟩ | ⟨g, cap, cur, rfl, hbase, hgb, r1, r2, r3, r4⟩
  · exact ⟨none, 0, by rw [hz], by omega, fun i hi => by omega⟩
  · refine ⟨_, cap, rfl, r1, fun i hi => ⟨⟨g, 0, none⟩, g, i * 4, none, rfl, by unfold Addr.add; split <;> simp_all, ?_⟩⟩
    have hq : i < (quads D n).length := by rw [quads_length]; exact hi
    obtain ⟨k0, k1, k2, k3⟩ := cells4_at (quads D n) i hq
    have hD : (quads D n)[i] = D i := by simp [quads]
    rw [hD] at k0 k1 k2 k3
    rw [← r4, List.getElem?_take, if_pos (by omega)] at k0 k1 k2 k3
    simp only [Array.getElem?_toList] at k0 k1 k2 k3
    refine ⟨?_, ?_, ?_, ?_⟩ <;> simp [World.cell?, hgb, k0, k1, k2, k3]

theorem info203 : (Tryd.prog.info? 203).map (fun i => (i.zero, i.size, i.bytes)) = some (some (.agg #[.int .i64 0, .int .i64 0, .int .i64 0, .int .i64 0]), 4, 32) := by kernel_rfl

set_option maxHeartbeats 4000000 in
theorem other47 (v : Value) (n : Nat) (D : Nat → Quad) (w : World) (hD : DosAt w v n D) (hn : n ≤ 1000) :
    Calls Tryd.prog 47 #[v] w fun e w' => ∃ u, e = .returned u ∧ DosAt w' u n D ∧ Chg S0 w w' := by
  obtain ⟨p, cap, rfl, hcap, hD⟩ := hD
  obtain ⟨i0, hi, hz0, hz1, hz2⟩ := info_parts info203
  go_enter Tryd.func47, Tryd.ntmps47
  go_wp2
  go_loopw [3, 4] (fun a i wr => ∃ k : Nat, k ≤ n ∧ i = .int .i64 k ∧ Chg S0 w wr ∧ wr.ownsRow w.heap.size 203 4 a k (cells4 (quads D k))) (fun _ i _ => n - (intOf i).toNat)
  case atStart => exact ⟨0, Nat.zero_le _, rfl, Chg.refl _ _, by simp [World.ownsRow, quads, cells4]⟩
  case round =>
    obtain ⟨k, hk, rfl, hc, hown⟩ := hrel
    by_cases hkn : k < n
    · have hkn' : decide ((k : Int) < n) = true := by simp; omega
      obtain ⟨a, pb, po, ps, hpa, hadd, q00, q10, q20, q30⟩ := hD k hkn
      have hpb := World.block_lt_of_cell? _ _ q00
      simp only at hpb
      have q0 := hc.cellA q00 (fun h => h)
      have q1 := hc.cellA q10 (fun h => h)
      have q2 := hc.cellA q20 (fun h => h)
      have q3 := hc.cellA q30 (fun h => h)
      subst hpa
      have hq := quads_succ D k
      clear q00 q10 q20 q30
      obtain ⟨d, hd⟩ : ∃ d, D k = d := ⟨_, rfl⟩
      rw [hd] at q0 q1 q2 q3 hq
      obtain ⟨d0, d1, d2, d3⟩ := d
      simp only at q0 q1 q2 q3
      have HQ := Lib.hid hq
      have Hc := Lib.hid hc
      have y1 : ∀ b, u3.ownBlock = some b → w.heap.size ≤ b := fun b hb => (hown.lt b hb).1
      have yb : u3.ownBlock ≠ some pb := fun h => by have := y1 _ h; omega
      have Y1 := Lib.hid y1
      have hsz := hc.size
      clear y1 hq hc hd
      go_wp2
      go_region_held3 (fun w' => w'.cell? ⟨pb, po, ps⟩ = some (.int .i64 d0) ∧ w'.cell? ⟨pb, po + 1, none⟩ = some (.int .i64 d1) ∧ w'.cell? ⟨pb, po + 2, none⟩ = some (.int .i64 d2) ∧ w'.cell? ⟨pb, po + 3, none⟩ = some (.int .i64 d3))
        (first
          | go_keep
          | (go_split_ands
             refine ⟨?_, ?_, ?_, ?_⟩
             · (rw [hgrow.cell_far _ (by simp; omega) (Ne.symm yb)]; assumption)
             · (rw [hgrow.cell_far _ (by simp; omega) (Ne.symm yb)]; assumption)
             · (rw [hgrow.cell_far _ (by simp; omega) (Ne.symm yb)]; assumption)
             · (rw [hgrow.cell_far _ (by simp; omega) (Ne.symm yb)]; assumption)))
        ((refine step_append_lies _ (by rfl) _ _ _ (by rfl) w.heap.size 203 i0 _ 4 32 Tryd.underlying107 hi hz0 hz1 hz2 rfl (by omega) u3 k (cells4 (quads D k)) (by rfl) ((hown.alloc _).drew)
            ⟨wr.heap.size, 0, none⟩ 1 1 [.int .i64 d0, .int .i64 d1, .int .i64 d2, .int .i64 d3] (by rfl) (by rfl) (World.news_of_block (cs := #[.int .i64 d0, .int .i64 d1, .int .i64 d2, .int .i64 d3]) (t := 203) (fr := (0, 0)) (heap_alloc_new wr _)) (by simp [Value.oneCell'])
            (by omega) (by unfold maxLen; omega) (by omega) (by simp; omega) (wr.heap.size + 1) (by simp) ?_; intro gg cap' w1 hown1 hgrow hat hlt))
      have Hg3 := Lib.hid (Chg.of_grownBy (Hc.out.alloc _).drew hgrow (fun b hb => .inr (Y1.out b hb)))
      have Ho3 := Lib.hid hown1
      clear hgrow hown hown1
      go_wp2
      exact ⟨⟨k + 1, by omega, by go_num, Hg3.out, by rw [HQ.out, cells4_snoc]; exact Ho3.out⟩, by simp [intOf]; omega⟩
    · obtain rfl : k = n := by omega
      have HO := Lib.hid hown
      have Hc := Lib.hid hc
      clear hkn hc hown
      go_wp2
      go_ret
      exact ⟨u3, rfl, ownsRow_quads HO.out, Hc.out⟩
end Go.Proofs.YtljlnojelagmfaaDoor
