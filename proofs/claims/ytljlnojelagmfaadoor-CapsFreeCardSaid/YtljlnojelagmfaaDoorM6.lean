/-
  What counts of lines: sums over maps' lists as sums over ranges; lines of one group. (Chapter 16.)
-/
import Derived.Test.YtljlnojelagmfaaDoorM5
namespace Go.Proofs.YtljlnojelagmfaaDoor
open Go.Pl

theorem sumI_zero {α : Type} (l : List α) (f : α → Int) (h : ∀ a ∈ l, f a = 0) : sumI (l.map f) = 0 := by
  induction l with
  | nil => rfl
  | cons a l ih => rw [List.map_cons, sumI_cons, h a (by simp), ih (fun b hb => h b (by simp [hb]))]; rfl
theorem sumI_congr {α : Type} (l : List α) (f g : α → Int) (h : ∀ a ∈ l, f a = g a) : sumI (l.map f) = sumI (l.map g) := by
  rw [List.map_congr_left h]

theorem sum_at {R : List Grp} (hR : R.Nodup) (k : Grp) (a : Int) (f : Grp → Int) (hk : k ∈ R) (h0 : f k = 0) : sumI (R.map fun g => if k = g then a else f g) = a + sumI (R.map f) := by
  induction R with
  | nil => cases hk
  | cons g R ih =>
    rw [List.nodup_cons] at hR
    rw [List.map_cons, List.map_cons, sumI_cons, sumI_cons]
    by_cases e : k = g
    · subst e
      rw [if_pos rfl, h0]
      have : sumI (R.map fun g => if k = g then a else f g) = sumI (R.map f) := sumI_congr _ _ _ fun g hg => by
        rw [if_neg]
        intro e
        subst e
        exact hR.1 hg
      omega
    · rw [if_neg e]
      have hk' : k ∈ R := by
        rcases List.mem_cons.1 hk with h | h
        · exact absurd h e
        · exact h
      have := ih hR.2 hk'
      omega

/-- A sum over a map's list is one over keys. -/
theorem assocSum (h : Grp → Int → Int) (h0 : ∀ g, h g 0 = 0) {R : List Grp} (hR : R.Nodup) (O : List (Grp × Int)) (hn : (O.map (·.1)).Nodup) (hout : ∀ p ∈ O, p.1 ∉ R → h p.1 p.2 = 0) :
    sumI (O.map fun p => h p.1 p.2) = sumI (R.map fun g => h g ((lk O g).getD 0)) := by
  induction O with
  | nil =>
    rw [sumI_zero R _ (fun g _ => by simp [lk, h0])]
    rfl
  | cons p O ih =>
    rw [List.map_cons, List.nodup_cons] at hn
    have ih' := ih hn.2 (fun q hq => hout q (by simp [hq]))
    rw [List.map_cons, sumI_cons, ih']
    have hno : lk O p.1 = none := lk_none.2 fun q hq e => hn.1 (e ▸ List.mem_map_of_mem hq)
    have e1 : ∀ g, h g ((lk (p :: O) g).getD 0) = if p.1 = g then h p.1 p.2 else h g ((lk O g).getD 0) := by
      intro g
      by_cases e : p.1 = g
      · subst e; simp [lk]
      · rw [if_neg e]; simp [lk, e]
    simp only [e1]
    by_cases hp : p.1 ∈ R
    · rw [sum_at hR p.1 _ (fun g => h g ((lk O g).getD 0)) hp (by rw [hno]; simp [h0])]
    · rw [hout p (by simp) hp, sumI_congr R (fun g => if p.1 = g then 0 else h g ((lk O g).getD 0)) (fun g => h g ((lk O g).getD 0)) (fun g hg => by rw [if_neg (fun (e : p.1 = g) => hp (e ▸ hg))])]
      omega

theorem cameTo_eq (T : Grp → Grp) (h : Grp → Int → Int) (L : List (Grp × Int)) (x : Grp) : cameTo T h L x = sumI (L.map fun p => if T p.1 = x then h p.1 p.2 else 0) := by
  unfold cameTo
  induction L with
  | nil => rfl
  | cons p L ih =>
    rw [List.map_cons, sumI_cons, List.filter_cons]
    by_cases e : T p.1 = x
    · simp only [e, decide_true, if_true, List.map_cons, sumI_cons, ih]
    · simp only [e, decide_false, if_false, Bool.false_eq_true, ih]
      omega

/-- What comes to x out of a map, as a sum over keys. -/
theorem cameTo_keys (T : Grp → Grp) (h : Grp → Int → Int) (h0 : ∀ g, h g 0 = 0) {R : List Grp} (hR : R.Nodup) (O : List (Grp × Int)) (hn : (O.map (·.1)).Nodup) (x : Grp) (hout : ∀ p ∈ O, p.1 ∉ R → T p.1 = x → h p.1 p.2 = 0) :
    cameTo T h O x = sumI (R.map fun g => if T g = x then h g ((lk O g).getD 0) else 0) := by
  rw [cameTo_eq]
  exact assocSum (fun g n => if T g = x then h g n else 0) (fun g => by simp [h0]) hR O hn (fun p hp hr => by
    by_cases e : T p.1 = x
    · simp only [e, if_true]; exact hout p hp hr e
    · simp only [e, if_false])

/-- All that there is lies at g. -/
def Single (S : List (Grp × Int)) (g : Grp) (n : Int) : Prop := ∀ (T : Grp → Grp) (h : Grp → Int → Int), (∀ g, h g 0 = 0) → ∀ x, cameTo T h S x = if T g = x then h g n else 0
theorem single_of {T : Grp → Grp} {h : Grp → Int → Int} {S L : List (Grp × Int)} (ho : OutIs T h S L) (hn : (S.map (·.1)).Nodup) {g : Grp} {n : Int} (hs : ∀ x, cameTo T h L x = if g = x then n else 0) : Single S g n := by
  intro T' h' h0 x
  have hlk : ∀ k, (lk S k).getD 0 = if g = k then n else 0 := fun k => (ho.1 k).trans (hs k)
  rw [cameTo_keys T' h' h0 (R := [g]) (by simp) S hn x (fun p hp hr _ => by
    have : p.2 = 0 := by
      have h1 := hlk p.1
      rw [lk_of_mem hn hp, if_neg (fun e => hr (by simp [e]))] at h1
      simpa using h1
    rw [this, h0])]
  simp only [List.map_cons, List.map_nil, sumI_cons, sumI_nil, hlk, if_true]
  omega
theorem single_step {T : Grp → Grp} {h : Grp → Int → Int} {S R : List (Grp × Int)} (h0 : ∀ g, h g 0 = 0) (ho : OutIs T h S R) (hn : (S.map (·.1)).Nodup) {g : Grp} {n : Int} (hs : Single R g n) : Single S (T g) (h g n) :=
  single_of ho hn (fun x => hs T h h0 x)

/-- What counts of one group's amount. -/
def capG (l : List ((Int × Int) × Int)) (g : Grp) (n : Int) : Int := capV (gL l (1, g.1)) (capV (gL l (2, g.2.1)) (capV (gL l (3, g.2.2)) n))
theorem sum_single (l : List ((Int × Int) × Int)) (Lp : List (Grp × Int)) (g : Grp) (n : Int) (hs : ∀ x, cameTo sameG allN Lp x = if g = x then n else 0) (h1 : 0 ≤ n) (h2 : n ≤ 1000000000000000) :
    (∀ S, St3 l Lp S → (lk S (0, 0, 0)).getD 0 = capG l g n) ∧ ¬ OverP l Lp := by
  have z1 : ∀ g, hL1 l g 0 = 0 := fun g => capV_zero _
  have z2 : ∀ g, hL2 l g 0 = 0 := fun g => capV_zero _
  have z3 : ∀ g, hL3 l g 0 = 0 := fun g => capV_zero _
  have s0 : ∀ S, St0 Lp S → Single S g n := fun S h => single_of h.1 h.2 hs
  have s1 : ∀ S, St1 l Lp S → Single S (to1 g) (hL1 l g n) := fun S ⟨R, hR, ho, hn⟩ => single_step z1 ho hn (s0 R hR)
  have s2 : ∀ S, St2 l Lp S → Single S (to2 (to1 g)) (hL2 l (to1 g) (hL1 l g n)) := fun S ⟨R, hR, ho, hn⟩ => single_step z2 ho hn (s1 R hR)
  have b1 := capV_nonneg (lim := gL l (lim1 g)) h1
  have b2 := capV_nonneg (lim := gL l (lim2 (to1 g))) b1.1
  have b3 := capV_nonneg (lim := gL l (lim3 (to2 (to1 g)))) b2.1
  refine ⟨fun S ⟨R, hR, ho, _⟩ => ?_, fun ho => ?_⟩
  · rw [ho.1, s2 R hR to3 (hL3 l) z3]
    rfl
  · rcases ho with ⟨x, hx⟩ | ⟨R, x, hR, hx⟩ | ⟨R, x, hR, hx⟩ | ⟨R, x, hR, hx⟩
    · rw [hs] at hx
      split at hx <;> omega
    · rw [s0 R hR to1 (hL1 l) z1] at hx
      split at hx
      · simp only [hL1] at hx; omega
      · omega
    · rw [s1 R hR to2 (hL2 l) z2] at hx
      split at hx
      · simp only [hL2, hL1] at hx; omega
      · omega
    · rw [s2 R hR to3 (hL3 l) z3] at hx
      split at hx
      · simp only [hL3, hL2, hL1] at hx; omega
      · omega
end Go.Proofs.YtljlnojelagmfaaDoor
