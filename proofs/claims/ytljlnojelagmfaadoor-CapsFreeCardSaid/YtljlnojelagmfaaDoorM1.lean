/-
  What counts of groups: plain words. (Chapter 16.)
-/
import Derived.Test.YtljlnojelagmfaaDoorB2
import Derived.Test.YtljlnojelagmfaaDoorN1
namespace Go.Pl

abbrev Grp := Int × Int × Int
/-- The sum of numbers. -/
def sumI (l : List Int) : Int := l.foldl (· + ·) 0
theorem sumI_nil : sumI [] = 0 := rfl
theorem foldl_add (l : List Int) (a : Int) : l.foldl (· + ·) a = a + sumI l := by
  unfold sumI
  induction l generalizing a with
  | nil => simp
  | cons n l ih => simp only [List.foldl_cons]; rw [ih, ih (0 + n)]; omega
theorem sumI_cons (n : Int) (l : List Int) : sumI (n :: l) = n + sumI l := by
  have := foldl_add l (0 + n)
  simp only [sumI, List.foldl_cons] at *
  omega
theorem sumI_snoc (l : List Int) (n : Int) : sumI (l ++ [n]) = sumI l + n := by simp [sumI]
theorem sumI_append (l m : List Int) : sumI (l ++ m) = sumI l + sumI m := by
  induction l with
  | nil => simp [sumI_nil]
  | cons n l ih => simp only [List.cons_append, sumI_cons, ih]; omega
theorem sumI_take {l : List Int} {k : Nat} (hk : k < l.length) : sumI (l.take (k + 1)) = sumI (l.take k) + l[k] := by rw [List.take_succ_eq_append_getElem hk, sumI_snoc]
theorem sumI_bd (l : List Int) (h : l.all amtB = true) : 0 ≤ sumI l ∧ sumI l ≤ 1000000000000000 * l.length := by
  induction l with
  | nil => simp [sumI_nil]
  | cons n l ih =>
    simp only [List.all_cons, Bool.and_eq_true] at h
    have := ih h.2
    have hn := h.1
    simp [amtB] at hn
    rw [sumI_cons]
    simp only [List.length_cons]
    omega
theorem sumI_nonneg (l : List Int) (h : ∀ n ∈ l, 0 ≤ n) : 0 ≤ sumI l := by
  induction l with
  | nil => simp [sumI_nil]
  | cons n l ih =>
    have h1 := h n (by simp)
    have h2 := ih (fun m hm => h m (by simp [hm]))
    rw [sumI_cons]
    omega
theorem sumI_perm {l m : List Int} (h : l.Perm m) : sumI l = sumI m := by
  induction h with
  | nil => rfl
  | cons x _ ih => rw [sumI_cons, sumI_cons, ih]
  | swap x y l => rw [sumI_cons, sumI_cons, sumI_cons, sumI_cons]; omega
  | trans _ _ h1 h2 => exact h1.trans h2
theorem all_take {l : List Int} (h : l.all amtB = true) (k : Nat) : (l.take k).all amtB = true := List.all_eq_true.2 fun x hx => List.all_eq_true.1 h x (List.mem_of_mem_take hx)

/-- What counts under a limit. (0: none.) -/
def capV (lim n : Int) : Int := if 0 < lim then min n lim else n
theorem capV_nonneg {lim n : Int} (h : 0 ≤ n) : 0 ≤ capV lim n ∧ capV lim n ≤ n := by unfold capV; split <;> omega
theorem capV_zero (lim : Int) : capV lim 0 = 0 := by unfold capV; split <;> omega

/-- What comes to x: the sum of h over what T sends there. -/
def cameTo (T : Grp → Grp) (h : Grp → Int → Int) (L : List (Grp × Int)) (x : Grp) : Int := sumI ((L.filter (fun p => decide (T p.1 = x))).map (fun p => h p.1 p.2))
theorem cameTo_nil (T : Grp → Grp) (h : Grp → Int → Int) (x : Grp) : cameTo T h [] x = 0 := rfl
theorem cameTo_snoc (T : Grp → Grp) (h : Grp → Int → Int) (L : List (Grp × Int)) (p : Grp × Int) (x : Grp) : cameTo T h (L ++ [p]) x = cameTo T h L x + if T p.1 = x then h p.1 p.2 else 0 := by
  unfold cameTo
  rw [List.filter_append, List.map_append, sumI_append]
  by_cases e : T p.1 = x <;> simp [e, sumI]
theorem cameTo_perm {T : Grp → Grp} {h : Grp → Int → Int} {L M : List (Grp × Int)} (hp : L.Perm M) (x : Grp) : cameTo T h L x = cameTo T h M x :=
  sumI_perm ((hp.filter _).map _)
theorem cameTo_nonneg {T : Grp → Grp} {h : Grp → Int → Int} {L : List (Grp × Int)} (hh : ∀ p ∈ L, 0 ≤ h p.1 p.2) (x : Grp) : 0 ≤ cameTo T h L x := by
  unfold cameTo
  refine sumI_nonneg _ fun n hn => ?_
  obtain ⟨p, hp, rfl⟩ := List.mem_map.1 hn
  exact hh p (List.mem_filter.1 hp).1
theorem cameTo_append (T : Grp → Grp) (h : Grp → Int → Int) (L M : List (Grp × Int)) (x : Grp) : cameTo T h (L ++ M) x = cameTo T h L x + cameTo T h M x := by
  unfold cameTo
  rw [List.filter_append, List.map_append, sumI_append]

/-- A map holds just what comes to each. -/
def OutIs (T : Grp → Grp) (h : Grp → Int → Int) (O L : List (Grp × Int)) : Prop := (∀ x, (lk O x).getD 0 = cameTo T h L x) ∧ (∀ p ∈ O, amtB p.2 = true) ∧ ∀ p ∈ O, ∃ q ∈ L, T q.1 = p.1
theorem OutIs.nil (T : Grp → Grp) (h : Grp → Int → Int) : OutIs T h [] [] := ⟨fun _ => rfl, (by simp), (by simp)⟩
theorem mem_put {α β : Type} [DecidableEq α] {l : List (α × β)} {k : α} {n : β} {p : α × β} (h : p ∈ put l k n) : p = (k, n) ∨ p ∈ l := by
  unfold put at h
  split at h
  · obtain ⟨q, hq, rfl⟩ := List.mem_map.1 h
    split
    · exact .inl rfl
    · exact .inr hq
  · rcases List.mem_append.1 h with h | h
    · exact .inr h
    · simp at h
      exact .inl h
theorem OutIs.snoc {T : Grp → Grp} {h : Grp → Int → Int} {O L : List (Grp × Int)} (ho : OutIs T h O L) (p : Grp × Int) (h0 : 0 ≤ h p.1 p.2) (h1 : (lk O (T p.1)).getD 0 + h p.1 p.2 ≤ 1000000000000000) :
    OutIs T h (put O (T p.1) ((lk O (T p.1)).getD 0 + h p.1 p.2)) (L ++ [p]) := by
  obtain ⟨o1, o2, o3⟩ := ho
  have hb : 0 ≤ (lk O (T p.1)).getD 0 := by
    cases hk : lk O (T p.1) with
    | none => simp
    | some y => have := o2 _ (mem_of_lk hk); simp [amtB] at this; simp; omega
  refine ⟨fun x => ?_, fun q hq => ?_, fun q hq => ?_⟩
  · rw [lk_put, cameTo_snoc]
    by_cases e : T p.1 = x
    · rw [if_pos e, if_pos e, ← o1 x, ← e]
      simp
    · rw [if_neg e, if_neg e, o1 x]
      omega
  · rcases mem_put hq with rfl | hq
    · simp [amtB]
      omega
    · exact o2 q hq
  · rcases mem_put hq with rfl | hq
    · exact ⟨p, by simp, rfl⟩
    · obtain ⟨r, hr, e⟩ := o3 q hq
      exact ⟨r, by simp [hr], e⟩
end Go.Pl
