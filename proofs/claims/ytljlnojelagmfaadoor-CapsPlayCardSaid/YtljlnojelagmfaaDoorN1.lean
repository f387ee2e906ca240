/-
  The two greatest of amounts: plain words. (Chapter 22.)
-/
namespace Go.Pl

/-- An amount. -/
def amtB (n : Int) : Bool := decide (0 ≤ n) && decide (n ≤ 1000000000000000)
/-- The two greatest so far, and one more. -/
def top2 (ab : Int × Int) (n : Int) : Int × Int := if ab.1 < n then (n, ab.1) else if ab.2 < n then (ab.1, n) else ab
def tops (l : List Int) : Int × Int := l.foldl top2 (0, 0)
/-- The sum of the two greatest; a code. -/
def topV (l : List Int) : Int × Int :=
  if l.all amtB then (if (tops l).1 + (tops l).2 ≤ 1000000000000000 then ((tops l).1 + (tops l).2, 0) else (0, 104)) else (0, 103)

theorem tops_snoc (l : List Int) (n : Int) : tops (l ++ [n]) = top2 (tops l) n := by simp [tops]
theorem tops_nil : tops [] = (0, 0) := rfl
theorem top2_ok {ab : Int × Int} {n : Int} (h : 0 ≤ ab.2 ∧ ab.2 ≤ ab.1 ∧ ab.1 ≤ 1000000000000000) (hn : amtB n = true) : 0 ≤ (top2 ab n).2 ∧ (top2 ab n).2 ≤ (top2 ab n).1 ∧ (top2 ab n).1 ≤ 1000000000000000 := by
  unfold amtB at hn
  simp at hn
  unfold top2
  split
  · simp; omega
  · split
    · simp; omega
    · omega
theorem tops_ok (l : List Int) (h : l.all amtB = true) : 0 ≤ (tops l).2 ∧ (tops l).2 ≤ (tops l).1 ∧ (tops l).1 ≤ 1000000000000000 := by
  have key : ∀ (l : List Int) (ab : Int × Int), l.all amtB = true → (0 ≤ ab.2 ∧ ab.2 ≤ ab.1 ∧ ab.1 ≤ 1000000000000000) → 0 ≤ (l.foldl top2 ab).2 ∧ (l.foldl top2 ab).2 ≤ (l.foldl top2 ab).1 ∧ (l.foldl top2 ab).1 ≤ 1000000000000000 := by
    intro l
    induction l with
    | nil => intro ab _ h; exact h
    | cons n l ih =>
      intro ab hl h
      simp only [List.all_cons, Bool.and_eq_true] at hl
      exact ih _ hl.2 (top2_ok h hl.1)
  exact key l (0, 0) h (by decide)
theorem top2_ref {ab : Int × Int} {n : Int} (h : ab.2 ≤ ab.1) : top2 ab n = (max ab.1 n, max ab.2 (min ab.1 n)) := by
  unfold top2
  ext
  · split
    · simp; omega
    · split
      · simp; omega
      · simp; omega
  · split
    · simp; omega
    · split
      · simp; omega
      · simp; omega

theorem all_take_succ {l : List Int} {k : Nat} (hk : k < l.length) (h : (l.take k).all amtB = true) (hn : amtB l[k] = true) : (l.take (k + 1)).all amtB = true := by
  rw [List.take_succ_eq_append_getElem hk, List.all_append, h]
  simp [hn]
theorem not_all {l : List Int} {k : Nat} (hk : k < l.length) (hn : amtB l[k] = false) : l.all amtB = false := by
  rw [List.all_eq_false]
  exact ⟨_, List.getElem_mem hk, by simp [hn]⟩
theorem tops_take {l : List Int} {k : Nat} (hk : k < l.length) : tops (l.take (k + 1)) = top2 (tops (l.take k)) l[k] := by
  rw [List.take_succ_eq_append_getElem hk, tops_snoc]
end Go.Pl
