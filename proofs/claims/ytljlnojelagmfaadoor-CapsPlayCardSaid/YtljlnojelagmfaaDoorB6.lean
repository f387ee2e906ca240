/-
  Own base, part 6: the library's sort on rows whose elements have several cells: between 'ownsRow' and the sort's own words. Over whatever program.
-/
import Derived.Test.YtljlnojelagmfaaDoorB5
import Derived.Sort.OwnSorted
import Derived.Shelf.SlSortCmp.WholeK
namespace Go.Pl
open Go.MapKept Go.RowKit Go.Sort Go.Proofs

theorem holds_cells {w : World} {g : Nat} {cur : Array Value} {e : TypeId} {xs : List Value} (hb : w.heap[g]? = some (.cells cur e (0, 0))) (ht : cur.toList.take xs.length = xs) : Holds id w g 0 xs.toArray := by
  intro j hj
  have hj' : j < xs.length := by simpa using hj
  refine ⟨?_, by simp [World.frozen?, hb]⟩
  have h1 : (cur.toList.take xs.length)[j]? = xs[j]? := by rw [ht]
  rw [List.getElem?_take_of_lt hj'] at h1
  simp only [World.cell?, hb, Nat.zero_add]
  simp only [Option.isSome_none, Bool.false_eq_true, if_false]
  rw [← Array.getElem?_toList, h1]
  simp [hj']

theorem heap_sortedC {w : World} {g n : Nat} {os : Array Obj} {cur : Array Value} {e : TypeId} {fr : Nat × Nat} (d : Array Value) (hb : w.heap[g]? = some (.cells cur e fr)) :
    (grow (putRow id (Sort.ahead w n) g 0 d) os).heap[g]? = some (.cells (putCells id 0 d cur) e fr) := by
  have hg : g < w.heap.size := (Array.getElem?_eq_some_iff.1 hb).1
  rw [heap_grow_old _ _ (by simpa using hg)]
  simp [putRow, mapBlock, Sort.ahead, Array.getElem?_modify, hb, onCells]

theorem chg_sortedC {w : World} {g n : Nat} {os : Array Obj} (d : Array Value) : Chg (S1 g) w (grow (putRow id (Sort.ahead w n) g 0 d) os) := by
  refine ⟨rfl, rfl, rfl, by simp, fun k hk hne => ?_⟩
  rw [heap_grow_old _ _ (by simpa using hk)]
  have : g ≠ k := fun e => hne (by rw [e]; rfl)
  simp [putRow, mapBlock, Sort.ahead, Array.getElem?_modify, this]

theorem take_putCellsC (cur : Array Value) (xs : List Value) (h : xs.length ≤ cur.size) : (putCells id 0 xs.toArray cur).toList.take xs.length = xs := by
  apply List.ext_getElem?
  intro j
  by_cases hj : j < xs.length
  · rw [List.getElem?_take_of_lt hj, Array.getElem?_toList]
    simp [putCells, hj, show j < cur.size by omega]
  · rw [List.getElem?_take_eq_none (by omega), List.getElem?_eq_none (by omega)]

theorem ownsRow_sortedC {w : World} {base g cap n m size : Nat} {e : TypeId} {os : Array Obj} {cur : Array Value} {xs : List Value} (hl : xs.length = m * size) (hbase : base ≤ g) (hb : w.heap[g]? = some (.cells cur e (0, 0)))
    (h1 : m ≤ cap) (h2 : cap ≤ maxLen) (h3 : cur.size = cap * size) :
    (grow (putRow id (Sort.ahead w n) g 0 xs.toArray) os).ownsRow base e size (.slice (some ⟨g, 0, .none⟩) m cap) m xs :=
  ⟨hl, .inr ⟨g, cap, _, rfl, hbase, heap_sortedC _ hb, h1, h2, by simp [putCells, h3], by rw [← hl]; exact take_putCellsC cur xs (by rw [hl, h3]; exact Nat.mul_le_mul_right _ h1)⟩⟩

theorem getElem?_flatMap_const {γ : Type} (f : γ → List Value) (k : Nat) (hk : ∀ x, (f x).length = k) : ∀ (l : List γ) (t : Nat), (l.flatMap f)[t]? = (l[t / k]?).bind fun x => (f x)[t % k]? := by
  intro l
  induction l with
  | nil => intro t; simp
  | cons a l ih =>
    intro t
    rw [List.flatMap_cons, List.getElem?_append]
    by_cases ht : t < k
    · rw [if_pos (by rw [hk]; exact ht), Nat.div_eq_of_lt ht, Nat.mod_eq_of_lt ht]
      simp
    · have hkt : k ≤ t := by omega
      rw [if_neg (by rw [hk]; exact ht), hk, ih]
      rcases Nat.eq_zero_or_pos k with h0 | h0
      · subst h0
        have e1 : f a = [] := List.eq_nil_of_length_eq_zero (hk a)
        simp only [Nat.sub_zero, Nat.div_zero, Nat.mod_zero]
        cases l with
        | nil => simp [e1]
        | cons b l =>
          have e2 : f b = [] := List.eq_nil_of_length_eq_zero (hk b)
          simp [e1, e2]
      · have e1 : t / k = (t - k) / k + 1 := by rw [Nat.div_eq_sub_div h0 hkt]
        have e2 : t % k = (t - k) % k := by rw [Nat.mod_eq_sub_mod hkt]
        rw [e1, e2]
        simp

theorem flatK_list {γ : Type} [Inhabited γ] (f : γ → List Value) (k : Nat) (hk : ∀ x, (f x).length = k) (h0 : 0 < k) (l : List γ) : flatK f k l.toArray = (l.flatMap f).toArray := by
  have hlen : ∀ l : List γ, (l.flatMap f).length = l.length * k := by
    intro l
    induction l with
    | nil => simp
    | cons a l ih => simp only [List.flatMap_cons, List.length_append, ih, hk, List.length_cons]; rw [Nat.succ_mul]; omega
  apply ext_get!
  · simp [hlen]
  · intro t ht
    simp at ht
    rw [get_flatK f k _ t (by simpa using ht)]
    have hd : t / k < l.length := Nat.div_lt_of_lt_mul (by rw [Nat.mul_comm]; exact ht)
    have hm : t % k < k := Nat.mod_lt _ h0
    have h := getElem?_flatMap_const f k hk l t
    rw [List.getElem?_eq_getElem hd] at h
    simp only [Option.bind_some] at h
    have h5 : t % k < (f l[t / k]).length := by rw [hk]; exact hm
    rw [List.getElem?_eq_getElem h5] at h
    have h2 : t < (l.flatMap f).length := by rw [hlen]; exact ht
    rw [List.getElem?_eq_getElem h2] at h
    have h3 := Option.some.inj h
    rw [getElem!_pos _ t (by simpa using h2)]
    simp only [List.getElem_toArray]
    rw [h3]
    rw [getElem!_pos _ (t / k) (by simpa using hd)]
    rw [getElem!_pos _ (t % k) (by rw [hk]; exact hm)]
    simp

end Go.Pl
