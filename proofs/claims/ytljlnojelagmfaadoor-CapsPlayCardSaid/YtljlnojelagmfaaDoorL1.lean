/-
  A struct of one map of pairs to numbers, where 0 is none: what a setting does to the list.
-/
import Derived.Test.YtljlnojelagmfaaDoorE2
import Derived.Test.YtljlnojelagmfaaDoorD5
namespace Go.Proofs.YtljlnojelagmfaaDoor
open Go.RowKit Go.Pl
set_option maxRecDepth 100000

/-- The struct at b (of type t) leads to a map that holds l. -/
structure TabAt (t : TypeId) (w : World) (b : Nat) (m : Option Nat) (l : List ((Int × Int) × Int)) : Prop where
  cells : CellsAt w b #[.map m] t
  map : MapOpt ek2 ekI w m l
theorem TabAt.chg {t : TypeId} {w w' : World} {b : Nat} {m : Option Nat} {l : List ((Int × Int) × Int)} {S : Nat → Prop} (h : TabAt t w b m l) (hc : Chg S w w') (hb : ¬ S b) (hs : ∀ k, m = some k → ¬ S k) : TabAt t w' b m l :=
  ⟨h.cells.chg hc hb, h.map.chg hc hs⟩
theorem TabAt.drew {t : TypeId} {w : World} {b : Nat} {m : Option Nat} {l : List ((Int × Int) × Int)} (h : TabAt t w b m l) : TabAt t w.drew b m l := ⟨h.cells, h.map⟩
theorem TabAt.new (t : TypeId) (w : World) : TabAt t (w.alloc (.cells #[.map none] t)) w.heap.size none [] := ⟨CellsAt.new _ _ _, rfl⟩
theorem TabAt.nodup {t : TypeId} {w : World} {b : Nat} {m : Option Nat} {l : List ((Int × Int) × Int)} (h : TabAt t w b m l) : (l.map (·.1)).Nodup := h.map.nodup

/-- A setting: 0 is none. -/
def tset (l : List ((Int × Int) × Int)) (k : Int × Int) (n : Int) : List ((Int × Int) × Int) := if n = 0 then del (put l k n) k else put l k n
theorem lk_tset (l : List ((Int × Int) × Int)) (k : Int × Int) (n : Int) (c : Int × Int) : lk (tset l k n) c = if k = c then (if n = 0 then none else some n) else lk l c := by
  unfold tset
  by_cases hn : n = 0
  · rw [if_pos hn, lk_del, lk_put]
    by_cases hk : k = c
    · simp [hk, hn]
    · simp [hk]
  · rw [if_neg hn, lk_put]
    by_cases hk : k = c
    · simp [hk, hn]
    · simp [hk]
theorem put_mem {l : List ((Int × Int) × Int)} {k : Int × Int} {n : Int} {p : (Int × Int) × Int} (h : p ∈ put l k n) : p = (k, n) ∨ p ∈ l := by
  unfold put at h
  split at h
  · obtain ⟨q, hq, rfl⟩ := List.mem_map.1 h
    split
    · exact .inl rfl
    · exact .inr hq
  · rcases List.mem_append.1 h with h | h
    · exact .inr h
    · simp at h
      exact .inl h
theorem tset_mem {l : List ((Int × Int) × Int)} {k : Int × Int} {n : Int} {p : (Int × Int) × Int} (h : p ∈ tset l k n) : (p = (k, n) ∧ n ≠ 0) ∨ p ∈ l := by
  unfold tset at h
  split at h
  · rename_i hn
    unfold del at h
    obtain ⟨h1, h2⟩ := List.mem_filter.1 h
    rcases put_mem h1 with rfl | h1
    · simp at h2
    · exact .inr h1
  · rename_i hn
    exact (put_mem h).imp (fun h => ⟨h, hn⟩) id
theorem put_len (l : List ((Int × Int) × Int)) (k : Int × Int) (n : Int) : (put l k n).length ≤ l.length + 1 := by
  unfold put
  split <;> simp
theorem tset_length (l : List ((Int × Int) × Int)) (k : Int × Int) (n : Int) : (tset l k n).length ≤ l.length + 1 := by
  unfold tset
  split
  · exact Nat.le_trans (List.length_filter_le _ _) (put_len l k n)
  · exact put_len l k n
end Go.Proofs.YtljlnojelagmfaaDoor
