/-
  Own base, part 4: ranging over a map ('IterAt'): at the run, and at the walk's operation (plain, and inside a fence). Over whatever program.
-/
import Derived.Test.YtljlnojelagmfaaDoorB3
import Derived.Maps.RangeRun
import Derived.RangeFuncSeq
import Derived.RangeFuncGives
import Derived.Sort.MapsRangeIn
namespace Go.Pl
open Go.MapKept Go.RowKit
open Go.ChangeMaps (setBlock)

/-- Block r is an iterator over the map in block b, which holds l; these entries are still to come. -/
def IterAt {α β : Type} (ek : α → Value) (ev : β → Value) (w : World) (b r : Nat) (l rest : List (α × β)) : Prop :=
  ∃ es clock seen since c0, w.heap[b]? = some (.map es clock) ∧ es.toList.map (fun e => (e.key, e.val)) = l.map (fun p => (ek p.1, ev p.2)) ∧ Stamped es clock ∧
    w.heap[r]? = some (.mapIter (some b) since seen c0) ∧ (∀ x ∈ es.toList, x.born < since) ∧ since ≤ c0 ∧ since ≤ clock ∧ (leftOf es seen).toList.map (fun e => (e.key, e.val)) = rest.map (fun p => (ek p.1, ev p.2))

section
variable {α β : Type} {ek : α → Value} {ev : β → Value} {w w' : World} {b r : Nat} {l rest : List (α × β)}

theorem IterAt.map (h : IterAt ek ev w b r l rest) : MapAt ek ev w b l := by
  obtain ⟨es, clock, seen, since, c0, h1, h2, h3, _⟩ := h
  exact ⟨es, clock, h1, h2, h3⟩

theorem IterAt.lt (h : IterAt ek ev w b r l rest) : r < w.heap.size := by
  obtain ⟨es, clock, seen, since, c0, h1, h2, h3, h4, _⟩ := h
  exact (Array.getElem?_eq_some_iff.1 h4).1

theorem IterAt.iter (h : IterAt ek ev w b r l rest) : ∃ o : Obj, w.heap[r]? = some o ∧ o.isWalk = true := by
  obtain ⟨es, clock, seen, since, c0, h1, h2, h3, h4, _⟩ := h
  exact ⟨_, h4, rfl⟩

theorem IterAt.of_blocks (h : IterAt ek ev w b r l rest) (hb : w'.heap[b]? = w.heap[b]?) (hr : w'.heap[r]? = w.heap[r]?) : IterAt ek ev w' b r l rest := by
  obtain ⟨es, clock, seen, since, c0, h1, h2, h3, h4, h5⟩ := h
  exact ⟨es, clock, seen, since, c0, hb.trans h1, h2, h3, hr.trans h4, h5⟩

theorem IterAt.chg {S : Nat → Prop} (h : IterAt ek ev w b r l rest) (hc : Chg S w w') (hb : ¬ S b) (hr : ¬ S r) : IterAt ek ev w' b r l rest :=
  h.of_blocks (hc.block b h.map.lt hb) (hc.block r h.lt hr)

theorem IterAt.walks (h : IterAt ek ev w b r l rest) (hk : KeepsWalks w w') : IterAt ek ev w' b r l rest := by
  obtain ⟨es, clock, seen, since, c0, h1, h2, h3, h4, h5⟩ := h
  exact ⟨es, clock, seen, since, c0, hk.same _ _ h1 rfl, h2, h3, hk.same _ _ h4 rfl, h5⟩

theorem IterAt.left_eq (h : IterAt ek ev w b r l rest) : w.rangeLeft b r = rest.length := by
  obtain ⟨es, clock, seen, since, c0, hb, _, _, hr, _, _, _, hl⟩ := h
  have := congrArg List.length hl
  simp at this
  simp [World.rangeLeft, hb, hr, this]

variable {P : Program} {kt et t : TypeId}

theorem MapAt.range (h : MapAt ek ev w b l) (ht : P.underlying t = some (.map kt et)) :
    ∃ w', (Instr.range t (.map (some b))).run P w = .ok (.pointer (some ⟨w.heap.size, 0, .none⟩)) w' ∧ IterAt ek ev w' b w.heap.size l l ∧ Chg S0 w w' ∧ w'.heap.size = w.heap.size + 1 := by
  obtain ⟨es, clock, hb, hl, hs⟩ := h
  have hlt := (Array.getElem?_eq_some_iff.1 hb).1
  refine ⟨w.alloc (.mapIter (some b) clock #[] clock), ?_, ⟨es, clock, #[], clock, clock, ((heap_alloc w _).2 b hlt).trans hb, hl, hs, (heap_alloc w _).1, hs.1, Nat.le_refl _, Nat.le_refl _, ?_⟩, (Chg.refl _ _).alloc _, by simp⟩
  · simp [Instr.range, run_underlying ht, MapKept.run_getObj_map hb, Result.andThen]
  · rw [← hl]
    congr 1
    simp [leftOf]

theorem filter_erase {γ : Type} (f : γ → Nat) (L : List γ) (hn : (L.map f).Nodup) (pre post : List γ) (e : γ) (h : L = pre ++ e :: post) : L.filter (fun x => !(f x == f e)) = pre ++ post := by
  subst h
  rw [List.map_append, List.map_cons, List.nodup_append] at hn
  obtain ⟨_, h2, h3⟩ := hn
  rw [List.nodup_cons] at h2
  rw [List.filter_append, List.filter_cons]
  simp only [beq_self_eq_true, Bool.not_true, Bool.false_eq_true, if_false]
  congr 1
  · refine List.filter_eq_self.2 fun x hx => ?_
    have := h3 (f x) (List.mem_map_of_mem hx) (f e) (by simp)
    simpa using this
  · refine List.filter_eq_self.2 fun x hx => ?_
    have : f x ≠ f e := fun e' => h2.1 (e' ▸ List.mem_map_of_mem hx)
    simpa using this

theorem leftOf_push (es : Array MapEntry) (seen : Array Nat) (n : Nat) : (leftOf es (seen.push n)).toList = (leftOf es seen).toList.filter (fun x => !(x.born == n)) := by
  simp only [leftOf, Array.toList_filter, List.filter_filter]
  congr 1
  funext x
  by_cases h : x.born = n <;> simp [h]

/-- The step: nothing is left; or one that is left comes out, whichever the tape says. -/
theorem IterAt.next (h : IterAt ek ev w b r l rest) (ty : TypeId) :
    (rest = [] ∧ (Instr.next (.pointer (some ⟨r, 0, .none⟩)) false ty).run P w = .ok (.tuple #[.bool false]) w) ∨
    ∃ pre p post w', rest = pre ++ p :: post ∧ (Instr.next (.pointer (some ⟨r, 0, .none⟩)) false ty).run P w = .ok (.tuple #[.bool true, ek p.1, ev p.2]) w' ∧ IterAt ek ev w' b r l (pre ++ post) ∧ Chg (S1 r) w w' ∧ w'.heap.size = w.heap.size ∧
      (Instr.entry (.pointer (some ⟨r, 0, .none⟩))).run P w' = .ok (.tuple #[ek p.1, ev p.2]) w' := by
  obtain ⟨es, clock, seen, since, c0, hb, hl, hs, hr, hold, hsc, hsk, hrest⟩ := h
  have hne : b ≠ r := by
    intro e
    subst e
    rw [hb] at hr
    cases hr
  rcases run_next_at (P := P) w ty r b since c0 seen es clock hr hb hold hsc with ⟨h0, hrun⟩ | ⟨e, he, w1, hw1, hrun⟩
  · left
    refine ⟨?_, hrun⟩
    have : (leftOf es seen).toList = [] := by
      apply List.eq_nil_of_length_eq_zero
      simpa using h0
    rw [this] at hrest
    simpa using hrest.symm
  · right
    obtain ⟨pre, post, hpp⟩ := List.append_of_mem he
    rw [hpp, List.map_append, List.map_cons] at hrest
    obtain ⟨pre', q, hrq, hpre', hq⟩ := List.map_eq_append_iff.1 hrest.symm
    obtain ⟨p, post', hq', hp, hpost'⟩ := List.map_eq_cons_iff.1 hq
    simp only [Prod.mk.injEq] at hp
    obtain ⟨hpk, hpv⟩ := hp
    subst hq' hrq
    have hr1 : w1.heap[r]? = some (.mapIter (some b) since seen c0) := by rcases hw1 with rfl | rfl <;> exact hr
    have hb1 : w1.heap[b]? = some (.map es clock) := by rcases hw1 with rfl | rfl <;> exact hb
    have hs1 : w1.heap.size = w.heap.size := by rcases hw1 with rfl | rfl <;> rfl
    have hc1 : Chg (S1 r) w w1 := by
      rcases hw1 with rfl | rfl
      · exact Chg.refl _ _
      · exact (Chg.refl _ _).drew
    have hr2 : (setBlock w1 r (.mapIter (some b) since (seen.push e.born) clock)).heap[r]? = some (.mapIter (some b) since (seen.push e.born) clock) := (heap_set hr1).1
    have hb2 : (setBlock w1 r (.mapIter (some b) since (seen.push e.born) clock)).heap[b]? = some (.map es clock) := ((heap_set hr1).2 _ hne).trans hb1
    have hsub : (leftOf es seen).toList.Sublist es.toList := by
      unfold leftOf
      rw [Array.toList_filter]
      exact List.filter_sublist
    have hmem : e ∈ es.toList := hsub.subset he
    have hnb : ((leftOf es seen).toList.map (·.born)).Nodup := List.Nodup.sublist (List.Sublist.map _ hsub) hs.2.1
    refine ⟨pre', p, post', _, rfl, by rw [hpk, hpv]; exact hrun, ⟨es, clock, seen.push e.born, since, clock, hb2, hl, hs, hr2, hold, hsk, hsk, ?_⟩, ?_, ?_, ?_⟩
    · rw [leftOf_push, filter_erase (·.born) _ hnb pre post e hpp, List.map_append, List.map_append, hpre', hpost']
    · exact hc1.trans (turn_chg w1 r _)
    · simp [setBlock, hs1]
    · have := run_entry_at (P := P) _ r b since seen es clock e hr2 hb2 hmem hs.2.1
      rw [hpk, hpv]
      exact this
end
end Go.Pl
