/-
  Own base, part 2: the laws of maps ('MapAt'): lk-up, store, delete, len, at the run and at the walk's operation. Over whatever program.
-/
import Derived.Test.YtljlnojelagmfaaDoorB1
namespace Go.Pl
open Go.MapKept Go.RowKit

section
variable {α β : Type} [DecidableEq α]
def lk (l : List (α × β)) (a : α) : Option β := (l.find? (fun p => decide (p.1 = a))).map (·.2)
def put (l : List (α × β)) (a : α) (y : β) : List (α × β) := if (lk l a).isSome then l.map (fun p => if p.1 = a then (a, y) else p) else l ++ [(a, y)]
def del (l : List (α × β)) (a : α) : List (α × β) := l.filter (fun p => !decide (p.1 = a))

theorem lk_none {l : List (α × β)} {a : α} : lk l a = .none ↔ ∀ p ∈ l, p.1 ≠ a := by
  simp [lk]

theorem lk_of_mem {l : List (α × β)} (hn : (l.map (·.1)).Nodup) {p : α × β} (hp : p ∈ l) : lk l p.1 = some p.2 := by
  unfold lk
  induction l with
  | nil => cases hp
  | cons q l ih =>
    simp only [List.map_cons, List.nodup_cons] at hn
    rcases List.mem_cons.1 hp with rfl | hp
    · simp
    · have hne : q.1 ≠ p.1 := fun e => hn.1 (e ▸ List.mem_map_of_mem hp)
      simp [hne]
      simpa using ih hn.2 hp

theorem mem_of_lk {l : List (α × β)} {a : α} {y : β} (h : lk l a = some y) : (a, y) ∈ l := by
  unfold lk at h
  obtain ⟨p, hp, rfl⟩ := Option.map_eq_some_iff.1 h
  have h1 := List.mem_of_find?_eq_some hp
  have h2 := List.find?_some hp
  simp at h2
  subst h2
  exact h1

theorem lk_nil (a : α) : lk ([] : List (α × β)) a = .none := rfl

theorem lk_append (l : List (α × β)) (a : α) (y : β) (c : α) : lk (l ++ [(a, y)]) c = (lk l c).or (if a = c then some y else .none) := by
  unfold lk
  rw [List.find?_append]
  cases h : l.find? (fun p => decide (p.1 = c)) with
  | none => by_cases e : a = c <;> simp [e]
  | some p => simp

theorem lk_put (l : List (α × β)) (a : α) (y : β) (c : α) : lk (put l a y) c = if a = c then some y else lk l c := by
  unfold put
  split
  · rename_i h
    have key : ∀ (l : List (α × β)), lk (l.map (fun p => if p.1 = a then (a, y) else p)) c = if a = c then (lk l c).map (fun _ => y) else lk l c := by
      intro l
      induction l with
      | nil => simp [lk]
      | cons p l ih =>
        unfold lk at ih ⊢
        simp only [List.map_cons, List.find?_cons]
        by_cases hp : p.1 = a
        · by_cases hc : a = c
          · simp [hp, hc]
          · simp only [hp, if_true, hc]
            simpa [hc] using ih
        · rw [if_neg hp]
          by_cases hc : p.1 = c
          · subst hc
            simp [Ne.symm hp]
          · simp only [hc, decide_false]
            exact ih
    rw [key]
    split
    · rename_i e
      subst e
      obtain ⟨z, hz⟩ := Option.isSome_iff_exists.1 h
      simp [hz]
    · rfl
  · rename_i h
    rw [lk_append]
    split
    · rename_i e
      subst e
      simp at h
      simp [h]
    · simp

theorem lk_del (l : List (α × β)) (a c : α) : lk (del l a) c = if a = c then .none else lk l c := by
  unfold del lk
  rw [List.find?_filter]
  split
  · rename_i e
    subst e
    simp
  · rename_i e
    congr 1
    congr 1
    funext p
    by_cases h : p.1 = c
    · simp [h, Ne.symm e]
    · simp [h]

theorem keys_put (l : List (α × β)) (a : α) (y : β) : (put l a y).map (·.1) = if (lk l a).isSome then l.map (·.1) else l.map (·.1) ++ [a] := by
  unfold put
  split
  · rw [List.map_map]
    refine List.map_congr_left fun p _ => ?_
    simp only [Function.comp]
    split
    · rename_i e; exact e.symm
    · rfl
  · simp

theorem nodup_put {l : List (α × β)} (hn : (l.map (·.1)).Nodup) (a : α) (y : β) : ((put l a y).map (·.1)).Nodup := by
  rw [keys_put]
  split
  · exact hn
  · rename_i h
    have h' : lk l a = .none := by simpa using h
    rw [List.nodup_append]
    refine ⟨hn, by simp, fun x hx z hz => ?_⟩
    obtain ⟨p, hp, rfl⟩ := List.mem_map.1 hx
    simp at hz
    rw [hz]
    exact lk_none.1 h' p hp

theorem nodup_del {l : List (α × β)} (hn : (l.map (·.1)).Nodup) (a : α) : ((del l a).map (·.1)).Nodup :=
  List.Nodup.sublist (List.Sublist.map _ List.filter_sublist) hn

theorem mem_iff_lk {l : List (α × β)} (hn : (l.map (·.1)).Nodup) {a : α} {y : β} : (a, y) ∈ l ↔ lk l a = some y :=
  ⟨fun h => lk_of_mem hn h, mem_of_lk⟩

theorem mem_keys {l : List (α × β)} {a : α} : a ∈ l.map (·.1) ↔ (lk l a).isSome := by
  constructor
  · intro h
    cases hl : lk l a with
    | some y => rfl
    | none =>
      obtain ⟨p, hp, rfl⟩ := List.mem_map.1 h
      exact absurd rfl (lk_none.1 hl p hp)
  · intro h
    obtain ⟨y, hy⟩ := Option.isSome_iff_exists.1 h
    exact List.mem_map.2 ⟨_, mem_of_lk hy, rfl⟩

end

section
variable {α β : Type} [DecidableEq α] {P : Program} {ek : α → Value} {ev : β → Value} {w : World} {b : Nat} {l : List (α × β)} {kt et t : TypeId}

/-- What the search of a key finds. -/
theorem MapAt.find (h : MapAt ek ev w b l) (K : KeyE P kt ek) (a : α) : ∃ es clock, w.heap[b]? = some (.map es clock) ∧ es.toList.map (fun e => (e.key, e.val)) = l.map (fun p => (ek p.1, ev p.2)) ∧ Stamped es clock ∧
    (((Instr.findKey kt (ek a) es.toList).run P w = .ok .none w ∧ lk l a = .none ∧ ∀ e ∈ es.toList, e.key ≠ ek a) ∨
     ∃ j e y, (Instr.findKey kt (ek a) es.toList).run P w = .ok (some (j, e.val)) w ∧ es[j]? = some e ∧ e.key = ek a ∧ e.val = ev y ∧ lk l a = some y ∧ l[j]? = some (a, y)) := by
  have hn := h.nodup
  obtain ⟨es, clock, hb, hl, hs⟩ := h
  refine ⟨es, clock, hb, hl, hs, ?_⟩
  have hkeys : ∀ e ∈ es.toList, ∃ p ∈ l, e.key = ek p.1 ∧ e.val = ev p.2 := by
    intro e he
    have : (e.key, e.val) ∈ l.map (fun p => (ek p.1, ev p.2)) := by rw [← hl]; exact List.mem_map_of_mem he
    obtain ⟨p, hp, hpe⟩ := List.mem_map.1 this
    simp only [Prod.mk.injEq] at hpe
    exact ⟨p, hp, hpe.1.symm, hpe.2.symm⟩
  rcases K.find w a es.toList (fun e he => by obtain ⟨p, _, hp, _⟩ := hkeys e he; exact ⟨_, hp⟩) with ⟨h1, h2⟩ | ⟨j, e, h1, h2, h3⟩
  · refine .inl ⟨h1, lk_none.2 fun p hp e => ?_, h2⟩
    have : (ek p.1, ev p.2) ∈ es.toList.map (fun e => (e.key, e.val)) := by rw [hl]; exact List.mem_map.2 ⟨p, hp, rfl⟩
    obtain ⟨x, hx, hxe⟩ := List.mem_map.1 this
    simp only [Prod.mk.injEq] at hxe
    exact h2 x hx (by rw [hxe.1, e])
  · have hj : (es.toList.map (fun e => (e.key, e.val)))[j]? = some (e.key, e.val) := by
      rw [List.getElem?_map, h2]; rfl
    rw [hl, List.getElem?_map] at hj
    obtain ⟨p, hp, hpe⟩ := Option.map_eq_some_iff.1 hj
    simp only [Prod.mk.injEq] at hpe
    have hpa : p.1 = a := K.inj (hpe.1.trans h3)
    refine .inr ⟨j, e, p.2, h1, by simpa using h2, h3, hpe.2.symm, ?_, ?_⟩
    · rw [← hpa]; exact lk_of_mem hn (List.mem_of_getElem? hp)
    · rw [hp, ← hpa]

/-- 'm[k]' and 'v, ok := m[k]'. -/
theorem MapAt.lookup (h : MapAt ek ev w b l) (K : KeyE P kt ek) (ht : P.underlying t = some (.map kt et)) {z : Value} (hz : (zeroValue et).run P w = .ok z w) (a : α) (c : Bool) :
    (Instr.lookup t (.map (some b)) (ek a) c).run P w = .ok (if c then .tuple #[((lk l a).map ev).getD z, .bool (lk l a).isSome] else ((lk l a).map ev).getD z) w := by
  obtain ⟨es, clock, hb, hl, hs, h | ⟨j, e, y, h1, h2, h3, h4, h5, h6⟩⟩ := h.find K a
  · obtain ⟨h1, h2, _⟩ := h
    simp [Instr.lookup, run_underlying ht, MapKept.run_getObj_map hb, K.check, h1, h2, hz, Result.andThen]
  · simp [Instr.lookup, run_underlying ht, MapKept.run_getObj_map hb, K.check, h1, h5, h4, Result.andThen]

omit [DecidableEq α] in
/-- A nil map. -/
theorem lookup_nil (K : KeyE P kt ek) (ht : P.underlying t = some (.map kt et)) {z : Value} (hz : (zeroValue et).run P w = .ok z w) (a : α) (c : Bool) :
    (Instr.lookup t (.map .none) (ek a) c).run P w = .ok (if c then .tuple #[z, .bool false] else z) w := by
  have hf : (Instr.findKey kt (ek a) []).run P w = .ok .none w := by
    rcases K.find w a [] (by simp) with ⟨h1, _⟩ | ⟨j, e, _, h2, _⟩
    · exact h1
    · simp at h2
  simp [Instr.lookup, run_underlying ht, K.check, hf, hz, Result.andThen]

omit [DecidableEq α] in
/-- 'len(m)'. -/
theorem MapAt.len (h : MapAt ek ev w b l) (ht : P.underlying t = some (.map kt et)) (ty : TypeId) : (Builtin.len_ #[t] ty #[.map (some b)]).run P w = .ok (.int .i64 l.length) w := by
  obtain ⟨es, clock, hb, hl, _⟩ := h
  have e1 : es.size = l.length := by have := congrArg List.length hl; simpa using this
  simp [Builtin.len_, run_underlying ht, MapKept.run_getObj_map hb, goInt, Result.andThen, e1]

theorem len_nil (ht : P.underlying t = some (.map kt et)) (ty : TypeId) : (Builtin.len_ #[t] ty #[.map .none]).run P w = .ok (.int .i64 0) w := by
  simp [Builtin.len_, run_underlying ht, goInt, Result.andThen]

/-- The world with block b turned. -/
def turn (w : World) (b : Nat) (o : Obj) : World := { w with heap := w.heap.setIfInBounds b o }

theorem turn_same {w : World} {b : Nat} {o o' : Obj} (hb : w.heap[b]? = some o) : (turn w b o').heap[b]? = some o' := (heap_set hb).1

theorem turn_chg (w : World) (b : Nat) (o : Obj) : Chg (S1 b) w (turn w b o) :=
  ⟨rfl, rfl, rfl, by simp [turn], fun k _ hs => by simp [turn, Ne.symm (show k ≠ b from hs)]⟩

/-- 'm[k] = v'. -/
theorem MapAt.store (h : MapAt ek ev w b l) (K : KeyE P kt ek) (ht : P.underlying t = some (.map kt et)) (a : α) (y : β) :
    ∃ w', (Instr.mapUpdate t (.map (some b)) (ek a) (ev y)).run P w = .ok () w' ∧ MapAt ek ev w' b (put l a y) ∧ Chg (S1 b) w w' := by
  have hn := h.nodup
  obtain ⟨es, clock, hb, hl, hs, h | ⟨j, e, z, h1, h2, h3, h4, h5, h6⟩⟩ := h.find K a
  · obtain ⟨h1, h2, h3⟩ := h
    refine ⟨turn w b (.map (es.push { key := ek a, val := ev y, born := clock }) (clock + 1)), ?_, ⟨_, _, turn_same hb, ?_, stamped_push hs h3⟩, turn_chg _ _ _⟩
    · simp [Instr.mapUpdate, run_underlying ht, MapKept.run_getObj_map hb, K.check, h1, MapKept.run_setObj_map _ hb, Result.andThen, turn]
    · simp [put, h2, hl]
  · have hjs : j < es.size := (Array.getElem?_eq_some_iff.1 h2).1
    have hej : es[j] = e := (Array.getElem?_eq_some_iff.1 h2).2
    refine ⟨turn w b (.map (es.modify j fun e => { e with key := ek a, val := ev y }) clock), ?_, ⟨_, _, turn_same hb, ?_, ?_⟩, turn_chg _ _ _⟩
    · simp [Instr.mapUpdate, run_underlying ht, MapKept.run_getObj_map hb, K.check, h1, h2, h3, K.stays, MapKept.run_setObj_map _ hb, Result.andThen, turn]
    · have e0 : put l a y = l.map (fun p => if p.1 = a then (a, y) else p) := by simp [put, h5]
      rw [e0]
      apply List.ext_getElem?
      intro i
      have hli := congrArg (fun q => q[i]?) hl
      simp only [List.getElem?_map, Array.getElem?_toList, Array.getElem?_modify] at hli ⊢
      by_cases hij : j = i
      · subst hij
        simp [h2, h6]
      · simp only [hij, if_false]
        rw [hli]
        cases hq : l[i]? with
        | none => rfl
        | some q =>
          have hqa : q.1 ≠ a := by
            intro e
            have hi1 : i < l.length := (List.getElem?_eq_some_iff.1 hq).1
            have hj1 : j < l.length := (List.getElem?_eq_some_iff.1 h6).1
            have e1 : (l.map (·.1))[i]? = (l.map (·.1))[j]? := by simp [hq, h6, e]
            exact hij ((List.getElem?_inj (by simpa using hj1) hn).1 e1.symm)
          simp [hqa]
    · exact stamped_modify hs j _ (fun _ _ => rfl) (fun e' he' hje => by
        rw [h2] at hje
        obtain rfl : e = e' := by simpa using hje
        exact h3.symm)

/-- 'delete(m, k)'. -/
theorem MapAt.drop (h : MapAt ek ev w b l) (K : KeyE P kt ek) (ht : P.underlying t = some (.map kt et)) (a : α) (ty : TypeId) :
    ∃ w', (Builtin.delete_ #[t, kt] ty #[.map (some b), ek a]).run P w = .ok (.tuple #[]) w' ∧ MapAt ek ev w' b (del l a) ∧ Chg (S1 b) w w' := by
  have hn := h.nodup
  obtain ⟨es, clock, hb, hl, hs, h | ⟨j, e, z, h1, h2, h3, h4, h5, h6⟩⟩ := h.find K a
  · obtain ⟨h1, h2, h3⟩ := h
    refine ⟨turn w b (.map es clock), ?_, ⟨_, _, turn_same hb, ?_, hs⟩, turn_chg _ _ _⟩
    · simp [Builtin.delete_, run_underlying ht, MapKept.run_getObj_map hb, K.check, h1, MapKept.run_setObj_map _ hb, Result.andThen, turn]
    · rw [hl]
      congr 1
      unfold del
      exact (List.filter_eq_self.2 fun p hp => by simpa using lk_none.1 h2 p hp).symm
  · refine ⟨turn w b (.map (es.eraseIdxIfInBounds j) clock), ?_, ⟨_, _, turn_same hb, ?_, stamped_erase hs j⟩, turn_chg _ _ _⟩
    · simp [Builtin.delete_, run_underlying ht, MapKept.run_getObj_map hb, K.check, h1, MapKept.run_setObj_map _ hb, Result.andThen, turn]
    · have hjs : j < es.size := (Array.getElem?_eq_some_iff.1 h2).1
      have e1 : (es.eraseIdxIfInBounds j).toList = es.toList.eraseIdx j := by simp [Array.eraseIdxIfInBounds, hjs]
      have e2 : del l a = l.eraseIdx j := by
        unfold del
        refine ChangeMaps.filter_eq_eraseIdx (fun p => decide (p.1 = a)) l j (a, z) h6 (by simp) ?_
        have h7 : l.Pairwise (fun p q => p.1 ≠ q.1) := List.pairwise_map.1 hn
        refine h7.imp fun {p q} hne hh => ?_
        simp only [decide_eq_true_eq] at hh
        exact hne (hh.1.trans hh.2.symm)
      rw [e1, e2, ChangeMaps.map_eraseIdx, hl, ChangeMaps.map_eraseIdx]
end

end Go.Pl
