/-
  Own base, part 1: what a stretch of the run leaves as it was ('Chg'), and maps in memory as association lists ('MapAt'), with the laws of look-up, store, delete, len, clone. Over whatever program.
-/
import Derived.WalkKit
import Derived.Maps.RangeWalk
import Derived.Below
import Derived.Deep.QuietTactic
namespace Go.Pl
open Go.MapKept Go.RowKit

/-- From w to w' nothing has turned but the blocks of S and new ones. -/
structure Chg (S : Nat → Prop) (w w' : World) : Prop where
  os : w'.os = w.os
  tape : w'.tape = w.tape
  output : w'.output = w.output
  size : w.heap.size ≤ w'.heap.size
  block : ∀ k, k < w.heap.size → ¬ S k → w'.heap[k]? = w.heap[k]?

def S0 : Nat → Prop := fun _ => False
def S1 (b : Nat) : Nat → Prop := fun k => k = b
def S2 (a b : Nat) : Nat → Prop := fun k => k = a ∨ k = b

theorem Chg.refl (S : Nat → Prop) (w : World) : Chg S w w := ⟨rfl, rfl, rfl, Nat.le_refl _, fun _ _ _ => rfl⟩

theorem Chg.trans {S : Nat → Prop} {w w1 w2 : World} (h : Chg S w w1) (h' : Chg S w1 w2) : Chg S w w2 :=
  ⟨h'.os.trans h.os, h'.tape.trans h.tape, h'.output.trans h.output, Nat.le_trans h.size h'.size,
   fun k hk hs => (h'.block k (Nat.lt_of_lt_of_le hk h.size) hs).trans (h.block k hk hs)⟩

theorem Chg.mono {S S' : Nat → Prop} {w w' : World} (h : Chg S w w') (hs : ∀ k, k < w.heap.size → S k → S' k) : Chg S' w w' :=
  ⟨h.os, h.tape, h.output, h.size, fun k hk hn => h.block k hk (fun hS => hn (hs k hk hS))⟩

theorem Chg.alloc {S : Nat → Prop} {w w' : World} (h : Chg S w w') (o : Obj) : Chg S w (w'.alloc o) :=
  ⟨h.os, h.tape, h.output, by simp; have := h.size; omega,
   fun k hk hs => ((heap_alloc w' o).2 k (Nat.lt_of_lt_of_le hk h.size)).trans (h.block k hk hs)⟩

theorem Chg.drew {S : Nat → Prop} {w w' : World} (h : Chg S w w') : Chg S w w'.drew := ⟨h.os, h.tape, h.output, h.size, h.block⟩

theorem Chg.drewN {S : Nat → Prop} {w w' : World} (h : Chg S w w') (n : Nat) : Chg S w (w'.drewN n) := ⟨h.os, h.tape, h.output, h.size, h.block⟩

theorem heap_setCell (w : World) (a : Addr) (v : Value) (k : Nat) (hk : k ≠ a.block) : (w.setCell a v).heap[k]? = w.heap[k]? := by
  simp [World.setCell, Array.getElem?_modify, Ne.symm hk]

theorem Chg.setCell {S : Nat → Prop} {w w' : World} (h : Chg S w w') (a : Addr) (v : Value) (ha : S a.block ∨ w.heap.size ≤ a.block) : Chg S w (w'.setCell a v) :=
  ⟨h.os, h.tape, h.output, by simpa using h.size, fun k hk hs => by
    rw [heap_setCell _ _ _ _ (fun e => by subst e; rcases ha with ha | ha; exact hs ha; omega)]
    exact h.block k hk hs⟩

theorem Chg.of_grownBy {S : Nat → Prop} {w w1 w2 : World} {row : Option Nat} (h : Chg S w w1) (hg : w1.grownBy w2 row) (hr : ∀ b, row = some b → S b ∨ w.heap.size ≤ b) : Chg S w w2 :=
  ⟨hg.os.trans h.os, hg.tape.trans h.tape, hg.output.trans h.output, Nat.le_trans h.size hg.size, fun k hk hs => by
    rw [hg.block k (Nat.lt_of_lt_of_le hk h.size) (fun e => by rcases hr k e.symm with h' | h'; exact hs h'; omega)]
    exact h.block k hk hs⟩

theorem Chg.of_below {S : Nat → Prop} {w w1 w2 : World} {B : Nat} (h : Chg S w w1) (hb : Below B w1 w2) (hB : ∀ k, k < w.heap.size → ¬ S k → k < B) : Chg S w w2 :=
  ⟨hb.os.trans h.os, hb.tape.trans h.tape, hb.output.trans h.output, Nat.le_trans h.size hb.size, fun k hk hs => (hb.block k (hB k hk hs)).trans (h.block k hk hs)⟩

/-- A step that turns S1 alone, inside a stretch that may turn S. -/
theorem Chg.step {S S1 : Nat → Prop} {w w1 w2 : World} (h : Chg S w w1) (h1 : Chg S1 w1 w2) (hs : ∀ k, S1 k → S k ∨ w.heap.size ≤ k) : Chg S w w2 :=
  ⟨h1.os.trans h.os, h1.tape.trans h.tape, h1.output.trans h.output, Nat.le_trans h.size h1.size, fun k hk hn => by
    rw [h1.block k (Nat.lt_of_lt_of_le hk h.size) (fun e => by rcases hs k e with h' | h'; exact hn h'; omega)]
    exact h.block k hk hn⟩

theorem Chg.below {w w' : World} (h : Chg S0 w w') : Below w.heap.size w w' := ⟨h.os, h.tape, h.output, h.size, fun k hk => h.block k hk (fun f => f)⟩

theorem Chg.lt {S : Nat → Prop} {w w' : World} (h : Chg S w w') {k : Nat} (hk : k < w.heap.size) : k < w'.heap.size := Nat.lt_of_lt_of_le hk h.size

theorem Chg.cell {S : Nat → Prop} {w w' : World} (h : Chg S w w') {b o : Nat} {v : Value} (hc : w.cell? ⟨b, o, .none⟩ = some v) (hs : ¬ S b) : w'.cell? ⟨b, o, .none⟩ = some v := by
  have hb : b < w.heap.size := World.block_lt_of_cell? _ _ hc
  rw [← hc]
  exact World.cell?_of_block (h.block b hb hs)

theorem Chg.frozen {S : Nat → Prop} {w w' : World} (h : Chg S w w') {b o : Nat} {r : Bool} (hb : b < w.heap.size) (hc : w.frozen? ⟨b, o, .none⟩ = r) (hs : ¬ S b) : w'.frozen? ⟨b, o, .none⟩ = r := by
  rw [← hc]
  exact World.frozen?_of_block (h.block b hb hs)

/-! ### blocks of cells -/

/-- Block b holds these cells, none frozen. -/
def CellsAt (w : World) (b : Nat) (cs : Array Value) (t : TypeId) : Prop := w.heap[b]? = some (.cells cs t)

theorem CellsAt.lt {w : World} {b : Nat} {cs : Array Value} {t : TypeId} (h : CellsAt w b cs t) : b < w.heap.size := (Array.getElem?_eq_some_iff.1 h).1

theorem CellsAt.cell {w : World} {b : Nat} {cs : Array Value} {t : TypeId} (h : CellsAt w b cs t) (i : Nat) : w.cell? ⟨b, i, .none⟩ = cs[i]? := by
  unfold CellsAt at h; simp [World.cell?, h]

theorem CellsAt.frozen {w : World} {b : Nat} {cs : Array Value} {t : TypeId} (h : CellsAt w b cs t) (i : Nat) : w.frozen? ⟨b, i, .none⟩ = false := by
  unfold CellsAt at h; simp [World.frozen?, h]

theorem CellsAt.shape {w : World} {b : Nat} {cs : Array Value} {t : TypeId} (h : CellsAt w b cs t) : w.shape? b = some (t, cs.size) := by
  unfold CellsAt at h; simp [World.shape?, h]

theorem CellsAt.chg {S : Nat → Prop} {w w' : World} {b : Nat} {cs : Array Value} {t : TypeId} (h : CellsAt w b cs t) (hc : Chg S w w') (hs : ¬ S b) : CellsAt w' b cs t :=
  (hc.block b h.lt hs).trans h

theorem CellsAt.alloc {w : World} {b : Nat} {cs : Array Value} {t : TypeId} (h : CellsAt w b cs t) (o : Obj) : CellsAt (w.alloc o) b cs t :=
  ((heap_alloc w o).2 b h.lt).trans h

theorem CellsAt.new (w : World) (cs : Array Value) (t : TypeId) : CellsAt (w.alloc (.cells cs t)) w.heap.size cs t := (heap_alloc w _).1

theorem CellsAt.drew {w : World} {b : Nat} {cs : Array Value} {t : TypeId} (h : CellsAt w b cs t) : CellsAt w.drew b cs t := h

theorem CellsAt.set {w : World} {b : Nat} {cs : Array Value} {t : TypeId} (h : CellsAt w b cs t) (i : Nat) (v : Value) : CellsAt (w.setCell ⟨b, i, .none⟩ v) b (cs.setIfInBounds i v) t := by
  unfold CellsAt at *
  simp [World.setCell, Array.getElem?_modify, h]

theorem CellsAt.other {w : World} {b : Nat} {cs : Array Value} {t : TypeId} (h : CellsAt w b cs t) (a : Addr) (v : Value) (hne : b ≠ a.block) : CellsAt (w.setCell a v) b cs t :=
  (heap_setCell w a v b hne).trans h

/-! ### keys -/

/-- How the values of a Lean type stand for the keys of a map's key type. -/
structure KeyE (P : Program) (kt : TypeId) {α : Type} (ek : α → Value) : Prop where
  inj : ∀ {a b : α}, ek a = ek b → a = b
  check : ∀ (w : World) (em : Bool) (a : α), (Instr.checkKey em 10000 kt (ek a)).run P w = .ok () w
  find : ∀ (w : World) (a : α) (es : List MapEntry), (∀ e ∈ es, ∃ b, e.key = ek b) →
    ((Instr.findKey kt (ek a) es).run P w = .ok .none w ∧ ∀ e ∈ es, e.key ≠ ek a) ∨
    ∃ j e, (Instr.findKey kt (ek a) es).run P w = .ok (some (j, e.val)) w ∧ es[j]? = some e ∧ e.key = ek a
  stays : ∀ (w : World) (a : α), (Instr.keyThatStays (ek a) (ek a)).run P w = .ok (ek a) w

theorem KeyE.plain {P : Program} {kt : TypeId} {d : TypeDesc} (hd : P.underlying kt = some d) {α : Type} (ek : α → Value) (hk : ∀ a, IsKey d (ek a)) (hi : ∀ {a b : α}, ek a = ek b → a = b) : KeyE P kt ek where
  inj := hi
  check w em a := run_checkKey hd (hk a) em 9999
  find w a es hes := by
    have hes' : ∀ x ∈ es, IsKey d x.key := fun x hx => by obtain ⟨b, hb⟩ := hes x hx; rw [hb]; exact hk b
    rcases findNow_spec (hk a) es 0 hes' with ⟨h1, h2⟩ | ⟨j, e, h1, h2, h3⟩
    · exact .inl ⟨run_findKey hd h1, h2⟩
    · refine .inr ⟨j, e, ?_, h2, h3⟩
      have := run_findKey (P := P) (w := w) hd h1
      simpa using this
  stays w a := run_keyThatStays (hk a)

/-- Keys whose type is a struct: by its equality. -/
theorem KeyE.struct {P : Program} {kt : TypeId} {fs : Array Field} (hd : P.underlying kt = some (.struct fs)) {α : Type} [DecidableEq α] (ek : α → Value) (hi : ∀ {a b : α}, ek a = ek b → a = b)
    (hc : ∀ (w : World) (em : Bool) (a : α), (Instr.checkKey em 10000 kt (ek a)).run P w = .ok () w)
    (heq : ∀ (w : World) (a b : α), (Op.equal kt (ek a) (ek b)).run P w = .ok (decide (a = b)) w)
    (hs : ∀ a, Instr.sameBits 10000 (ek a) (ek a) = true) : KeyE P kt ek where
  inj := hi
  check := hc
  find w a es hes := by
    have key : ∀ (es : List MapEntry) (i : Nat), (∀ e ∈ es, ∃ b, e.key = ek b) → ((Instr.findAsking kt (ek a) es i).run P w = .ok .none w ∧ ∀ e ∈ es, e.key ≠ ek a) ∨
        ∃ j e, (Instr.findAsking kt (ek a) es i).run P w = .ok (some (i + j, e.val)) w ∧ es[j]? = some e ∧ e.key = ek a := by
      intro es
      induction es with
      | nil => intro i _; exact .inl ⟨by simp [Instr.findAsking], by simp⟩
      | cons e es ih =>
        intro i h
        obtain ⟨b, hb⟩ := h e (by simp)
        by_cases hab : a = b
        · subst hab
          refine .inr ⟨0, e, ?_, rfl, hb⟩
          simp [Instr.findAsking, hb, heq, Result.andThen]
        · have hne : e.key ≠ ek a := fun h' => hab (hi (hb.symm.trans h')).symm
          rcases ih (i + 1) (fun x hx => h x (by simp [hx])) with ⟨h1, h2⟩ | ⟨j, x, h1, h2, h3⟩
          · refine .inl ⟨by simp [Instr.findAsking, hb, heq, hab, Result.andThen, h1], ?_⟩
            intro x hx
            rcases List.mem_cons.1 hx with rfl | hx
            · exact hne
            · exact h2 x hx
          · refine .inr ⟨j + 1, x, ?_, by simpa using h2, h3⟩
            simp only [Instr.findAsking, hb]
            simp [heq, hab, Result.andThen, h1]
            omega
    have hnow : ∀ e : MapEntry, Instr.sameNow (.struct fs) (ek a) e.key = .none := fun e => by cases ek a <;> cases e.key <;> rfl
    cases es with
    | nil => exact .inl ⟨by simp [Instr.findKey, run_underlying hd, Instr.findNow, Result.andThen], by simp⟩
    | cons e es =>
      have e1 : (Instr.findKey kt (ek a) (e :: es)).run P w = (Instr.findAsking kt (ek a) (e :: es) 0).run P w := by
        simp [Instr.findKey, run_underlying hd, Instr.findNow, hnow, Result.andThen]
      rw [e1]
      have := key (e :: es) 0 hes
      simpa using this
  stays w a := by simp [Instr.keyThatStays, hs]

/-! ### maps -/

/-- Block b is a map with just these entries, each key once. -/
def MapAt {α β : Type} (ek : α → Value) (ev : β → Value) (w : World) (b : Nat) (l : List (α × β)) : Prop :=
  ∃ es clock, w.heap[b]? = some (.map es clock) ∧ es.toList.map (fun e => (e.key, e.val)) = l.map (fun p => (ek p.1, ev p.2)) ∧ Stamped es clock

section
variable {α β : Type} {ek : α → Value} {ev : β → Value} {w w' : World} {b : Nat} {l : List (α × β)}

theorem MapAt.lt (h : MapAt ek ev w b l) : b < w.heap.size := by
  obtain ⟨es, clock, hb, _⟩ := h
  exact (Array.getElem?_eq_some_iff.1 hb).1

theorem MapAt.of_block (h : MapAt ek ev w b l) (hb : w'.heap[b]? = w.heap[b]?) : MapAt ek ev w' b l := by
  obtain ⟨es, clock, h1, h2, h3⟩ := h
  exact ⟨es, clock, hb.trans h1, h2, h3⟩

theorem MapAt.chg {S : Nat → Prop} (h : MapAt ek ev w b l) (hc : Chg S w w') (hs : ¬ S b) : MapAt ek ev w' b l := h.of_block (hc.block b h.lt hs)

theorem MapAt.alloc (h : MapAt ek ev w b l) (o : Obj) : MapAt ek ev (w.alloc o) b l := h.of_block ((heap_alloc w o).2 b h.lt)

theorem MapAt.drew (h : MapAt ek ev w b l) : MapAt ek ev w.drew b l := h

theorem MapAt.setCell (h : MapAt ek ev w b l) (a : Addr) (v : Value) (hne : b ≠ a.block) : MapAt ek ev (w.setCell a v) b l := h.of_block (heap_setCell w a v b hne)

theorem MapAt.new (ek : α → Value) (ev : β → Value) (w : World) : MapAt ek ev (w.alloc (.map #[] 0)) w.heap.size [] :=
  ⟨#[], 0, (heap_alloc w _).1, rfl, stamped_empty 0⟩

theorem MapAt.nodup (h : MapAt ek ev w b l) : (l.map (·.1)).Nodup := by
  obtain ⟨es, clock, _, h2, _, _, h3⟩ := h
  have e1 : es.toList.map (·.key) = l.map (fun p => ek p.1) := by
    have := congrArg (List.map Prod.fst) h2
    simpa [List.map_map, Function.comp_def] using this
  rw [e1] at h3
  have e2 : l.map (fun p => ek p.1) = (l.map (·.1)).map ek := by simp [List.map_map, Function.comp_def]
  rw [e2] at h3
  exact List.Pairwise.of_map ek (fun _ _ hne e => hne (by rw [e])) h3

end

end Go.Pl
