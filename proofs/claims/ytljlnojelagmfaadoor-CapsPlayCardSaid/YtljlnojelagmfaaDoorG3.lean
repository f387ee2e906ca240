/-
  What the arguments read as, behind a call that turned nothing old; arguments opened to values.
-/
import Derived.Test.YtljlnojelagmfaaDoorG0
import Derived.ReadAgain
import Derived.ChangeOld
import Derived.Deep.Slices
import Derived.Deep.Fields
namespace Go.Proofs.YtljlnojelagmfaaDoor
open Go.ChangeShapes Go.WideShapes Go.ChangeAt Go.RowKit Go.Pl
set_option maxRecDepth 100000

theorem kidsT : Kids Tryd.prog (· < Tryd.prog.types.size) := kids_rows (by kernel_rfl) (by kernel_rfl)
theorem fullT : ∀ t e, t < Tryd.prog.types.size → Tryd.prog.underlying t = some (.slice e) → 0 < Tryd.prog.cellsOf e := slices_full_of Tryd.prog (by kernel_rfl)

section
variable {H : Type} {enc : TypeId × Value → H} {w w' : World}
theorem trodAll_carry {P : Program} {base : Nat} {spare : Nat → Bool} {held : Bool} : ∀ {ts : List TypeId} {vs : List Value} {ds : List (DataW H)} {ps : List MemPlace}, DataW.TrodAll enc P w base spare held ts vs ds ps → (∀ p ∈ ps, w.sameAt w' p) → DataW.TrodAll enc P w' base spare held ts vs ds ps
  | [], [], [], _, h, _ => h
  | _ :: _, _ :: _, _ :: _, _, ⟨p, q, ⟨n, h1⟩, h2, e⟩, hs => ⟨p, q, ⟨n, DataW.trod_carry _ _ _ _ h1 (fun x hx => hs x (by rw [e]; exact List.mem_append_left _ hx))⟩, trodAll_carry h2 (fun x hx => hs x (by rw [e]; exact List.mem_append_right _ hx)), e⟩

theorem trodAll_after {ts : List TypeId} {vs : List Value} {ds : List (DataW H)} {ps : List MemPlace} (h : DataW.TrodAll enc Tryd.prog w 0 (fun _ => true) true ts vs ds ps) (hT : ∀ t ∈ ts, t < Tryd.prog.types.size) (hc : Chg S0 w w') :
    DataW.TrodAll enc Tryd.prog w' 0 (fun b => decide (b < w.heap.size)) true ts vs ds ps := by
  have hlt := DataW.TrodAll.lt h
  refine trodAll_carry (DataW.TrodAll.respare kidsT fullT hT h (fun p hp => by simpa using hlt p hp)) (fun p hp => ?_)
  have := hc.block p.block (hlt p hp) (fun h => h)
  cases p with
  | cell b off => exact World.cell?_of_block this
  | map b => exact this

/-- A slice of structs whose fields are one cell each: cell by cell. (After the kit's block on slices of structs.) -/
theorem slice_fields {P : Program} {base : Nat} {spare : Nat → Bool} {held : Bool} {t e : TypeId} {fs : Array Field} {fuel : Nat} {cs : List Value} {x : DataW H × List MemPlace} (ht : P.underlying t = some (.slice e)) (he : P.underlying e = some (.struct fs))
    (hone : Go.Deep.oneCellFields P fs = true) (hC : P.cellsOf e = fs.size) (h : DataW.trod enc P w base spare held fuel t cs = some x) :
    cs = [.slice none 0 0] ∨ ∃ (a : Addr) (len cap : Nat), cs = [.slice (some a) len cap] ∧ len ≤ cap ∧
      ∀ i, i < len → ∀ (j : Nat) (f : Field), fs[j]? = some f → ∃ (n : Nat) (v : Value) (y : DataW H × List MemPlace), w.cell? ((a.add (i * fs.size)).add j) = some v ∧ DataW.trod enc P w base spare held n f.type [v] = some y := by
  rcases Go.Deep.open_slice ht h with h0 | ⟨a, len, cap, m, n, D, Pl, hcs, _, hl, _, hmm, _, hi⟩
  · exact .inl h0.1
  · refine .inr ⟨a, len, cap, hcs, hl, fun i him j f hj => ?_⟩
    obtain ⟨cs', hc, ht'⟩ := hi i (by rw [hmm]; split <;> omega)
    rw [hC] at hc
    obtain ⟨ys, n', _, _, _, hyl, hf⟩ := DataW.trod_struct he ht'
    obtain ⟨_, hcl, hat⟩ := World.cells?_some hc
    obtain ⟨ho, hk⟩ := Go.Deep.hone_of hone j f hj
    have hjl : j < fs.size := (Array.getElem?_eq_some_iff.1 hj).1
    have h1 := hf j f hj
    rw [ho, hk, List.drop_eq_getElem_cons (by omega)] at h1
    have hys : ys[j]? = some (ys[j]'(by omega)) := List.getElem?_eq_getElem (by omega)
    exact ⟨n', _, _, by rw [hat j hjl]; exact List.getElem?_eq_getElem (by omega), h1.trans hys⟩
end
end Go.Proofs.YtljlnojelagmfaaDoor
