/-
  CutPlays' arguments, opened: the things that are told; the asset.
-/
import Derived.Test.YtljlnojelagmfaaDoorG3
import Derived.Test.YtljlnojelagmfaaDoorH5
namespace Go.Proofs.YtljlnojelagmfaaDoor
open Go.ChangeShapes Go.WideShapes Go.ChangeAt Go.RowKit Go.Pl
set_option maxRecDepth 100000

section
variable {H : Type} {enc : TypeId × Value → H} {w : World} {base : Nat} {spare : Nat → Bool} {held : Bool}

theorem ints_of_trod {n : Nat} {k : IntKind} {t : TypeId} (ht : Tryd.prog.underlying t = some (.int k)) {v : Value} {y : DataW H × List MemPlace} (h : DataW.trod enc Tryd.prog w base spare held n t [v] = some y) : ∃ x, v = .int k x := by
  obtain ⟨x, hx, _⟩ := DataW.trod_int ht h
  exact ⟨x, by simpa using hx⟩

theorem one48 : Go.Deep.oneCellFields Tryd.prog #[{ name := "Kind", type := 3, offset := 0, embedded := false, tag := "", pkgPath := "", byteOffset := 0 }, { name := "Class", type := 3, offset := 1, embedded := false, tag := "", pkgPath := "", byteOffset := 8 }, { name := "Bucket", type := 3, offset := 2, embedded := false, tag := "", pkgPath := "", byteOffset := 16 }, { name := "BP", type := 2, offset := 3, embedded := false, tag := "", pkgPath := "", byteOffset := 24 }] = true := by kernel_rfl
theorem cells48 : Tryd.prog.cellsOf 48 = 4 := by kernel_rfl

theorem dos_open {r : Reach} {b0 : Nat} {v : Value} {d : DataW H} {p : List MemPlace} (hv : Value.okWide Tryd.prog w r b0 40 v) (h : DataW.Trod enc Tryd.prog w base spare held 40 v d p) : ∃ n D, DosAt w v n D := by
  obtain ⟨a0, len, cap, rfl⟩ := okWide_slice Tryd.underlying40 hv
  obtain ⟨fuel, hf⟩ := h
  rcases slice_fields Tryd.underlying40 Tryd.underlying48 one48 cells48 hf with h0 | ⟨a, len', cap', hcs, hle, hcell⟩
  · simp [Value.cells] at h0
    obtain ⟨rfl, rfl, rfl⟩ := h0
    exact ⟨0, fun _ => (0, 0, 0, 0), none, 0, rfl, Nat.le_refl _, fun k hk => by omega⟩
  · simp [Value.cells] at hcs
    obtain ⟨rfl, rfl, rfl⟩ := hcs
    have key : ∀ k, ∃ x : Int × Int × Int × Int, k < len → w.cell? (a.add (k * 4)) = some (.int .i64 x.1) ∧ w.cell? ((a.add (k * 4)).add 1) = some (.int .i64 x.2.1) ∧ w.cell? ((a.add (k * 4)).add 2) = some (.int .i64 x.2.2.1) ∧ w.cell? ((a.add (k * 4)).add 3) = some (.int .i64 x.2.2.2) := by
      intro k
      by_cases hk : k < len
      · obtain ⟨n0, v0, y0, c0, t0⟩ := hcell k hk 0 _ rfl
        obtain ⟨n1, v1, y1, c1, t1⟩ := hcell k hk 1 _ rfl
        obtain ⟨n2, v2, y2, c2, t2⟩ := hcell k hk 2 _ rfl
        obtain ⟨n3, v3, y3, c3, t3⟩ := hcell k hk 3 _ rfl
        obtain ⟨x0, rfl⟩ := ints_of_trod Tryd.underlying3 t0
        obtain ⟨x1, rfl⟩ := ints_of_trod Tryd.underlying3 t1
        obtain ⟨x2, rfl⟩ := ints_of_trod Tryd.underlying3 t2
        obtain ⟨x3, rfl⟩ := ints_of_trod Tryd.underlying2 t3
        exact ⟨(x0, x1, x2, x3), fun _ => ⟨by simpa [Addr.add] using c0, c1, c2, c3⟩⟩
      · exact ⟨(0, 0, 0, 0), fun h => absurd h hk⟩
    obtain ⟨D, hD⟩ := Classical.axiomOfChoice key
    refine ⟨len, D, some a, cap, rfl, hle, fun k hk => ?_⟩
    obtain ⟨h0, h1, h2, h3⟩ := hD k hk
    obtain ⟨q, hq⟩ : ∃ q, a.add (k * 4) = q := ⟨_, rfl⟩
    rw [hq] at h0 h1 h2 h3
    exact ⟨a, q.block, q.off, q.spot, rfl, hq, h0, by simpa [Addr.add] using h1, by simpa [Addr.add] using h2, by simpa [Addr.add] using h3⟩

theorem cells38 : Tryd.prog.cellsOf 38 = 5 := by kernel_rfl
theorem ast_open {r : Reach} {b0 : Nat} {v : Value} {d : DataW H} {p : List MemPlace} (hv : Value.okWide Tryd.prog w r b0 38 v) (h : DataW.Trod enc Tryd.prog w base spare held 38 v d p) : ∃ id iss c mo f, v = .agg #[.int .i64 id, .int .i64 iss, .int .i64 c, .int .i64 mo, .int .i64 f] := by
  obtain ⟨cs, rfl, hsz⟩ := okWide_struct Tryd.underlying38 hv
  obtain ⟨l⟩ := cs
  match l, hsz.trans cells38 with
  | [c0, c1, c2, c3, c4], _ =>
    obtain ⟨fuel, hf⟩ := h
    obtain ⟨xs, n, _, _, _, hlen, hg⟩ := DataW.trod_struct Tryd.underlying38 hf
    match xs, hlen with
    | [y0, y1, y2, y3, y4], _ =>
      have g0 := hg 0 _ rfl
      have g1 := hg 1 _ rfl
      have g2 := hg 2 _ rfl
      have g3 := hg 3 _ rfl
      have g4 := hg 4 _ rfl
      have c3' : Tryd.prog.cellsOf 3 = 1 := by kernel_rfl
      simp [Value.cells, c3'] at g0 g1 g2 g3 g4
      obtain ⟨x0, rfl⟩ := ints_of_trod Tryd.underlying3 g0
      obtain ⟨x1, rfl⟩ := ints_of_trod Tryd.underlying3 g1
      obtain ⟨x2, rfl⟩ := ints_of_trod Tryd.underlying3 g2
      obtain ⟨x3, rfl⟩ := ints_of_trod Tryd.underlying3 g3
      obtain ⟨x4, rfl⟩ := ints_of_trod Tryd.underlying3 g4
      exact ⟨x0, x1, x2, x3, x4, rfl⟩
end
end Go.Proofs.YtljlnojelagmfaaDoor
