/-
  maps.Keys over a map of struct keys: what its iterator gives. (Chapter 12.)
-/
import Derived.Test.YtljlnojelagmfaaDoorA2
import Derived.Test.YtljlnojelagmfaaDoorB5
import Derived.RangeFuncNested
import Derived.RangeFuncBound
namespace Go.Proofs.YtljlnojelagmfaaDoor
open Go.RowKit Go.Pl Go.Shelf
set_option maxRecDepth 100000

set_option maxHeartbeats 1000000 in
theorem keys149_in (F : Fence) (n : Nat) (h10 : F.fn 149) (hro : F.round = none) (hn : 1 ≤ n) (l Bm b : Nat) (L : List ((Int × Int) × Int)) (J Jx : List (Int × Int) → World → Prop)
    (hY : ∀ pre x W, J pre W → pre.length < L.length → YieldAt F (n - 1) Tryd.prog l #[ek2 x] W fun e W' => (e = .returned (.bool true) ∧ J (pre ++ [x]) W' ∧ KeepsWalks W W') ∨ (e = .returned (.bool false) ∧ Jx (pre ++ [x]) W'))
    (W : World) (hJ : AbidesFrom W.heap.size J) (hm : W.cell? ⟨Bm, 0, none⟩ = some (.map (some b))) (hown : MapAt ek2 ekI W b L) (h0 : J [] W) :
    CallsIn F n Tryd.prog 149 #[.func (.yield l) #[] #[], .pointer (some ⟨Bm, 0, none⟩)] W fun e W' => (∃ v, e = .returned v) ∧ ((∃ ks : List (Int × Int), ks.Perm (L.map (·.1)) ∧ J ks W') ∨ (∃ pre, Jx pre W')) := by
  refine callsIn_of_wp Tryd.func149 rfl h10 ?_ hro
  simp only [Tryd.ntmps149, List.size_toArray, List.length_cons, List.length_nil, Nat.reduceAdd, Nat.reduceSub, Array.replicate_succ, Array.replicate_zero, List.push_toArray, List.append_toArray, List.nil_append, List.cons_append]
  gi_wp2_with (first
    | (gi_at_range; refine wpListIn_range rfl _ 24 rfl 28 2 Tryd.underlying24 b L rfl hown ?_; intro w0 hrg0 hg0 hs0)
    | gi_in)
  go_frame
  gi_loopw [3] (fun _ wr => ∃ (left : List ((Int × Int) × Int)) (ks : List (Int × Int)), IterAt ek2 ekI wr b W.heap.size L left ∧ (ks ++ left.map (·.1)).Perm (L.map (·.1)) ∧ J ks wr)
    (fun _ wr => wr.rangeLeft b W.heap.size)
  case atStart =>
    exact ⟨L, [], hrg0, by simp, hJ [] W w0 none h0 hg0.grown0 (fun r e => by cases e)⟩
  case round =>
    obtain ⟨left, ks, hrg, hP, hJs⟩ := hrel
    gi_wp2_with (first
      | (gi_at_next; refine wpListIn_next rfl _ rfl b W.heap.size L left rfl hrg ?_ ?_)
      | gi_in)
    · intro h0
      subst h0
      gi_wp2
      go_end0
      exact ⟨⟨_, rfl⟩, .inl ⟨ks, by simpa using hP, hJs⟩⟩
    · intro pre k1 k2 v post w2 hleft hrg2 hg2 hs2 hen
      have hJ2 : J ks w2 := hJ ks wr w2 (some W.heap.size) hJs hg2.grown1 (fun r e => by cases e; exact ⟨Nat.le_refl _, hrg.iter⟩)
      have hlen : ks.length < L.length := by
        have := hP.length_eq
        rw [hleft] at this
        simp at this
        omega
      have hJ3 : J ks (w2.alloc (.cells #[.int .i64 k1, .int .i64 k2] 28)) := hJ ks w2 _ none hJ2 (World.grownBy_alloc _ _ _) (fun r e => by cases e)
      obtain ⟨fn, tmps, assign, body, hy, hR⟩ := hY ks (k1, k2) _ hJ3 hlen
      unfold ek2 ekI at hen
      unfold ek2 at hy
      clear hs2
      have hP' := Lib.hid hP
      have hl' := Lib.hid hleft
      clear hP hleft
      gi_wp2
      refine hR.mono ?_
      rintro e W3 (⟨rfl, hJ4, hk3⟩ | ⟨rfl, hJ4⟩)
      rotate_left
      · gi_wp2
        refine bodyPost_ret (results_none rfl _ _ _) rfl ?_
        exact ⟨⟨_, rfl⟩, .inr ⟨_, hJ4⟩⟩
      gi_wp2
      have hrg3 := (hrg2.chg ((Chg.refl S0 _).alloc (.cells #[.int .i64 k1, .int .i64 k2] 28)) (fun h => h) (fun h => h)).walks hk3
      go_roundw
      case rel =>
        refine ⟨_, ks ++ [(k1, k2)], hrg3, ?_, hJ4⟩
        have := hP'.out
        rw [hl'.out] at this
        refine List.Perm.trans ?_ this
        simp only [List.map_append, List.map_cons, List.append_assoc, List.singleton_append]
        exact List.Perm.append_left _ List.perm_middle.symm
      case measure =>
        rw [hrg3.left_eq, hrg.left_eq, hl'.out]
        simp

theorem keys149_stops (F : Fence) (n : Nat) (h10 : F.fn 149) (hro : F.round = none) (hn : 1 ≤ n) (Bm b : Nat) (L : List ((Int × Int) × Int)) (w : World) (hBm : Bm < w.heap.size) (hm : w.cell? ⟨Bm, 0, none⟩ = some (.map (some b))) (hown : MapAt ek2 ekI w b L) :
    SeqStopsK F n Tryd.prog 149 #[.pointer (some ⟨Bm, 0, none⟩)] (fun x => #[ek2 x]) KeepsWalks (fun ks => ks.Perm (L.map (·.1))) (fun _ => True) L.length w := fun l J Jx W hW hJ _ hY h0 =>
  (keys149_in F n h10 hro hn l Bm b L J Jx hY W hJ ((hW.cell (p := ⟨Bm, 0, none⟩) hBm).trans hm) (MapAt.of_block hown (hW.block b hown.lt)) h0).mono fun _ _ ⟨hv, h⟩ => ⟨hv, h.imp id fun ⟨pre, hp⟩ => ⟨pre, trivial, hp⟩⟩

end Go.Proofs.YtljlnojelagmfaaDoor
