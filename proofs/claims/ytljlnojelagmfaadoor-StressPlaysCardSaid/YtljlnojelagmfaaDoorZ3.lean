/-
  pledgelaw22.StressPlays returns true for every input, and its arguments read behind the call as before.
  Conditions: those of the given row (the listed package-level variables hold what the program's text lays: tied).
-/
import Derived.Test.YtljlnojelagmfaaDoorY3
import Derived.Test.YtljlnojelagmfaaDoorG2
import Derived.Test.YtljlnojelagmfaaDoorN9
namespace Go.Proofs.YtljlnojelagmfaaDoor.StressPlays
open Go.ChangeShapes Go.WideShapes Go.ChangeAt Go.RowKit Go.Pl

set_option maxRecDepth 100000 in
theorem lists : ListsErrs Rows.stressPlaysRow.laid := by
  intro g h h7
  match g with
  | 0 => exact rfl
  | 1 => exact rfl
  | 2 => exact rfl
  | 3 => exact rfl
  | 4 => exact rfl
  | 5 => exact rfl
  | 6 => exact rfl
  | 7 => exact absurd rfl h7
  | 8 => exact rfl
  | 9 => exact rfl
  | 10 => exact rfl
  | 11 => exact rfl
  | 12 => exact rfl
  | 13 => exact rfl
  | 14 => exact rfl
  | 15 => exact rfl
  | 16 => exact rfl
  | 17 => exact rfl
  | 18 => exact rfl
  | 19 => exact rfl
  | 20 => exact rfl
  | 21 => exact rfl
  | n + 22 => omega

set_option maxRecDepth 100000 in
theorem contract (H : Type) (enc : TypeId × Value → H) (W : World) (base : Nat) (args : Array Value) (ds gs : List (DataW H)) (before : List MemPlace)
    (hval : ∀ (j : Nat) t v, Tryd.f5.params[j]? = some t → args[j]? = some v → Value.okWide Tryd.prog W .any base t v)
    (hW : DataW.Whole enc Tryd.prog Tryd.f5.params.toList Rows.stressPlaysSpec.vars false W args.toList ds gs before) (_hsz : (DataW.weightsEach Tryd.prog (Tryd.f5.params.toList ++ (OpenSpec.ofChange Rows.stressPlaysSpec).bare.plain.varTypes Tryd.prog) (ds ++ gs)).all (· ≤ reachBytes) = true) (hL : laidMetH Tryd.prog Rows.stressPlaysRow.laid W) :
    Calls Tryd.prog 5 args W fun e W' => ∃ v, e = .returned v ∧ Rows.stressPlaysSpec.post enc Tryd.prog Tryd.f5 false true false false W args v W' := by
  have hW' := hW
  obtain ⟨p, q, hA0, hV, rfl, hfz, hnd⟩ := hW
  have hA : DataW.TrodAll enc Tryd.prog W 0 (fun _ => true) true Tryd.f5.params.toList args.toList ds p := hA0
  have hAk := hA
  rw [Tryd.params5] at hA hval
  obtain ⟨v0, vs0, d0, ds0, p0, q0, hargs, rfl, rfl, h0, r0⟩ := trodAll_cons hA
  obtain ⟨v1, vs1, d1, ds1, p1, q1, rfl, rfl, rfl, h1, r1⟩ := trodAll_cons r0
  obtain ⟨v2, vs2, d2, ds2, p2, q2, rfl, rfl, rfl, h2, r2⟩ := trodAll_cons r1
  obtain ⟨v3, vs3, d3, ds3, p3, q3, rfl, rfl, rfl, h3, r3⟩ := trodAll_cons r2
  obtain ⟨rfl, rfl, rfl⟩ := trodAll_nil r3
  obtain rfl : args = #[v0, v1, v2, v3] := by rw [← Array.toList_inj]; exact hargs
  obtain ⟨rfl, rfl⟩ := trodVars_none hV
  obtain ⟨n, D, hD, hnm⟩ := tri_open Tryd.underlying56 Tryd.underlying69 Tryd.underlying59 rfl rfl rfl rfl rfl rfl rfl rfl (by kernel_rfl) (by kernel_rfl) (hval 0 56 v0 rfl rfl) h0
  obtain ⟨l, hI, hlm⟩ := ints_open Tryd.underlying57 Tryd.underlying2 (by kernel_rfl) (hval 1 57 v1 rfl rfl) h1
  obtain ⟨a2, rfl, _, _, _⟩ := open_int Tryd.underlying3 (hval 2 3 v2 rfl rfl) h2
  obtain ⟨x, y, rfl⟩ := pair_open Tryd.underlying59 rfl rfl rfl rfl (by kernel_rfl) (hval 3 59 v3 rfl rfl) h3
  clear hA0
  obtain ⟨A, hE⟩ := errs_laid hL lists
  refine (stressPlays_any W.heap.size A v0 v1 n D l a2 x y W hE (Nat.le_refl _) hD hI hnm hlm).mono fun e W' ⟨he, hg⟩ => ?_
  subst he
  exact ⟨_, rfl, post_of_chg (pr := []) (pv := []) hW' (trodAll_cons_mk (shut_bool Tryd.underlying4 _) trodAll_mk0) (trodAll_after hAk (by rw [Tryd.params5]; decide) hg) rfl hg⟩

set_option maxRecDepth 100000 in
theorem lifted (os : Os) (started : os.Started) (H : Type) (enc : TypeId × Value → H) (F : Stop.Interp) :
    ReturnsInHanded {} Tryd.checked os 5 .any ((OpenSpec.ofChange Rows.stressPlaysSpec).preRow enc Tryd.prog Tryd.f5 Rows.stressPlaysRow.domain false Rows.stressPlaysRow.laid) (((OpenSpec.ofChange Rows.stressPlaysSpec).at F).post enc Tryd.prog Tryd.f5 false true false false) := by
  obtain ⟨places, hx⟩ := reads os enc
  refine returnsInHanded_of_row (C := Tryd.checked) (s := OpenSpec.ofChange Rows.stressPlaysSpec) own started noInit Tryd.func5
    (witness_row_atRef (enc := enc) (C := Tryd.checked) false (W0 os) wargs rfl (v1 os) (v2 os) (v3 os)
      (OpenSpec.preRow_of_cond 8 hx (v4 os enc places) (fun k hk => by cases hk) (v5 os enc) (laid_met os))) ?_
  intro W base args ds gs before hval hW _ _ hsz hL _ _
  exact contract H enc W base args ds gs before hval hW hsz hL

theorem said : Rows.StressPlaysSaid :=
  OpenClaim.holds_of_cond 5 Tryd.f5 rfl rfl rfl rfl rfl rfl rfl ⟨rfl, rfl, rfl, rfl, rfl⟩ rfl rfl rfl rfl rfl named Tryd.func5 closed
    (of_decide_eq_true inst) (by unfold Func.isWrapper; first | (rw [if_pos (by decide +kernel)]; kernel_rfl) | (rw [if_neg (by decide +kernel)]; exact ⟨rfl, rfl⟩))
    (fun os started H enc _ F => by rw [OpenClaim.pre_eq_preRow]; exact lifted os started H enc F)

end StressPlays

/-- THE CARD. -/
theorem stressPlays_card : Rows.StressPlaysCardSaid :=
  Claim7.holds_tied_plain_at .later [] _ _ _ _ StressPlays.said (fun _ h => by cases h) (by as_aux_lemma => kernel_rfl) (fun _ h => by cases h) stressPlays_row_tie rfl ⟨rfl, rfl⟩ (by as_aux_lemma => kernel_rfl) rfl StressPlays.plain (by as_aux_lemma => kernel_rfl)
#print axioms stressPlays_card
end Go.Proofs.YtljlnojelagmfaaDoor

