/-
  pledgelaw16.CapsPlay returns true for every input, and its arguments read behind the call as before.
  Conditions: those of the given row (the listed package-level variables hold what the program's text lays: tied).
-/
import Derived.Test.YtljlnojelagmfaaDoorY5
import Derived.Test.YtljlnojelagmfaaDoorG2
import Derived.Test.YtljlnojelagmfaaDoorQ5
namespace Go.Proofs.YtljlnojelagmfaaDoor.CapsPlay
open Go.ChangeShapes Go.WideShapes Go.ChangeAt Go.RowKit Go.Pl

set_option maxRecDepth 100000 in
theorem lists : ListsErrs Rows.capsPlayRow.laid := by
  intro g h h7
  match g with
  | 0 => exact rfl
  | 1 => exact rfl
  | 2 => exact rfl
  | 3 => exact rfl
  | 4 => exact rfl
  | 5 => exact rfl
  | 6 => exact rfl
  | 7 => exact absurd rfl h7
  | 8 => exact rfl
  | 9 => exact rfl
  | 10 => exact rfl
  | 11 => exact rfl
  | 12 => exact rfl
  | 13 => exact rfl
  | 14 => exact rfl
  | 15 => exact rfl
  | 16 => exact rfl
  | 17 => exact rfl
  | 18 => exact rfl
  | 19 => exact rfl
  | 20 => exact rfl
  | 21 => exact rfl
  | n + 22 => omega

set_option maxRecDepth 100000 in
theorem contract (H : Type) (enc : TypeId × Value → H) (W : World) (base : Nat) (args : Array Value) (ds gs : List (DataW H)) (before : List MemPlace)
    (hval : ∀ (j : Nat) t v, Tryd.f7.params[j]? = some t → args[j]? = some v → Value.okWide Tryd.prog W .any base t v)
    (hW : DataW.Whole enc Tryd.prog Tryd.f7.params.toList Rows.capsPlaySpec.vars false W args.toList ds gs before) (_hsz : (DataW.weightsEach Tryd.prog (Tryd.f7.params.toList ++ (OpenSpec.ofChange Rows.capsPlaySpec).bare.plain.varTypes Tryd.prog) (ds ++ gs)).all (· ≤ reachBytes) = true) (hL : laidMetH Tryd.prog Rows.capsPlayRow.laid W) :
    Calls Tryd.prog 7 args W fun e W' => ∃ v, e = .returned v ∧ Rows.capsPlaySpec.post enc Tryd.prog Tryd.f7 false true false false W args v W' := by
  have hW' := hW
  obtain ⟨p, q, hA0, hV, rfl, hfz, hnd⟩ := hW
  have hA : DataW.TrodAll enc Tryd.prog W 0 (fun _ => true) true Tryd.f7.params.toList args.toList ds p := hA0
  have hAk := hA
  rw [Tryd.params7] at hA hval
  obtain ⟨v0, vs0, d0, ds0, p0, q0, hargs, rfl, rfl, h0, r0⟩ := trodAll_cons hA
  obtain ⟨v1, vs1, d1, ds1, p1, q1, rfl, rfl, rfl, h1, r1⟩ := trodAll_cons r0
  obtain ⟨v2, vs2, d2, ds2, p2, q2, rfl, rfl, rfl, h2, r2⟩ := trodAll_cons r1
  obtain ⟨rfl, rfl, rfl⟩ := trodAll_nil r2
  obtain rfl : args = #[v0, v1, v2] := by rw [← Array.toList_inj]; exact hargs
  obtain ⟨rfl, rfl⟩ := trodVars_none hV
  obtain ⟨n, D, hD, hnm⟩ := tri_open Tryd.underlying96 Tryd.underlying102 Tryd.underlying89 rfl rfl rfl rfl rfl rfl rfl rfl (by kernel_rfl) (by kernel_rfl) (hval 0 96 v0 rfl rfl) h0
  obtain ⟨nl, E, hI, hlm⟩ := quad_open Tryd.underlying97 Tryd.underlying91 rfl rfl rfl rfl (by kernel_rfl) (by kernel_rfl) (hval 1 97 v1 rfl rfl) h1
  obtain ⟨x, y, rfl⟩ := pair_open Tryd.underlying89 rfl rfl rfl rfl (by kernel_rfl) (hval 2 89 v2 rfl rfl) h2
  clear hA0
  obtain ⟨A, hE⟩ := errs_laid hL lists
  refine (capsPlay_any W.heap.size A v0 v1 n D nl E x y W hE (Nat.le_refl _) hD hI hnm hlm).mono fun e W' ⟨he, hg⟩ => ?_
  subst he
  exact ⟨_, rfl, post_of_chg (pr := []) (pv := []) hW' (trodAll_cons_mk (shut_bool Tryd.underlying4 _) trodAll_mk0) (trodAll_after hAk (by rw [Tryd.params7]; decide) hg) rfl hg⟩

set_option maxRecDepth 100000 in
theorem lifted (os : Os) (started : os.Started) (H : Type) (enc : TypeId × Value → H) (F : Stop.Interp) :
    ReturnsInHanded {} Tryd.checked os 7 .any ((OpenSpec.ofChange Rows.capsPlaySpec).preRow enc Tryd.prog Tryd.f7 Rows.capsPlayRow.domain false Rows.capsPlayRow.laid) (((OpenSpec.ofChange Rows.capsPlaySpec).at F).post enc Tryd.prog Tryd.f7 false true false false) := by
  obtain ⟨places, hx⟩ := reads os enc
  refine returnsInHanded_of_row (C := Tryd.checked) (s := OpenSpec.ofChange Rows.capsPlaySpec) own started noInit Tryd.func7
    (witness_row_atRef (enc := enc) (C := Tryd.checked) false (W0 os) wargs rfl (v1 os) (v2 os) (v3 os)
      (OpenSpec.preRow_of_cond 8 hx (v4 os enc places) (fun k hk => by cases hk) (v5 os enc) (laid_met os))) ?_
  intro W base args ds gs before hval hW _ _ hsz hL _ _
  exact contract H enc W base args ds gs before hval hW hsz hL

theorem said : Rows.CapsPlaySaid :=
  OpenClaim.holds_of_cond 7 Tryd.f7 rfl rfl rfl rfl rfl rfl rfl ⟨rfl, rfl, rfl, rfl, rfl⟩ rfl rfl rfl rfl rfl named Tryd.func7 closed
    (of_decide_eq_true inst) (by unfold Func.isWrapper; first | (rw [if_pos (by decide +kernel)]; kernel_rfl) | (rw [if_neg (by decide +kernel)]; exact ⟨rfl, rfl⟩))
    (fun os started H enc _ F => by rw [OpenClaim.pre_eq_preRow]; exact lifted os started H enc F)

end CapsPlay

/-- THE CARD. -/
theorem capsPlay_card : Rows.CapsPlayCardSaid :=
  Claim7.holds_tied_plain_at .later [] _ _ _ _ CapsPlay.said (fun _ h => by cases h) (by as_aux_lemma => kernel_rfl) (fun _ h => by cases h) capsPlay_row_tie rfl ⟨rfl, rfl⟩ (by as_aux_lemma => kernel_rfl) rfl CapsPlay.plain (by as_aux_lemma => kernel_rfl)
#print axioms capsPlay_card
end Go.Proofs.YtljlnojelagmfaaDoor

