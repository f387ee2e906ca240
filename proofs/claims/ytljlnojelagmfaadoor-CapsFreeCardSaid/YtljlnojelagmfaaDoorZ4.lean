/-
  pledgelaw16.CapsFree returns true for every input, and its arguments read behind the call as before.
  Conditions: those of the given row (the listed package-level variables hold what the program's text lays: tied).
-/
import Derived.Test.YtljlnojelagmfaaDoorY4
import Derived.Test.YtljlnojelagmfaaDoorG3
import Derived.Test.YtljlnojelagmfaaDoorM8
namespace Go.Proofs.YtljlnojelagmfaaDoor.CapsFree
open Go.ChangeShapes Go.WideShapes Go.ChangeAt Go.RowKit Go.Pl


set_option maxRecDepth 100000 in
theorem contract (H : Type) (enc : TypeId × Value → H) (W : World) (base : Nat) (args : Array Value) (ds gs : List (DataW H)) (before : List MemPlace)
    (hval : ∀ (j : Nat) t v, Tryd.f6.params[j]? = some t → args[j]? = some v → Value.okWide Tryd.prog W .any base t v)
    (hW : DataW.Whole enc Tryd.prog Tryd.f6.params.toList Rows.capsFreeSpec.vars false W args.toList ds gs before) (_hsz : (DataW.weightsEach Tryd.prog (Tryd.f6.params.toList ++ (OpenSpec.ofChange Rows.capsFreeSpec).bare.plain.varTypes Tryd.prog) (ds ++ gs)).all (· ≤ reachBytes) = true) (hL : laidMetH Tryd.prog Rows.capsFreeRow.laid W) :
    Calls Tryd.prog 6 args W fun e W' => ∃ v, e = .returned v ∧ Rows.capsFreeSpec.post enc Tryd.prog Tryd.f6 false true false false W args v W' := by
  have hW' := hW
  obtain ⟨p, q, hA0, hV, rfl, hfz, hnd⟩ := hW
  have hA : DataW.TrodAll enc Tryd.prog W 0 (fun _ => true) true Tryd.f6.params.toList args.toList ds p := hA0
  have hAk := hA
  rw [Tryd.params6] at hA hval
  obtain ⟨v0, vs0, d0, ds0, p0, q0, hargs, rfl, rfl, h0, r0⟩ := trodAll_cons hA
  obtain ⟨v1, vs1, d1, ds1, p1, q1, rfl, rfl, rfl, h1, r1⟩ := trodAll_cons r0
  obtain ⟨rfl, rfl, rfl⟩ := trodAll_nil r1
  obtain rfl : args = #[v0, v1] := by rw [← Array.toList_inj]; exact hargs
  obtain ⟨rfl, rfl⟩ := trodVars_none hV
  obtain ⟨a0, rfl, _, _, b0⟩ := open_int Tryd.underlying2 (hval 0 2 v0 rfl rfl) h0
  obtain ⟨a1, rfl, _, _, _⟩ := open_int Tryd.underlying2 (hval 1 2 v1 rfl rfl) h1
  clear hA0
  obtain ⟨ae0, _, he0, _⟩ := errAt hL "pledge/api.ErrRange" _ 0 rfl (by kernel_rfl) (by kernel_rfl)
  obtain ⟨ae2, _, he2, _⟩ := errAt hL "pledge/api.ErrOver" _ 2 rfl (by kernel_rfl) (by kernel_rfl)
  have hb := wf_bounds b0
  refine (capsFree_any 391 391 _ _ a0 a1 W he0 he2 hb.1 hb.2).mono fun e W' ⟨he, hg⟩ => ?_
  subst he
  exact ⟨_, rfl, post_of_chg (pr := []) (pv := []) hW' (trodAll_cons_mk (shut_bool Tryd.underlying4 _) trodAll_mk0) (trodAll_after hAk (by rw [Tryd.params6]; decide) hg) rfl hg⟩

set_option maxRecDepth 100000 in
theorem lifted (os : Os) (started : os.Started) (H : Type) (enc : TypeId × Value → H) (F : Stop.Interp) :
    ReturnsInHanded {} Tryd.checked os 6 .any ((OpenSpec.ofChange Rows.capsFreeSpec).preRow enc Tryd.prog Tryd.f6 Rows.capsFreeRow.domain false Rows.capsFreeRow.laid) (((OpenSpec.ofChange Rows.capsFreeSpec).at F).post enc Tryd.prog Tryd.f6 false true false false) := by
  obtain ⟨places, hx⟩ := reads os enc
  refine returnsInHanded_of_row (C := Tryd.checked) (s := OpenSpec.ofChange Rows.capsFreeSpec) own started noInit Tryd.func6
    (witness_row_atRef (enc := enc) (C := Tryd.checked) false (W0 os) wargs rfl (v1 os) (v2 os) (v3 os)
      (OpenSpec.preRow_of_cond 8 hx (v4 os enc places) (fun k hk => by cases hk) (v5 os enc) (laid_met os))) ?_
  intro W base args ds gs before hval hW _ _ hsz hL _ _
  exact contract H enc W base args ds gs before hval hW hsz hL

theorem said : Rows.CapsFreeSaid :=
  OpenClaim.holds_of_cond 6 Tryd.f6 rfl rfl rfl rfl rfl rfl rfl ⟨rfl, rfl, rfl, rfl, rfl⟩ rfl rfl rfl rfl rfl named Tryd.func6 closed
    (of_decide_eq_true inst) (by unfold Func.isWrapper; first | (rw [if_pos (by decide +kernel)]; kernel_rfl) | (rw [if_neg (by decide +kernel)]; exact ⟨rfl, rfl⟩))
    (fun os started H enc _ F => by rw [OpenClaim.pre_eq_preRow]; exact lifted os started H enc F)

end CapsFree

/-- THE CARD. -/
theorem capsFree_card : Rows.CapsFreeCardSaid :=
  Claim7.holds_tied_plain_at .later [] _ _ _ _ CapsFree.said (fun _ h => by cases h) (by as_aux_lemma => kernel_rfl) (fun _ h => by cases h) capsFree_row_tie rfl ⟨rfl, rfl⟩ (by as_aux_lemma => kernel_rfl) rfl CapsFree.plain (by as_aux_lemma => kernel_rfl)
#print axioms capsFree_card
end Go.Proofs.YtljlnojelagmfaaDoor

