/-
  The closed part of the row of CapsFree: the facts that the kernel reckons, a world in which the listed variables lie.
-/
import Derived.Test.YtljlnojelagmfaaDoorG1
namespace Go.Proofs.YtljlnojelagmfaaDoor.CapsFree
open Go Go.ChangeShapes Go.WideShapes Go.ChangeAt Go.RowKit
set_option maxRecDepth 100000

theorem k0 : (Rows.capsFreeRow.wf (OpenSpec.ofChange (OpenSpec.ofChange Rows.capsFreeSpec).bare) : Bool) = true := by kernel_rfl
theorem k3 : (Tryd.f6.params.all (Tryd.prog.readableRec ·) : Bool) = true := by kernel_rfl
theorem k4 : (namedTie Tryd.prog Rows.capsFreeRow.named (OpenSpec.ofChange Rows.capsFreeSpec).bare.vars : Bool) = true := by kernel_rfl
theorem k5 : ((Rows.capsFreeRow.stops == []) : Bool) = true := by kernel_rfl
theorem k7 : ((Rows.capsFreeRow.knobs == []) : Bool) = true := by kernel_rfl
theorem k9 : ((Rows.capsFreeRow.inPlace == Tryd.prog.inPlace 6) : Bool) = true := by kernel_rfl
theorem k10 : ((Rows.capsFreeRow.unfollowed == Tryd.prog.unfollowed 6) : Bool) = true := by kernel_rfl
theorem k11 : ((Rows.capsFreeRow.recurses == Tryd.prog.recurses 6) : Bool) = true := by kernel_rfl
theorem k12 : ((Rows.capsFreeRow.named == Tryd.prog.varsNamed 6) : Bool) = true := by kernel_rfl
theorem k13 : ((Rows.capsFreeRow.maps == (Tryd.f6.params.toList ++ (OpenSpec.ofChange Rows.capsFreeSpec).bare.plain.varTypes Tryd.prog).any (Tryd.prog.mapsRec ·)) : Bool) = true := by kernel_rfl
theorem k14 : ((Rows.capsFreeRow.ifaces == (Tryd.f6.params.toList ++ (OpenSpec.ofChange Rows.capsFreeSpec).bare.plain.varTypes Tryd.prog).any (Tryd.prog.ifacesRec ·)) : Bool) = true := by kernel_rfl
theorem k15 : ((Rows.capsFreeRow.mapsOut == Tryd.prog.mapsAmong Tryd.f6.resultTypes.toList) : Bool) = true := by kernel_rfl
theorem k16 : ((Rows.capsFreeRow.loops == (Tryd.f6.params.toList ++ (OpenSpec.ofChange Rows.capsFreeSpec).bare.plain.varTypes Tryd.prog).any (Tryd.prog.loopsFrom ·)) : Bool) = true := by kernel_rfl
theorem k17 : ((Rows.capsFreeRow.wideKeys == (Tryd.f6.params.toList ++ (OpenSpec.ofChange Rows.capsFreeSpec).bare.plain.varTypes Tryd.prog ++ Tryd.f6.resultTypes.toList).any (Tryd.prog.wideKeysFrom ·)) : Bool) = true := by kernel_rfl
theorem k18 : ((OpenSpec.ofChange Rows.capsFreeSpec).bare.vars.all (Tryd.prog.varReadable ·) : Bool) = true := by kernel_rfl
theorem k19 : (Tryd.f6.resultTypes.all (fun t => Tryd.prog.readableRec t && decide (t < Tryd.prog.types.size)) : Bool) = true := by kernel_rfl
theorem k20 : ((Rows.capsFreeRow.ifacesOut == Tryd.f6.resultTypes.toList.any (Tryd.prog.ifacesRec ·)) : Bool) = true := by kernel_rfl
theorem k21 : ((Rows.capsFreeRow.loopsOut == Tryd.f6.resultTypes.toList.any (Tryd.prog.loopsFrom ·)) : Bool) = true := by kernel_rfl
theorem k22 : ((Rows.capsFreeRow.plainKeys == Tryd.prog.plainKeys) : Bool) = true := by kernel_rfl
theorem k23 : (Rows.capsFreeRow.shortTexts.isNone : Bool) = true := by kernel_rfl
theorem k26 : ((Rows.capsFreeRow.lifted == Tryd.prog.liftsFinal) : Bool) = true := by kernel_rfl
theorem k27 : ((Tryd.prog.make == some Rows.capsFreeRow.make) : Bool) = true := by kernel_rfl
theorem k28 : ((Rows.capsFreeRow.kinds == (if Rows.capsFreeRow.domain.isEmpty then [] else Tryd.f6.params.toList.map fun t => match Tryd.prog.underlying t with | some (.int k) => some k | _ => none)) : Bool) = true := by kernel_rfl
theorem k29 : ((Rows.capsFreeRow.pinned == Rows.capsFreeRow.pinnedBy) : Bool) = true := by kernel_rfl
theorem k30 : ((Rows.capsFreeRow.veiled == (Tryd.f6.params.toList ++ (OpenSpec.ofChange Rows.capsFreeSpec).bare.plain.varTypes Tryd.prog ++ Tryd.f6.resultTypes.toList).any (Tryd.prog.veiledRec ·)) : Bool) = true := by kernel_rfl
theorem k31 : (Rows.capsFreeRow.veiledFits Tryd.prog Tryd.f6.params.toList (Tryd.f6.params.toList ++ (OpenSpec.ofChange Rows.capsFreeSpec).bare.plain.varTypes Tryd.prog ++ Tryd.f6.resultTypes.toList) : Bool) = true := by kernel_rfl
theorem closed : joinedFacts Tryd.prog 6 Tryd.f6 (OpenSpec.ofChange Rows.capsFreeSpec).bare Rows.capsFreeRow = true := by
  unfold joinedFacts
  simp only [Bool.and_eq_true]
  exact ⟨⟨⟨⟨⟨⟨⟨⟨⟨⟨⟨⟨⟨⟨⟨⟨⟨⟨⟨⟨⟨⟨⟨⟨⟨⟨⟨⟨⟨⟨⟨k0, P1⟩, P2⟩, k3⟩, k4⟩, k5⟩, P6⟩, k7⟩, P8⟩, k9⟩, k10⟩, k11⟩, k12⟩, k13⟩, k14⟩, k15⟩, k16⟩, k17⟩, k18⟩, k19⟩, k20⟩, k21⟩, k22⟩, k23⟩, P24⟩, P25⟩, k26⟩, k27⟩, k28⟩, k29⟩, k30⟩, k31⟩

abbrev wargs : Array Value := #[.int .i64 0, .int .i64 0]
set_option maxHeartbeats 20000000 in
theorem laid_met (os : Os) : laidMetH Tryd.prog Rows.capsFreeRow.laid ((W0 os).forCall (fun _ _ => 0) ⟨#[], wargs, []⟩).memory :=
  laidMetH_of_parts3 (fuel := 8) (laidMet_of_run' 8 (by as_aux_lemma => kernel_rfl) (by as_aux_lemma => kernel_rfl)) (by as_aux_lemma => kernel_rfl) (by as_aux_lemma => kernel_rfl)
theorem reads (os : Os) {H : Type} (enc : TypeId × Value → H) : ∃ places, DataW.whole enc Tryd.prog ((W0 os).forCall (fun _ _ => 0) ⟨#[], wargs, []⟩).memory Tryd.f6.params.toList Rows.capsFreeSpec.vars false wargs.toList 8 = some ([.lit (.int .i64 0), .lit (.int .i64 0)], [], places) :=
  ⟨[], by kernel_rfl⟩
theorem v1 (os : Os) : ((W0 os).forCall (fun _ _ => 0) ⟨#[], wargs, []⟩).variablesRefB Tryd.checked.prog = true := by kernel_rfl
theorem v2 (os : Os) : (((W0 os).forCall (fun _ _ => 0) ⟨#[], wargs, []⟩).heap.toList.drop Tryd.checked.prog.globals.size).take ((begin Tryd.checked.prog (fun _ _ => 0) default).world.heap.size - Tryd.checked.prog.globals.size) =
      (begin Tryd.checked.prog (fun _ _ => 0) default).world.heap.toList.drop Tryd.checked.prog.globals.size := by kernel_rfl
theorem v3 (os : Os) : Input.okWideB Tryd.checked.prog ((W0 os).forCall (fun _ _ => 0) ⟨#[], wargs, []⟩) 6 ⟨#[], wargs, []⟩ = true := by kernel_rfl
theorem v4 (_ : Os) {H : Type} (_ : TypeId × Value → H) (_ : List MemPlace) : Rows.capsFreeRow.domain.all (PathCond.test Tryd.prog ⟨Tryd.f6.params.toList, ([.lit (.int .i64 0), .lit (.int .i64 0)] : List (DataW H)), (OpenSpec.ofChange Rows.capsFreeSpec).bare.plain.varTypes Tryd.prog, []⟩) = true := by kernel_rfl
theorem v5 (os : Os) {H : Type} (enc : TypeId × Value → H) : (OpenSpec.ofChange Rows.capsFreeSpec).bare.sizedB enc Tryd.prog Tryd.f6 false ((W0 os).forCall (fun _ _ => 0) ⟨#[], wargs, []⟩).memory wargs 8 = true := by kernel_rfl
theorem named : Tryd.prog.funcNamed "pledge/pledgelaw16.CapsFree" = some 6 := by kernel_rfl
theorem inst : decide (Func.isInstance Tryd.prog Tryd.f6 Rows.capsFreeRow.origin Rows.capsFreeRow.targs) = true := by kernel_rfl
theorem noInit : Tryd.prog.inits.idxOf? 6 = none := by kernel_rfl
theorem looks : true = Tryd.pinned.checked.prog.looks [] := by kernel_rfl
theorem plain (f : FuncId) (fn : Func) (hf : Tryd.pinned.checked.prog.funcNamed "pledge/pledgelaw16.CapsFree" = some f) (hfn : Tryd.pinned.checked.prog.funcs[f]? = some fn) :
    true = Tryd.pinned.checked.prog.looks [] ∧ ∀ (j : Nat) t, fn.params[j]? = some t → Tryd.pinned.checked.prog.wantsStandIn t = false := by
  obtain rfl : f = 6 := Option.some.inj (named.symm.trans hf) |>.symm
  obtain rfl : fn = Tryd.f6 := (Option.some.inj (Tryd.func6.symm.trans hfn)).symm
  refine ⟨looks, fun j t ht => ?_⟩
  rw [Tryd.params6] at ht
  have hm : t ∈ [2] := by simpa using Array.mem_of_getElem? ht
  simp only [List.mem_cons, List.mem_nil_iff, or_false] at hm
  rcases hm with rfl
  · exact (show Tryd.prog.wantsStandIn 2 = false by kernel_rfl)
end Go.Proofs.YtljlnojelagmfaaDoor.CapsFree
