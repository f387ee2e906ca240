/-
  The closed part of the row of CapsPlay: the facts that the kernel reckons, a world in which the listed variables lie.
-/
import Derived.Test.YtljlnojelagmfaaDoorG1
namespace Go.Proofs.YtljlnojelagmfaaDoor.CapsPlay
open Go Go.ChangeShapes Go.WideShapes Go.ChangeAt Go.RowKit
set_option maxRecDepth 100000

theorem k0 : (Rows.capsPlayRow.wf (OpenSpec.ofChange (OpenSpec.ofChange Rows.capsPlaySpec).bare) : Bool) = true := by kernel_rfl
theorem k3 : (Tryd.f7.params.all (Tryd.prog.readableRec ·) : Bool) = true := by kernel_rfl
theorem k4 : (namedTie Tryd.prog Rows.capsPlayRow.named (OpenSpec.ofChange Rows.capsPlaySpec).bare.vars : Bool) = true := by kernel_rfl
theorem k5 : ((Rows.capsPlayRow.stops == []) : Bool) = true := by kernel_rfl
theorem k7 : ((Rows.capsPlayRow.knobs == []) : Bool) = true := by kernel_rfl
theorem k9 : ((Rows.capsPlayRow.inPlace == Tryd.prog.inPlace 7) : Bool) = true := by kernel_rfl
theorem k10 : ((Rows.capsPlayRow.unfollowed == Tryd.prog.unfollowed 7) : Bool) = true := by kernel_rfl
theorem k11 : ((Rows.capsPlayRow.recurses == Tryd.prog.recurses 7) : Bool) = true := by kernel_rfl
theorem k12 : ((Rows.capsPlayRow.named == Tryd.prog.varsNamed 7) : Bool) = true := by kernel_rfl
theorem k13 : ((Rows.capsPlayRow.maps == (Tryd.f7.params.toList ++ (OpenSpec.ofChange Rows.capsPlaySpec).bare.plain.varTypes Tryd.prog).any (Tryd.prog.mapsRec ·)) : Bool) = true := by kernel_rfl
theorem k14 : ((Rows.capsPlayRow.ifaces == (Tryd.f7.params.toList ++ (OpenSpec.ofChange Rows.capsPlaySpec).bare.plain.varTypes Tryd.prog).any (Tryd.prog.ifacesRec ·)) : Bool) = true := by kernel_rfl
theorem k15 : ((Rows.capsPlayRow.mapsOut == Tryd.prog.mapsAmong Tryd.f7.resultTypes.toList) : Bool) = true := by kernel_rfl
theorem k16 : ((Rows.capsPlayRow.loops == (Tryd.f7.params.toList ++ (OpenSpec.ofChange Rows.capsPlaySpec).bare.plain.varTypes Tryd.prog).any (Tryd.prog.loopsFrom ·)) : Bool) = true := by kernel_rfl
theorem k17 : ((Rows.capsPlayRow.wideKeys == (Tryd.f7.params.toList ++ (OpenSpec.ofChange Rows.capsPlaySpec).bare.plain.varTypes Tryd.prog ++ Tryd.f7.resultTypes.toList).any (Tryd.prog.wideKeysFrom ·)) : Bool) = true := by kernel_rfl
theorem k18 : ((OpenSpec.ofChange Rows.capsPlaySpec).bare.vars.all (Tryd.prog.varReadable ·) : Bool) = true := by kernel_rfl
theorem k19 : (Tryd.f7.resultTypes.all (fun t => Tryd.prog.readableRec t && decide (t < Tryd.prog.types.size)) : Bool) = true := by kernel_rfl
theorem k20 : ((Rows.capsPlayRow.ifacesOut == Tryd.f7.resultTypes.toList.any (Tryd.prog.ifacesRec ·)) : Bool) = true := by kernel_rfl
theorem k21 : ((Rows.capsPlayRow.loopsOut == Tryd.f7.resultTypes.toList.any (Tryd.prog.loopsFrom ·)) : Bool) = true := by kernel_rfl
theorem k22 : ((Rows.capsPlayRow.plainKeys == Tryd.prog.plainKeys) : Bool) = true := by kernel_rfl
theorem k23 : (Rows.capsPlayRow.shortTexts.isNone : Bool) = true := by kernel_rfl
theorem k26 : ((Rows.capsPlayRow.lifted == Tryd.prog.liftsFinal) : Bool) = true := by kernel_rfl
theorem k27 : ((Tryd.prog.make == some Rows.capsPlayRow.make) : Bool) = true := by kernel_rfl
theorem k28 : ((Rows.capsPlayRow.kinds == (if Rows.capsPlayRow.domain.isEmpty then [] else Tryd.f7.params.toList.map fun t => match Tryd.prog.underlying t with | some (.int k) => some k | _ => none)) : Bool) = true := by kernel_rfl
theorem k29 : ((Rows.capsPlayRow.pinned == Rows.capsPlayRow.pinnedBy) : Bool) = true := by kernel_rfl
theorem k30 : ((Rows.capsPlayRow.veiled == (Tryd.f7.params.toList ++ (OpenSpec.ofChange Rows.capsPlaySpec).bare.plain.varTypes Tryd.prog ++ Tryd.f7.resultTypes.toList).any (Tryd.prog.veiledRec ·)) : Bool) = true := by kernel_rfl
theorem k31 : (Rows.capsPlayRow.veiledFits Tryd.prog Tryd.f7.params.toList (Tryd.f7.params.toList ++ (OpenSpec.ofChange Rows.capsPlaySpec).bare.plain.varTypes Tryd.prog ++ Tryd.f7.resultTypes.toList) : Bool) = true := by kernel_rfl
theorem closed : joinedFacts Tryd.prog 7 Tryd.f7 (OpenSpec.ofChange Rows.capsPlaySpec).bare Rows.capsPlayRow = true := by
  unfold joinedFacts
  simp only [Bool.and_eq_true]
  exact ⟨⟨⟨⟨⟨⟨⟨⟨⟨⟨⟨⟨⟨⟨⟨⟨⟨⟨⟨⟨⟨⟨⟨⟨⟨⟨⟨⟨⟨⟨⟨k0, P1⟩, P2⟩, k3⟩, k4⟩, k5⟩, P6⟩, k7⟩, P8⟩, k9⟩, k10⟩, k11⟩, k12⟩, k13⟩, k14⟩, k15⟩, k16⟩, k17⟩, k18⟩, k19⟩, k20⟩, k21⟩, k22⟩, k23⟩, P24⟩, P25⟩, k26⟩, k27⟩, k28⟩, k29⟩, k30⟩, k31⟩

abbrev wargs : Array Value := #[.slice none 0 0, .slice none 0 0, .agg #[.int .i64 0, .int .i64 0]]
set_option maxHeartbeats 20000000 in
theorem laid_met (os : Os) : laidMetH Tryd.prog Rows.capsPlayRow.laid ((W0 os).forCall (fun _ _ => 0) ⟨#[], wargs, []⟩).memory :=
  laidMetH_of_parts3 (fuel := 8) (laidMet_of_run' 8 (by as_aux_lemma => kernel_rfl) (by as_aux_lemma => kernel_rfl)) (by as_aux_lemma => kernel_rfl) (by as_aux_lemma => kernel_rfl)
theorem reads (os : Os) {H : Type} (enc : TypeId × Value → H) : ∃ places, DataW.whole enc Tryd.prog ((W0 os).forCall (fun _ _ => 0) ⟨#[], wargs, []⟩).memory Tryd.f7.params.toList Rows.capsPlaySpec.vars false wargs.toList 8 = some ([.nil, .nil, .agg [.lit (.int .i64 0), .lit (.int .i64 0)]], [], places) :=
  ⟨[], by kernel_rfl⟩
theorem v1 (os : Os) : ((W0 os).forCall (fun _ _ => 0) ⟨#[], wargs, []⟩).variablesRefB Tryd.checked.prog = true := by kernel_rfl
theorem v2 (os : Os) : (((W0 os).forCall (fun _ _ => 0) ⟨#[], wargs, []⟩).heap.toList.drop Tryd.checked.prog.globals.size).take ((begin Tryd.checked.prog (fun _ _ => 0) default).world.heap.size - Tryd.checked.prog.globals.size) =
      (begin Tryd.checked.prog (fun _ _ => 0) default).world.heap.toList.drop Tryd.checked.prog.globals.size := by kernel_rfl
theorem v3 (os : Os) : Input.okWideB Tryd.checked.prog ((W0 os).forCall (fun _ _ => 0) ⟨#[], wargs, []⟩) 7 ⟨#[], wargs, []⟩ = true := by kernel_rfl
theorem v4 (_ : Os) {H : Type} (_ : TypeId × Value → H) (_ : List MemPlace) : Rows.capsPlayRow.domain.all (PathCond.test Tryd.prog ⟨Tryd.f7.params.toList, ([.nil, .nil, .agg [.lit (.int .i64 0), .lit (.int .i64 0)]] : List (DataW H)), (OpenSpec.ofChange Rows.capsPlaySpec).bare.plain.varTypes Tryd.prog, []⟩) = true := by kernel_rfl
theorem v5 (os : Os) {H : Type} (enc : TypeId × Value → H) : (OpenSpec.ofChange Rows.capsPlaySpec).bare.sizedB enc Tryd.prog Tryd.f7 false ((W0 os).forCall (fun _ _ => 0) ⟨#[], wargs, []⟩).memory wargs 8 = true := by kernel_rfl
theorem named : Tryd.prog.funcNamed "pledge/pledgelaw16.CapsPlay" = some 7 := by kernel_rfl
theorem inst : decide (Func.isInstance Tryd.prog Tryd.f7 Rows.capsPlayRow.origin Rows.capsPlayRow.targs) = true := by kernel_rfl
theorem noInit : Tryd.prog.inits.idxOf? 7 = none := by kernel_rfl
theorem looks : true = Tryd.pinned.checked.prog.looks [] := by kernel_rfl
theorem plain (f : FuncId) (fn : Func) (hf : Tryd.pinned.checked.prog.funcNamed "pledge/pledgelaw16.CapsPlay" = some f) (hfn : Tryd.pinned.checked.prog.funcs[f]? = some fn) :
    true = Tryd.pinned.checked.prog.looks [] ∧ ∀ (j : Nat) t, fn.params[j]? = some t → Tryd.pinned.checked.prog.wantsStandIn t = false := by
  obtain rfl : f = 7 := Option.some.inj (named.symm.trans hf) |>.symm
  obtain rfl : fn = Tryd.f7 := (Option.some.inj (Tryd.func7.symm.trans hfn)).symm
  refine ⟨looks, fun j t ht => ?_⟩
  rw [Tryd.params7] at ht
  have hm : t ∈ [96, 97, 89] := by simpa using Array.mem_of_getElem? ht
  simp only [List.mem_cons, List.mem_nil_iff, or_false] at hm
  rcases hm with rfl | rfl | rfl
  · exact (show Tryd.prog.wantsStandIn 96 = false by kernel_rfl)
  · exact (show Tryd.prog.wantsStandIn 97 = false by kernel_rfl)
  · exact (show Tryd.prog.wantsStandIn 89 = false by kernel_rfl)
end Go.Proofs.YtljlnojelagmfaaDoor.CapsPlay
