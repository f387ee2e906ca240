/-
  The closed part of the row of CutPlays: the facts that the kernel reckons, a world in which the listed variables lie.
-/
import Derived.Test.YtljlnojelagmfaaDoorG1
namespace Go.Proofs.YtljlnojelagmfaaDoor.CutPlays
open Go Go.ChangeShapes Go.WideShapes Go.ChangeAt Go.RowKit
set_option maxRecDepth 100000

theorem k0 : (Rows.cutPlaysRow.wf (OpenSpec.ofChange (OpenSpec.ofChange Rows.cutPlaysSpec).bare) : Bool) = true := by kernel_rfl
theorem k3 : (Tryd.f4.params.all (Tryd.prog.readableRec ·) : Bool) = true := by kernel_rfl
theorem k4 : (namedTie Tryd.prog Rows.cutPlaysRow.named (OpenSpec.ofChange Rows.cutPlaysSpec).bare.vars : Bool) = true := by kernel_rfl
theorem k5 : ((Rows.cutPlaysRow.stops == []) : Bool) = true := by kernel_rfl
theorem k7 : ((Rows.cutPlaysRow.knobs == []) : Bool) = true := by kernel_rfl
theorem k9 : ((Rows.cutPlaysRow.inPlace == Tryd.prog.inPlace 4) : Bool) = true := by kernel_rfl
theorem k10 : ((Rows.cutPlaysRow.unfollowed == Tryd.prog.unfollowed 4) : Bool) = true := by kernel_rfl
theorem k11 : ((Rows.cutPlaysRow.recurses == Tryd.prog.recurses 4) : Bool) = true := by kernel_rfl
theorem k12 : ((Rows.cutPlaysRow.named == Tryd.prog.varsNamed 4) : Bool) = true := by kernel_rfl
theorem k13 : ((Rows.cutPlaysRow.maps == (Tryd.f4.params.toList ++ (OpenSpec.ofChange Rows.cutPlaysSpec).bare.plain.varTypes Tryd.prog).any (Tryd.prog.mapsRec ·)) : Bool) = true := by kernel_rfl
theorem k14 : ((Rows.cutPlaysRow.ifaces == (Tryd.f4.params.toList ++ (OpenSpec.ofChange Rows.cutPlaysSpec).bare.plain.varTypes Tryd.prog).any (Tryd.prog.ifacesRec ·)) : Bool) = true := by kernel_rfl
theorem k15 : ((Rows.cutPlaysRow.mapsOut == Tryd.prog.mapsAmong Tryd.f4.resultTypes.toList) : Bool) = true := by kernel_rfl
theorem k16 : ((Rows.cutPlaysRow.loops == (Tryd.f4.params.toList ++ (OpenSpec.ofChange Rows.cutPlaysSpec).bare.plain.varTypes Tryd.prog).any (Tryd.prog.loopsFrom ·)) : Bool) = true := by kernel_rfl
theorem k17 : ((Rows.cutPlaysRow.wideKeys == (Tryd.f4.params.toList ++ (OpenSpec.ofChange Rows.cutPlaysSpec).bare.plain.varTypes Tryd.prog ++ Tryd.f4.resultTypes.toList).any (Tryd.prog.wideKeysFrom ·)) : Bool) = true := by kernel_rfl
theorem k18 : ((OpenSpec.ofChange Rows.cutPlaysSpec).bare.vars.all (Tryd.prog.varReadable ·) : Bool) = true := by kernel_rfl
theorem k19 : (Tryd.f4.resultTypes.all (fun t => Tryd.prog.readableRec t && decide (t < Tryd.prog.types.size)) : Bool) = true := by kernel_rfl
theorem k20 : ((Rows.cutPlaysRow.ifacesOut == Tryd.f4.resultTypes.toList.any (Tryd.prog.ifacesRec ·)) : Bool) = true := by kernel_rfl
theorem k21 : ((Rows.cutPlaysRow.loopsOut == Tryd.f4.resultTypes.toList.any (Tryd.prog.loopsFrom ·)) : Bool) = true := by kernel_rfl
theorem k22 : ((Rows.cutPlaysRow.plainKeys == Tryd.prog.plainKeys) : Bool) = true := by kernel_rfl
theorem k23 : (Rows.cutPlaysRow.shortTexts.isNone : Bool) = true := by kernel_rfl
theorem k26 : ((Rows.cutPlaysRow.lifted == Tryd.prog.liftsFinal) : Bool) = true := by kernel_rfl
theorem k27 : ((Tryd.prog.make == some Rows.cutPlaysRow.make) : Bool) = true := by kernel_rfl
theorem k28 : ((Rows.cutPlaysRow.kinds == (if Rows.cutPlaysRow.domain.isEmpty then [] else Tryd.f4.params.toList.map fun t => match Tryd.prog.underlying t with | some (.int k) => some k | _ => none)) : Bool) = true := by kernel_rfl
theorem k29 : ((Rows.cutPlaysRow.pinned == Rows.cutPlaysRow.pinnedBy) : Bool) = true := by kernel_rfl
theorem k30 : ((Rows.cutPlaysRow.veiled == (Tryd.f4.params.toList ++ (OpenSpec.ofChange Rows.cutPlaysSpec).bare.plain.varTypes Tryd.prog ++ Tryd.f4.resultTypes.toList).any (Tryd.prog.veiledRec ·)) : Bool) = true := by kernel_rfl
theorem k31 : (Rows.cutPlaysRow.veiledFits Tryd.prog Tryd.f4.params.toList (Tryd.f4.params.toList ++ (OpenSpec.ofChange Rows.cutPlaysSpec).bare.plain.varTypes Tryd.prog ++ Tryd.f4.resultTypes.toList) : Bool) = true := by kernel_rfl
theorem closed : joinedFacts Tryd.prog 4 Tryd.f4 (OpenSpec.ofChange Rows.cutPlaysSpec).bare Rows.cutPlaysRow = true := by
  unfold joinedFacts
  simp only [Bool.and_eq_true]
  exact ⟨⟨⟨⟨⟨⟨⟨⟨⟨⟨⟨⟨⟨⟨⟨⟨⟨⟨⟨⟨⟨⟨⟨⟨⟨⟨⟨⟨⟨⟨⟨k0, P1⟩, P2⟩, k3⟩, k4⟩, k5⟩, P6⟩, k7⟩, P8⟩, k9⟩, k10⟩, k11⟩, k12⟩, k13⟩, k14⟩, k15⟩, k16⟩, k17⟩, k18⟩, k19⟩, k20⟩, k21⟩, k22⟩, k23⟩, P24⟩, P25⟩, k26⟩, k27⟩, k28⟩, k29⟩, k30⟩, k31⟩

abbrev wargs : Array Value := #[.slice none 0 0, .agg #[.int .i64 0, .int .i64 0, .int .i64 0, .int .i64 0, .int .i64 0], .int .i64 0, .int .i64 0, .int .i64 0]
set_option maxHeartbeats 20000000 in
theorem laid_met (os : Os) : laidMetH Tryd.prog Rows.cutPlaysRow.laid ((W0 os).forCall (fun _ _ => 0) ⟨#[], wargs, []⟩).memory :=
  laidMetH_of_parts3 (fuel := 8) (laidMet_of_run' 8 (by as_aux_lemma => kernel_rfl) (by as_aux_lemma => kernel_rfl)) (by as_aux_lemma => kernel_rfl) (by as_aux_lemma => kernel_rfl)
theorem reads (os : Os) {H : Type} (enc : TypeId × Value → H) : ∃ places, DataW.whole enc Tryd.prog ((W0 os).forCall (fun _ _ => 0) ⟨#[], wargs, []⟩).memory Tryd.f4.params.toList Rows.cutPlaysSpec.vars false wargs.toList 8 = some ([.nil, .agg [.lit (.int .i64 0), .lit (.int .i64 0), .lit (.int .i64 0), .lit (.int .i64 0), .lit (.int .i64 0)], .lit (.int .i64 0), .lit (.int .i64 0), .lit (.int .i64 0)], [], places) :=
  ⟨[], by kernel_rfl⟩
theorem v1 (os : Os) : ((W0 os).forCall (fun _ _ => 0) ⟨#[], wargs, []⟩).variablesRefB Tryd.checked.prog = true := by kernel_rfl
theorem v2 (os : Os) : (((W0 os).forCall (fun _ _ => 0) ⟨#[], wargs, []⟩).heap.toList.drop Tryd.checked.prog.globals.size).take ((begin Tryd.checked.prog (fun _ _ => 0) default).world.heap.size - Tryd.checked.prog.globals.size) =
      (begin Tryd.checked.prog (fun _ _ => 0) default).world.heap.toList.drop Tryd.checked.prog.globals.size := by kernel_rfl
theorem v3 (os : Os) : Input.okWideB Tryd.checked.prog ((W0 os).forCall (fun _ _ => 0) ⟨#[], wargs, []⟩) 4 ⟨#[], wargs, []⟩ = true := by kernel_rfl
theorem v4 (_ : Os) {H : Type} (_ : TypeId × Value → H) (_ : List MemPlace) : Rows.cutPlaysRow.domain.all (PathCond.test Tryd.prog ⟨Tryd.f4.params.toList, ([.nil, .agg [.lit (.int .i64 0), .lit (.int .i64 0), .lit (.int .i64 0), .lit (.int .i64 0), .lit (.int .i64 0)], .lit (.int .i64 0), .lit (.int .i64 0), .lit (.int .i64 0)] : List (DataW H)), (OpenSpec.ofChange Rows.cutPlaysSpec).bare.plain.varTypes Tryd.prog, []⟩) = true := by kernel_rfl
theorem v5 (os : Os) {H : Type} (enc : TypeId × Value → H) : (OpenSpec.ofChange Rows.cutPlaysSpec).bare.sizedB enc Tryd.prog Tryd.f4 false ((W0 os).forCall (fun _ _ => 0) ⟨#[], wargs, []⟩).memory wargs 8 = true := by kernel_rfl
theorem named : Tryd.prog.funcNamed "pledge/pledgelaw12.CutPlays" = some 4 := by kernel_rfl
theorem inst : decide (Func.isInstance Tryd.prog Tryd.f4 Rows.cutPlaysRow.origin Rows.cutPlaysRow.targs) = true := by kernel_rfl
theorem noInit : Tryd.prog.inits.idxOf? 4 = none := by kernel_rfl
theorem looks : true = Tryd.pinned.checked.prog.looks [] := by kernel_rfl
theorem plain (f : FuncId) (fn : Func) (hf : Tryd.pinned.checked.prog.funcNamed "pledge/pledgelaw12.CutPlays" = some f) (hfn : Tryd.pinned.checked.prog.funcs[f]? = some fn) :
    true = Tryd.pinned.checked.prog.looks [] ∧ ∀ (j : Nat) t, fn.params[j]? = some t → Tryd.pinned.checked.prog.wantsStandIn t = false := by
  obtain rfl : f = 4 := Option.some.inj (named.symm.trans hf) |>.symm
  obtain rfl : fn = Tryd.f4 := (Option.some.inj (Tryd.func4.symm.trans hfn)).symm
  refine ⟨looks, fun j t ht => ?_⟩
  rw [Tryd.params4] at ht
  have hm : t ∈ [40, 38, 3] := by simpa using Array.mem_of_getElem? ht
  simp only [List.mem_cons, List.mem_nil_iff, or_false] at hm
  rcases hm with rfl | rfl | rfl
  · exact (show Tryd.prog.wantsStandIn 40 = false by kernel_rfl)
  · exact (show Tryd.prog.wantsStandIn 38 = false by kernel_rfl)
  · exact (show Tryd.prog.wantsStandIn 3 = false by kernel_rfl)
end Go.Proofs.YtljlnojelagmfaaDoor.CutPlays
