/-
  The closed facts of the row of WireEntries, one by one.
-/
import Derived.Test.YtgfomedobfaidaaRows
import Derived.ProofKit
set_option linter.unusedVariables false
namespace Go.Proofs.Ytgfomedobfaidaa
open Go.ChangeShapes Go.WideShapes Go.ChangeAt Go.RowKit

theorem wireEntries_fact0 : (Rows.wireEntriesRow.wf (OpenSpec.ofChange Rows.wireEntriesSpec)) = true := by kernel_rfl
theorem wireEntries_fact1 : (laidOutB Try.prog) = true := by kernel_rfl
theorem wireEntries_fact2 : (mapsRowed Try.prog) = true := by kernel_rfl
theorem wireEntries_fact3 : (Try.f4.params.all (Try.prog.readableRec ·)) = true := by kernel_rfl
theorem wireEntries_fact4 : (namedTie Try.prog Rows.wireEntriesRow.named Rows.wireEntriesSpec.vars) = true := by kernel_rfl
theorem wireEntries_fact5 : ((Rows.wireEntriesRow.stops == [])) = true := by kernel_rfl
theorem wireEntries_fact6 : ((Try.prog.stops == [])) = true := by kernel_rfl
theorem wireEntries_fact7 : ((Rows.wireEntriesRow.knobs == [])) = true := by kernel_rfl
theorem wireEntries_fact8 : ((Try.prog.stopKnobs == [])) = true := by kernel_rfl
theorem wireEntries_fact9 : ((Rows.wireEntriesRow.inPlace == Try.prog.inPlace 4)) = true := by kernel_rfl
theorem wireEntries_fact10 : ((Rows.wireEntriesRow.unfollowed == Try.prog.unfollowed 4)) = true := by kernel_rfl
theorem wireEntries_fact11 : ((Rows.wireEntriesRow.recurses == Try.prog.recurses 4)) = true := by kernel_rfl
theorem wireEntries_fact12 : ((Rows.wireEntriesRow.named == Try.prog.varsNamed 4)) = true := by kernel_rfl
theorem wireEntries_fact13 : ((Rows.wireEntriesRow.maps == (Try.f4.params.toList ++ Rows.wireEntriesSpec.plain.varTypes Try.prog).any (Try.prog.mapsRec ·))) = true := by kernel_rfl
theorem wireEntries_fact14 : ((Rows.wireEntriesRow.ifaces == (Try.f4.params.toList ++ Rows.wireEntriesSpec.plain.varTypes Try.prog).any (Try.prog.ifacesRec ·))) = true := by kernel_rfl
theorem wireEntries_fact15 : ((Rows.wireEntriesRow.mapsOut == Try.prog.mapsAmong Try.f4.resultTypes.toList)) = true := by kernel_rfl
theorem wireEntries_fact16 : ((Rows.wireEntriesRow.loops == (Try.f4.params.toList ++ Rows.wireEntriesSpec.plain.varTypes Try.prog).any (Try.prog.loopsFrom ·))) = true := by kernel_rfl
theorem wireEntries_fact17 : ((Rows.wireEntriesRow.wideKeys == (Try.f4.params.toList ++ Rows.wireEntriesSpec.plain.varTypes Try.prog ++ Try.f4.resultTypes.toList).any (Try.prog.wideKeysFrom ·))) = true := by kernel_rfl
theorem wireEntries_fact18 : (Rows.wireEntriesSpec.vars.all (Try.prog.varReadable ·)) = true := by kernel_rfl
theorem wireEntries_fact19 : (Try.f4.resultTypes.all (fun t => Try.prog.readableRec t && decide (t < Try.prog.types.size))) = true := by kernel_rfl
theorem wireEntries_fact20 : ((Rows.wireEntriesRow.ifacesOut == Try.f4.resultTypes.toList.any (Try.prog.ifacesRec ·))) = true := by kernel_rfl
theorem wireEntries_fact21 : ((Rows.wireEntriesRow.loopsOut == Try.f4.resultTypes.toList.any (Try.prog.loopsFrom ·))) = true := by kernel_rfl
theorem wireEntries_fact22 : ((Rows.wireEntriesRow.plainKeys == Try.prog.plainKeys)) = true := by kernel_rfl
theorem wireEntries_fact23 : (Rows.wireEntriesRow.shortTexts.isNone) = true := by kernel_rfl
theorem wireEntries_fact24 : (Try.prog.stopsHeard) = true := by kernel_rfl
theorem wireEntries_fact25 : (Try.prog.mayEnter) = true := by kernel_rfl
theorem wireEntries_fact26 : ((Rows.wireEntriesRow.lifted == Try.prog.liftsFinal)) = true := by kernel_rfl
theorem wireEntries_fact27 : ((Try.prog.make == some Rows.wireEntriesRow.make)) = true := by kernel_rfl
theorem wireEntries_fact28 : ((Rows.wireEntriesRow.kinds == (if Rows.wireEntriesRow.domain.isEmpty then [] else Try.f4.params.toList.map fun t => match Try.prog.underlying t with | some (.int k) => some k | _ => none))) = true := by kernel_rfl
theorem wireEntries_fact29 : ((Rows.wireEntriesRow.pinned == Rows.wireEntriesRow.pinnedBy)) = true := by kernel_rfl
theorem wireEntries_fact30 : ((Rows.wireEntriesRow.veiled == (Try.f4.params.toList ++ Rows.wireEntriesSpec.plain.varTypes Try.prog ++ Try.f4.resultTypes.toList).any (Try.prog.veiledRec ·))) = true := by kernel_rfl
theorem wireEntries_fact31 : (Rows.wireEntriesRow.veiledFits Try.prog Try.f4.params.toList (Try.f4.params.toList ++ Rows.wireEntriesSpec.plain.varTypes Try.prog ++ Try.f4.resultTypes.toList)) = true := by kernel_rfl
theorem wireEntries_and {a b : Bool} (ha : a = true) (hb : b = true) : (a && b) = true := by rw [ha, hb]; rfl
theorem wireEntries_named : Try.prog.funcNamed Rows.wireEntriesRow.func = some 4 := by kernel_rfl
theorem wireEntries_wrap : Try.f4.isWrapper Try.prog Rows.wireEntriesRow.wrapper Rows.wireEntriesRow.mainSum := by unfold Func.isWrapper; first | (rw [if_pos (by decide +kernel)]; kernel_rfl) | (rw [if_neg (by decide +kernel)]; exact ⟨rfl, rfl⟩)
theorem wireEntries_inst : Try.f4.isInstance Try.prog Rows.wireEntriesRow.origin Rows.wireEntriesRow.targs := of_decide_eq_true (by kernel_rfl)
end Go.Proofs.Ytgfomedobfaidaa
