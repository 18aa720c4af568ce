/-
  The closed facts of the row of WireBack, one by one.
-/
import Derived.Test.YtgfomedobfaidaaRows
import Derived.ProofKit
set_option linter.unusedVariables false
namespace Go.Proofs.Ytgfomedobfaidaa
open Go.ChangeShapes Go.WideShapes Go.ChangeAt Go.RowKit

theorem wireBack_fact0 : (Rows.wireBackRow.wf (OpenSpec.ofChange Rows.wireBackSpec)) = true := by kernel_rfl
theorem wireBack_fact1 : (laidOutB Try.prog) = true := by kernel_rfl
theorem wireBack_fact2 : (mapsRowed Try.prog) = true := by kernel_rfl
theorem wireBack_fact3 : (Try.f6.params.all (Try.prog.readableRec ·)) = true := by kernel_rfl
theorem wireBack_fact4 : (namedTie Try.prog Rows.wireBackRow.named Rows.wireBackSpec.vars) = true := by kernel_rfl
theorem wireBack_fact5 : ((Rows.wireBackRow.stops == [])) = true := by kernel_rfl
theorem wireBack_fact6 : ((Try.prog.stops == [])) = true := by kernel_rfl
theorem wireBack_fact7 : ((Rows.wireBackRow.knobs == [])) = true := by kernel_rfl
theorem wireBack_fact8 : ((Try.prog.stopKnobs == [])) = true := by kernel_rfl
theorem wireBack_fact9 : ((Rows.wireBackRow.inPlace == Try.prog.inPlace 6)) = true := by kernel_rfl
theorem wireBack_fact10 : ((Rows.wireBackRow.unfollowed == Try.prog.unfollowed 6)) = true := by kernel_rfl
theorem wireBack_fact11 : ((Rows.wireBackRow.recurses == Try.prog.recurses 6)) = true := by kernel_rfl
theorem wireBack_fact12 : ((Rows.wireBackRow.named == Try.prog.varsNamed 6)) = true := by kernel_rfl
theorem wireBack_fact13 : ((Rows.wireBackRow.maps == (Try.f6.params.toList ++ Rows.wireBackSpec.plain.varTypes Try.prog).any (Try.prog.mapsRec ·))) = true := by kernel_rfl
theorem wireBack_fact14 : ((Rows.wireBackRow.ifaces == (Try.f6.params.toList ++ Rows.wireBackSpec.plain.varTypes Try.prog).any (Try.prog.ifacesRec ·))) = true := by kernel_rfl
theorem wireBack_fact15 : ((Rows.wireBackRow.mapsOut == Try.prog.mapsAmong Try.f6.resultTypes.toList)) = true := by kernel_rfl
theorem wireBack_fact16 : ((Rows.wireBackRow.loops == (Try.f6.params.toList ++ Rows.wireBackSpec.plain.varTypes Try.prog).any (Try.prog.loopsFrom ·))) = true := by kernel_rfl
theorem wireBack_fact17 : ((Rows.wireBackRow.wideKeys == (Try.f6.params.toList ++ Rows.wireBackSpec.plain.varTypes Try.prog ++ Try.f6.resultTypes.toList).any (Try.prog.wideKeysFrom ·))) = true := by kernel_rfl
theorem wireBack_fact18 : (Rows.wireBackSpec.vars.all (Try.prog.varReadable ·)) = true := by kernel_rfl
theorem wireBack_fact19 : (Try.f6.resultTypes.all (fun t => Try.prog.readableRec t && decide (t < Try.prog.types.size))) = true := by kernel_rfl
theorem wireBack_fact20 : ((Rows.wireBackRow.ifacesOut == Try.f6.resultTypes.toList.any (Try.prog.ifacesRec ·))) = true := by kernel_rfl
theorem wireBack_fact21 : ((Rows.wireBackRow.loopsOut == Try.f6.resultTypes.toList.any (Try.prog.loopsFrom ·))) = true := by kernel_rfl
theorem wireBack_fact22 : ((Rows.wireBackRow.plainKeys == Try.prog.plainKeys)) = true := by kernel_rfl
theorem wireBack_fact23 : (Rows.wireBackRow.shortTexts.isNone) = true := by kernel_rfl
theorem wireBack_fact24 : (Try.prog.stopsHeard) = true := by kernel_rfl
theorem wireBack_fact25 : (Try.prog.mayEnter) = true := by kernel_rfl
theorem wireBack_fact26 : ((Rows.wireBackRow.lifted == Try.prog.liftsFinal)) = true := by kernel_rfl
theorem wireBack_fact27 : ((Try.prog.make == some Rows.wireBackRow.make)) = true := by kernel_rfl
theorem wireBack_fact28 : ((Rows.wireBackRow.kinds == (if Rows.wireBackRow.domain.isEmpty then [] else Try.f6.params.toList.map fun t => match Try.prog.underlying t with | some (.int k) => some k | _ => none))) = true := by kernel_rfl
theorem wireBack_fact29 : ((Rows.wireBackRow.pinned == Rows.wireBackRow.pinnedBy)) = true := by kernel_rfl
theorem wireBack_fact30 : ((Rows.wireBackRow.veiled == (Try.f6.params.toList ++ Rows.wireBackSpec.plain.varTypes Try.prog ++ Try.f6.resultTypes.toList).any (Try.prog.veiledRec ·))) = true := by kernel_rfl
theorem wireBack_fact31 : (Rows.wireBackRow.veiledFits Try.prog Try.f6.params.toList (Try.f6.params.toList ++ Rows.wireBackSpec.plain.varTypes Try.prog ++ Try.f6.resultTypes.toList)) = true := by kernel_rfl
theorem wireBack_and {a b : Bool} (ha : a = true) (hb : b = true) : (a && b) = true := by rw [ha, hb]; rfl
theorem wireBack_named : Try.prog.funcNamed Rows.wireBackRow.func = some 6 := by kernel_rfl
theorem wireBack_wrap : Try.f6.isWrapper Try.prog Rows.wireBackRow.wrapper Rows.wireBackRow.mainSum := by unfold Func.isWrapper; first | (rw [if_pos (by decide +kernel)]; kernel_rfl) | (rw [if_neg (by decide +kernel)]; exact ⟨rfl, rfl⟩)
theorem wireBack_inst : Try.f6.isInstance Try.prog Rows.wireBackRow.origin Rows.wireBackRow.targs := of_decide_eq_true (by kernel_rfl)
end Go.Proofs.Ytgfomedobfaidaa
