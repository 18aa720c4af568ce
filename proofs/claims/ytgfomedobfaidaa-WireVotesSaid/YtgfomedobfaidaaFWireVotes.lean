/-
  The closed facts of the row of WireVotes, one by one.
-/
import Derived.Test.YtgfomedobfaidaaRows
import Derived.ProofKit
set_option linter.unusedVariables false
namespace Go.Proofs.Ytgfomedobfaidaa
open Go.ChangeShapes Go.WideShapes Go.ChangeAt Go.RowKit

theorem wireVotes_fact0 : (Rows.wireVotesRow.wf (OpenSpec.ofChange Rows.wireVotesSpec)) = true := by kernel_rfl
theorem wireVotes_fact1 : (laidOutB Try.prog) = true := by kernel_rfl
theorem wireVotes_fact2 : (mapsRowed Try.prog) = true := by kernel_rfl
theorem wireVotes_fact3 : (Try.f3.params.all (Try.prog.readableRec ·)) = true := by kernel_rfl
theorem wireVotes_fact4 : (namedTie Try.prog Rows.wireVotesRow.named Rows.wireVotesSpec.vars) = true := by kernel_rfl
theorem wireVotes_fact5 : ((Rows.wireVotesRow.stops == [])) = true := by kernel_rfl
theorem wireVotes_fact6 : ((Try.prog.stops == [])) = true := by kernel_rfl
theorem wireVotes_fact7 : ((Rows.wireVotesRow.knobs == [])) = true := by kernel_rfl
theorem wireVotes_fact8 : ((Try.prog.stopKnobs == [])) = true := by kernel_rfl
theorem wireVotes_fact9 : ((Rows.wireVotesRow.inPlace == Try.prog.inPlace 3)) = true := by kernel_rfl
theorem wireVotes_fact10 : ((Rows.wireVotesRow.unfollowed == Try.prog.unfollowed 3)) = true := by kernel_rfl
theorem wireVotes_fact11 : ((Rows.wireVotesRow.recurses == Try.prog.recurses 3)) = true := by kernel_rfl
theorem wireVotes_fact12 : ((Rows.wireVotesRow.named == Try.prog.varsNamed 3)) = true := by kernel_rfl
theorem wireVotes_fact13 : ((Rows.wireVotesRow.maps == (Try.f3.params.toList ++ Rows.wireVotesSpec.plain.varTypes Try.prog).any (Try.prog.mapsRec ·))) = true := by kernel_rfl
theorem wireVotes_fact14 : ((Rows.wireVotesRow.ifaces == (Try.f3.params.toList ++ Rows.wireVotesSpec.plain.varTypes Try.prog).any (Try.prog.ifacesRec ·))) = true := by kernel_rfl
theorem wireVotes_fact15 : ((Rows.wireVotesRow.mapsOut == Try.prog.mapsAmong Try.f3.resultTypes.toList)) = true := by kernel_rfl
theorem wireVotes_fact16 : ((Rows.wireVotesRow.loops == (Try.f3.params.toList ++ Rows.wireVotesSpec.plain.varTypes Try.prog).any (Try.prog.loopsFrom ·))) = true := by kernel_rfl
theorem wireVotes_fact17 : ((Rows.wireVotesRow.wideKeys == (Try.f3.params.toList ++ Rows.wireVotesSpec.plain.varTypes Try.prog ++ Try.f3.resultTypes.toList).any (Try.prog.wideKeysFrom ·))) = true := by kernel_rfl
theorem wireVotes_fact18 : (Rows.wireVotesSpec.vars.all (Try.prog.varReadable ·)) = true := by kernel_rfl
theorem wireVotes_fact19 : (Try.f3.resultTypes.all (fun t => Try.prog.readableRec t && decide (t < Try.prog.types.size))) = true := by kernel_rfl
theorem wireVotes_fact20 : ((Rows.wireVotesRow.ifacesOut == Try.f3.resultTypes.toList.any (Try.prog.ifacesRec ·))) = true := by kernel_rfl
theorem wireVotes_fact21 : ((Rows.wireVotesRow.loopsOut == Try.f3.resultTypes.toList.any (Try.prog.loopsFrom ·))) = true := by kernel_rfl
theorem wireVotes_fact22 : ((Rows.wireVotesRow.plainKeys == Try.prog.plainKeys)) = true := by kernel_rfl
theorem wireVotes_fact23 : (Rows.wireVotesRow.shortTexts.isNone) = true := by kernel_rfl
theorem wireVotes_fact24 : (Try.prog.stopsHeard) = true := by kernel_rfl
theorem wireVotes_fact25 : (Try.prog.mayEnter) = true := by kernel_rfl
theorem wireVotes_fact26 : ((Rows.wireVotesRow.lifted == Try.prog.liftsFinal)) = true := by kernel_rfl
theorem wireVotes_fact27 : ((Try.prog.make == some Rows.wireVotesRow.make)) = true := by kernel_rfl
theorem wireVotes_fact28 : ((Rows.wireVotesRow.kinds == (if Rows.wireVotesRow.domain.isEmpty then [] else Try.f3.params.toList.map fun t => match Try.prog.underlying t with | some (.int k) => some k | _ => none))) = true := by kernel_rfl
theorem wireVotes_fact29 : ((Rows.wireVotesRow.pinned == Rows.wireVotesRow.pinnedBy)) = true := by kernel_rfl
theorem wireVotes_fact30 : ((Rows.wireVotesRow.veiled == (Try.f3.params.toList ++ Rows.wireVotesSpec.plain.varTypes Try.prog ++ Try.f3.resultTypes.toList).any (Try.prog.veiledRec ·))) = true := by kernel_rfl
theorem wireVotes_fact31 : (Rows.wireVotesRow.veiledFits Try.prog Try.f3.params.toList (Try.f3.params.toList ++ Rows.wireVotesSpec.plain.varTypes Try.prog ++ Try.f3.resultTypes.toList)) = true := by kernel_rfl
theorem wireVotes_and {a b : Bool} (ha : a = true) (hb : b = true) : (a && b) = true := by rw [ha, hb]; rfl
theorem wireVotes_named : Try.prog.funcNamed Rows.wireVotesRow.func = some 3 := by kernel_rfl
theorem wireVotes_wrap : Try.f3.isWrapper Try.prog Rows.wireVotesRow.wrapper Rows.wireVotesRow.mainSum := by unfold Func.isWrapper; first | (rw [if_pos (by decide +kernel)]; kernel_rfl) | (rw [if_neg (by decide +kernel)]; exact ⟨rfl, rfl⟩)
theorem wireVotes_inst : Try.f3.isInstance Try.prog Rows.wireVotesRow.origin Rows.wireVotesRow.targs := of_decide_eq_true (by kernel_rfl)
end Go.Proofs.Ytgfomedobfaidaa
