/-
  The closed facts of the row of WireCuts, one by one.
-/
import Derived.Test.YtgfomedobfaidaaRows
import Derived.ProofKit
set_option linter.unusedVariables false
namespace Go.Proofs.Ytgfomedobfaidaa
open Go.ChangeShapes Go.WideShapes Go.ChangeAt Go.RowKit

theorem wireCuts_fact0 : (Rows.wireCutsRow.wf (OpenSpec.ofChange Rows.wireCutsSpec)) = true := by kernel_rfl
theorem wireCuts_fact1 : (laidOutB Try.prog) = true := by kernel_rfl
theorem wireCuts_fact2 : (mapsRowed Try.prog) = true := by kernel_rfl
theorem wireCuts_fact3 : (Try.f5.params.all (Try.prog.readableRec ·)) = true := by kernel_rfl
theorem wireCuts_fact4 : (namedTie Try.prog Rows.wireCutsRow.named Rows.wireCutsSpec.vars) = true := by kernel_rfl
theorem wireCuts_fact5 : ((Rows.wireCutsRow.stops == [])) = true := by kernel_rfl
theorem wireCuts_fact6 : ((Try.prog.stops == [])) = true := by kernel_rfl
theorem wireCuts_fact7 : ((Rows.wireCutsRow.knobs == [])) = true := by kernel_rfl
theorem wireCuts_fact8 : ((Try.prog.stopKnobs == [])) = true := by kernel_rfl
theorem wireCuts_fact9 : ((Rows.wireCutsRow.inPlace == Try.prog.inPlace 5)) = true := by kernel_rfl
theorem wireCuts_fact10 : ((Rows.wireCutsRow.unfollowed == Try.prog.unfollowed 5)) = true := by kernel_rfl
theorem wireCuts_fact11 : ((Rows.wireCutsRow.recurses == Try.prog.recurses 5)) = true := by kernel_rfl
theorem wireCuts_fact12 : ((Rows.wireCutsRow.named == Try.prog.varsNamed 5)) = true := by kernel_rfl
theorem wireCuts_fact13 : ((Rows.wireCutsRow.maps == (Try.f5.params.toList ++ Rows.wireCutsSpec.plain.varTypes Try.prog).any (Try.prog.mapsRec ·))) = true := by kernel_rfl
theorem wireCuts_fact14 : ((Rows.wireCutsRow.ifaces == (Try.f5.params.toList ++ Rows.wireCutsSpec.plain.varTypes Try.prog).any (Try.prog.ifacesRec ·))) = true := by kernel_rfl
theorem wireCuts_fact15 : ((Rows.wireCutsRow.mapsOut == Try.prog.mapsAmong Try.f5.resultTypes.toList)) = true := by kernel_rfl
theorem wireCuts_fact16 : ((Rows.wireCutsRow.loops == (Try.f5.params.toList ++ Rows.wireCutsSpec.plain.varTypes Try.prog).any (Try.prog.loopsFrom ·))) = true := by kernel_rfl
theorem wireCuts_fact17 : ((Rows.wireCutsRow.wideKeys == (Try.f5.params.toList ++ Rows.wireCutsSpec.plain.varTypes Try.prog ++ Try.f5.resultTypes.toList).any (Try.prog.wideKeysFrom ·))) = true := by kernel_rfl
theorem wireCuts_fact18 : (Rows.wireCutsSpec.vars.all (Try.prog.varReadable ·)) = true := by kernel_rfl
theorem wireCuts_fact19 : (Try.f5.resultTypes.all (fun t => Try.prog.readableRec t && decide (t < Try.prog.types.size))) = true := by kernel_rfl
theorem wireCuts_fact20 : ((Rows.wireCutsRow.ifacesOut == Try.f5.resultTypes.toList.any (Try.prog.ifacesRec ·))) = true := by kernel_rfl
theorem wireCuts_fact21 : ((Rows.wireCutsRow.loopsOut == Try.f5.resultTypes.toList.any (Try.prog.loopsFrom ·))) = true := by kernel_rfl
theorem wireCuts_fact22 : ((Rows.wireCutsRow.plainKeys == Try.prog.plainKeys)) = true := by kernel_rfl
theorem wireCuts_fact23 : (Rows.wireCutsRow.shortTexts.isNone) = true := by kernel_rfl
theorem wireCuts_fact24 : (Try.prog.stopsHeard) = true := by kernel_rfl
theorem wireCuts_fact25 : (Try.prog.mayEnter) = true := by kernel_rfl
theorem wireCuts_fact26 : ((Rows.wireCutsRow.lifted == Try.prog.liftsFinal)) = true := by kernel_rfl
theorem wireCuts_fact27 : ((Try.prog.make == some Rows.wireCutsRow.make)) = true := by kernel_rfl
theorem wireCuts_fact28 : ((Rows.wireCutsRow.kinds == (if Rows.wireCutsRow.domain.isEmpty then [] else Try.f5.params.toList.map fun t => match Try.prog.underlying t with | some (.int k) => some k | _ => none))) = true := by kernel_rfl
theorem wireCuts_fact29 : ((Rows.wireCutsRow.pinned == Rows.wireCutsRow.pinnedBy)) = true := by kernel_rfl
theorem wireCuts_fact30 : ((Rows.wireCutsRow.veiled == (Try.f5.params.toList ++ Rows.wireCutsSpec.plain.varTypes Try.prog ++ Try.f5.resultTypes.toList).any (Try.prog.veiledRec ·))) = true := by kernel_rfl
theorem wireCuts_fact31 : (Rows.wireCutsRow.veiledFits Try.prog Try.f5.params.toList (Try.f5.params.toList ++ Rows.wireCutsSpec.plain.varTypes Try.prog ++ Try.f5.resultTypes.toList)) = true := by kernel_rfl
theorem wireCuts_and {a b : Bool} (ha : a = true) (hb : b = true) : (a && b) = true := by rw [ha, hb]; rfl
theorem wireCuts_named : Try.prog.funcNamed Rows.wireCutsRow.func = some 5 := by kernel_rfl
theorem wireCuts_wrap : Try.f5.isWrapper Try.prog Rows.wireCutsRow.wrapper Rows.wireCutsRow.mainSum := by unfold Func.isWrapper; first | (rw [if_pos (by decide +kernel)]; kernel_rfl) | (rw [if_neg (by decide +kernel)]; exact ⟨rfl, rfl⟩)
theorem wireCuts_inst : Try.f5.isInstance Try.prog Rows.wireCutsRow.origin Rows.wireCutsRow.targs := of_decide_eq_true (by kernel_rfl)
end Go.Proofs.Ytgfomedobfaidaa
