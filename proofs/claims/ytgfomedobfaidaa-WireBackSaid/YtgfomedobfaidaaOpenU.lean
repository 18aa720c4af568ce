/-
  Opening the arguments of a row: unsigned numbers.
-/
import Derived.Test.YtgfomedobfaidaaOpenR
import Derived.Test.YtgfomedobfaidaaNsf
set_option linter.unusedVariables false
set_option linter.unusedSimpArgs false
namespace Go.Proofs.Ytgfomedobfaidaa
open Go.ChangeShapes Go.WideShapes Go.ChangeAt Go.RowKit

section
variable {H : Type} {enc : TypeId × Value → H} {P : Program} {w : World} {base : Nat} {spare : Nat → Bool} {held : Bool}
theorem open_u64 {t : TypeId} {c : Value} {n : Nat} {y : DataW H × List MemPlace} (ht : P.underlying t = some (.int .u64)) (h : DataW.trod enc P w base spare held n t [c] = some y) : ∃ x : Nat, c = n64 x ∧ x < 18446744073709551616 := by
  obtain ⟨x, hx, _, hw⟩ := DataW.trod_int ht h
  simp at hx
  have h1 : IntKind.u64.min = 0 := rfl
  have h2 : IntKind.u64.max = 18446744073709551615 := rfl
  simp only [Lit.wf, Bool.and_eq_true, decide_eq_true_eq] at hw
  exact ⟨x.toNat, by rw [hx]; show Value.int .u64 x = Value.int .u64 ((x.toNat : Nat) : Int); rw [Int.toNat_of_nonneg (by omega)], by omega⟩
theorem open_u8 {t : TypeId} {c : Value} {n : Nat} {y : DataW H × List MemPlace} (ht : P.underlying t = some (.int .u8)) (h : DataW.trod enc P w base spare held n t [c] = some y) : ∃ x : UInt8, c = u8 x := by
  obtain ⟨x, hx, _, hw⟩ := DataW.trod_int ht h
  simp at hx
  have h1 : IntKind.u8.min = 0 := rfl
  have h2 : IntKind.u8.max = 255 := rfl
  simp only [Lit.wf, Bool.and_eq_true, decide_eq_true_eq] at hw
  exact ⟨UInt8.ofNat x.toNat, by rw [hx]; show Value.int .u8 x = Value.int .u8 (((UInt8.ofNat x.toNat).toNat : Nat) : Int); simp; omega⟩
end
end Go.Proofs.Ytgfomedobfaidaa
