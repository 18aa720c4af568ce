/-
  Arguments that are rows of rows of bytes, opened.
-/
import Derived.Test.YtgfomedobfaidaaOpen
import Derived.Test.YtgfomedobfaidaaEntry
import Derived.Deep.Slices
set_option linter.unusedVariables false
set_option linter.unusedSimpArgs false
namespace Go.Proofs.Ytgfomedobfaidaa
open Go.ChangeShapes Go.WideShapes Go.ChangeAt Go.RowKit Go.Deep

section
variable {H : Type} {enc : TypeId × Value → H} {P : Program} {w : World}
theorem cells_of_spot {a : Addr} {v : Value} (h : w.cell? a = some v) (hs : a.spot = none) : ∃ arr t fr, w.heap[a.block]? = some (.cells arr t fr) := by
  obtain ⟨b, o, s⟩ := a
  obtain rfl : s = none := hs
  unfold World.cell? at h
  dsimp only at h
  cases hq : w.heap[b]? with
  | none => rw [hq] at h; cases h
  | some ob =>
    cases ob with
    | cells arr t' fr => exact ⟨arr, t', fr, rfl⟩
    | _ => rw [hq] at h; cases h
theorem open_rowsV {t e1 e : TypeId} {c : Value} {n : Nat} {y : DataW H × List MemPlace} (ht : P.underlying t = some (.slice e1)) (hc1 : P.cellsOf e1 = 1) (ht1 : P.underlying e1 = some (.slice e)) (he : P.underlying e = some (.int .u8)) (hc : P.cellsOf e = 1)
    (h : DataW.trod enc P w 0 (fun _ => true) true n t [c] = some y) : ∃ L, RowsV L lab0 w c := by
  rcases open_slice1 ht hc1 h with ⟨hcs, _⟩ | ⟨a, len, cap, m, n', V, D, Pl, hcs, _, hl, hm, hmm, _, hx⟩
  · simp at hcs; subst hcs
    exact ⟨[], RowsV.nil _ _⟩
  · simp at hcs; subst hcs
    simp only [if_true] at hmm
    subst hmm
    have hV : ∀ i, ∃ bs, i < len → BytesV bs lab0 w (V i) := fun i => by
      by_cases hi : i < len
      · obtain ⟨bs, hb⟩ := open_bytesV ht1 he hc (hx i (by omega)).2
        exact ⟨bs, fun _ => hb⟩
      · exact ⟨[], fun h => absurd h hi⟩
    refine ⟨(List.range len).map fun i => Classical.choose (hV i), some a, m, (List.range len).map V, by simp, by simp; omega, by unfold maxLen at hm; omega, by simp, ?_, fun i bs hi => ?_⟩
    · by_cases h0 : len = 0
      · subst h0; simp; exact RowAt.nil
      · obtain ⟨b, o, s⟩ := a
        obtain rfl : s = none := by simpa [Addr.add] using World.cell?_spot (hx 0 (by omega)).1
        have h1 := (hx 0 (by omega)).1
        rw [add_flat] at h1
        obtain ⟨arr, t', fr, hb⟩ := cells_of_spot h1 rfl
        refine .inr ⟨b, o, arr, t', fr, rfl, rfl, hb, fun j v hj => ?_⟩
        rw [List.getElem?_map, Option.map_eq_some_iff] at hj
        obtain ⟨i, hi, rfl⟩ := hj
        have hjl : j < len := by simpa using (List.getElem?_eq_some_iff.1 hi).1
        have : i = j := by simpa [hjl] using hi.symm
        subst this
        have h2 := (hx i (by omega)).1
        rwa [add_flat, cell_of_row w b _ arr t' fr hb] at h2
    · rw [List.getElem?_map, Option.map_eq_some_iff] at hi
      obtain ⟨j, hj, rfl⟩ := hi
      have hjl : i < len := by simpa using (List.getElem?_eq_some_iff.1 hj).1
      have : j = i := by simpa [hjl] using hj.symm
      subst this
      exact ⟨V j, by simp [hjl], Classical.choose_spec (hV j) hjl⟩
end
end Go.Proofs.Ytgfomedobfaidaa
