/-
  Plain laws of rows of words: trimming, sums.
-/
import Derived.Test.YtgfomedobfaidaaRow
namespace Go.Proofs.Ytgfomedobfaidaa

/-- Without noughts at the end. -/
theorem wv_append (a b : List UInt32) : wv (a ++ b) = wv a + 4294967296 ^ a.length * wv b := by
  induction a with
  | nil => simp [wv]
  | cons x r ih =>
    simp only [List.cons_append, wv, ih, List.length_cons, Nat.pow_succ, Nat.mul_add]
    rw [Nat.mul_comm (4294967296 ^ r.length) 4294967296, Nat.mul_assoc]
    omega
theorem wv_take_zero {ws : List UInt32} {k : Nat} (hk : k < ws.length) (h0 : ws.getD k 0 = 0) : wv (ws.take (k + 1)) = wv (ws.take k) := by
  have e : ws.take (k + 1) = ws.take k ++ [ws.getD k 0] := by
    rw [List.take_succ_eq_append_getElem hk]; simp [List.getD, List.getElem?_eq_getElem hk]
  rw [e, wv_append, h0]
  simp [wv]
theorem take_limbs {ws : List UInt32} {k : Nat} (hk : k ≤ ws.length) (h : k = 0 ∨ ws.getD (k - 1) 0 ≠ 0) : ws.take k = limbs (wv (ws.take k)) := by
  refine (limbs_wv ?_).symm
  intro a ha
  rcases h with h | h
  · subst h; simp at ha
  · by_cases h0 : k = 0
    · subst h0; simp at ha
    · have e : (ws.take k).getLast? = some (ws.getD (k - 1) 0) := by
        rw [List.getLast?_eq_getElem?, List.length_take, show min k ws.length = k by omega, List.getElem?_take_of_lt (by omega)]
        simp [List.getD, List.getElem?_eq_getElem (show k - 1 < ws.length by omega)]
      rw [e] at ha
      cases ha
      exact h
end Go.Proofs.Ytgfomedobfaidaa
