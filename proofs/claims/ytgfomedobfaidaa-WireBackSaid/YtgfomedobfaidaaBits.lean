/-
  Plain laws of numbers: how many bits, which bytes.
-/
import Derived.Test.YtgfomedobfaidaaNat
namespace Go.Proofs.Ytgfomedobfaidaa

/-! ### bits of a number -/
def blen (x : Nat) : Nat := if x = 0 then 0 else x.log2 + 1
theorem blen_le {x k : Nat} : blen x ≤ k ↔ x < 2 ^ k := by
  unfold blen
  split
  · rename_i h; subst h; simp [Nat.pow_pos]
  · rename_i h; rw [Nat.succ_le_iff, Nat.log2_lt h]
theorem lt_blen {x k : Nat} : k < blen x ↔ 2 ^ k ≤ x := by
  have := blen_le (x := x) (k := k)
  omega
theorem blen_zero : blen 0 = 0 := rfl
theorem blen_div {x j : Nat} (h : 2 ^ j ≤ x) : blen x = blen (x / 2 ^ j) + j := by
  have hp : 0 < 2 ^ j := Nat.pow_pos (by omega)
  have hj : j < blen x := lt_blen.2 h
  apply Nat.le_antisymm
  · rw [blen_le, Nat.pow_add, ← Nat.div_lt_iff_lt_mul hp]
    exact blen_le.1 (Nat.le_refl _)
  · have : blen (x / 2 ^ j) ≤ blen x - j := by
      rw [blen_le, Nat.div_lt_iff_lt_mul hp, ← Nat.pow_add, show blen x - j + j = blen x by omega]
      exact blen_le.1 (Nat.le_refl _)
    omega
theorem limbs_get (i : Nat) : ∀ (x : Nat), (limbs x).getD i 0 = UInt32.ofNat (x / 4294967296 ^ i) := by
  induction i with
  | zero =>
    intro x
    by_cases h : x = 0
    · subst h; rw [limbs_zero]; rfl
    · rw [limbs_pos h]; simp
  | succ i ih =>
    intro x
    by_cases h : x = 0
    · subst h; rw [limbs_zero]; simp
    · rw [limbs_pos h]
      simp only [List.getD_cons_succ]
      rw [ih, Nat.div_div_eq_div_mul, Nat.pow_succ, Nat.mul_comm 4294967296]
theorem limb_toNat (x i : Nat) : ((limbs x).getD i 0).toNat = x / 4294967296 ^ i % 4294967296 := by
  rw [limbs_get]; simp
theorem nw_pos_of {x : Nat} (h : x ≠ 0) : 0 < nw x := by rw [nw_pos h]; omega
theorem le_of_nw {x : Nat} (h : x ≠ 0) : 4294967296 ^ (nw x - 1) ≤ x := by
  refine Classical.byContradiction fun hn => ?_
  have h1 := nw_le (x := x) (n := nw x - 1) (by omega)
  have h2 := nw_pos_of h
  omega
theorem pow32 (i : Nat) : 4294967296 ^ i = 2 ^ (32 * i) := by rw [Nat.pow_mul]
theorem top_limb {x : Nat} (h : x ≠ 0) : ((limbs x).getD (nw x - 1) 0).toNat = x / 4294967296 ^ (nw x - 1) := by
  rw [limb_toNat, Nat.mod_eq_of_lt]
  rw [Nat.div_lt_iff_lt_mul (Nat.pow_pos (by omega)), Nat.mul_comm, ← Nat.pow_succ]
  have := nw_pos_of h
  rw [show (nw x - 1).succ = nw x by omega]
  exact lt_nw x
theorem blen_limbs {x : Nat} (h : x ≠ 0) : blen x = 32 * (nw x - 1) + blen ((limbs x).getD (nw x - 1) 0).toNat := by
  rw [top_limb h, pow32, blen_div (x := x) (j := 32 * (nw x - 1)) (by rw [← pow32]; exact le_of_nw h)]
  omega
def len8tab : List UInt8 := [0, 1, 2, 2, 3, 3, 3, 3, 4, 4, 4, 4, 4, 4, 4, 4, 5, 5, 5, 5, 5, 5, 5, 5, 5, 5, 5, 5, 5, 5, 5, 5, 6, 6, 6, 6, 6, 6, 6, 6, 6, 6, 6, 6, 6, 6, 6, 6, 6, 6, 6, 6, 6, 6, 6, 6, 6, 6, 6, 6, 6, 6, 6, 6, 7, 7, 7, 7, 7, 7, 7, 7, 7, 7, 7, 7, 7, 7, 7, 7, 7, 7, 7, 7, 7, 7, 7, 7, 7, 7, 7, 7, 7, 7, 7, 7, 7, 7, 7, 7, 7, 7, 7, 7, 7, 7, 7, 7, 7, 7, 7, 7, 7, 7, 7, 7, 7, 7, 7, 7, 7, 7, 7, 7, 7, 7, 7, 7, 8, 8, 8, 8, 8, 8, 8, 8, 8, 8, 8, 8, 8, 8, 8, 8, 8, 8, 8, 8, 8, 8, 8, 8, 8, 8, 8, 8, 8, 8, 8, 8, 8, 8, 8, 8, 8, 8, 8, 8, 8, 8, 8, 8, 8, 8, 8, 8, 8, 8, 8, 8, 8, 8, 8, 8, 8, 8, 8, 8, 8, 8, 8, 8, 8, 8, 8, 8, 8, 8, 8, 8, 8, 8, 8, 8, 8, 8, 8, 8, 8, 8, 8, 8, 8, 8, 8, 8, 8, 8, 8, 8, 8, 8, 8, 8, 8, 8, 8, 8, 8, 8, 8, 8, 8, 8, 8, 8, 8, 8, 8, 8, 8, 8, 8, 8, 8, 8, 8, 8, 8, 8, 8, 8, 8, 8, 8, 8]
theorem len8tab_get : ∀ i : Fin 256, ((len8tab.getD i.val 0).toNat : Int) = (blen i.val : Int) := by decide +kernel
theorem blen_u8 {x : Nat} (h : x < 256) : ((len8tab.getD x 0).toNat : Int) = (blen x : Int) := len8tab_get ⟨x, h⟩

/-! ### bytes of a number, the highest first -/
def byteOf (a i : Nat) : UInt8 := UInt8.ofNat (a / 256 ^ i)
def beN (a n : Nat) : List UInt8 := (List.range n).map fun j => byteOf a (n - 1 - j)
theorem beN_length (a n : Nat) : (beN a n).length = n := by simp [beN]
/-- .. of which the lowest i are there. -/
def beUp (a n i : Nat) : List UInt8 := (List.range n).map fun j => if n - 1 - j < i then byteOf a (n - 1 - j) else 0
theorem beUp_length (a n i : Nat) : (beUp a n i).length = n := by simp [beUp]
theorem beUp_zero (a n : Nat) : beUp a n 0 = List.replicate n 0 := by
  apply List.ext_getElem
  · simp [beUp]
  · intro j h1 h2
    simp [beUp]
theorem beUp_set {a n i : Nat} (h : i < n) : (beUp a n i).set (n - 1 - i) (byteOf a i) = beUp a n (i + 1) := by
  apply List.ext_getElem
  · simp [beUp]
  · intro j h1 h2
    rw [List.getElem_set]
    simp [beUp] at h2
    simp only [beUp, List.getElem_map, List.getElem_range]
    by_cases e : n - 1 - i = j
    · subst e
      rw [if_pos rfl, show n - 1 - (n - 1 - i) = i by omega, if_pos (by omega)]
    · rw [if_neg e]
      by_cases c : n - 1 - j < i
      · rw [if_pos c, if_pos (by omega)]
      · rw [if_neg c, if_neg (by omega)]
theorem beUp_full {a n i : Nat} (h : a < 256 ^ i) : beUp a n i = beN a n := by
  apply List.ext_getElem
  · simp [beUp, beN]
  · intro j h1 h2
    simp only [beUp, beN, List.getElem_map, List.getElem_range]
    split
    · rfl
    · rename_i c
      unfold byteOf
      have : a < 256 ^ (n - 1 - j) := Nat.lt_of_lt_of_le h (Nat.pow_le_pow_right (by omega) (by omega))
      rw [Nat.div_eq_of_lt this]
      rfl
theorem byte_limb (a i : Nat) : (((limbs a).getD (i / 4) 0) >>> UInt32.ofNat (8 * (i % 4))).toUInt8 = byteOf a i := by
  rw [← UInt8.toNat_inj, byteOf, UInt32.toNat_toUInt8, UInt32.toNat_shiftRight, limb_toNat, UInt32.toNat_ofNat_of_lt' (by simp [UInt32.size]; omega), Nat.mod_eq_of_lt (a := 8 * (i % 4)) (by omega), Nat.shiftRight_eq_div_pow, UInt8.toNat_ofNat']
  have e1 : 256 ^ i = 4294967296 ^ (i / 4) * 2 ^ (8 * (i % 4)) := by
    rw [pow32, ← Nat.pow_add, show 32 * (i / 4) + 8 * (i % 4) = 8 * i by omega, Nat.pow_mul]
  rw [e1, ← Nat.div_div_eq_div_mul]
  generalize a / 4294967296 ^ (i / 4) = m
  have h4 : i % 4 < 4 := Nat.mod_lt _ (by omega)
  generalize i % 4 = r at h4
  have : r = 0 ∨ r = 1 ∨ r = 2 ∨ r = 3 := by omega
  rcases this with rfl | rfl | rfl | rfl <;> simp <;> omega
theorem lt_bytes (a : Nat) : a < 256 ^ ((blen a + 7) / 8) := by
  rw [show 256 = 2 ^ 8 from rfl, ← Nat.pow_mul]
  exact Nat.lt_of_lt_of_le (blen_le.1 (Nat.le_refl _)) (Nat.pow_le_pow_right (by omega) (by omega))
theorem blen_le_nw (a : Nat) : blen a ≤ 32 * nw a := by rw [blen_le, ← pow32]; exact lt_nw a
end Go.Proofs.Ytgfomedobfaidaa
