/-
  Plain laws: the number of bytes, put into words from its lowest byte on.
-/
import Derived.Test.YtgfomedobfaidaaBits
namespace Go.Proofs.Ytgfomedobfaidaa

/-- The number of bytes, the highest first. -/
def nv (b : List UInt8) : Nat := b.foldl (fun n x => 256 * n + x.toNat) 0
theorem foldl_nv (b : List UInt8) : ∀ n : Nat, b.foldl (fun n x => 256 * n + x.toNat) n = n * 256 ^ b.length + nv b := by
  induction b with
  | nil => intro n; simp [nv]
  | cons x r ih =>
    intro n
    have e0 : nv (x :: r) = List.foldl (fun n (x : UInt8) => 256 * n + x.toNat) (256 * 0 + x.toNat) r := rfl
    rw [List.foldl_cons, e0, ih, ih (256 * 0 + x.toNat), List.length_cons, Nat.pow_succ, Nat.add_mul]
    have e : 256 * n * 256 ^ r.length = n * (256 ^ r.length * 256) := by rw [Nat.mul_comm 256 n, Nat.mul_assoc, Nat.mul_comm 256]
    rw [e]; simp; omega
theorem nv_cons (x : UInt8) (r : List UInt8) : nv (x :: r) = x.toNat * 256 ^ r.length + nv r := by
  rw [nv, List.foldl_cons, foldl_nv]; simp
theorem nv_lt (b : List UInt8) : nv b < 256 ^ b.length := by
  induction b with
  | nil => simp [nv]
  | cons x r ih =>
    rw [nv_cons, List.length_cons, Nat.pow_succ]
    have hx := x.toNat_lt
    have : x.toNat * 256 ^ r.length ≤ 255 * 256 ^ r.length := Nat.mul_le_mul_right _ (by omega)
    omega
/-- .. of the lowest k bytes. -/
def nvLow (b : List UInt8) (k : Nat) : Nat := nv (b.drop (b.length - k))
theorem nvLow_zero (b : List UInt8) : nvLow b 0 = 0 := by
  unfold nvLow
  rw [List.drop_of_length_le (by omega)]; rfl
theorem nvLow_lt (b : List UInt8) {k : Nat} (h : k ≤ b.length) : nvLow b k < 256 ^ k := by
  have := nv_lt (b.drop (b.length - k))
  rw [List.length_drop, show b.length - (b.length - k) = k by omega] at this
  exact this
theorem nvLow_succ (b : List UInt8) {k : Nat} (h : k < b.length) : nvLow b (k + 1) = nvLow b k + (b.getD (b.length - 1 - k) 0).toNat * 256 ^ k := by
  unfold nvLow
  rw [show b.length - (k + 1) = b.length - 1 - k by omega, List.drop_eq_getElem_cons (by omega), nv_cons, List.length_drop, show b.length - 1 - k + 1 = b.length - k by omega, show b.length - (b.length - k) = k by omega]
  simp [List.getD, List.getElem?_eq_getElem (show b.length - 1 - k < b.length by omega)]
  omega
theorem nvLow_full (b : List UInt8) {k : Nat} (h : b.length ≤ k) : nvLow b k = nv b := by
  unfold nvLow
  rw [show b.length - k = 0 by omega]; rfl
/-- .. as words. -/
def nvUp (b : List UInt8) (k : Nat) : List UInt32 := (List.range ((b.length + 3) / 4)).map fun j => UInt32.ofNat (nvLow b k / 4294967296 ^ j)
theorem nvUp_length (b : List UInt8) (k : Nat) : (nvUp b k).length = (b.length + 3) / 4 := by simp [nvUp]
theorem nvUp_zero (b : List UInt8) : List.replicate ((((b.length : Nat) : Int) + 3) / 4).toNat (0 : UInt32) = nvUp b 0 := by
  apply List.ext_getElem
  · simp [nvUp]; omega
  · intro j h1 h2
    simp [nvUp, nvLow_zero]
theorem wv_words (n : Nat) : ∀ V : Nat, V < 4294967296 ^ n → wv ((List.range n).map fun j => UInt32.ofNat (V / 4294967296 ^ j)) = V := by
  induction n with
  | zero => intro V h; simp at h; subst h; rfl
  | succ n ih =>
    intro V h
    rw [List.range_succ_eq_map, List.map_cons, List.map_map, wv]
    have e : ((fun j => UInt32.ofNat (V / 4294967296 ^ j)) ∘ Nat.succ) = fun j => UInt32.ofNat (V / 4294967296 / 4294967296 ^ j) := by
      funext j
      simp only [Function.comp_apply]
      rw [Nat.div_div_eq_div_mul, Nat.pow_succ, Nat.mul_comm 4294967296]
    rw [e, ih _ (by rw [Nat.pow_succ] at h; rw [Nat.div_lt_iff_lt_mul (by omega)]; exact h)]
    simp
    omega
theorem nvUp_full {b : List UInt8} {k : Nat} (h : b.length ≤ k) : wv (nvUp b k) = nv b := by
  unfold nvUp
  rw [wv_words, nvLow_full b h]
  rw [nvLow_full b h, pow32]
  refine Nat.lt_of_lt_of_le (nv_lt b) ?_
  rw [show 256 = 2 ^ 8 from rfl, ← Nat.pow_mul]
  exact Nat.pow_le_pow_right (by omega) (by omega)
theorem word_step {V x k q r : Nat} (hV : V < 256 ^ k) (hx : x < 256) (hk : k = 4 * q + r) (hr : r < 4) : (UInt32.ofNat (V / 4294967296 ^ q)) ||| ((UInt32.ofNat x) <<< UInt32.ofNat (8 * r)) = UInt32.ofNat ((V + x * 256 ^ k) / 4294967296 ^ q) := by
  have e1 : 256 ^ k = 2 ^ (8 * r) * 4294967296 ^ q := by
    rw [pow32, ← Nat.pow_add, show 256 = 2 ^ 8 from rfl, ← Nat.pow_mul]; congr 1; omega
  have hp : 0 < 4294967296 ^ q := Nat.pow_pos (by omega)
  have hu : V / 4294967296 ^ q < 2 ^ (8 * r) := by rw [Nat.div_lt_iff_lt_mul hp, ← e1]; exact hV
  have e2 : (V + x * 256 ^ k) / 4294967296 ^ q = V / 4294967296 ^ q + x * 2 ^ (8 * r) := by
    rw [e1, ← Nat.mul_assoc, Nat.add_mul_div_right _ _ hp]
  rw [e2]
  generalize V / 4294967296 ^ q = u at hu
  have hr8 : 2 ^ (8 * r) ≤ 2 ^ 24 := Nat.pow_le_pow_right (by omega) (by omega)
  have hxr : x * 2 ^ (8 * r) < 256 * 2 ^ (8 * r) := Nat.mul_lt_mul_of_pos_right hx (Nat.pow_pos (by omega))
  have hs : x * 2 ^ (8 * r) ≤ 255 * 2 ^ (8 * r) := Nat.mul_le_mul_right _ (by omega)
  rw [← UInt32.toNat_inj, UInt32.toNat_or, UInt32.toNat_shiftLeft, UInt32.toNat_ofNat_of_lt' (n := 8 * r) (by simp [UInt32.size]; omega), UInt32.toNat_ofNat_of_lt' (n := u) (by simp [UInt32.size]; omega), UInt32.toNat_ofNat_of_lt' (n := x) (by simp [UInt32.size]; omega), Nat.mod_eq_of_lt (a := 8 * r) (by omega), Nat.shiftLeft_eq, Nat.mod_eq_of_lt (a := x * 2 ^ (8 * r)) (by omega), UInt32.toNat_ofNat_of_lt' (by simp [UInt32.size]; omega)]
  have := Nat.shiftLeft_add_eq_or_of_lt hu x
  rw [Nat.shiftLeft_eq] at this
  rw [Nat.or_comm, ← this, Nat.add_comm]
theorem word_low {V x k j : Nat} (h : 4 * (j + 1) ≤ k) : UInt32.ofNat ((V + x * 256 ^ k) / 4294967296 ^ j) = UInt32.ofNat (V / 4294967296 ^ j) := by
  have hp : 0 < 4294967296 ^ j := Nat.pow_pos (by omega)
  have e1 : 256 ^ k = 4294967296 * 256 ^ (k - 4 * (j + 1)) * 4294967296 ^ j := by
    rw [show 4294967296 = 256 ^ 4 from rfl, ← Nat.pow_mul, ← Nat.pow_add, ← Nat.pow_add]; congr 1; omega
  rw [e1, ← Nat.mul_assoc, Nat.add_mul_div_right _ _ hp, ← UInt32.toNat_inj]
  simp only [UInt32.toNat_ofNat']
  rw [show x * (4294967296 * 256 ^ (k - 4 * (j + 1))) = 4294967296 * (x * 256 ^ (k - 4 * (j + 1))) by rw [← Nat.mul_assoc, Nat.mul_comm x, Nat.mul_assoc]]
  omega
theorem nvUp_step {b : List UInt8} {k : Nat} (h : k < b.length) : List.set (nvUp b k) (((k : Nat) : Int) / 4).toNat ((List.getD (nvUp b k) (((k : Nat) : Int) / 4).toNat (0 : UInt32)) ||| ((List.getD b (((b.length : Nat) : Int) - 1 - ((k : Nat) : Int)).toNat (0 : UInt8)).toUInt32 <<< UInt32.ofNat (8 * (((k : Nat) : Int) % 4)).toNat)) = nvUp b (k + 1) := by
  rw [show (((k : Nat) : Int) / 4).toNat = k / 4 by omega, show (8 * (((k : Nat) : Int) % 4)).toNat = 8 * (k % 4) by omega, show (((b.length : Nat) : Int) - 1 - ((k : Nat) : Int)).toNat = b.length - 1 - k by omega]
  have hV := nvLow_lt b (k := k) (by omega)
  have hS := nvLow_succ b h
  generalize hx : (b.getD (b.length - 1 - k) 0) = x at hS
  have hxl := x.toNat_lt
  have hx32 : x.toUInt32 = UInt32.ofNat x.toNat := by rw [← UInt32.toNat_inj]; simp
  have hg : (nvUp b k).getD (k / 4) 0 = UInt32.ofNat (nvLow b k / 4294967296 ^ (k / 4)) := by
    unfold nvUp
    simp [List.getD, List.getElem?_map, List.getElem?_range (show k / 4 < (b.length + 3) / 4 by omega)]
  rw [hg, hx32, word_step hV (by omega) (show k = 4 * (k / 4) + k % 4 by omega) (by omega), ← hS]
  apply List.ext_getElem
  · simp [nvUp]
  · intro j h1 h2
    rw [List.getElem_set]
    simp [nvUp] at h2
    split
    · rename_i e
      subst e
      simp [nvUp]
    · rename_i e
      simp only [nvUp, List.getElem_map, List.getElem_range]
      rw [hS]
      by_cases c : j < k / 4
      · rw [word_low (by omega)]
      · have hlt1 : nvLow b k < 4294967296 ^ j := by
          refine Nat.lt_of_lt_of_le hV ?_
          rw [show 4294967296 = 256 ^ 4 from rfl, ← Nat.pow_mul]
          exact Nat.pow_le_pow_right (by omega) (by omega)
        have hlt2 : nvLow b (k + 1) < 4294967296 ^ j := by
          refine Nat.lt_of_lt_of_le (nvLow_lt b (by omega)) ?_
          rw [show 4294967296 = 256 ^ 4 from rfl, ← Nat.pow_mul]
          exact Nat.pow_le_pow_right (by omega) (by omega)
        rw [hS] at hlt2
        rw [Nat.div_eq_of_lt hlt1, Nat.div_eq_of_lt hlt2]
end Go.Proofs.Ytgfomedobfaidaa
