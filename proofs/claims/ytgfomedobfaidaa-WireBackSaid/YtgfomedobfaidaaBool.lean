/-
  Plain laws: numbers as rows of bits, the lowest first (the document's).
-/
import Derived.Test.YtgfomedobfaidaaList
namespace Go.Proofs.Ytgfomedobfaidaa

def bitsOf (x : Nat) : List Bool := if h : x = 0 then [] else decide (x % 2 = 1) :: bitsOf (x / 2)
termination_by x
decreasing_by omega
theorem bitsOf_zero : bitsOf 0 = [] := by unfold bitsOf; simp
theorem bitsOf_pos {x : Nat} (h : x ≠ 0) : bitsOf x = decide (x % 2 = 1) :: bitsOf (x / 2) := by rw [bitsOf]; simp [h]
def bval : List Bool → Nat
  | [] => 0
  | b :: r => b.toNat + 2 * bval r
theorem bval_bitsOf (x : Nat) : bval (bitsOf x) = x := by
  induction x using Nat.strongRecOn with
  | _ x ih =>
    by_cases h : x = 0
    · subst h; rw [bitsOf_zero]; rfl
    · rw [bitsOf_pos h, bval, ih (x / 2) (by omega)]
      by_cases h2 : x % 2 = 1
      · simp [h2]; omega
      · simp [h2]; omega
theorem bitsOf_bval : ∀ {l : List Bool}, (∀ a, l.getLast? = some a → a = true) → bitsOf (bval l) = l
  | [], _ => by simp [bval, bitsOf_zero]
  | b :: r, h => by
    by_cases hr : r = []
    · subst hr
      have : b = true := h b rfl
      subst this
      simp only [bval]
      rw [bitsOf_pos (by simp)]
      simp [bitsOf_zero]
    · have ih := bitsOf_bval (l := r) (fun a ha => h a (by rw [List.getLast?_cons]; cases r with
        | nil => exact absurd rfl hr
        | cons c r => simpa [List.getLast?_cons] using ha))
      have hpos : bval r ≠ 0 := fun e => by rw [e, bitsOf_zero] at ih; exact hr ih.symm
      simp only [bval]
      rw [bitsOf_pos (by omega)]
      have e1 : (b.toNat + 2 * bval r) / 2 = bval r := by cases b <;> simp <;> omega
      have e2 : decide ((b.toNat + 2 * bval r) % 2 = 1) = b := by cases b <;> simp <;> omega
      rw [e1, e2, ih]
theorem bval_lt (l : List Bool) : bval l < 2 ^ l.length := by
  induction l with
  | nil => simp [bval]
  | cons a r ih =>
    simp only [bval, List.length_cons, Nat.pow_succ]
    cases a <;> simp <;> omega
theorem bitsOf_length (x : Nat) : (bitsOf x).length = blen x := by
  induction x using Nat.strongRecOn with
  | _ x ih =>
    by_cases h : x = 0
    · subst h; rw [bitsOf_zero]; rfl
    · rw [bitsOf_pos h, List.length_cons, ih (x / 2) (by omega)]
      by_cases h2 : x = 1
      · subst h2; decide
      · rw [blen_div (x := x) (j := 1) (by omega)]
theorem bval_append (a b : List Bool) : bval (a ++ b) = bval a + 2 ^ a.length * bval b := by
  induction a with
  | nil => simp [bval]
  | cons x r ih =>
    simp only [List.cons_append, bval, ih, List.length_cons, Nat.pow_succ, Nat.mul_add]
    rw [Nat.mul_comm (2 ^ r.length) 2, Nat.mul_assoc]
    omega
theorem bval_take_succ {n : List Bool} {k : Nat} (h : k < n.length) : bval (n.take (k + 1)) = bval (n.take k) + (n.getD k false).toNat * 2 ^ k := by
  rw [List.take_succ_eq_append_getElem h, bval_append, List.length_take, Nat.min_eq_left (by omega)]
  simp [bval, List.getD, List.getElem?_eq_getElem h]
  rw [Nat.mul_comm]
theorem bval_take_false {ws : List Bool} {k : Nat} (hk : k < ws.length) (h0 : ws.getD k false = false) : bval (ws.take (k + 1)) = bval (ws.take k) := by
  rw [bval_take_succ hk, h0]; simp
theorem take_bits {ws : List Bool} {k : Nat} (hk : k ≤ ws.length) (h : k = 0 ∨ ws.getD (k - 1) false = true) : ws.take k = bitsOf (bval (ws.take k)) := by
  refine (bitsOf_bval ?_).symm
  intro a ha
  rcases h with h | h
  · subst h; simp at ha
  · by_cases h0 : k = 0
    · subst h0; simp at ha
    · have e : (ws.take k).getLast? = some (ws.getD (k - 1) false) := by
        rw [List.getLast?_eq_getElem?, List.length_take, show min k ws.length = k by omega, List.getElem?_take_of_lt (by omega)]
        simp [List.getD, List.getElem?_eq_getElem (show k - 1 < ws.length by omega)]
      rw [e] at ha
      cases ha
      exact h
/-- The lowest n bits. -/
def ob (V n : Nat) : List Bool := (List.range n).map fun j => decide (V / 2 ^ j % 2 = 1)
theorem ob_length (V n : Nat) : (ob V n).length = n := by simp [ob]
theorem ob_succ (V n : Nat) : ob V n ++ [decide (V / 2 ^ n % 2 = 1)] = ob V (n + 1) := by
  unfold ob; rw [List.range_succ, List.map_append]; rfl
theorem bval_ob (n : Nat) : ∀ V, bval (ob V n) = V % 2 ^ n := by
  induction n with
  | zero => intro V; simp [ob, bval, Nat.mod_one]
  | succ n ih =>
    intro V
    rw [← ob_succ, bval_append, ih, ob_length, Nat.pow_succ, Nat.mod_mul]
    simp only [bval]
    congr 1
    by_cases h : V / 2 ^ n % 2 = 1
    · simp [h]
    · have h0 : V / 2 ^ n % 2 = 0 := by omega
      simp [h0]
theorem nv_byte (b : List UInt8) {k : Nat} (h : k < b.length) : nv b / 256 ^ k % 256 = (b.getD (b.length - 1 - k) 0).toNat := by
  have key : ∀ m, k + 1 ≤ m → m ≤ b.length → nvLow b m / 256 ^ k % 256 = (b.getD (b.length - 1 - k) 0).toNat := by
    intro m hm hml
    induction m with
    | zero => omega
    | succ m ih =>
      have hp : 0 < 256 ^ k := Nat.pow_pos (by omega)
      by_cases e : m = k
      · subst e
        rw [nvLow_succ b (by omega), Nat.add_mul_div_right _ _ hp, Nat.div_eq_of_lt (nvLow_lt b (by omega))]
        have := (b.getD (b.length - 1 - m) 0).toNat_lt
        omega
      · rw [nvLow_succ b (by omega)]
        have e2 : 256 ^ m = 256 * 256 ^ (m - k - 1) * 256 ^ k := by
          rw [show (256 : Nat) * 256 ^ (m - k - 1) = 256 ^ (m - k - 1 + 1) by rw [Nat.pow_succ, Nat.mul_comm], ← Nat.pow_add]; congr 1; omega
        rw [e2, ← Nat.mul_assoc, Nat.add_mul_div_right _ _ hp, ← Nat.mul_assoc, Nat.mul_comm _ 256, Nat.mul_assoc, Nat.add_mul_mod_self_left]
        exact ih (by omega) (by omega)
  have := key b.length (by omega) (Nat.le_refl _)
  rwa [nvLow_full b (Nat.le_refl _)] at this
theorem of_bit (b : List UInt8) {k j : Nat} (hk : k < b.length) (hj : j < 8) : decide (((((List.getD b (((b.length : Nat) : Int) - 1 - ((k : Nat) : Int)).toNat (0 : UInt8)) >>> UInt8.ofNat j) % (2 : UInt8)).toNat : Int) = (1 : Int)) = decide (nv b / 2 ^ (8 * k + j) % 2 = 1) := by
  rw [show (((b.length : Nat) : Int) - 1 - ((k : Nat) : Int)).toNat = b.length - 1 - k by omega]
  have e := nv_byte b hk
  generalize b.getD (b.length - 1 - k) 0 = x at e
  have e1 : nv b / 2 ^ (8 * k + j) % 2 = x.toNat / 2 ^ j % 2 := by
    rw [Nat.pow_add, ← Nat.div_div_eq_div_mul, Nat.pow_mul, ← e]
    generalize nv b / (2 ^ 8) ^ k = m
    have : j = 0 ∨ j = 1 ∨ j = 2 ∨ j = 3 ∨ j = 4 ∨ j = 5 ∨ j = 6 ∨ j = 7 := by omega
    rcases this with rfl | rfl | rfl | rfl | rfl | rfl | rfl | rfl <;> simp <;> omega
  rw [e1]
  have e2 : ((x >>> UInt8.ofNat j) % 2).toNat = x.toNat / 2 ^ j % 2 := by
    rw [UInt8.toNat_mod, UInt8.toNat_shiftRight, UInt8.toNat_ofNat_of_lt' (by simp [UInt8.size]; omega), Nat.mod_eq_of_lt hj, Nat.shiftRight_eq_div_pow]
    rfl
  rw [e2]
  congr 1
  rw [eq_iff_iff]
  omega
theorem beN_zero (n : Nat) : beN 0 n = List.replicate n 0 := by
  apply List.ext_getElem
  · simp [beN]
  · intro j h1 h2
    simp [beN, byteOf]
theorem beN_get (a n : Nat) {j : Nat} (h : j < n) : (beN a n).getD j 0 = byteOf a (n - 1 - j) := by
  simp [beN, List.getD, List.getElem?_map, List.getElem?_range h]
theorem byteOf_add_ne {V k j : Nat} (hV : V < 2 ^ k) (h : j ≠ k / 8) : byteOf (V + 2 ^ k) j = byteOf V j := by
  unfold byteOf
  rw [← UInt8.toNat_inj]
  simp only [UInt8.toNat_ofNat']
  have e256 : 256 ^ j = 2 ^ (8 * j) := by rw [show 256 = 2 ^ 8 from rfl, ← Nat.pow_mul]
  rw [e256]
  have hp : 0 < 2 ^ (8 * j) := Nat.pow_pos (by omega)
  by_cases c : j < k / 8
  · have e1 : 2 ^ k = 256 * 2 ^ (k - 8 * j - 8) * 2 ^ (8 * j) := by
      rw [show (256 : Nat) = 2 ^ 8 from rfl, ← Nat.pow_add, ← Nat.pow_add]; congr 1; omega
    rw [e1, Nat.add_mul_div_right _ _ hp, Nat.add_mul_mod_self_left]
  · have h1 : 2 ^ k + 2 ^ k ≤ 2 ^ (8 * j) := by
      have : 2 ^ (k + 1) ≤ 2 ^ (8 * j) := Nat.pow_le_pow_right (by omega) (by omega)
      rw [Nat.pow_succ] at this
      omega
    rw [Nat.div_eq_of_lt (by omega), Nat.div_eq_of_lt (by omega)]
theorem byteOf_add_eq {V k : Nat} (hV : V < 2 ^ k) : byteOf V (k / 8) + (1 : UInt8) <<< UInt8.ofNat (k % 8) = byteOf (V + 2 ^ k) (k / 8) := by
  have e256 : 256 ^ (k / 8) = 2 ^ (8 * (k / 8)) := by rw [show 256 = 2 ^ 8 from rfl, ← Nat.pow_mul]
  have hp : 0 < 2 ^ (8 * (k / 8)) := Nat.pow_pos (by omega)
  have ek : 2 ^ k = 2 ^ (k % 8) * 2 ^ (8 * (k / 8)) := by rw [← Nat.pow_add]; congr 1; omega
  unfold byteOf
  rw [e256]
  have e1 : (V + 2 ^ k) / 2 ^ (8 * (k / 8)) = V / 2 ^ (8 * (k / 8)) + 2 ^ (k % 8) := by
    rw [ek, Nat.add_mul_div_right _ _ hp]
  rw [e1]
  have hu : V / 2 ^ (8 * (k / 8)) < 2 ^ (k % 8) := by rw [Nat.div_lt_iff_lt_mul hp, ← ek]; exact hV
  have hr : k % 8 < 8 := Nat.mod_lt _ (by omega)
  generalize V / 2 ^ (8 * (k / 8)) = u at hu
  generalize k % 8 = r at hu hr
  have : r = 0 ∨ r = 1 ∨ r = 2 ∨ r = 3 ∨ r = 4 ∨ r = 5 ∨ r = 6 ∨ r = 7 := by omega
  rw [← UInt8.toNat_inj, UInt8.toNat_add, UInt8.toNat_shiftLeft, UInt8.toNat_ofNat_of_lt' (n := r) (by simp [UInt8.size]; omega), Nat.mod_eq_of_lt hr, Nat.shiftLeft_eq]
  rcases this with rfl | rfl | rfl | rfl | rfl | rfl | rfl | rfl <;> simp at hu ⊢
theorem refbytes_skip {n : List Bool} {k s : Nat} (hk : k < n.length) (h : List.getD n k false = false) : beN (bval (List.take (k + 1) n)) s = beN (bval (List.take k n)) s := by rw [bval_take_false hk h]
theorem refbytes_step {n : List Bool} {k : Nat} {size : Int} (h0 : 0 ≤ size) (hk : k < n.length) (hs : k / 8 < size.toNat) (h : List.getD n k false = true) : List.set (beN (bval (List.take k n)) (Int.toNat size)) (size - 1 - ((k : Nat) : Int) / 8).toNat ((List.getD (beN (bval (List.take k n)) (Int.toNat size)) (size - 1 - ((k : Nat) : Int) / 8).toNat (0 : UInt8)) + (1 : UInt8) <<< UInt8.ofNat (((k : Nat) : Int) % 8).toNat) = beN (bval (List.take (k + 1) n)) (Int.toNat size) := by
  have hV := bval_lt (n.take k)
  rw [List.length_take, Nat.min_eq_left (by omega)] at hV
  rw [bval_take_succ hk, h, show (size - 1 - ((k : Nat) : Int) / 8).toNat = size.toNat - 1 - k / 8 by omega, show (((k : Nat) : Int) % 8).toNat = k % 8 by omega, beN_get _ _ (by omega), show size.toNat - 1 - (size.toNat - 1 - k / 8) = k / 8 by omega]
  simp only [Bool.toNat_true, Nat.one_mul]
  rw [byteOf_add_eq hV]
  apply List.ext_getElem
  · simp [beN]
  · intro j h1 h2
    rw [List.getElem_set]
    simp [beN] at h2
    split
    · rename_i e
      subst e
      simp only [beN, List.getElem_map, List.getElem_range]
      rw [show size.toNat - 1 - (size.toNat - 1 - k / 8) = k / 8 by omega]
    · rename_i e
      simp only [beN, List.getElem_map, List.getElem_range]
      rw [byteOf_add_ne hV (by omega)]
theorem nv_beN (a : Nat) : ∀ n, nv (beN a n) = a % 256 ^ n := by
  intro n
  induction n with
  | zero => simp [beN, nv, Nat.mod_one]
  | succ n ih =>
    have e : beN a (n + 1) = byteOf a n :: beN a n := by
      unfold beN
      rw [List.range_succ_eq_map, List.map_cons, List.map_map]
      congr 1
      apply List.map_congr_left
      intro j hj
      simp only [Function.comp_apply]
      rw [show n + 1 - 1 - j.succ = n - 1 - j by omega]
    rw [e, nv_cons, ih, beN_length, Nat.pow_succ, Nat.mod_mul, byteOf]
    simp only [UInt8.toNat_ofNat']
    rw [Nat.mul_comm, show (2 : Nat) ^ 8 = 256 from rfl]
    omega
/-- The fewest bytes. -/
def least (a : Nat) : List UInt8 := beN a ((blen a + 7) / 8)
theorem nv_least (a : Nat) : nv (beN a ((blen a + 7) / 8)) = a := by
  rw [nv_beN, Nat.mod_eq_of_lt (lt_bytes a)]
end Go.Proofs.Ytgfomedobfaidaa
