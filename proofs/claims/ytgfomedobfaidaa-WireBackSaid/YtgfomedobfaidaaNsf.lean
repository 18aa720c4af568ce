/-
  Unsigned words of 64 bits as natural numbers with bounds.
-/
import Derived.Test.YtgfomedobfaidaaGo
set_option linter.unusedVariables false
set_option linter.unusedSimpArgs false
namespace Go.Proofs.Ytgfomedobfaidaa
open Go.RowKit

@[reducible] def n64 (n : Nat) : Value := .int .u64 (n : Int)
theorem isN64 {b b' : Nat} (e : b = b') (lab : Lab) (w : World) : Is (n64 b') lab w (n64 b) := by subst e; rfl
section
variable {P : Program} {N : Nat} {l : List (Nat × Value)} {w : World} {lab : Lab} {ty : TypeId}

theorem wrap_n64 {n : Nat} (h : n < 18446744073709551616) : IntKind.u64.wrap (n : Int) = (n : Int) := by rw [IntKind.wrap_u64]; omega
theorem Does.n64_add {t yt : TypeId} {x y : Operand} {a b : Nat} (hx : ev l x = some (n64 a)) (hy : ev l y = some (n64 b)) (h : a + b < 18446744073709551616) : Does P l (.binOp .add t x y yt) ty w (n64 (a + b)) w :=
  run_binOp_int hx hy (by
    have e : IntKind.u64.wrap ((a : Int) + b) = ((a + b : Nat) : Int) := by rw [← Int.natCast_add]; exact wrap_n64 h
    simp only [binOp, Op.intArith, ne_eq, not_true, if_false, e]; rfl)
theorem Does.n64_sub {t yt : TypeId} {x y : Operand} {a b : Nat} (hx : ev l x = some (n64 a)) (hy : ev l y = some (n64 b)) (h : b ≤ a) (h' : a < 18446744073709551616) : Does P l (.binOp .sub t x y yt) ty w (n64 (a - b)) w :=
  run_binOp_int hx hy (by
    have e : IntKind.u64.wrap ((a : Int) - b) = ((a - b : Nat) : Int) := by rw [← Int.ofNat_sub h]; exact wrap_n64 (by omega)
    simp only [binOp, Op.intArith, ne_eq, not_true, if_false, e]; rfl)
theorem Does.n64_mul {t yt : TypeId} {x y : Operand} {a b : Nat} (hx : ev l x = some (n64 a)) (hy : ev l y = some (n64 b)) (h : a * b < 18446744073709551616) : Does P l (.binOp .mul t x y yt) ty w (n64 (a * b)) w :=
  run_binOp_int hx hy (by
    have e : IntKind.u64.wrap ((a : Int) * b) = ((a * b : Nat) : Int) := by rw [← Int.natCast_mul]; exact wrap_n64 h
    simp only [binOp, Op.intArith, ne_eq, not_true, if_false, e]; rfl)
theorem Does.n64_quo {t yt : TypeId} {x y : Operand} {a b : Nat} (hx : ev l x = some (n64 a)) (hy : ev l y = some (n64 b)) (hb : b ≠ 0) (h : a < 18446744073709551616) : Does P l (.binOp .quo t x y yt) ty w (n64 (a / b)) w :=
  run_binOp_int hx hy (by
    have e : IntKind.u64.wrap ((a : Int).tdiv b) = ((a / b : Nat) : Int) := by
      rw [Int.tdiv_eq_ediv_of_nonneg (by omega), ← Int.natCast_ediv]; exact wrap_n64 (Nat.lt_of_le_of_lt (Nat.div_le_self _ _) h)
    simp only [binOp, Op.intDiv, ne_eq, not_true, if_false]; rw [if_neg (by omega), e]; rfl)
theorem Does.n64_rem {t yt : TypeId} {x y : Operand} {a b : Nat} (hx : ev l x = some (n64 a)) (hy : ev l y = some (n64 b)) (hb : b ≠ 0) : Does P l (.binOp .rem t x y yt) ty w (n64 (a % b)) w :=
  run_binOp_int hx hy (by
    have e : ((a : Int).tmod b) = ((a % b : Nat) : Int) := by rw [Int.tmod_eq_emod_of_nonneg (by omega), ← Int.natCast_emod]
    simp only [binOp, Op.intDiv, ne_eq, not_true, if_false]; rw [if_neg (by omega), e]; rfl)
/-- A shift to the left, by a constant or a variable. -/
theorem Does.n64_shl {t yt : TypeId} {x y : Operand} {yk : IntKind} {a : Nat} {b : Int} (hx : ev l x = some (n64 a)) (hy : ev l y = some (.int yk b)) (h0 : 0 ≤ b) (h1 : b < 64) (h : a * 2 ^ b.toNat < 18446744073709551616) : Does P l (.binOp .shl t x y yt) ty w (n64 (a * 2 ^ b.toNat)) w :=
  run_binOp_shift (.inl rfl) hx hy (by
    obtain ⟨n, rfl⟩ := Int.eq_ofNat_of_zero_le h0
    have e : IntKind.u64.wrap ((a : Int) * 2 ^ (min (n : Int).toNat IntKind.u64.bits)) = ((a * 2 ^ (n : Int).toNat : Nat) : Int) := by
      have hn : n < 64 := by omega
      rw [Int.toNat_natCast, show min n IntKind.u64.bits = n by simp [IntKind.bits]; omega]
      have : ((a : Int) * 2 ^ n) = ((a * 2 ^ n : Nat) : Int) := by simp
      rw [this]; exact wrap_n64 (by simpa using h)
    simp only [Op.shift]; rw [if_neg (by omega), e]; rfl)
theorem Does.n64_shr {t yt : TypeId} {x y : Operand} {yk : IntKind} {a : Nat} {b : Int} (hx : ev l x = some (n64 a)) (hy : ev l y = some (.int yk b)) (h0 : 0 ≤ b) (h1 : b < 64) : Does P l (.binOp .shr t x y yt) ty w (n64 (a / 2 ^ b.toNat)) w :=
  run_binOp_shift (.inr rfl) hx hy (by
    obtain ⟨n, rfl⟩ := Int.eq_ofNat_of_zero_le h0
    have e : ((a : Int).fdiv (2 ^ (min (n : Int).toNat IntKind.u64.bits))) = ((a / 2 ^ (n : Int).toNat : Nat) : Int) := by
      have hn : n < 64 := by omega
      rw [Int.toNat_natCast, show min n IntKind.u64.bits = n by simp [IntKind.bits]; omega, Int.fdiv_eq_ediv_of_nonneg _ (Int.le_of_lt (Int.pow_pos (by omega)))]
      simp
    simp only [Op.shift]; rw [if_neg (by omega), e]; rfl)
theorem Does.n64_shlN {t yt : TypeId} {x y : Operand} {yk : IntKind} {a b : Nat} (hx : ev l x = some (n64 a)) (hy : ev l y = some (.int yk (b : Int))) (h1 : b < 64) (h : a * 2 ^ b < 18446744073709551616) : Does P l (.binOp .shl t x y yt) ty w (n64 (a * 2 ^ b)) w :=
  Does.n64_shl (b := (b : Int)) hx hy (by omega) (by omega) h
theorem Does.n64_shrN {t yt : TypeId} {x y : Operand} {yk : IntKind} {a b : Nat} (hx : ev l x = some (n64 a)) (hy : ev l y = some (.int yk (b : Int))) (h1 : b < 64) : Does P l (.binOp .shr t x y yt) ty w (n64 (a / 2 ^ b)) w :=
  Does.n64_shr (b := (b : Int)) hx hy (by omega) (by omega)
/-- .. by 32. -/
theorem Does.n64_shl32 {t yt : TypeId} {x y : Operand} {yk : IntKind} {a : Nat} (hx : ev l x = some (n64 a)) (hy : ev l y = some (.int yk 32)) (h : a < 4294967296) : Does P l (.binOp .shl t x y yt) ty w (n64 (a * 4294967296)) w :=
  Does.n64_shl hx hy (by omega) (by omega) (by show a * 4294967296 < _; omega)
theorem Does.n64_shr32 {t yt : TypeId} {x y : Operand} {yk : IntKind} {a : Nat} (hx : ev l x = some (n64 a)) (hy : ev l y = some (.int yk 32)) : Does P l (.binOp .shr t x y yt) ty w (n64 (a / 4294967296)) w :=
  Does.n64_shr hx hy (by omega) (by omega)
theorem Does.n64_or {t yt : TypeId} {x y : Operand} {a b : Nat} (hx : ev l x = some (n64 a)) (hy : ev l y = some (n64 b)) (ha : a < 18446744073709551616) (hb : b < 18446744073709551616) : Does P l (.binOp .or t x y yt) ty w (n64 (a ||| b)) w := by
  have h := Does.u64_or (P := P) (l := l) (ty := ty) (w := w) (t := t) (yt := yt) (x := x) (y := y) (a := UInt64.ofNat a) (b := UInt64.ofNat b) (by rw [hx]; simp [Nat.mod_eq_of_lt ha]) (by rw [hy]; simp [Nat.mod_eq_of_lt hb])
  have e : u64 (UInt64.ofNat a ||| UInt64.ofNat b) = n64 (a ||| b) := by simp [Nat.mod_eq_of_lt ha, Nat.mod_eq_of_lt hb]
  rw [e] at h; exact h
/-- What is shifted, and what is below. -/
theorem or_low {a b : Nat} (h : b < 4294967296) : a * 4294967296 ||| b = a * 4294967296 + b := by
  have := Nat.two_pow_add_eq_or_of_lt (i := 32) (b := b) (by omega) a
  rw [show (2 : Nat) ^ 32 = 4294967296 from rfl, Nat.mul_comm] at this; exact this.symm
theorem or_low' {a b : Nat} (h : b < 4294967296) : b ||| a * 4294967296 = b + a * 4294967296 := by rw [Nat.or_comm, or_low h, Nat.add_comm]
theorem Does.n64_or_low {t yt : TypeId} {x y : Operand} {a b : Nat} (hx : ev l x = some (n64 (a * 4294967296))) (hy : ev l y = some (n64 b)) (ha : a < 4294967296) (hb : b < 4294967296) : Does P l (.binOp .or t x y yt) ty w (n64 (a * 4294967296 + b)) w := by
  have h := Does.n64_or (P := P) (ty := ty) (w := w) (t := t) (yt := yt) hx hy (by omega) (by omega)
  rw [or_low hb] at h; exact h
/-! conversions -/
theorem Does.u32_n64 {s t : TypeId} {x : Operand} {a : UInt32} {ds : TypeDesc} (hs : P.underlying s = some ds) (ht : P.underlying t = some (.int .u64)) (hx : ev l x = some (u32 a)) : Does P l (.convert s t x) ty w (n64 a.toNat) w :=
  Does.conv_int hs ht hx (wrap_n64 (Nat.lt_trans a.toNat_lt (by decide)))
theorem Does.u8_n64 {s t : TypeId} {x : Operand} {a : UInt8} {ds : TypeDesc} (hs : P.underlying s = some ds) (ht : P.underlying t = some (.int .u64)) (hx : ev l x = some (u8 a)) : Does P l (.convert s t x) ty w (n64 a.toNat) w :=
  Does.conv_int hs ht hx (wrap_n64 (Nat.lt_trans a.toNat_lt (by decide)))
theorem Does.n64_u32 {s t : TypeId} {x : Operand} {a : Nat} {ds : TypeDesc} (hs : P.underlying s = some ds) (ht : P.underlying t = some (.int .u32)) (hx : ev l x = some (n64 a)) : Does P l (.convert s t x) ty w (u32 (UInt32.ofNat a)) w :=
  Does.conv_int hs ht hx (wrap32' a)
theorem Does.n64_u8 {s t : TypeId} {x : Operand} {a : Nat} {ds : TypeDesc} (hs : P.underlying s = some ds) (ht : P.underlying t = some (.int .u8)) (hx : ev l x = some (n64 a)) : Does P l (.convert s t x) ty w (u8 (UInt8.ofNat a)) w :=
  Does.conv_int hs ht hx (wrap8 a)
theorem Does.n64_i64 {s t : TypeId} {x : Operand} {a : Nat} {ds : TypeDesc} (hs : P.underlying s = some ds) (ht : P.underlying t = some (.int .i64)) (hx : ev l x = some (n64 a)) (h : a < 9223372036854775808) : Does P l (.convert s t x) ty w (i64 (a : Int)) w :=
  Does.conv_int hs ht hx (by rw [i64_wrap_in (by omega) (by omega)])
theorem Does.i64_n64 {s t : TypeId} {x : Operand} {a : Int} {ds : TypeDesc} (hs : P.underlying s = some ds) (ht : P.underlying t = some (.int .u64)) (hx : ev l x = some (i64 a)) (h0 : 0 ≤ a) (h : a < 9223372036854775808) : Does P l (.convert s t x) ty w (n64 a.toNat) w :=
  Does.conv_int hs ht hx (by obtain ⟨n, rfl⟩ := Int.eq_ofNat_of_zero_le h0; exact wrap_n64 (by omega))
/-- A word out of a number, as a number. -/
theorem Does.u32of_i64 {s t : TypeId} {x : Operand} {a : Nat} {ds : TypeDesc} (hs : P.underlying s = some ds) (ht : P.underlying t = some (.int .i64)) (hx : ev l x = some (u32 (UInt32.ofNat a))) : Does P l (.convert s t x) ty w (i64 ((a % 4294967296 : Nat) : Int)) w :=
  Does.conv_int hs ht hx (by rw [UInt32.toNat_ofNat']; show IntKind.i64.wrap ((a % 2 ^ 32 : Nat) : Int) = _; rw [i64_wrap_in (by omega) (by omega)])
theorem Does.u32of_n64 {s t : TypeId} {x : Operand} {a : Nat} {ds : TypeDesc} (hs : P.underlying s = some ds) (ht : P.underlying t = some (.int .u64)) (hx : ev l x = some (u32 (UInt32.ofNat a))) : Does P l (.convert s t x) ty w (n64 (a % 4294967296)) w :=
  Does.conv_int hs ht hx (by rw [UInt32.toNat_ofNat']; exact wrap_n64 (by omega))
theorem Does.i64_u32i {s t : TypeId} {x : Operand} {a : Int} {ds : TypeDesc} (hs : P.underlying s = some ds) (ht : P.underlying t = some (.int .u32)) (hx : ev l x = some (i64 a)) : Does P l (.convert s t x) ty w (u32 (UInt32.ofNat (a % 4294967296).toNat)) w :=
  Does.conv_int hs ht hx (by
    have e : IntKind.u32.wrap a = a % 4294967296 := by
      unfold IntKind.wrap
      simp [IntKind.signed, IntKind.bits]
    rw [e, UInt32.toNat_ofNat']
    omega)
theorem Does.i64_u32 {s t : TypeId} {x : Operand} {a : Int} {ds : TypeDesc} (hs : P.underlying s = some ds) (ht : P.underlying t = some (.int .u32)) (hx : ev l x = some (i64 a)) (h0 : 0 ≤ a) : Does P l (.convert s t x) ty w (u32 (UInt32.ofNat a.toNat)) w :=
  Does.conv_int hs ht hx (by obtain ⟨n, rfl⟩ := Int.eq_ofNat_of_zero_le h0; rw [IntKind.wrap_u32', UInt32.toNat_ofNat']; omega)
/-- An element of a part of a row of the call's own. -/
theorem Does.index_sub {t e : TypeId} {x y : Operand} {k : IntKind} {i : Int} {b o n c : Nat} {ag : Bool} {by_ : Nat} {z : Option Value} (j : Nat) (ht : P.underlying t = some (.slice e)) (he : tyRow P e = some (ag, 1, z, by_)) (hx : ev l x = some (.slice (some ⟨b, o, none⟩) n c)) (hy : ev l y = some (.int k i)) (hij : i = (j : Int)) (hj : j < n) :
    Does P l (.indexAddr t x y) ty w (.pointer (some ⟨b, o + j, none⟩)) w := by
  have h := Does.indexAddr (P := P) (l := l) (w := w) (ty := ty) ht he hx hy (by omega) (by omega)
  rw [hij, Int.toNat_natCast, Nat.mul_one] at h
  exact h
theorem Does.slice_own {t e : TypeId} {x y y' : Operand} {k k' : IntKind} {i i' : Int} {b n c : Nat} {ag : Bool} {by_ : Nat} {z : Option Value} (j j' : Nat) (ht : P.underlying t = some (.slice e)) (he : tyRow P e = some (ag, 1, z, by_)) (hx : ev l x = some (.slice (some ⟨b, 0, none⟩) n c)) (hy : ev l y = some (.int k i)) (hy' : ev l y' = some (.int k' i')) (hij : i = (j : Int)) (hij' : i' = (j' : Int)) (hj : j ≤ j' ∧ j < c) (hj' : j' ≤ c) :
    Does P l (.slice t x (some y) (some y') none) ty w (.slice (some ⟨b, j, none⟩) (j' - j) (c - j)) w := by
  have h := Does.slice_lohi (P := P) (l := l) (w := w) (ty := ty) j j' ht he hx hy hy' hij hij' hj.1 hj'
  rw [if_neg (by omega)] at h
  simp only [Option.map_some, add_flat, Nat.mul_one, Nat.zero_add] at h
  exact h
theorem Does.slice_own0 {t e : TypeId} {x y' : Operand} {k' : IntKind} {i' : Int} {b n c : Nat} {ag : Bool} {by_ : Nat} {z : Option Value} (j j' : Nat) (ht : P.underlying t = some (.slice e)) (he : tyRow P e = some (ag, 1, z, by_)) (hx : ev l x = some (.slice (some ⟨b, 0, none⟩) n c)) (hy' : ev l y' = some (.int k' i')) (hj0 : j = 0) (hij' : i' = (j' : Int)) (hz : j = j) (hj' : j' ≤ c) :
    Does P l (.slice t x none (some y') none) ty w (.slice (some ⟨b, j, none⟩) (j' - j) (c - j)) w := by
  subst hj0
  exact Does.slice_hi (P := P) (l := l) (w := w) (ty := ty) j' ht he hx hy' hij' hj'
/-! ### a part of a row -/
def putAt (us : List UInt32) (o : Nat) (xs : List UInt32) : List UInt32 := us.take o ++ xs ++ us.drop (o + xs.length)
theorem putAt_length {us : List UInt32} {o : Nat} {xs : List UInt32} (h : o + xs.length ≤ us.length) : (putAt us o xs).length = us.length := by simp [putAt]; omega
theorem putAt_nil (us : List UInt32) (o : Nat) : putAt us o [] = us := by simp [putAt]
theorem putAt_set {us : List UInt32} {o k : Nat} {xs : List UInt32} (hk : xs.length = k) (h : o + k < us.length) (w : UInt32) : (putAt us o xs).set (o + k) w = putAt us o (xs ++ [w]) := by
  subst hk
  unfold putAt
  rw [List.append_assoc, List.set_append_right _ _ (by simp; omega), List.length_take, Nat.min_eq_left (by omega), show o + xs.length - o = xs.length by omega, List.set_append_right _ _ (Nat.le_refl _), Nat.sub_self]
  rw [List.drop_eq_getElem_cons (by omega), List.set_cons_zero]
  simp [List.append_assoc, Nat.add_assoc]
theorem putAt_get {us : List UInt32} {o j : Nat} {xs : List UInt32} (h : o + xs.length ≤ us.length) (hj : xs.length ≤ j) : (putAt us o xs).getD (o + j) 0 = us.getD (o + j) 0 := by
  unfold putAt
  simp only [List.getD]
  rw [List.append_assoc, List.getElem?_append_right (by simp; omega), List.getElem?_append_right (by simp; omega), List.getElem?_drop]
  simp only [List.length_take]
  congr 2; omega
theorem putAt_putAt {us : List UInt32} {o : Nat} {xs ys : List UInt32} (h : o + ys.length ≤ us.length) (hl : xs.length = ys.length) : putAt (putAt us o xs) o ys = putAt us o ys := by
  refine List.ext_getElem (by rw [putAt_length (by rw [putAt_length (by omega)]; omega), putAt_length (by omega), putAt_length h]) fun i h1 h2 => ?_
  simp only [putAt, List.getElem_append, List.getElem_take, List.getElem_drop, List.length_append, List.length_take, List.length_drop]
  split <;> split <;> (try split) <;> (try split) <;> (try split) <;> simp_all <;> (try omega) <;> congr 1 <;> omega
end
end Go.Proofs.Ytgfomedobfaidaa
