/-
  More operations: a byte of a constant string; a number's words as a row that grows.
-/
import Derived.Test.YtgfomedobfaidaaWire
import Derived.Test.YtgfomedobfaidaaBits
set_option linter.unusedVariables false
set_option linter.unusedSimpArgs false
namespace Go.Proofs.Ytgfomedobfaidaa
open Go.RowKit

/-- Where an element of a row stands. -/
def ElV (cs : List Value) (j : Nat) : VP := fun lab w v => ∃ A, v = .pointer (Option.map (fun zq => Addr.add zq j) A) ∧ RowAt lab w A cs
theorem ElV.pers (cs : List Value) (j : Nat) : Pers (ElV cs j) := ⟨fun s ⟨A, h, h1⟩ => ⟨A, h, h1.lift s⟩⟩
theorem BytesV.release {lab : Lab} {w : World} {d b n : Nat} {t : TypeId} {ws : List UInt8} (h : Own lab w d b t (ws.map u8).toArray) (hn : ws.length = n) (hc : n ≤ 9223372036854775807) : BytesV ws (labFree lab d) w (.slice (some ⟨b, 0, none⟩) n n) := by
  subst hn
  exact ⟨_, _, rfl, Nat.le_refl _, hc, RowAt.release h 0 _ (fun j v hj => by simpa using hj)⟩
theorem WordsV.release {lab : Lab} {w : World} {d b n : Nat} {t : TypeId} {ws : List UInt32} (h : Own lab w d b t (ws.map u32).toArray) (hn : ws.length = n) (hc : n ≤ 9223372036854775807) : WordsV ws (labFree lab d) w (.slice (some ⟨b, 0, none⟩) n n) := by
  subst hn
  exact ⟨_, _, rfl, Nat.le_refl _, hc, RowAt.release h 0 _ (fun j v hj => by simpa using hj)⟩
section
variable {P : Program} {N : Nat} {l : List (Nat × Value)} {w : World} {lab : Lab} {ty : TypeId}
theorem Does.index_str {t : TypeId} {x y : Operand} {s : List UInt8} {k : IntKind} {i : Int} (j : Nat) (ht : P.underlying t = some .string) (hx : ev l x = some (str s)) (hy : ev l y = some (.int k i)) (hij : i = (j : Int)) (hj : j < s.length) : Does P l (.index t x y) ty w (u8 (s.getD j 0)) w := by
  intro ρ hρ d pos af g
  subst hij
  have e : (⟨s.toArray⟩ : ByteArray)[j]? = some (s.getD j 0) := by
    rw [ByteArray.getElem?_lt' _ _ (by simpa [ByteArray.size] using hj)]
    simp [List.getD, List.getElem?_eq_getElem hj, ByteArray.get]
    rfl
  simp only [execOp, Instr.index, hρ _ _ hx, hρ _ _ hy, asIntOf, Sem.run_bind, Sem.run_pure, Result.andThen_ok, run_underlying ht, Int.natCast_nonneg, if_true, Int.toNat_natCast, e]
end

/-! ### math/bits.Len32 -/
theorem shr_toNat (x : UInt32) (k : Nat) (hk : k < 32) : (x >>> UInt32.ofNat k).toNat = x.toNat / 2 ^ k := by
  rw [UInt32.toNat_shiftRight, UInt32.toNat_ofNat_of_lt' (by simp [UInt32.size]; omega), Nat.mod_eq_of_lt hk, Nat.shiftRight_eq_div_pow]
theorem len32_u8 {y : UInt32} (h : y.toNat < 256) : ((len8tab.getD y.toUInt8.toNat 0).toNat : Int) = (blen y.toNat : Int) := by
  rw [UInt32.toNat_toUInt8, Nat.mod_eq_of_lt h]; exact blen_u8 h
theorem len32_hi {x : UInt32} (k : Nat) (h : 2 ^ k ≤ x.toNat) (hk : k < 32) : blen x.toNat = blen (x >>> UInt32.ofNat k).toNat + k := by
  rw [shr_toNat _ _ hk]; exact blen_div h
theorem len32_a {x : UInt32} (h1 : (65536 : Int) ≤ x.toNat) (h2 : (256 : Int) ≤ (x >>> UInt32.ofNat 16).toNat) : (16 : Int) + 8 + ((len8tab.getD (x >>> UInt32.ofNat 16 >>> UInt32.ofNat 8).toUInt8.toNat 0).toNat : Int) = (blen x.toNat : Int) := by
  have hx := x.toNat_lt
  have e1 := len32_hi (x := x) 16 (by omega) (by omega)
  have e2 := len32_hi (x := x >>> UInt32.ofNat 16) 8 (by omega) (by omega)
  have e3 := shr_toNat (x >>> UInt32.ofNat 16) 8 (by omega)
  have e4 := shr_toNat x 16 (by omega)
  rw [len32_u8 (by rw [e3, e4]; omega)]
  omega
theorem len32_b {x : UInt32} (h1 : (65536 : Int) ≤ x.toNat) (h2 : ¬ (256 : Int) ≤ (x >>> UInt32.ofNat 16).toNat) : (16 : Int) + ((len8tab.getD (x >>> UInt32.ofNat 16).toUInt8.toNat 0).toNat : Int) = (blen x.toNat : Int) := by
  have e1 := len32_hi (x := x) 16 (by omega) (by omega)
  rw [len32_u8 (by omega)]
  omega
theorem len32_c {x : UInt32} (h1 : ¬ (65536 : Int) ≤ x.toNat) (h2 : (256 : Int) ≤ x.toNat) : (0 : Int) + 8 + ((len8tab.getD (x >>> UInt32.ofNat 8).toUInt8.toNat 0).toNat : Int) = (blen x.toNat : Int) := by
  have e2 := len32_hi (x := x) 8 (by omega) (by omega)
  have e3 := shr_toNat x 8 (by omega)
  rw [len32_u8 (by omega)]
  omega
theorem len32_d {x : UInt32} (h2 : ¬ (256 : Int) ≤ x.toNat) : (0 : Int) + ((len8tab.getD x.toUInt8.toNat 0).toNat : Int) = (blen x.toNat : Int) := by
  rw [len32_u8 (by omega)]
  omega
theorem bits_nz {a : Nat} (h : ¬ ((nw a : Nat) : Int) = 0) : a ≠ 0 := fun e => by subst e; simp [nw_zero] at h
theorem bits_zero {a : Nat} (h : ((nw a : Nat) : Int) = 0) : (0 : Int) = ((blen a : Nat) : Int) := by
  have : a = 0 := by
    have h0 : limbs a = [] := List.eq_nil_of_length_eq_zero (by have : (limbs a).length = nw a := rfl; omega)
    rw [← wv_limbs a, h0]; rfl
  subst this; rfl
theorem bits_pos {a : Nat} (h : ¬ ((nw a : Nat) : Int) = 0) : (32 : Int) * (((nw a : Nat) : Int) - 1) + ((blen (List.getD (limbs a) ((((nw a : Nat) : Int) - 1).toNat) (0 : UInt32)).toNat : Nat) : Int) = ((blen a : Nat) : Int) := by
  have h1 := bits_nz h
  have h2 := nw_pos_of h1
  rw [show (((nw a : Nat) : Int) - 1).toNat = nw a - 1 by omega]
  have := blen_limbs h1
  omega
theorem bytes_step {a k : Nat} {size : Int} (h0 : 0 ≤ size) (h : ((k : Nat) : Int) < size) : List.set (beUp a (Int.toNat size) k) (size - 1 - ((k : Nat) : Int)).toNat ((List.getD (limbs a) (((k : Nat) : Int) / 4).toNat (0 : UInt32)) >>> UInt32.ofNat (8 * (((k : Nat) : Int) % 4)).toNat).toUInt8 = beUp a (Int.toNat size) (k + 1) := by
  rw [show (((k : Nat) : Int) / 4).toNat = k / 4 by omega, show (8 * (((k : Nat) : Int) % 4)).toNat = 8 * (k % 4) by omega, byte_limb, show (size - 1 - ((k : Nat) : Int)).toNat = size.toNat - 1 - k by omega]
  exact beUp_set (by omega)
end Go.Proofs.Ytgfomedobfaidaa
