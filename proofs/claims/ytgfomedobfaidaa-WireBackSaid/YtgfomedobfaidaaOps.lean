/-
  What each operation does, one law an operation.
-/
import Derived.Test.YtgfomedobfaidaaBase
set_option linter.unusedVariables false
set_option linter.unusedSimpArgs false
namespace Go.Proofs.Ytgfomedobfaidaa
open Go.RowKit

@[reducible] def u8 (x : UInt8) : Value := .int .u8 (x.toNat : Int)
@[reducible] def u32 (x : UInt32) : Value := .int .u32 (x.toNat : Int)
@[reducible] def u64 (x : UInt64) : Value := .int .u64 (x.toNat : Int)
@[reducible] def i64 (n : Int) : Value := .int .i64 n

def aggB : TypeDesc → Bool
  | .struct _ | .array _ _ => true
  | _ => false
/-- A type: is it an aggregate; its cells; its zero value; its bytes. -/
def tyRow (P : Program) (t : TypeId) : Option (Bool × Nat × Option Value × Nat) :=
  match P.underlying t, P.info? t with
  | some d, some i => some (aggB d, i.size, i.zero, i.bytes)
  | _, _ => none

section
variable {P : Program} {N : Nat} {l : List (Nat × Value)} {w : World} {ty : TypeId}

theorem tyRow_info {t : TypeId} {ag : Bool} {n by_ : Nat} {z : Option Value} (h : tyRow P t = some (ag, n, z, by_)) :
    ∃ i d, P.info? t = some i ∧ P.underlying t = some d ∧ aggB d = ag ∧ i.size = n ∧ i.zero = z ∧ i.bytes = by_ := by
  unfold tyRow at h
  cases hd : P.underlying t with
  | none => simp [hd] at h
  | some d =>
    cases hi : P.info? t with
    | none => simp [hd, hi] at h
    | some i => simp [hd, hi] at h; exact ⟨i, d, rfl, rfl, h.1, h.2.1, h.2.2.1, h.2.2.2⟩
theorem run_isAgg' {t : TypeId} {ag : Bool} {n by_ : Nat} {z : Option Value} (h : tyRow P t = some (ag, n, z, by_)) : (isAgg t).run P w = .ok ag w := by
  obtain ⟨i, d, h1, h2, h3, _⟩ := tyRow_info h
  subst h3
  simp only [isAgg, Sem.run_bind, run_underlying h2, Result.andThen_ok]
  cases d <;> rfl
theorem run_sizeOf' {t : TypeId} {ag : Bool} {n by_ : Nat} {z : Option Value} (h : tyRow P t = some (ag, n, z, by_)) : (sizeOf t).run P w = .ok n w := by
  obtain ⟨i, d, h1, h2, h3, h4, _⟩ := tyRow_info h
  subst h4
  simp [sizeOf, typeInfo, h1]
theorem run_typeInfo' {t : TypeId} {ag : Bool} {n by_ : Nat} {z : Option Value} (h : tyRow P t = some (ag, n, z, by_)) : ∃ i, (typeInfo t).run P w = .ok i w ∧ i.bytes = by_ ∧ i.size = n := by
  obtain ⟨i, d, h1, h2, h3, h4, h5, h6⟩ := tyRow_info h
  exact ⟨i, by simp [typeInfo, h1], h6, h4⟩
theorem run_zero' {t : TypeId} {ag : Bool} {n by_ : Nat} {z : Value} (h : tyRow P t = some (ag, n, some z, by_)) : (zeroValue t).run P w = .ok z w := by
  obtain ⟨i, d, h1, h2, h3, h4, h5, _⟩ := tyRow_info h
  simp [zeroValue, typeInfo, h1, h5]

/-! ### moves -/
theorem Does.move {x : Operand} {v : Value} (hx : ev l x = some v) : Does P l (.move x) ty w v w := by
  intro ρ hρ d pos af g
  simp [execOp, hρ _ _ hx]
theorem Does.assign {x : Operand} {v : Value} (hx : ev l x = some v) : Does P l (.assign x) ty w v w := by
  intro ρ hρ d pos af g
  simp [execOp, hρ _ _ hx]
theorem Does.pick_t {c x y : Operand} {v : Value} (hc : ev l c = some (.bool true)) (hx : ev l x = some v) : Does P l (.pick c x y) ty w v w := by
  intro ρ hρ d pos af g
  simp [execOp, hρ _ _ hx, hρ _ _ hc, asBool]
theorem Does.pick_f {c x y : Operand} {v : Value} (hc : ev l c = some (.bool false)) (hy : ev l y = some v) : Does P l (.pick c x y) ty w v w := by
  intro ρ hρ d pos af g
  simp [execOp, hρ _ _ hy, hρ _ _ hc, asBool]
theorem Does.extract {x : Operand} {vs : Array Value} {i : Nat} {v : Value} (hx : ev l x = some (.tuple vs)) (hi : vs[i]? = some v) : Does P l (.extract x i) ty w v w := by
  intro ρ hρ d pos af g
  simp [execOp, hρ _ _ hx, Instr.extract, hi]
theorem Does.nilCheck {x : Operand} {a : Addr} (hx : ev l x = some (.pointer (some a))) : Does P l (.nilCheck x) ty w (.pointer (some a)) w := by
  intro ρ hρ d pos af g
  simp [execOp, hρ _ _ hx]

/-! ### numbers -/
theorem run_binOp_int {op : BinOp} {t : TypeId} {x y : Operand} {yt : TypeId} {k : IntKind} {a b : Int} {v : Value} (hx : ev l x = some (.int k a)) (hy : ev l y = some (.int k b))
    (h : (binOp op t (.int k a) (.int k b)).run P w = .ok v w) : Does P l (.binOp op t x y yt) ty w v w := by
  intro ρ hρ d pos af g
  have hg : (eqGuard op t x y (.int k a) (.int k b)).run P w = .ok () w := by
    cases op <;> rfl
  simp only [execOp, hρ _ _ hx, hρ _ _ hy, Sem.run_bind, hg, Result.andThen_ok, h]
  rfl
theorem i64_wrap_in {n : Int} (h1 : -9223372036854775808 ≤ n) (h2 : n < 9223372036854775808) : IntKind.i64.wrap n = n := by
  rw [IntKind.wrap_i64]; omega
theorem Does.add {t yt : TypeId} {x y : Operand} {a b : Int} (hx : ev l x = some (i64 a)) (hy : ev l y = some (i64 b)) (hr : -9223372036854775808 ≤ a + b ∧ a + b < 9223372036854775808) : Does P l (.binOp .add t x y yt) ty w (i64 (a + b)) w :=
  run_binOp_int hx hy (by simp only [binOp, Op.intArith, ne_eq, not_true, if_false]; rw [i64_wrap_in hr.1 hr.2]; rfl)
theorem Does.sub {t yt : TypeId} {x y : Operand} {a b : Int} (hx : ev l x = some (i64 a)) (hy : ev l y = some (i64 b)) (hr : -9223372036854775808 ≤ a - b ∧ a - b < 9223372036854775808) : Does P l (.binOp .sub t x y yt) ty w (i64 (a - b)) w :=
  run_binOp_int hx hy (by simp only [binOp, Op.intArith, ne_eq, not_true, if_false]; rw [i64_wrap_in hr.1 hr.2]; rfl)
theorem Does.mul {t yt : TypeId} {x y : Operand} {a b : Int} (hx : ev l x = some (i64 a)) (hy : ev l y = some (i64 b)) (hr : -9223372036854775808 ≤ a * b ∧ a * b < 9223372036854775808) : Does P l (.binOp .mul t x y yt) ty w (i64 (a * b)) w :=
  run_binOp_int hx hy (by simp only [binOp, Op.intArith, ne_eq, not_true, if_false]; rw [i64_wrap_in hr.1 hr.2]; rfl)
theorem Does.quo {t yt : TypeId} {x y : Operand} {a b : Int} (hx : ev l x = some (i64 a)) (hy : ev l y = some (i64 b)) (h0 : 0 ≤ a) (hb : 0 < b) (hr : a < 9223372036854775808) : Does P l (.binOp .quo t x y yt) ty w (i64 (a / b)) w :=
  run_binOp_int hx hy (by
    have h1 : 0 ≤ a / b := Int.ediv_nonneg h0 (by omega)
    have h2 : a / b ≤ a := Int.ediv_le_self _ h0
    simp only [binOp, Op.intDiv, ne_eq, not_true, if_false]; rw [if_neg (by omega), Int.tdiv_eq_ediv_of_nonneg h0, i64_wrap_in (by omega) (by omega)]; rfl)
theorem Does.rem {t yt : TypeId} {x y : Operand} {a b : Int} (hx : ev l x = some (i64 a)) (hy : ev l y = some (i64 b)) (h0 : 0 ≤ a) (hb : 0 < b) : Does P l (.binOp .rem t x y yt) ty w (i64 (a % b)) w :=
  run_binOp_int hx hy (by
    simp only [binOp, Op.intDiv, ne_eq, not_true, if_false]; rw [if_neg (by omega), Int.tmod_eq_emod_of_nonneg h0]; rfl)
/-- Comparisons, of whatever kind. -/
theorem Does.eql {t yt : TypeId} {x y : Operand} {k : IntKind} {a b : Int} (hx : ev l x = some (.int k a)) (hy : ev l y = some (.int k b)) : Does P l (.binOp .eql t x y yt) ty w (.bool (decide (a = b))) w :=
  run_binOp_int hx hy (by simp only [binOp, Op.intCmp, ne_eq, not_true, if_false]; rfl)
theorem Does.neq {t yt : TypeId} {x y : Operand} {k : IntKind} {a b : Int} (hx : ev l x = some (.int k a)) (hy : ev l y = some (.int k b)) : Does P l (.binOp .neq t x y yt) ty w (.bool (decide (a ≠ b))) w :=
  run_binOp_int hx hy (by
    have e : (a != b) = decide (a ≠ b) := by rw [Bool.eq_iff_iff]; simp
    simp only [binOp, Op.intCmp, ne_eq, not_true, if_false]; rw [e]; rfl)
theorem Does.lss {t yt : TypeId} {x y : Operand} {k : IntKind} {a b : Int} (hx : ev l x = some (.int k a)) (hy : ev l y = some (.int k b)) : Does P l (.binOp .lss t x y yt) ty w (.bool (decide (a < b))) w :=
  run_binOp_int hx hy (by simp only [binOp, Op.intCmp, ne_eq, not_true, if_false]; rfl)
theorem Does.leq {t yt : TypeId} {x y : Operand} {k : IntKind} {a b : Int} (hx : ev l x = some (.int k a)) (hy : ev l y = some (.int k b)) : Does P l (.binOp .leq t x y yt) ty w (.bool (decide (a ≤ b))) w :=
  run_binOp_int hx hy (by simp only [binOp, Op.intCmp, ne_eq, not_true, if_false]; rfl)
theorem Does.gtr {t yt : TypeId} {x y : Operand} {k : IntKind} {a b : Int} (hx : ev l x = some (.int k a)) (hy : ev l y = some (.int k b)) : Does P l (.binOp .gtr t x y yt) ty w (.bool (decide (b < a))) w :=
  run_binOp_int hx hy (by simp only [binOp, Op.intCmp, ne_eq, not_true, if_false]; rfl)
theorem Does.geq {t yt : TypeId} {x y : Operand} {k : IntKind} {a b : Int} (hx : ev l x = some (.int k a)) (hy : ev l y = some (.int k b)) : Does P l (.binOp .geq t x y yt) ty w (.bool (decide (b ≤ a))) w :=
  run_binOp_int hx hy (by simp only [binOp, Op.intCmp, ne_eq, not_true, if_false]; rfl)

/-! unsigned -/
theorem ofInt8 (x : UInt8) : BitVec.ofInt 8 (x.toNat : Int) = x.toBitVec := by rw [BitVec.ofInt_natCast]; simp
theorem ofInt32 (x : UInt32) : BitVec.ofInt 32 (x.toNat : Int) = x.toBitVec := by rw [BitVec.ofInt_natCast]; simp
theorem ofInt64 (x : UInt64) : BitVec.ofInt 64 (x.toNat : Int) = x.toBitVec := by rw [BitVec.ofInt_natCast]; simp
theorem wrap8 (n : Nat) : IntKind.u8.wrap (n : Int) = ((UInt8.ofNat n).toNat : Int) := by rw [IntKind.wrap_u8']; simp
theorem wrap32' (n : Nat) : IntKind.u32.wrap (n : Int) = ((UInt32.ofNat n).toNat : Int) := by rw [IntKind.wrap_u32']; simp
theorem wrap64'' (n : Nat) : IntKind.u64.wrap (n : Int) = ((UInt64.ofNat n).toNat : Int) := by rw [IntKind.wrap_u64]; simp

theorem back8 (v : BitVec 8) : IntKind.u8.wrap (v.toNat : Int) = ((UInt8.ofBitVec v).toNat : Int) := by have := v.isLt; rw [IntKind.wrap_u8']; simp only [UInt8.toNat_ofBitVec]; omega
theorem back32 (v : BitVec 32) : IntKind.u32.wrap (v.toNat : Int) = ((UInt32.ofBitVec v).toNat : Int) := by have := v.isLt; rw [IntKind.wrap_u32']; simp only [UInt32.toNat_ofBitVec]; omega
theorem back64 (v : BitVec 64) : IntKind.u64.wrap (v.toNat : Int) = ((UInt64.ofBitVec v).toNat : Int) := by have := v.isLt; rw [IntKind.wrap_u64]; simp only [UInt64.toNat_ofBitVec]; omega
theorem Does.u32_add {t yt : TypeId} {x y : Operand} {a b : UInt32} (hx : ev l x = some (u32 a)) (hy : ev l y = some (u32 b)) : Does P l (.binOp .add t x y yt) ty w (u32 (a + b)) w :=
  run_binOp_int hx hy (by
    have e : IntKind.u32.wrap ((a.toNat : Int) + b.toNat) = ((a + b).toNat : Int) := by rw [IntKind.wrap_u32', UInt32.toNat_add]; omega
    simp only [binOp, Op.intArith, ne_eq, not_true, if_false, e]; rfl)
theorem Does.u32_sub {t yt : TypeId} {x y : Operand} {a b : UInt32} (hx : ev l x = some (u32 a)) (hy : ev l y = some (u32 b)) : Does P l (.binOp .sub t x y yt) ty w (u32 (a - b)) w :=
  run_binOp_int hx hy (by
    have e : IntKind.u32.wrap ((a.toNat : Int) - b.toNat) = ((a - b).toNat : Int) := by
      have := a.toNat_lt; have := b.toNat_lt
      rw [IntKind.wrap_u32', UInt32.toNat_sub]; omega
    simp only [binOp, Op.intArith, ne_eq, not_true, if_false, e]; rfl)
theorem Does.u64_add {t yt : TypeId} {x y : Operand} {a b : UInt64} (hx : ev l x = some (u64 a)) (hy : ev l y = some (u64 b)) : Does P l (.binOp .add t x y yt) ty w (u64 (a + b)) w :=
  run_binOp_int hx hy (by
    have e : IntKind.u64.wrap ((a.toNat : Int) + b.toNat) = ((a + b).toNat : Int) := by rw [IntKind.wrap_u64, UInt64.toNat_add]; omega
    simp only [binOp, Op.intArith, ne_eq, not_true, if_false, e]; rfl)
theorem Does.u64_sub {t yt : TypeId} {x y : Operand} {a b : UInt64} (hx : ev l x = some (u64 a)) (hy : ev l y = some (u64 b)) : Does P l (.binOp .sub t x y yt) ty w (u64 (a - b)) w :=
  run_binOp_int hx hy (by
    have e : IntKind.u64.wrap ((a.toNat : Int) - b.toNat) = ((a - b).toNat : Int) := by
      have := a.toNat_lt; have := b.toNat_lt
      rw [IntKind.wrap_u64, UInt64.toNat_sub]; omega
    simp only [binOp, Op.intArith, ne_eq, not_true, if_false, e]; rfl)
theorem Does.u64_mul {t yt : TypeId} {x y : Operand} {a b : UInt64} (hx : ev l x = some (u64 a)) (hy : ev l y = some (u64 b)) : Does P l (.binOp .mul t x y yt) ty w (u64 (a * b)) w :=
  run_binOp_int hx hy (by
    have e : IntKind.u64.wrap ((a.toNat : Int) * b.toNat) = ((a * b).toNat : Int) := by
      rw [IntKind.wrap_u64, UInt64.toNat_mul, ← Int.natCast_mul]; omega
    simp only [binOp, Op.intArith, ne_eq, not_true, if_false, e]; rfl)
theorem Does.u64_quo {t yt : TypeId} {x y : Operand} {a b : UInt64} (hx : ev l x = some (u64 a)) (hy : ev l y = some (u64 b)) (hb : b.toNat ≠ 0) : Does P l (.binOp .quo t x y yt) ty w (u64 (a / b)) w :=
  run_binOp_int hx hy (by
    have e : IntKind.u64.wrap ((a.toNat : Int).tdiv b.toNat) = ((a / b).toNat : Int) := by
      have h := a.toNat_lt
      have h2 : a.toNat / b.toNat ≤ a.toNat := Nat.div_le_self _ _
      rw [IntKind.wrap_u64, UInt64.toNat_div, Int.tdiv_eq_ediv_of_nonneg (by omega), ← Int.natCast_ediv]
      generalize a.toNat / b.toNat = q at *
      omega
    simp only [binOp, Op.intDiv, ne_eq, not_true, if_false]; rw [if_neg (by omega), e]; rfl)
theorem Does.u64_rem {t yt : TypeId} {x y : Operand} {a b : UInt64} (hx : ev l x = some (u64 a)) (hy : ev l y = some (u64 b)) (hb : b.toNat ≠ 0) : Does P l (.binOp .rem t x y yt) ty w (u64 (a % b)) w :=
  run_binOp_int hx hy (by
    have e : ((a.toNat : Int).tmod b.toNat) = ((a % b).toNat : Int) := by
      rw [UInt64.toNat_mod, Int.tmod_eq_emod_of_nonneg (by omega), ← Int.natCast_emod]
    simp only [binOp, Op.intDiv, ne_eq, not_true, if_false]; rw [if_neg (by omega), e]; rfl)

theorem Does.u8_and {t yt : TypeId} {x y : Operand} {a b : UInt8} (hx : ev l x = some (u8 a)) (hy : ev l y = some (u8 b)) : Does P l (.binOp .and t x y yt) ty w (u8 (a &&& b)) w :=
  run_binOp_int hx hy (by
    have e : IntKind.u8.wrap ((BitVec.ofInt 8 (a.toNat : Int) &&& BitVec.ofInt 8 (b.toNat : Int)).toNat : Int) = ((a &&& b).toNat : Int) := by rw [ofInt8, ofInt8, back8]; rfl
    simp only [binOp, Op.intBits, ne_eq, not_true, if_false]; exact congrArg (fun z => Result.ok (Value.int .u8 z) w) e)
theorem Does.u8_or {t yt : TypeId} {x y : Operand} {a b : UInt8} (hx : ev l x = some (u8 a)) (hy : ev l y = some (u8 b)) : Does P l (.binOp .or t x y yt) ty w (u8 (a ||| b)) w :=
  run_binOp_int hx hy (by
    have e : IntKind.u8.wrap ((BitVec.ofInt 8 (a.toNat : Int) ||| BitVec.ofInt 8 (b.toNat : Int)).toNat : Int) = ((a ||| b).toNat : Int) := by rw [ofInt8, ofInt8, back8]; rfl
    simp only [binOp, Op.intBits, ne_eq, not_true, if_false]; exact congrArg (fun z => Result.ok (Value.int .u8 z) w) e)
theorem Does.u8_xor {t yt : TypeId} {x y : Operand} {a b : UInt8} (hx : ev l x = some (u8 a)) (hy : ev l y = some (u8 b)) : Does P l (.binOp .xor t x y yt) ty w (u8 (a ^^^ b)) w :=
  run_binOp_int hx hy (by
    have e : IntKind.u8.wrap ((BitVec.ofInt 8 (a.toNat : Int) ^^^ BitVec.ofInt 8 (b.toNat : Int)).toNat : Int) = ((a ^^^ b).toNat : Int) := by rw [ofInt8, ofInt8, back8]; rfl
    simp only [binOp, Op.intBits, ne_eq, not_true, if_false]; exact congrArg (fun z => Result.ok (Value.int .u8 z) w) e)
theorem Does.u32_and {t yt : TypeId} {x y : Operand} {a b : UInt32} (hx : ev l x = some (u32 a)) (hy : ev l y = some (u32 b)) : Does P l (.binOp .and t x y yt) ty w (u32 (a &&& b)) w :=
  run_binOp_int hx hy (by
    have e : IntKind.u32.wrap ((BitVec.ofInt 32 (a.toNat : Int) &&& BitVec.ofInt 32 (b.toNat : Int)).toNat : Int) = ((a &&& b).toNat : Int) := by rw [ofInt32, ofInt32, back32]; rfl
    simp only [binOp, Op.intBits, ne_eq, not_true, if_false]; exact congrArg (fun z => Result.ok (Value.int .u32 z) w) e)
theorem Does.u32_or {t yt : TypeId} {x y : Operand} {a b : UInt32} (hx : ev l x = some (u32 a)) (hy : ev l y = some (u32 b)) : Does P l (.binOp .or t x y yt) ty w (u32 (a ||| b)) w :=
  run_binOp_int hx hy (by
    have e : IntKind.u32.wrap ((BitVec.ofInt 32 (a.toNat : Int) ||| BitVec.ofInt 32 (b.toNat : Int)).toNat : Int) = ((a ||| b).toNat : Int) := by rw [ofInt32, ofInt32, back32]; rfl
    simp only [binOp, Op.intBits, ne_eq, not_true, if_false]; exact congrArg (fun z => Result.ok (Value.int .u32 z) w) e)
theorem Does.u32_xor {t yt : TypeId} {x y : Operand} {a b : UInt32} (hx : ev l x = some (u32 a)) (hy : ev l y = some (u32 b)) : Does P l (.binOp .xor t x y yt) ty w (u32 (a ^^^ b)) w :=
  run_binOp_int hx hy (by
    have e : IntKind.u32.wrap ((BitVec.ofInt 32 (a.toNat : Int) ^^^ BitVec.ofInt 32 (b.toNat : Int)).toNat : Int) = ((a ^^^ b).toNat : Int) := by rw [ofInt32, ofInt32, back32]; rfl
    simp only [binOp, Op.intBits, ne_eq, not_true, if_false]; exact congrArg (fun z => Result.ok (Value.int .u32 z) w) e)
theorem Does.u64_and {t yt : TypeId} {x y : Operand} {a b : UInt64} (hx : ev l x = some (u64 a)) (hy : ev l y = some (u64 b)) : Does P l (.binOp .and t x y yt) ty w (u64 (a &&& b)) w :=
  run_binOp_int hx hy (by
    have e : IntKind.u64.wrap ((BitVec.ofInt 64 (a.toNat : Int) &&& BitVec.ofInt 64 (b.toNat : Int)).toNat : Int) = ((a &&& b).toNat : Int) := by rw [ofInt64, ofInt64, back64]; rfl
    simp only [binOp, Op.intBits, ne_eq, not_true, if_false]; exact congrArg (fun z => Result.ok (Value.int .u64 z) w) e)
theorem Does.u64_or {t yt : TypeId} {x y : Operand} {a b : UInt64} (hx : ev l x = some (u64 a)) (hy : ev l y = some (u64 b)) : Does P l (.binOp .or t x y yt) ty w (u64 (a ||| b)) w :=
  run_binOp_int hx hy (by
    have e : IntKind.u64.wrap ((BitVec.ofInt 64 (a.toNat : Int) ||| BitVec.ofInt 64 (b.toNat : Int)).toNat : Int) = ((a ||| b).toNat : Int) := by rw [ofInt64, ofInt64, back64]; rfl
    simp only [binOp, Op.intBits, ne_eq, not_true, if_false]; exact congrArg (fun z => Result.ok (Value.int .u64 z) w) e)

theorem run_binOp_shift {op : BinOp} {t : TypeId} {x y : Operand} {yt : TypeId} {k yk : IntKind} {a b : Int} {v : Value} (ho : op = .shl ∨ op = .shr) (hx : ev l x = some (.int k a)) (hy : ev l y = some (.int yk b))
    (h : (Op.shift op k a yk b).run P w = .ok v w) : Does P l (.binOp op t x y yt) ty w v w := by
  intro ρ hρ d pos af g
  have hg : (eqGuard op t x y (.int k a) (.int yk b)).run P w = .ok () w := by
    cases op <;> rfl
  have hb : binOp op t (.int k a) (.int yk b) = Op.shift op k a yk b := by rcases ho with rfl | rfl <;> rfl
  simp only [execOp, hρ _ _ hx, hρ _ _ hy, Sem.run_bind, hg, Result.andThen_ok, hb, h]
  rfl
theorem Does.u32_shl {t yt : TypeId} {x y : Operand} {yk : IntKind} {a : UInt32} {b : Int} (hx : ev l x = some (u32 a)) (hy : ev l y = some (.int yk b)) (h0 : 0 ≤ b) (h1 : b < 32) : Does P l (.binOp .shl t x y yt) ty w (u32 (a <<< UInt32.ofNat b.toNat)) w :=
  run_binOp_shift (.inl rfl) hx hy (by
    obtain ⟨n, rfl⟩ := Int.eq_ofNat_of_zero_le h0
    have e : IntKind.u32.wrap ((a.toNat : Int) * 2 ^ (min (n : Int).toNat IntKind.u32.bits)) = ((a <<< UInt32.ofNat (n : Int).toNat).toNat : Int) := by
      have hn : n < 32 := by omega
      rw [Int.toNat_natCast, show min n IntKind.u32.bits = n by simp [IntKind.bits]; omega, UInt32.toNat_shiftLeft, UInt32.toNat_ofNat_of_lt' (by simp [UInt32.size]; omega), IntKind.wrap_u32', Nat.mod_eq_of_lt hn, Nat.shiftLeft_eq]
      simp
    simp only [Op.shift]; rw [if_neg (by omega), e]; rfl)
theorem Does.u64_shl {t yt : TypeId} {x y : Operand} {yk : IntKind} {a : UInt64} {b : Int} (hx : ev l x = some (u64 a)) (hy : ev l y = some (.int yk b)) (h0 : 0 ≤ b) (h1 : b < 64) : Does P l (.binOp .shl t x y yt) ty w (u64 (a <<< UInt64.ofNat b.toNat)) w :=
  run_binOp_shift (.inl rfl) hx hy (by
    obtain ⟨n, rfl⟩ := Int.eq_ofNat_of_zero_le h0
    have e : IntKind.u64.wrap ((a.toNat : Int) * 2 ^ (min (n : Int).toNat IntKind.u64.bits)) = ((a <<< UInt64.ofNat (n : Int).toNat).toNat : Int) := by
      have hn : n < 64 := by omega
      rw [Int.toNat_natCast, show min n IntKind.u64.bits = n by simp [IntKind.bits]; omega, UInt64.toNat_shiftLeft, UInt64.toNat_ofNat_of_lt' (by simp [UInt64.size]; omega), IntKind.wrap_u64, Nat.mod_eq_of_lt hn, Nat.shiftLeft_eq]
      simp
    simp only [Op.shift]; rw [if_neg (by omega), e]; rfl)
theorem Does.u32_shr {t yt : TypeId} {x y : Operand} {yk : IntKind} {a : UInt32} {b : Int} (hx : ev l x = some (u32 a)) (hy : ev l y = some (.int yk b)) (h0 : 0 ≤ b) (h1 : b < 32) : Does P l (.binOp .shr t x y yt) ty w (u32 (a >>> UInt32.ofNat b.toNat)) w :=
  run_binOp_shift (.inr rfl) hx hy (by
    obtain ⟨n, rfl⟩ := Int.eq_ofNat_of_zero_le h0
    have e : ((a.toNat : Int).fdiv (2 ^ (min (n : Int).toNat IntKind.u32.bits))) = ((a >>> UInt32.ofNat (n : Int).toNat).toNat : Int) := by
      have hn : n < 32 := by omega
      rw [Int.toNat_natCast, show min n IntKind.u32.bits = n by simp [IntKind.bits]; omega, UInt32.toNat_shiftRight, UInt32.toNat_ofNat_of_lt' (by simp [UInt32.size]; omega), Nat.mod_eq_of_lt hn, Nat.shiftRight_eq_div_pow, Int.fdiv_eq_ediv_of_nonneg _ (Int.le_of_lt (Int.pow_pos (by omega)))]
      simp
    simp only [Op.shift]; rw [if_neg (by omega), e]; rfl)
theorem Does.u64_shr {t yt : TypeId} {x y : Operand} {yk : IntKind} {a : UInt64} {b : Int} (hx : ev l x = some (u64 a)) (hy : ev l y = some (.int yk b)) (h0 : 0 ≤ b) (h1 : b < 64) : Does P l (.binOp .shr t x y yt) ty w (u64 (a >>> UInt64.ofNat b.toNat)) w :=
  run_binOp_shift (.inr rfl) hx hy (by
    obtain ⟨n, rfl⟩ := Int.eq_ofNat_of_zero_le h0
    have e : ((a.toNat : Int).fdiv (2 ^ (min (n : Int).toNat IntKind.u64.bits))) = ((a >>> UInt64.ofNat (n : Int).toNat).toNat : Int) := by
      have hn : n < 64 := by omega
      rw [Int.toNat_natCast, show min n IntKind.u64.bits = n by simp [IntKind.bits]; omega, UInt64.toNat_shiftRight, UInt64.toNat_ofNat_of_lt' (by simp [UInt64.size]; omega), Nat.mod_eq_of_lt hn, Nat.shiftRight_eq_div_pow, Int.fdiv_eq_ediv_of_nonneg _ (Int.le_of_lt (Int.pow_pos (by omega)))]
      simp
    simp only [Op.shift]; rw [if_neg (by omega), e]; rfl)
theorem Does.i64_shr {t yt : TypeId} {x y : Operand} {yk : IntKind} {a : Int} {b : Int} (hx : ev l x = some (i64 a)) (hy : ev l y = some (.int yk b)) (ha : 0 ≤ a) (h0 : 0 ≤ b) (h1 : b < 64) : Does P l (.binOp .shr t x y yt) ty w (i64 (a / 2 ^ b.toNat)) w :=
  run_binOp_shift (.inr rfl) hx hy (by
    obtain ⟨n, rfl⟩ := Int.eq_ofNat_of_zero_le h0
    have e : (a.fdiv (2 ^ (min (n : Int).toNat IntKind.i64.bits))) = a / 2 ^ (n : Int).toNat := by
      have hn : n < 64 := by omega
      rw [Int.toNat_natCast, show min n IntKind.i64.bits = n by simp [IntKind.bits]; omega, Int.fdiv_eq_ediv_of_nonneg _ (Int.le_of_lt (Int.pow_pos (by omega)))]
    simp only [Op.shift]; rw [if_neg (by omega), e]; rfl)

theorem Does.not {t : TypeId} {x : Operand} {b : Bool} (hx : ev l x = some (.bool b)) : Does P l (.unOp .not t x) ty w (.bool (!b)) w := by
  intro ρ hρ d pos af g
  simp [execOp, hρ _ _ hx, Op.unary]
theorem Does.u32_not {t : TypeId} {x : Operand} {a : UInt32} (hx : ev l x = some (u32 a)) : Does P l (.unOp .xor t x) ty w (u32 (~~~ a)) w := by
  intro ρ hρ d pos af g
  have e : IntKind.u32.wrap ((BitVec.ofInt 32 IntKind.u32.max ^^^ BitVec.ofInt 32 (a.toNat : Int)).toNat : Int) = ((~~~ a).toNat : Int) := by
    have : BitVec.ofInt 32 IntKind.u32.max = BitVec.allOnes 32 := by decide
    rw [ofInt32, this, BitVec.allOnes_xor, back32]
    rfl
  have e2 : (Op.intBits .xor .u32 (if IntKind.u32.signed then -1 else IntKind.u32.max) (a.toNat : Int)).run P w = .ok (u32 (~~~ a)) w := by
    simp only [Op.intBits]; exact congrArg (fun z => Result.ok (Value.int .u32 z) w) e
  simp only [execOp, hρ _ _ hx, Op.unary, Sem.run_bind, e2, Result.andThen_ok]
  rfl

/-! conversions between numbers -/
theorem Does.conv_int {s t : TypeId} {x : Operand} {k k' : IntKind} {a b : Int} {ds : TypeDesc} (hs : P.underlying s = some ds) (ht : P.underlying t = some (.int k')) (hx : ev l x = some (.int k a)) (hb : k'.wrap a = b) : Does P l (.convert s t x) ty w (.int k' b) w := by
  intro ρ hρ d pos af g
  have h : (convert s t (.int k a)).run P w = .ok (.int k' b) w := by
    simp only [convert, Sem.run_bind, run_underlying hs, run_underlying ht, Result.andThen_ok, Conv.intToInt, hb]
    cases ds <;> rfl
  simp only [execOp, hρ _ _ hx, Sem.run_bind, h, Result.andThen_ok]
  rfl
theorem wrap_u8_u32 (a : UInt8) : IntKind.u32.wrap (a.toNat : Int) = (a.toUInt32.toNat : Int) := by rw [wrap32']; simp
theorem wrap_u8_u64 (a : UInt8) : IntKind.u64.wrap (a.toNat : Int) = (a.toUInt64.toNat : Int) := by rw [wrap64'']; simp
theorem wrap_u32_u64 (a : UInt32) : IntKind.u64.wrap (a.toNat : Int) = (a.toUInt64.toNat : Int) := by rw [wrap64'']; simp
theorem wrap_u64_u32 (a : UInt64) : IntKind.u32.wrap (a.toNat : Int) = (a.toUInt32.toNat : Int) := by rw [wrap32']; simp
theorem wrap_u64_u8 (a : UInt64) : IntKind.u8.wrap (a.toNat : Int) = (a.toUInt8.toNat : Int) := by rw [wrap8]; simp
theorem wrap_u32_u8 (a : UInt32) : IntKind.u8.wrap (a.toNat : Int) = (a.toUInt8.toNat : Int) := by rw [wrap8]; simp
theorem wrap_u8_i64 (a : UInt8) : IntKind.i64.wrap (a.toNat : Int) = (a.toNat : Int) := by have := a.toNat_lt; rw [i64_wrap_in (by omega) (by omega)]
theorem wrap_u32_i64 (a : UInt32) : IntKind.i64.wrap (a.toNat : Int) = (a.toNat : Int) := by have := a.toNat_lt; rw [i64_wrap_in (by omega) (by omega)]
theorem wrap_i64_u64 (a : Int) (h : 0 ≤ a) : IntKind.u64.wrap a = ((UInt64.ofNat a.toNat).toNat : Int) := by obtain ⟨n, rfl⟩ := Int.eq_ofNat_of_zero_le h; rw [wrap64'']; simp
theorem wrap_i64_u8 (a : Int) (h : 0 ≤ a) : IntKind.u8.wrap a = ((UInt8.ofNat a.toNat).toNat : Int) := by obtain ⟨n, rfl⟩ := Int.eq_ofNat_of_zero_le h; rw [wrap8]; simp
end
end Go.Proofs.Ytgfomedobfaidaa
