/-
  Votes, and the bytes that they have; texts of bytes.
-/
import Derived.Test.YtgfomedobfaidaaWrite
import Derived.Laws.BytesString
set_option linter.unusedVariables false
set_option linter.unusedSimpArgs false
namespace Go.Proofs.Ytgfomedobfaidaa
open Go.RowKit

section
variable {P : Program} {N : Nat} {l : List (Nat × Value)} {w : World} {lab : Lab} {ty : TypeId}
theorem foldl_push (bs : List UInt8) : ∀ acc : List UInt8, (bs.map (fun b => (b.toNat : Int))).foldl (fun (r : ByteArray) n => r.push (UInt8.ofNat n.toNat)) ⟨acc.toArray⟩ = ⟨(acc ++ bs).toArray⟩ := by
  induction bs with
  | nil => intro acc; simp
  | cons b r ih =>
    intro acc
    rw [List.map_cons, List.foldl_cons]
    have e : (ByteArray.mk acc.toArray).push (UInt8.ofNat ((b.toNat : Int)).toNat) = ⟨(acc ++ [b]).toArray⟩ := by
      simp [ByteArray.push]
    rw [e, ih]
    simp
theorem Does.conv_str {s e t : TypeId} {x : Operand} {bs : List UInt8} {A : Option Addr} {n c : Nat} (hs : P.underlying s = some (.slice e)) (he : P.underlying e = some (.int .u8)) (hd : P.underlying t = some .string) (hx : ev l x = some (.slice A n c)) (h : BytesV bs lab w (.slice A n c)) : Does P l (.convert s t x) ty w (str bs) w := by
  intro ρ hρ d pos af g
  have hl := h.cap.1
  have key : (convert s t (.slice A n c)).run P w = .ok (str bs) w := by
    rw [run_convert_bytes_string w s t e A n c hs he hd]
    cases A with
    | none =>
      have hb : bs = [] := by
        rcases h.row with h0 | ⟨b, o, arr, t', fr, hA, _⟩
        · simpa using h0
        · cases hA
      subst hb
      rfl
    | some a =>
      have hc : (loadCells a n).run P w = .ok ((bs.map (fun b => (b.toNat : Int))).map (Value.int .u8)).toArray w := by
        have e1 : (bs.map (fun b => (b.toNat : Int))).map (Value.int .u8) = bs.map u8 := by simp
        rw [e1, hl, show bs.length = (bs.map u8).length by simp]
        refine run_loadCells_list w a _ fun j v hj => ?_
        obtain ⟨b, o, hA, hcell⟩ := h.row.cell hj
        cases hA
        rw [add_flat]; exact hcell
      rw [run_bytesToString w a n c _ hc]
      have := foldl_push bs []
      rw [List.nil_append] at this
      exact congrArg (fun z => Result.ok (Value.string z) w) this
  simp only [execOp, hρ _ _ hx, Sem.run_bind, key, Result.andThen_ok]
  rfl
end

/-! ### votes -/
structure VoteD where
  kind : Int
  from_ : Int
  slot : Int
  view : Int
  valid : Int
  value : List UInt8
def VoteV (d : VoteD) : VP := fun lab w v => ∃ A c, v = .agg #[i64 d.kind, i64 d.from_, i64 d.slot, i64 d.view, i64 d.valid, .slice A d.value.length c] ∧ BytesV d.value lab w (.slice A d.value.length c)
theorem VoteV.pers (d : VoteD) : Pers (VoteV d) := ⟨fun s ⟨A, c, h, h1⟩ => ⟨A, c, h, (BytesV.pers _).step s h1⟩⟩
theorem VoteV.open {d : VoteD} {lab : Lab} {w : World} {v : Value} (h : VoteV d lab w v) : ∃ A c, v = .agg #[i64 d.kind, i64 d.from_, i64 d.slot, i64 d.view, i64 d.valid, .slice A d.value.length c] ∧ BytesV d.value lab w (.slice A d.value.length c) := h
theorem VoteV.mk {a b c d e : Int} {bs : List UInt8} {lab : Lab} {w : World} {A : Option Addr} {n m : Nat} (h : BytesV bs lab w (.slice A n m)) : VoteV ⟨a, b, c, d, e, bs⟩ lab w (.agg #[i64 a, i64 b, i64 c, i64 d, i64 e, .slice A n m]) := by
  obtain ⟨A', c', h1, h2⟩ := h
  cases h1
  exact ⟨_, _, rfl, _, _, rfl, h2⟩
theorem VoteV.cast {x y : VoteD} (e : x = y) {lab : Lab} {w : World} {v : Value} (h : VoteV x lab w v) : VoteV y lab w v := e ▸ h

/-- Is a number out of bounds? -/
def out_ (n least most : Int) : Bool := decide (n < least) || decide (most < n)
/-- Bytes with their length ahead. -/
def textB (t : List UInt8) : List UInt8 := be (u64i t.length) 2 ++ t
def textOr (t : List UInt8) (most : Int) : List UInt8 := if most < (List.length t : Int) then [] else textB t
def VoteD.bad (d : VoteD) : Bool := (((((false || out_ d.kind 1 5) || out_ d.from_ 1 64) || out_ d.slot 0 256) || out_ d.view 0 1048576) || out_ (d.valid + 1) 0 1048577) || decide (4096 < (List.length d.value : Int))
def VoteD.bytes (d : VoteD) : List UInt8 := [86] ++ be (u64i d.kind) 1 ++ be (u64i d.from_) 1 ++ be (u64i d.slot) 4 ++ be (u64i d.view) 4 ++ be (u64i (d.valid + 1)) 4 ++ textB d.value
theorem VoteD.chain {d : VoteD} (h : d.bad = false) : [(86 : UInt8)] ++ be (u64i d.kind) (Int.toNat 1) ++ be (u64i d.from_) (Int.toNat 1) ++ be (u64i d.slot) (Int.toNat 4) ++ be (u64i d.view) (Int.toNat 4) ++ be (u64i (d.valid + 1)) (Int.toNat 4) ++ textOr d.value 4096 = d.bytes := by
  have h' : ¬ (4096 < (List.length d.value : Int)) := by simp [VoteD.bad] at h; omega
  rw [textOr, if_neg h']
  rfl
theorem flatten_take_succ (l : List (List UInt8)) (k : Nat) (h : k < l.length) : List.flatten (List.take k l) ++ List.getD l k [] = List.flatten (List.take (k + 1) l) := by
  rw [List.take_succ_eq_append_getElem h, List.flatten_append]
  simp [List.getD, List.getElem?_eq_getElem h]
theorem flatten_take_lt (l : List (List UInt8)) (k : Nat) (h : k < l.length) : (List.flatten (List.take k l)).length + (List.getD l k []).length ≤ (List.flatten l).length := by
  have e := flatten_take_succ l k h
  have e2 : l = List.take (k + 1) l ++ List.drop (k + 1) l := (List.take_append_drop _ _).symm
  have e3 : (List.flatten l).length = (List.flatten (List.take (k + 1) l)).length + (List.flatten (List.drop (k + 1) l)).length := by
    rw [← List.length_append, ← List.flatten_append, List.take_append_drop]
  rw [e3, ← e, List.length_append]
  omega

/-! ### the document's words -/
def by8 (n : Int) : UInt8 := UInt8.ofNat n.toNat
def four (n : Int) : List UInt8 := [by8 (n / 16777216), by8 (n / 65536 % 256), by8 (n / 256 % 256), by8 (n % 256)]
theorem by8_u64 {n : Int} (h0 : 0 ≤ n) (h1 : n < 18446744073709551616) : (u64i n).toUInt8 = by8 n := by
  have : n % 18446744073709551616 = n := by omega
  rw [u64i, by8, this]
  rw [← UInt8.toNat_inj]
  simp only [UInt64.toNat_toUInt8, UInt64.toNat_ofNat', UInt8.toNat_ofNat']
  omega
theorem u64i_shr {n : Int} (h0 : 0 ≤ n) (h1 : n < 18446744073709551616) (k : Nat) (hk : k < 64) : (u64i n >>> UInt64.ofNat k).toUInt8 = by8 (n / (2 ^ k : Nat)) := by
  obtain ⟨m, rfl⟩ := Int.eq_ofNat_of_zero_le h0
  have e : u64i (m : Int) = UInt64.ofNat m := by unfold u64i; congr 1; omega
  rw [e, by8, ← UInt8.toNat_inj]
  rw [← Int.natCast_ediv, Int.toNat_natCast, UInt64.toNat_toUInt8, UInt64.toNat_shiftRight, UInt64.toNat_ofNat_of_lt' (by simp [UInt64.size]; omega), UInt64.toNat_ofNat_of_lt' (by simp [UInt64.size]; omega), Nat.mod_eq_of_lt hk, Nat.shiftRight_eq_div_pow, UInt8.toNat_ofNat']
theorem by8_mod (n : Int) (h : 0 ≤ n) : by8 (n % 256) = by8 n := by
  unfold by8
  rw [← UInt8.toNat_inj]
  simp only [UInt8.toNat_ofNat']
  omega
theorem be_four {n : Int} (h0 : 0 ≤ n) (h1 : n < 4294967296) : be (u64i n) 4 = four n := by
  have a := u64i_shr (n := n) h0 (by omega) 24 (by omega)
  have b := u64i_shr (n := n) h0 (by omega) 16 (by omega)
  have c := u64i_shr (n := n) h0 (by omega) 8 (by omega)
  have d := u64i_shr (n := n) h0 (by omega) 0 (by omega)
  simp only [be, four, show 8 * 3 = 24 from rfl, show 8 * 2 = 16 from rfl, show 8 * 1 = 8 from rfl, show 8 * 0 = 0 from rfl, a, b, c, d]
  rw [by8_mod _ (by omega), by8_mod _ (by omega), by8_mod _ (by omega)]
  simp
theorem be_one {n : Int} (h0 : 0 ≤ n) (h1 : n < 256) : be (u64i n) 1 = [by8 n] := by
  have d := u64i_shr (n := n) h0 (by omega) 0 (by omega)
  simp only [be, show 8 * 0 = 0 from rfl, d]
  simp
theorem be_two {n : Int} (h0 : 0 ≤ n) (h1 : n < 65536) : be (u64i n) 2 = [by8 (n / 256), by8 (n % 256)] := by
  have c := u64i_shr (n := n) h0 (by omega) 8 (by omega)
  have d := u64i_shr (n := n) h0 (by omega) 0 (by omega)
  simp only [be, show 8 * 1 = 8 from rfl, show 8 * 0 = 0 from rfl, c, d]
  rw [by8_mod _ (by omega)]
  simp
theorem VoteD.ref {d : VoteD} (h : d.bad = false) : List.flatten [[(86 : UInt8), UInt8.ofNat d.kind.toNat, UInt8.ofNat d.from_.toNat], four d.slot, four d.view, four (d.valid + 1), textB d.value] = d.bytes := by
  simp [VoteD.bad, out_] at h
  rw [VoteD.bytes, be_one (n := d.kind) (by omega) (by omega), be_one (n := d.from_) (by omega) (by omega), be_four (n := d.slot) (by omega) (by omega), be_four (n := d.view) (by omega) (by omega), be_four (n := d.valid + 1) (by omega) (by omega)]
  simp [by8]
end Go.Proofs.Ytgfomedobfaidaa
