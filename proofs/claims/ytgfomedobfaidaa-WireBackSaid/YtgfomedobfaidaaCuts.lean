/-
  Cuts of bytes: the laws beside the walk.
-/
import Derived.Test.YtgfomedobfaidaaReadB
set_option linter.unusedVariables false
set_option linter.unusedSimpArgs false
namespace Go.Proofs.Ytgfomedobfaidaa
open Go.RowKit

instance (x : VoteD) : Per (VoteV x) := ⟨VoteV.pers x⟩
theorem umod_lt (cut : Int) {n : Nat} (h0 : 0 < n) (h : n < 9223372036854775808) : (u64i cut % u64i ((n : Nat) : Int)).toNat < n := by
  have e := u64i_toNat (k := ((n : Nat) : Int)) (by omega) (by omega)
  rw [UInt64.toNat_mod, e, Int.toNat_natCast]
  exact Nat.mod_lt _ h0
theorem umod_ne {n : Nat} (h0 : 0 < n) (h : n < 9223372036854775808) : (u64i ((n : Nat) : Int)).toNat ≠ 0 := by
  have e := u64i_toNat (k := ((n : Nat) : Int)) (by omega) (by omega)
  rw [e, Int.toNat_natCast]; omega
theorem ent_no {d : EntryD} (h : (if d.no then 3 else 0 : Int) = 0) : d.no = false := by
  cases c : d.no with
  | true => rw [c] at h; exact absurd h (by decide)
  | false => rfl
theorem ent_pos (d : EntryD) : 0 < d.all.length := by simp [EntryD.all, EntryD.head]
theorem ent_le {d : EntryD} (h : d.no = false) : d.all.length ≤ 4096 := by
  unfold EntryD.no at h
  simp only [Bool.or_eq_false_iff] at h
  have := h.2
  simp at this; omega
theorem ent_bounds (cut : Int) {d : EntryD} (h : (if d.no then 3 else 0 : Int) = 0) : 0 < List.length (if d.no then [] else d.all) ∧ List.length (if d.no then [] else d.all) ≤ 4096 ∧ (u64i cut % u64i ((List.length (if d.no then [] else d.all) : Nat) : Int)).toNat < List.length (if d.no then [] else d.all) := by
  have hn := ent_no h
  rw [hn]
  have h1 := ent_pos d
  have h2 := ent_le hn
  exact ⟨h1, h2, umod_lt cut h1 (Nat.lt_of_le_of_lt h2 (by decide))⟩
theorem ent_cut {d : EntryD} {k : Nat} (h : (if d.no then 3 else 0 : Int) = 0) (hk : k < List.length (if d.no then [] else d.all)) : (if decOk (List.take k (if d.no then [] else d.all)) then 0 else 3 : Int) = 3 := by
  have hn := ent_no h
  rw [hn] at hk ⊢
  rw [show (if false = true then ([] : List UInt8) else d.all) = d.all from rfl] at hk ⊢
  rw [cut_no (decOk_all hn) hk]; rfl
theorem ent_more {d : EntryD} {m : List UInt8} (h : (if d.no then 3 else 0 : Int) = 0) (hm : ¬ ((m.length : Nat) : Int) = 0) : (if decOk ((if d.no then [] else d.all) ++ m) then 0 else 3 : Int) = 3 := by
  have hn := ent_no h
  rw [hn, show (if false = true then ([] : List UInt8) else d.all) = d.all from rfl, more_no (decOk_all hn) (fun e => by subst e; simp at hm)]; rfl
theorem vot_no {d : VoteD} (h : (if d.bad then 3 else 0 : Int) = 0) : d.bad = false := by
  cases c : d.bad with
  | true => rw [c] at h; exact absurd h (by decide)
  | false => rfl
theorem vot_len (d : VoteD) : d.bytes.length = 17 + d.value.length := by simp [VoteD.bytes, textB, be_length]; omega
theorem vot_bounds (cut : Int) {d : VoteD} (hl : d.value.length ≤ 5000) (h : (if d.bad then 3 else 0 : Int) = 0) : 0 < List.length (if d.bad then [] else d.bytes) ∧ List.length (if d.bad then [] else d.bytes) ≤ 6000 ∧ (u64i cut % u64i ((List.length (if d.bad then [] else d.bytes) : Nat) : Int)).toNat < List.length (if d.bad then [] else d.bytes) := by
  have hn := vot_no h
  rw [hn]
  have h1 := vot_len d
  rw [show (if false = true then ([] : List UInt8) else d.bytes) = d.bytes from rfl, h1]
  exact ⟨by omega, by omega, umod_lt cut (by omega) (by omega)⟩
theorem vot_cut {d : VoteD} {k : Nat} (h : (if d.bad then 3 else 0 : Int) = 0) (hk : k < List.length (if d.bad then [] else d.bytes)) : (if decVOk (List.take k (if d.bad then [] else d.bytes)) then 0 else 3 : Int) = 3 := by
  have hn := vot_no h
  rw [hn] at hk ⊢
  rw [show (if false = true then ([] : List UInt8) else d.bytes) = d.bytes from rfl] at hk ⊢
  rw [cutV_no (decVOk_all hn) hk]; rfl
theorem vot_more {d : VoteD} {m : List UInt8} (h : (if d.bad then 3 else 0 : Int) = 0) (hm : ¬ ((m.length : Nat) : Int) = 0) : (if decVOk ((if d.bad then [] else d.bytes) ++ m) then 0 else 3 : Int) = 3 := by
  have hn := vot_no h
  rw [hn, show (if false = true then ([] : List UInt8) else d.bytes) = d.bytes from rfl, moreV_no (decVOk_all hn) (fun e => by subst e; simp at hm)]; rfl
end Go.Proofs.Ytgfomedobfaidaa
