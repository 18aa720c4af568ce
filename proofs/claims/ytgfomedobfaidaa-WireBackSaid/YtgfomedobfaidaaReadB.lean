/-
  What is written is read again: entries, votes.
-/
import Derived.Test.YtgfomedobfaidaaRead
set_option linter.unusedVariables false
set_option linter.unusedSimpArgs false
namespace Go.Proofs.Ytgfomedobfaidaa
open Go.RowKit

theorem nv_be (x : UInt64) : ∀ n, n ≤ 8 → nv (be x n) = x.toNat % 256 ^ n
  | 0, _ => by simp [be, nv, Nat.mod_one]
  | n + 1, h => by
    rw [be, nv_cons, be_length, nv_be x n (by omega)]
    have e : (x >>> UInt64.ofNat (8 * n)).toUInt8.toNat = x.toNat / 256 ^ n % 256 := by
      rw [UInt64.toNat_toUInt8, UInt64.toNat_shiftRight, UInt64.toNat_ofNat', show (256 : Nat) ^ n = 2 ^ (8 * n) by rw [Nat.pow_mul], Nat.mod_eq_of_lt (show 8 * n % 2 ^ 64 < 64 by omega), Nat.mod_eq_of_lt (show 8 * n < 2 ^ 64 by omega), Nat.shiftRight_eq_div_pow]
    rw [e, Nat.pow_succ, Nat.mod_mul, Nat.mul_comm, Nat.add_comm]
theorem u64i_toNat {k : Int} (h0 : 0 ≤ k) (h : k < 18446744073709551616) : (u64i k).toNat = k.toNat := by
  unfold u64i
  rw [UInt64.toNat_ofNat', Int.emod_eq_of_lt h0 h]
  exact Nat.mod_eq_of_lt (by omega)
theorem Rd.num_be (x : UInt64) {n : Nat} (hn : n ≤ 8) (rest : List UInt8) (bad : Bool) : (Rd.mk (be x n ++ rest) bad).num n = (x.toNat % 256 ^ n, ⟨rest, bad⟩) := by
  unfold Rd.num Rd.take
  rw [if_neg (by simp [be_length])]
  simp only [List.take_append_of_le_length (Nat.le_of_eq (be_length x n).symm), List.take_of_length_le (Nat.le_of_eq (be_length x n)), List.drop_append_of_le_length (Nat.le_of_eq (be_length x n).symm), List.drop_of_length_le (Nat.le_of_eq (be_length x n)), List.nil_append, nv_be x n hn]
theorem Rd.num_i {k : Int} {n : Nat} (hn : n ≤ 8) (h0 : 0 ≤ k) (h : k.toNat < 256 ^ n) (hb : k < 18446744073709551616) (rest : List UInt8) (bad : Bool) : (Rd.mk (be (u64i k) n ++ rest) bad).num n = (k.toNat, ⟨rest, bad⟩) := by
  rw [Rd.num_be _ hn, u64i_toNat h0 hb, Nat.mod_eq_of_lt h]
theorem Rd.take_app (t rest : List UInt8) (bad : Bool) : (Rd.mk (t ++ rest) bad).take t.length = (t, ⟨rest, bad⟩) := by
  unfold Rd.take
  rw [if_neg (by simp)]
  simp
theorem Rd.text_app {t : List UInt8} (h : t.length < 65536) (rest : List UInt8) : (Rd.mk (textB t ++ rest) false).text = (t, ⟨rest, false⟩) := by
  have e : (Rd.mk (textB t ++ rest) false).num 2 = (t.length, ⟨t ++ rest, false⟩) := by
    unfold textB
    rw [List.append_assoc, Rd.num_i (by omega) (by omega) (by rw [Int.toNat_natCast]; exact h) (by omega), Int.toNat_natCast]
  unfold Rd.text
  rw [e]
  simp only [Bool.false_eq_true, if_false]
  exact Rd.take_app t rest false
theorem textOr_fit {t : List UInt8} {most : Int} (h : (t.length : Int) ≤ most) : textOr t most = textB t := by unfold textOr; rw [if_neg (by omega)]
theorem flat_cons (t : List UInt8) (l : List (List UInt8)) (most : Int) : flat (t :: l) most = textOr t most ++ flat l most := rfl
theorem long_cons {t : List UInt8} {l : List (List UInt8)} {most : Int} (h : long (t :: l) most = false) : (t.length : Int) ≤ most ∧ long l most = false := by
  unfold long at *
  simp at h
  exact ⟨by omega, by simpa using h.2⟩
theorem texts1_flat : ∀ (l : List (List UInt8)) (rest : List UInt8), long l 1024 = false → Rd.texts1 l.length ⟨flat l 1024 ++ rest, false⟩ = (l, ⟨rest, false⟩)
  | [], rest, _ => by unfold Rd.texts1; rfl
  | t :: l, rest, h => by
    obtain ⟨h1, h2⟩ := long_cons h
    have e : (Rd.mk (flat (t :: l) 1024 ++ rest) false).text = (t, ⟨flat l 1024 ++ rest, false⟩) := by
      rw [flat_cons, textOr_fit h1, List.append_assoc]
      exact Rd.text_app (by omega) _
    rw [List.length_cons, texts1_step rfl, e, texts1_flat l rest h2]
theorem nats1_flat : ∀ (l : List Nat) (rest : List UInt8), long (natsB l) 128 = false → Rd.nats1 l.length ⟨flat (natsB l) 128 ++ rest, false⟩ = (l, ⟨rest, false⟩)
  | [], rest, _ => by unfold Rd.nats1; rfl
  | x :: l, rest, h => by
    obtain ⟨h1, h2⟩ := long_cons (t := least x) (l := natsB l) h
    have e : (Rd.mk (flat (natsB (x :: l)) 128 ++ rest) false).text = (least x, ⟨flat (natsB l) 128 ++ rest, false⟩) := by
      rw [show natsB (x :: l) = least x :: natsB l from rfl, flat_cons, textOr_fit h1, List.append_assoc]
      exact Rd.text_app (by omega) _
    have en : Rd.natOf (least x) = x := by
      unfold Rd.natOf
      rw [if_neg (by omega)]
      exact nv_least x
    rw [List.length_cons, nats1_step rfl, e, en, decide_eq_false (show ¬ 128 < (least x).length by omega)]
    rw [show ((false || false : Bool)) = false from rfl, nats1_flat l rest h2]
theorem Rd.texts_app {l : List (List UInt8)} (hl : l.length ≤ 64) (h : long l 1024 = false) (rest : List UInt8) : (Rd.mk (be (u64i l.length) 1 ++ (flat l 1024 ++ rest)) false).texts = (l, ⟨rest, false⟩) := by
  rw [Rd.texts_eq, Rd.num_i (by omega) (by omega) (by omega) (by omega), Int.toNat_natCast]
  exact texts1_flat l rest h
theorem Rd.nats_app {l : List Nat} (hl : l.length ≤ 64) (h : long (natsB l) 128 = false) (rest : List UInt8) : (Rd.mk (be (u64i l.length) 1 ++ (flat (natsB l) 128 ++ rest)) false).nats = (l, ⟨rest, false⟩) := by
  rw [Rd.nats_eq, Rd.num_i (by omega) (by omega) (by omega) (by omega), Int.toNat_natCast]
  exact nats1_flat l rest h
theorem in_range {n a b : Int} (h : out_ n a b = false) : a ≤ n ∧ n ≤ b := by simp [out_] at h; omega
theorem be_mark (c : UInt8) : ∃ x : UInt64, [c] = be x 1 := ⟨c.toUInt64, by simp [be]⟩
/-- What an entry says is read out of its bytes, whatever follows. -/
theorem entry_reads {d : EntryD} (h : d.no = false) (rest : List UInt8) : (Rd.mk (d.all ++ rest) false).entryD = d ∧ (Rd.mk (d.all ++ rest) false).entryR = ⟨rest, false⟩ := by
  unfold EntryD.no at h
  simp only [Bool.or_eq_false_iff] at h
  obtain ⟨⟨h2, _⟩, _⟩ := h
  unfold EntryD.bad2 at h2
  simp only [Bool.or_eq_false_iff] at h2
  obtain ⟨⟨⟨hb, ht⟩, hlt⟩, hp⟩ := h2
  have hb' := hb
  unfold EntryD.bad at hb'
  simp only [Bool.or_eq_false_iff] at hb'
  obtain ⟨⟨⟨⟨⟨⟨⟨⟨_, h1⟩, h2⟩, h3⟩, h4⟩, h5⟩, h6⟩, h7⟩, h8⟩ := hb'
  have hpre : d.pre = false := by unfold EntryD.pre; rw [h1, h2, h3, h4, h5, h6]; rfl
  have r1 := in_range h1
  have r2 := in_range h2
  have r3 := in_range h3
  have r4 := in_range h4
  have r5 := in_range h5
  have r6 := in_range h6
  have r7 := in_range h7
  have r8 := in_range ht
  obtain ⟨mk, hmk⟩ := be_mark 69
  have eall : d.all ++ rest = be mk 1 ++ (be (u64i d.kind) 1 ++ (be (u64i d.author) 1 ++ (be (u64i d.epoch) 4 ++ (be (u64i d.mode) 1 ++ (be (u64i d.peer) 1 ++ (be (u64i d.phase) 1 ++ (be (u64i d.nums.length) 1 ++ (flat (natsB d.nums) 128 ++ (be (u64i d.texts.length) 1 ++ (flat d.texts 1024 ++ (textB d.proof ++ rest))))))))))) := by
    unfold EntryD.all EntryD.head natsW textsW
    rw [hpre, h7, hb, ht, textOr_fit (by simpa using hp), hmk]
    simp [List.append_assoc]
  have pl : d.proof.length < 65536 := by simp at hp; omega
  rw [eall]
  have q1 : (Rd.mk (be mk 1 ++ (be (u64i d.kind) 1 ++ (be (u64i d.author) 1 ++ (be (u64i d.epoch) 4 ++ (be (u64i d.mode) 1 ++ (be (u64i d.peer) 1 ++ (be (u64i d.phase) 1 ++ (be (u64i d.nums.length) 1 ++ (flat (natsB d.nums) 128 ++ (be (u64i d.texts.length) 1 ++ (flat d.texts 1024 ++ (textB d.proof ++ rest))))))))))) ) false).s1 = _ := congrArg Prod.snd (Rd.num_be mk (by omega) _ false)
  have k1 := Rd.num_i (k := d.kind) (n := 1) (by omega) (by omega) (by omega) (by omega)
  have k2 := Rd.num_i (k := d.author) (n := 1) (by omega) (by omega) (by omega) (by omega)
  have k3 := Rd.num_i (k := d.epoch) (n := 4) (by omega) (by omega) (by omega) (by omega)
  have k4 := Rd.num_i (k := d.mode) (n := 1) (by omega) (by omega) (by omega) (by omega)
  have k5 := Rd.num_i (k := d.peer) (n := 1) (by omega) (by omega) (by omega) (by omega)
  have k6 := Rd.num_i (k := d.phase) (n := 1) (by omega) (by omega) (by omega) (by omega)
  have k7 := Rd.nats_app (l := d.nums) (by omega) h8
  have k8 := Rd.texts_app (l := d.texts) (by omega) hlt
  have k9 := Rd.text_app pl rest
  constructor
  · simp only [Rd.entryD, Rd.s9, Rd.s8, Rd.s7, Rd.s6, Rd.s5, Rd.s4, Rd.s3, Rd.s2, q1, k1, k2, k3, k4, k5, k6, k7, k8, k9]
    rw [Int.toNat_of_nonneg (by omega), Int.toNat_of_nonneg (by omega), Int.toNat_of_nonneg (by omega), Int.toNat_of_nonneg (by omega), Int.toNat_of_nonneg (by omega), Int.toNat_of_nonneg (by omega)]
  · simp only [Rd.entryR, Rd.s9, Rd.s8, Rd.s7, Rd.s6, Rd.s5, Rd.s4, Rd.s3, Rd.s2, q1, k1, k2, k3, k4, k5, k6, k7, k8, k9]
/-- .. a vote. -/
theorem vote_reads {d : VoteD} (h : d.bad = false) (rest : List UInt8) : (Rd.mk (d.bytes ++ rest) false).voteD = d ∧ (Rd.mk (d.bytes ++ rest) false).voteR = ⟨rest, false⟩ := by
  unfold VoteD.bad at h
  simp only [Bool.or_eq_false_iff] at h
  obtain ⟨⟨⟨⟨⟨⟨_, h1⟩, h2⟩, h3⟩, h4⟩, h5⟩, hp⟩ := h
  have r1 := in_range h1
  have r2 := in_range h2
  have r3 := in_range h3
  have r4 := in_range h4
  have r5 := in_range h5
  obtain ⟨mk, hmk⟩ := be_mark 86
  have eall : d.bytes ++ rest = be mk 1 ++ (be (u64i d.kind) 1 ++ (be (u64i d.from_) 1 ++ (be (u64i d.slot) 4 ++ (be (u64i d.view) 4 ++ (be (u64i (d.valid + 1)) 4 ++ (textB d.value ++ rest)))))) := by
    unfold VoteD.bytes
    rw [hmk]
    simp [List.append_assoc]
  have pl : d.value.length < 65536 := by simp at hp; omega
  rw [eall]
  have q1 : (Rd.mk (be mk 1 ++ (be (u64i d.kind) 1 ++ (be (u64i d.from_) 1 ++ (be (u64i d.slot) 4 ++ (be (u64i d.view) 4 ++ (be (u64i (d.valid + 1)) 4 ++ (textB d.value ++ rest)))))) ) false).s1 = _ := congrArg Prod.snd (Rd.num_be mk (by omega) _ false)
  have k1 := Rd.num_i (k := d.kind) (n := 1) (by omega) (by omega) (by omega) (by omega)
  have k2 := Rd.num_i (k := d.from_) (n := 1) (by omega) (by omega) (by omega) (by omega)
  have k3 := Rd.num_i (k := d.slot) (n := 4) (by omega) (by omega) (by omega) (by omega)
  have k4 := Rd.num_i (k := d.view) (n := 4) (by omega) (by omega) (by omega) (by omega)
  have k5 := Rd.num_i (k := d.valid + 1) (n := 4) (by omega) (by omega) (by omega) (by omega)
  have k9 := Rd.text_app pl rest
  constructor
  · simp only [Rd.voteD, Rd.v6, Rd.v5, Rd.v4, Rd.s3, Rd.s2, q1, k1, k2, k3, k4, k5, k9]
    rw [Int.toNat_of_nonneg (by omega), Int.toNat_of_nonneg (by omega), Int.toNat_of_nonneg (by omega), Int.toNat_of_nonneg (by omega), Int.toNat_of_nonneg (by omega), Int.add_sub_cancel]
  · simp only [Rd.voteR, Rd.v6, Rd.v5, Rd.v4, Rd.s3, Rd.s2, q1, k1, k2, k3, k4, k5, k9]
/-! ### cuts -/
theorem decOk_spec {b : List UInt8} (h : decOk b = true) : (Rd.mk b false).entryD.no = false ∧ (Rd.mk b false).entryD.all = b := by
  unfold decOk at h
  simp at h
  exact ⟨h.1.2, h.2⟩
/-- Bytes of entries, one beginning with the other, are the same. -/
theorem decOk_pre {b m : List UInt8} (h : decOk b = true) (h' : decOk (b ++ m) = true) : m = [] := by
  obtain ⟨h1, h2⟩ := decOk_spec h
  have e := (entry_reads h1 m).2
  rw [h2] at e
  obtain ⟨h3, h4⟩ := decOk_spec h'
  have e2 := (entry_reads h3 []).2
  rw [List.append_nil, h4] at e2
  rw [e] at e2
  exact congrArg Rd.b e2
theorem decOk_all {d : EntryD} (h : d.no = false) : decOk d.all = true := by
  have e := entry_reads h []
  rw [List.append_nil] at e
  unfold decOk
  rw [e.1, e.2, h]
  simp
theorem decVOk_spec {b : List UInt8} (h : decVOk b = true) : (Rd.mk b false).voteD.bad = false ∧ (Rd.mk b false).voteD.bytes = b := by
  unfold decVOk at h
  simp at h
  exact ⟨h.1.2, h.2⟩
theorem decVOk_pre {b m : List UInt8} (h : decVOk b = true) (h' : decVOk (b ++ m) = true) : m = [] := by
  obtain ⟨h1, h2⟩ := decVOk_spec h
  have e := (vote_reads h1 m).2
  rw [h2] at e
  obtain ⟨h3, h4⟩ := decVOk_spec h'
  have e2 := (vote_reads h3 []).2
  rw [List.append_nil, h4] at e2
  rw [e] at e2
  exact congrArg Rd.b e2
theorem decVOk_all {d : VoteD} (h : d.bad = false) : decVOk d.bytes = true := by
  have e := vote_reads h []
  rw [List.append_nil] at e
  unfold decVOk
  rw [e.1, e.2, h]
  simp
theorem cut_no {b : List UInt8} {k : Nat} (h : decOk b = true) (hk : k < b.length) : decOk (b.take k) = false := by
  cases c : decOk (b.take k) with
  | false => rfl
  | true =>
    have h2 := h
    rw [← List.take_append_drop k b] at h2
    have := decOk_pre c h2
    have := congrArg List.length this
    simp at this; omega
theorem more_no {b m : List UInt8} (h : decOk b = true) (hm : m ≠ []) : decOk (b ++ m) = false := by
  cases c : decOk (b ++ m) with
  | false => rfl
  | true => exact absurd (decOk_pre h c) hm
theorem cutV_no {b : List UInt8} {k : Nat} (h : decVOk b = true) (hk : k < b.length) : decVOk (b.take k) = false := by
  cases c : decVOk (b.take k) with
  | false => rfl
  | true =>
    have h2 := h
    rw [← List.take_append_drop k b] at h2
    have := decVOk_pre c h2
    have := congrArg List.length this
    simp at this; omega
theorem moreV_no {b m : List UInt8} (h : decVOk b = true) (hm : m ≠ []) : decVOk (b ++ m) = false := by
  cases c : decVOk (b ++ m) with
  | false => rfl
  | true => exact absurd (decVOk_pre h c) hm
end Go.Proofs.Ytgfomedobfaidaa
