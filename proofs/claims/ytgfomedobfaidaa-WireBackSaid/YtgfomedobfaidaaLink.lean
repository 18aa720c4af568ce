/-
  The program's bytes of an entry are the document's.
-/
import Derived.Test.YtgfomedobfaidaaEntry
namespace Go.Proofs.Ytgfomedobfaidaa

def EntryD.ref (d : EntryD) : RentryD := ⟨d.kind, d.author, d.epoch, d.mode, d.peer, d.phase, d.nums.map bitsOf, d.texts, d.proof⟩
theorem out_len (n : Nat) : out_ (n : Int) 0 64 = decide (64 < (n : Int)) := by
  unfold out_
  rw [decide_eq_false (by omega)]; rfl
theorem EntryD.bad_ref (d : EntryD) : (d.bad2 || !(usesB d.kind d.mode d.peer d.phase (List.length d.nums) (List.length d.texts) (List.length d.proof))) = d.ref.bad := by
  have e1 : (d.ref.nums.length) = d.nums.length := by simp [EntryD.ref]
  have e2 : numsB d.ref.nums = natsB d.nums := numsB_bits d.nums
  unfold RentryD.bad RentryD.out RentryD.uses EntryD.bad2 EntryD.bad tooMany
  rw [e1, e2, out_len, out_len, natsB_length]
  rw [show d.ref.kind = d.kind from rfl, show d.ref.author = d.author from rfl, show d.ref.epoch = d.epoch from rfl, show d.ref.mode = d.mode from rfl, show d.ref.peer = d.peer from rfl, show d.ref.phase = d.phase from rfl, show d.ref.texts = d.texts from rfl, show d.ref.proof = d.proof from rfl]
  generalize out_ d.kind 1 7 = a1
  generalize out_ d.author 1 64 = a2
  generalize out_ d.epoch 0 1048576 = a3
  generalize out_ d.mode 0 255 = a4
  generalize out_ d.peer 0 255 = a5
  generalize out_ d.phase 0 255 = a6
  generalize decide (64 < ((List.length d.nums : Nat) : Int)) = a7
  generalize long (natsB d.nums) 128 = a8
  generalize decide (64 < ((List.length d.texts : Nat) : Int)) = a9
  generalize long d.texts 1024 = b1
  generalize decide (1024 < ((List.length d.proof : Nat) : Int)) = b2
  generalize usesB d.kind d.mode d.peer d.phase (List.length d.nums) (List.length d.texts) (List.length d.proof) = b3
  cases a1 <;> simp
  cases a2 <;> simp
  cases a3 <;> simp
  cases a4 <;> simp
  cases a5 <;> simp
  cases a6 <;> simp
  cases a7 <;> simp
  cases a8 <;> simp
  cases a9 <;> simp
  cases b1 <;> simp
theorem EntryD.all_ref {d : EntryD} (h : d.ref.bad = false) : d.all = d.ref.all := by
  have hb := EntryD.bad_ref d
  rw [h] at hb
  simp only [Bool.or_eq_false_iff] at hb
  obtain ⟨hb2, _⟩ := hb
  unfold EntryD.bad2 at hb2
  simp only [Bool.or_eq_false_iff] at hb2
  obtain ⟨⟨⟨hbad, ht⟩, hl⟩, hp⟩ := hb2
  have hbad' := hbad
  unfold EntryD.bad at hbad'
  simp only [Bool.or_eq_false_iff] at hbad'
  obtain ⟨⟨⟨⟨⟨⟨⟨⟨_, h1⟩, h2⟩, h3⟩, h4⟩, h5⟩, h6⟩, h7⟩, h8⟩ := hbad'
  have hpre : d.pre = false := by unfold EntryD.pre; rw [h1, h2, h3, h4, h5, h6]; rfl
  have k1 := h1
  have k2 := h2
  have k3 := h3
  have k4 := h4
  have k5 := h5
  have k6 := h6
  simp [out_] at k1 k2 k3 k4 k5 k6
  have e2 : numsB d.ref.nums = natsB d.nums := numsB_bits d.nums
  have en : natsW d.nums d.pre = listB (natsB d.nums) 128 := by
    unfold natsW listB
    rw [hpre, h7, natsB_length]; rfl
  have et : textsW d.texts d.bad = listB d.texts 1024 := by
    unfold textsW listB
    rw [hbad, ht]; rfl
  have ep : textOr d.proof 1024 = textB d.proof := textOr_le' (by simpa using hp)
  unfold EntryD.all RentryD.all
  rw [en, et, ep, e2]
  unfold EntryD.head
  simp only [EntryD.ref, show Int.toNat 1 = 1 from rfl, show Int.toNat 4 = 4 from rfl]
  rw [be_one (n := d.kind) (by omega) (by omega), be_one (n := d.author) (by omega) (by omega), be_four (n := d.epoch) (by omega) (by omega), be_one (n := d.mode) (by omega) (by omega), be_one (n := d.peer) (by omega) (by omega), be_one (n := d.phase) (by omega) (by omega)]
  simp [by8]
theorem EntryD.no_ref (d : EntryD) : d.no = !(!d.ref.bad && decide (((List.length (if d.ref.bad then [] else d.ref.all) : Nat) : Int) ≤ 4096)) := by
  unfold EntryD.no
  rw [EntryD.bad_ref]
  cases h : d.ref.bad with
  | true => simp
  | false =>
    rw [EntryD.all_ref h]
    simp only [Bool.false_or, Bool.not_false, Bool.true_and, Bool.false_eq_true, if_false]
    rw [Bool.eq_iff_iff]
    simp
end Go.Proofs.Ytgfomedobfaidaa
