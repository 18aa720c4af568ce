/-
  Entries: as they come in, as the program has them, as the document has them.
-/
import Derived.Test.YtgfomedobfaidaaBool
set_option linter.unusedVariables false
set_option linter.unusedSimpArgs false
namespace Go.Proofs.Ytgfomedobfaidaa
open Go.RowKit

structure EntryD where
  kind : Int
  author : Int
  epoch : Int
  mode : Int
  peer : Int
  phase : Int
  nums : List Nat
  texts : List (List UInt8)
  proof : List UInt8
def EntryV (d : EntryD) : VP := fun lab w v => ∃ A1 c1 A2 c2 A3 c3, v = .agg #[i64 d.kind, i64 d.author, i64 d.epoch, i64 d.mode, i64 d.peer, i64 d.phase, .slice A1 d.nums.length c1, .slice A2 d.texts.length c2, .slice A3 d.proof.length c3] ∧ NatsV d.nums lab w (.slice A1 d.nums.length c1) ∧ RowsV d.texts lab w (.slice A2 d.texts.length c2) ∧ BytesV d.proof lab w (.slice A3 d.proof.length c3)
theorem EntryV.pers (d : EntryD) : Pers (EntryV d) := ⟨fun s ⟨A1, c1, A2, c2, A3, c3, h, h1, h2, h3⟩ => ⟨A1, c1, A2, c2, A3, c3, h, (NatsV.pers _).step s h1, (RowsV.pers _).step s h2, (BytesV.pers _).step s h3⟩⟩
theorem EntryV.open {d : EntryD} {lab : Lab} {w : World} {v : Value} (h : EntryV d lab w v) : ∃ A1 c1 A2 c2 A3 c3, v = .agg #[i64 d.kind, i64 d.author, i64 d.epoch, i64 d.mode, i64 d.peer, i64 d.phase, .slice A1 d.nums.length c1, .slice A2 d.texts.length c2, .slice A3 d.proof.length c3] ∧ NatsV d.nums lab w (.slice A1 d.nums.length c1) ∧ RowsV d.texts lab w (.slice A2 d.texts.length c2) ∧ BytesV d.proof lab w (.slice A3 d.proof.length c3) := h
theorem EntryV.mk {a b c d e f : Int} {ns : List Nat} {ts : List (List UInt8)} {bs : List UInt8} {lab : Lab} {w : World} {A1 A2 A3 : Option Addr} {n1 m1 n2 m2 n3 m3 : Nat} (h1 : NatsV ns lab w (.slice A1 n1 m1)) (h2 : RowsV ts lab w (.slice A2 n2 m2)) (h3 : BytesV bs lab w (.slice A3 n3 m3)) : EntryV ⟨a, b, c, d, e, f, ns, ts, bs⟩ lab w (.agg #[i64 a, i64 b, i64 c, i64 d, i64 e, i64 f, .slice A1 n1 m1, .slice A2 n2 m2, .slice A3 n3 m3]) := by
  have e1 := h1.cap.1
  have e2 := h2.cap.1
  have e3 := h3.cap.1
  subst e1; subst e2; subst e3
  exact ⟨_, _, _, _, _, _, rfl, h1, h2, h3⟩
theorem EntryV.cast {x y : EntryD} (e : x = y) {lab : Lab} {w : World} {v : Value} (h : EntryV x lab w v) : EntryV y lab w v := e ▸ h

structure RentryD where
  kind : Int
  author : Int
  epoch : Int
  mode : Int
  peer : Int
  phase : Int
  nums : List (List Bool)
  texts : List (List UInt8)
  proof : List UInt8
def RentryV (d : RentryD) : VP := fun lab w v => ∃ A1 c1 A2 c2 A3 c3, v = .agg #[i64 d.kind, i64 d.author, i64 d.epoch, i64 d.mode, i64 d.peer, i64 d.phase, .slice A1 d.nums.length c1, .slice A2 d.texts.length c2, .slice A3 d.proof.length c3] ∧ NumsV d.nums lab w (.slice A1 d.nums.length c1) ∧ RowsV d.texts lab w (.slice A2 d.texts.length c2) ∧ BytesV d.proof lab w (.slice A3 d.proof.length c3)
theorem RentryV.pers (d : RentryD) : Pers (RentryV d) := ⟨fun s ⟨A1, c1, A2, c2, A3, c3, h, h1, h2, h3⟩ => ⟨A1, c1, A2, c2, A3, c3, h, (NumsV.pers _).step s h1, (RowsV.pers _).step s h2, (BytesV.pers _).step s h3⟩⟩
theorem RentryV.open {d : RentryD} {lab : Lab} {w : World} {v : Value} (h : RentryV d lab w v) : ∃ A1 c1 A2 c2 A3 c3, v = .agg #[i64 d.kind, i64 d.author, i64 d.epoch, i64 d.mode, i64 d.peer, i64 d.phase, .slice A1 d.nums.length c1, .slice A2 d.texts.length c2, .slice A3 d.proof.length c3] ∧ NumsV d.nums lab w (.slice A1 d.nums.length c1) ∧ RowsV d.texts lab w (.slice A2 d.texts.length c2) ∧ BytesV d.proof lab w (.slice A3 d.proof.length c3) := h
theorem RentryV.mk {a b c d e f : Int} {ns : List (List Bool)} {ts : List (List UInt8)} {bs : List UInt8} {lab : Lab} {w : World} {A1 A2 A3 : Option Addr} {n1 m1 n2 m2 n3 m3 : Nat} (h1 : NumsV ns lab w (.slice A1 n1 m1)) (h2 : RowsV ts lab w (.slice A2 n2 m2)) (h3 : BytesV bs lab w (.slice A3 n3 m3)) : RentryV ⟨a, b, c, d, e, f, ns, ts, bs⟩ lab w (.agg #[i64 a, i64 b, i64 c, i64 d, i64 e, i64 f, .slice A1 n1 m1, .slice A2 n2 m2, .slice A3 n3 m3]) := by
  have e1 := h1.cap.1
  have e2 := h2.cap.1
  have e3 := h3.cap.1
  subst e1; subst e2; subst e3
  exact ⟨_, _, _, _, _, _, rfl, h1, h2, h3⟩
theorem RentryV.cast {x y : RentryD} (e : x = y) {lab : Lab} {w : World} {v : Value} (h : RentryV x lab w v) : RentryV y lab w v := e ▸ h

structure PlainD where
  kind : Int
  author : Int
  epoch : Int
  mode : Int
  peer : Int
  phase : Int
  nums : List (List UInt8)
  texts : List (List UInt8)
  proof : List UInt8
def PlainV (d : PlainD) : VP := fun lab w v => ∃ A1 c1 A2 c2 A3 c3, v = .agg #[i64 d.kind, i64 d.author, i64 d.epoch, i64 d.mode, i64 d.peer, i64 d.phase, .slice A1 d.nums.length c1, .slice A2 d.texts.length c2, .slice A3 d.proof.length c3] ∧ RowsV d.nums lab w (.slice A1 d.nums.length c1) ∧ RowsV d.texts lab w (.slice A2 d.texts.length c2) ∧ BytesV d.proof lab w (.slice A3 d.proof.length c3)
theorem PlainV.pers (d : PlainD) : Pers (PlainV d) := ⟨fun s ⟨A1, c1, A2, c2, A3, c3, h, h1, h2, h3⟩ => ⟨A1, c1, A2, c2, A3, c3, h, (RowsV.pers _).step s h1, (RowsV.pers _).step s h2, (BytesV.pers _).step s h3⟩⟩
theorem PlainV.open {d : PlainD} {lab : Lab} {w : World} {v : Value} (h : PlainV d lab w v) : ∃ A1 c1 A2 c2 A3 c3, v = .agg #[i64 d.kind, i64 d.author, i64 d.epoch, i64 d.mode, i64 d.peer, i64 d.phase, .slice A1 d.nums.length c1, .slice A2 d.texts.length c2, .slice A3 d.proof.length c3] ∧ RowsV d.nums lab w (.slice A1 d.nums.length c1) ∧ RowsV d.texts lab w (.slice A2 d.texts.length c2) ∧ BytesV d.proof lab w (.slice A3 d.proof.length c3) := h
theorem PlainV.mk {a b c d e f : Int} {ns : List (List UInt8)} {ts : List (List UInt8)} {bs : List UInt8} {lab : Lab} {w : World} {A1 A2 A3 : Option Addr} {n1 m1 n2 m2 n3 m3 : Nat} (h1 : RowsV ns lab w (.slice A1 n1 m1)) (h2 : RowsV ts lab w (.slice A2 n2 m2)) (h3 : BytesV bs lab w (.slice A3 n3 m3)) : PlainV ⟨a, b, c, d, e, f, ns, ts, bs⟩ lab w (.agg #[i64 a, i64 b, i64 c, i64 d, i64 e, i64 f, .slice A1 n1 m1, .slice A2 n2 m2, .slice A3 n3 m3]) := by
  have e1 := h1.cap.1
  have e2 := h2.cap.1
  have e3 := h3.cap.1
  subst e1; subst e2; subst e3
  exact ⟨_, _, _, _, _, _, rfl, h1, h2, h3⟩
theorem PlainV.cast {x y : PlainD} (e : x = y) {lab : Lab} {w : World} {v : Value} (h : PlainV x lab w v) : PlainV y lab w v := e ▸ h

/-! ### what a writer makes of numbers, of texts -/
def long (l : List (List UInt8)) (most : Int) : Bool := l.any fun t => decide (most < (List.length t : Int))
def flat (l : List (List UInt8)) (most : Int) : List UInt8 := List.flatten (l.map fun t => textOr t most)
theorem long_snoc (l : List (List UInt8)) (k : Nat) (most : Int) (h : k < l.length) : (long (l.take k) most || decide (most < (List.length (List.getD l k []) : Int))) = long (l.take (k + 1)) most := by
  unfold long
  rw [List.take_succ_eq_append_getElem h, List.any_append]
  simp [List.getD, List.getElem?_eq_getElem h]
theorem flat_snoc (l : List (List UInt8)) (k : Nat) (most : Int) (h : k < l.length) : flat (l.take k) most ++ textOr (List.getD l k []) most = flat (l.take (k + 1)) most := by
  unfold flat
  rw [List.take_succ_eq_append_getElem h, List.map_append, List.flatten_append]
  simp [List.getD, List.getElem?_eq_getElem h]
theorem textOr_le (t : List UInt8) {most : Int} (h : 0 ≤ most) : ((textOr t most).length : Int) ≤ most + 2 := by
  unfold textOr
  split
  · simp; omega
  · simp [textB, be_length]; omega
theorem flat_le (l : List (List UInt8)) {most : Int} (h : 0 ≤ most) : ((flat l most).length : Int) ≤ (most + 2) * l.length := by
  induction l with
  | nil => simp [flat]
  | cons t r ih =>
    have e : flat (t :: r) most = textOr t most ++ flat r most := by simp [flat]
    have h1 := textOr_le t h
    rw [e, List.length_append, List.length_cons]
    rw [show (((r.length + 1 : Nat)) : Int) = (r.length : Int) + 1 by omega, Int.mul_add]
    omega
def natsB (l : List Nat) : List (List UInt8) := l.map least
theorem natsB_get (l : List Nat) (k : Nat) (h : k < l.length) : List.getD (natsB l) k [] = beN (List.getD l k 0) ((blen (List.getD l k 0) + 7) / 8) := by
  simp [natsB, List.getD, List.getElem?_map, List.getElem?_eq_getElem h, least]
theorem natsB_length (l : List Nat) : (natsB l).length = l.length := by simp [natsB]
theorem lt64 {b : Bool} {n : Nat} (h : (b || out_ (n : Int) 0 64) = false) : n ≤ 64 := by
  simp [out_] at h
  omega
theorem wlen (wr : List UInt8) (x : UInt64) (f : List UInt8) : (wr ++ be x 1 ++ f).length = wr.length + 1 + f.length := by simp [be_length]; omega

/-! ### a call that writes a writer of the caller's and has boxes of its own: labels of its own -/
def entW (lab : Lab) : Lab := fun k => match lab k with
  | some d => if d = 901 ∨ d = 902 then some d else some 0
  | none => none
theorem entW_valid {lab : Lab} {w : World} (hv : Valid lab w) : Valid (entW lab) w := fun k hk => by unfold entW; rw [hv k hk]
theorem entW_step (lab : Lab) (w : World) : ∃ U, (901 : Nat) ∉ U ∧ (902 : Nat) ∉ U ∧ Stp U lab w (entW lab) w := by
  refine ⟨((List.range w.heap.size).filterMap lab).filter fun d => decide (d ≠ 901) && decide (d ≠ 902), by simp, by simp, rfl, rfl, rfl, Nat.le_refl _, fun k hk e => ⟨by unfold entW; rw [e], rfl⟩, fun k d hk e hd => ⟨?_, rfl⟩⟩
  have : d = 901 ∨ d = 902 := by
    refine Classical.byContradiction fun hno => hd (List.mem_filter.2 ⟨List.mem_filterMap.2 ⟨k, by simpa using hk, e⟩, by simp; omega⟩)
  unfold entW
  rw [e]
  simp only
  rw [if_pos this]
theorem Stp.leaveW {T : List Nat} {lab lab' : Lab} {w w' : World} (h : Stp T (entW lab) w lab' w') (hT : (0 : Nat) ∉ T) (hv : Valid lab w) (hv' : Valid lab' w') : ∃ lab2 U, Stp [901, 902] lab w lab2 w' ∧ Valid lab2 w' ∧ (901 : Nat) ∉ U ∧ (902 : Nat) ∉ U ∧ Stp U lab' w' lab2 w' := by
  refine ⟨fun k => if lab' k = some 0 then lab k else if lab' k = some 901 ∨ lab' k = some 902 then lab' k else none, ((List.range w'.heap.size).filterMap lab').filter fun d => decide (d ≠ 901) && decide (d ≠ 902), ⟨h.os, h.tape, h.output, h.size, ?_, ?_⟩, ?_, by simp, by simp, rfl, rfl, rfl, Nat.le_refl _, ?_, ?_⟩
  · intro k hk e
    obtain ⟨h1, h2⟩ := h.free k hk (by unfold entW; rw [e])
    exact ⟨by simp [h1], h2⟩
  · intro k d hk e hd
    have hd' : ¬ (d = 901 ∨ d = 902) := by simpa using hd
    obtain ⟨h1, h2⟩ := h.own k 0 hk (by unfold entW; rw [e]; simp only; rw [if_neg hd']) hT
    exact ⟨by simp [h1, e], h2⟩
  · intro k hk
    have := hv' k hk
    simp [this]
  · intro k hk e
    exact ⟨by simp [e], rfl⟩
  · intro k d hk e hd
    have : d = 901 ∨ d = 902 := by
      refine Classical.byContradiction fun hno => hd (List.mem_filter.2 ⟨List.mem_filterMap.2 ⟨k, by simpa using hk, e⟩, by simp; omega⟩)
    refine ⟨?_, rfl⟩
    rcases this with rfl | rfl <;> simp [e]

def natsW (l : List Nat) (b : Bool) : List UInt8 := be (u64i (List.length l)) 1 ++ if b || out_ (List.length l) 0 64 then [] else flat (natsB l) 128
def textsW (l : List (List UInt8)) (b : Bool) : List UInt8 := be (u64i (List.length l)) 1 ++ if b || out_ (List.length l) 0 64 then [] else flat l 1024
theorem natsW_le (l : List Nat) (b : Bool) : (natsW l b).length ≤ 8400 := by
  unfold natsW
  rw [List.length_append, be_length]
  split
  · simp
  · rename_i h
    have h1 := lt64 (Bool.eq_false_iff.2 h)
    have h2 := flat_le (natsB l) (most := 128) (by omega)
    have h3 := natsB_length l
    omega
theorem textsW_le (l : List (List UInt8)) (b : Bool) : (textsW l b).length ≤ 66000 := by
  unfold textsW
  rw [List.length_append, be_length]
  split
  · simp
  · rename_i h
    have h1 := lt64 (Bool.eq_false_iff.2 h)
    have h2 := flat_le l (most := 1024) (by omega)
    omega
/-- Does an entry have only what its kind uses? -/
def usesB (kind mode peer phase nn nt np : Int) : Bool :=
  (decide (kind = 1) || decide (mode = 0)) && ((decide (kind = 1) || decide (kind = 3) || decide (kind = 6) || decide (peer = 0)) && ((decide (kind = 4) || decide (phase = 0)) &&
  ((decide (kind = 2) || decide (kind = 7) || decide (kind = 3) || decide (kind = 6) || decide (kind = 5) || decide (nn = 0)) && ((decide (kind = 2) || decide (kind = 7) || decide (nt = 0)) && (decide (kind = 3) || decide (kind = 6) || decide (np = 0))))))
def EntryD.bad (d : EntryD) : Bool := (((((((false || out_ d.kind 1 7) || out_ d.author 1 64) || out_ d.epoch 0 1048576) || out_ d.mode 0 255) || out_ d.peer 0 255) || out_ d.phase 0 255) || out_ (List.length d.nums) 0 64 || long (natsB d.nums) 128)
def EntryD.bad2 (d : EntryD) : Bool := (d.bad || out_ (List.length d.texts) 0 64 || long d.texts 1024) || decide (1024 < (List.length d.proof : Int))
def EntryD.head (d : EntryD) : List UInt8 := (((((([(69 : UInt8)] ++ be (u64i d.kind) (Int.toNat 1)) ++ be (u64i d.author) (Int.toNat 1)) ++ be (u64i d.epoch) (Int.toNat 4)) ++ be (u64i d.mode) (Int.toNat 1)) ++ be (u64i d.peer) (Int.toNat 1)) ++ be (u64i d.phase) (Int.toNat 1))
def EntryD.pre (d : EntryD) : Bool := ((((((false || out_ d.kind 1 7) || out_ d.author 1 64) || out_ d.epoch 0 1048576) || out_ d.mode 0 255) || out_ d.peer 0 255) || out_ d.phase 0 255)
def EntryD.all (d : EntryD) : List UInt8 := ((d.head ++ natsW d.nums d.pre) ++ textsW d.texts d.bad) ++ textOr d.proof 1024
def EntryD.no (d : EntryD) : Bool := d.bad2 || !(usesB d.kind d.mode d.peer d.phase (List.length d.nums) (List.length d.texts) (List.length d.proof)) || decide (4096 < (List.length d.all : Int))
theorem EntryD.no_a {d : EntryD} (h : d.bad2 = true) : d.no = true := by unfold EntryD.no; rw [h]; rfl
theorem EntryD.no_b {d : EntryD} (h : (!usesB d.kind d.mode d.peer d.phase (List.length d.nums) (List.length d.texts) (List.length d.proof)) = true) : d.no = true := by unfold EntryD.no; rw [h]; simp
theorem EntryD.no_c {d : EntryD} (h : decide (4096 < (List.length d.all : Int)) = true) : d.no = true := by unfold EntryD.no; rw [h]; simp
theorem EntryD.no_d {d : EntryD} (h1 : d.bad2 = false) (h2 : (!usesB d.kind d.mode d.peer d.phase (List.length d.nums) (List.length d.texts) (List.length d.proof)) = false) (h3 : decide (4096 < (List.length d.all : Int)) = false) : ¬ d.no = true := by unfold EntryD.no; rw [h1, h2, h3]; simp

/-! ### the document's lists of texts, of numbers -/
def tooMany (l : List (List UInt8)) (most : Int) : Bool := decide (64 < (List.length l : Int)) || long l most
def listB (l : List (List UInt8)) (most : Int) : List UInt8 := be (u64i (List.length l)) 1 ++ flat l most
theorem tooMany_len {l : List (List UInt8)} {most : Int} (h : (64 : Int) < ((List.length l : Nat) : Int)) : tooMany l most = true := by
  unfold tooMany; simp; left; omega
theorem tooMany_at {l : List (List UInt8)} {most : Int} {k : Nat} (hk : k < l.length) (h : most < ((List.length (List.getD l k []) : Nat) : Int)) : tooMany l most = true := by
  unfold tooMany long
  rw [Bool.or_eq_true]
  right
  rw [List.any_eq_true]
  refine ⟨l[k], List.getElem_mem _, ?_⟩
  simp only [List.getD, List.getElem?_eq_getElem hk, Option.getD_some] at h
  exact decide_eq_true h
theorem tooMany_no {l : List (List UInt8)} {most : Int} {k : Nat} (h1 : ¬ (64 : Int) < ((List.length l : Nat) : Int)) (hk : List.length l ≤ k) (h : long (List.take k l) most = false) : tooMany l most = false := by
  rw [List.take_of_length_le hk] at h
  unfold tooMany
  rw [h]
  simp; omega
theorem listB_start {l : List (List UInt8)} (most : Int) (h1 : ¬ (64 : Int) < ((List.length l : Nat) : Int)) : [UInt8.ofNat (((List.length l : Nat) : Int)).toNat] = be (u64i (List.length l)) 1 ++ flat (List.take 0 l) most := by
  rw [be_one (by omega) (by omega)]
  simp [flat, by8]
theorem textOr_le' {t : List UInt8} {most : Int} (h : ¬ most < ((List.length t : Nat) : Int)) : textOr t most = textB t := by
  unfold textOr; rw [if_neg h]
theorem listB_step {l : List (List UInt8)} {most : Int} {k : Nat} (hk : k < l.length) (h : ¬ most < ((List.length (List.getD l k []) : Nat) : Int)) (x : List UInt8) : x ++ flat (List.take k l) most ++ textB (List.getD l k []) = x ++ flat (List.take (k + 1) l) most := by
  rw [List.append_assoc, ← textOr_le' h, flat_snoc _ _ _ hk]
theorem long_step {l : List (List UInt8)} {most : Int} {k : Nat} (hk : k < l.length) (h : ¬ most < ((List.length (List.getD l k []) : Nat) : Int)) (hl : long (List.take k l) most = false) : long (List.take (k + 1) l) most = false := by
  rw [← long_snoc _ _ _ hk, hl, decide_eq_false h]; rfl
theorem textB_length (t : List UInt8) : (textB t).length = t.length + 2 := by simp [textB, be_length]; omega
def numsB (l : List (List Bool)) : List (List UInt8) := l.map fun n => beN (bval n) ((n.length + 7) / 8)
theorem numsB_get (l : List (List Bool)) (k : Nat) (h : k < l.length) : List.getD (numsB l) k [] = beN (bval (List.getD l k [])) ((List.length (List.getD l k []) + 7) / 8) := by
  simp [numsB, List.getD, List.getElem?_map, List.getElem?_eq_getElem h]
theorem numsB_length (l : List (List Bool)) : (numsB l).length = l.length := by simp [numsB]
theorem numsB_bits (l : List Nat) : numsB (l.map bitsOf) = natsB l := by
  unfold numsB natsB
  rw [List.map_map]
  apply List.map_congr_left
  intro a _
  simp only [Function.comp_apply, least]
  rw [bval_bitsOf, bitsOf_length]
theorem listB_start' {l : List (List UInt8)} {n : Nat} (hn : l.length = n) (most : Int) (h1 : ¬ (64 : Int) < ((n : Nat) : Int)) : [UInt8.ofNat (((n : Nat) : Int)).toNat] = be (u64i (List.length l)) 1 ++ flat (List.take 0 l) most := by
  subst hn; exact listB_start most h1

/-! ### is an entry little enough? -/
def fewS : List (List UInt8) → Int
  | [] => 0
  | t :: r => min (List.length t : Int) 3000 + fewS r
theorem fewS_nonneg (l : List (List UInt8)) : 0 ≤ fewS l := by
  induction l with
  | nil => simp [fewS]
  | cons t r ih => simp only [fewS]; omega
theorem fewS_append (a b : List (List UInt8)) : fewS (a ++ b) = fewS a + fewS b := by
  induction a with
  | nil => simp [fewS]
  | cons t r ih => simp only [List.cons_append, fewS, ih]; omega
theorem fewS_succ {l : List (List UInt8)} {k : Nat} (h : k < l.length) : fewS (List.take k l) + min (List.length (List.getD l k []) : Int) 3000 = fewS (List.take (k + 1) l) := by
  rw [List.take_succ_eq_append_getElem h, fewS_append]
  simp [fewS, List.getD, List.getElem?_eq_getElem h]
theorem fewS_take_le (l : List (List UInt8)) (k : Nat) : fewS (List.take k l) ≤ fewS l := by
  have h : fewS l = fewS (List.take k l) + fewS (List.drop k l) := by rw [← fewS_append, List.take_append_drop]
  have := fewS_nonneg (List.drop k l)
  omega
def PlainD.few (p : PlainD) : Bool := !(decide (100 < (List.length p.nums : Int)) || decide (100 < (List.length p.texts : Int)) || decide (2000 < (List.length p.proof : Int)) || decide (9000 < fewS p.texts))
theorem few_a {p : PlainD} (h : (100 : Int) < ((List.length p.nums : Nat) : Int)) : false = p.few := by unfold PlainD.few; rw [decide_eq_true h]; rfl
theorem few_b {p : PlainD} (h : (100 : Int) < ((List.length p.texts : Nat) : Int)) : false = p.few := by unfold PlainD.few; rw [decide_eq_true h]; simp
theorem few_c {p : PlainD} (h : (2000 : Int) < ((List.length p.proof : Nat) : Int)) : false = p.few := by unfold PlainD.few; rw [decide_eq_true h]; simp
theorem few_d {p : PlainD} (k : Nat) (h : (9000 : Int) < fewS (List.take k p.texts)) : false = p.few := by
  have := fewS_take_le p.texts k
  unfold PlainD.few; rw [decide_eq_true (show (9000 : Int) < fewS p.texts by omega)]; simp
theorem few_e {p : PlainD} {k : Nat} (h1 : ¬ (100 : Int) < ((List.length p.nums : Nat) : Int)) (h2 : ¬ (100 : Int) < ((List.length p.texts : Nat) : Int)) (h3 : ¬ (2000 : Int) < ((List.length p.proof : Nat) : Int)) (hk : List.length p.texts ≤ k) (h : fewS (List.take k p.texts) ≤ 9000) : true = p.few := by
  rw [List.take_of_length_le hk] at h
  unfold PlainD.few; rw [decide_eq_false h1, decide_eq_false h2, decide_eq_false h3, decide_eq_false (by omega)]; rfl

/-! ### six flags -/
/-- Which of Mode, Peer, Phase, Nums, Texts, Proof a kind uses. -/
def usedB (kind : Int) : Nat → Bool
  | 0 => decide (kind = 1)
  | 1 => decide (kind = 1) || decide (kind = 3) || decide (kind = 6)
  | 2 => decide (kind = 4)
  | 3 => decide (kind = 2) || decide (kind = 7) || decide (kind = 3) || decide (kind = 6) || decide (kind = 5)
  | 4 => decide (kind = 2) || decide (kind = 7)
  | 5 => decide (kind = 3) || decide (kind = 6)
  | _ => false
section
variable {P : Program} {N : Nat} {l : List (Nat × Value)} {w : World} {ty : TypeId}
theorem Does.build_arr {t e : TypeId} {n : Nat} {parts : Array (Nat × Operand)} (pv : List (Nat × Value)) (cs : List Value) {ag ag' : Bool} {m s by_ by' : Nat} {z : Value} {z' : Option Value} (ht : P.underlying t = some (.array n e)) (hz : tyRow P t = some (ag, m, some z, by_)) (he : tyRow P e = some (ag', s, z', by'))
    (hp : parts.toList.map (fun p => (p.1, ev l p.2)) = pv.map (fun p => (p.1, some p.2))) (hc : Instr.fill (fun i => some (i * s, s)) z.cells pv = some cs.toArray) : Does P l (.build t parts) ty w (.agg cs.toArray) w := by
  intro ρ hρ d pos af g
  have hpv := pairs_eval hp ρ hρ
  simp only [execOp, Instr.build, Sem.run_bind, run_zero' hz, run_underlying ht, Result.andThen_ok, run_sizeOf' he, hpv, List.toList_toArray, hc]
  rfl
theorem Does.indexAt_arr {t e : TypeId} {x y : Operand} {k : IntKind} {i : Int} {b n : Nat} {ag : Bool} {s by_ : Nat} {z : Option Value} (j : Nat) (ht : P.underlying t = some (.array n e)) (he : tyRow P e = some (ag, s, z, by_)) (hx : ev l x = some (.pointer (some ⟨b, 0, none⟩))) (hy : ev l y = some (.int k i)) (hij : i = (j : Int)) (hj : j < n) :
    Does P l (.indexAddr t x y) ty w (.pointer (some ⟨b, 0 + j * s, none⟩)) w := by
  subst hij
  have h := Does.indexAddr_arr (P := P) (l := l) (w := w) (ty := ty) ht he hx hy (by omega) (by omega)
  simpa using h
end
theorem arr_get (L : List Bool) {cs : Array Value} (j : Nat) (h : j < L.length) (e : cs = (L.map Value.bool).toArray := by rfl) : cs[0 + j * 1]? = some (Value.bool (List.getD L j false)) := by
  subst e
  simp [List.getD, List.getElem?_eq_getElem h]

/-! ### the document's entry -/
def RentryD.uses (d : RentryD) : Bool := usesB d.kind d.mode d.peer d.phase (List.length d.nums) (List.length d.texts) (List.length d.proof)
theorem uses_at {d : RentryD} {k : Nat} (hk : k < 6) (h1 : List.getD [decide ((d.mode : Int) ≠ (0 : Int)), decide ((d.peer : Int) ≠ (0 : Int)), decide ((d.phase : Int) ≠ (0 : Int)), decide ((0 : Int) < ((List.length d.nums : Nat) : Int)), decide ((0 : Int) < ((List.length d.texts : Nat) : Int)), decide ((0 : Int) < ((List.length d.proof : Nat) : Int))] k false = true)
    (h2 : (!(List.getD [usedB d.kind 0, usedB d.kind 1, usedB d.kind 2, usedB d.kind 3, usedB d.kind 4, usedB d.kind 5] k false)) = true) : d.uses = false := by
  have : k = 0 ∨ k = 1 ∨ k = 2 ∨ k = 3 ∨ k = 4 ∨ k = 5 := by omega
  unfold RentryD.uses usesB
  rcases this with rfl | rfl | rfl | rfl | rfl | rfl <;> simp [usedB] at h1 h2 ⊢ <;> grind
theorem uses_all {d : RentryD} {k : Nat} (hk : 6 ≤ k) (h : ∀ j, j < k → (List.getD [decide ((d.mode : Int) ≠ (0 : Int)), decide ((d.peer : Int) ≠ (0 : Int)), decide ((d.phase : Int) ≠ (0 : Int)), decide ((0 : Int) < ((List.length d.nums : Nat) : Int)), decide ((0 : Int) < ((List.length d.texts : Nat) : Int)), decide ((0 : Int) < ((List.length d.proof : Nat) : Int))] j false && !(List.getD [usedB d.kind 0, usedB d.kind 1, usedB d.kind 2, usedB d.kind 3, usedB d.kind 4, usedB d.kind 5] j false)) = false) : d.uses = true := by
  have h0 := h 0 (by omega)
  have h1 := h 1 (by omega)
  have h2 := h 2 (by omega)
  have h3 := h 3 (by omega)
  have h4 := h 4 (by omega)
  have h5 := h 5 (by omega)
  unfold RentryD.uses usesB
  clear h
  simp [usedB, List.length_pos_iff] at h0 h1 h2 h3 h4 h5 ⊢
  grind
def RentryD.out (d : RentryD) : Bool := out_ d.kind 1 7 || out_ d.author 1 64 || out_ d.epoch 0 1048576 || out_ d.mode 0 255 || out_ d.peer 0 255 || out_ d.phase 0 255 || decide (1024 < (List.length d.proof : Int))
def RentryD.bad (d : RentryD) : Bool := d.out || !d.uses || tooMany (numsB d.nums) 128 || tooMany d.texts 1024
def RentryD.all (d : RentryD) : List UInt8 := List.flatten [[(69 : UInt8), UInt8.ofNat d.kind.toNat, UInt8.ofNat d.author.toNat], four d.epoch, [UInt8.ofNat d.mode.toNat, UInt8.ofNat d.peer.toNat, UInt8.ofNat d.phase.toNat], listB (numsB d.nums) 128, listB d.texts 1024, textB d.proof]
theorem RentryD.bad_out {d : RentryD} (h : d.out = true) : d.bad = true := by unfold RentryD.bad; rw [h]; rfl
theorem RentryD.bad_uses {d : RentryD} (h : d.uses = false) : d.bad = true := by unfold RentryD.bad; rw [h]; simp
theorem RentryD.bad_nums {d : RentryD} (h : (!(!(tooMany (numsB d.nums) 128))) = true) : d.bad = true := by unfold RentryD.bad; rw [Bool.not_not] at h; rw [h]; simp
theorem RentryD.bad_texts {d : RentryD} (h : (!(!(tooMany d.texts 1024))) = true) : d.bad = true := by unfold RentryD.bad; rw [Bool.not_not] at h; rw [h]; simp
theorem RentryD.bad_no {d : RentryD} (h : d.out = false) (h1 : d.uses = true) (h2 : (!(!(tooMany (numsB d.nums) 128))) = false) (h3 : (!(!(tooMany d.texts 1024))) = false) : d.bad = false := by
  rw [Bool.not_not] at h2 h3
  unfold RentryD.bad; rw [h, h1, h2, h3]; rfl
theorem listIf_le (L : List (List UInt8)) {most : Int} (h : 0 ≤ most) : ((if tooMany L most then [] else listB L most).length : Int) ≤ 1 + (most + 2) * 64 := by
  split
  · simp; omega
  · rename_i hn
    have h1 : L.length ≤ 64 := by
      refine Classical.byContradiction fun hc => hn (tooMany_len (by omega))
    have h2 := flat_le L h
    have h3 : (most + 2) * (L.length : Int) ≤ (most + 2) * 64 := Int.mul_le_mul_of_nonneg_left (by omega) (by omega)
    unfold listB
    rw [List.length_append, be_length]
    omega
theorem four_length (n : Int) : (four n).length = 4 := rfl
theorem flags_a {F G : Nat → Bool} {k : Nat} (h : ∀ j, j < k → (F j && !(G j)) = false) (h1 : F k = false) : ∀ j, j < k + 1 → (F j && !(G j)) = false := by
  intro j hj
  by_cases e : j = k
  · subst e; rw [h1]; rfl
  · exact h j (by omega)
theorem flags_b {F G : Nat → Bool} {k : Nat} (h : ∀ j, j < k → (F j && !(G j)) = false) (h1 : (!(G k)) = false) : ∀ j, j < k + 1 → (F j && !(G j)) = false := by
  intro j hj
  by_cases e : j = k
  · subst e; rw [h1]; simp
  · exact h j (by omega)
theorem RentryD.final {d : RentryD} (h : d.out = false) (h1 : d.uses = true) (h2 : (!(!(tooMany (numsB d.nums) 128))) = false) (h3 : (!(!(tooMany d.texts 1024))) = false) :
    List.flatten [[(69 : UInt8), UInt8.ofNat d.kind.toNat, UInt8.ofNat d.author.toNat], four d.epoch, [UInt8.ofNat d.mode.toNat, UInt8.ofNat d.peer.toNat, UInt8.ofNat d.phase.toNat], (if tooMany (numsB d.nums) 128 then [] else listB (numsB d.nums) 128), (if tooMany d.texts 1024 then [] else listB d.texts 1024), textB d.proof] = if d.bad then [] else d.all := by
  rw [if_neg (show ¬ d.bad = true from by rw [RentryD.bad_no h h1 h2 h3]; exact Bool.false_ne_true)]
  rw [Bool.not_not] at h2 h3
  rw [if_neg (by rw [h2]; exact Bool.false_ne_true), if_neg (by rw [h3]; exact Bool.false_ne_true)]
  rfl
end Go.Proofs.Ytgfomedobfaidaa
