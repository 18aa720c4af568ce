/-
  What the program's values say: numbers as rows of words, rings, groups.
-/
import Derived.Test.YtgfomedobfaidaaAny
set_option linter.unusedVariables false
set_option linter.unusedSimpArgs false
namespace Go.Proofs.Ytgfomedobfaidaa
open Go.RowKit

def And2 (V U : VP) : VP := fun lab w v => ∃ a b, v = .tuple #[a, b] ∧ V lab w a ∧ U lab w b
theorem And2.pers {V U : VP} (hV : Pers V) (hU : Pers U) : Pers (And2 V U) := ⟨fun s ⟨a, b, h, h1, h2⟩ => ⟨a, b, h, hV.step s h1, hU.step s h2⟩⟩
def And3 (V U X : VP) : VP := fun lab w v => ∃ a b c, v = .tuple #[a, b, c] ∧ V lab w a ∧ U lab w b ∧ X lab w c
theorem And3.pers {V U X : VP} (hV : Pers V) (hU : Pers U) (hX : Pers X) : Pers (And3 V U X) := ⟨fun s ⟨a, b, c, h, h1, h2, h3⟩ => ⟨a, b, c, h, hV.step s h1, hU.step s h2, hX.step s h3⟩⟩

/-! ### numbers -/
def limbs (x : Nat) : List UInt32 := if h : x = 0 then [] else UInt32.ofNat x :: limbs (x / 4294967296)
termination_by x
decreasing_by omega
theorem limbs_zero : limbs 0 = [] := by unfold limbs; simp
theorem limbs_pos {x : Nat} (h : x ≠ 0) : limbs x = UInt32.ofNat x :: limbs (x / 4294967296) := by rw [limbs]; simp [h]
/-- The number of words, the lowest first. -/
def wv : List UInt32 → Nat
  | [] => 0
  | a :: r => a.toNat + 4294967296 * wv r
theorem wv_limbs (x : Nat) : wv (limbs x) = x := by
  induction x using Nat.strongRecOn with
  | _ x ih =>
    by_cases h : x = 0
    · subst h; rw [limbs_zero]; rfl
    · rw [limbs_pos h, wv, ih (x / 4294967296) (by omega)]
      have : (UInt32.ofNat x).toNat = x % 4294967296 := by simp
      omega
theorem limbs_wv : ∀ {l : List UInt32}, (∀ a, l.getLast? = some a → a ≠ 0) → limbs (wv l) = l
  | [], _ => by simp [wv, limbs_zero]
  | a :: r, h => by
    have ha := a.toNat_lt
    by_cases hr : r = []
    · subst hr
      have : a ≠ 0 := h a rfl
      have h0 : a.toNat ≠ 0 := fun e => this (by rw [← UInt32.toNat_inj, e]; rfl)
      simp only [wv, Nat.mul_zero, Nat.add_zero]
      rw [limbs_pos h0, Nat.div_eq_of_lt (by omega), limbs_zero]
      simp
    · have ih := limbs_wv (l := r) (fun b hb => h b (by rw [List.getLast?_cons]; cases r with
        | nil => exact absurd rfl hr
        | cons c r => simpa [List.getLast?_cons] using hb))
      have hpos : wv r ≠ 0 := fun e => by rw [e, limbs_zero] at ih; exact hr ih.symm
      simp only [wv]
      rw [limbs_pos (by omega), show (a.toNat + 4294967296 * wv r) / 4294967296 = wv r by omega, ih]
      congr 1
      rw [← UInt32.toNat_inj]
      simp
theorem limbs_inj {x y : Nat} (h : limbs x = limbs y) : x = y := by rw [← wv_limbs x, ← wv_limbs y, h]
theorem limbs_last (x : Nat) : ∀ a, (limbs x).getLast? = some a → a ≠ 0 := by
  induction x using Nat.strongRecOn with
  | _ x ih =>
    intro a ha
    by_cases h : x = 0
    · subst h; rw [limbs_zero] at ha; cases ha
    · rw [limbs_pos h] at ha
      by_cases h2 : x / 4294967296 = 0
      · rw [h2, limbs_zero] at ha
        simp at ha
        subst ha
        intro e
        have : (UInt32.ofNat x).toNat = 0 := by rw [e]; rfl
        simp at this
        omega
      · refine ih (x / 4294967296) (by omega) a ?_
        rw [List.getLast?_cons] at ha
        rw [limbs_pos h2] at ha ⊢
        simpa [List.getLast?_cons] using ha
theorem wv_lt (l : List UInt32) : wv l < 4294967296 ^ l.length := by
  induction l with
  | nil => simp [wv]
  | cons a r ih =>
    have := a.toNat_lt
    simp only [wv, List.length_cons, Nat.pow_succ]
    omega
/-- How many words. -/
def nw (x : Nat) : Nat := (limbs x).length
theorem nw_zero : nw 0 = 0 := by simp [nw, limbs_zero]
theorem nw_pos {x : Nat} (h : x ≠ 0) : nw x = nw (x / 4294967296) + 1 := by simp [nw, limbs_pos h]
theorem lt_nw (x : Nat) : x < 4294967296 ^ nw x := by have := wv_lt (limbs x); rwa [wv_limbs] at this
theorem nw_le {x n : Nat} (h : x < 4294967296 ^ n) : nw x ≤ n := by
  induction n generalizing x with
  | zero => simp at h; subst h; simp [nw_zero]
  | succ n ih =>
    by_cases h0 : x = 0
    · subst h0; simp [nw_zero]
    · rw [nw_pos h0]
      have := ih (x := x / 4294967296) (by rw [Nat.pow_succ] at h; omega)
      omega
theorem nw_mono {x y : Nat} (h : x ≤ y) : nw x ≤ nw y := nw_le (Nat.lt_of_le_of_lt h (lt_nw y))

/-- A number. -/
def NatV (x : Nat) : VP := fun lab w v => ∃ A c, v = .agg #[.slice A (nw x) c] ∧ nw x ≤ c ∧ c ≤ 9223372036854775807 ∧ RowAt lab w A ((limbs x).map u32)
theorem NatV.pers (x : Nat) : Pers (NatV x) := ⟨fun s ⟨A, c, h1, h2, h3, h4⟩ => ⟨A, c, h1, h2, h3, h4.lift s⟩⟩
theorem NatV.shape {x : Nat} {lab : Lab} {w : World} {v : Value} (h : NatV x lab w v) : ∃ A c, v = .agg #[.slice A (nw x) c] := by
  obtain ⟨A, c, h1, _⟩ := h
  exact ⟨A, c, h1⟩
theorem NatV.cap {x : Nat} {lab : Lab} {w : World} {A : Option Addr} {n c : Nat} (h : NatV x lab w (.agg #[.slice A n c])) : nw x ≤ c ∧ c ≤ 9223372036854775807 := by
  obtain ⟨A', c', h1, h2, h3, _⟩ := h
  cases h1
  exact ⟨h2, h3⟩
theorem NatV.zero (lab : Lab) (w : World) : NatV 0 lab w (.agg #[.slice none 0 0]) := ⟨none, 0, by rw [nw_zero], by rw [nw_zero]; omega, by omega, by rw [limbs_zero]; exact RowAt.nil⟩
theorem NatV.slice {x : Nat} {lab : Lab} {w : World} {A : Option Addr} {n c : Nat} (h : NatV x lab w (.agg #[.slice A n c])) : n = nw x ∧ nw x ≤ c ∧ c ≤ 9223372036854775807 ∧ RowAt lab w A ((limbs x).map u32) := by
  obtain ⟨A', c', h1, h2, h3, h4⟩ := h
  cases h1
  exact ⟨rfl, h2, h3, h4⟩

/-- Which of two numbers is greater. -/
def cmpI (a b : Nat) : Int := if a < b then -1 else if a = b then 0 else 1
@[simp] theorem cmpI_lt (a b : Nat) : cmpI a b < 0 ↔ a < b := by unfold cmpI; split <;> (try split) <;> simp_all <;> omega
@[simp] theorem cmpI_eq (a b : Nat) : cmpI a b = 0 ↔ a = b := by unfold cmpI; split <;> (try split) <;> simp_all <;> omega
@[simp] theorem cmpI_le (a b : Nat) : cmpI a b ≤ 0 ↔ a ≤ b := by unfold cmpI; split <;> (try split) <;> simp_all <;> omega
@[simp] theorem cmpI_gt (a b : Nat) : 0 < cmpI a b ↔ b < a := by unfold cmpI; split <;> (try split) <;> simp_all <;> omega
@[simp] theorem cmpI_ge (a b : Nat) : 0 ≤ cmpI a b ↔ b ≤ a := by unfold cmpI; split <;> (try split) <;> simp_all <;> omega
theorem NatV.cast {x y : Nat} (e : x = y) {lab : Lab} {w : World} {v : Value} (h : NatV x lab w v) : NatV y lab w v := e ▸ h
/-- A row of bytes. -/
def BytesV (bs : List UInt8) : VP := fun lab w v => ∃ A c, v = .slice A bs.length c ∧ bs.length ≤ c ∧ c ≤ 9223372036854775807 ∧ RowAt lab w A (bs.map u8)
theorem BytesV.pers (bs : List UInt8) : Pers (BytesV bs) := ⟨fun s ⟨A, c, h1, h2, h3, h4⟩ => ⟨A, c, h1, h2, h3, h4.lift s⟩⟩
theorem BytesV.shape {bs : List UInt8} {lab : Lab} {w : World} {v : Value} (h : BytesV bs lab w v) : ∃ A c, v = .slice A bs.length c := by
  obtain ⟨A, c, h1, _⟩ := h
  exact ⟨A, c, h1⟩
theorem BytesV.nil (lab : Lab) (w : World) : BytesV [] lab w (.slice none 0 0) := ⟨none, 0, rfl, by simp, by omega, RowAt.nil⟩
theorem BytesV.cast {x y : List UInt8} (e : x = y) {lab : Lab} {w : World} {v : Value} (h : BytesV x lab w v) : BytesV y lab w v := e ▸ h

/-! ### structs behind a pointer that nobody writes -/
/-- Block b holds these cells, and nobody writes it. -/
def Ro (b : Nat) (cs : List Value) : VP := fun lab w _ => lab b = none ∧ ∃ t fr, w.heap[b]? = some (.cells cs.toArray t fr)
theorem Ro.pers (b : Nat) (cs : List Value) : Pers (Ro b cs) := ⟨fun s ⟨h1, t, fr, h2⟩ => by
  obtain ⟨k1, k2⟩ := s.free b (block_lt h2) h1
  exact ⟨k1, t, fr, k2.trans h2⟩⟩
theorem Ro.cell {b : Nat} {cs : List Value} {lab : Lab} {w : World} {u v : Value} (h : Ro b cs lab w u) (j : Nat) (hj : cs[j]? = some v) : w.cell? ⟨b, j, none⟩ = some v := by
  obtain ⟨h1, t, fr, h2⟩ := h
  rw [cell_of_row w b j _ t fr h2]
  simpa using hj
theorem Ro.cells {b : Nat} {cs : List Value} {lab : Lab} {w : World} {u : Value} (h : Ro b cs lab w u) (off : Nat) {cs' : List Value} (hc : (cs.drop off).take cs'.length = cs' := by rfl) : ∀ (j : Nat) (v : Value), cs'[j]? = some v → w.cell? ((⟨b, off, none⟩ : Addr).add j) = some v := by
  intro j v hj
  rw [add_flat]
  have hjl : j < cs'.length := (List.getElem?_eq_some_iff.1 hj).1
  rw [← hc, List.getElem?_take_of_lt hjl, List.getElem?_drop] at hj
  exact h.cell _ hj
def PtrV (F : Lab → World → List Value → Prop) : VP := fun lab w v => ∃ b t fr cs, v = .pointer (some ⟨b, 0, none⟩) ∧ lab b = none ∧ w.heap[b]? = some (.cells (List.toArray cs) t fr) ∧ F lab w cs
theorem PtrV.pers {F : Lab → World → List Value → Prop} (hF : ∀ (T : List Nat) (lab : Lab) (w : World) (lab' : Lab) (w' : World) (cs : List Value), Stp T lab w lab' w' → F lab w cs → F lab' w' cs) : Pers (PtrV F) := ⟨fun s ⟨b, t, fr, cs, h1, h2, h3, h4⟩ => by
  obtain ⟨k1, k2⟩ := s.free b (block_lt h3) h2
  exact ⟨b, t, fr, cs, h1, k1, k2.trans h3, hF _ _ _ _ _ _ s h4⟩⟩

theorem PtrV.shape {F : Lab → World → List Value → Prop} {lab : Lab} {w : World} {v : Value} (h : PtrV F lab w v) : ∃ b, v = .pointer (some ⟨b, 0, none⟩) := by
  obtain ⟨b, t, fr, cs, h1, _⟩ := h
  exact ⟨b, h1⟩

def ringSmall (m : Nat) : Nat := if m < 4294967296 then m else 0
def RingF (m : Nat) (lab : Lab) (w : World) (cs : List Value) : Prop := ∃ A c, cs = [.slice A (nw m) c, .int .u64 ((ringSmall m : Nat) : Int)] ∧ NatV m lab w (.agg #[.slice A (nw m) c])
theorem RingF.pers {m : Nat} {T : List Nat} {lab : Lab} {w : World} {lab' : Lab} {w' : World} {cs : List Value} (s : Stp T lab w lab' w') : RingF m lab w cs → RingF m lab' w' cs := fun ⟨A, c, h1, h2⟩ => ⟨A, c, h1, (NatV.pers m).step s h2⟩
/-- A ring. -/
def RingV (m : Nat) : VP := PtrV (RingF m)
theorem RingV.pers (m : Nat) : Pers (RingV m) := PtrV.pers (F := RingF m) (fun _ _ _ _ _ _ s h => RingF.pers s h)

theorem RingV.open {m : Nat} {lab : Lab} {w : World} {b : Nat} (h : RingV m lab w (.pointer (some ⟨b, 0, none⟩))) : ∃ A c, Ro b [.slice A (nw m) c, .int .u64 ((ringSmall m : Nat) : Int)] lab w undef ∧ NatV m lab w (.agg #[.slice A (nw m) c]) := by
  obtain ⟨b', t, fr, cs, h1, h2, h3, A, c, rfl, h4⟩ := h
  cases h1
  exact ⟨A, c, ⟨h2, t, fr, h3⟩, h4⟩
theorem RingV.cast {x y : Nat} (e : x = y) {lab : Lab} {w : World} {v : Value} (h : RingV x lab w v) : RingV y lab w v := e ▸ h

structure GroupD where
  p : Nat
  q : Nat
  g : Nat
  h : Nat
def GroupD.size (G : GroupD) : Nat := (G.p.log2 + 8) / 8
def GroupF (G : GroupD) (lab : Lab) (w : World) (cs : List Value) : Prop := ∃ bp bq Ag cg Ah ch, cs = [.pointer (some ⟨bp, 0, none⟩), .pointer (some ⟨bq, 0, none⟩), .slice Ag (nw G.g) cg, .slice Ah (nw G.h) ch, i64 G.size] ∧
  RingV G.p lab w (.pointer (some ⟨bp, 0, none⟩)) ∧ RingV G.q lab w (.pointer (some ⟨bq, 0, none⟩)) ∧ NatV G.g lab w (.agg #[.slice Ag (nw G.g) cg]) ∧ NatV G.h lab w (.agg #[.slice Ah (nw G.h) ch])
theorem GroupF.pers {G : GroupD} {T : List Nat} {lab : Lab} {w : World} {lab' : Lab} {w' : World} {cs : List Value} (s : Stp T lab w lab' w') : GroupF G lab w cs → GroupF G lab' w' cs :=
  fun ⟨bp, bq, Ag, cg, Ah, ch, h1, h2, h3, h4, h5⟩ => ⟨bp, bq, Ag, cg, Ah, ch, h1, (RingV.pers _).step s h2, (RingV.pers _).step s h3, (NatV.pers _).step s h4, (NatV.pers _).step s h5⟩
/-- A group. -/
def GroupV (G : GroupD) : VP := PtrV (GroupF G)
theorem GroupV.pers (G : GroupD) : Pers (GroupV G) := PtrV.pers (F := GroupF G) (fun _ _ _ _ _ _ s h => GroupF.pers s h)
theorem GroupV.open {G : GroupD} {lab : Lab} {w : World} {b : Nat} (h : GroupV G lab w (.pointer (some ⟨b, 0, none⟩))) : ∃ bp bq Ag cg Ah ch,
    Ro b [.pointer (some ⟨bp, 0, none⟩), .pointer (some ⟨bq, 0, none⟩), .slice Ag (nw G.g) cg, .slice Ah (nw G.h) ch, i64 G.size] lab w undef ∧
    RingV G.p lab w (.pointer (some ⟨bp, 0, none⟩)) ∧ RingV G.q lab w (.pointer (some ⟨bq, 0, none⟩)) ∧ NatV G.g lab w (.agg #[.slice Ag (nw G.g) cg]) ∧ NatV G.h lab w (.agg #[.slice Ah (nw G.h) ch]) := by
  obtain ⟨b', t, fr, cs, h1, h2, h3, bp, bq, Ag, cg, Ah, ch, rfl, h4⟩ := h
  cases h1
  exact ⟨bp, bq, Ag, cg, Ah, ch, ⟨h2, t, fr, h3⟩, h4⟩
end Go.Proofs.Ytgfomedobfaidaa
