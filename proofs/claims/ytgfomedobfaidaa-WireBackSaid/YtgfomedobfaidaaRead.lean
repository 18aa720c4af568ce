/-
  What is read out of bytes: plain functions of what is left, and whether it went wrong.
-/
import Derived.Test.YtgfomedobfaidaaOf
import Derived.Test.YtgfomedobfaidaaNsf
set_option linter.unusedVariables false
set_option linter.unusedSimpArgs false
namespace Go.Proofs.Ytgfomedobfaidaa
open Go.RowKit

structure Rd where
  b : List UInt8
  bad : Bool
def Rd.take (r : Rd) (n : Nat) : List UInt8 × Rd := if r.b.length < n then (List.replicate n 0, ⟨r.b, true⟩) else (r.b.take n, ⟨r.b.drop n, r.bad⟩)
def Rd.num (r : Rd) (n : Nat) : Nat × Rd := (nv (r.take n).1, (r.take n).2)
def Rd.text (r : Rd) : List UInt8 × Rd := if (r.num 2).2.bad then ([], (r.num 2).2) else (r.num 2).2.take (r.num 2).1
theorem Rd.take_len (r : Rd) (n : Nat) : (r.take n).1.length = n := by
  unfold Rd.take; split
  · simp
  · simp; omega
theorem Rd.num_lt (r : Rd) (n : Nat) : (r.num n).1 < 256 ^ n := by
  have h := nv_lt (r.take n).1
  rw [Rd.take_len] at h; exact h
theorem Rd.text_len (r : Rd) : r.text.1.length < 65536 := by
  unfold Rd.text; split
  · simp
  · rw [Rd.take_len]; exact r.num_lt 2
def Rd.natOf (t : List UInt8) : Nat := if 128 < t.length then 0 else nv t
def Rd.nats1 : Nat → Rd → List Nat × Rd
  | 0, r => ([], r)
  | n + 1, r => if r.bad then ([], r) else
    (Rd.natOf r.text.1 :: (Rd.nats1 n ⟨r.text.2.b, r.text.2.bad || decide (128 < r.text.1.length)⟩).1, (Rd.nats1 n ⟨r.text.2.b, r.text.2.bad || decide (128 < r.text.1.length)⟩).2)
def Rd.nats (r : Rd) : List Nat × Rd := Rd.nats1 (r.num 1).1 (r.num 1).2
def Rd.texts1 : Nat → Rd → List (List UInt8) × Rd
  | 0, r => ([], r)
  | n + 1, r => if r.bad then ([], r) else (r.text.1 :: (Rd.texts1 n r.text.2).1, (Rd.texts1 n r.text.2).2)
def Rd.texts (r : Rd) : List (List UInt8) × Rd := Rd.texts1 (r.num 1).1 (r.num 1).2
def Rd.s1 (r : Rd) : Rd := (r.num 1).2
def Rd.s2 (r : Rd) : Rd := (r.s1.num 1).2
def Rd.s3 (r : Rd) : Rd := (r.s2.num 1).2
def Rd.s4 (r : Rd) : Rd := (r.s3.num 4).2
def Rd.s5 (r : Rd) : Rd := (r.s4.num 1).2
def Rd.s6 (r : Rd) : Rd := (r.s5.num 1).2
def Rd.s7 (r : Rd) : Rd := (r.s6.num 1).2
def Rd.s8 (r : Rd) : Rd := r.s7.nats.2
def Rd.s9 (r : Rd) : Rd := r.s8.texts.2
def Rd.entryD (r : Rd) : EntryD := ⟨((r.s1.num 1).1 : Int), ((r.s2.num 1).1 : Int), ((r.s3.num 4).1 : Int), ((r.s4.num 1).1 : Int), ((r.s5.num 1).1 : Int), ((r.s6.num 1).1 : Int), r.s7.nats.1, r.s8.texts.1, r.s9.text.1⟩
def Rd.entryR (r : Rd) : Rd := r.s9.text.2
def Rd.v4 (r : Rd) : Rd := (r.s3.num 4).2
def Rd.v5 (r : Rd) : Rd := (r.v4.num 4).2
def Rd.v6 (r : Rd) : Rd := (r.v5.num 4).2
def Rd.voteD (r : Rd) : VoteD := ⟨((r.s1.num 1).1 : Int), ((r.s2.num 1).1 : Int), ((r.s3.num 4).1 : Int), ((r.v4.num 4).1 : Int), ((r.v5.num 4).1 : Int) - 1, r.v6.text.1⟩
def Rd.voteR (r : Rd) : Rd := r.v6.text.2
/-! ### rows of bytes that grow -/
section
variable {lab : Lab} {w : World}
theorem EachB.step {T : List Nat} {lab' : Lab} {w' : World} (st : Stp T lab w lab' w') : ∀ {L : List (List UInt8)} {vs : List Value}, EachB lab w L vs → EachB lab' w' L vs
  | [], [], _ => trivial
  | _ :: _, _ :: _, h => ⟨(BytesV.pers _).step st h.1, EachB.step st h.2⟩
  | [], _ :: _, h => h.elim
  | _ :: _, [], h => h.elim
theorem EachB.snoc {x : List UInt8} {v : Value} (hx : BytesV x lab w v) : ∀ {L : List (List UInt8)} {vs : List Value}, EachB lab w L vs → EachB lab w (L ++ [x]) (vs ++ [v])
  | [], [], _ => ⟨hx, trivial⟩
  | _ :: _, _ :: _, h => ⟨h.1, EachB.snoc hx h.2⟩
  | [], _ :: _, h => h.elim
  | _ :: _, [], h => h.elim
theorem EachB.len : ∀ {L : List (List UInt8)} {vs : List Value}, EachB lab w L vs → vs.length = L.length
  | [], [], _ => rfl
  | _ :: _, _ :: _, h => by simp [EachB.len h.2]
  | [], _ :: _, h => h.elim
  | _ :: _, [], h => h.elim
theorem EachB.append : ∀ {L : List (List UInt8)} {vs : List Value} {L' : List (List UInt8)} {vs' : List Value}, EachB lab w L vs → EachB lab w L' vs' → EachB lab w (L ++ L') (vs ++ vs')
  | [], [], _, _, _, h => h
  | _ :: _, _ :: _, _, _, h, h' => ⟨h.1, EachB.append h.2 h'⟩
  | [], _ :: _, _, _, h, _ => h.elim
  | _ :: _, [], _, _, h, _ => h.elim
theorem EachB.of : ∀ {L : List (List UInt8)} {vs : List Value}, vs.length = L.length → (∀ (i : Nat) (x : List UInt8), L[i]? = some x → ∃ u, vs[i]? = some u ∧ BytesV x lab w u) → EachB lab w L vs
  | [], [], _, _ => trivial
  | b :: r, v :: s, hl, h => by
    obtain ⟨u, hu, hb⟩ := h 0 b rfl
    simp at hu
    subst hu
    exact ⟨hb, EachB.of (by simpa using hl) fun i x hi => h (i + 1) x (by simpa using hi)⟩
  | [], _ :: _, hl, _ => by simp at hl
  | _ :: _, [], hl, _ => by simp at hl
theorem EachB.cell1 : ∀ {L : List (List UInt8)} {vs : List Value}, EachB lab w L vs → ∀ u ∈ vs, u.oneCell' = true
  | [], [], _, u, hu => by cases hu
  | _ :: _, _ :: _, h, u, hu => by
    rcases List.mem_cons.1 hu with rfl | hu
    · obtain ⟨A2, c2, rfl⟩ := BytesV.shape h.1; rfl
    · exact EachB.cell1 h.2 u hu
  | [], _ :: _, h, _, _ => h.elim
  | _ :: _, [], h, _, _ => h.elim
theorem RowsV.cells {L : List (List UInt8)} {A : Option Addr} {n c : Nat} (h : RowsV L lab w (.slice A n c)) : ∃ vs, List.length vs = n ∧ RowAt lab w A vs ∧ EachB lab w L vs ∧ ∀ u ∈ vs, u.oneCell' = true := by
  obtain ⟨A', c', vs, h1, _, _, h4, h5, h6⟩ := h
  cases h1
  have e := EachB.of h4 h6
  exact ⟨vs, h4, h5, e, e.cell1⟩
theorem App.rowsB {d n c : Nat} {t : TypeId} {A : Option Addr} {L : List (List UInt8)} {cs : List Value} (h : App lab w d t (.slice A n c) n cs) (e : EachB (labFree lab d) w L cs) : RowsV L (labFree lab d) w (.slice A n c) := by
  have h1 := h.row
  have h2 := h.len
  have h3 := e.len
  have : n = L.length := by omega
  subst this
  exact ⟨A, c, cs, rfl, h1.2.1, h1.2.2, h3, h1.1, e.get⟩
def AppB (lab : Lab) (w : World) (d : Nat) (t : TypeId) (v : Value) (n : Nat) (L : List (List UInt8)) : Prop := ∃ cs, App lab w d t v n cs ∧ EachB lab w L cs
theorem AppB.mk {d n n' : Nat} {t : TypeId} {v : Value} {L L' : List (List UInt8)} {cs : List Value} (e : L = L') (en : n = n') (h : App lab w d t v n cs) (h1 : EachB lab w L cs) : AppB lab w d t v n' L' := by subst e; subst en; exact ⟨cs, h, h1⟩
end
/-! ### what the code says -/
section
variable {r : Rd} {n : Nat}
theorem rd_short (h : r.b.length < n) : List.replicate n 0 = (r.take n).1 := by simp [Rd.take, h]
theorem rd_short2 (h : r.b.length < n) : true = (r.take n).2.bad := by simp [Rd.take, h]
theorem rd_short3 (h : r.b.length < n) : r.b = (r.take n).2.b := by simp [Rd.take, h]
theorem rd_long (h : ¬ r.b.length < n) : List.take n r.b = (r.take n).1 := by simp [Rd.take, h]
theorem rd_long2 (h : ¬ r.b.length < n) : r.bad = (r.take n).2.bad := by simp [Rd.take, h]
theorem rd_long3 (h : ¬ r.b.length < n) : List.drop n r.b = (r.take n).2.b := by simp [Rd.take, h]
theorem Rd.num_le (r : Rd) (n : Nat) : (r.num n).2.b.length ≤ r.b.length := by
  unfold Rd.num Rd.take; split <;> simp
theorem rd_text1 (h : (r.num 2).2.bad = true) : [] = r.text.1 := by simp [Rd.text, h]
theorem rd_text2 (h : (r.num 2).2.bad = false) : ((r.num 2).2.take (r.num 2).1).1 = r.text.1 := by unfold Rd.text; rw [if_neg (by rw [h]; exact Bool.false_ne_true)]
theorem rd_text3 (h : (r.num 2).2.bad = true) : (r.num 2).2.bad = r.text.2.bad := by simp [Rd.text, h]
theorem rd_text4 (h : (r.num 2).2.bad = true) : (r.num 2).2.b = r.text.2.b := by simp [Rd.text, h]
theorem rd_text5 (h : (r.num 2).2.bad = false) : ((r.num 2).2.take (r.num 2).1).2.bad = r.text.2.bad := by unfold Rd.text; rw [if_neg (by rw [h]; exact Bool.false_ne_true)]
theorem rd_text6 (h : (r.num 2).2.bad = false) : ((r.num 2).2.take (r.num 2).1).2.b = r.text.2.b := by unfold Rd.text; rw [if_neg (by rw [h]; exact Bool.false_ne_true)]
theorem rd_numEq {k : Nat} (h : n ≤ k) : ((nv (List.take k (r.take n).1) : Nat) : Int) = (((r.num n).1 : Nat) : Int) := by
  rw [List.take_of_length_le (by rw [Rd.take_len]; exact h)]; rfl
theorem nv_lt4 {k : Nat} (h : k ≤ 4) (b : List UInt8) : nv (b.take k) < 4294967296 := by
  refine Nat.lt_of_lt_of_le (nv_lt _) ?_
  rw [show (4294967296 : Nat) = 256 ^ 4 from rfl]
  exact Nat.pow_le_pow_right (by omega) (by rw [List.length_take]; omega)
end
/-! ### rules -/
theorem nv_append (b : List UInt8) (x : UInt8) : nv (b ++ [x]) = 256 * nv b + x.toNat := by simp [nv]
theorem nv_takeS {b : List UInt8} {k : Nat} (h : k < b.length) : nv (b.take (k + 1)) = nv (b.take k) * 256 + (b.getD k 0).toNat := by
  rw [List.take_succ_eq_append_getElem h, nv_append, Nat.mul_comm]
  simp [List.getD, h]
theorem BytesV.none {bs : List UInt8} {lab : Lab} {w : World} {n c : Nat} (h : BytesV bs lab w (.slice none n c)) : bs = [] := by
  obtain ⟨A, c', h1, h2, h3, h4⟩ := h
  cases h1
  rcases h4 with h | ⟨b, o, arr, t, fr, hA, _⟩
  · simpa using h
  · cases hA
section
variable {P : Program} {l : List (Nat × Value)} {w : World} {ty : TypeId}
theorem Does.i64_shl8 {t yt : TypeId} {x y : Operand} {yk : IntKind} {a : Nat} (hx : ev l x = some (i64 (a : Int))) (hy : ev l y = some (.int yk 8)) (h : a * 256 < 9223372036854775808) : Does P l (.binOp .shl t x y yt) ty w (i64 ((a * 256 : Nat) : Int)) w :=
  run_binOp_shift (.inl rfl) hx hy (by
    have e : IntKind.i64.wrap ((a : Int) * 2 ^ (min (8 : Int).toNat IntKind.i64.bits)) = ((a * 256 : Nat) : Int) := by
      rw [show (min (8 : Int).toNat IntKind.i64.bits) = 8 from rfl, show ((a : Int) * 2 ^ 8) = ((a * 256 : Nat) : Int) by simp]
      rw [i64_wrap_in (by omega) (by omega)]
    simp only [Op.shift]; rw [if_neg (by omega), e]; rfl)
theorem Does.slice_nil {t e yt : TypeId} {x y : Operand} {A : Option Addr} {n c : Nat} (ht : P.underlying t = some (.slice e)) (hx : ev l x = some (.slice A n c)) (hy : ev l y = some (.slice none 0 0)) : Does P l (.binOp .eql t x y yt) ty w (.bool (Option.isNone A)) w := by
  intro ρ hρ d pos af g
  have hg : (eqGuard .eql t x y (.slice A n c) (.slice none 0 0)).run P w = .ok () w := rfl
  have he : ∀ d : Nat, (Op.equalIn (d + 1) t (.slice A n c) (.slice none 0 0)).run P w = .ok (Option.isNone A) w := fun d => by cases A <;> simp [Op.equalIn, run_underlying ht]
  have hb : (binOp .eql t (.slice A n c) (.slice none 0 0)).run P w = .ok (.bool (Option.isNone A)) w := by
    have e : binOp .eql t (.slice A n c) (.slice none 0 0) = (do pure (.bool ((← Op.equal t (.slice A n c) (.slice none 0 0))))) := rfl
    rw [e]
    simp [Op.equal, Op.maxDepth, he 9999]
  simp only [execOp, hρ _ _ hx, hρ _ _ hy, Sem.run_bind, hg, Result.andThen_ok, hb]
  rfl
theorem clone_nil {bs : List UInt8} {lab : Lab} {w : World} {A : Option Addr} {n c : Nat} (h : BytesV bs lab w (.slice A n c)) (hA : Option.isNone A = true) : [] = bs := by
  cases A with
  | none => exact (BytesV.none h).symm
  | some a => cases hA
theorem or_low8 {a b : Nat} (h : b < 256) : a * 256 ||| b = a * 256 + b := by
  have := Nat.two_pow_add_eq_or_of_lt (i := 8) (b := b) (by omega) a
  rw [show (2 : Nat) ^ 8 = 256 from rfl, Nat.mul_comm] at this; exact this.symm
theorem bv_nat {n : Nat} (h : n < 9223372036854775808) : (BitVec.ofInt 64 (n : Int)).toNat = n := by
  rw [BitVec.ofInt_natCast, BitVec.toNat_ofNat]
  exact Nat.mod_eq_of_lt (Nat.lt_trans h (by decide))
theorem Does.i64_or_low {t yt : TypeId} {x y : Operand} {a b : Nat} (hx : ev l x = some (i64 ((a * 256 : Nat) : Int))) (hy : ev l y = some (i64 (b : Int))) (hb : b < 256) (h : a * 256 + 256 < 9223372036854775808) : Does P l (.binOp .or t x y yt) ty w (i64 ((a * 256 + b : Nat) : Int)) w :=
  run_binOp_int hx hy (by
    have e : IntKind.i64.wrap ((BitVec.ofInt 64 ((a * 256 : Nat) : Int) ||| BitVec.ofInt 64 (b : Int)).toNat : Int) = ((a * 256 + b : Nat) : Int) := by
      have h1 := bv_nat (n := a * 256) (Nat.lt_of_le_of_lt (Nat.le_add_right _ 256) h)
      have h2 := bv_nat (n := b) (Nat.lt_trans hb (by decide))
      rw [BitVec.toNat_or, h1, h2, or_low8 hb]
      exact i64_wrap_in (by omega) (by omega)
    simp only [binOp, Op.intBits, ne_eq, not_true, if_false]; exact congrArg (fun z => Result.ok (Value.int .i64 z) w) e)
end
/-! ### rows that are read -/
section
variable {r : Rd} {n : Nat}
theorem nats1_zero (r : Rd) : Rd.nats1 0 r = ([], r) := rfl
theorem nats1_bad (h : r.bad = true) : Rd.nats1 n r = ([], r) := by cases n <;> simp [Rd.nats1, h]
theorem nats1_step (h : r.bad = false) : Rd.nats1 (n + 1) r = (Rd.natOf r.text.1 :: (Rd.nats1 n ⟨r.text.2.b, r.text.2.bad || decide (128 < r.text.1.length)⟩).1, (Rd.nats1 n ⟨r.text.2.b, r.text.2.bad || decide (128 < r.text.1.length)⟩).2) := by
  rw [Rd.nats1, if_neg (by rw [h]; exact Bool.false_ne_true)]
theorem texts1_bad (h : r.bad = true) : Rd.texts1 n r = ([], r) := by cases n <;> simp [Rd.texts1, h]
theorem texts1_step (h : r.bad = false) : Rd.texts1 (n + 1) r = (r.text.1 :: (Rd.texts1 n r.text.2).1, (Rd.texts1 n r.text.2).2) := by
  rw [Rd.texts1, if_neg (by rw [h]; exact Bool.false_ne_true)]
theorem tx_zero {S : List (List UInt8) × Rd} {N : Nat} {s : Rd} (h : S = Rd.texts1 N s) : ([] ++ (Rd.texts1 (N - 0) s).1, (Rd.texts1 (N - 0) s).2) = S := by rw [h]; rfl
theorem tx_end {S : List (List UInt8) × Rd} {N k : Nat} {o : List (List UInt8)} {s : Rd} (h : (o ++ (Rd.texts1 (N - k) s).1, (Rd.texts1 (N - k) s).2) = S) (hk : N ≤ k) : o = S.1 ∧ s.b = S.2.b ∧ s.bad = S.2.bad := by
  rw [show N - k = 0 by omega] at h; subst h; simp [Rd.texts1]
theorem tx_bad {S : List (List UInt8) × Rd} {N k : Nat} {o : List (List UInt8)} {s : Rd} (h : (o ++ (Rd.texts1 (N - k) s).1, (Rd.texts1 (N - k) s).2) = S) (hd : s.bad = true) : o = S.1 ∧ s.b = S.2.b ∧ s.bad = S.2.bad := by
  rw [texts1_bad hd] at h; subst h; simp
theorem tx_step {S : List (List UInt8) × Rd} {N k : Nat} {o : List (List UInt8)} {s : Rd} (h : (o ++ (Rd.texts1 (N - k) s).1, (Rd.texts1 (N - k) s).2) = S) (hd : s.bad = false) (hk : k < N) :
    ((o ++ [s.text.1]) ++ (Rd.texts1 (N - (k + 1)) s.text.2).1, (Rd.texts1 (N - (k + 1)) s.text.2).2) = S := by
  rw [show N - k = (N - (k + 1)) + 1 by omega, texts1_step hd] at h
  rw [← h]; simp
theorem nx_zero {S : List Nat × Rd} {N : Nat} {s : Rd} (h : S = Rd.nats1 N s) : ([] ++ (Rd.nats1 (N - 0) s).1, (Rd.nats1 (N - 0) s).2) = S := by rw [h]; rfl
theorem nx_end {S : List Nat × Rd} {N k : Nat} {o : List Nat} {s : Rd} (h : (o ++ (Rd.nats1 (N - k) s).1, (Rd.nats1 (N - k) s).2) = S) (hk : N ≤ k) : o = S.1 ∧ s.b = S.2.b ∧ s.bad = S.2.bad := by
  rw [show N - k = 0 by omega] at h; subst h; simp [Rd.nats1]
theorem nx_bad {S : List Nat × Rd} {N k : Nat} {o : List Nat} {s : Rd} (h : (o ++ (Rd.nats1 (N - k) s).1, (Rd.nats1 (N - k) s).2) = S) (hd : s.bad = true) : o = S.1 ∧ s.b = S.2.b ∧ s.bad = S.2.bad := by
  rw [nats1_bad hd] at h; subst h; simp
theorem nx_step {S : List Nat × Rd} {N k : Nat} {o : List Nat} {s : Rd} (h : (o ++ (Rd.nats1 (N - k) s).1, (Rd.nats1 (N - k) s).2) = S) (hd : s.bad = false) (hk : k < N) :
    ((o ++ [Rd.natOf s.text.1]) ++ (Rd.nats1 (N - (k + 1)) ⟨s.text.2.b, s.text.2.bad || decide (128 < s.text.1.length)⟩).1, (Rd.nats1 (N - (k + 1)) ⟨s.text.2.b, s.text.2.bad || decide (128 < s.text.1.length)⟩).2) = S := by
  rw [show N - k = (N - (k + 1)) + 1 by omega, nats1_step hd] at h
  rw [← h]; simp
theorem nx_err {n : Nat} : decide (¬ (if 128 < n then (4 : Int) else 0) = 0) = decide (128 < n) := by split <;> simp_all
theorem Rd.take_le (r : Rd) (n : Nat) : (r.take n).2.b.length ≤ r.b.length := by unfold Rd.take; split <;> simp
theorem Rd.text_le (r : Rd) : r.text.2.b.length ≤ r.b.length := by
  unfold Rd.text; split
  · exact r.num_le 2
  · exact Nat.le_trans (Rd.take_le _ _) (r.num_le 2)
end
/-! ### entries and votes that are read -/
theorem texts1_le : ∀ (n : Nat) (r : Rd), (Rd.texts1 n r).2.b.length ≤ r.b.length
  | 0, r => Nat.le_refl _
  | n + 1, r => by
    unfold Rd.texts1; split
    · exact Nat.le_refl _
    · exact Nat.le_trans (texts1_le n _) r.text_le
theorem nats1_le : ∀ (n : Nat) (r : Rd), (Rd.nats1 n r).2.b.length ≤ r.b.length
  | 0, r => Nat.le_refl _
  | n + 1, r => by
    unfold Rd.nats1; split
    · exact Nat.le_refl _
    · exact Nat.le_trans (nats1_le n _) r.text_le
theorem Rd.texts_le (r : Rd) : r.texts.2.b.length ≤ r.b.length := Nat.le_trans (texts1_le _ _) (r.num_le 1)
theorem Rd.nats_le (r : Rd) : r.nats.2.b.length ≤ r.b.length := Nat.le_trans (nats1_le _ _) (r.num_le 1)
theorem nats1_nw : ∀ (n : Nat) (r : Rd) (k : Nat), nw ((Rd.nats1 n r).1.getD k 0) ≤ 30000
  | 0, r, k => by simp [Rd.nats1, nw_zero]
  | n + 1, r, k => by
    unfold Rd.nats1; split
    · simp [nw_zero]
    · cases k with
      | zero => exact of_nw _
      | succ k => exact nats1_nw n _ k
theorem entryD_nums (r : Rd) : r.entryD.nums = (Rd.nats1 (r.s7.num 1).1 (r.s7.num 1).2).1 := by simp only [Rd.entryD, Rd.nats]
theorem entry_nw (r : Rd) (k : Nat) (hk : k < List.length r.entryD.nums) : nw (List.getD r.entryD.nums k 0) ≤ 1000000 :=
  Nat.le_trans ((entryD_nums r).symm ▸ nats1_nw (r.s7.num 1).1 (r.s7.num 1).2 k) (by decide)
/-- Is it an entry's bytes? -/
def decOk (b : List UInt8) : Bool := !((Rd.mk b false).entryR.bad || (Rd.mk b false).entryD.no || !decide ((Rd.mk b false).entryD.all = b))
def decE (b : List UInt8) : EntryD := if decOk b then (Rd.mk b false).entryD else ⟨0, 0, 0, 0, 0, 0, [], [], []⟩
def decVOk (b : List UInt8) : Bool := !((Rd.mk b false).voteR.bad || (Rd.mk b false).voteD.bad || !decide ((Rd.mk b false).voteD.bytes = b))
def decV (b : List UInt8) : VoteD := if decVOk b then (Rd.mk b false).voteD else ⟨0, 0, 0, 0, 0, []⟩
theorem voteD_value (r : Rd) : r.voteD.value = r.v6.text.1 := by simp only [Rd.voteD]
theorem vote_len (r : Rd) : List.length r.voteD.value ≤ 100000 :=
  Nat.le_trans (Nat.le_of_lt ((voteD_value r).symm ▸ Rd.text_len r.v6)) (by decide)
theorem Rd.num_2 (r : Rd) (n : Nat) : (r.take n).2 = (r.num n).2 := rfl
section
variable {b : List UInt8}
theorem decOk_a (h : (Rd.mk b false).entryR.bad = true) : decOk b = false := by unfold decOk; rw [h]; rfl
theorem decOk_b (h : (if (Rd.mk b false).entryD.no then 3 else 0 : Int) ≠ 0) : decOk b = false := by
  unfold decOk
  cases c : (Rd.mk b false).entryD.no with
  | true => simp
  | false => rw [c] at h; exact absurd rfl h
theorem decOk_c (h : ¬ (if (Rd.mk b false).entryD.no then 3 else 0 : Int) ≠ 0) (h3 : (!(decide ((if (Rd.mk b false).entryD.no then [] else (Rd.mk b false).entryD.all) = b))) = true) : decOk b = false := by
  unfold decOk
  cases c : (Rd.mk b false).entryD.no with
  | true => simp
  | false => rw [c] at h3; simp at h3; simp [h3]
theorem decOk_d (h1 : (Rd.mk b false).entryR.bad = false) (h : ¬ (if (Rd.mk b false).entryD.no then 3 else 0 : Int) ≠ 0) (h3 : (!(decide ((if (Rd.mk b false).entryD.no then [] else (Rd.mk b false).entryD.all) = b))) = false) : decOk b = true := by
  unfold decOk
  cases c : (Rd.mk b false).entryD.no with
  | true => rw [c] at h; exact absurd (by decide) h
  | false => rw [c] at h3; simp at h3; simp [h1, h3]
theorem decE_no (h : decOk b = false) : (⟨0, 0, 0, 0, 0, 0, [], [], []⟩ : EntryD) = decE b := by unfold decE; rw [h]; rfl
theorem decE_yes (h : decOk b = true) : (Rd.mk b false).entryD = decE b := by unfold decE; rw [h]; rfl
theorem dec3 {x : Bool} (h : x = false) : (3 : Int) = if x then 0 else 3 := by rw [h]; rfl
theorem dec0 {x : Bool} (h : x = true) : (0 : Int) = if x then 0 else 3 := by rw [h]; rfl
theorem decVOk_a (h : (Rd.mk b false).voteR.bad = true) : decVOk b = false := by unfold decVOk; rw [h]; rfl
theorem decVOk_b (h : (if (Rd.mk b false).voteD.bad then 3 else 0 : Int) ≠ 0) : decVOk b = false := by
  unfold decVOk
  cases c : (Rd.mk b false).voteD.bad with
  | true => simp
  | false => rw [c] at h; exact absurd rfl h
theorem decVOk_c (h : ¬ (if (Rd.mk b false).voteD.bad then 3 else 0 : Int) ≠ 0) (h3 : (!(decide ((if (Rd.mk b false).voteD.bad then [] else (Rd.mk b false).voteD.bytes) = b))) = true) : decVOk b = false := by
  unfold decVOk
  cases c : (Rd.mk b false).voteD.bad with
  | true => simp
  | false => rw [c] at h3; simp at h3; simp [h3]
theorem decVOk_d (h1 : (Rd.mk b false).voteR.bad = false) (h : ¬ (if (Rd.mk b false).voteD.bad then 3 else 0 : Int) ≠ 0) (h3 : (!(decide ((if (Rd.mk b false).voteD.bad then [] else (Rd.mk b false).voteD.bytes) = b))) = false) : decVOk b = true := by
  unfold decVOk
  cases c : (Rd.mk b false).voteD.bad with
  | true => rw [c] at h; exact absurd (by decide) h
  | false => rw [c] at h3; simp at h3; simp [h1, h3]
theorem decV_no (h : decVOk b = false) : (⟨0, 0, 0, 0, 0, []⟩ : VoteD) = decV b := by unfold decV; rw [h]; rfl
theorem decV_yes (h : decVOk b = true) : (Rd.mk b false).voteD = decV b := by unfold decV; rw [h]; rfl
end
theorem voteR_eq (r : Rd) : r.voteR = ((((((r.num 1).2.num 1).2.num 1).2.num 4).2.num 4).2.num 4).2.text.2 := by simp only [Rd.voteR, Rd.v6, Rd.v5, Rd.v4, Rd.s3, Rd.s2, Rd.s1]
theorem voteD_eq (r : Rd) : r.voteD = ⟨(((r.num 1).2.num 1).1 : Int), ((((r.num 1).2.num 1).2.num 1).1 : Int), (((((r.num 1).2.num 1).2.num 1).2.num 4).1 : Int), ((((((r.num 1).2.num 1).2.num 1).2.num 4).2.num 4).1 : Int), (((((((r.num 1).2.num 1).2.num 1).2.num 4).2.num 4).2.num 4).1 : Int) - 1, ((((((r.num 1).2.num 1).2.num 1).2.num 4).2.num 4).2.num 4).2.text.1⟩ := by simp only [Rd.voteD, Rd.v6, Rd.v5, Rd.v4, Rd.s3, Rd.s2, Rd.s1]
theorem Rd.texts_eq (r : Rd) : r.texts = Rd.texts1 (r.num 1).1 (r.num 1).2 := rfl
theorem Rd.nats_eq (r : Rd) : r.nats = Rd.nats1 (r.num 1).1 (r.num 1).2 := rfl
attribute [irreducible] Rd.take Rd.num Rd.text Rd.nats Rd.texts Rd.nats1 Rd.texts1 Rd.entryD Rd.entryR Rd.voteD Rd.voteR
end Go.Proofs.Ytgfomedobfaidaa
