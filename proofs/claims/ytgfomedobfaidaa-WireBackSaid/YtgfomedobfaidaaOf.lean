/-
  Rows of numbers that grow, in regions whose order is open.
-/
import Derived.Test.YtgfomedobfaidaaMany
import Derived.Test.YtgfomedobfaidaaLink
set_option linter.unusedVariables false
set_option linter.unusedSimpArgs false
namespace Go.Proofs.Ytgfomedobfaidaa
open Go.RowKit

instance (x : PlainD) : Per (PlainV x) := ⟨PlainV.pers x⟩
instance (x : EntryD) : Per (EntryV x) := ⟨EntryV.pers x⟩
instance (x : RentryD) : Per (RentryV x) := ⟨RentryV.pers x⟩
theorem NumsV.mk {lab : Lab} {w : World} {L : List (List Bool)} {A : Option Addr} {c : Nat} {vs : List Value} (n : Nat) (hn : L.length = n) (hc : n ≤ c) (hc' : c ≤ 9223372036854775807) (hr : RowAt lab w A vs) (hvs : List.length vs = n) (h : ∀ (i : Nat) (bs : List Bool), L[i]? = some bs → ∃ u, vs[i]? = some u ∧ BitsV bs lab w u) : NumsV L lab w (.slice A n c) := by
  subst hn
  exact ⟨A, c, vs, rfl, hc, hc', hvs, hr, h⟩
theorem NatsV.mk {lab : Lab} {w : World} {L : List Nat} {A : Option Addr} {c : Nat} {vs : List Value} (n : Nat) (hn : L.length = n) (hc : n ≤ c) (hc' : c ≤ 9223372036854775807) (hr : RowAt lab w A vs) (hvs : List.length vs = n) (h : ∀ (i : Nat) (x : Nat), L[i]? = some x → ∃ u, vs[i]? = some u ∧ NatV x lab w (.agg #[u])) : NatsV L lab w (.slice A n c) := by
  subst hn
  exact ⟨A, c, vs, rfl, hc, hc', hvs, hr, h⟩
def AppVF (d : Nat) (t : TypeId) (n : Nat) (L : List (List Bool)) : VP := fun lab w v => AppV lab w d t v n L
instance (d : Nat) (t : TypeId) (n : Nat) (L : List (List Bool)) : PerT [] (AppVF d t n L) := ⟨fun s ⟨cs, h1, h2⟩ => ⟨cs, h1.lift s (by simp), h2.step s⟩⟩
section
variable {P : Program} {l : List (Nat × Value)} {w : World} {lab : Lab} {ty : TypeId}
theorem append_lawT {k : Nat} {t e : TypeId} {x y : Operand} {ag : Bool} {by_ : Nat} {z : Value} {n : Nat} {v : Value} {cs : List Value} {A : Option Addr} {m c : Nat} {Ψ : VP} (ys : List Value) (hv : Valid lab w) (h : App lab w k e v n cs) (ht : P.underlying t = some (.slice e)) (he : tyRow P e = some (ag, 1, some z, by_)) (hz : z.cells.size = 1) (hx : ev l x = some v) (hy : ev l y = some (.slice A m c)) (hm : ys.length = m) (hr : RowAt lab w A ys) (h1 : ∀ u ∈ ys, u.oneCell' = true) (hb : (n + m) * by_ ≤ 140737488355328) (h63 : n + m ≤ 9223372036854775807)
    (hk : ∀ lab' w' v', Stp [k] lab w lab' w' → App lab' w' k e v' (n + m) (cs ++ ys) → Ψ lab' w' v') :
    ∃ v' lab' w', Does P l (.call ⟨.builtin .append, #[x, y], #[t, t]⟩) ty w v' w' ∧ Valid lab' w' ∧ Stp [k] lab w lab' w' ∧ Ψ lab' w' v' := by
  obtain ⟨v', w', lab', h1', h2', h3', h4'⟩ := append_ex (P := P) (ty := ty) ys hv h ht he hz hx hy hm hr h1 hb h63
  exact ⟨v', lab', w', h1', h4', h3', hk _ _ _ h3' h2'⟩
end
theorem of_nw (x : List UInt8) : nw (if 128 < x.length then 0 else nv x) ≤ 30000 := by
  split
  · rw [nw_zero]; omega
  · have h := nv_lt x
    have h2 : nv x < 4294967296 ^ 32 := Nat.lt_of_lt_of_le h (by
      rw [show (4294967296 : Nat) ^ 32 = 256 ^ 128 by rw [show (4294967296 : Nat) = 256 ^ 4 from rfl, ← Nat.pow_mul]]
      exact Nat.pow_le_pow_right (by omega) (by omega))
    have := nw_le h2
    omega
/-- The entry of a plain one. -/
def ofN (p : PlainD) : List Nat := p.nums.map fun b => nv (b.take 128)
def ofE (p : PlainD) : EntryD := ⟨p.kind, p.author, p.epoch, p.mode, p.peer, p.phase, ofN p, p.texts, p.proof⟩
theorem of_step {p : PlainD} {k : Nat} {x : List UInt8} (hk : k < p.nums.length) (hx : x = p.nums.getD k []) {m : Int} (hm : m = min ((x.length : Nat) : Int) 128) :
    List.take k (ofN p) ++ [if 128 < (x.take m.toNat).length then 0 else nv (x.take m.toNat)] = List.take (k + 1) (ofN p) := by
  have e : x.take m.toNat = x.take 128 := by
    rw [hm]
    by_cases c : x.length ≤ 128
    · rw [List.take_of_length_le (by omega), List.take_of_length_le c]
    · congr 1; omega
  have hk' : k < (ofN p).length := by simpa [ofN] using hk
  rw [e, if_neg (by simp; omega), List.take_succ_eq_append_getElem (l := ofN p) hk']
  congr 2
  simp [ofN, hx, List.getD, hk]
theorem of_stepR {p : PlainD} {k : Nat} {x : Nat} {L : List Nat} (h : List.take k (ofN p) ++ [x] = L) : List.map bitsOf (List.take k (ofN p)) ++ [bitsOf x] = List.map bitsOf L := by rw [← h]; simp
theorem ofE_eq {p : PlainD} {k : Nat} (h : p.nums.length ≤ k) : (⟨p.kind, p.author, p.epoch, p.mode, p.peer, p.phase, List.take k (ofN p), p.texts, p.proof⟩ : EntryD) = ofE p := by
  unfold ofE; rw [List.take_of_length_le (by simpa [ofN] using h)]
theorem ofE_ref {p : PlainD} {k : Nat} (h : p.nums.length ≤ k) : (⟨p.kind, p.author, p.epoch, p.mode, p.peer, p.phase, List.map bitsOf (List.take k (ofN p)), p.texts, p.proof⟩ : RentryD) = EntryD.ref (ofE p) := by
  unfold ofE EntryD.ref; rw [List.take_of_length_le (by simpa [ofN] using h)]
theorem of_len (p : PlainD) : (ofN p).length = p.nums.length := by simp [ofN]
theorem few_nums {p : PlainD} (h : p.few = true) : p.nums.length ≤ 100 := by
  unfold PlainD.few at h
  simp at h
  omega
theorem ofN_lt (p : PlainD) (k : Nat) : (ofN p).getD k 0 < 4294967296 ^ 32 := by
  by_cases h : k < (ofN p).length
  · have : (ofN p).getD k 0 = nv ((p.nums.getD k []).take 128) := by
      have h' : k < p.nums.length := by simpa [ofN] using h
      simp [ofN, List.getD, h']
    rw [this]
    refine Nat.lt_of_lt_of_le (nv_lt _) ?_
    rw [show (4294967296 : Nat) ^ 32 = 256 ^ 128 by rw [show (4294967296 : Nat) = 256 ^ 4 from rfl, ← Nat.pow_mul]]
    exact Nat.pow_le_pow_right (by omega) (by simp; omega)
  · simp [List.getD, List.getElem?_eq_none (by omega : (ofN p).length ≤ k)]
theorem ofE_nw (p : PlainD) : ∀ k, k < List.length (ofE p).nums → nw (List.getD (ofE p).nums k 0) ≤ 1000000 := fun k _ => by
  have := nw_le (ofN_lt p k)
  exact Nat.le_trans this (by omega)
theorem ofE_bits (p : PlainD) : ∀ k, k < List.length (EntryD.ref (ofE p)).nums → List.length (List.getD (EntryD.ref (ofE p)).nums k []) ≤ 100000 := fun k h => by
  have h' : k < (ofN p).length := by simpa [EntryD.ref, ofE] using h
  have e : List.getD (EntryD.ref (ofE p)).nums k [] = bitsOf ((ofN p).getD k 0) := by simp [EntryD.ref, ofE, List.getD, h']
  rw [e, bitsOf_length]
  have h1 := blen_le_nw ((ofN p).getD k 0)
  have h2 := nw_le (ofN_lt p k)
  omega
theorem ent_both (d : EntryD) : ((!d.ref.bad && decide (((List.length (if d.ref.bad then [] else d.ref.all) : Nat) : Int) ≤ 4096)) = true ∧ d.no = false ∧ d.all = d.ref.all ∧ d.ref.bad = false ∧ ((List.length d.ref.all : Nat) : Int) ≤ 4096) ∨
    ((!d.ref.bad && decide (((List.length (if d.ref.bad then [] else d.ref.all) : Nat) : Int) ≤ 4096)) = false ∧ d.no = true) := by
  have h := EntryD.no_ref d
  cases c : (!d.ref.bad && decide (((List.length (if d.ref.bad then [] else d.ref.all) : Nat) : Int) ≤ 4096)) with
  | true =>
    rw [c] at h
    have c1 := c
    simp only [Bool.and_eq_true, Bool.not_eq_true', decide_eq_true_eq] at c1
    have h4 := c1.2
    rw [c1.1] at h4
    exact .inl ⟨rfl, h, EntryD.all_ref c1.1, c1.1, h4⟩
  | false => rw [c] at h; exact .inr ⟨rfl, h⟩
end Go.Proofs.Ytgfomedobfaidaa
