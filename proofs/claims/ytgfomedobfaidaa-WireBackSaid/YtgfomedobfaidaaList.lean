/-
  Rows of bits, rows of numbers, rows of rows of bits; some operations on bytes.
-/
import Derived.Test.YtgfomedobfaidaaMore
import Derived.Test.YtgfomedobfaidaaVal
set_option linter.unusedVariables false
set_option linter.unusedSimpArgs false
namespace Go.Proofs.Ytgfomedobfaidaa
open Go.RowKit

/-! ### rows of bits -/
def BitsV (bs : List Bool) : VP := fun lab w v => ∃ A c, v = .slice A bs.length c ∧ bs.length ≤ c ∧ c ≤ 9223372036854775807 ∧ RowAt lab w A (bs.map Value.bool)
theorem BitsV.pers (bs : List Bool) : Pers (BitsV bs) := ⟨fun s ⟨A, c, h1, h2, h3, h4⟩ => ⟨A, c, h1, h2, h3, h4.lift s⟩⟩
section
variable {lab : Lab} {w : World}
theorem BitsV.shape {bs : List Bool} {v : Value} (h : BitsV bs lab w v) : ∃ A c, v = .slice A bs.length c := by
  obtain ⟨A, c, h1, _⟩ := h
  exact ⟨A, c, h1⟩
theorem BitsV.shapeN {bs : List Bool} {v : Value} (h : BitsV bs lab w v) {n : Nat} (e : bs.length = n) : ∃ A c, v = .slice A n c := e ▸ h.shape
theorem BitsV.nil (lab : Lab) (w : World) : BitsV [] lab w (.slice none 0 0) := ⟨none, 0, rfl, by simp, by omega, RowAt.nil⟩
theorem BitsV.cast {x y : List Bool} (e : x = y) {v : Value} (h : BitsV x lab w v) : BitsV y lab w v := e ▸ h
theorem BitsV.row {bs : List Bool} {A : Option Addr} {n c : Nat} (h : BitsV bs lab w (.slice A n c)) : RowAt lab w A (bs.map Value.bool) := by
  obtain ⟨A', c', h1, _, _, h2⟩ := h
  cases h1
  exact h2
theorem BitsV.cap {bs : List Bool} {A : Option Addr} {n c : Nat} (h : BitsV bs lab w (.slice A n c)) : n = bs.length ∧ bs.length ≤ c ∧ c ≤ 9223372036854775807 := by
  obtain ⟨A', c', h1, h2, h3, _⟩ := h
  cases h1
  exact ⟨rfl, h2, h3⟩
theorem BitsV.takeN {ws : List Bool} {A : Option Addr} {n c : Nat} (h : BitsV ws lab w (.slice A n c)) (j : Nat) (hj : j ≤ n) : BitsV (ws.take j) lab w (.slice A j c) := by
  have h1 := h.cap
  have h2 := h.row.take j
  have e : (ws.take j).length = j := by rw [List.length_take]; omega
  exact ⟨A, c, by rw [e], by rw [e]; omega, h1.2.2, by rw [List.map_take]; exact h2⟩
theorem BitsV.dropN {ws : List Bool} {A : Option Addr} {n c : Nat} (h : BitsV ws lab w (.slice A n c)) (j : Nat) (hj : j ≤ n) : BitsV (ws.drop j) lab w (.slice (if c = j then A else A.map (·.add (j * 1))) (n - j) (c - j)) := by
  have h1 := h.cap
  have h2 := h.row.cutLo j (c := c) (by simp; omega)
  have e : (ws.drop j).length = n - j := by rw [List.length_drop]; omega
  exact ⟨_, _, by rw [e], by rw [e]; omega, by omega, by rw [List.map_drop]; exact h2⟩
theorem BitsV.release {d b n : Nat} {t : TypeId} {ws : List Bool} (h : Own lab w d b t (ws.map Value.bool).toArray) (hn : ws.length = n) (hc : n ≤ 9223372036854775807) : BitsV ws (labFree lab d) w (.slice (some ⟨b, 0, none⟩) n n) := by
  subst hn
  exact ⟨_, _, rfl, Nat.le_refl _, hc, RowAt.release h 0 _ (fun j v hj => by simpa using hj)⟩
theorem oneCell_bl {ws : List Bool} : ∀ u ∈ ws.map Value.bool, u.oneCell' = true := by
  intro u hu; obtain ⟨x, _, rfl⟩ := List.mem_map.1 hu; rfl
theorem RowsV.nil (lab : Lab) (w : World) : RowsV [] lab w (.slice none 0 0) := ⟨none, 0, [], rfl, by simp, by omega, rfl, RowAt.nil, fun i bs h => by simp at h⟩

/-! ### rows of numbers -/
def NatsV (L : List Nat) : VP := fun lab w v => ∃ A c vs, v = .slice A L.length c ∧ L.length ≤ c ∧ c ≤ 9223372036854775807 ∧ List.length vs = L.length ∧ RowAt lab w A vs ∧ ∀ (i : Nat) (x : Nat), L[i]? = some x → ∃ u, vs[i]? = some u ∧ NatV x lab w (.agg #[u])
theorem NatsV.pers (L : List Nat) : Pers (NatsV L) := ⟨fun s ⟨A, c, vs, h1, h2, h3, h4, h5, h6⟩ => ⟨A, c, vs, h1, h2, h3, h4, h5.lift s, fun i bs hi => by
  obtain ⟨u, hu, hb⟩ := h6 i bs hi
  exact ⟨u, hu, (NatV.pers _).step s hb⟩⟩⟩
theorem NatsV.shape {L : List Nat} {v : Value} (h : NatsV L lab w v) : ∃ A c, v = .slice A L.length c := by
  obtain ⟨A, c, _, h1, _⟩ := h
  exact ⟨A, c, h1⟩
theorem NatsV.cap {L : List Nat} {A : Option Addr} {n c : Nat} (h : NatsV L lab w (.slice A n c)) : n = L.length ∧ L.length ≤ c ∧ c ≤ 9223372036854775807 := by
  obtain ⟨A', c', _, h1, h2, h3, _⟩ := h
  cases h1
  exact ⟨rfl, h2, h3⟩
theorem NatsV.nil (lab : Lab) (w : World) : NatsV [] lab w (.slice none 0 0) := ⟨none, 0, [], rfl, by simp, by omega, rfl, RowAt.nil, fun i bs h => by simp at h⟩
theorem NatsV.cast {x y : List Nat} (e : x = y) {v : Value} (h : NatsV x lab w v) : NatsV y lab w v := e ▸ h
theorem NatsV.at_ {L : List Nat} {A : Option Addr} {n c : Nat} (h : NatsV L lab w (.slice A n c)) (j : Nat) (hj : j < n) : ∃ vs u, List.length vs = n ∧ RowAt lab w A vs ∧ vs[j]? = some u ∧ NatV (List.getD L j 0) lab w (.agg #[u]) := by
  obtain ⟨A', c', vs, h1, _, _, h4, h5, h6⟩ := h
  cases h1
  obtain ⟨u, hu, hb⟩ := h6 j (L[j]) (List.getElem?_eq_getElem hj)
  refine ⟨vs, u, h4, h5, hu, ?_⟩
  simpa [List.getD, List.getElem?_eq_getElem hj] using hb
/-! ### rows of rows of bits -/
def NumsV (L : List (List Bool)) : VP := fun lab w v => ∃ A c vs, v = .slice A L.length c ∧ L.length ≤ c ∧ c ≤ 9223372036854775807 ∧ List.length vs = L.length ∧ RowAt lab w A vs ∧ ∀ (i : Nat) (x : List Bool), L[i]? = some x → ∃ u, vs[i]? = some u ∧ BitsV x lab w u
theorem NumsV.pers (L : List (List Bool)) : Pers (NumsV L) := ⟨fun s ⟨A, c, vs, h1, h2, h3, h4, h5, h6⟩ => ⟨A, c, vs, h1, h2, h3, h4, h5.lift s, fun i bs hi => by
  obtain ⟨u, hu, hb⟩ := h6 i bs hi
  exact ⟨u, hu, (BitsV.pers _).step s hb⟩⟩⟩
theorem NumsV.shape {L : List (List Bool)} {v : Value} (h : NumsV L lab w v) : ∃ A c, v = .slice A L.length c := by
  obtain ⟨A, c, _, h1, _⟩ := h
  exact ⟨A, c, h1⟩
theorem NumsV.cap {L : List (List Bool)} {A : Option Addr} {n c : Nat} (h : NumsV L lab w (.slice A n c)) : n = L.length ∧ L.length ≤ c ∧ c ≤ 9223372036854775807 := by
  obtain ⟨A', c', _, h1, h2, h3, _⟩ := h
  cases h1
  exact ⟨rfl, h2, h3⟩
theorem NumsV.nil (lab : Lab) (w : World) : NumsV [] lab w (.slice none 0 0) := ⟨none, 0, [], rfl, by simp, by omega, rfl, RowAt.nil, fun i bs h => by simp at h⟩
theorem NumsV.cast {x y : List (List Bool)} (e : x = y) {v : Value} (h : NumsV x lab w v) : NumsV y lab w v := e ▸ h
theorem NumsV.at_ {L : List (List Bool)} {A : Option Addr} {n c : Nat} (h : NumsV L lab w (.slice A n c)) (j : Nat) (hj : j < n) : ∃ vs u, List.length vs = n ∧ RowAt lab w A vs ∧ vs[j]? = some u ∧ BitsV (List.getD L j []) lab w u := by
  obtain ⟨A', c', vs, h1, _, _, h4, h5, h6⟩ := h
  cases h1
  obtain ⟨u, hu, hb⟩ := h6 j (L[j]) (List.getElem?_eq_getElem hj)
  refine ⟨vs, u, h4, h5, hu, ?_⟩
  simpa [List.getD, List.getElem?_eq_getElem hj] using hb
end

section
variable {P : Program} {N : Nat} {l : List (Nat × Value)} {w : World} {lab : Lab} {ty : TypeId}
theorem Does.load_rowN {t : TypeId} {x : Operand} {A : Option Addr} {by_ : Nat} {z : Option Value} {cs : List Value} {j : Nat} {v : Value} (ht : tyRow P t = some (true, 1, z, by_)) (hx : ev l x = some (.pointer (A.map (·.add j)))) (hr : RowAt lab w A cs) (hv : cs[j]? = some v) : Does P l (.load t x) ty w (.agg #[v]) w := by
  obtain ⟨b, o, rfl, hc⟩ := hr.cell hv
  refine Does.load_agg (cs := [v]) ht hx fun i u hi => ?_
  have : i = 0 := by
    by_cases h0 : i = 0
    · exact h0
    · rw [List.getElem?_eq_none (by simp; omega)] at hi; cases hi
  subst this
  simp at hi
  subst hi
  simpa [add_flat] using hc
theorem Does.min_ {x y : Operand} {tys : Array TypeId} {a b : Int} (hx : ev l x = some (i64 a)) (hy : ev l y = some (i64 b)) : Does P l (.call ⟨.builtin .min, #[x, y], tys⟩) ty w (i64 (Min.min a b)) w := by
  intro ρ hρ d pos af g
  have e : (if b < a then b else a) = Min.min a b := by rw [Int.min_def]; split <;> split <;> omega
  simp [execOp, resolve, invoke, builtin, hρ _ _ hx, hρ _ _ hy, Builtin.min_, Builtin.min2, e]
theorem Does.u8_shr {t yt : TypeId} {x y : Operand} {yk : IntKind} {a : UInt8} {b : Int} (hx : ev l x = some (u8 a)) (hy : ev l y = some (.int yk b)) (h0 : 0 ≤ b) (h1 : b < 8) : Does P l (.binOp .shr t x y yt) ty w (u8 (a >>> UInt8.ofNat b.toNat)) w :=
  run_binOp_shift (.inr rfl) hx hy (by
    obtain ⟨n, rfl⟩ := Int.eq_ofNat_of_zero_le h0
    have e : ((a.toNat : Int).fdiv (2 ^ (min (n : Int).toNat IntKind.u8.bits))) = ((a >>> UInt8.ofNat (n : Int).toNat).toNat : Int) := by
      have hn : n < 8 := by omega
      rw [Int.toNat_natCast, show min n IntKind.u8.bits = n by simp [IntKind.bits]; omega, UInt8.toNat_shiftRight, UInt8.toNat_ofNat_of_lt' (by simp [UInt8.size]; omega), Nat.mod_eq_of_lt hn, Nat.shiftRight_eq_div_pow, Int.fdiv_eq_ediv_of_nonneg _ (Int.le_of_lt (Int.pow_pos (by omega)))]
      simp
    simp only [Op.shift]; rw [if_neg (by omega), e]; rfl)
theorem Does.u8_shl {t yt : TypeId} {x y : Operand} {yk : IntKind} {a : UInt8} {b : Int} (hx : ev l x = some (u8 a)) (hy : ev l y = some (.int yk b)) (h0 : 0 ≤ b) (h1 : b < 8) : Does P l (.binOp .shl t x y yt) ty w (u8 (a <<< UInt8.ofNat b.toNat)) w :=
  run_binOp_shift (.inl rfl) hx hy (by
    obtain ⟨n, rfl⟩ := Int.eq_ofNat_of_zero_le h0
    have e : IntKind.u8.wrap ((a.toNat : Int) * 2 ^ (min (n : Int).toNat IntKind.u8.bits)) = ((a <<< UInt8.ofNat (n : Int).toNat).toNat : Int) := by
      have hn : n < 8 := by omega
      rw [Int.toNat_natCast, show min n IntKind.u8.bits = n by simp [IntKind.bits]; omega, UInt8.toNat_shiftLeft, UInt8.toNat_ofNat_of_lt' (by simp [UInt8.size]; omega), IntKind.wrap_u8', Nat.mod_eq_of_lt hn, Nat.shiftLeft_eq]
      simp
    simp only [Op.shift]; rw [if_neg (by omega), e]; rfl)
theorem Does.u8_rem {t yt : TypeId} {x y : Operand} {a b : UInt8} (hx : ev l x = some (u8 a)) (hy : ev l y = some (u8 b)) (hb : b.toNat ≠ 0) : Does P l (.binOp .rem t x y yt) ty w (u8 (a % b)) w :=
  run_binOp_int hx hy (by
    have e : ((a.toNat : Int).tmod b.toNat) = ((a % b).toNat : Int) := by
      rw [UInt8.toNat_mod, Int.tmod_eq_emod_of_nonneg (by omega), ← Int.natCast_emod]
    simp only [binOp, Op.intDiv, ne_eq, not_true, if_false]; rw [if_neg (by omega), e]; rfl)
theorem Does.u8_add {t yt : TypeId} {x y : Operand} {a b : UInt8} (hx : ev l x = some (u8 a)) (hy : ev l y = some (u8 b)) : Does P l (.binOp .add t x y yt) ty w (u8 (a + b)) w :=
  run_binOp_int hx hy (by
    have e : IntKind.u8.wrap ((a.toNat : Int) + b.toNat) = ((a + b).toNat : Int) := by rw [IntKind.wrap_u8', UInt8.toNat_add]; omega
    simp only [binOp, Op.intArith, ne_eq, not_true, if_false, e]; rfl)
end
end Go.Proofs.Ytgfomedobfaidaa
