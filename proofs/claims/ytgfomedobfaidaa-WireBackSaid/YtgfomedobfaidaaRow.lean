/-
  Rows: slices that are read, slices of the call's own, slices that grow.
-/
import Derived.Test.YtgfomedobfaidaaSem
import Derived.Maps.AppendAt
set_option linter.unusedVariables false
set_option linter.unusedSimpArgs false
namespace Go.Proofs.Ytgfomedobfaidaa
open Go.RowKit

/-- A row of words. -/
def WordsV (ws : List UInt32) : VP := fun lab w v => ∃ A c, v = .slice A ws.length c ∧ ws.length ≤ c ∧ c ≤ 9223372036854775807 ∧ RowAt lab w A (ws.map u32)
theorem WordsV.pers (ws : List UInt32) : Pers (WordsV ws) := ⟨fun s ⟨A, c, h1, h2, h3, h4⟩ => ⟨A, c, h1, h2, h3, h4.lift s⟩⟩
theorem WordsV.shape {ws : List UInt32} {lab : Lab} {w : World} {v : Value} (h : WordsV ws lab w v) : ∃ A c, v = .slice A ws.length c := by
  obtain ⟨A, c, h1, _⟩ := h
  exact ⟨A, c, h1⟩
theorem WordsV.shapeN {ws : List UInt32} {lab : Lab} {w : World} {v : Value} (h : WordsV ws lab w v) {n : Nat} (e : ws.length = n) : ∃ A c, v = .slice A n c := e ▸ h.shape
theorem BytesV.shapeN {ws : List UInt8} {lab : Lab} {w : World} {v : Value} (h : BytesV ws lab w v) {n : Nat} (e : ws.length = n) : ∃ A c, v = .slice A n c := e ▸ h.shape
theorem WordsV.cast {x y : List UInt32} (e : x = y) {lab : Lab} {w : World} {v : Value} (h : WordsV x lab w v) : WordsV y lab w v := e ▸ h
theorem WordsV.nil (lab : Lab) (w : World) : WordsV [] lab w (.slice none 0 0) := ⟨none, 0, rfl, by simp, by omega, RowAt.nil⟩
theorem WordsV.row {ws : List UInt32} {lab : Lab} {w : World} {A : Option Addr} {n c : Nat} (h : WordsV ws lab w (.slice A n c)) : RowAt lab w A (ws.map u32) := by
  obtain ⟨A', c', h1, _, _, h2⟩ := h
  cases h1
  exact h2
theorem WordsV.cap {ws : List UInt32} {lab : Lab} {w : World} {A : Option Addr} {n c : Nat} (h : WordsV ws lab w (.slice A n c)) : n = ws.length ∧ ws.length ≤ c ∧ c ≤ 9223372036854775807 := by
  obtain ⟨A', c', h1, h2, h3, _⟩ := h
  cases h1
  exact ⟨rfl, h2, h3⟩
theorem NatV.words {x : Nat} {lab : Lab} {w : World} {u : Value} (h : NatV x lab w (.agg #[u])) : WordsV (limbs x) lab w u := by
  obtain ⟨A, c, h1, h2, h3, h4⟩ := h
  cases h1
  exact ⟨A, c, rfl, h2, h3, h4⟩
theorem NatV.ofWords {ws : List UInt32} {x : Nat} {lab : Lab} {w : World} {u : Value} (h : WordsV ws lab w u) (e : ws = limbs x) : NatV x lab w (.agg #[u]) := by
  subst e
  obtain ⟨A, c, rfl, h2, h3, h4⟩ := h
  exact ⟨A, c, rfl, h2, h3, h4⟩
theorem BytesV.row {bs : List UInt8} {lab : Lab} {w : World} {A : Option Addr} {n c : Nat} (h : BytesV bs lab w (.slice A n c)) : RowAt lab w A (bs.map u8) := by
  obtain ⟨A', c', h1, _, _, h2⟩ := h
  cases h1
  exact h2
theorem BytesV.cap {bs : List UInt8} {lab : Lab} {w : World} {A : Option Addr} {n c : Nat} (h : BytesV bs lab w (.slice A n c)) : n = bs.length ∧ bs.length ≤ c ∧ c ≤ 9223372036854775807 := by
  obtain ⟨A', c', h1, h2, h3, _⟩ := h
  cases h1
  exact ⟨rfl, h2, h3⟩
theorem map_get {α : Type} (f : α → Value) (l : List α) (d : α) {j : Nat} (h : j < l.length) : (l.map f)[j]? = some (f (l.getD j d)) := by
  simp [List.getElem?_map, List.getElem?_eq_getElem h, List.getD]
theorem row_get {α : Type} (f : α → Value) (l : List α) (d : α) {j : Nat} (h : j < l.length) : (l.map f).toArray[j]? = some (f (l.getD j d)) := by
  rw [List.getElem?_toArray]; exact map_get f l d h

section
variable {ds : List Deferred} {P : Program} {N : Nat} {ops : Array Oper} {Q : Exit → Act → World → Prop} {l : List (Nat × Value)} {rest : List Oper} {w : World} {lab : Lab} {ty : TypeId}

/-! ### reading a row -/
theorem Does.index_row {t e : TypeId} {x y : Operand} {k : IntKind} {i : Int} {A : Option Addr} {n c : Nat} {ag : Bool} {by_ : Nat} {z : Option Value} {cs : List Value} (j : Nat) (ht : P.underlying t = some (.slice e)) (he : tyRow P e = some (ag, 1, z, by_)) (hx : ev l x = some (.slice A n c)) (hy : ev l y = some (.int k i)) (hr : RowAt lab w A cs) (hn : cs.length = n) (hij : i = (j : Int)) (hj : j < n) :
    Does P l (.indexAddr t x y) ty w (.pointer (A.map (·.add j))) w := by
  intro ρ hρ d pos af g
  obtain ⟨b, o, rfl, _⟩ := hr.cell (j := j) (v := cs[j]'(by omega)) (List.getElem?_eq_getElem (by omega))
  have h := (Does.indexAddr (P := P) (l := l) (w := w) (ty := ty) ht he hx hy (by omega) (by omega)) ρ hρ d pos af g
  rw [h]
  subst hij
  simp [add_flat]
theorem Does.load_row {t : TypeId} {x : Operand} {A : Option Addr} {n by_ : Nat} {z : Option Value} {cs : List Value} {j : Nat} {v : Value} (ht : tyRow P t = some (false, n, z, by_)) (hx : ev l x = some (.pointer (A.map (·.add j)))) (hr : RowAt lab w A cs) (hv : cs[j]? = some v) : Does P l (.load t x) ty w v w := by
  obtain ⟨b, o, rfl, hc⟩ := hr.cell hv
  exact Does.load_one ht hx (by simpa [add_flat] using hc)
theorem Does.len_row {t e : TypeId} {x : Operand} {A : Option Addr} {n c : Nat} (ht : P.underlying t = some (.slice e)) (hx : ev l x = some (.slice A n c)) : Does P l (.call ⟨.builtin .len, #[x], #[t]⟩) ty w (i64 n) w := Does.len ht hx

/-! ### rows of the call's own -/
theorem Does.index_own {t e : TypeId} {x y : Operand} {k : IntKind} {i : Int} {b n c : Nat} {ag : Bool} {s by_ : Nat} {z : Option Value} (j : Nat) (ht : P.underlying t = some (.slice e)) (he : tyRow P e = some (ag, s, z, by_)) (hx : ev l x = some (.slice (some ⟨b, 0, none⟩) n c)) (hy : ev l y = some (.int k i)) (hij : i = (j : Int)) (hj : j < n) :
    Does P l (.indexAddr t x y) ty w (.pointer (some ⟨b, j * s, none⟩)) w := by
  have h := Does.indexAddr (P := P) (l := l) (w := w) (ty := ty) ht he hx hy (by omega) (by omega)
  subst hij
  simpa using h
theorem set_splice {α : Type} (f : α → Value) (ws : List α) (j : Nat) (x : α) (h : j < ws.length) : ((ws.map f).toArray.toList.take j ++ [f x] ++ (ws.map f).toArray.toList.drop (j + 1)).toArray = ((ws.set j x).map f).toArray := by
  congr 1
  simp only [List.toList_toArray]
  rw [List.map_set, List.set_eq_take_append_cons_drop, if_pos (by simpa using h)]
  simp
theorem Seq.store_row {α : Type} (f : α → Value) {k b j : Nat} {t t' : TypeId} {x y : Operand} {v : α} {by_ : Nat} {z : Option Value} {ws : List α} {ag : Bool} {pos : String} {af : Array Edge} (hv : Valid lab w) (hO : Own lab w k b t' (ws.map f).toArray) (ht : tyRow P t = some (ag, 1, z, by_)) (hx : ev l x = some (.pointer (some ⟨b, j, none⟩))) (hy : ev l y = some (f v)) (hj : j < ws.length) (hf : (f v).cells = #[f v]) (h1 : (f v).oneCell' = true)
    (h : ∀ w', Own lab w' k b t' ((ws.set j v).map f).toArray → Stp [k] lab w lab w' → Valid lab w' → Seq ds P N ops Q l rest w') : Seq ds P N ops Q l (⟨none, .store t x y, ty, pos, af, none⟩ :: rest) w :=
  Seq.unit (Does.store _ hO ht hx hy (by rw [hf]; rfl) (by simp; omega) (by rw [hf]; simp [h1]) (by rw [hf]; exact set_splice f ws j v hj)) (h _ (hO.set _) (Stp.set hO.1 _) (hv.set _ _))
theorem run_makeSlice {t e : TypeId} {ag : Bool} {s by_ : Nat} {z : Value} (ht : P.underlying t = some (.slice e)) (he : tyRow P e = some (ag, s, some z, by_)) (hz : z.cells.size = s) {k k' : IntKind} {n c : Nat} (hnc : n ≤ c) (hb : by_ * c ≤ 281474976710656) (hc : c < 9223372036854775808) (w : World) :
    ∃ arr, (Instr.makeSlice t (.int k (n : Int)) (.int k' (c : Int))).run P w = .ok (.slice (some ⟨w.heap.size, 0, none⟩) n c) (w.alloc (.cells arr e)) ∧ arr = (Array.range (c * s)).map (fun i => z.cells[i % z.cells.size]!) := by
  obtain ⟨i, hi, hib, his⟩ := run_typeInfo' (P := P) (w := w) he
  refine ⟨_, ?_, rfl⟩
  have hwn : IntKind.i64.wrap (n : Int) = n := i64_wrap_in (by omega) (by omega)
  have hwc : IntKind.i64.wrap (c : Int) = c := i64_wrap_in (by omega) (by omega)
  have hbI : (by_ : Int) * (c : Int) ≤ 281474976710656 := by
    have : ((by_ * c : Nat) : Int) ≤ 281474976710656 := by omega
    rwa [Int.natCast_mul] at this
  simp only [Instr.makeSlice, Sem.run_bind, run_underlying ht, Result.andThen_ok, asInt, asIntOf, Sem.run_pure, hi, hwn, hwc, hib]
  have h48 : (2 : Int) ^ 48 = 281474976710656 := by decide
  rw [if_neg (by simp only [Bool.or_eq_true, decide_eq_true_eq, not_or]; exact ⟨⟨⟨by omega, by omega⟩, by omega⟩, by omega⟩)]
  simp only [Int.toNat_natCast, Sem.run_bind]
  have hroom : (askRoom (c * by_)).run P w = .ok () w := by
    unfold askRoom
    split <;> rfl
  simp only [hroom, Result.andThen_ok, run_sizeOf' he]
  by_cases h0 : c * s = 0
  · rw [if_pos h0]
    simp only [Sem.run_bind, Sem.run_pure, Result.andThen_ok]
    simp only [h0, newRow]
    have e0 : ∀ g : Nat → Value, (Array.range 0).map g = #[] := fun g => by simp
    rw [e0, e0]
    rfl
  · rw [if_neg h0]
    simp only [Sem.run_bind, run_zero' he, Sem.run_pure, Result.andThen_ok, newRow]
    rfl
/-- 'make' of a row whose elements have one cell. -/
theorem Seq.make_row {α : Type} (f : α → Value) (zx : α) {d k : Nat} {t e : TypeId} {x y : Operand} {ag : Bool} {by_ : Nat} {z : Value} {kk kk' : IntKind} {i i' : Int} {pos : String} {af : Array Edge} (n : Nat) (hv : Valid lab w) (ht : P.underlying t = some (.slice e)) (he : tyRow P e = some (ag, 1, some z, by_)) (hz : z.cells = #[f zx])
    (hx : ev l x = some (.int kk i)) (hy : ev l y = some (.int kk' i')) (hi : i = (n : Int)) (hi' : i' = (n : Int)) (hb : by_ * n ≤ 281474976710656) (hc : n < 9223372036854775808) (hd : d < N)
    (h : ∀ lab' w' b, Own lab' w' k b e ((List.replicate n zx).map f).toArray → Stp [] lab w lab' w' → Valid lab' w' → Seq ds P N ops Q ((d, .slice (some ⟨b, 0, none⟩) n n) :: l) rest w') : Seq ds P N ops Q l (⟨some d, .makeSlice t x y, ty, pos, af, none⟩ :: rest) w := by
  subst hi; subst hi'
  obtain ⟨arr, hr, ha⟩ := run_makeSlice (P := P) ht he (by rw [hz]; rfl) (k := kk) (k' := kk') (Nat.le_refl n) hb hc w
  have harr : arr = ((List.replicate n zx).map f).toArray := by
    rw [ha, hz]
    apply Array.ext
    · simp
    · intro j h1 h2
      simp
      rw [Nat.mod_one]
      rfl
  refine Seq.val (v := .slice (some ⟨w.heap.size, 0, none⟩) n n) (w' := w.alloc (.cells arr e)) ?_ hd (h (labNew lab w.heap.size k) _ w.heap.size (by rw [harr]; exact Own.alloc lab w _ e k) (Stp.alloc _ k) (hv.alloc _ k))
  intro ρ hρ d pos af g
  simp only [execOp, hρ _ _ hx, hρ _ _ hy, Sem.run_bind, hr, Result.andThen_ok]
  rfl
/-- A row of the call's own, of constant elements: '[]T{..}'. -/
theorem run_buildSlice {t e : TypeId} {ag : Bool} {s by_ : Nat} {z : Value} {len : Nat} {pv : List (Nat × Value)} {cs : Array Value} (ht : P.underlying t = some (.slice e)) (he : tyRow P e = some (ag, s, some z, by_)) (hl : len * s ≤ 16777216) (hl0 : len * s ≠ 0)
    (hf : Instr.fill (fun i => some (i * s, s)) ((Array.range (len * s)).map (fun j => z.cells[j % z.cells.size]!)) pv = some cs) (w : World) :
    (Instr.buildSlice t len pv.toArray).run P w = .ok (.slice (some ⟨w.heap.size, 0, none⟩) len len) (w.alloc (.cells cs e)) := by
  simp only [Instr.buildSlice, Sem.run_bind, run_underlying ht, Result.andThen_ok, run_sizeOf' he]
  rw [if_neg (by omega), if_neg hl0]
  simp only [Sem.run_bind, run_zero' he, Sem.run_pure, Result.andThen_ok, List.toList_toArray, hf, newRow]
  rfl
theorem pairs_eval {parts : Array (Nat × Operand)} {pv : List (Nat × Value)} (hp : parts.toList.map (fun p => (p.1, ev l p.2)) = pv.map (fun p => (p.1, some p.2))) (ρ : Operand → Value) (hρ : ∀ x u, ev l x = some u → ρ x = u) : (parts.map fun (i, x) => (i, ρ x)) = pv.toArray := by
  apply Array.toList_inj.1
  rw [Array.toList_map]
  generalize parts.toList = L at hp
  induction L generalizing pv with
  | nil => cases pv with
    | nil => rfl
    | cons _ _ => simp at hp
  | cons q r ih => cases pv with
    | nil => simp at hp
    | cons p pv =>
      simp only [List.map_cons, List.cons.injEq, Prod.mk.injEq] at hp
      rw [List.map_cons, ih hp.2]
      obtain ⟨p1, p2⟩ := p
      simp only at hp
      simp [hp.1.1, hρ _ _ hp.1.2]
theorem Does.buildSlice {t e : TypeId} {ag : Bool} {s by_ : Nat} {z : Value} {len : Nat} {parts : Array (Nat × Operand)} (pv : List (Nat × Value)) (cs : List Value) (ht : P.underlying t = some (.slice e)) (he : tyRow P e = some (ag, s, some z, by_)) (hl : len * s ≤ 16777216) (hl0 : len * s ≠ 0)
    (hp : parts.toList.map (fun p => (p.1, ev l p.2)) = pv.map (fun p => (p.1, some p.2))) (hf : Instr.fill (fun i => some (i * s, s)) ((Array.range (len * s)).map (fun j => z.cells[j % z.cells.size]!)) pv = some cs.toArray) : Does P l (.buildSlice t len parts) ty w (.slice (some ⟨w.heap.size, 0, none⟩) len len) (w.alloc (.cells cs.toArray e)) := by
  intro ρ hρ d pos af g
  simp only [execOp, pairs_eval hp ρ hρ, Sem.run_bind, run_buildSlice ht he hl hl0 hf, Result.andThen_ok]
  rfl
/-- A built row that nobody will write. -/
theorem Seq.build_row {d : Nat} {t e : TypeId} {ag : Bool} {s by_ : Nat} {z : Value} {len : Nat} {parts : Array (Nat × Operand)} {pos : String} {af : Array Edge} (pv : List (Nat × Value)) (cs : List Value) (hv : Valid lab w) (ht : P.underlying t = some (.slice e)) (he : tyRow P e = some (ag, s, some z, by_)) (hl : len * s ≤ 16777216) (hl0 : len * s ≠ 0)
    (hp : parts.toList.map (fun p => (p.1, ev l p.2)) = pv.map (fun p => (p.1, some p.2))) (hf : Instr.fill (fun i => some (i * s, s)) ((Array.range (len * s)).map (fun j => z.cells[j % z.cells.size]!)) pv = some cs.toArray) (hd : d < N)
    (h : ∀ w' b, RowAt lab w' (some ⟨b, 0, none⟩) cs → Stp [] lab w lab w' → Valid lab w' → Seq ds P N ops Q ((d, .slice (some ⟨b, 0, none⟩) len len) :: l) rest w') : Seq ds P N ops Q l (⟨some d, .buildSlice t len parts, ty, pos, af, none⟩ :: rest) w :=
  Seq.val (Does.buildSlice pv cs ht he hl hl0 hp hf) hd (h _ _ (RowAt.fresh hv _ e (0, 0) cs (fun j v hj => by simpa using hj)) (Stp.fresh _) (hv.below (by rw [size_alloc]; omega)))

/-! ### cutting -/
theorem sliceBound_ok {k : IntKind} {i : Int} {y : Nat} {code : BoundsCode} (j : Nat) (hij : i = (j : Int)) (hj : j ≤ y) : (Instr.sliceBound (.int k i) y code).run P w = .ok j w := by
  subst hij
  have h : 0 ≤ (j : Int) ∧ (j : Int) ≤ (y : Int) := ⟨by omega, by omega⟩
  simp [Instr.sliceBound, asIntOf, h]
/-- 'x[:hi]' -/
theorem Does.slice_hi {t e : TypeId} {x y : Operand} {k : IntKind} {i : Int} {A : Option Addr} {n c : Nat} {ag : Bool} {s by_ : Nat} {z : Option Value} (j : Nat) (ht : P.underlying t = some (.slice e)) (he : tyRow P e = some (ag, s, z, by_)) (hx : ev l x = some (.slice A n c)) (hy : ev l y = some (.int k i)) (hij : i = (j : Int)) (hj : j ≤ c) :
    Does P l (.slice t x none (some y) none) ty w (.slice A j c) w := by
  intro ρ hρ d pos af g
  have hA : (if c = 0 then A else A.map (·.add (0 * s))) = A := by
    split
    · rfl
    · cases A with
      | none => rfl
      | some a => simp [Addr.add]
  simp only [execOp, hρ _ _ hx, Option.map_some, Option.map_none, hρ _ _ hy, Instr.sliceAt, Sem.run_bind, run_underlying ht, Result.andThen_ok, Instr.slice, Instr.sliceBounds, sliceBound_ok j hij hj, Sem.run_pure, run_sizeOf' he, if_true]
  simp only [sliceBound_ok j hij hj, Result.andThen_ok, Sem.run_pure, run_sizeOf' he, Nat.sub_zero, hA]
/-- 'x[lo:]' -/
theorem Does.slice_lo {t e : TypeId} {x y : Operand} {k : IntKind} {i : Int} {A : Option Addr} {n c : Nat} {ag : Bool} {s by_ : Nat} {z : Option Value} (j : Nat) (ht : P.underlying t = some (.slice e)) (he : tyRow P e = some (ag, s, z, by_)) (hx : ev l x = some (.slice A n c)) (hy : ev l y = some (.int k i)) (hij : i = (j : Int)) (hj : j ≤ n) :
    Does P l (.slice t x (some y) none none) ty w (.slice (if c = j then A else A.map (·.add (j * s))) (n - j) (c - j)) w := by
  intro ρ hρ d pos af g
  simp only [execOp, hρ _ _ hx, Option.map_some, Option.map_none, hρ _ _ hy, Instr.sliceAt, Sem.run_bind, run_underlying ht, Result.andThen_ok, Instr.slice, Instr.sliceBounds, Sem.run_pure, Option.isSome_none, if_true, sliceBound_ok j hij hj, run_sizeOf' he]
/-- 'x[lo:hi]' -/
theorem Does.slice_lohi {t e : TypeId} {x y y' : Operand} {k k' : IntKind} {i i' : Int} {A : Option Addr} {n c : Nat} {ag : Bool} {s by_ : Nat} {z : Option Value} (j j' : Nat) (ht : P.underlying t = some (.slice e)) (he : tyRow P e = some (ag, s, z, by_)) (hx : ev l x = some (.slice A n c)) (hy : ev l y = some (.int k i)) (hy' : ev l y' = some (.int k' i')) (hij : i = (j : Int)) (hij' : i' = (j' : Int)) (hj : j ≤ j') (hj' : j' ≤ c) :
    Does P l (.slice t x (some y) (some y') none) ty w (.slice (if c = j then A else A.map (·.add (j * s))) (j' - j) (c - j)) w := by
  intro ρ hρ d pos af g
  simp only [execOp, hρ _ _ hx, Option.map_some, Option.map_none, hρ _ _ hy, hρ _ _ hy', Instr.sliceAt, Sem.run_bind, run_underlying ht, Result.andThen_ok, Instr.slice, Instr.sliceBounds, Sem.run_pure, Option.isSome_none, if_true, sliceBound_ok j hij hj, sliceBound_ok j' hij' hj', run_sizeOf' he]
theorem RowAt.cutLo {A : Option Addr} {cs : List Value} {c : Nat} (h : RowAt lab w A cs) (j : Nat) (hc : cs.length ≤ c) : RowAt lab w (if c = j then A else A.map (·.add (j * 1))) (cs.drop j) := by
  split
  · rename_i e
    have : cs.drop j = [] := List.drop_of_length_le (by omega)
    rw [this]; exact RowAt.nil
  · rw [Nat.mul_one]
    have := h.sub j (cs.length - j)
    rwa [List.take_of_length_le (by simp)] at this

/-! ### rows that grow -/
/-- v is a slice of the call's own (or nil): it holds cs, and may be appended to; its block bears the label d. -/
def App (lab : Lab) (w : World) (d : Nat) (t : TypeId) (v : Value) (n : Nat) (cs : List Value) : Prop := w.ownsRow 0 t 1 v n cs ∧ ∀ k, v.ownBlock = some k → lab k = some d
theorem App.lift {T : List Nat} {lab' : Lab} {w' : World} {d n : Nat} {t : TypeId} {v : Value} {cs : List Value} (h : App lab w d t v n cs) (s : Stp T lab w lab' w') (hd : d ∉ T) : App lab' w' d t v n cs := by
  obtain ⟨⟨h1, h2⟩, h3⟩ := h
  rcases h2 with h2 | ⟨g, cap, cur, rfl, hg, hh, r⟩
  · exact ⟨⟨h1, .inl h2⟩, fun k hk => by rw [h2.1] at hk; simp [Value.ownBlock] at hk⟩
  · obtain ⟨k1, k2⟩ := s.own g d (block_lt hh) (h3 g rfl) hd
    exact ⟨⟨h1, .inr ⟨g, cap, cur, rfl, hg, k2.trans hh, r⟩⟩, fun k hk => by simp [Value.ownBlock] at hk; subst hk; exact k1⟩
theorem App.nil {d : Nat} {t : TypeId} : App lab w d t (.slice none 0 0) 0 [] := ⟨⟨by simp, .inl ⟨rfl, rfl⟩⟩, fun k hk => by simp [Value.ownBlock] at hk⟩
theorem App.shape {d n : Nat} {t : TypeId} {v : Value} {cs : List Value} (h : App lab w d t v n cs) : ∃ A c, v = .slice A n c := by
  rcases h.1.2 with ⟨h, h0⟩ | ⟨g, cap, cur, h, _⟩
  · exact ⟨none, 0, by rw [h, h0]⟩
  · exact ⟨_, _, h⟩
theorem App.len {d n : Nat} {t : TypeId} {v : Value} {cs : List Value} (h : App lab w d t v n cs) : cs.length = n := by simpa using h.1.1
theorem App.lenMap {α : Type} {f : α → Value} {d n : Nat} {t : TypeId} {v : Value} {cs : List α} (h : App lab w d t v n (cs.map f)) : cs.length = n := by have := h.len; rwa [List.length_map] at this
/-- Nobody writes it any more. -/
theorem App.row {d n : Nat} {t : TypeId} {A : Option Addr} {c : Nat} {cs : List Value} (h : App lab w d t (.slice A n c) n cs) : RowAt (labFree lab d) w A cs ∧ n ≤ c ∧ c ≤ 9223372036854775807 := by
  obtain ⟨⟨h1, h2⟩, h3⟩ := h
  rcases h2 with ⟨h2, h0⟩ | ⟨g, cap, cur, h2, hg, hh, hnc, hcap, hsz, htk⟩
  · cases h2
    have : cs = [] := List.eq_nil_of_length_eq_zero (by simpa using h1)
    subst this
    exact ⟨RowAt.nil, Nat.le_refl _, by omega⟩
  · cases h2
    refine ⟨.inr ⟨g, 0, cur, t, (0, 0), rfl, by unfold labFree; rw [if_pos (h3 g rfl)], hh, fun j v hj => ?_⟩, hnc, by unfold maxLen at hcap; exact hcap⟩
    rw [← htk] at hj
    have hjl : j < n * 1 := by
      have := (List.getElem?_eq_some_iff.1 hj).1
      simp at this
      omega
    rw [List.getElem?_take_of_lt hjl] at hj
    simpa using hj
theorem run_append_nil {t ty' e : TypeId} {ag : Bool} {s by_ : Nat} {z : Option Value} (ht : P.underlying t = some (.slice e)) (he : tyRow P e = some (ag, s, z, by_)) {d n : Nat} {v : Value} {cs : List Value} (h : App lab w d e v n cs) (c : Nat) : (Builtin.append_ #[t, t] ty' #[v, .slice none 0 c]).run P w = .ok v w := by
  obtain ⟨i, hi, _, _⟩ := run_typeInfo' (P := P) (w := w) he
  rcases h.1.2 with ⟨rfl, rfl⟩ | ⟨g, cap, cur, rfl, _, _, hnc, _⟩
  · simp [Builtin.append_, run_underlying ht, run_sizeOf' he, Builtin.lenOf, Builtin.firstCells]
  · simp [Builtin.append_, run_underlying ht, run_sizeOf' he, Builtin.lenOf, Builtin.firstCells, hnc, storeCells]
theorem run_append {t ty' e : TypeId} {ag : Bool} {by_ : Nat} {z : Value} (ht : P.underlying t = some (.slice e)) (he : tyRow P e = some (ag, 1, some z, by_)) (hz : z.cells.size = 1) {d n : Nat} {v : Value} {cs : List Value} (hv : Valid lab w) (h : App lab w d e v n cs) {A : Option Addr} {m c : Nat} {ys : List Value} (hm : ys.length = m) (hr : RowAt lab w A ys) (h1 : ∀ u ∈ ys, u.oneCell' = true) (hb : (n + m) * by_ ≤ 140737488355328) (h63 : n + m ≤ 9223372036854775807) :
    ∃ v' w' lab', (Builtin.append_ #[t, t] ty' #[v, .slice A m c]).run P w = .ok v' w' ∧ App lab' w' d e v' (n + m) (cs ++ ys) ∧ Stp [d] lab w lab' w' ∧ Valid lab' w' := by
  have key : ∀ a : Addr, (∀ (j : Nat) (u : Value), ys[j]? = some u → w.cell? (a.add j) = some u) → ∃ v' w' lab', (Builtin.append_ #[t, t] ty' #[v, .slice (some a) m c]).run P w = .ok v' w' ∧ App lab' w' d e v' (n + m) (cs ++ ys) ∧ Stp [d] lab w lab' w' ∧ Valid lab' w' := by
    intro a hc
    obtain ⟨i, dd, hi, hu, _, his, hiz, hib⟩ := tyRow_info he
    obtain ⟨v', w', hrun, hown, hgr, _, hbl⟩ := run_append_own_at (P := P) w 0 t ty' e i z 1 by_ ht hi hiz his hib hz (by omega) v n cs h.1 a m c ys (by omega) hc h1 (by unfold maxLen; omega) hb (Nat.zero_le _)
    refine ⟨v', w', if v'.ownBlock = v.ownBlock then lab else labNew lab w.heap.size d, hrun, ⟨hown, ?_⟩, ?_, ?_⟩
    · intro k hk
      split
      · rename_i e1; exact h.2 k (e1 ▸ hk)
      · rename_i e1
        rcases hbl with e2 | e2
        · exact absurd e2 e1
        · rw [e2] at hk; cases hk; simp [labNew]
    · have hkeep : ∀ k, k < w.heap.size → (∀ d', lab k = some d' → d' ≠ d) → w'.heap[k]? = w.heap[k]? := fun k hk hd => hgr.block k hk fun e1 => by
        exact hd d (h.2 k e1.symm) rfl
      refine ⟨hgr.os, hgr.tape, hgr.output, hgr.size, fun k hk e0 => ⟨?_, hkeep k hk (fun d' e1 => by rw [e0] at e1; cases e1)⟩, fun k d' hk e0 hd => ⟨?_, hkeep k hk (fun d'' e1 => by rw [e0] at e1; cases e1; simpa using hd)⟩⟩
      · split
        · exact e0
        · unfold labNew; rw [if_neg (by omega)]; exact e0
      · split
        · exact e0
        · unfold labNew; rw [if_neg (by omega)]; exact e0
    · intro k hk
      split
      · exact hv k (Nat.le_trans hgr.size hk)
      · rename_i e1
        rcases hbl with e2 | e2
        · exact absurd e2 e1
        · have hlt : w.heap.size < w'.heap.size := by
            obtain ⟨_, hx⟩ := hown
            rcases hx with ⟨rfl, _⟩ | ⟨g, cap, cur, rfl, _, hh, _⟩
            · simp [Value.ownBlock] at e2
            · simp [Value.ownBlock] at e2; subst e2; exact block_lt hh
          unfold labNew; rw [if_neg (by omega)]; exact hv k (by omega)
  cases A with
  | some a =>
    refine key a fun j u hu => ?_
    obtain ⟨b, o, hA, hcell⟩ := hr.cell hu
    cases hA
    rw [add_flat]; exact hcell
  | none =>
    have hys : ys = [] := by
      rcases hr with h0 | ⟨b, o, arr, t', fr, hA, _⟩
      · exact h0
      · cases hA
    subst hys
    simp at hm
    subst hm
    exact ⟨v, w, lab, run_append_nil ht he h c, by simpa using h, (Stp.refl _ _).more (by simp), hv⟩
theorem Seq.append {d k : Nat} {t e : TypeId} {x y : Operand} {ag : Bool} {by_ : Nat} {z : Value} {pos : String} {af : Array Edge} {n : Nat} {v : Value} {cs : List Value} {A : Option Addr} {m c : Nat} (ys : List Value) (hv : Valid lab w) (h : App lab w k e v n cs) (ht : P.underlying t = some (.slice e)) (he : tyRow P e = some (ag, 1, some z, by_)) (hz : z.cells.size = 1) (hx : ev l x = some v) (hy : ev l y = some (.slice A m c)) (hm : ys.length = m) (hr : RowAt lab w A ys) (h1 : ∀ u ∈ ys, u.oneCell' = true) (hb : (n + m) * by_ ≤ 140737488355328) (h63 : n + m ≤ 9223372036854775807) (hd : d < N)
    (hk : ∀ lab' w' v', App lab' w' k e v' (n + m) (cs ++ ys) → Stp [k] lab w lab' w' → Valid lab' w' → Seq ds P N ops Q ((d, v') :: l) rest w') : Seq ds P N ops Q l (⟨some d, .call ⟨.builtin .append, #[x, y], #[t, t]⟩, ty, pos, af, none⟩ :: rest) w := by
  obtain ⟨v', w', lab', hrun, h1', h2', h3'⟩ := run_append (P := P) (ty' := ty) ht he hz hv h hm hr h1 hb h63 (c := c)
  refine Seq.val (v := v') (w' := w') ?_ hd (hk lab' w' v' h1' h2' h3')
  intro ρ hρ d pos af g
  simp [execOp, resolve, invoke, builtin, hρ _ _ hx, hρ _ _ hy, hrun]
/-- 'make([]T, 0, n)' -/
theorem Seq.make_app {d k : Nat} {t e : TypeId} {x y : Operand} {ag : Bool} {by_ : Nat} {z : Value} {kk kk' : IntKind} {i i' : Int} {pos : String} {af : Array Edge} (n : Nat) (hv : Valid lab w) (ht : P.underlying t = some (.slice e)) (he : tyRow P e = some (ag, 1, some z, by_)) (hz : z.cells.size = 1)
    (hx : ev l x = some (.int kk i)) (hy : ev l y = some (.int kk' i')) (hi : i = 0) (hi' : i' = (n : Int)) (hb : by_ * n ≤ 281474976710656) (hc : n < 9223372036854775808) (hd : d < N)
    (h : ∀ lab' w' v', App lab' w' k e v' 0 [] → Stp [] lab w lab' w' → Valid lab' w' → Seq ds P N ops Q ((d, v') :: l) rest w') : Seq ds P N ops Q l (⟨some d, .makeSlice t x y, ty, pos, af, none⟩ :: rest) w := by
  subst hi; subst hi'
  obtain ⟨arr, hr, ha⟩ := run_makeSlice (P := P) (n := 0) ht he hz (k := kk) (k' := kk') (Nat.zero_le n) hb hc w
  refine Seq.val (v := .slice (some ⟨w.heap.size, 0, none⟩) 0 n) (w' := w.alloc (.cells arr e)) ?_ hd (h (labNew lab w.heap.size k) _ _ ⟨⟨by simp, .inr ⟨w.heap.size, n, arr, rfl, Nat.zero_le _, heap_alloc_at w _, Nat.zero_le _, by unfold maxLen; omega, by rw [ha]; simp, by simp⟩⟩, fun k' hk' => by simp [Value.ownBlock] at hk'; subst hk'; simp [labNew]⟩ (Stp.alloc _ k) (hv.alloc _ k))
  intro ρ hρ d pos af g
  have hr' := hr
  simp only [execOp, hρ _ _ hx, hρ _ _ hy, Sem.run_bind]
  rw [show (0 : Int) = ((0 : Nat) : Int) from rfl, hr]
  rfl
theorem oneCell_u32 {ws : List UInt32} : ∀ u ∈ ws.map u32, u.oneCell' = true := by
  intro u hu; obtain ⟨x, _, rfl⟩ := List.mem_map.1 hu; rfl
theorem oneCell_u8 {ws : List UInt8} : ∀ u ∈ ws.map u8, u.oneCell' = true := by
  intro u hu; obtain ⟨x, _, rfl⟩ := List.mem_map.1 hu; rfl
theorem appCast {α : Type} {f : α → Value} {d n n' : Nat} {t : TypeId} {v : Value} {cs cs' : List α} (e : cs = cs') (en : n = n') (h : App lab w d t v n (cs.map f)) : App lab w d t v n' (cs'.map f) := by subst e; subst en; exact h
theorem WordsV.takeN {ws : List UInt32} {A : Option Addr} {n c : Nat} (h : WordsV ws lab w (.slice A n c)) (j : Nat) (hj : j ≤ n) : WordsV (ws.take j) lab w (.slice A j c) := by
  have h1 := h.cap
  have h2 := h.row.take j
  have e : (ws.take j).length = j := by rw [List.length_take]; omega
  exact ⟨A, c, by rw [e], by rw [e]; omega, h1.2.2, by rw [List.map_take]; exact h2⟩
theorem BytesV.takeN {ws : List UInt8} {A : Option Addr} {n c : Nat} (h : BytesV ws lab w (.slice A n c)) (j : Nat) (hj : j ≤ n) : BytesV (ws.take j) lab w (.slice A j c) := by
  have h1 := h.cap
  have h2 := h.row.take j
  have e : (ws.take j).length = j := by rw [List.length_take]; omega
  exact ⟨A, c, by rw [e], by rw [e]; omega, h1.2.2, by rw [List.map_take]; exact h2⟩
theorem WordsV.dropN {ws : List UInt32} {A : Option Addr} {n c : Nat} (h : WordsV ws lab w (.slice A n c)) (j : Nat) (hj : j ≤ n) : WordsV (ws.drop j) lab w (.slice (if c = j then A else A.map (·.add (j * 1))) (n - j) (c - j)) := by
  have h1 := h.cap
  have h2 := h.row.cutLo j (c := c) (by simp; omega)
  have e : (ws.drop j).length = n - j := by rw [List.length_drop]; omega
  exact ⟨_, _, by rw [e], by rw [e]; omega, by omega, by rw [List.map_drop]; exact h2⟩
theorem BytesV.dropN {ws : List UInt8} {A : Option Addr} {n c : Nat} (h : BytesV ws lab w (.slice A n c)) (j : Nat) (hj : j ≤ n) : BytesV (ws.drop j) lab w (.slice (if c = j then A else A.map (·.add (j * 1))) (n - j) (c - j)) := by
  have h1 := h.cap
  have h2 := h.row.cutLo j (c := c) (by simp; omega)
  have e : (ws.drop j).length = n - j := by rw [List.length_drop]; omega
  exact ⟨_, _, by rw [e], by rw [e]; omega, by omega, by rw [List.map_drop]; exact h2⟩
end
end Go.Proofs.Ytgfomedobfaidaa
