/-
  Writers: bytes that grow in a struct of the caller's; rows of rows; a number's bytes, the highest first.
-/
import Derived.Test.YtgfomedobfaidaaNat
set_option linter.unusedVariables false
set_option linter.unusedSimpArgs false
namespace Go.Proofs.Ytgfomedobfaidaa
open Go.RowKit

/-! ### a writer -/
/-- Block b is a writer's: it holds the bytes bs, which may grow, and says whether one was bad. -/
def Wr (T U : TypeId) (lab : Lab) (w : World) (b : Nat) (bs : List UInt8) (bad : Bool) : Prop := ∃ v, Own lab w 901 b T #[v, .bool bad] ∧ App lab w 902 U v bs.length (bs.map u8)
theorem Wr.cast {T U : TypeId} {lab : Lab} {w : World} {b : Nat} {bs bs' : List UInt8} {bad bad' : Bool} (e : bs = bs') (f : bad = bad') (h : Wr T U lab w b bs bad) : Wr T U lab w b bs' bad' := by subst e; subst f; exact h
theorem Wr.mk {T U : TypeId} {lab : Lab} {w : World} {b n : Nat} {bs : List UInt8} {bad : Bool} {v : Value} (h : Own lab w 901 b T #[v, .bool bad]) (k : App lab w 902 U v n (bs.map u8)) : Wr T U lab w b bs bad := by
  have : bs.length = n := by simpa using k.len
  subst this
  exact ⟨v, h, k⟩
/-- What a call that writes comes to. -/
def Wrote (T U : TypeId) (lab : Lab) (w : World) (b : Nat) (V : VP) (bs : List UInt8) (bad : Bool) (e : Ending) (w' : World) : Prop :=
  ∃ v, e = .returned v ∧ ∃ lab', V lab' w' v ∧ Wr T U lab' w' b bs bad ∧ Stp [901, 902] lab w lab' w' ∧ Valid lab' w'

section
variable {ds : List Deferred} {P : Program} {N : Nat} {ops : Array Oper} {Q : Exit → Act → World → Prop} {l : List (Nat × Value)} {rest : List Oper} {w : World} {lab : Lab} {ty : TypeId}

theorem Seq.callW {d : Nat} {f : Nat} {xs : List Operand} {tys : Array TypeId} {ty : TypeId} {pos : String} {af : Array Edge} {vs : List Value} {T U : TypeId} {b : Nat} {V : VP} {bs : List UInt8} {bad : Bool} (hf : Callable P f) (hx : evs l xs = some vs) (hd : d < N)
    (hc : Calls P f vs.toArray w (Wrote T U lab w b V bs bad))
    (h : ∀ lab' w' v v', V lab' w' v → Own lab' w' 901 b T #[v', .bool bad] → App lab' w' 902 U v' bs.length (bs.map u8) → Stp [901, 902] lab w lab' w' → Valid lab' w' → Seq ds P N ops Q ((d, v) :: l) rest w') : Seq ds P N ops Q l (⟨some d, .call ⟨.value (.func f), xs.toArray, tys⟩, ty, pos, af, none⟩ :: rest) w :=
  Seq.call (R := fun v w' => ∃ lab', V lab' w' v ∧ Wr T U lab' w' b bs bad ∧ Stp [901, 902] lab w lab' w' ∧ Valid lab' w') hf hx hd hc fun v w' ⟨lab', h1, ⟨v', h2, h3⟩, h4, h5⟩ => h lab' w' v v' h1 h2 h3 h4 h5

/-- A built row that will grow. -/
theorem Seq.build_app {d k : Nat} {t e : TypeId} {ag : Bool} {by_ : Nat} {z : Value} {len : Nat} {parts : Array (Nat × Operand)} {pos : String} {af : Array Edge} (pv : List (Nat × Value)) (cs : List Value) (hv : Valid lab w) (ht : P.underlying t = some (.slice e)) (he : tyRow P e = some (ag, 1, some z, by_)) (hl : len ≤ 16777216) (hl0 : len ≠ 0) (hcl : cs.length = len)
    (hp : parts.toList.map (fun p => (p.1, ev l p.2)) = pv.map (fun p => (p.1, some p.2))) (hf : Instr.fill (fun i => some (i * 1, 1)) ((Array.range (len * 1)).map (fun j => z.cells[j % z.cells.size]!)) pv = some cs.toArray) (hd : d < N)
    (h : ∀ lab' w' v, App lab' w' k e v len cs → Stp [] lab w lab' w' → Valid lab' w' → Seq ds P N ops Q ((d, v) :: l) rest w') : Seq ds P N ops Q l (⟨some d, .buildSlice t len parts, ty, pos, af, none⟩ :: rest) w :=
  Seq.val (Does.buildSlice pv cs ht he (by omega) (by omega) hp hf) hd (h (labNew lab w.heap.size k) _ _ ⟨⟨by omega, .inr ⟨w.heap.size, len, cs.toArray, rfl, Nat.zero_le _, heap_alloc_at w _, Nat.le_refl _, by unfold maxLen; omega, by simp [hcl], by rw [List.toList_toArray, List.take_of_length_le (by omega)]⟩⟩, fun k' hk' => by simp [Value.ownBlock] at hk'; subst hk'; simp [labNew]⟩ (Stp.alloc _ k) (hv.alloc _ k))
/-- '[]T{}' -/
theorem Seq.build_empty {d k : Nat} {t e : TypeId} {ag : Bool} {by_ : Nat} {z : Option Value} {pos : String} {af : Array Edge} (hv : Valid lab w) (ht : P.underlying t = some (.slice e)) (he : tyRow P e = some (ag, 1, z, by_)) (hd : d < N)
    (h : ∀ lab' w' v, App lab' w' k e v 0 [] → Stp [] lab w lab' w' → Valid lab' w' → Seq ds P N ops Q ((d, v) :: l) rest w') : Seq ds P N ops Q l (⟨some d, .buildSlice t 0 #[], ty, pos, af, none⟩ :: rest) w := by
  refine Seq.val (v := .slice (some ⟨w.heap.size, 0, none⟩) 0 0) (w' := w.alloc (.cells #[] e)) ?_ hd (h (labNew lab w.heap.size k) _ _ ⟨⟨by simp, .inr ⟨w.heap.size, 0, #[], rfl, Nat.zero_le _, heap_alloc_at w _, Nat.le_refl _, by unfold maxLen; omega, by simp, by simp⟩⟩, fun k' hk' => by simp [Value.ownBlock] at hk'; subst hk'; simp [labNew]⟩ (Stp.alloc _ k) (hv.alloc _ k))
  intro ρ hρ d pos af g
  simp only [execOp, Instr.buildSlice, Sem.run_bind, run_underlying ht, Result.andThen_ok, run_sizeOf' he]
  simp [Instr.fill, newRow, show Array.range 0 = (#[] : Array Nat) from rfl]
  all_goals rfl
/-- append, as an operation. -/
theorem append_ex {k : Nat} {t e : TypeId} {x y : Operand} {ag : Bool} {by_ : Nat} {z : Value} {n : Nat} {v : Value} {cs : List Value} {A : Option Addr} {m c : Nat} (ys : List Value) (hv : Valid lab w) (h : App lab w k e v n cs) (ht : P.underlying t = some (.slice e)) (he : tyRow P e = some (ag, 1, some z, by_)) (hz : z.cells.size = 1) (hx : ev l x = some v) (hy : ev l y = some (.slice A m c)) (hm : ys.length = m) (hr : RowAt lab w A ys) (h1 : ∀ u ∈ ys, u.oneCell' = true) (hb : (n + m) * by_ ≤ 140737488355328) (h63 : n + m ≤ 9223372036854775807) :
    ∃ v' w' lab', Does P l (.call ⟨.builtin .append, #[x, y], #[t, t]⟩) ty w v' w' ∧ App lab' w' k e v' (n + m) (cs ++ ys) ∧ Stp [k] lab w lab' w' ∧ Valid lab' w' := by
  obtain ⟨v', w', lab', hrun, h1', h2', h3'⟩ := run_append (P := P) (ty' := ty) ht he hz hv h hm hr h1 hb h63 (c := c)
  refine ⟨v', w', lab', ?_, h1', h2', h3'⟩
  intro ρ hρ d pos af g
  simp [execOp, resolve, invoke, builtin, hρ _ _ hx, hρ _ _ hy, hrun]
theorem build_ex {t e : TypeId} {ag : Bool} {s by_ : Nat} {z : Value} {len : Nat} {parts : Array (Nat × Operand)} (pv : List (Nat × Value)) (cs : List Value) (hv : Valid lab w) (ht : P.underlying t = some (.slice e)) (he : tyRow P e = some (ag, s, some z, by_)) (hl : len * s ≤ 16777216) (hl0 : len * s ≠ 0)
    (hp : parts.toList.map (fun p => (p.1, ev l p.2)) = pv.map (fun p => (p.1, some p.2))) (hf : Instr.fill (fun i => some (i * s, s)) ((Array.range (len * s)).map (fun j => z.cells[j % z.cells.size]!)) pv = some cs.toArray) :
    ∃ b w', Does P l (.buildSlice t len parts) ty w (.slice (some ⟨b, 0, none⟩) len len) w' ∧ RowAt lab w' (some ⟨b, 0, none⟩) cs ∧ Stp [] lab w lab w' ∧ Valid lab w' :=
  ⟨_, _, Does.buildSlice pv cs ht he hl hl0 hp hf, RowAt.fresh hv _ e (0, 0) cs (fun j v hj => by simpa using hj), Stp.fresh _, hv.below (by rw [size_alloc]; omega)⟩

theorem law_ne {A B : Prop} {i z : Nat} (h : i ≠ z) (hb : B) : if i = z then A else B := by rw [if_neg h]; exact hb
theorem law_eq {A B : Prop} {i z : Nat} (h : i = z) (hb : A) : if i = z then A else B := by rw [if_pos h]; exact hb
theorem append_law {k : Nat} {t e : TypeId} {x y : Operand} {ag : Bool} {by_ : Nat} {z : Value} {n : Nat} {v : Value} {cs : List Value} {A : Option Addr} {m c : Nat} {a : Act} {Φ : VP} (ys : List Value) (hv : Valid lab w) (h : App lab w k e v n cs) (ht : P.underlying t = some (.slice e)) (he : tyRow P e = some (ag, 1, some z, by_)) (hz : z.cells.size = 1) (hx : ev l x = some v) (hy : ev l y = some (.slice A m c)) (hm : ys.length = m) (hr : RowAt lab w A ys) (h1 : ∀ u ∈ ys, u.oneCell' = true) (hb : (n + m) * by_ ≤ 140737488355328) (h63 : n + m ≤ 9223372036854775807) (hf : Fr ds N l a)
    (hk : ∀ lab' w' v', App lab' w' k e v' (n + m) (cs ++ ys) → Φ lab' w' v') :
    ∃ l' v' lab' w', Fr ds N l' a ∧ Does P l' (.call ⟨.builtin .append, #[x, y], #[t, t]⟩) ty w v' w' ∧ Valid lab' w' ∧ Stp [k] lab w lab' w' ∧ Φ lab' w' v' := by
  obtain ⟨v', w', lab', h1', h2', h3', h4'⟩ := append_ex (P := P) (ty := ty) ys hv h ht he hz hx hy hm hr h1 hb h63
  exact ⟨l, v', lab', w', hf, h1', h4', h3', hk _ _ _ h2'⟩
theorem build_law {t e : TypeId} {ag : Bool} {s by_ : Nat} {z : Value} {len : Nat} {parts : Array (Nat × Operand)} {a : Act} {Φ : VP} (pv : List (Nat × Value)) (cs : List Value) (hv : Valid lab w) (ht : P.underlying t = some (.slice e)) (he : tyRow P e = some (ag, s, some z, by_)) (hl : len * s ≤ 16777216) (hl0 : len * s ≠ 0)
    (hp : parts.toList.map (fun p => (p.1, ev l p.2)) = pv.map (fun p => (p.1, some p.2))) (hf : Instr.fill (fun i => some (i * s, s)) ((Array.range (len * s)).map (fun j => z.cells[j % z.cells.size]!)) pv = some cs.toArray) (hfr : Fr ds N l a)
    (hk : ∀ b w', RowAt lab w' (some ⟨b, 0, none⟩) cs → Stp [] lab w lab w' → Φ lab w' (.slice (some ⟨b, 0, none⟩) len len)) :
    ∃ l' v' lab' w', Fr ds N l' a ∧ Does P l' (.buildSlice t len parts) ty w v' w' ∧ Valid lab' w' ∧ Stp [] lab w lab' w' ∧ Φ lab' w' v' := by
  obtain ⟨b, w', h1, h2, h3, h4⟩ := build_ex (P := P) (ty := ty) pv cs hv ht he hl hl0 hp hf
  exact ⟨l, _, lab, w', hfr, h1, h4, h3, hk b w' h2 h3⟩

/-! ### rows of rows -/
def RowsV (L : List (List UInt8)) : VP := fun lab w v => ∃ A c vs, v = .slice A L.length c ∧ L.length ≤ c ∧ c ≤ 9223372036854775807 ∧ List.length vs = L.length ∧ RowAt lab w A vs ∧ ∀ (i : Nat) (bs : List UInt8), L[i]? = some bs → ∃ u, vs[i]? = some u ∧ BytesV bs lab w u
theorem RowsV.pers (L : List (List UInt8)) : Pers (RowsV L) := ⟨fun s ⟨A, c, vs, h1, h2, h3, h4, h5, h6⟩ => ⟨A, c, vs, h1, h2, h3, h4, h5.lift s, fun i bs hi => by
  obtain ⟨u, hu, hb⟩ := h6 i bs hi
  exact ⟨u, hu, (BytesV.pers _).step s hb⟩⟩⟩
theorem RowsV.shape {L : List (List UInt8)} {v : Value} (h : RowsV L lab w v) : ∃ A c, v = .slice A L.length c := by
  obtain ⟨A, c, _, h1, _⟩ := h
  exact ⟨A, c, h1⟩
theorem RowsV.cap {L : List (List UInt8)} {A : Option Addr} {n c : Nat} (h : RowsV L lab w (.slice A n c)) : n = L.length ∧ L.length ≤ c ∧ c ≤ 9223372036854775807 := by
  obtain ⟨A', c', _, h1, h2, h3, _⟩ := h
  cases h1
  exact ⟨rfl, h2, h3⟩
theorem RowsV.cast {x y : List (List UInt8)} (e : x = y) {v : Value} (h : RowsV x lab w v) : RowsV y lab w v := e ▸ h
/-- The row of an element, and where it stands. -/
theorem RowsV.at_ {L : List (List UInt8)} {A : Option Addr} {n c : Nat} (h : RowsV L lab w (.slice A n c)) (j : Nat) (hj : j < n) : ∃ vs u, List.length vs = n ∧ RowAt lab w A vs ∧ vs[j]? = some u ∧ BytesV (List.getD L j []) lab w u := by
  obtain ⟨A', c', vs, h1, _, _, h4, h5, h6⟩ := h
  cases h1
  obtain ⟨u, hu, hb⟩ := h6 j (L[j]) (List.getElem?_eq_getElem hj)
  refine ⟨vs, u, h4, h5, hu, ?_⟩
  simpa [List.getD, List.getElem?_eq_getElem hj] using hb
theorem RowsV.mk {L : List (List UInt8)} {A : Option Addr} {c : Nat} {vs : List Value} (n : Nat) (hn : L.length = n) (hc : n ≤ c) (hc' : c ≤ 9223372036854775807) (hr : RowAt lab w A vs) (hvs : List.length vs = n) (h : ∀ (i : Nat) (bs : List UInt8), L[i]? = some bs → ∃ u, vs[i]? = some u ∧ BytesV bs lab w u) : RowsV L lab w (.slice A n c) := by
  subst hn
  exact ⟨A, c, vs, rfl, hc, hc', hvs, hr, h⟩
def EachB (lab : Lab) (w : World) : List (List UInt8) → List Value → Prop
  | [], [] => True
  | b :: r, v :: s => BytesV b lab w v ∧ EachB lab w r s
  | _, _ => False
theorem EachB.get : ∀ {L : List (List UInt8)} {vs : List Value}, EachB lab w L vs → ∀ (i : Nat) (bs : List UInt8), L[i]? = some bs → ∃ u, vs[i]? = some u ∧ BytesV bs lab w u
  | [], [], _, i, bs, h => by simp at h
  | b :: r, v :: s, h, 0, bs, hi => by simp at hi; subst hi; exact ⟨v, rfl, h.1⟩
  | b :: r, v :: s, h, i + 1, bs, hi => EachB.get (L := r) (vs := s) h.2 i bs (by simpa using hi)
  | [], _ :: _, h, _, _, _ => h.elim
  | _ :: _, [], h, _, _, _ => h.elim
end

/-! ### a number's bytes -/
def u64i (n : Int) : UInt64 := UInt64.ofNat (n % 18446744073709551616).toNat
theorem wrap_i64_u64i (n : Int) : IntKind.u64.wrap n = ((u64i n).toNat : Int) := by
  rw [IntKind.wrap_u64, u64i]; simp; omega
def be (x : UInt64) : Nat → List UInt8
  | 0 => []
  | k + 1 => (x >>> UInt64.ofNat (8 * k)).toUInt8 :: be x k
theorem be_length (x : UInt64) (k : Nat) : (be x k).length = k := by induction k with
  | zero => rfl
  | succ k ih => simp [be, ih]
theorem be_get (x : UInt64) : ∀ (s j : Nat), j < s → (be x s)[s - 1 - j]? = some (x >>> UInt64.ofNat (8 * j)).toUInt8
  | 0, _, h => absurd h (by omega)
  | s + 1, j, h => by
    by_cases e : j = s
    · subst e; simp [be]
    · rw [show s + 1 - 1 - j = (s - 1 - j) + 1 by omega]
      simpa [be] using be_get x s j (by omega)
theorem be_step {x : UInt64} {s j : Nat} (h1 : 1 ≤ j) (h2 : j ≤ s) : (be x s).take (s - j) ++ [(x >>> UInt64.ofNat (8 * ((j : Int) - 1)).toNat).toUInt8] = (be x s).take (s - (j - 1)) := by
  have hl := be_length x s
  have e : s - (j - 1) = (s - j) + 1 := by omega
  rw [e, List.take_succ_eq_append_getElem (by omega)]
  have g := be_get x s (j - 1) (by omega)
  rw [show s - 1 - (j - 1) = s - j by omega, List.getElem?_eq_getElem (by omega)] at g
  rw [Option.some.inj g, show (8 * ((j : Int) - 1)).toNat = 8 * (j - 1) by omega]
end Go.Proofs.Ytgfomedobfaidaa
