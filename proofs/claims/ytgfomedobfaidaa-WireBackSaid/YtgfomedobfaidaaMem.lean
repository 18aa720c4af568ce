/-
  Labels on blocks, steps, what a value reads as, and the operations on memory.
-/
import Derived.Test.YtgfomedobfaidaaOps
import Derived.Laws.CopyRow
import Derived.Laws.Strings
set_option linter.unusedVariables false
set_option linter.unusedSimpArgs false
namespace Go.Proofs.Ytgfomedobfaidaa
open Go.RowKit

abbrev Lab := Nat → Option Nat
def Valid (lab : Lab) (w : World) : Prop := ∀ k, w.heap.size ≤ k → lab k = none

/-- From (lab, w) to (lab', w'): blocks without a label are as they were; so are those whose label is not in T. -/
structure Stp (T : List Nat) (lab : Lab) (w : World) (lab' : Lab) (w' : World) : Prop where
  os : w'.os = w.os
  tape : w'.tape = w.tape
  output : w'.output = w.output
  size : w.heap.size ≤ w'.heap.size
  free : ∀ k, k < w.heap.size → lab k = none → lab' k = none ∧ w'.heap[k]? = w.heap[k]?
  own : ∀ k d, k < w.heap.size → lab k = some d → d ∉ T → lab' k = some d ∧ w'.heap[k]? = w.heap[k]?

theorem Stp.refl (lab : Lab) (w : World) : Stp [] lab w lab w := ⟨rfl, rfl, rfl, Nat.le_refl _, fun _ _ h => ⟨h, rfl⟩, fun _ _ _ h _ => ⟨h, rfl⟩⟩
theorem Stp.trans {T U : List Nat} {l0 l1 l2 : Lab} {a b c : World} (h : Stp T l0 a l1 b) (k : Stp U l1 b l2 c) : Stp (T ++ U) l0 a l2 c where
  os := k.os.trans h.os
  tape := k.tape.trans h.tape
  output := k.output.trans h.output
  size := Nat.le_trans h.size k.size
  free := fun i hi h0 => by
    obtain ⟨h1, h2⟩ := h.free i hi h0
    obtain ⟨k1, k2⟩ := k.free i (Nat.lt_of_lt_of_le hi h.size) h1
    exact ⟨k1, k2.trans h2⟩
  own := fun i d hi h0 hd => by
    obtain ⟨h1, h2⟩ := h.own i d hi h0 (fun e => hd (List.mem_append_left _ e))
    obtain ⟨k1, k2⟩ := k.own i d (Nat.lt_of_lt_of_le hi h.size) h1 (fun e => hd (List.mem_append_right _ e))
    exact ⟨k1, k2.trans h2⟩
/-- The labels touched, told by a longer list. -/
theorem Stp.more {T U : List Nat} {l0 l1 : Lab} {a b : World} (h : Stp T l0 a l1 b) (hT : ∀ d, d ∈ T → d ∈ U) : Stp U l0 a l1 b := ⟨h.os, h.tape, h.output, h.size, h.free, fun i d hi h0 hd => h.own i d hi h0 (fun e => hd (hT d e))⟩
theorem Stp.below {lab : Lab} {w w' : World} (h : Below w.heap.size w w') : Stp [] lab w lab w' := ⟨h.os, h.tape, h.output, h.size, fun k hk e => ⟨e, h.block k hk⟩, fun k d hk e _ => ⟨e, h.block k hk⟩⟩
theorem Stp.drew (lab : Lab) (w : World) : Stp [] lab w lab { w with drawn := w.drawn + 1 } := ⟨rfl, rfl, rfl, Nat.le_refl _, fun _ _ h => ⟨h, rfl⟩, fun _ _ _ h _ => ⟨h, rfl⟩⟩
theorem Valid.below {lab : Lab} {w w' : World} (hv : Valid lab w) (h : w.heap.size ≤ w'.heap.size) : Valid lab w' := fun k hk => hv k (Nat.le_trans h hk)

/-- The labels at a function's entry: the caller's own blocks are all labelled 0. -/
def ent (lab : Lab) : Lab := fun k => if (lab k).isSome then some 0 else none
theorem ent_none {lab : Lab} {k : Nat} : ent lab k = none ↔ lab k = none := by unfold ent; cases lab k <;> simp
theorem Valid.ent {lab : Lab} {w : World} (h : Valid lab w) : Valid (ent lab) w := fun k hk => ent_none.2 (h k hk)
theorem Stp.enter (lab : Lab) (w : World) : Stp [] (fun k => ent lab k) w (ent lab) w := Stp.refl _ _

/-- What is said of a value. -/
abbrev VP := Lab → World → Value → Prop
structure Pers (V : VP) : Prop where
  step : ∀ {T : List Nat} {lab : Lab} {w : World} {lab' : Lab} {w' : World} {v : Value}, Stp T lab w lab' w' → V lab w v → V lab' w' v

/-- Only which blocks bear no label matters. -/
theorem Stp.relabel {lab lab' : Lab} {w : World} (h : ∀ k, k < w.heap.size → lab k = none → lab' k = none) (T : List Nat) (hT : ∀ k d, k < w.heap.size → lab k = some d → d ∉ T → lab' k = some d) : Stp T lab w lab' w :=
  ⟨rfl, rfl, rfl, Nat.le_refl _, fun k hk e => ⟨h k hk e, rfl⟩, fun k d hk e hd => ⟨hT k d hk e hd, rfl⟩⟩

/-- At the end of a function: of the caller's memory nothing has turned. -/
theorem Stp.leave {T : List Nat} {lab lab' : Lab} {w w' : World} (h : Stp T (ent lab) w lab' w') (hT : (0 : Nat) ∉ T) : Below w.heap.size w w' :=
  ⟨h.os, h.tape, h.output, h.size, fun k hk => by
    cases hl : ent lab k with
    | none => exact (h.free k hk hl).2
    | some d =>
      have hd : d = 0 := by unfold ent at hl; split at hl <;> simp_all
      subst hd
      exact (h.own k 0 hk hl hT).2⟩
/-- .. and what is said of a result is said under the caller's labels, too. -/
theorem Stp.back {T : List Nat} {lab lab' : Lab} {w w' : World} (h : Stp T (ent lab) w lab' w') (hT : (0 : Nat) ∉ T) (hv : Valid lab w) :
    ∀ k, lab' k = none → lab k = none := by
  intro k hk
  by_cases hlt : k < w.heap.size
  · cases hl : lab k with
    | none => rfl
    | some d =>
      have he : ent lab k = some 0 := by unfold ent; simp [hl]
      have := (h.own k 0 hlt he hT).1
      rw [hk] at this
      cases this
  · exact hv k (by omega)
/-- .. as a step. -/
theorem Stp.out {T : List Nat} {lab lab' : Lab} {w w' : World} (h : Stp T (ent lab) w lab' w') (hT : (0 : Nat) ∉ T) (hv : Valid lab w) : ∃ U, Stp U lab' w' lab w' :=
  ⟨(List.range w'.heap.size).filterMap lab', ⟨rfl, rfl, rfl, Nat.le_refl _, fun k hk e => ⟨h.back hT hv k e, rfl⟩, fun k d hk e hd => absurd (List.mem_filterMap.2 ⟨k, by simpa using hk, e⟩) hd⟩⟩

@[reducible] def str (bs : List UInt8) : Value := .string ⟨bs.toArray⟩

/-! ### rows that are read -/
theorem add_flat (b o j : Nat) : (⟨b, o, none⟩ : Addr).add j = ⟨b, o + j, none⟩ := by unfold Addr.add; split <;> simp_all

/-- The cells cs stand from A on, in a block without a label. -/
def RowAt (lab : Lab) (w : World) (A : Option Addr) (cs : List Value) : Prop :=
  cs = [] ∨ ∃ b o arr t fr, A = some ⟨b, o, none⟩ ∧ lab b = none ∧ w.heap[b]? = some (.cells arr t fr) ∧ ∀ j v, cs[j]? = some v → arr[o + j]? = some v
theorem RowAt.nil {lab : Lab} {w : World} {A : Option Addr} : RowAt lab w A [] := .inl rfl
theorem block_lt {w : World} {b : Nat} {o : Obj} (h : w.heap[b]? = some o) : b < w.heap.size := (Array.getElem?_eq_some_iff.1 h).1
theorem RowAt.lift {T : List Nat} {lab lab' : Lab} {w w' : World} {A : Option Addr} {cs : List Value} (s : Stp T lab w lab' w') (h : RowAt lab w A cs) : RowAt lab' w' A cs := by
  rcases h with h | ⟨b, o, arr, t, fr, h1, h2, h3, h4⟩
  · exact .inl h
  · obtain ⟨k1, k2⟩ := s.free b (block_lt h3) h2
    exact .inr ⟨b, o, arr, t, fr, h1, k1, k2.trans h3, h4⟩
theorem RowAt.cell {lab : Lab} {w : World} {A : Option Addr} {cs : List Value} (h : RowAt lab w A cs) {j : Nat} {v : Value} (hv : cs[j]? = some v) : ∃ b o, A = some ⟨b, o, none⟩ ∧ w.cell? ⟨b, o + j, none⟩ = some v := by
  rcases h with h | ⟨b, o, arr, t, fr, h1, h2, h3, h4⟩
  · subst h; simp at hv
  · exact ⟨b, o, h1, by rw [cell_of_row w b _ arr t fr h3]; exact h4 j v hv⟩
theorem RowAt.sub {lab : Lab} {w : World} {A : Option Addr} {cs : List Value} (h : RowAt lab w A cs) (lo n : Nat) : RowAt lab w (A.map (·.add lo)) ((cs.drop lo).take n) := by
  rcases h with h | ⟨b, o, arr, t, fr, h1, h2, h3, h4⟩
  · exact .inl (by simp [h])
  · refine .inr ⟨b, o + lo, arr, t, fr, by simp [h1, add_flat], h2, h3, fun j v hv => ?_⟩
    have hj : j < n := by
      by_cases hj : j < n
      · exact hj
      · rw [List.getElem?_take, if_neg hj] at hv; cases hv
    rw [List.getElem?_take_of_lt hj, List.getElem?_drop] at hv
    rw [Nat.add_assoc]
    exact h4 _ v hv
theorem RowAt.take {lab : Lab} {w : World} {A : Option Addr} {cs : List Value} (h : RowAt lab w A cs) (n : Nat) : RowAt lab w A (cs.take n) := by
  rcases h with h | ⟨b, o, arr, t, fr, h1, h2, h3, h4⟩
  · exact .inl (by simp [h])
  · refine .inr ⟨b, o, arr, t, fr, h1, h2, h3, fun j v hv => h4 j v ?_⟩
    by_cases hj : j < n
    · rwa [List.getElem?_take_of_lt hj] at hv
    · rw [List.getElem?_take, if_neg hj] at hv; cases hv

/-- A slice that reads as these cells. -/
def SliceV (cs : List Value) : VP := fun lab w v => ∃ A c, v = .slice A cs.length c ∧ cs.length ≤ c ∧ c ≤ 9223372036854775807 ∧ RowAt lab w A cs
theorem SliceV.pers (cs : List Value) : Pers (SliceV cs) := ⟨fun s ⟨A, c, h1, h2, h3, h4⟩ => ⟨A, c, h1, h2, h3, h4.lift s⟩⟩

/-! ### blocks of the call's own -/
def Own (lab : Lab) (w : World) (d b : Nat) (t : TypeId) (arr : Array Value) : Prop := lab b = some d ∧ w.heap[b]? = some (.cells arr t (0, 0))
theorem Own.lift {T : List Nat} {lab lab' : Lab} {w w' : World} {d b : Nat} {t : TypeId} {arr : Array Value} (h : Own lab w d b t arr) (s : Stp T lab w lab' w') (hd : d ∉ T) : Own lab' w' d b t arr := by
  obtain ⟨k1, k2⟩ := s.own b d (block_lt h.2) h.1 hd
  exact ⟨k1, k2.trans h.2⟩
theorem Own.cell {lab : Lab} {w : World} {d b : Nat} {t : TypeId} {arr : Array Value} (h : Own lab w d b t arr) (j : Nat) : w.cell? ⟨b, j, none⟩ = arr[j]? := cell_of_row w b j arr t (0, 0) h.2

/-- A new block that is labelled. -/
def labNew (lab : Lab) (b d : Nat) : Lab := fun k => if k = b then some d else lab k
theorem heap_alloc_lt (w : World) (o : Obj) {k : Nat} (h : k < w.heap.size) : (w.alloc o).heap[k]? = w.heap[k]? := Below.heap_alloc w o k h
theorem heap_alloc_at (w : World) (o : Obj) : (w.alloc o).heap[w.heap.size]? = some o := by show (w.heap.push o)[w.heap.size]? = some o; simp
theorem size_alloc (w : World) (o : Obj) : (w.alloc o).heap.size = w.heap.size + 1 := by show (w.heap.push o).size = _; simp
theorem Stp.alloc {lab : Lab} {w : World} (o : Obj) (d : Nat) : Stp [] lab w (labNew lab w.heap.size d) (w.alloc o) :=
  ⟨rfl, rfl, rfl, by rw [size_alloc]; omega, fun k hk e => ⟨by unfold labNew; rw [if_neg (by omega)]; exact e, heap_alloc_lt w o hk⟩, fun k d' hk e _ => ⟨by unfold labNew; rw [if_neg (by omega)]; exact e, heap_alloc_lt w o hk⟩⟩
theorem Valid.alloc {lab : Lab} {w : World} (hv : Valid lab w) (o : Obj) (d : Nat) : Valid (labNew lab w.heap.size d) (w.alloc o) := fun k hk => by
  rw [size_alloc] at hk
  unfold labNew; rw [if_neg (by omega)]; exact hv k (by omega)
theorem Own.alloc (lab : Lab) (w : World) (arr : Array Value) (t : TypeId) (d : Nat) : Own (labNew lab w.heap.size d) (w.alloc (.cells arr t)) d w.heap.size t arr := ⟨by simp [labNew], heap_alloc_at w _⟩
/-- A new block that is not labelled: nobody will write it. -/
theorem Stp.fresh {lab : Lab} {w : World} (o : Obj) : Stp [] lab w lab (w.alloc o) :=
  ⟨rfl, rfl, rfl, by rw [size_alloc]; omega, fun k hk e => ⟨e, heap_alloc_lt w o hk⟩, fun k d' hk e _ => ⟨e, heap_alloc_lt w o hk⟩⟩
theorem RowAt.fresh {lab : Lab} {w : World} (hv : Valid lab w) (arr : Array Value) (t : TypeId) (fr : Nat × Nat) (cs : List Value) (h : ∀ (j : Nat) (v : Value), cs[j]? = some v → arr[j]? = some v) : RowAt lab (w.alloc (.cells arr t fr)) (some ⟨w.heap.size, 0, none⟩) cs :=
  .inr ⟨w.heap.size, 0, arr, t, fr, rfl, hv _ (Nat.le_refl _), heap_alloc_at w _, fun j v hj => by rw [Nat.zero_add]; exact h j v hj⟩
/-- A block of the call's own that nobody will write any more. -/
def labFree (lab : Lab) (d : Nat) : Lab := fun k => if lab k = some d then none else lab k
theorem Stp.release {lab : Lab} {w : World} (d : Nat) : Stp [d] lab w (labFree lab d) w :=
  ⟨rfl, rfl, rfl, Nat.le_refl _, fun k hk e => ⟨by unfold labFree; split <;> simp_all, rfl⟩, fun k d' hk e hd => ⟨by unfold labFree; rw [if_neg (by rw [e]; simp at hd ⊢; exact hd)]; exact e, rfl⟩⟩
theorem Valid.release {lab : Lab} {w : World} (hv : Valid lab w) (d : Nat) : Valid (labFree lab d) w := fun k hk => by unfold labFree; split; rfl; exact hv k hk
theorem RowAt.release {lab : Lab} {w : World} {d b : Nat} {t : TypeId} {arr : Array Value} (h : Own lab w d b t arr) (o : Nat) (cs : List Value) (hc : ∀ (j : Nat) (v : Value), cs[j]? = some v → arr[o + j]? = some v) : RowAt (labFree lab d) w (some ⟨b, o, none⟩) cs :=
  .inr ⟨b, o, arr, t, (0, 0), rfl, by unfold labFree; rw [if_pos h.1], h.2, hc⟩

/-! stores -/
theorem setRow_get {w : World} {g : Nat} {c cs : Array Value} {t : TypeId} {fr : Nat × Nat} (h : w.heap[g]? = some (.cells c t fr)) : (w.setRow g cs).heap[g]? = some (.cells cs t fr) := by
  simp [World.setRow, Array.getElem?_modify, h]
theorem setRow_other {w : World} {g k : Nat} {cs : Array Value} (h : k ≠ g) : (w.setRow g cs).heap[k]? = w.heap[k]? := by
  simp only [World.setRow, Array.getElem?_modify]; rw [if_neg (fun e => h e.symm)]
theorem setRow_size (w : World) (g : Nat) (cs : Array Value) : (w.setRow g cs).heap.size = w.heap.size := by simp [World.setRow]
theorem Stp.set {lab : Lab} {w : World} {d b : Nat} (h : lab b = some d) (cs : Array Value) : Stp [d] lab w lab (w.setRow b cs) :=
  ⟨rfl, rfl, rfl, by rw [setRow_size]; omega, fun k hk e => ⟨e, setRow_other (fun e' => by subst e'; rw [h] at e; cases e)⟩, fun k d' hk e hd => ⟨e, setRow_other (fun e' => by subst e'; rw [h] at e; cases e; simp at hd)⟩⟩
theorem Own.set {lab : Lab} {w : World} {d b : Nat} {t : TypeId} {arr : Array Value} (h : Own lab w d b t arr) (cs : Array Value) : Own lab (w.setRow b cs) d b t cs := ⟨h.1, setRow_get h.2⟩
theorem Valid.set {lab : Lab} {w : World} (hv : Valid lab w) (b : Nat) (cs : Array Value) : Valid lab (w.setRow b cs) := hv.below (by rw [setRow_size]; omega)

/-! ### the operations on memory -/
section
variable {P : Program} {N : Nat} {l : List (Nat × Value)} {w : World} {ty : TypeId}

theorem run_newVar (t : TypeId) (v : Value) (w : World) : (newVar t v).run P w = .ok ⟨w.heap.size, 0, none⟩ (w.alloc (.cells v.cells t)) := rfl
theorem Does.alloc {t : TypeId} {ag : Bool} {n by_ : Nat} {z : Value} (ht : tyRow P t = some (ag, n, some z, by_)) : Does P l (.alloc t) ty w (.pointer (some ⟨w.heap.size, 0, none⟩)) (w.alloc (.cells z.cells t)) := by
  intro ρ hρ d pos af g
  simp only [execOp, Instr.alloc, Sem.run_bind, run_zero' ht, Result.andThen_ok, run_newVar]
  rfl
theorem Does.box {t : TypeId} {x : Operand} {v : Value} (hx : ev l x = some v) : Does P l (.box t x) ty w (.pointer (some ⟨w.heap.size, 0, none⟩)) (w.alloc (.cells v.cells t)) := by
  intro ρ hρ d pos af g
  simp only [execOp, Instr.box, hρ _ _ hx, Sem.run_bind, Result.andThen_ok, run_newVar]
  rfl
theorem run_loadVar_one {t : TypeId} {n by_ : Nat} {z : Option Value} {a : Addr} {v : Value} (ht : tyRow P t = some (false, n, z, by_)) (hc : w.cell? a = some v) : (loadVar t a).run P w = .ok v w := by
  simp only [loadVar, Sem.run_bind, run_isAgg' ht, Result.andThen_ok, Bool.false_eq_true, if_false, load, Sem.run, hc]
theorem run_loadVar_agg {t : TypeId} {by_ : Nat} {z : Option Value} {a : Addr} {cs : List Value} (ht : tyRow P t = some (true, cs.length, z, by_)) (hc : ∀ j v, cs[j]? = some v → w.cell? (a.add j) = some v) : (loadVar t a).run P w = .ok (.agg cs.toArray) w := by
  simp only [loadVar, Sem.run_bind, run_isAgg' ht, Result.andThen_ok, if_true, run_sizeOf' ht, run_loadCells_list w a cs hc]
  rfl
theorem Does.load_one {t : TypeId} {x : Operand} {n by_ : Nat} {z : Option Value} {a : Addr} {v : Value} (ht : tyRow P t = some (false, n, z, by_)) (hx : ev l x = some (.pointer (some a))) (hc : w.cell? a = some v) : Does P l (.load t x) ty w v w := by
  intro ρ hρ d pos af g
  simp only [execOp, Instr.loadAt, Instr.sureAddr, hρ _ _ hx, Sem.run_bind, Sem.run_pure, Result.andThen_ok, run_loadVar_one ht hc]
theorem Does.load_agg {t : TypeId} {x : Operand} {by_ : Nat} {z : Option Value} {a : Addr} {cs : List Value} (ht : tyRow P t = some (true, cs.length, z, by_)) (hx : ev l x = some (.pointer (some a))) (hc : ∀ j v, cs[j]? = some v → w.cell? (a.add j) = some v) : Does P l (.load t x) ty w (.agg cs.toArray) w := by
  intro ρ hρ d pos af g
  simp only [execOp, Instr.loadAt, Instr.sureAddr, hρ _ _ hx, Sem.run_bind, Sem.run_pure, Result.andThen_ok, run_loadVar_agg ht hc]
/-- A whole variable of the call's own. -/
theorem Does.load_own1 {t t' : TypeId} {x : Operand} {n by_ : Nat} {z : Option Value} {lab : Lab} {d b o : Nat} {arr : Array Value} {v : Value} (h : Own lab w d b t' arr) (ht : tyRow P t = some (false, n, z, by_)) (hx : ev l x = some (.pointer (some ⟨b, o, none⟩))) (hv : arr[o]? = some v) : Does P l (.load t x) ty w v w :=
  Does.load_one ht hx (by rw [h.cell]; exact hv)
theorem Does.load_ownN {t t' : TypeId} {x : Operand} {by_ : Nat} {z : Option Value} {lab : Lab} {d b o : Nat} {arr : Array Value} (cs : List Value) (h : Own lab w d b t' arr) (ht : tyRow P t = some (true, cs.length, z, by_)) (hx : ev l x = some (.pointer (some ⟨b, o, none⟩)))
    (hv : (arr.toList.drop o).take cs.length = cs) : Does P l (.load t x) ty w (.agg cs.toArray) w :=
  Does.load_agg ht hx (fun j v hj => by
    rw [add_flat, h.cell]
    have hjl : j < cs.length := (List.getElem?_eq_some_iff.1 hj).1
    rw [← hv, List.getElem?_take_of_lt hjl, List.getElem?_drop] at hj
    simpa using hj)
theorem run_storeVar {t t' : TypeId} {ag : Bool} {n by_ : Nat} {z : Option Value} {b o : Nat} {arr : Array Value} {v : Value} (ht : tyRow P t = some (ag, n, z, by_)) (hh : w.heap[b]? = some (.cells arr t' (0, 0))) (hn : v.cells.size = n) (ho : o + n ≤ arr.size) (h1 : v.cells.toList.all (·.oneCell') = true) :
    (storeVar t ⟨b, o, none⟩ v).run P w = .ok () (w.setRow b (arr.toList.take o ++ v.cells.toList ++ arr.toList.drop (o + n)).toArray) := by
  have h := run_storeCells_at (P := P) b o t' v.cells.toList 0 arr w hh (by simp; omega) (fun x hx => (List.all_eq_true.1 h1) x hx)
  simp only [storeVar, Sem.run_bind, run_sizeOf' ht, Result.andThen_ok]
  rw [if_neg (by simp [hn]), h]
  simp [hn]
theorem Does.store {t t' : TypeId} {x y : Operand} {ag : Bool} {n by_ : Nat} {z : Option Value} {b o : Nat} {arr : Array Value} {v : Value} {lab : Lab} {d : Nat} (arr' : Array Value) (h : Own lab w d b t' arr) (ht : tyRow P t = some (ag, n, z, by_)) (hx : ev l x = some (.pointer (some ⟨b, o, none⟩))) (hy : ev l y = some v)
    (hn : v.cells.size = n) (ho : o + n ≤ arr.size) (h1 : v.cells.toList.all (·.oneCell') = true) (ha : (arr.toList.take o ++ v.cells.toList ++ arr.toList.drop (o + n)).toArray = arr') : DoesU P l (.store t x y) ty w (w.setRow b arr') := by
  intro ρ hρ d pos af g
  simp only [execOp, Instr.storeAt, Instr.sureAddr, hρ _ _ hx, hρ _ _ hy, Sem.run_bind, Sem.run_pure, Result.andThen_ok, run_storeVar ht h.2 hn ho h1, ha]
theorem Does.fieldAddr {s : TypeId} {x : Operand} {i : Nat} {fs : Array Field} {f : Field} {b o : Nat} {ag : Bool} {n by_ : Nat} {z : Option Value} (hs : P.underlying s = some (.struct fs)) (hf : fs[i]? = some f) (ht : tyRow P f.type = some (ag, n + 1, z, by_)) (hx : ev l x = some (.pointer (some ⟨b, o, none⟩))) :
    Does P l (.fieldAddr s x i) ty w (.pointer (some ⟨b, o + f.offset, none⟩)) w := by
  intro ρ hρ d pos af g
  simp only [execOp, Instr.fieldAt, hρ _ _ hx, Sem.run_bind, run_underlying hs, Result.andThen_ok, hf, Instr.sureAddr, Sem.run_pure, fieldPlace, run_sizeOf' ht, Nat.add_eq_zero_iff, Nat.one_ne_zero, and_false, if_false, add_flat]
theorem Does.fieldAddr' {s : TypeId} {x : Operand} {i : Nat} {fs : Array Field} {f : Field} {b o : Nat} {ag : Bool} {n by_ : Nat} {z : Option Value} (r : Nat) (hs : P.underlying s = some (.struct fs)) (hf : fs[i]? = some f) (ht : tyRow P f.type = some (ag, n + 1, z, by_)) (hx : ev l x = some (.pointer (some ⟨b, o, none⟩))) (hr : o + f.offset = r) :
    Does P l (.fieldAddr s x i) ty w (.pointer (some ⟨b, r, none⟩)) w := hr ▸ Does.fieldAddr hs hf ht hx
theorem Does.field {s : TypeId} {x : Operand} {i : Nat} {fs : Array Field} {f : Field} {cs : Array Value} {n by_ : Nat} {z : Option Value} {v : Value} (hs : P.underlying s = some (.struct fs)) (hf : fs[i]? = some f) (ht : tyRow P f.type = some (false, n, z, by_)) (hx : ev l x = some (.agg cs)) (hv : cs[f.offset]? = some v) :
    Does P l (.field s x i) ty w v w := by
  intro ρ hρ d pos af g
  simp only [execOp, Instr.field, hρ _ _ hx, Sem.run_bind, run_underlying hs, Result.andThen_ok, hf, asAgg, Sem.run_pure, part, run_isAgg' ht, Bool.false_eq_true, if_false, hv]
theorem Does.field_agg {s : TypeId} {x : Operand} {i : Nat} {fs : Array Field} {f : Field} {cs cs' : Array Value} {n by_ : Nat} {z : Option Value} (hs : P.underlying s = some (.struct fs)) (hf : fs[i]? = some f) (ht : tyRow P f.type = some (true, n, z, by_)) (hx : ev l x = some (.agg cs)) (hv : cs.extract f.offset (f.offset + n) = cs') :
    Does P l (.field s x i) ty w (.agg cs') w := by
  intro ρ hρ d pos af g
  simp only [execOp, Instr.field, hρ _ _ hx, Sem.run_bind, run_underlying hs, Result.andThen_ok, hf, asAgg, Sem.run_pure, part, run_isAgg' ht, if_true, run_sizeOf' ht, hv]
theorem Does.len {t e : TypeId} {x : Operand} {A : Option Addr} {n c : Nat} (ht : P.underlying t = some (.slice e)) (hx : ev l x = some (.slice A n c)) : Does P l (.call ⟨.builtin .len, #[x], #[t]⟩) ty w (i64 n) w := by
  intro ρ hρ d pos af g
  simp [execOp, resolve, invoke, builtin, hρ _ _ hx, Builtin.len_, run_underlying ht, goInt]
theorem Does.len_str {t : TypeId} {x : Operand} {s : ByteArray} (ht : P.underlying t = some .string) (hx : ev l x = some (.string s)) : Does P l (.call ⟨.builtin .len, #[x], #[t]⟩) ty w (i64 s.size) w := by
  intro ρ hρ d pos af g
  simp [execOp, resolve, invoke, builtin, hρ _ _ hx, Builtin.len_, run_underlying ht, goInt]
theorem Does.eql_nil {t e yt : TypeId} {x y : Operand} {a : Addr} (ht : P.underlying t = some (.pointer e)) (hx : ev l x = some (.pointer (some a))) (hy : ev l y = some (.pointer none)) : Does P l (.binOp .eql t x y yt) ty w (.bool false) w := by
  intro ρ hρ d pos af g
  have hg : (eqGuard .eql t x y (.pointer (some a)) (.pointer none)).run P w = .ok () w := rfl
  have he : ∀ d : Nat, (Op.equalIn (d + 1) t (.pointer (some a)) (.pointer none)).run P w = .ok false w := fun d => by simp [Op.equalIn, run_underlying ht]
  have hb : (binOp .eql t (.pointer (some a)) (.pointer none)).run P w = .ok (.bool false) w := by
    have e : binOp .eql t (.pointer (some a)) (.pointer none) = (do pure (.bool ((← Op.equal t (.pointer (some a)) (.pointer none))))) := rfl
    rw [e]
    simp [Op.equal, Op.maxDepth, he 9999]
  simp only [execOp, hρ _ _ hx, hρ _ _ hy, Sem.run_bind, hg, Result.andThen_ok, hb]
  rfl
theorem Does.neq_nil {t e yt : TypeId} {x y : Operand} {a : Addr} (ht : P.underlying t = some (.pointer e)) (hx : ev l x = some (.pointer (some a))) (hy : ev l y = some (.pointer none)) : Does P l (.binOp .neq t x y yt) ty w (.bool true) w := by
  intro ρ hρ d pos af g
  have hg : (eqGuard .neq t x y (.pointer (some a)) (.pointer none)).run P w = .ok () w := rfl
  have he : ∀ d : Nat, (Op.equalIn (d + 1) t (.pointer (some a)) (.pointer none)).run P w = .ok false w := fun d => by simp [Op.equalIn, run_underlying ht]
  have hb : (binOp .neq t (.pointer (some a)) (.pointer none)).run P w = .ok (.bool true) w := by
    have e : binOp .neq t (.pointer (some a)) (.pointer none) = (do pure (.bool (!(← Op.equal t (.pointer (some a)) (.pointer none))))) := rfl
    rw [e]
    simp [Op.equal, Op.maxDepth, he 9999]
  simp only [execOp, hρ _ _ hx, hρ _ _ hy, Sem.run_bind, hg, Result.andThen_ok, hb]
  rfl
theorem Does.eql_nilnil {t e yt : TypeId} {x y : Operand} (ht : P.underlying t = some (.pointer e)) (hx : ev l x = some (.pointer none)) (hy : ev l y = some (.pointer none)) : Does P l (.binOp .eql t x y yt) ty w (.bool true) w := by
  intro ρ hρ d pos af g
  have hg : (eqGuard .eql t x y (.pointer none) (.pointer none)).run P w = .ok () w := rfl
  have he : ∀ d : Nat, (Op.equalIn (d + 1) t (.pointer none) (.pointer none)).run P w = .ok true w := fun d => by simp [Op.equalIn, run_underlying ht]
  have hb : (binOp .eql t (.pointer none) (.pointer none)).run P w = .ok (.bool true) w := by
    have e : binOp .eql t (.pointer none) (.pointer none) = (do pure (.bool ((← Op.equal t (.pointer none) (.pointer none))))) := rfl
    rw [e]
    simp [Op.equal, Op.maxDepth, he 9999]
  simp only [execOp, hρ _ _ hx, hρ _ _ hy, Sem.run_bind, hg, Result.andThen_ok, hb]
  rfl
theorem Does.neq_nilnil {t e yt : TypeId} {x y : Operand} (ht : P.underlying t = some (.pointer e)) (hx : ev l x = some (.pointer none)) (hy : ev l y = some (.pointer none)) : Does P l (.binOp .neq t x y yt) ty w (.bool false) w := by
  intro ρ hρ d pos af g
  have hg : (eqGuard .neq t x y (.pointer none) (.pointer none)).run P w = .ok () w := rfl
  have he : ∀ d : Nat, (Op.equalIn (d + 1) t (.pointer none) (.pointer none)).run P w = .ok true w := fun d => by simp [Op.equalIn, run_underlying ht]
  have hb : (binOp .neq t (.pointer none) (.pointer none)).run P w = .ok (.bool false) w := by
    have e : binOp .neq t (.pointer none) (.pointer none) = (do pure (.bool (!(← Op.equal t (.pointer none) (.pointer none))))) := rfl
    rw [e]
    simp [Op.equal, Op.maxDepth, he 9999]
  simp only [execOp, hρ _ _ hx, hρ _ _ hy, Sem.run_bind, hg, Result.andThen_ok, hb]
  rfl
theorem Does.str_eql {t yt : TypeId} {x y : Operand} {a b : List UInt8} (hx : ev l x = some (str a)) (hy : ev l y = some (str b)) : Does P l (.binOp .eql t x y yt) ty w (.bool (decide (a = b))) w := by
  intro ρ hρ d pos af g
  have hg : (eqGuard .eql t x y (str a) (str b)).run P w = .ok () w := rfl
  have hb : (binOp .eql t (str a) (str b)).run P w = .ok (.bool (decide (a = b))) w := by
    rw [str, str, binOp_string_eql, ByteArray.toList_mk, ByteArray.toList_mk]
    have e : (a == b) = decide (a = b) := by rw [Bool.eq_iff_iff]; simp
    rw [e]; rfl
  simp only [execOp, hρ _ _ hx, hρ _ _ hy, Sem.run_bind, hg, Result.andThen_ok, hb]
  rfl
theorem Does.str_neq {t yt : TypeId} {x y : Operand} {a b : List UInt8} (hx : ev l x = some (str a)) (hy : ev l y = some (str b)) : Does P l (.binOp .neq t x y yt) ty w (.bool (decide (a ≠ b))) w := by
  intro ρ hρ d pos af g
  have hg : (eqGuard .neq t x y (str a) (str b)).run P w = .ok () w := rfl
  have hb : (binOp .neq t (str a) (str b)).run P w = .ok (.bool (decide (a ≠ b))) w := by
    rw [str, str, binOp_string_neq, ByteArray.toList_mk, ByteArray.toList_mk]
    have e : (!(a == b)) = decide (a ≠ b) := by rw [Bool.eq_iff_iff]; simp
    rw [e]; rfl
  simp only [execOp, hρ _ _ hx, hρ _ _ hy, Sem.run_bind, hg, Result.andThen_ok, hb]
  rfl
theorem Does.indexAddr {t e : TypeId} {x y : Operand} {k : IntKind} {i : Int} {b o n c : Nat} {ag : Bool} {s by_ : Nat} {z : Option Value} (ht : P.underlying t = some (.slice e)) (he : tyRow P e = some (ag, s, z, by_)) (hx : ev l x = some (.slice (some ⟨b, o, none⟩) n c)) (hy : ev l y = some (.int k i)) (h0 : 0 ≤ i) (h1 : i < n) :
    Does P l (.indexAddr t x y) ty w (.pointer (some ⟨b, o + i.toNat * s, none⟩)) w := by
  intro ρ hρ d pos af g
  simp only [execOp, Instr.indexAt, hρ _ _ hx, hρ _ _ hy, asIntOf, Sem.run_bind, Sem.run_pure, Result.andThen_ok, run_underlying ht, h0, h1, and_self, if_true, run_sizeOf' he, add_flat]
theorem Does.indexAddr_arr {t e : TypeId} {x y : Operand} {k : IntKind} {i : Int} {b o n : Nat} {ag : Bool} {s by_ : Nat} {z : Option Value} (ht : P.underlying t = some (.array n e)) (he : tyRow P e = some (ag, s, z, by_)) (hx : ev l x = some (.pointer (some ⟨b, o, none⟩))) (hy : ev l y = some (.int k i)) (h0 : 0 ≤ i) (h1 : i < n) :
    Does P l (.indexAddr t x y) ty w (.pointer (some ⟨b, o + i.toNat * s, none⟩)) w := by
  intro ρ hρ d pos af g
  simp only [execOp, Instr.indexAt, hρ _ _ hx, hρ _ _ hy, asIntOf, Instr.sureAddr, Sem.run_bind, Sem.run_pure, Result.andThen_ok, run_underlying ht, h0, h1, and_self, if_true, run_sizeOf' he, add_flat]
theorem run_places (w : World) : ∀ {fs : List Field} {places : List (Nat × Nat)}, fs.map (fun f => (f.offset, (tyRow P f.type).map (·.2.1))) = places.map (fun p => (p.1, some p.2)) → (fs.mapM (fun f => do pure (f.offset, ← sizeOf f.type) : Field → Sem (Nat × Nat))).run P w = .ok places w
  | [], places, h => by
    cases places with
    | nil => rfl
    | cons _ _ => simp at h
  | f :: r, places, h => by
    cases places with
    | nil => simp at h
    | cons p places =>
      simp only [List.map_cons, List.cons.injEq, Prod.mk.injEq, Option.map_eq_some_iff] at h
      obtain ⟨⟨h1, ⟨ag, n, z, by_⟩, h2, h3⟩, h4⟩ := h
      obtain ⟨p1, p2⟩ := p
      simp only at h1 h3
      subst h1; subst h3
      simp only [List.mapM_cons, Sem.run_bind, run_sizeOf' h2, Result.andThen_ok, Sem.run_pure, run_places w h4]
theorem Does.build {t : TypeId} {parts : Array (Nat × Operand)} (pv : List (Nat × Value)) {fs : Array Field} (places : List (Nat × Nat)) {ag : Bool} {n by_ : Nat} {z : Value} (cs : List Value) (ht : P.underlying t = some (.struct fs)) (hz : tyRow P t = some (ag, n, some z, by_))
    (hpl : fs.toList.map (fun f => (f.offset, (tyRow P f.type).map (·.2.1))) = places.map (fun p => (p.1, some p.2))) (hp : parts.toList.map (fun p => (p.1, ev l p.2)) = pv.map (fun p => (p.1, some p.2))) (hc : Instr.fill (places.toArray[·]?) z.cells pv = some cs.toArray) : Does P l (.build t parts) ty w (.agg cs.toArray) w := by
  intro ρ hρ d pos af g
  have hpv : (parts.map fun (i, x) => (i, ρ x)).toList = pv := by
    rw [Array.toList_map]
    clear hc hpl
    generalize parts.toList = L at hp
    induction L generalizing pv with
    | nil => cases pv with
      | nil => rfl
      | cons _ _ => simp at hp
    | cons q r ih => cases pv with
      | nil => simp at hp
      | cons p pv =>
        simp only [List.map_cons, List.cons.injEq, Prod.mk.injEq] at hp
        rw [List.map_cons, ih _ hp.2]
        obtain ⟨p1, p2⟩ := p
        simp only at hp
        simp [hp.1.1, hρ _ _ hp.1.2]
  have hm : (fs.mapM (fun f => do pure (f.offset, ← sizeOf f.type) : Field → Sem (Nat × Nat))).run P w = .ok places.toArray w := by
    obtain ⟨fl⟩ := fs
    have h := run_places (P := P) w hpl
    rw [List.mapM_toArray]
    have e : ∀ F : Field → Sem (Nat × Nat), (List.toArray <$> (fl.mapM F)) = (fl.mapM F >>= fun x => pure x.toArray) := fun _ => rfl
    rw [e, Sem.run_bind, h]
    rfl
  simp only [execOp, Instr.build, Sem.run_bind, run_zero' hz, run_underlying ht, Result.andThen_ok, hm, hpv, hc]
  rfl
end
end Go.Proofs.Ytgfomedobfaidaa
