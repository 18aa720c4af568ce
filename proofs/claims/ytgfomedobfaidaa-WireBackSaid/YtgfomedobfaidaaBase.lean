/-
  A small logic for straight-line code over the model: what the slots hold (a list), labels on the blocks that a call may still write, steps from state to state, a rule for each operation.
-/
import Derived.Calls
import Derived.Orders
import Derived.Below
import Derived.Tactics
import Derived.KernelRfl
import Derived.Laws.Rows
import Derived.Laws.Cells
import Derived.Laws.BitsLemmas
import Derived.Laws.BitsAllLaws
import Derived.Laws.Bits64
import Derived.Deep.LoopGhost
set_option linter.unusedVariables false
set_option linter.unusedSimpArgs false
namespace Go.Proofs.Ytgfomedobfaidaa
open Go.RowKit

/-! ### slots -/
def lk : List (Nat × Value) → Nat → Option Value
  | [], _ => none
  | (d, v) :: l, t => bif Nat.beq d t then some v else lk l t

def ev (l : List (Nat × Value)) : Operand → Option Value
  | .tmp t => lk l t
  | .const v => some v
  | .func f => some (.func (.func f) #[] #[])
  | .global g => some (.pointer (some ⟨g, 0, none⟩))

def evs (l : List (Nat × Value)) : List Operand → Option (List Value)
  | [] => some []
  | x :: r => match ev l x, evs l r with
    | some v, some vs => some (v :: vs)
    | _, _ => none

structure Fr (ds : List Deferred) (N : Nat) (l : List (Nat × Value)) (a : Act) : Prop where
  defers : a.defers = ds
  size : a.tmps.size = N
  at_ : ∀ t v, lk l t = some v → a.tmps[t]? = some v

theorem Fr.eval {ds : List Deferred} {N : Nat} {l : List (Nat × Value)} {a : Act} (h : Fr ds N l a) {x : Operand} {v : Value} (hx : ev l x = some v) : a.eval x = v := by
  cases x with
  | tmp t => simp only [ev] at hx; have := h.at_ _ _ hx; simp [Act.eval, Array.getD_eq_getD_getElem?, this]
  | const u => simp only [ev, Option.some.injEq] at hx; simp [Act.eval, hx]
  | func f => simp only [ev, Option.some.injEq] at hx; simp [Act.eval, hx]
  | global g => simp only [ev, Option.some.injEq] at hx; simp [Act.eval, hx]

theorem Fr.evals {ds : List Deferred} {N : Nat} {l : List (Nat × Value)} {a : Act} (h : Fr ds N l a) : ∀ {xs : List Operand} {vs : List Value}, evs l xs = some vs → xs.map a.eval = vs
  | [], vs, hx => by simp [evs] at hx; simp [← hx]
  | x :: r, vs, hx => by
    simp only [evs] at hx
    split at hx
    · rename_i v vs' h1 h2
      simp only [Option.some.injEq] at hx
      rw [List.map_cons, h.eval h1, h.evals h2, hx]
    · cases hx

theorem Fr.put {ds : List Deferred} {N : Nat} {l : List (Nat × Value)} {a : Act} (h : Fr ds N l a) {d : Nat} (hd : d < N) (v : Value) : Fr ds N ((d, v) :: l) (a.put (some d) v) where
  defers := h.defers
  size := by simp [Act.put, h.size]
  at_ := fun t u hu => by
    simp only [lk] at hu
    cases hb : Nat.beq d t with
    | true =>
      have : d = t := Nat.eq_of_beq_eq_true hb
      subst this
      simp [hb] at hu
      subst hu
      simp [Act.put, h.size, hd]
    | false =>
      have hne : d ≠ t := Nat.ne_of_beq_eq_false hb
      simp [hb] at hu
      simp only [Act.put, Array.getElem?_setIfInBounds_ne hne]
      exact h.at_ _ _ hu

/-- What the slots hold, told by another list. -/
theorem Fr.weaken {ds : List Deferred} {N : Nat} {l l' : List (Nat × Value)} {a : Act} (h : Fr ds N l a) (hl : ∀ t v, lk l' t = some v → lk l t = some v) : Fr ds N l' a := ⟨h.defers, h.size, fun t v ht => h.at_ t v (hl t v ht)⟩

def subs (l : List (Nat × Value)) : List (Nat × Value) → Prop
  | [] => True
  | (t, v) :: r => lk l t = some v ∧ subs l r
theorem subs_lk {l : List (Nat × Value)} : ∀ {l' : List (Nat × Value)}, subs l l' → ∀ t v, lk l' t = some v → lk l t = some v
  | [], _, t, v, h => by simp [lk] at h
  | (d, u) :: r, hs, t, v, h => by
    simp only [lk] at h
    cases hb : Nat.beq d t with
    | true =>
      have : d = t := Nat.eq_of_beq_eq_true hb
      subst this
      simp [hb] at h
      subst h
      exact hs.1
    | false => simp [hb] at h; exact subs_lk hs.2 t v h

/-! ### code over slots -/
section
variable {ds : List Deferred} {P : Program} {N : Nat}

def Seq (ds : List Deferred) (P : Program) (N : Nat) (ops : Array Oper) (Q : Exit → Act → World → Prop) (l : List (Nat × Value)) (rest : List Oper) (w : World) : Prop := ∀ a, Fr ds N l a → wpList P ops Q rest a w
def Run (ds : List Deferred) (P : Program) (N : Nat) (Q : Exit → Act → World → Prop) (c : Code) (l : List (Nat × Value)) (w : World) : Prop := ∀ a, Fr ds N l a → c.wp P Q a w

variable {Q : Exit → Act → World → Prop} {ops : Array Oper} {l : List (Nat × Value)} {rest : List Oper} {w : World} {o : Oper}

theorem Run.seq {x y : Code} (h : Run ds P N (Exit.then (y.wp P Q) Q) x l w) : Run ds P N Q (.seq x y) l w := fun a ha => wp_seq (h a ha)
theorem Run.block {id : Nat} {c : Code} (h : Run ds P N (Exit.inBlock id Q) c l w) : Run ds P N Q (.block id c) l w := fun a ha => wp_block (h a ha)
theorem Run.skip (h : ∀ a, Fr ds N l a → Q .normal a w) : Run ds P N Q .skip l w := fun a ha => wp_skip (h a ha)
theorem Run.ret (h : ∀ a, Fr ds N l a → Q .ret a w) : Run ds P N Q .ret l w := fun a ha => wp_ret (h a ha)
theorem Run.exit {id : Nat} (h : ∀ a, Fr ds N l a → Q (.exit id) a w) : Run ds P N Q (.exit id) l w := fun a ha => wp_exit (h a ha)
theorem Run.cond_true {c : Operand} {x y : Code} (hc : ev l c = some (.bool true)) (h : Run ds P N Q x l w) : Run ds P N Q (.cond c x y) l w := fun a ha => wp_cond_true (ha.eval hc) (h a ha)
theorem Run.cond_false {c : Operand} {x y : Code} (hc : ev l c = some (.bool false)) (h : Run ds P N Q y l w) : Run ds P N Q (.cond c x y) l w := fun a ha => wp_cond_false (ha.eval hc) (h a ha)
theorem Run.region {id : Nat} {os : List Oper} (h : Seq ds P N os.toArray Q l os w) : Run ds P N Q (.region id os.toArray false) l w := fun a ha => wp_region_lit (h a ha)
theorem Run.weaken {c : Code} {l' : List (Nat × Value)} (hl : subs l l') (h : Run ds P N Q c l' w) : Run ds P N Q c l w := fun a ha => h a (ha.weaken (subs_lk hl))
theorem Run.post {c : Code} {Q' : Exit → Act → World → Prop} (hq : ∀ e a w, Q' e a w → Q e a w) (h : Run ds P N Q' c l w) : Run ds P N Q c l w := fun a ha => wp_mono (h a ha) hq

theorem Seq.nil (h : ∀ a, Fr ds N l a → Q .normal a w) : Seq ds P N ops Q l [] w := fun a ha => wpList_nil (h a ha)
theorem Seq.next {y : Code} (h : Run ds P N Q y l w) : Seq ds P N ops (Exit.then (y.wp P Q) Q) l [] w := fun a ha => wpList_nil (h a ha)
theorem Seq.weaken {l' : List (Nat × Value)} (hl : subs l l') (h : Seq ds P N ops Q l' rest w) : Seq ds P N ops Q l rest w := fun a ha => h a (ha.weaken (subs_lk hl))

/-- A loop: 'I m l w': the slots hold l in world w, and m bounds the rounds still to come. -/
theorem Run.loop {c : Code} (I : Nat → List (Nat × Value) → World → Prop) (m : Nat) {l0 : List (Nat × Value)} (hl : subs l l0) (h0 : I m l0 w)
    (round : ∀ m l w, I m l w → Run ds P N (Exit.then (fun a w' => ∃ m', m' < m ∧ ∃ l', Fr ds N l' a ∧ I m' l' w') Q) c l w) : Run ds P N Q (.loop c) l w := by
  intro a ha
  refine wp_loop_ghost (fun m a w => ∃ l, Fr ds N l a ∧ I m l w) m ⟨l0, ha.weaken (subs_lk hl), h0⟩ ?_
  intro n a w ⟨l, hf, hi⟩
  exact round n l w hi a hf

/-! ### guards -/
theorem Seq.guard_on {d : Option Nat} {op : Op} {ty : TypeId} {pos : String} {af : Array Edge} {g : Nat} {b : Bool} {dg : Nat} (hg : (ops[g]?).bind (·.dst) = some dg) (hb : lk l dg = some (.bool b))
    (h : Seq ds P N ops Q l (⟨d, op, ty, pos, af, none⟩ :: rest) w) : Seq ds P N ops Q l (⟨d, op, ty, pos, af, some (g, b)⟩ :: rest) w := by
  intro a ha
  have h0 := h a ha
  have hy : yielded ops a.tmps g = some b := by simp only [yielded, hg]; have := ha.at_ _ _ hb; simp [this]
  unfold wpList at h0 ⊢
  rw [if_pos (by simp [Region.wanted])] at h0
  rw [if_pos (by simp [Region.wanted, hy])]
  exact h0
theorem Seq.guard_off {d : Nat} {op : Op} {ty : TypeId} {pos : String} {af : Array Edge} {g : Nat} {b c : Bool} {dg : Nat} (hg : (ops[g]?).bind (·.dst) = some dg) (hb : lk l dg = some (.bool b)) (hne : (b == c) = false) (hd : d < N)
    (h : Seq ds P N ops Q ((d, undef) :: l) rest w) : Seq ds P N ops Q l (⟨some d, op, ty, pos, af, some (g, c)⟩ :: rest) w := by
  intro a ha
  have hy : yielded ops a.tmps g = some b := by simp only [yielded, hg]; have := ha.at_ _ _ hb; simp [this]
  unfold wpList
  rw [if_neg (by simp [Region.wanted, hy]; intro e; subst e; simp at hne)]
  exact h _ (ha.put hd undef)
theorem Seq.guard_skip {op : Op} {ty : TypeId} {pos : String} {af : Array Edge} {g : Nat} {b c : Bool} {dg : Nat} (hg : (ops[g]?).bind (·.dst) = some dg) (hb : lk l dg = some (.bool b)) (hne : (b == c) = false)
    (h : Seq ds P N ops Q l rest w) : Seq ds P N ops Q l (⟨none, op, ty, pos, af, some (g, c)⟩ :: rest) w := by
  intro a ha
  have hy : yielded ops a.tmps g = some b := by simp only [yielded, hg]; have := ha.at_ _ _ hb; simp [this]
  unfold wpList
  rw [if_neg (by simp [Region.wanted, hy]; intro e; subst e; simp at hne)]
  exact h _ ha

/-! ### what an operation does -/
/-- The operation yields v and leaves world w'. -/
def Does (P : Program) (l : List (Nat × Value)) (op : Op) (ty : TypeId) (w : World) (v : Value) (w' : World) : Prop :=
  ∀ (ρ : Operand → Value), (∀ x u, ev l x = some u → ρ x = u) → ∀ d pos af g, (execOp ρ ⟨d, op, ty, pos, af, g⟩).run P w = .ok (.value v) w'
def DoesU (P : Program) (l : List (Nat × Value)) (op : Op) (ty : TypeId) (w w' : World) : Prop :=
  ∀ (ρ : Operand → Value), (∀ x u, ev l x = some u → ρ x = u) → ∀ d pos af g, (execOp ρ ⟨d, op, ty, pos, af, g⟩).run P w = .ok .skip w'

theorem Seq.val {d : Nat} {op : Op} {ty : TypeId} {pos : String} {af : Array Edge} {v : Value} {w' : World} (hr : Does P l op ty w v w') (hd : d < N)
    (h : Seq ds P N ops Q ((d, v) :: l) rest w') : Seq ds P N ops Q l (⟨some d, op, ty, pos, af, none⟩ :: rest) w := by
  intro a ha
  unfold wpList
  rw [if_pos (by simp [Region.wanted])]
  refine .inl ?_
  unfold Oper.wp
  rw [hr a.eval (fun x u hu => ha.eval hu)]
  exact h _ (ha.put hd v)
theorem Seq.val_ {op : Op} {ty : TypeId} {pos : String} {af : Array Edge} {v : Value} {w' : World} (hr : Does P l op ty w v w')
    (h : Seq ds P N ops Q l rest w') : Seq ds P N ops Q l (⟨none, op, ty, pos, af, none⟩ :: rest) w := by
  intro a ha
  unfold wpList
  rw [if_pos (by simp [Region.wanted])]
  refine .inl ?_
  unfold Oper.wp
  rw [hr a.eval (fun x u hu => ha.eval hu)]
  exact h _ ha
theorem Seq.unit {op : Op} {ty : TypeId} {pos : String} {af : Array Edge} {w' : World} (hr : DoesU P l op ty w w')
    (h : Seq ds P N ops Q l rest w') : Seq ds P N ops Q l (⟨none, op, ty, pos, af, none⟩ :: rest) w := by
  intro a ha
  unfold wpList
  rw [if_pos (by simp [Region.wanted])]
  refine .inl ?_
  unfold Oper.wp
  rw [hr a.eval (fun x u hu => ha.eval hu)]
  exact h _ ha

/-- A named Go function that can be called. -/
def Callable (P : Program) (f : Nat) : Prop := ∃ fn, P.funcs[f]? = some fn ∧ (fn.name == "runtime.NumGoroutine") = false ∧ fn.body.isNone = false
theorem run_callFunc {f : Nat} (hf : Callable P f) (vs : Array Value) (w : World) : (callFunc f vs).run P w = .ok (.enter f vs) w := by
  obtain ⟨fn, h1, h2, h3⟩ := hf
  simp only [callFunc, program, Sem.run_bind, Sem.run, Result.andThen_ok, h1, h2, h3, if_false, Bool.false_eq_true]
  rfl
theorem run_call {l : List (Nat × Value)} {f : Nat} {xs : List Operand} {tys : Array TypeId} {vs : List Value} {ty : TypeId} (hf : Callable P f) (hx : evs l xs = some vs) (w : World)
    (ρ : Operand → Value) (hρ : ∀ x u, ev l x = some u → ρ x = u) (d : Option Nat) (pos : String) (af : Array Edge) (g : Option (Nat × Bool)) :
    (execOp ρ ⟨d, .call ⟨.value (.func f), xs.toArray, tys⟩, ty, pos, af, g⟩).run P w = .ok (.enter f vs.toArray) w := by
  have hxs : xs.map ρ = vs := by
    clear hf
    induction xs generalizing vs with
    | nil => simp [evs] at hx; simp [← hx]
    | cons x r ih =>
      simp only [evs] at hx
      split at hx
      · rename_i v vs' h1 h2
        simp only [Option.some.injEq] at hx
        rw [List.map_cons, hρ _ _ h1, ih h2, hx]
      · cases hx
  have hfun : ρ (.func f) = .func (.func f) #[] #[] := hρ _ _ rfl
  simp only [execOp, resolve, hfun, Deferred.ofValue, Sem.run_bind, Sem.run_pure, Result.andThen_ok, invoke, List.map_toArray, hxs]
  simpa using run_callFunc hf vs.toArray w
theorem Seq.call {d : Nat} {f : Nat} {xs : List Operand} {tys : Array TypeId} {ty : TypeId} {pos : String} {af : Array Edge} {vs : List Value} {R : Value → World → Prop} (hf : Callable P f) (hx : evs l xs = some vs) (hd : d < N)
    (hc : Calls P f vs.toArray w (fun e w' => ∃ v, e = .returned v ∧ R v w'))
    (h : ∀ v w', R v w' → Seq ds P N ops Q ((d, v) :: l) rest w') : Seq ds P N ops Q l (⟨some d, .call ⟨.value (.func f), xs.toArray, tys⟩, ty, pos, af, none⟩ :: rest) w := by
  intro a ha
  unfold wpList
  rw [if_pos (by simp [Region.wanted])]
  refine .inl ?_
  unfold Oper.wp
  rw [run_call hf hx w a.eval (fun x u hu => ha.eval hu)]
  refine Calls.mono hc ?_
  rintro e w' ⟨v, rfl, hR⟩
  exact h v w' hR _ (ha.put hd v)
theorem Seq.call_ {f : Nat} {xs : List Operand} {tys : Array TypeId} {ty : TypeId} {pos : String} {af : Array Edge} {vs : List Value} {R : Value → World → Prop} (hf : Callable P f) (hx : evs l xs = some vs)
    (hc : Calls P f vs.toArray w (fun e w' => ∃ v, e = .returned v ∧ R v w'))
    (h : ∀ v w', R v w' → Seq ds P N ops Q l rest w') : Seq ds P N ops Q l (⟨none, .call ⟨.value (.func f), xs.toArray, tys⟩, ty, pos, af, none⟩ :: rest) w := by
  intro a ha
  unfold wpList
  rw [if_pos (by simp [Region.wanted])]
  refine .inl ?_
  unfold Oper.wp
  rw [run_call hf hx w a.eval (fun x u hu => ha.eval hu)]
  refine Calls.mono hc ?_
  rintro e w' ⟨v, rfl, hR⟩
  exact h v w' hR _ ha
end

end Go.Proofs.Ytgfomedobfaidaa
