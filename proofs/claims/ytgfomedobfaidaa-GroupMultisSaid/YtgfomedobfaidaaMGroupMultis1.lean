/-
  The row of GroupMultis: that the law answers true of every input; part 1 of 9: what the proof needs, in order.
-/
import Derived.Below
import Derived.Calls
import Derived.Deep.LoopGhost
import Derived.KernelRfl
import Derived.Laws.Bits64
import Derived.Laws.BitsAllLaws
import Derived.Laws.BitsLemmas
import Derived.Laws.BytesString
import Derived.Laws.Cells
import Derived.Laws.CopyRow
import Derived.Laws.Rows
import Derived.Laws.Strings
import Derived.Maps.AppendAt
import Derived.Orders
import Derived.Tactics
section
set_option linter.unusedVariables false
set_option linter.unusedSimpArgs false
namespace Go.Proofs.Ytgfomedobfaidaa
open Go.RowKit
def lk : List (Nat × Value) → Nat → Option Value
 | [], _ => none
 | (d, v) :: l, t => bif Nat.beq d t then some v else lk l t
def ev (l : List (Nat × Value)) : Operand → Option Value
 | .tmp t => lk l t
 | .const v => some v
 | .func f => some (.func (.func f) #[] #[])
 | .global g => some (.pointer (some ⟨g, 0, none⟩))
def evs (l : List (Nat × Value)) : List Operand → Option (List Value)
 | [] => some []
 | x :: r => match ev l x, evs l r with
  | some v, some vs => some (v :: vs)
  | _, _ => none
structure Fr (ds : List Deferred) (N : Nat) (l : List (Nat × Value)) (a : Act) : Prop where
 defers : a.defers = ds
 size : a.tmps.size = N
 at_ : ∀ t v, lk l t = some v → a.tmps[t]? = some v
theorem Fr.eval {ds : List Deferred} {N : Nat} {l : List (Nat × Value)} {a : Act} (h : Fr ds N l a) {x : Operand} {v : Value} (hx : ev l x = some v) : a.eval x = v := by
 cases x with
 | tmp t => simp only [ev] at hx; have := h.at_ _ _ hx; simp [Act.eval, Array.getD_eq_getD_getElem?, this]
 | const u => simp only [ev, Option.some.injEq] at hx; simp [Act.eval, hx]
 | func f => simp only [ev, Option.some.injEq] at hx; simp [Act.eval, hx]
 | global g => simp only [ev, Option.some.injEq] at hx; simp [Act.eval, hx]
theorem Fr.put {ds : List Deferred} {N : Nat} {l : List (Nat × Value)} {a : Act} (h : Fr ds N l a) {d : Nat} (hd : d < N) (v : Value) : Fr ds N ((d, v) :: l) (a.put (some d) v) where
 defers := h.defers
 size := by simp [Act.put, h.size]
 at_ := fun t u hu => by
  simp only [lk] at hu
  cases hb : Nat.beq d t with
  | true =>
   have : d = t := Nat.eq_of_beq_eq_true hb
   subst this
   simp [hb] at hu
   subst hu
   simp [Act.put, h.size, hd]
  | false =>
   have hne : d ≠ t := Nat.ne_of_beq_eq_false hb
   simp [hb] at hu
   simp only [Act.put, Array.getElem?_setIfInBounds_ne hne]
   exact h.at_ _ _ hu
theorem Fr.weaken {ds : List Deferred} {N : Nat} {l l' : List (Nat × Value)} {a : Act} (h : Fr ds N l a) (hl : ∀ t v, lk l' t = some v → lk l t = some v) : Fr ds N l' a := ⟨h.defers, h.size, fun t v ht => h.at_ t v (hl t v ht)⟩
def subs (l : List (Nat × Value)) : List (Nat × Value) → Prop
 | [] => True
 | (t, v) :: r => lk l t = some v ∧ subs l r
theorem subs_lk {l : List (Nat × Value)} : ∀ {l' : List (Nat × Value)}, subs l l' → ∀ t v, lk l' t = some v → lk l t = some v
 | [], _, t, v, h => by simp [lk] at h
 | (d, u) :: r, hs, t, v, h => by
  simp only [lk] at h
  cases hb : Nat.beq d t with
  | true =>
   have : d = t := Nat.eq_of_beq_eq_true hb
   subst this
   simp [hb] at h
   subst h
   exact hs.1
  | false => simp [hb] at h; exact subs_lk hs.2 t v h
section
variable {ds : List Deferred} {P : Program} {N : Nat}
def Seq (ds : List Deferred) (P : Program) (N : Nat) (ops : Array Oper) (Q : Exit → Act → World → Prop) (l : List (Nat × Value)) (rest : List Oper) (w : World) : Prop := ∀ a, Fr ds N l a → wpList P ops Q rest a w
def Run (ds : List Deferred) (P : Program) (N : Nat) (Q : Exit → Act → World → Prop) (c : Code) (l : List (Nat × Value)) (w : World) : Prop := ∀ a, Fr ds N l a → c.wp P Q a w
variable {Q : Exit → Act → World → Prop} {ops : Array Oper} {l : List (Nat × Value)} {rest : List Oper} {w : World} {o : Oper}
theorem Run.seq {x y : Code} (h : Run ds P N (Exit.then (y.wp P Q) Q) x l w) : Run ds P N Q (.seq x y) l w := fun a ha => wp_seq (h a ha)
theorem Run.block {id : Nat} {c : Code} (h : Run ds P N (Exit.inBlock id Q) c l w) : Run ds P N Q (.block id c) l w := fun a ha => wp_block (h a ha)
theorem Run.skip (h : ∀ a, Fr ds N l a → Q .normal a w) : Run ds P N Q .skip l w := fun a ha => wp_skip (h a ha)
theorem Run.ret (h : ∀ a, Fr ds N l a → Q .ret a w) : Run ds P N Q .ret l w := fun a ha => wp_ret (h a ha)
theorem Run.exit {id : Nat} (h : ∀ a, Fr ds N l a → Q (.exit id) a w) : Run ds P N Q (.exit id) l w := fun a ha => wp_exit (h a ha)
theorem Run.cond_true {c : Operand} {x y : Code} (hc : ev l c = some (.bool true)) (h : Run ds P N Q x l w) : Run ds P N Q (.cond c x y) l w := fun a ha => wp_cond_true (ha.eval hc) (h a ha)
theorem Run.cond_false {c : Operand} {x y : Code} (hc : ev l c = some (.bool false)) (h : Run ds P N Q y l w) : Run ds P N Q (.cond c x y) l w := fun a ha => wp_cond_false (ha.eval hc) (h a ha)
theorem Run.region {id : Nat} {os : List Oper} (h : Seq ds P N os.toArray Q l os w) : Run ds P N Q (.region id os.toArray false) l w := fun a ha => wp_region_lit (h a ha)
theorem Run.weaken {c : Code} {l' : List (Nat × Value)} (hl : subs l l') (h : Run ds P N Q c l' w) : Run ds P N Q c l w := fun a ha => h a (ha.weaken (subs_lk hl))
theorem Run.post {c : Code} {Q' : Exit → Act → World → Prop} (hq : ∀ e a w, Q' e a w → Q e a w) (h : Run ds P N Q' c l w) : Run ds P N Q c l w := fun a ha => wp_mono (h a ha) hq
theorem Seq.nil (h : ∀ a, Fr ds N l a → Q .normal a w) : Seq ds P N ops Q l [] w := fun a ha => wpList_nil (h a ha)
theorem Seq.next {y : Code} (h : Run ds P N Q y l w) : Seq ds P N ops (Exit.then (y.wp P Q) Q) l [] w := fun a ha => wpList_nil (h a ha)
theorem Seq.weaken {l' : List (Nat × Value)} (hl : subs l l') (h : Seq ds P N ops Q l' rest w) : Seq ds P N ops Q l rest w := fun a ha => h a (ha.weaken (subs_lk hl))
theorem Run.loop {c : Code} (I : Nat → List (Nat × Value) → World → Prop) (m : Nat) {l0 : List (Nat × Value)} (hl : subs l l0) (h0 : I m l0 w)
  (round : ∀ m l w, I m l w → Run ds P N (Exit.then (fun a w' => ∃ m', m' < m ∧ ∃ l', Fr ds N l' a ∧ I m' l' w') Q) c l w) : Run ds P N Q (.loop c) l w := by
 intro a ha
 refine wp_loop_ghost (fun m a w => ∃ l, Fr ds N l a ∧ I m l w) m ⟨l0, ha.weaken (subs_lk hl), h0⟩ ?_
 intro n a w ⟨l, hf, hi⟩
 exact round n l w hi a hf
theorem Seq.guard_on {d : Option Nat} {op : Op} {ty : TypeId} {pos : String} {af : Array Edge} {g : Nat} {b : Bool} {dg : Nat} (hg : (ops[g]?).bind (·.dst) = some dg) (hb : lk l dg = some (.bool b))
  (h : Seq ds P N ops Q l (⟨d, op, ty, pos, af, none⟩ :: rest) w) : Seq ds P N ops Q l (⟨d, op, ty, pos, af, some (g, b)⟩ :: rest) w := by
 intro a ha
 have h0 := h a ha
 have hy : yielded ops a.tmps g = some b := by simp only [yielded, hg]; have := ha.at_ _ _ hb; simp [this]
 unfold wpList at h0 ⊢
 rw [if_pos (by simp [Region.wanted])] at h0
 rw [if_pos (by simp [Region.wanted, hy])]
 exact h0
theorem Seq.guard_off {d : Nat} {op : Op} {ty : TypeId} {pos : String} {af : Array Edge} {g : Nat} {b c : Bool} {dg : Nat} (hg : (ops[g]?).bind (·.dst) = some dg) (hb : lk l dg = some (.bool b)) (hne : (b == c) = false) (hd : d < N)
  (h : Seq ds P N ops Q ((d, undef) :: l) rest w) : Seq ds P N ops Q l (⟨some d, op, ty, pos, af, some (g, c)⟩ :: rest) w := by
 intro a ha
 have hy : yielded ops a.tmps g = some b := by simp only [yielded, hg]; have := ha.at_ _ _ hb; simp [this]
 unfold wpList
 rw [if_neg (by simp [Region.wanted, hy]; intro e; subst e; simp at hne)]
 exact h _ (ha.put hd undef)
def Does (P : Program) (l : List (Nat × Value)) (op : Op) (ty : TypeId) (w : World) (v : Value) (w' : World) : Prop :=
 ∀ (ρ : Operand → Value), (∀ x u, ev l x = some u → ρ x = u) → ∀ d pos af g, (execOp ρ ⟨d, op, ty, pos, af, g⟩).run P w = .ok (.value v) w'
def DoesU (P : Program) (l : List (Nat × Value)) (op : Op) (ty : TypeId) (w w' : World) : Prop :=
 ∀ (ρ : Operand → Value), (∀ x u, ev l x = some u → ρ x = u) → ∀ d pos af g, (execOp ρ ⟨d, op, ty, pos, af, g⟩).run P w = .ok .skip w'
theorem Seq.val {d : Nat} {op : Op} {ty : TypeId} {pos : String} {af : Array Edge} {v : Value} {w' : World} (hr : Does P l op ty w v w') (hd : d < N)
  (h : Seq ds P N ops Q ((d, v) :: l) rest w') : Seq ds P N ops Q l (⟨some d, op, ty, pos, af, none⟩ :: rest) w := by
 intro a ha
 unfold wpList
 rw [if_pos (by simp [Region.wanted])]
 refine .inl ?_
 unfold Oper.wp
 rw [hr a.eval (fun x u hu => ha.eval hu)]
 exact h _ (ha.put hd v)
theorem Seq.unit {op : Op} {ty : TypeId} {pos : String} {af : Array Edge} {w' : World} (hr : DoesU P l op ty w w')
  (h : Seq ds P N ops Q l rest w') : Seq ds P N ops Q l (⟨none, op, ty, pos, af, none⟩ :: rest) w := by
 intro a ha
 unfold wpList
 rw [if_pos (by simp [Region.wanted])]
 refine .inl ?_
 unfold Oper.wp
 rw [hr a.eval (fun x u hu => ha.eval hu)]
 exact h _ ha
def Callable (P : Program) (f : Nat) : Prop := ∃ fn, P.funcs[f]? = some fn ∧ (fn.name == "runtime.NumGoroutine") = false ∧ fn.body.isNone = false
theorem run_callFunc {f : Nat} (hf : Callable P f) (vs : Array Value) (w : World) : (callFunc f vs).run P w = .ok (.enter f vs) w := by
 obtain ⟨fn, h1, h2, h3⟩ := hf
 simp only [callFunc, program, Sem.run_bind, Sem.run, Result.andThen_ok, h1, h2, h3, if_false, Bool.false_eq_true]
 rfl
theorem run_call {l : List (Nat × Value)} {f : Nat} {xs : List Operand} {tys : Array TypeId} {vs : List Value} {ty : TypeId} (hf : Callable P f) (hx : evs l xs = some vs) (w : World)
  (ρ : Operand → Value) (hρ : ∀ x u, ev l x = some u → ρ x = u) (d : Option Nat) (pos : String) (af : Array Edge) (g : Option (Nat × Bool)) :
  (execOp ρ ⟨d, .call ⟨.value (.func f), xs.toArray, tys⟩, ty, pos, af, g⟩).run P w = .ok (.enter f vs.toArray) w := by
 have hxs : xs.map ρ = vs := by
  clear hf
  induction xs generalizing vs with
  | nil => simp [evs] at hx; simp [← hx]
  | cons x r ih =>
   simp only [evs] at hx
   split at hx
   ·rename_i v vs' h1 h2
    simp only [Option.some.injEq] at hx
    rw [List.map_cons, hρ _ _ h1, ih h2, hx]
   ·cases hx
 have hfun : ρ (.func f) = .func (.func f) #[] #[] := hρ _ _ rfl
 simp only [execOp, resolve, hfun, Deferred.ofValue, Sem.run_bind, Sem.run_pure, Result.andThen_ok, invoke, List.map_toArray, hxs]
 simpa using run_callFunc hf vs.toArray w
theorem Seq.call {d : Nat} {f : Nat} {xs : List Operand} {tys : Array TypeId} {ty : TypeId} {pos : String} {af : Array Edge} {vs : List Value} {R : Value → World → Prop} (hf : Callable P f) (hx : evs l xs = some vs) (hd : d < N)
  (hc : Calls P f vs.toArray w (fun e w' => ∃ v, e = .returned v ∧ R v w'))
  (h : ∀ v w', R v w' → Seq ds P N ops Q ((d, v) :: l) rest w') : Seq ds P N ops Q l (⟨some d, .call ⟨.value (.func f), xs.toArray, tys⟩, ty, pos, af, none⟩ :: rest) w := by
 intro a ha
 unfold wpList
 rw [if_pos (by simp [Region.wanted])]
 refine .inl ?_
 unfold Oper.wp
 rw [run_call hf hx w a.eval (fun x u hu => ha.eval hu)]
 refine Calls.mono hc ?_
 rintro e w' ⟨v, rfl, hR⟩
 exact h v w' hR _ (ha.put hd v)
end
end Go.Proofs.Ytgfomedobfaidaa
end
section
set_option linter.unusedVariables false
set_option linter.unusedSimpArgs false
namespace Go.Proofs.Ytgfomedobfaidaa
open Go.RowKit
@[reducible] def u8 (x : UInt8) : Value := .int .u8 (x.toNat : Int)
@[reducible] def u32 (x : UInt32) : Value := .int .u32 (x.toNat : Int)
@[reducible] def u64 (x : UInt64) : Value := .int .u64 (x.toNat : Int)
@[reducible] def i64 (n : Int) : Value := .int .i64 n
def aggB : TypeDesc → Bool
 | .struct _ | .array _ _ => true
 | _ => false
def tyRow (P : Program) (t : TypeId) : Option (Bool × Nat × Option Value × Nat) :=
 match P.underlying t, P.info? t with
 | some d, some i => some (aggB d, i.size, i.zero, i.bytes)
 | _, _ => none
section
variable {P : Program} {N : Nat} {l : List (Nat × Value)} {w : World} {ty : TypeId}
theorem tyRow_info {t : TypeId} {ag : Bool} {n by_ : Nat} {z : Option Value} (h : tyRow P t = some (ag, n, z, by_)) :
  ∃ i d, P.info? t = some i ∧ P.underlying t = some d ∧ aggB d = ag ∧ i.size = n ∧ i.zero = z ∧ i.bytes = by_ := by
 unfold tyRow at h
 cases hd : P.underlying t with
 | none => simp [hd] at h
 | some d =>
  cases hi : P.info? t with
  | none => simp [hd, hi] at h
  | some i => simp [hd, hi] at h; exact ⟨i, d, rfl, rfl, h.1, h.2.1, h.2.2.1, h.2.2.2⟩
theorem run_isAgg' {t : TypeId} {ag : Bool} {n by_ : Nat} {z : Option Value} (h : tyRow P t = some (ag, n, z, by_)) : (isAgg t).run P w = .ok ag w := by
 obtain ⟨i, d, h1, h2, h3, _⟩ := tyRow_info h
 subst h3
 simp only [isAgg, Sem.run_bind, run_underlying h2, Result.andThen_ok]
 cases d <;> rfl
theorem run_sizeOf' {t : TypeId} {ag : Bool} {n by_ : Nat} {z : Option Value} (h : tyRow P t = some (ag, n, z, by_)) : (sizeOf t).run P w = .ok n w := by
 obtain ⟨i, d, h1, h2, h3, h4, _⟩ := tyRow_info h
 subst h4
 simp [sizeOf, typeInfo, h1]
theorem run_typeInfo' {t : TypeId} {ag : Bool} {n by_ : Nat} {z : Option Value} (h : tyRow P t = some (ag, n, z, by_)) : ∃ i, (typeInfo t).run P w = .ok i w ∧ i.bytes = by_ ∧ i.size = n := by
 obtain ⟨i, d, h1, h2, h3, h4, h5, h6⟩ := tyRow_info h
 exact ⟨i, by simp [typeInfo, h1], h6, h4⟩
theorem run_zero' {t : TypeId} {ag : Bool} {n by_ : Nat} {z : Value} (h : tyRow P t = some (ag, n, some z, by_)) : (zeroValue t).run P w = .ok z w := by
 obtain ⟨i, d, h1, h2, h3, h4, h5, _⟩ := tyRow_info h
 simp [zeroValue, typeInfo, h1, h5]
theorem Does.move {x : Operand} {v : Value} (hx : ev l x = some v) : Does P l (.move x) ty w v w := by
 intro ρ hρ d pos af g
 simp [execOp, hρ _ _ hx]
theorem Does.assign {x : Operand} {v : Value} (hx : ev l x = some v) : Does P l (.assign x) ty w v w := by
 intro ρ hρ d pos af g
 simp [execOp, hρ _ _ hx]
theorem Does.pick_t {c x y : Operand} {v : Value} (hc : ev l c = some (.bool true)) (hx : ev l x = some v) : Does P l (.pick c x y) ty w v w := by
 intro ρ hρ d pos af g
 simp [execOp, hρ _ _ hx, hρ _ _ hc, asBool]
theorem Does.pick_f {c x y : Operand} {v : Value} (hc : ev l c = some (.bool false)) (hy : ev l y = some v) : Does P l (.pick c x y) ty w v w := by
 intro ρ hρ d pos af g
 simp [execOp, hρ _ _ hy, hρ _ _ hc, asBool]
theorem Does.extract {x : Operand} {vs : Array Value} {i : Nat} {v : Value} (hx : ev l x = some (.tuple vs)) (hi : vs[i]? = some v) : Does P l (.extract x i) ty w v w := by
 intro ρ hρ d pos af g
 simp [execOp, hρ _ _ hx, Instr.extract, hi]
theorem Does.nilCheck {x : Operand} {a : Addr} (hx : ev l x = some (.pointer (some a))) : Does P l (.nilCheck x) ty w (.pointer (some a)) w := by
 intro ρ hρ d pos af g
 simp [execOp, hρ _ _ hx]
theorem run_binOp_int {op : BinOp} {t : TypeId} {x y : Operand} {yt : TypeId} {k : IntKind} {a b : Int} {v : Value} (hx : ev l x = some (.int k a)) (hy : ev l y = some (.int k b))
  (h : (binOp op t (.int k a) (.int k b)).run P w = .ok v w) : Does P l (.binOp op t x y yt) ty w v w := by
 intro ρ hρ d pos af g
 have hg : (eqGuard op t x y (.int k a) (.int k b)).run P w = .ok () w := by
  cases op <;> rfl
 simp only [execOp, hρ _ _ hx, hρ _ _ hy, Sem.run_bind, hg, Result.andThen_ok, h]
 rfl
theorem i64_wrap_in {n : Int} (h1 : -9223372036854775808 ≤ n) (h2 : n < 9223372036854775808) : IntKind.i64.wrap n = n := by
 rw [IntKind.wrap_i64]; omega
theorem Does.add {t yt : TypeId} {x y : Operand} {a b : Int} (hx : ev l x = some (i64 a)) (hy : ev l y = some (i64 b)) (hr : -9223372036854775808 ≤ a + b ∧ a + b < 9223372036854775808) : Does P l (.binOp .add t x y yt) ty w (i64 (a + b)) w :=
 run_binOp_int hx hy (by simp only [binOp, Op.intArith, ne_eq, not_true, if_false]; rw [i64_wrap_in hr.1 hr.2]; rfl)
theorem Does.sub {t yt : TypeId} {x y : Operand} {a b : Int} (hx : ev l x = some (i64 a)) (hy : ev l y = some (i64 b)) (hr : -9223372036854775808 ≤ a - b ∧ a - b < 9223372036854775808) : Does P l (.binOp .sub t x y yt) ty w (i64 (a - b)) w :=
 run_binOp_int hx hy (by simp only [binOp, Op.intArith, ne_eq, not_true, if_false]; rw [i64_wrap_in hr.1 hr.2]; rfl)
theorem Does.mul {t yt : TypeId} {x y : Operand} {a b : Int} (hx : ev l x = some (i64 a)) (hy : ev l y = some (i64 b)) (hr : -9223372036854775808 ≤ a * b ∧ a * b < 9223372036854775808) : Does P l (.binOp .mul t x y yt) ty w (i64 (a * b)) w :=
 run_binOp_int hx hy (by simp only [binOp, Op.intArith, ne_eq, not_true, if_false]; rw [i64_wrap_in hr.1 hr.2]; rfl)
theorem Does.quo {t yt : TypeId} {x y : Operand} {a b : Int} (hx : ev l x = some (i64 a)) (hy : ev l y = some (i64 b)) (h0 : 0 ≤ a) (hb : 0 < b) (hr : a < 9223372036854775808) : Does P l (.binOp .quo t x y yt) ty w (i64 (a / b)) w :=
 run_binOp_int hx hy (by
  have h1 : 0 ≤ a / b := Int.ediv_nonneg h0 (by omega)
  have h2 : a / b ≤ a := Int.ediv_le_self _ h0
  simp only [binOp, Op.intDiv, ne_eq, not_true, if_false]; rw [if_neg (by omega), Int.tdiv_eq_ediv_of_nonneg h0, i64_wrap_in (by omega) (by omega)]; rfl)
theorem Does.rem {t yt : TypeId} {x y : Operand} {a b : Int} (hx : ev l x = some (i64 a)) (hy : ev l y = some (i64 b)) (h0 : 0 ≤ a) (hb : 0 < b) : Does P l (.binOp .rem t x y yt) ty w (i64 (a % b)) w :=
 run_binOp_int hx hy (by
  simp only [binOp, Op.intDiv, ne_eq, not_true, if_false]; rw [if_neg (by omega), Int.tmod_eq_emod_of_nonneg h0]; rfl)
theorem Does.eql {t yt : TypeId} {x y : Operand} {k : IntKind} {a b : Int} (hx : ev l x = some (.int k a)) (hy : ev l y = some (.int k b)) : Does P l (.binOp .eql t x y yt) ty w (.bool (decide (a = b))) w :=
 run_binOp_int hx hy (by simp only [binOp, Op.intCmp, ne_eq, not_true, if_false]; rfl)
theorem Does.neq {t yt : TypeId} {x y : Operand} {k : IntKind} {a b : Int} (hx : ev l x = some (.int k a)) (hy : ev l y = some (.int k b)) : Does P l (.binOp .neq t x y yt) ty w (.bool (decide (a ≠ b))) w :=
 run_binOp_int hx hy (by
  have e : (a != b) = decide (a ≠ b) := by rw [Bool.eq_iff_iff]; simp
  simp only [binOp, Op.intCmp, ne_eq, not_true, if_false]; rw [e]; rfl)
theorem Does.lss {t yt : TypeId} {x y : Operand} {k : IntKind} {a b : Int} (hx : ev l x = some (.int k a)) (hy : ev l y = some (.int k b)) : Does P l (.binOp .lss t x y yt) ty w (.bool (decide (a < b))) w :=
 run_binOp_int hx hy (by simp only [binOp, Op.intCmp, ne_eq, not_true, if_false]; rfl)
theorem Does.leq {t yt : TypeId} {x y : Operand} {k : IntKind} {a b : Int} (hx : ev l x = some (.int k a)) (hy : ev l y = some (.int k b)) : Does P l (.binOp .leq t x y yt) ty w (.bool (decide (a ≤ b))) w :=
 run_binOp_int hx hy (by simp only [binOp, Op.intCmp, ne_eq, not_true, if_false]; rfl)
theorem Does.gtr {t yt : TypeId} {x y : Operand} {k : IntKind} {a b : Int} (hx : ev l x = some (.int k a)) (hy : ev l y = some (.int k b)) : Does P l (.binOp .gtr t x y yt) ty w (.bool (decide (b < a))) w :=
 run_binOp_int hx hy (by simp only [binOp, Op.intCmp, ne_eq, not_true, if_false]; rfl)
theorem Does.geq {t yt : TypeId} {x y : Operand} {k : IntKind} {a b : Int} (hx : ev l x = some (.int k a)) (hy : ev l y = some (.int k b)) : Does P l (.binOp .geq t x y yt) ty w (.bool (decide (b ≤ a))) w :=
 run_binOp_int hx hy (by simp only [binOp, Op.intCmp, ne_eq, not_true, if_false]; rfl)
theorem ofInt8 (x : UInt8) : BitVec.ofInt 8 (x.toNat : Int) = x.toBitVec := by rw [BitVec.ofInt_natCast]; simp
theorem ofInt32 (x : UInt32) : BitVec.ofInt 32 (x.toNat : Int) = x.toBitVec := by rw [BitVec.ofInt_natCast]; simp
theorem ofInt64 (x : UInt64) : BitVec.ofInt 64 (x.toNat : Int) = x.toBitVec := by rw [BitVec.ofInt_natCast]; simp
theorem wrap8 (n : Nat) : IntKind.u8.wrap (n : Int) = ((UInt8.ofNat n).toNat : Int) := by rw [IntKind.wrap_u8']; simp
theorem wrap32' (n : Nat) : IntKind.u32.wrap (n : Int) = ((UInt32.ofNat n).toNat : Int) := by rw [IntKind.wrap_u32']; simp
theorem back8 (v : BitVec 8) : IntKind.u8.wrap (v.toNat : Int) = ((UInt8.ofBitVec v).toNat : Int) := by have := v.isLt; rw [IntKind.wrap_u8']; simp only [UInt8.toNat_ofBitVec]; omega
theorem back32 (v : BitVec 32) : IntKind.u32.wrap (v.toNat : Int) = ((UInt32.ofBitVec v).toNat : Int) := by have := v.isLt; rw [IntKind.wrap_u32']; simp only [UInt32.toNat_ofBitVec]; omega
theorem back64 (v : BitVec 64) : IntKind.u64.wrap (v.toNat : Int) = ((UInt64.ofBitVec v).toNat : Int) := by have := v.isLt; rw [IntKind.wrap_u64]; simp only [UInt64.toNat_ofBitVec]; omega
theorem Does.u32_add {t yt : TypeId} {x y : Operand} {a b : UInt32} (hx : ev l x = some (u32 a)) (hy : ev l y = some (u32 b)) : Does P l (.binOp .add t x y yt) ty w (u32 (a + b)) w :=
 run_binOp_int hx hy (by
  have e : IntKind.u32.wrap ((a.toNat : Int) + b.toNat) = ((a + b).toNat : Int) := by rw [IntKind.wrap_u32', UInt32.toNat_add]; omega
  simp only [binOp, Op.intArith, ne_eq, not_true, if_false, e]; rfl)
theorem Does.u64_sub {t yt : TypeId} {x y : Operand} {a b : UInt64} (hx : ev l x = some (u64 a)) (hy : ev l y = some (u64 b)) : Does P l (.binOp .sub t x y yt) ty w (u64 (a - b)) w :=
 run_binOp_int hx hy (by
  have e : IntKind.u64.wrap ((a.toNat : Int) - b.toNat) = ((a - b).toNat : Int) := by
   have := a.toNat_lt; have := b.toNat_lt
   rw [IntKind.wrap_u64, UInt64.toNat_sub]; omega
  simp only [binOp, Op.intArith, ne_eq, not_true, if_false, e]; rfl)
theorem Does.u64_rem {t yt : TypeId} {x y : Operand} {a b : UInt64} (hx : ev l x = some (u64 a)) (hy : ev l y = some (u64 b)) (hb : b.toNat ≠ 0) : Does P l (.binOp .rem t x y yt) ty w (u64 (a % b)) w :=
 run_binOp_int hx hy (by
  have e : ((a.toNat : Int).tmod b.toNat) = ((a % b).toNat : Int) := by
   rw [UInt64.toNat_mod, Int.tmod_eq_emod_of_nonneg (by omega), ← Int.natCast_emod]
  simp only [binOp, Op.intDiv, ne_eq, not_true, if_false]; rw [if_neg (by omega), e]; rfl)
theorem Does.u8_xor {t yt : TypeId} {x y : Operand} {a b : UInt8} (hx : ev l x = some (u8 a)) (hy : ev l y = some (u8 b)) : Does P l (.binOp .xor t x y yt) ty w (u8 (a ^^^ b)) w :=
 run_binOp_int hx hy (by
  have e : IntKind.u8.wrap ((BitVec.ofInt 8 (a.toNat : Int) ^^^ BitVec.ofInt 8 (b.toNat : Int)).toNat : Int) = ((a ^^^ b).toNat : Int) := by rw [ofInt8, ofInt8, back8]; rfl
  simp only [binOp, Op.intBits, ne_eq, not_true, if_false]; exact congrArg (fun z => Result.ok (Value.int .u8 z) w) e)
theorem Does.u32_and {t yt : TypeId} {x y : Operand} {a b : UInt32} (hx : ev l x = some (u32 a)) (hy : ev l y = some (u32 b)) : Does P l (.binOp .and t x y yt) ty w (u32 (a &&& b)) w :=
 run_binOp_int hx hy (by
  have e : IntKind.u32.wrap ((BitVec.ofInt 32 (a.toNat : Int) &&& BitVec.ofInt 32 (b.toNat : Int)).toNat : Int) = ((a &&& b).toNat : Int) := by rw [ofInt32, ofInt32, back32]; rfl
  simp only [binOp, Op.intBits, ne_eq, not_true, if_false]; exact congrArg (fun z => Result.ok (Value.int .u32 z) w) e)
theorem Does.u32_or {t yt : TypeId} {x y : Operand} {a b : UInt32} (hx : ev l x = some (u32 a)) (hy : ev l y = some (u32 b)) : Does P l (.binOp .or t x y yt) ty w (u32 (a ||| b)) w :=
 run_binOp_int hx hy (by
  have e : IntKind.u32.wrap ((BitVec.ofInt 32 (a.toNat : Int) ||| BitVec.ofInt 32 (b.toNat : Int)).toNat : Int) = ((a ||| b).toNat : Int) := by rw [ofInt32, ofInt32, back32]; rfl
  simp only [binOp, Op.intBits, ne_eq, not_true, if_false]; exact congrArg (fun z => Result.ok (Value.int .u32 z) w) e)
theorem Does.u32_xor {t yt : TypeId} {x y : Operand} {a b : UInt32} (hx : ev l x = some (u32 a)) (hy : ev l y = some (u32 b)) : Does P l (.binOp .xor t x y yt) ty w (u32 (a ^^^ b)) w :=
 run_binOp_int hx hy (by
  have e : IntKind.u32.wrap ((BitVec.ofInt 32 (a.toNat : Int) ^^^ BitVec.ofInt 32 (b.toNat : Int)).toNat : Int) = ((a ^^^ b).toNat : Int) := by rw [ofInt32, ofInt32, back32]; rfl
  simp only [binOp, Op.intBits, ne_eq, not_true, if_false]; exact congrArg (fun z => Result.ok (Value.int .u32 z) w) e)
theorem Does.u64_and {t yt : TypeId} {x y : Operand} {a b : UInt64} (hx : ev l x = some (u64 a)) (hy : ev l y = some (u64 b)) : Does P l (.binOp .and t x y yt) ty w (u64 (a &&& b)) w :=
 run_binOp_int hx hy (by
  have e : IntKind.u64.wrap ((BitVec.ofInt 64 (a.toNat : Int) &&& BitVec.ofInt 64 (b.toNat : Int)).toNat : Int) = ((a &&& b).toNat : Int) := by rw [ofInt64, ofInt64, back64]; rfl
  simp only [binOp, Op.intBits, ne_eq, not_true, if_false]; exact congrArg (fun z => Result.ok (Value.int .u64 z) w) e)
theorem Does.u64_or {t yt : TypeId} {x y : Operand} {a b : UInt64} (hx : ev l x = some (u64 a)) (hy : ev l y = some (u64 b)) : Does P l (.binOp .or t x y yt) ty w (u64 (a ||| b)) w :=
 run_binOp_int hx hy (by
  have e : IntKind.u64.wrap ((BitVec.ofInt 64 (a.toNat : Int) ||| BitVec.ofInt 64 (b.toNat : Int)).toNat : Int) = ((a ||| b).toNat : Int) := by rw [ofInt64, ofInt64, back64]; rfl
  simp only [binOp, Op.intBits, ne_eq, not_true, if_false]; exact congrArg (fun z => Result.ok (Value.int .u64 z) w) e)
theorem run_binOp_shift {op : BinOp} {t : TypeId} {x y : Operand} {yt : TypeId} {k yk : IntKind} {a b : Int} {v : Value} (ho : op = .shl ∨ op = .shr) (hx : ev l x = some (.int k a)) (hy : ev l y = some (.int yk b))
  (h : (Op.shift op k a yk b).run P w = .ok v w) : Does P l (.binOp op t x y yt) ty w v w := by
 intro ρ hρ d pos af g
 have hg : (eqGuard op t x y (.int k a) (.int yk b)).run P w = .ok () w := by
  cases op <;> rfl
 have hb : binOp op t (.int k a) (.int yk b) = Op.shift op k a yk b := by rcases ho with rfl | rfl <;> rfl
 simp only [execOp, hρ _ _ hx, hρ _ _ hy, Sem.run_bind, hg, Result.andThen_ok, hb, h]
 rfl
theorem Does.u32_shl {t yt : TypeId} {x y : Operand} {yk : IntKind} {a : UInt32} {b : Int} (hx : ev l x = some (u32 a)) (hy : ev l y = some (.int yk b)) (h0 : 0 ≤ b) (h1 : b < 32) : Does P l (.binOp .shl t x y yt) ty w (u32 (a <<< UInt32.ofNat b.toNat)) w :=
 run_binOp_shift (.inl rfl) hx hy (by
  obtain ⟨n, rfl⟩ := Int.eq_ofNat_of_zero_le h0
  have e : IntKind.u32.wrap ((a.toNat : Int) * 2 ^ (min (n : Int).toNat IntKind.u32.bits)) = ((a <<< UInt32.ofNat (n : Int).toNat).toNat : Int) := by
   have hn : n < 32 := by omega
   rw [Int.toNat_natCast, show min n IntKind.u32.bits = n by simp [IntKind.bits]; omega, UInt32.toNat_shiftLeft, UInt32.toNat_ofNat_of_lt' (by simp [UInt32.size]; omega), IntKind.wrap_u32', Nat.mod_eq_of_lt hn, Nat.shiftLeft_eq]
   simp
  simp only [Op.shift]; rw [if_neg (by omega), e]; rfl)
theorem Does.u32_shr {t yt : TypeId} {x y : Operand} {yk : IntKind} {a : UInt32} {b : Int} (hx : ev l x = some (u32 a)) (hy : ev l y = some (.int yk b)) (h0 : 0 ≤ b) (h1 : b < 32) : Does P l (.binOp .shr t x y yt) ty w (u32 (a >>> UInt32.ofNat b.toNat)) w :=
 run_binOp_shift (.inr rfl) hx hy (by
  obtain ⟨n, rfl⟩ := Int.eq_ofNat_of_zero_le h0
  have e : ((a.toNat : Int).fdiv (2 ^ (min (n : Int).toNat IntKind.u32.bits))) = ((a >>> UInt32.ofNat (n : Int).toNat).toNat : Int) := by
   have hn : n < 32 := by omega
   rw [Int.toNat_natCast, show min n IntKind.u32.bits = n by simp [IntKind.bits]; omega, UInt32.toNat_shiftRight, UInt32.toNat_ofNat_of_lt' (by simp [UInt32.size]; omega), Nat.mod_eq_of_lt hn, Nat.shiftRight_eq_div_pow, Int.fdiv_eq_ediv_of_nonneg _ (Int.le_of_lt (Int.pow_pos (by omega)))]
   simp
  simp only [Op.shift]; rw [if_neg (by omega), e]; rfl)
theorem Does.not {t : TypeId} {x : Operand} {b : Bool} (hx : ev l x = some (.bool b)) : Does P l (.unOp .not t x) ty w (.bool (!b)) w := by
 intro ρ hρ d pos af g
 simp [execOp, hρ _ _ hx, Op.unary]
theorem Does.u32_not {t : TypeId} {x : Operand} {a : UInt32} (hx : ev l x = some (u32 a)) : Does P l (.unOp .xor t x) ty w (u32 (~~~ a)) w := by
 intro ρ hρ d pos af g
 have e : IntKind.u32.wrap ((BitVec.ofInt 32 IntKind.u32.max ^^^ BitVec.ofInt 32 (a.toNat : Int)).toNat : Int) = ((~~~ a).toNat : Int) := by
  have : BitVec.ofInt 32 IntKind.u32.max = BitVec.allOnes 32 := by decide
  rw [ofInt32, this, BitVec.allOnes_xor, back32]
  rfl
 have e2 : (Op.intBits .xor .u32 (if IntKind.u32.signed then -1 else IntKind.u32.max) (a.toNat : Int)).run P w = .ok (u32 (~~~ a)) w := by
  simp only [Op.intBits]; exact congrArg (fun z => Result.ok (Value.int .u32 z) w) e
 simp only [execOp, hρ _ _ hx, Op.unary, Sem.run_bind, e2, Result.andThen_ok]
 rfl
theorem Does.conv_int {s t : TypeId} {x : Operand} {k k' : IntKind} {a b : Int} {ds : TypeDesc} (hs : P.underlying s = some ds) (ht : P.underlying t = some (.int k')) (hx : ev l x = some (.int k a)) (hb : k'.wrap a = b) : Does P l (.convert s t x) ty w (.int k' b) w := by
 intro ρ hρ d pos af g
 have h : (convert s t (.int k a)).run P w = .ok (.int k' b) w := by
  simp only [convert, Sem.run_bind, run_underlying hs, run_underlying ht, Result.andThen_ok, Conv.intToInt, hb]
  cases ds <;> rfl
 simp only [execOp, hρ _ _ hx, Sem.run_bind, h, Result.andThen_ok]
 rfl
theorem wrap_u8_u32 (a : UInt8) : IntKind.u32.wrap (a.toNat : Int) = (a.toUInt32.toNat : Int) := by rw [wrap32']; simp
theorem wrap_u32_u8 (a : UInt32) : IntKind.u8.wrap (a.toNat : Int) = (a.toUInt8.toNat : Int) := by rw [wrap8]; simp
theorem wrap_u8_i64 (a : UInt8) : IntKind.i64.wrap (a.toNat : Int) = (a.toNat : Int) := by have := a.toNat_lt; rw [i64_wrap_in (by omega) (by omega)]
theorem wrap_u32_i64 (a : UInt32) : IntKind.i64.wrap (a.toNat : Int) = (a.toNat : Int) := by have := a.toNat_lt; rw [i64_wrap_in (by omega) (by omega)]
theorem wrap_i64_u8 (a : Int) (h : 0 ≤ a) : IntKind.u8.wrap a = ((UInt8.ofNat a.toNat).toNat : Int) := by obtain ⟨n, rfl⟩ := Int.eq_ofNat_of_zero_le h; rw [wrap8]; simp
end
end Go.Proofs.Ytgfomedobfaidaa
end
section
set_option linter.unusedVariables false
set_option linter.unusedSimpArgs false
namespace Go.Proofs.Ytgfomedobfaidaa
open Go.RowKit
abbrev Lab := Nat → Option Nat
def Valid (lab : Lab) (w : World) : Prop := ∀ k, w.heap.size ≤ k → lab k = none
structure Stp (T : List Nat) (lab : Lab) (w : World) (lab' : Lab) (w' : World) : Prop where
 os : w'.os = w.os
 tape : w'.tape = w.tape
 output : w'.output = w.output
 size : w.heap.size ≤ w'.heap.size
 free : ∀ k, k < w.heap.size → lab k = none → lab' k = none ∧ w'.heap[k]? = w.heap[k]?
 own : ∀ k d, k < w.heap.size → lab k = some d → d ∉ T → lab' k = some d ∧ w'.heap[k]? = w.heap[k]?
theorem Stp.refl (lab : Lab) (w : World) : Stp [] lab w lab w := ⟨rfl, rfl, rfl, Nat.le_refl _, fun _ _ h => ⟨h, rfl⟩, fun _ _ _ h _ => ⟨h, rfl⟩⟩
theorem Stp.trans {T U : List Nat} {l0 l1 l2 : Lab} {a b c : World} (h : Stp T l0 a l1 b) (k : Stp U l1 b l2 c) : Stp (T ++ U) l0 a l2 c where
 os := k.os.trans h.os
 tape := k.tape.trans h.tape
 output := k.output.trans h.output
 size := Nat.le_trans h.size k.size
 free := fun i hi h0 => by
  obtain ⟨h1, h2⟩ := h.free i hi h0
  obtain ⟨k1, k2⟩ := k.free i (Nat.lt_of_lt_of_le hi h.size) h1
  exact ⟨k1, k2.trans h2⟩
 own := fun i d hi h0 hd => by
  obtain ⟨h1, h2⟩ := h.own i d hi h0 (fun e => hd (List.mem_append_left _ e))
  obtain ⟨k1, k2⟩ := k.own i d (Nat.lt_of_lt_of_le hi h.size) h1 (fun e => hd (List.mem_append_right _ e))
  exact ⟨k1, k2.trans h2⟩
theorem Stp.more {T U : List Nat} {l0 l1 : Lab} {a b : World} (h : Stp T l0 a l1 b) (hT : ∀ d, d ∈ T → d ∈ U) : Stp U l0 a l1 b := ⟨h.os, h.tape, h.output, h.size, h.free, fun i d hi h0 hd => h.own i d hi h0 (fun e => hd (hT d e))⟩
theorem Stp.below {lab : Lab} {w w' : World} (h : Below w.heap.size w w') : Stp [] lab w lab w' := ⟨h.os, h.tape, h.output, h.size, fun k hk e => ⟨e, h.block k hk⟩, fun k d hk e _ => ⟨e, h.block k hk⟩⟩
theorem Stp.drew (lab : Lab) (w : World) : Stp [] lab w lab { w with drawn := w.drawn + 1 } := ⟨rfl, rfl, rfl, Nat.le_refl _, fun _ _ h => ⟨h, rfl⟩, fun _ _ _ h _ => ⟨h, rfl⟩⟩
theorem Valid.below {lab : Lab} {w w' : World} (hv : Valid lab w) (h : w.heap.size ≤ w'.heap.size) : Valid lab w' := fun k hk => hv k (Nat.le_trans h hk)
def ent (lab : Lab) : Lab := fun k => if (lab k).isSome then some 0 else none
theorem ent_none {lab : Lab} {k : Nat} : ent lab k = none ↔ lab k = none := by unfold ent; cases lab k <;> simp
theorem Valid.ent {lab : Lab} {w : World} (h : Valid lab w) : Valid (ent lab) w := fun k hk => ent_none.2 (h k hk)
theorem Stp.enter (lab : Lab) (w : World) : Stp [] (fun k => ent lab k) w (ent lab) w := Stp.refl _ _
abbrev VP := Lab → World → Value → Prop
structure Pers (V : VP) : Prop where
 step : ∀ {T : List Nat} {lab : Lab} {w : World} {lab' : Lab} {w' : World} {v : Value}, Stp T lab w lab' w' → V lab w v → V lab' w' v
theorem Stp.leave {T : List Nat} {lab lab' : Lab} {w w' : World} (h : Stp T (ent lab) w lab' w') (hT : (0 : Nat) ∉ T) : Below w.heap.size w w' :=
 ⟨h.os, h.tape, h.output, h.size, fun k hk => by
  cases hl : ent lab k with
  | none => exact (h.free k hk hl).2
  | some d =>
   have hd : d = 0 := by unfold ent at hl; split at hl <;> simp_all
   subst hd
   exact (h.own k 0 hk hl hT).2⟩
theorem Stp.back {T : List Nat} {lab lab' : Lab} {w w' : World} (h : Stp T (ent lab) w lab' w') (hT : (0 : Nat) ∉ T) (hv : Valid lab w) :
  ∀ k, lab' k = none → lab k = none := by
 intro k hk
 by_cases hlt : k < w.heap.size
 ·cases hl : lab k with
  | none => rfl
  | some d =>
   have he : ent lab k = some 0 := by unfold ent; simp [hl]
   have := (h.own k 0 hlt he hT).1
   rw [hk] at this
   cases this
 ·exact hv k (by omega)
theorem Stp.out {T : List Nat} {lab lab' : Lab} {w w' : World} (h : Stp T (ent lab) w lab' w') (hT : (0 : Nat) ∉ T) (hv : Valid lab w) : ∃ U, Stp U lab' w' lab w' :=
 ⟨(List.range w'.heap.size).filterMap lab', ⟨rfl, rfl, rfl, Nat.le_refl _, fun k hk e => ⟨h.back hT hv k e, rfl⟩, fun k d hk e hd => absurd (List.mem_filterMap.2 ⟨k, by simpa using hk, e⟩) hd⟩⟩
@[reducible] def str (bs : List UInt8) : Value := .string ⟨bs.toArray⟩
theorem add_flat (b o j : Nat) : (⟨b, o, none⟩ : Addr).add j = ⟨b, o + j, none⟩ := by unfold Addr.add; split <;> simp_all
def RowAt (lab : Lab) (w : World) (A : Option Addr) (cs : List Value) : Prop :=
 cs = [] ∨ ∃ b o arr t fr, A = some ⟨b, o, none⟩ ∧ lab b = none ∧ w.heap[b]? = some (.cells arr t fr) ∧ ∀ j v, cs[j]? = some v → arr[o + j]? = some v
theorem RowAt.nil {lab : Lab} {w : World} {A : Option Addr} : RowAt lab w A [] := .inl rfl
theorem block_lt {w : World} {b : Nat} {o : Obj} (h : w.heap[b]? = some o) : b < w.heap.size := (Array.getElem?_eq_some_iff.1 h).1
theorem RowAt.lift {T : List Nat} {lab lab' : Lab} {w w' : World} {A : Option Addr} {cs : List Value} (s : Stp T lab w lab' w') (h : RowAt lab w A cs) : RowAt lab' w' A cs := by
 rcases h with h | ⟨b, o, arr, t, fr, h1, h2, h3, h4⟩
 ·exact .inl h
 ·obtain ⟨k1, k2⟩ := s.free b (block_lt h3) h2
  exact .inr ⟨b, o, arr, t, fr, h1, k1, k2.trans h3, h4⟩
theorem RowAt.cell {lab : Lab} {w : World} {A : Option Addr} {cs : List Value} (h : RowAt lab w A cs) {j : Nat} {v : Value} (hv : cs[j]? = some v) : ∃ b o, A = some ⟨b, o, none⟩ ∧ w.cell? ⟨b, o + j, none⟩ = some v := by
 rcases h with h | ⟨b, o, arr, t, fr, h1, h2, h3, h4⟩
 ·subst h; simp at hv
 ·exact ⟨b, o, h1, by rw [cell_of_row w b _ arr t fr h3]; exact h4 j v hv⟩
theorem RowAt.sub {lab : Lab} {w : World} {A : Option Addr} {cs : List Value} (h : RowAt lab w A cs) (lo n : Nat) : RowAt lab w (A.map (·.add lo)) ((cs.drop lo).take n) := by
 rcases h with h | ⟨b, o, arr, t, fr, h1, h2, h3, h4⟩
 ·exact .inl (by simp [h])
 ·refine .inr ⟨b, o + lo, arr, t, fr, by simp [h1, add_flat], h2, h3, fun j v hv => ?_⟩
  have hj : j < n := by
   by_cases hj : j < n
   ·exact hj
   ·rw [List.getElem?_take, if_neg hj] at hv; cases hv
  rw [List.getElem?_take_of_lt hj, List.getElem?_drop] at hv
  rw [Nat.add_assoc]
  exact h4 _ v hv
theorem RowAt.take {lab : Lab} {w : World} {A : Option Addr} {cs : List Value} (h : RowAt lab w A cs) (n : Nat) : RowAt lab w A (cs.take n) := by
 rcases h with h | ⟨b, o, arr, t, fr, h1, h2, h3, h4⟩
 ·exact .inl (by simp [h])
 ·refine .inr ⟨b, o, arr, t, fr, h1, h2, h3, fun j v hv => h4 j v ?_⟩
  by_cases hj : j < n
  ·rwa [List.getElem?_take_of_lt hj] at hv
  ·rw [List.getElem?_take, if_neg hj] at hv; cases hv
def SliceV (cs : List Value) : VP := fun lab w v => ∃ A c, v = .slice A cs.length c ∧ cs.length ≤ c ∧ c ≤ 9223372036854775807 ∧ RowAt lab w A cs
theorem SliceV.pers (cs : List Value) : Pers (SliceV cs) := ⟨fun s ⟨A, c, h1, h2, h3, h4⟩ => ⟨A, c, h1, h2, h3, h4.lift s⟩⟩
def Own (lab : Lab) (w : World) (d b : Nat) (t : TypeId) (arr : Array Value) : Prop := lab b = some d ∧ w.heap[b]? = some (.cells arr t (0, 0))
theorem Own.lift {T : List Nat} {lab lab' : Lab} {w w' : World} {d b : Nat} {t : TypeId} {arr : Array Value} (h : Own lab w d b t arr) (s : Stp T lab w lab' w') (hd : d ∉ T) : Own lab' w' d b t arr := by
 obtain ⟨k1, k2⟩ := s.own b d (block_lt h.2) h.1 hd
 exact ⟨k1, k2.trans h.2⟩
theorem Own.cell {lab : Lab} {w : World} {d b : Nat} {t : TypeId} {arr : Array Value} (h : Own lab w d b t arr) (j : Nat) : w.cell? ⟨b, j, none⟩ = arr[j]? := cell_of_row w b j arr t (0, 0) h.2
def labNew (lab : Lab) (b d : Nat) : Lab := fun k => if k = b then some d else lab k
theorem heap_alloc_lt (w : World) (o : Obj) {k : Nat} (h : k < w.heap.size) : (w.alloc o).heap[k]? = w.heap[k]? := Below.heap_alloc w o k h
theorem heap_alloc_at (w : World) (o : Obj) : (w.alloc o).heap[w.heap.size]? = some o := by show (w.heap.push o)[w.heap.size]? = some o; simp
theorem size_alloc (w : World) (o : Obj) : (w.alloc o).heap.size = w.heap.size + 1 := by show (w.heap.push o).size = _; simp
theorem Stp.alloc {lab : Lab} {w : World} (o : Obj) (d : Nat) : Stp [] lab w (labNew lab w.heap.size d) (w.alloc o) :=
 ⟨rfl, rfl, rfl, by rw [size_alloc]; omega, fun k hk e => ⟨by unfold labNew; rw [if_neg (by omega)]; exact e, heap_alloc_lt w o hk⟩, fun k d' hk e _ => ⟨by unfold labNew; rw [if_neg (by omega)]; exact e, heap_alloc_lt w o hk⟩⟩
theorem Valid.alloc {lab : Lab} {w : World} (hv : Valid lab w) (o : Obj) (d : Nat) : Valid (labNew lab w.heap.size d) (w.alloc o) := fun k hk => by
 rw [size_alloc] at hk
 unfold labNew; rw [if_neg (by omega)]; exact hv k (by omega)
theorem Own.alloc (lab : Lab) (w : World) (arr : Array Value) (t : TypeId) (d : Nat) : Own (labNew lab w.heap.size d) (w.alloc (.cells arr t)) d w.heap.size t arr := ⟨by simp [labNew], heap_alloc_at w _⟩
theorem Stp.fresh {lab : Lab} {w : World} (o : Obj) : Stp [] lab w lab (w.alloc o) :=
 ⟨rfl, rfl, rfl, by rw [size_alloc]; omega, fun k hk e => ⟨e, heap_alloc_lt w o hk⟩, fun k d' hk e _ => ⟨e, heap_alloc_lt w o hk⟩⟩
theorem RowAt.fresh {lab : Lab} {w : World} (hv : Valid lab w) (arr : Array Value) (t : TypeId) (fr : Nat × Nat) (cs : List Value) (h : ∀ (j : Nat) (v : Value), cs[j]? = some v → arr[j]? = some v) : RowAt lab (w.alloc (.cells arr t fr)) (some ⟨w.heap.size, 0, none⟩) cs :=
 .inr ⟨w.heap.size, 0, arr, t, fr, rfl, hv _ (Nat.le_refl _), heap_alloc_at w _, fun j v hj => by rw [Nat.zero_add]; exact h j v hj⟩
def labFree (lab : Lab) (d : Nat) : Lab := fun k => if lab k = some d then none else lab k
theorem Stp.release {lab : Lab} {w : World} (d : Nat) : Stp [d] lab w (labFree lab d) w :=
 ⟨rfl, rfl, rfl, Nat.le_refl _, fun k hk e => ⟨by unfold labFree; split <;> simp_all, rfl⟩, fun k d' hk e hd => ⟨by unfold labFree; rw [if_neg (by rw [e]; simp at hd ⊢; exact hd)]; exact e, rfl⟩⟩
theorem Valid.release {lab : Lab} {w : World} (hv : Valid lab w) (d : Nat) : Valid (labFree lab d) w := fun k hk => by unfold labFree; split; rfl; exact hv k hk
theorem RowAt.release {lab : Lab} {w : World} {d b : Nat} {t : TypeId} {arr : Array Value} (h : Own lab w d b t arr) (o : Nat) (cs : List Value) (hc : ∀ (j : Nat) (v : Value), cs[j]? = some v → arr[o + j]? = some v) : RowAt (labFree lab d) w (some ⟨b, o, none⟩) cs :=
 .inr ⟨b, o, arr, t, (0, 0), rfl, by unfold labFree; rw [if_pos h.1], h.2, hc⟩
theorem setRow_get {w : World} {g : Nat} {c cs : Array Value} {t : TypeId} {fr : Nat × Nat} (h : w.heap[g]? = some (.cells c t fr)) : (w.setRow g cs).heap[g]? = some (.cells cs t fr) := by
 simp [World.setRow, Array.getElem?_modify, h]
theorem setRow_other {w : World} {g k : Nat} {cs : Array Value} (h : k ≠ g) : (w.setRow g cs).heap[k]? = w.heap[k]? := by
 simp only [World.setRow, Array.getElem?_modify]; rw [if_neg (fun e => h e.symm)]
theorem setRow_size (w : World) (g : Nat) (cs : Array Value) : (w.setRow g cs).heap.size = w.heap.size := by simp [World.setRow]
theorem Stp.set {lab : Lab} {w : World} {d b : Nat} (h : lab b = some d) (cs : Array Value) : Stp [d] lab w lab (w.setRow b cs) :=
 ⟨rfl, rfl, rfl, by rw [setRow_size]; omega, fun k hk e => ⟨e, setRow_other (fun e' => by subst e'; rw [h] at e; cases e)⟩, fun k d' hk e hd => ⟨e, setRow_other (fun e' => by subst e'; rw [h] at e; cases e; simp at hd)⟩⟩
theorem Own.set {lab : Lab} {w : World} {d b : Nat} {t : TypeId} {arr : Array Value} (h : Own lab w d b t arr) (cs : Array Value) : Own lab (w.setRow b cs) d b t cs := ⟨h.1, setRow_get h.2⟩
theorem Valid.set {lab : Lab} {w : World} (hv : Valid lab w) (b : Nat) (cs : Array Value) : Valid lab (w.setRow b cs) := hv.below (by rw [setRow_size]; omega)
section
variable {P : Program} {N : Nat} {l : List (Nat × Value)} {w : World} {ty : TypeId}
theorem run_newVar (t : TypeId) (v : Value) (w : World) : (newVar t v).run P w = .ok ⟨w.heap.size, 0, none⟩ (w.alloc (.cells v.cells t)) := rfl
theorem Does.alloc {t : TypeId} {ag : Bool} {n by_ : Nat} {z : Value} (ht : tyRow P t = some (ag, n, some z, by_)) : Does P l (.alloc t) ty w (.pointer (some ⟨w.heap.size, 0, none⟩)) (w.alloc (.cells z.cells t)) := by
 intro ρ hρ d pos af g
 simp only [execOp, Instr.alloc, Sem.run_bind, run_zero' ht, Result.andThen_ok, run_newVar]
 rfl
theorem Does.box {t : TypeId} {x : Operand} {v : Value} (hx : ev l x = some v) : Does P l (.box t x) ty w (.pointer (some ⟨w.heap.size, 0, none⟩)) (w.alloc (.cells v.cells t)) := by
 intro ρ hρ d pos af g
 simp only [execOp, Instr.box, hρ _ _ hx, Sem.run_bind, Result.andThen_ok, run_newVar]
 rfl
theorem run_loadVar_one {t : TypeId} {n by_ : Nat} {z : Option Value} {a : Addr} {v : Value} (ht : tyRow P t = some (false, n, z, by_)) (hc : w.cell? a = some v) : (loadVar t a).run P w = .ok v w := by
 simp only [loadVar, Sem.run_bind, run_isAgg' ht, Result.andThen_ok, Bool.false_eq_true, if_false, load, Sem.run, hc]
theorem run_loadVar_agg {t : TypeId} {by_ : Nat} {z : Option Value} {a : Addr} {cs : List Value} (ht : tyRow P t = some (true, cs.length, z, by_)) (hc : ∀ j v, cs[j]? = some v → w.cell? (a.add j) = some v) : (loadVar t a).run P w = .ok (.agg cs.toArray) w := by
 simp only [loadVar, Sem.run_bind, run_isAgg' ht, Result.andThen_ok, if_true, run_sizeOf' ht, run_loadCells_list w a cs hc]
 rfl
theorem Does.load_one {t : TypeId} {x : Operand} {n by_ : Nat} {z : Option Value} {a : Addr} {v : Value} (ht : tyRow P t = some (false, n, z, by_)) (hx : ev l x = some (.pointer (some a))) (hc : w.cell? a = some v) : Does P l (.load t x) ty w v w := by
 intro ρ hρ d pos af g
 simp only [execOp, Instr.loadAt, Instr.sureAddr, hρ _ _ hx, Sem.run_bind, Sem.run_pure, Result.andThen_ok, run_loadVar_one ht hc]
theorem Does.load_agg {t : TypeId} {x : Operand} {by_ : Nat} {z : Option Value} {a : Addr} {cs : List Value} (ht : tyRow P t = some (true, cs.length, z, by_)) (hx : ev l x = some (.pointer (some a))) (hc : ∀ j v, cs[j]? = some v → w.cell? (a.add j) = some v) : Does P l (.load t x) ty w (.agg cs.toArray) w := by
 intro ρ hρ d pos af g
 simp only [execOp, Instr.loadAt, Instr.sureAddr, hρ _ _ hx, Sem.run_bind, Sem.run_pure, Result.andThen_ok, run_loadVar_agg ht hc]
theorem Does.load_own1 {t t' : TypeId} {x : Operand} {n by_ : Nat} {z : Option Value} {lab : Lab} {d b o : Nat} {arr : Array Value} {v : Value} (h : Own lab w d b t' arr) (ht : tyRow P t = some (false, n, z, by_)) (hx : ev l x = some (.pointer (some ⟨b, o, none⟩))) (hv : arr[o]? = some v) : Does P l (.load t x) ty w v w :=
 Does.load_one ht hx (by rw [h.cell]; exact hv)
theorem Does.load_ownN {t t' : TypeId} {x : Operand} {by_ : Nat} {z : Option Value} {lab : Lab} {d b o : Nat} {arr : Array Value} (cs : List Value) (h : Own lab w d b t' arr) (ht : tyRow P t = some (true, cs.length, z, by_)) (hx : ev l x = some (.pointer (some ⟨b, o, none⟩)))
  (hv : (arr.toList.drop o).take cs.length = cs) : Does P l (.load t x) ty w (.agg cs.toArray) w :=
 Does.load_agg ht hx (fun j v hj => by
  rw [add_flat, h.cell]
  have hjl : j < cs.length := (List.getElem?_eq_some_iff.1 hj).1
  rw [← hv, List.getElem?_take_of_lt hjl, List.getElem?_drop] at hj
  simpa using hj)
theorem run_storeVar {t t' : TypeId} {ag : Bool} {n by_ : Nat} {z : Option Value} {b o : Nat} {arr : Array Value} {v : Value} (ht : tyRow P t = some (ag, n, z, by_)) (hh : w.heap[b]? = some (.cells arr t' (0, 0))) (hn : v.cells.size = n) (ho : o + n ≤ arr.size) (h1 : v.cells.toList.all (·.oneCell') = true) :
  (storeVar t ⟨b, o, none⟩ v).run P w = .ok () (w.setRow b (arr.toList.take o ++ v.cells.toList ++ arr.toList.drop (o + n)).toArray) := by
 have h := run_storeCells_at (P := P) b o t' v.cells.toList 0 arr w hh (by simp; omega) (fun x hx => (List.all_eq_true.1 h1) x hx)
 simp only [storeVar, Sem.run_bind, run_sizeOf' ht, Result.andThen_ok]
 rw [if_neg (by simp [hn]), h]
 simp [hn]
theorem Does.store {t t' : TypeId} {x y : Operand} {ag : Bool} {n by_ : Nat} {z : Option Value} {b o : Nat} {arr : Array Value} {v : Value} {lab : Lab} {d : Nat} (arr' : Array Value) (h : Own lab w d b t' arr) (ht : tyRow P t = some (ag, n, z, by_)) (hx : ev l x = some (.pointer (some ⟨b, o, none⟩))) (hy : ev l y = some v)
  (hn : v.cells.size = n) (ho : o + n ≤ arr.size) (h1 : v.cells.toList.all (·.oneCell') = true) (ha : (arr.toList.take o ++ v.cells.toList ++ arr.toList.drop (o + n)).toArray = arr') : DoesU P l (.store t x y) ty w (w.setRow b arr') := by
 intro ρ hρ d pos af g
 simp only [execOp, Instr.storeAt, Instr.sureAddr, hρ _ _ hx, hρ _ _ hy, Sem.run_bind, Sem.run_pure, Result.andThen_ok, run_storeVar ht h.2 hn ho h1, ha]
theorem Does.fieldAddr {s : TypeId} {x : Operand} {i : Nat} {fs : Array Field} {f : Field} {b o : Nat} {ag : Bool} {n by_ : Nat} {z : Option Value} (hs : P.underlying s = some (.struct fs)) (hf : fs[i]? = some f) (ht : tyRow P f.type = some (ag, n + 1, z, by_)) (hx : ev l x = some (.pointer (some ⟨b, o, none⟩))) :
  Does P l (.fieldAddr s x i) ty w (.pointer (some ⟨b, o + f.offset, none⟩)) w := by
 intro ρ hρ d pos af g
 simp only [execOp, Instr.fieldAt, hρ _ _ hx, Sem.run_bind, run_underlying hs, Result.andThen_ok, hf, Instr.sureAddr, Sem.run_pure, fieldPlace, run_sizeOf' ht, Nat.add_eq_zero_iff, Nat.one_ne_zero, and_false, if_false, add_flat]
theorem Does.fieldAddr' {s : TypeId} {x : Operand} {i : Nat} {fs : Array Field} {f : Field} {b o : Nat} {ag : Bool} {n by_ : Nat} {z : Option Value} (r : Nat) (hs : P.underlying s = some (.struct fs)) (hf : fs[i]? = some f) (ht : tyRow P f.type = some (ag, n + 1, z, by_)) (hx : ev l x = some (.pointer (some ⟨b, o, none⟩))) (hr : o + f.offset = r) :
  Does P l (.fieldAddr s x i) ty w (.pointer (some ⟨b, r, none⟩)) w := hr ▸ Does.fieldAddr hs hf ht hx
theorem Does.len {t e : TypeId} {x : Operand} {A : Option Addr} {n c : Nat} (ht : P.underlying t = some (.slice e)) (hx : ev l x = some (.slice A n c)) : Does P l (.call ⟨.builtin .len, #[x], #[t]⟩) ty w (i64 n) w := by
 intro ρ hρ d pos af g
 simp [execOp, resolve, invoke, builtin, hρ _ _ hx, Builtin.len_, run_underlying ht, goInt]
theorem Does.eql_nil {t e yt : TypeId} {x y : Operand} {a : Addr} (ht : P.underlying t = some (.pointer e)) (hx : ev l x = some (.pointer (some a))) (hy : ev l y = some (.pointer none)) : Does P l (.binOp .eql t x y yt) ty w (.bool false) w := by
 intro ρ hρ d pos af g
 have hg : (eqGuard .eql t x y (.pointer (some a)) (.pointer none)).run P w = .ok () w := rfl
 have he : ∀ d : Nat, (Op.equalIn (d + 1) t (.pointer (some a)) (.pointer none)).run P w = .ok false w := fun d => by simp [Op.equalIn, run_underlying ht]
 have hb : (binOp .eql t (.pointer (some a)) (.pointer none)).run P w = .ok (.bool false) w := by
  have e : binOp .eql t (.pointer (some a)) (.pointer none) = (do pure (.bool ((← Op.equal t (.pointer (some a)) (.pointer none))))) := rfl
  rw [e]
  simp [Op.equal, Op.maxDepth, he 9999]
 simp only [execOp, hρ _ _ hx, hρ _ _ hy, Sem.run_bind, hg, Result.andThen_ok, hb]
 rfl
theorem Does.neq_nil {t e yt : TypeId} {x y : Operand} {a : Addr} (ht : P.underlying t = some (.pointer e)) (hx : ev l x = some (.pointer (some a))) (hy : ev l y = some (.pointer none)) : Does P l (.binOp .neq t x y yt) ty w (.bool true) w := by
 intro ρ hρ d pos af g
 have hg : (eqGuard .neq t x y (.pointer (some a)) (.pointer none)).run P w = .ok () w := rfl
 have he : ∀ d : Nat, (Op.equalIn (d + 1) t (.pointer (some a)) (.pointer none)).run P w = .ok false w := fun d => by simp [Op.equalIn, run_underlying ht]
 have hb : (binOp .neq t (.pointer (some a)) (.pointer none)).run P w = .ok (.bool true) w := by
  have e : binOp .neq t (.pointer (some a)) (.pointer none) = (do pure (.bool (!(← Op.equal t (.pointer (some a)) (.pointer none))))) := rfl
  rw [e]
  simp [Op.equal, Op.maxDepth, he 9999]
 simp only [execOp, hρ _ _ hx, hρ _ _ hy, Sem.run_bind, hg, Result.andThen_ok, hb]
 rfl
theorem Does.indexAddr {t e : TypeId} {x y : Operand} {k : IntKind} {i : Int} {b o n c : Nat} {ag : Bool} {s by_ : Nat} {z : Option Value} (ht : P.underlying t = some (.slice e)) (he : tyRow P e = some (ag, s, z, by_)) (hx : ev l x = some (.slice (some ⟨b, o, none⟩) n c)) (hy : ev l y = some (.int k i)) (h0 : 0 ≤ i) (h1 : i < n) :
  Does P l (.indexAddr t x y) ty w (.pointer (some ⟨b, o + i.toNat * s, none⟩)) w := by
 intro ρ hρ d pos af g
 simp only [execOp, Instr.indexAt, hρ _ _ hx, hρ _ _ hy, asIntOf, Sem.run_bind, Sem.run_pure, Result.andThen_ok, run_underlying ht, h0, h1, and_self, if_true, run_sizeOf' he, add_flat]
theorem Does.indexAddr_arr {t e : TypeId} {x y : Operand} {k : IntKind} {i : Int} {b o n : Nat} {ag : Bool} {s by_ : Nat} {z : Option Value} (ht : P.underlying t = some (.array n e)) (he : tyRow P e = some (ag, s, z, by_)) (hx : ev l x = some (.pointer (some ⟨b, o, none⟩))) (hy : ev l y = some (.int k i)) (h0 : 0 ≤ i) (h1 : i < n) :
  Does P l (.indexAddr t x y) ty w (.pointer (some ⟨b, o + i.toNat * s, none⟩)) w := by
 intro ρ hρ d pos af g
 simp only [execOp, Instr.indexAt, hρ _ _ hx, hρ _ _ hy, asIntOf, Instr.sureAddr, Sem.run_bind, Sem.run_pure, Result.andThen_ok, run_underlying ht, h0, h1, and_self, if_true, run_sizeOf' he, add_flat]
theorem run_places (w : World) : ∀ {fs : List Field} {places : List (Nat × Nat)}, fs.map (fun f => (f.offset, (tyRow P f.type).map (·.2.1))) = places.map (fun p => (p.1, some p.2)) → (fs.mapM (fun f => do pure (f.offset, ← sizeOf f.type) : Field → Sem (Nat × Nat))).run P w = .ok places w
 | [], places, h => by
  cases places with
  | nil => rfl
  | cons _ _ => simp at h
 | f :: r, places, h => by
  cases places with
  | nil => simp at h
  | cons p places =>
   simp only [List.map_cons, List.cons.injEq, Prod.mk.injEq, Option.map_eq_some_iff] at h
   obtain ⟨⟨h1, ⟨ag, n, z, by_⟩, h2, h3⟩, h4⟩ := h
   obtain ⟨p1, p2⟩ := p
   simp only at h1 h3
   subst h1; subst h3
   simp only [List.mapM_cons, Sem.run_bind, run_sizeOf' h2, Result.andThen_ok, Sem.run_pure, run_places w h4]
theorem Does.build {t : TypeId} {parts : Array (Nat × Operand)} (pv : List (Nat × Value)) {fs : Array Field} (places : List (Nat × Nat)) {ag : Bool} {n by_ : Nat} {z : Value} (cs : List Value) (ht : P.underlying t = some (.struct fs)) (hz : tyRow P t = some (ag, n, some z, by_))
  (hpl : fs.toList.map (fun f => (f.offset, (tyRow P f.type).map (·.2.1))) = places.map (fun p => (p.1, some p.2))) (hp : parts.toList.map (fun p => (p.1, ev l p.2)) = pv.map (fun p => (p.1, some p.2))) (hc : Instr.fill (places.toArray[·]?) z.cells pv = some cs.toArray) : Does P l (.build t parts) ty w (.agg cs.toArray) w := by
 intro ρ hρ d pos af g
 have hpv : (parts.map fun (i, x) => (i, ρ x)).toList = pv := by
  rw [Array.toList_map]
  clear hc hpl
  generalize parts.toList = L at hp
  induction L generalizing pv with
  | nil => cases pv with
   | nil => rfl
   | cons _ _ => simp at hp
  | cons q r ih => cases pv with
   | nil => simp at hp
   | cons p pv =>
    simp only [List.map_cons, List.cons.injEq, Prod.mk.injEq] at hp
    rw [List.map_cons, ih _ hp.2]
    obtain ⟨p1, p2⟩ := p
    simp only at hp
    simp [hp.1.1, hρ _ _ hp.1.2]
 have hm : (fs.mapM (fun f => do pure (f.offset, ← sizeOf f.type) : Field → Sem (Nat × Nat))).run P w = .ok places.toArray w := by
  obtain ⟨fl⟩ := fs
  have h := run_places (P := P) w hpl
  rw [List.mapM_toArray]
  have e : ∀ F : Field → Sem (Nat × Nat), (List.toArray <$> (fl.mapM F)) = (fl.mapM F >>= fun x => pure x.toArray) := fun _ => rfl
  rw [e, Sem.run_bind, h]
  rfl
 simp only [execOp, Instr.build, Sem.run_bind, run_zero' hz, run_underlying ht, Result.andThen_ok, hm, hpv, hc]
 rfl
end
end Go.Proofs.Ytgfomedobfaidaa
end
section
set_option linter.unusedVariables false
set_option linter.unusedSimpArgs false
namespace Go.Proofs.Ytgfomedobfaidaa
open Go.RowKit
section
variable {ds : List Deferred} {P : Program} {N : Nat} {ops : Array Oper} {Q : Exit → Act → World → Prop}
def bodyOk (ops : Array Oper) (m : Nat) (l : List (Nat × Value)) : Bool :=
  ((List.range ops.size).all fun j => match ops[j]? with
    | some o => (o.after.all fun e => !Region.binds .any e || Nat.blt e.on j) &&
      (if j < m then (match o.dst with | some d => (lk l d).isNone && ((List.range m).all fun k => Nat.beq k j || (match ops[k]? with | some o' => o'.dst != some d | none => true)) | none => true)
       else if j = m then (List.range m).all fun k => o.after.any fun e => Region.binds .any e && Nat.beq e.on k
       else o.after.any fun e => Region.binds .any e && Nat.beq e.on (j - 1))
    | none => false) && Nat.ble m ops.size
structure BodyOk (ops : Array Oper) (m : Nat) (l : List (Nat × Value)) : Prop where
 le : m ≤ ops.size
 back : ∀ (j : Nat) (o : Oper), ops[j]? = some o → ∀ e ∈ o.after, Region.binds .any e = true → e.on < j
 fresh : ∀ (j : Nat) (o : Oper) (d : Nat), j < m → ops[j]? = some o → o.dst = some d → lk l d = none
 once : ∀ (j k : Nat) (o o' : Oper) (d : Nat), j < m → k < m → j ≠ k → ops[j]? = some o → ops[k]? = some o' → o.dst = some d → o'.dst ≠ some d
 atM : ∀ o, ops[m]? = some o → ∀ k, k < m → ∃ e ∈ o.after, Region.binds .any e = true ∧ e.on = k
 chain : ∀ (j : Nat) (o : Oper), m < j → ops[j]? = some o → ∃ e ∈ o.after, Region.binds .any e = true ∧ e.on = j - 1
theorem bodyOk_spec {m : Nat} {l : List (Nat × Value)} (h : bodyOk ops m l = true) : BodyOk ops m l := by
  unfold bodyOk at h
  rw [Bool.and_eq_true, List.all_eq_true] at h
  obtain ⟨h, hm⟩ := h
  have hle : m ≤ ops.size := Nat.le_of_ble_eq_true hm
  have key : ∀ (j : Nat) (o : Oper), ops[j]? = some o → (o.after.all fun e => !Region.binds .any e || Nat.blt e.on j) = true ∧
      (if j < m then (match o.dst with | some d => (lk l d).isNone && ((List.range m).all fun k => Nat.beq k j || (match ops[k]? with | some o' => o'.dst != some d | none => true)) | none => true)
       else if j = m then (List.range m).all fun k => o.after.any fun e => Region.binds .any e && Nat.beq e.on k
       else o.after.any fun e => Region.binds .any e && Nat.beq e.on (j - 1)) = true := by
    intro j o ho
    have hj : j < ops.size := (Array.getElem?_eq_some_iff.1 ho).1
    have := h j (List.mem_range.2 hj)
    simp only [ho, Bool.and_eq_true] at this
    exact this
  refine ⟨hle, ?_, ?_, ?_, ?_, ?_⟩
  · intro j o ho e he hb
    have := (Array.all_eq_true_iff_forall_mem.1 (key j o ho).1) e he
    simp only [hb, Bool.not_true, Bool.false_or] at this
    exact Nat.lt_of_not_le fun hle => by simp [Nat.blt] at this; omega
  · intro j o d hj ho hd
    have := (key j o ho).2
    rw [if_pos hj] at this
    simp only [hd, Bool.and_eq_true] at this
    simpa using this.1
  · intro j k o o' d hj hk hne ho ho' hd
    have := (key j o ho).2
    rw [if_pos hj] at this
    simp only [hd, Bool.and_eq_true, List.all_eq_true] at this
    have := this.2 k (List.mem_range.2 hk)
    simp only [ho', Bool.or_eq_true] at this
    rcases this with h1 | h1
    · exact absurd (Nat.eq_of_beq_eq_true h1).symm hne
    · simpa using h1
  · intro o ho k hk
    have := (key m o ho).2
    rw [if_neg (by omega), if_pos rfl, List.all_eq_true] at this
    have := this k (List.mem_range.2 hk)
    rw [← Array.any_toList, List.any_eq_true] at this
    obtain ⟨e, he, h1⟩ := this
    replace he := Array.mem_toList_iff.1 he
    rw [Bool.and_eq_true] at h1
    exact ⟨e, he, h1.1, Nat.eq_of_beq_eq_true h1.2⟩
  · intro j o hj ho
    have := (key j o ho).2
    rw [if_neg (by omega), if_neg (by omega)] at this
    rw [← Array.any_toList, List.any_eq_true] at this
    obtain ⟨e, he, h1⟩ := this
    replace he := Array.mem_toList_iff.1 he
    rw [Bool.and_eq_true] at h1
    exact ⟨e, he, h1.1, Nat.eq_of_beq_eq_true h1.2⟩
def dstOf (ops : Array Oper) (i : Nat) : Option Nat := (ops[i]?).bind (·.dst)
def waits (ops : Array Oper) (i j : Nat) : Bool := match ops[i]? with
 | some o => o.after.toList.any fun e => Region.binds .any e && Nat.beq e.on j
 | none => false
def Left (ops : Array Oper) (Φ : Nat → VP) (i : Nat) (lab : Lab) (w : World) (a : Act) : Prop :=
 ∀ d, dstOf ops i = some d → ∃ v, a.tmps[d]? = some v ∧ Φ i lab w v
def LeftU (ops : Array Oper) (Φ : Nat → VP) (i : Nat) (lab : Lab) (w : World) : Prop := dstOf ops i = none → ∃ v, Φ i lab w v
def OpLaw (ds : List Deferred) (P : Program) (N : Nat) (ops : Array Oper) (Q : Exit → Act → World → Prop) (l : List (Nat × Value)) (lab0 : Lab) (w0 : World) (Φ : Nat → VP) (T U : List Nat) (i : Nat) : Prop :=
 ∀ lab w a, Valid lab w → Stp T lab0 w0 lab w → Fr ds N l a → (∀ j, waits ops i j = true → Left ops Φ j lab w a) →
  wpOp P ops Q i (fun a' w' => ∃ lab' v, (∀ o, ops[i]? = some o → a' = a.put o.dst v) ∧ (∀ d, dstOf ops i = some d → d < N) ∧ Valid lab' w' ∧ Stp U lab w lab' w' ∧ Φ i lab' w' v) a w
theorem getD_set_iff {l : Array Bool} {i j : Nat} (hi : i < l.size) : (l.setIfInBounds i true).getD j false = true ↔ (j = i ∨ l.getD j false = true) := by
 by_cases h : i = j
 ·subst h; simp [hi]
 ·have e : (l.setIfInBounds i true).getD j false = l.getD j false := by simp [Array.getElem?_setIfInBounds_ne h]
  rw [e]
  exact ⟨fun x => .inr x, fun x => x.resolve_left (fun e => h e.symm)⟩
theorem wpAny_tail {m : Nat} {l : List (Nat × Value)} (hok : BodyOk ops m l) : ∀ (fuel p : Nat) (listed : Array Bool) (a : Act) (w : World), m ≤ p → p ≤ ops.size → fuel + p = ops.size → listed.size = ops.size →
  (∀ k, listed.getD k false = true ↔ k < p) → wpList P ops Q (ops.toList.drop p) a w → wpAny P .any ops Q fuel listed a w
 | 0, p, listed, a, w, hm, hp, hf, hs, hl, h => by
  have hpn : p = ops.size := by omega
  subst hpn
  have hr : Region.ready .any ops listed = [] := List.eq_nil_iff_forall_not_mem.2 fun j hj => by
   obtain ⟨h0, o, ho, _⟩ := mem_ready.1 hj
   have hj' : j < ops.size := (Array.getElem?_eq_some_iff.1 ho).1
   have h1 := (hl j).2 hj'
   simp [show j < listed.size by omega] at h0 h1
   rw [h0] at h1; cases h1
  refine ⟨hr, ?_⟩
  rw [List.drop_of_length_le (by simp)] at h
  exact h
 | fuel + 1, p, listed, a, w, hm, hp, hf, hs, hl, h => by
  have hpn : p < ops.size := by omega
  have hop : ops[p]? = some ops[p] := Array.getElem?_eq_getElem hpn
  have hready : p ∈ Region.ready .any ops listed := by
   rw [mem_ready]
   refine ⟨?_, ops[p], hop, fun e he hb => (hl _).2 (hok.back p _ hop e he hb)⟩
   have h1 : ¬ listed.getD p false = true := fun e => Nat.lt_irrefl p ((hl p).1 e)
   simpa [show p < listed.size by omega] using h1
  refine ⟨fun h0 => (by rw [h0] at hready; cases hready), fun i hi => ?_⟩
  obtain ⟨hi0, o, ho, hall⟩ := mem_ready.1 hi
  have hilt : i < ops.size := (Array.getElem?_eq_some_iff.1 ho).1
  have hip : i = p := by
   have h1 : ¬ i < p := fun h => by
    have := (hl i).2 h
    simp [show i < listed.size by omega] at hi0 this
    rw [hi0] at this; cases this
   by_cases h2 : i = p
   ·exact h2
   ·exfalso
    by_cases him : m < i
    ·obtain ⟨e, he, hb, hon⟩ := hok.chain i o him ho
     have := (hl _).1 (hall e he hb)
     omega
    ·omega
  subst hip
  have hoe : o = ops[i] := by rw [hop] at ho; exact (Option.some.inj ho).symm
  have hdrop : ops.toList.drop i = ops[i] :: ops.toList.drop (i + 1) := by
   rw [List.drop_eq_getElem_cons (by simpa using hpn)]; simp
  rw [hdrop] at h
  unfold wpOp
  rw [hop]
  unfold wpList at h
  have next : ∀ a w, wpList P ops Q (ops.toList.drop (i + 1)) a w → wpAny P .any ops Q fuel (listed.setIfInBounds i true) a w := fun a w h' =>
   wpAny_tail hok fuel (i + 1) _ a w (by omega) (by omega) (by omega) (by simp [hs]) (fun k => by rw [getD_set_iff (by omega), hl]; omega) h'
  dsimp only
  split
  ·rename_i hw
   rw [if_pos hw] at h
   exact h.imp (Oper.wp_mono next) id
  ·rename_i hw
   rw [if_neg hw] at h
   exact next _ _ h
theorem wpAny_body {m : Nat} {l : List (Nat × Value)} (hok : BodyOk ops m l) {lab0 : Lab} {w0 : World} {Φ : Nat → VP} {T : List Nat} {z : Nat}
  (hΦ : ∀ i, i < m → ∀ {lab w lab' w' v}, Stp [] lab w lab' w' → Φ i lab w v → Φ i lab' w' v) (hΦT : ∀ i, i < m → i ≠ z → ∀ {lab w lab' w' v}, Stp T lab w lab' w' → Φ i lab w v → Φ i lab' w' v)
  (hlaw : ∀ i, i < m → i ≠ z → OpLaw ds P N ops Q l lab0 w0 Φ T [] i) (hlawz : z < m → OpLaw ds P N ops Q l lab0 w0 Φ [] T z)
  (htail : ∀ lab w a, Valid lab w → Stp T lab0 w0 lab w → Fr ds N l a → (∀ i, i < m → Left ops Φ i lab w a) → (∀ i, i < m → LeftU ops Φ i lab w) → wpList P ops Q (ops.toList.drop m) a w) :
  ∀ (fuel c : Nat) (listed : Array Bool) (lab : Lab) (a : Act) (w : World), listed.size = ops.size → c ≤ m → c + fuel = ops.size → ((List.range m).filter fun k => listed.getD k false).length = c → (∀ k, listed.getD k false = true → k < m) →
   Valid lab w → Stp T lab0 w0 lab w → (listed.getD z false = false → Stp [] lab0 w0 lab w) → Fr ds N l a → (∀ i, i < m → listed.getD i false = true → Left ops Φ i lab w a) → (∀ i, i < m → listed.getD i false = true → LeftU ops Φ i lab w) → wpAny P .any ops Q fuel listed a w := by
 intro fuel
 induction fuel with
 | zero =>
  intro c listed lab a w hs hc hf hcnt hlm hv hst hst0 hfr hleft hleftU
  have hmn : m = ops.size := by have := hok.le; omega
  have hall : ∀ k, k < m → listed.getD k false = true := by
   intro k hk
   have hlen : ((List.range m).filter fun k => listed.getD k false).length = (List.range m).length := by simp; simp at hcnt; omega
   have := List.length_filter_eq_length_iff.1 hlen k (List.mem_range.2 hk)
   simpa using this
  exact wpAny_tail hok 0 m listed a w (Nat.le_refl _) hok.le (by omega) hs (fun k => ⟨hlm k, hall k⟩) (htail lab w a hv hst hfr (fun i hi => hleft i hi (hall i hi)) (fun i hi => hleftU i hi (hall i hi)))
 | succ fuel ih =>
  intro c listed lab a w hs hc hf hcnt hlm hv hst hst0 hfr hleft hleftU
  by_cases hall : ∀ k, k < m → listed.getD k false = true
  ·have hcm : c = m := by
    rw [← hcnt, List.filter_eq_self.2 (fun k hk => by simpa using hall k (List.mem_range.1 hk))]; simp
   exact wpAny_tail hok (fuel + 1) m listed a w (Nat.le_refl _) hok.le (by omega) hs (fun k => ⟨hlm k, hall k⟩) (htail lab w a hv hst hfr (fun i hi => hleft i hi (hall i hi)) (fun i hi => hleftU i hi (hall i hi)))
  ·have hex : ∃ k, k < m ∧ ¬ listed.getD k false = true := by
    refine Classical.byContradiction fun hno => hall fun k hk => Classical.byContradiction fun hk' => hno ⟨k, hk, hk'⟩
   obtain ⟨k0, ⟨hk0, hk0'⟩, hmin⟩ := exists_least hex
   have hk0s : k0 < ops.size := Nat.lt_of_lt_of_le hk0 hok.le
   have hready : k0 ∈ Region.ready .any ops listed := by
    rw [mem_ready]
    refine ⟨by simpa [show k0 < listed.size by omega] using hk0', ops[k0], Array.getElem?_eq_getElem hk0s, fun e he hb => ?_⟩
    have hlt := hok.back k0 _ (Array.getElem?_eq_getElem hk0s) e he hb
    refine Classical.byContradiction fun hno => ?_
    have := hmin e.on ⟨by omega, hno⟩
    omega
   refine ⟨fun h0 => (by rw [h0] at hready; cases hready), fun i hi => ?_⟩
   obtain ⟨hi0, o, ho, hwait⟩ := mem_ready.1 hi
   have his : i < ops.size := (Array.getElem?_eq_some_iff.1 ho).1
   have him : i < m := by
    refine Classical.byContradiction fun hge => ?_
    have hchain : ∀ d j, j = m + d → ∀ oj, ops[j]? = some oj → (∀ e ∈ oj.after, Region.binds .any e = true → listed.getD e.on false = true) → listed.getD k0 false = true := by
     intro d
     induction d with
     | zero =>
      intro j hj oj hoj hw
      subst hj
      obtain ⟨e, he, hb, hon⟩ := hok.atM oj hoj k0 hk0
      rw [← hon]; exact hw e he hb
     | succ d ihd =>
      intro j hj oj hoj hw
      obtain ⟨e, he, hb, hon⟩ := hok.chain j oj (by omega) hoj
      have h1 := hlm _ (hw e he hb)
      omega
    exact hk0' (hchain (i - m) i (by omega) o ho hwait)
   have hi0' : listed.getD i false = false := by simpa [show i < listed.size by omega] using hi0
   have hwaits : ∀ j, waits ops i j = true → Left ops Φ j lab w a := fun j hj => by
    unfold waits at hj
    simp only [ho] at hj
    rw [List.any_eq_true] at hj
    obtain ⟨e, he, h1⟩ := hj
    rw [Bool.and_eq_true] at h1
    have hej := Nat.eq_of_beq_eq_true h1.2
    subst hej
    replace he := Array.mem_toList_iff.1 he
    exact hleft e.on (Nat.lt_trans (hok.back i o ho e he h1.1) him) (hwait e he h1.1)
   have hthis : wpOp P ops Q i (fun a' w' => ∃ lab' v, (∀ o, ops[i]? = some o → a' = a.put o.dst v) ∧ (∀ d, dstOf ops i = some d → d < N) ∧ Valid lab' w' ∧ (Stp T lab0 w0 lab' w' ∧ (i ≠ z → Stp [] lab w lab' w') ∧ (i = z → Stp T lab w lab' w')) ∧ Φ i lab' w' v) a w := by
    by_cases hiz : i = z
    ·subst hiz
     refine wpOp_mono ?_ (hlawz him lab w a hv (hst0 hi0') hfr hwaits)
     rintro a' w' ⟨lab', v, h1, h2, h3, h4, h5⟩
     exact ⟨lab', v, h1, h2, h3, ⟨(hst0 hi0').trans h4, fun e => absurd rfl e, fun _ => h4⟩, h5⟩
    ·refine wpOp_mono ?_ (hlaw i him hiz lab w a hv hst hfr hwaits)
     rintro a' w' ⟨lab', v, h1, h2, h3, h4, h5⟩
     exact ⟨lab', v, h1, h2, h3, ⟨(hst.trans h4).more (by simp), fun _ => h4, fun e => absurd e hiz⟩, h5⟩
   refine wpOp_mono ?_ hthis
   rintro a' w' ⟨lab', v, hput, hdN, hv', ⟨hst', hstn, hstz⟩, hphi⟩
   obtain rfl := hput o ho
   replace hdN : ∀ d, o.dst = some d → d < N := fun d hd => hdN d (by simp [dstOf, ho, hd])
   have hfr' : Fr ds N l (a.put o.dst v) := by
    cases hd : o.dst with
    | none => exact hfr
    | some d =>
     refine ⟨hfr.defers, by simp [Act.put, hfr.size], fun t u hu => ?_⟩
     have hne : d ≠ t := fun e => by subst e; rw [hok.fresh i o d him ho hd] at hu; cases hu
     simp only [Act.put, Array.getElem?_setIfInBounds_ne hne]
     exact hfr.at_ t u hu
   refine ih (c + 1) _ lab' _ w' (by simp [hs]) ?_ (by omega) ?_ (fun k hk => by rw [getD_set_iff (by omega)] at hk; rcases hk with rfl | hk; exact him; exact hlm k hk) hv' hst' (fun hz => by
    have hzi : i ≠ z := fun e => by subst e; have := (getD_set_iff (l := listed) (i := i) (j := i) (by omega)).2 (.inl rfl); rw [hz] at this; cases this
    have hz0 : listed.getD z false = false := by
     cases hq : listed.getD z false with
     | false => rfl
     | true => have := (getD_set_iff (l := listed) (i := i) (j := z) (by omega)).2 (.inr hq); rw [hz] at this; cases this
    exact (hst0 hz0).trans (hstn hzi)) hfr' ?_ ?_
   ·
    have : ((List.range m).filter fun k => listed.getD k false).length < (List.range m).length := by
     refine Nat.lt_of_le_of_ne (List.length_filter_le _ _) fun e => ?_
     have := List.length_filter_eq_length_iff.1 e k0 (List.mem_range.2 hk0)
     exact hk0' (by simpa using this)
    rw [hcnt] at this; simp at this; omega
   ·have hcount : ∀ n, n ≤ m → ((List.range n).filter fun k => (listed.setIfInBounds i true).getD k false).length = ((List.range n).filter fun k => listed.getD k false).length + (if i < n then 1 else 0) := by
     intro n
     induction n with
     | zero => intro _; simp
     | succ n ihn =>
      intro hn
      rw [List.range_succ, List.filter_append, List.filter_append, List.length_append, List.length_append, ihn (by omega)]
      have h1 : (listed.setIfInBounds i true).getD n false = (if n = i then true else listed.getD n false) := by
       rw [Bool.eq_iff_iff, getD_set_iff (by omega)]
       split <;> simp_all
      by_cases hni : n = i
      ·subst hni
       simp only [List.filter_cons, h1, if_true, hi0', List.filter_nil, Bool.false_eq_true, if_false, List.length_cons, List.length_nil]
       rw [if_neg (by omega), if_pos (by omega)]
      ·rw [List.filter_cons, List.filter_cons, h1, if_neg hni]
       have h2 : (if i < n + 1 then 1 else 0) = (if i < n then 1 else 0) := by split <;> split <;> omega
       rw [h2]
       split <;> simp <;> omega
    rw [hcount m (Nat.le_refl _), if_pos him, hcnt]
   ·intro j hj hlj
    rw [getD_set_iff (by omega)] at hlj
    intro d hjd
    obtain ⟨oj, hoj, hd⟩ : ∃ oj, ops[j]? = some oj ∧ oj.dst = some d := by
     unfold dstOf at hjd
     cases hq : ops[j]? with
     | none => simp [hq] at hjd
     | some oj => exact ⟨oj, rfl, by simpa [hq] using hjd⟩
    by_cases hji : j = i
    ·subst hji
     rw [ho] at hoj
     cases hoj
     refine ⟨v, ?_, hphi⟩
     simp [hd, Act.put, hfr.size, hdN d hd]
    ·obtain ⟨u, hu, hphij⟩ := hleft j hj (hlj.resolve_left hji) d hjd
     refine ⟨u, ?_, (if hjz : i = z then hΦT j hj (fun e => hji (e.trans hjz.symm)) (hstz hjz) hphij else hΦ j hj (hstn hjz) hphij)⟩
     cases hdi : o.dst with
     | none => exact hu
     | some di =>
      have hne : di ≠ d := fun e => hok.once j i oj o d hj him hji hoj ho hd (by rw [hdi, e])
      simp only [Act.put, Array.getElem?_setIfInBounds_ne hne]
      exact hu
   ·intro j hj hlj hjn
    rw [getD_set_iff (by omega)] at hlj
    by_cases hji : j = i
    ·subst hji; exact ⟨v, hphi⟩
    ·obtain ⟨u, hu⟩ := hleftU j hj (hlj.resolve_left hji) hjn
     exact ⟨u, if hjz : i = z then hΦT j hj (fun e => hji (e.trans hjz.symm)) (hstz hjz) hu else hΦ j hj (hstn hjz) hu⟩
theorem anyCore {m : Nat} {l : List (Nat × Value)} {lab : Lab} {w : World} (hok : bodyOk ops m l = true) (hv : Valid lab w) (Φ : Nat → VP)
  (hΦ : ∀ i, i < m → ∀ {lab w lab' w' v}, Stp [] lab w lab' w' → Φ i lab w v → Φ i lab' w' v)
  (hlaw : ∀ w0, Stp [] lab w lab w0 → ∀ i, i < m → OpLaw ds P N ops Q l lab w0 Φ [] [] i)
  (htail : ∀ lab' w' a, Valid lab' w' → Stp [] lab w lab' w' → Fr ds N l a → (∀ i, i < m → Left ops Φ i lab' w' a) → wpList P ops Q (ops.toList.drop m) a w') : ∀ a, Fr ds N l a → wpAny P .any ops Q ops.size (Array.replicate ops.size false) a { w with drawn := w.drawn + 1 } := by
 intro a ha
 have h0 : ∀ k, (Array.replicate ops.size false).getD k false = false := fun k => by
  simp [Array.getElem?_replicate]
  split <;> simp
 have hst : Stp [] lab w lab { w with drawn := w.drawn + 1 } := Stp.drew lab w
 refine wpAny_body (T := []) (z := ops.size) (bodyOk_spec hok) hΦ (fun i hi _ => hΦ i hi) (fun i hi _ => hlaw _ hst i hi) (fun hz => absurd (bodyOk_spec hok).le (by omega)) (fun lab' w' a hv' hs' hf' hl' _ => htail lab' w' a hv' (hst.trans hs') hf' hl') ops.size 0 _ lab a _ (by simp) (Nat.zero_le _) (by omega) ?_ (fun k hk => by rw [h0] at hk; cases hk) (hv.below (Nat.le_refl _)) (Stp.refl _ _) (fun _ => Stp.refl _ _) ha (fun i _ hi => by rw [h0] at hi; cases hi) (fun i _ hi => by rw [h0] at hi; cases hi)
 simp [h0]
theorem Run.any {id m : Nat} {l : List (Nat × Value)} {lab : Lab} {w : World} (hm : P.follows .mixedOrders = true) (hok : bodyOk ops m l = true) (hv : Valid lab w) (Φ : Nat → VP)
  (hΦ : ∀ i, i < m → ∀ {lab w lab' w' v}, Stp [] lab w lab' w' → Φ i lab w v → Φ i lab' w' v)
  (hlaw : ∀ w0, Stp [] lab w lab w0 → ∀ i, i < m → OpLaw ds P N ops Q l lab w0 Φ [] [] i)
  (htail : ∀ lab' w' a, Valid lab' w' → Stp [] lab w lab' w' → Fr ds N l a → (∀ i, i < m → Left ops Φ i lab' w' a) → wpList P ops Q (ops.toList.drop m) a w') : Run ds P N Q (.region id ops true) l w := fun a ha => wp_region_any hm (anyCore hok hv Φ hΦ hlaw htail a ha)
def Is (u : Value) : VP := fun _ _ v => v = u
theorem Is.pers (u : Value) : Pers (Is u) := ⟨fun _ h => h⟩
def phi (L : List VP) (i : Nat) : VP := L.getD i (fun _ _ _ => True)
structure Pers0 (V : VP) : Prop where
 step : ∀ {lab : Lab} {w : World} {lab' : Lab} {w' : World} {v : Value}, Stp [] lab w lab' w' → V lab w v → V lab' w' v
theorem Pers.z {V : VP} (h : Pers V) : Pers0 V := ⟨fun s hv => h.step s hv⟩
def PersL : List VP → Prop
 | [] => True
 | V :: r => Pers0 V ∧ PersL r
theorem phi_pers : ∀ {L : List VP}, PersL L → ∀ i, i < L.length → ∀ {lab w lab' w' v}, Stp [] lab w lab' w' → phi L i lab w v → phi L i lab' w' v
 | [], _, i, hi => absurd hi (by simp)
 | V :: r, h, 0, _ => fun s hv => h.1.step s hv
 | V :: r, h, i + 1, hi => fun s hv => phi_pers (L := r) h.2 i (by simpa using hi) s hv
def LawsFrom (p : Nat → Prop) : Nat → Nat → Prop
 | _, 0 => True
 | i, n + 1 => p i ∧ LawsFrom p (i + 1) n
theorem lawsFrom {p : Nat → Prop} : ∀ (n k : Nat), LawsFrom p k n → ∀ i, k ≤ i → i < k + n → p i
 | 0, k, _, i, h1, h2 => absurd h2 (by omega)
 | n + 1, k, h, i, h1, h2 => by
  by_cases e : i = k
  ·subst e; exact h.1
  ·exact lawsFrom n (k + 1) h.2 i (by omega) (by omega)
theorem laws {p : Nat → Prop} {n : Nat} (h : LawsFrom p 0 n) : ∀ i, i < n → p i := fun i hi => lawsFrom n 0 h i (Nat.zero_le _) (by omega)
theorem Fr.ext {l : List (Nat × Value)} {a : Act} {d : Nat} {v : Value} (h : Fr ds N l a) (hv : a.tmps[d]? = some v) : Fr ds N ((d, v) :: l) a :=
 ⟨h.defers, h.size, fun t u hu => by
  simp only [lk] at hu
  cases hb : Nat.beq d t with
  | true =>
   have : d = t := Nat.eq_of_beq_eq_true hb
   subst this
   simp [hb] at hu
   subst hu
   exact hv
  | false => simp [hb] at hu; exact h.at_ _ _ hu⟩
theorem law_val {l : List (Nat × Value)} {lab0 : Lab} {w0 : World} {Φ : Nat → VP} {T U : List Nat} {i d : Nat} {op : Op} {ty : TypeId} {pos : String} {af : Array Edge} (ho : ops[i]? = some ⟨some d, op, ty, pos, af, none⟩) (hd : d < N)
  (h : ∀ lab w a, Valid lab w → Stp T lab0 w0 lab w → Fr ds N l a → (∀ j, waits ops i j = true → Left ops Φ j lab w a) → ∃ l' v lab' w', Fr ds N l' a ∧ Does P l' op ty w v w' ∧ Valid lab' w' ∧ Stp U lab w lab' w' ∧ Φ i lab' w' v) : OpLaw ds P N ops Q l lab0 w0 Φ T U i := by
 intro lab w a hv hs hf hl
 obtain ⟨l', v, lab', w', hf', hdo, hv', hs', hphi⟩ := h lab w a hv hs hf hl
 unfold wpOp
 simp only [ho]
 rw [if_pos (by simp [Region.wanted])]
 refine .inl ?_
 unfold Oper.wp
 rw [hdo a.eval (fun x u hu => hf'.eval hu)]
 exact ⟨lab', v, fun o h => by cases h; rfl, fun d' h => by simp [dstOf, ho] at h; subst h; exact hd, hv', hs', hphi⟩
theorem law_val_on {l : List (Nat × Value)} {lab0 : Lab} {w0 : World} {Φ : Nat → VP} {T U : List Nat} {i d : Nat} {op : Op} {ty : TypeId} {pos : String} {af : Array Edge} {g dg : Nat} {b : Bool} (ho : ops[i]? = some ⟨some d, op, ty, pos, af, some (g, b)⟩) (hd : d < N) (hg : dstOf ops g = some dg) (hw : waits ops i g = true) (hb : ∀ lab w v, Φ g lab w v → v = .bool b)
  (h : ∀ lab w a, Valid lab w → Stp T lab0 w0 lab w → Fr ds N l a → (∀ j, waits ops i j = true → Left ops Φ j lab w a) → ∃ l' v lab' w', Fr ds N l' a ∧ Does P l' op ty w v w' ∧ Valid lab' w' ∧ Stp U lab w lab' w' ∧ Φ i lab' w' v) : OpLaw ds P N ops Q l lab0 w0 Φ T U i := by
 intro lab w a hv hs hf hl
 obtain ⟨l', v, lab', w', hf', hdo, hv', hs', hphi⟩ := h lab w a hv hs hf hl
 obtain ⟨vg, hvg, hpg⟩ := hl g hw dg hg
 have hvb := hb _ _ _ hpg
 subst hvb
 have hy : yielded ops a.tmps g = some b := by simp only [yielded]; unfold dstOf at hg; simp [hg, hvg]
 unfold wpOp
 simp only [ho]
 rw [if_pos (by simp [Region.wanted, hy])]
 refine .inl ?_
 unfold Oper.wp
 rw [hdo a.eval (fun x u hu => hf'.eval hu)]
 exact ⟨lab', v, fun o h => by cases h; rfl, fun d' h => by simp [dstOf, ho] at h; subst h; exact hd, hv', hs', hphi⟩
theorem law_off {l : List (Nat × Value)} {lab0 : Lab} {w0 : World} {Φ : Nat → VP} {T : List Nat} {i d : Nat} {op : Op} {ty : TypeId} {pos : String} {af : Array Edge} {g dg : Nat} {b c : Bool} (ho : ops[i]? = some ⟨some d, op, ty, pos, af, some (g, c)⟩) (hd : d < N) (hg : dstOf ops g = some dg) (hw : waits ops i g = true) (hb : ∀ lab w v, Φ g lab w v → v = .bool b) (hne : (b == c) = false) (hphi : ∀ lab w, Φ i lab w undef) : OpLaw ds P N ops Q l lab0 w0 Φ T [] i := by
 intro lab w a hv hs hf hl
 obtain ⟨vg, hvg, hpg⟩ := hl g hw dg hg
 have hvb := hb _ _ _ hpg
 subst hvb
 have hy : yielded ops a.tmps g = some b := by simp only [yielded]; unfold dstOf at hg; simp [hg, hvg]
 unfold wpOp
 simp only [ho]
 rw [if_neg (by simp [Region.wanted, hy]; intro e; subst e; simp at hne)]
 exact ⟨lab, undef, fun o h => by cases h; rfl, fun d' h => by simp [dstOf, ho] at h; subst h; exact hd, hv, Stp.refl _ _, hphi _ _⟩
theorem law_call {l : List (Nat × Value)} {lab0 : Lab} {w0 : World} {Φ : Nat → VP} {T : List Nat} {i d : Nat} {f : Nat} {xs : List Operand} {tys : Array TypeId} {ty : TypeId} {pos : String} {af : Array Edge} (ho : ops[i]? = some ⟨some d, .call ⟨.value (.func f), xs.toArray, tys⟩, ty, pos, af, none⟩) (hd : d < N) (hfc : Callable P f)
  (h : ∀ lab w a, Valid lab w → Stp T lab0 w0 lab w → Fr ds N l a → (∀ j, waits ops i j = true → Left ops Φ j lab w a) → ∃ l' vs, Fr ds N l' a ∧ evs l' xs = some vs ∧ Calls P f vs.toArray w (fun e w' => ∃ v, e = .returned v ∧ Φ i lab w' v ∧ Below w.heap.size w w')) : OpLaw ds P N ops Q l lab0 w0 Φ T [] i := by
 intro lab w a hv hs hf hl
 obtain ⟨l', vs, hf', hx, hc⟩ := h lab w a hv hs hf hl
 unfold wpOp
 simp only [ho]
 rw [if_pos (by simp [Region.wanted])]
 refine .inl ?_
 unfold Oper.wp
 rw [run_call hfc hx w a.eval (fun x u hu => hf'.eval hu)]
 refine Calls.mono hc ?_
 rintro e w' ⟨v, rfl, hphi, hb⟩
 exact ⟨lab, v, fun o h => by cases h; rfl, fun d' h => by simp [dstOf, ho] at h; subst h; exact hd, hv.below hb.size, Stp.below hb, hphi⟩
theorem law_call_on {l : List (Nat × Value)} {lab0 : Lab} {w0 : World} {Φ : Nat → VP} {T : List Nat} {i d : Nat} {f : Nat} {xs : List Operand} {tys : Array TypeId} {ty : TypeId} {pos : String} {af : Array Edge} {g dg : Nat} {b : Bool} (ho : ops[i]? = some ⟨some d, .call ⟨.value (.func f), xs.toArray, tys⟩, ty, pos, af, some (g, b)⟩) (hd : d < N) (hg : dstOf ops g = some dg) (hw : waits ops i g = true) (hb : ∀ lab w v, Φ g lab w v → v = .bool b) (hfc : Callable P f)
  (h : ∀ lab w a, Valid lab w → Stp T lab0 w0 lab w → Fr ds N l a → (∀ j, waits ops i j = true → Left ops Φ j lab w a) → ∃ l' vs, Fr ds N l' a ∧ evs l' xs = some vs ∧ Calls P f vs.toArray w (fun e w' => ∃ v, e = .returned v ∧ Φ i lab w' v ∧ Below w.heap.size w w')) : OpLaw ds P N ops Q l lab0 w0 Φ T [] i := by
 intro lab w a hv hs hf hl
 obtain ⟨l', vs, hf', hx, hc⟩ := h lab w a hv hs hf hl
 obtain ⟨vg, hvg, hpg⟩ := hl g hw dg hg
 have hvb := hb _ _ _ hpg
 subst hvb
 have hy : yielded ops a.tmps g = some b := by simp only [yielded]; unfold dstOf at hg; simp [hg, hvg]
 unfold wpOp
 simp only [ho]
 rw [if_pos (by simp [Region.wanted, hy])]
 refine .inl ?_
 unfold Oper.wp
 rw [run_call hfc hx w a.eval (fun x u hu => hf'.eval hu)]
 refine Calls.mono hc ?_
 rintro e w' ⟨v, rfl, hphi, hb⟩
 exact ⟨lab, v, fun o h => by cases h; rfl, fun d' h => by simp [dstOf, ho] at h; subst h; exact hd, hv.below hb.size, Stp.below hb, hphi⟩
def BoxF (k : Nat) (t : TypeId) (cs : List Value) : VP := fun lab w v => ∃ b, v = .pointer (some ⟨b, 0, none⟩) ∧ Own lab w k b t cs.toArray
theorem BoxF.pers (k : Nat) (t : TypeId) (cs : List Value) : Pers0 (BoxF k t cs) := ⟨fun s ⟨b, h1, h2⟩ => ⟨b, h1, h2.lift s (by simp)⟩⟩
def idx (k : Nat) : List Value → List (Nat × Value)
 | [] => []
 | v :: r => (k, v) :: idx (k + 1) r
theorem lk_idx : ∀ (args : List Value) (k t : Nat) (v : Value), lk (idx k args) t = some v → k ≤ t ∧ args[t - k]? = some v
 | [], k, t, v, h => by simp [idx, lk] at h
 | u :: r, k, t, v, h => by
  simp only [idx, lk] at h
  cases hb : Nat.beq k t with
  | true =>
   have : k = t := Nat.eq_of_beq_eq_true hb
   subst this
   simp [hb] at h
   simp [h]
  | false =>
   simp [hb] at h
   have hne := Nat.ne_of_beq_eq_false hb
   obtain ⟨h1, h2⟩ := lk_idx r (k + 1) t v h
   refine ⟨by omega, ?_⟩
   rw [show t - k = (t - (k + 1)) + 1 by omega]
   simpa using h2
theorem calls_run {f : FuncId} {fn : Func} {c : Code} {args : List Value} {w : World} {R : Ending → World → Prop} (hf : P.funcs[f]? = some fn) (hb : fn.body = some c) (hn : fn.ntmps = N) (ha : args.length ≤ N)
  (h : Run [] P N (bodyPost P fn R) c (idx 0 args) w) : Calls P f args.toArray w R := by
 refine calls_of_wp hf hb (h _ ⟨rfl, ?_, fun t v ht => ?_⟩)
 ·simp [hn]; omega
 ·obtain ⟨_, h1⟩ := lk_idx args 0 t v ht
  have hlt : t < args.length := (List.getElem?_eq_some_iff.1 h1).1
  show (args.toArray ++ Array.replicate _ undef)[t]? = some v
  rw [Array.getElem?_append_left (by simpa using hlt)]
  simpa using h1
def resAt (P : Program) (l : List (Nat × Value)) (w : World) : ResultVar → Value → Prop
 | .tmp t, v => lk l t = some v
 | .cell t ty, v => ∃ a, lk l t = some (.pointer (some a)) ∧ (loadVar ty a).run P w = .ok v w
def resF (tmps : Array Value) : ResultVar → Sem Value
 | .tmp t => pure (tmps.getD t undef)
 | .cell a t => do loadVar t (← asAddr (tmps.getD a undef))
theorem results_resF (fn : Func) (tmps : Array Value) : results fn tmps = (do let vs ← fn.results.mapM (resF tmps); pure (if h : vs.size = 1 then vs[0] else .tuple vs)) := by
 unfold results
 congr 2
theorem run_resAt {l : List (Nat × Value)} {w : World} {a : Act} (ha : Fr ds N l a) {r : ResultVar} {v : Value} (h : resAt P l w r v) : (resF a.tmps r).run P w = .ok v w := by
 cases r with
 | tmp t => have := ha.at_ _ _ h; simp [resF, this]
 | cell c t =>
  obtain ⟨ad, h1, h2⟩ := h
  have := ha.at_ _ _ h1
  simp [resF, this, asAddr, h2]
theorem mapM_one {F : ResultVar → Sem Value} {w : World} {r : ResultVar} {v : Value} (h : (F r).run P w = .ok v w) : ((#[r] : Array ResultVar).mapM F).run P w = .ok #[v] w := by
 simp [List.mapM_toArray, h]
theorem mapM_two {F : ResultVar → Sem Value} {w : World} {r s : ResultVar} {v u : Value} (h : (F r).run P w = .ok v w) (h' : (F s).run P w = .ok u w) : ((#[r, s] : Array ResultVar).mapM F).run P w = .ok #[v, u] w := by
 simp [List.mapM_toArray, h, h']
theorem mapM_three {F : ResultVar → Sem Value} {w : World} {r s q : ResultVar} {v u x : Value} (h : (F r).run P w = .ok v w) (h' : (F s).run P w = .ok u w) (h'' : (F q).run P w = .ok x w) : ((#[r, s, q] : Array ResultVar).mapM F).run P w = .ok #[v, u, x] w := by
 simp [List.mapM_toArray, h, h', h'']
theorem post_none {fn : Func} {R : Ending → World → Prop} {l : List (Nat × Value)} {w : World} (hr : fn.results = #[]) (hR : R (.returned (.tuple #[])) w) : ∀ a, Fr [] N l a → bodyPost P fn R .ret a w := by
 intro a ha
 exact bodyPost_ret (results_none hr _ _ _) ha.defers hR
theorem post_one {fn : Func} {R : Ending → World → Prop} {l : List (Nat × Value)} {w : World} {r : ResultVar} {v : Value} (hr : fn.results = #[r]) (h : resAt P l w r v) (hR : R (.returned v) w) : ∀ a, Fr [] N l a → bodyPost P fn R .ret a w := by
 intro a ha
 refine bodyPost_ret (v := v) ?_ ha.defers hR
 rw [results_resF, hr]
 simp only [Sem.run_bind, mapM_one (run_resAt ha h), Result.andThen_ok]
 rfl
theorem post_two {fn : Func} {R : Ending → World → Prop} {l : List (Nat × Value)} {w : World} {r s : ResultVar} {v u : Value} (hr : fn.results = #[r, s]) (h : resAt P l w r v) (h' : resAt P l w s u) (hR : R (.returned (.tuple #[v, u])) w) : ∀ a, Fr [] N l a → bodyPost P fn R .ret a w := by
 intro a ha
 refine bodyPost_ret (v := .tuple #[v, u]) ?_ ha.defers hR
 rw [results_resF, hr]
 simp only [Sem.run_bind, mapM_two (run_resAt ha h) (run_resAt ha h'), Result.andThen_ok]
 rfl
theorem post_three {fn : Func} {R : Ending → World → Prop} {l : List (Nat × Value)} {w : World} {r s q : ResultVar} {v u x : Value} (hr : fn.results = #[r, s, q]) (h : resAt P l w r v) (h' : resAt P l w s u) (h'' : resAt P l w q x) (hR : R (.returned (.tuple #[v, u, x])) w) : ∀ a, Fr [] N l a → bodyPost P fn R .ret a w := by
 intro a ha
 refine bodyPost_ret (v := .tuple #[v, u, x]) ?_ ha.defers hR
 rw [results_resF, hr]
 simp only [Sem.run_bind, mapM_three (run_resAt ha h) (run_resAt ha h') (run_resAt ha h''), Result.andThen_ok]
 rfl
variable {l : List (Nat × Value)} {rest : List Oper} {w : World} {lab : Lab}
theorem Seq.box {d k : Nat} {t : TypeId} {x : Operand} {v : Value} (cs : List Value) {ty : TypeId} {pos : String} {af : Array Edge} (hv : Valid lab w) (hx : ev l x = some v) (hc : v.cells = cs.toArray) (hd : d < N)
  (h : ∀ lab' w' b, Own lab' w' k b t cs.toArray → Stp [] lab w lab' w' → Valid lab' w' → Seq ds P N ops Q ((d, .pointer (some ⟨b, 0, none⟩)) :: l) rest w') : Seq ds P N ops Q l (⟨some d, .box t x, ty, pos, af, none⟩ :: rest) w :=
 Seq.val (Does.box hx) hd (h _ _ w.heap.size (by rw [hc]; exact Own.alloc lab w _ t k) (Stp.alloc _ k) (hv.alloc _ k))
theorem Seq.alloc {d k : Nat} {t : TypeId} {ag : Bool} {n by_ : Nat} {z : Value} (cs : List Value) {ty : TypeId} {pos : String} {af : Array Edge} (hv : Valid lab w) (ht : tyRow P t = some (ag, n, some z, by_)) (hc : z.cells = cs.toArray) (hd : d < N)
  (h : ∀ lab' w' b, Own lab' w' k b t cs.toArray → Stp [] lab w lab' w' → Valid lab' w' → Seq ds P N ops Q ((d, .pointer (some ⟨b, 0, none⟩)) :: l) rest w') : Seq ds P N ops Q l (⟨some d, .alloc t, ty, pos, af, none⟩ :: rest) w :=
 Seq.val (Does.alloc ht) hd (h _ _ w.heap.size (by rw [hc]; exact Own.alloc lab w _ t k) (Stp.alloc _ k) (hv.alloc _ k))
theorem Seq.store {k b o : Nat} {t t' : TypeId} {x y : Operand} {v : Value} {ag : Bool} {n by_ : Nat} {z : Option Value} {arr : Array Value} (arr' : List Value) {ty : TypeId} {pos : String} {af : Array Edge} (hv : Valid lab w) (hO : Own lab w k b t' arr) (ht : tyRow P t = some (ag, n, z, by_)) (hx : ev l x = some (.pointer (some ⟨b, o, none⟩))) (hy : ev l y = some v)
  (hn : v.cells.size = n) (ho : o + n ≤ arr.size) (h1 : v.cells.toList.all (·.oneCell') = true) (ha : (arr.toList.take o ++ v.cells.toList ++ arr.toList.drop (o + n)).toArray = arr'.toArray)
  (h : ∀ w', Own lab w' k b t' arr'.toArray → Stp [k] lab w lab w' → Valid lab w' → Seq ds P N ops Q l rest w') : Seq ds P N ops Q l (⟨none, .store t x y, ty, pos, af, none⟩ :: rest) w :=
 Seq.unit (Does.store arr'.toArray hO ht hx hy hn ho h1 ha) (h _ (hO.set _) (Stp.set hO.1 _) (hv.set _ _))
theorem Seq.callS {d : Nat} {f : Nat} {xs : List Operand} {tys : Array TypeId} {ty : TypeId} {pos : String} {af : Array Edge} {vs : List Value} {V : VP} (hf : Callable P f) (hv : Valid lab w) (hx : evs l xs = some vs) (hd : d < N)
  (hc : Calls P f vs.toArray w (fun e w' => ∃ v, e = .returned v ∧ V lab w' v ∧ Below w.heap.size w w'))
  (h : ∀ v w', V lab w' v → Stp [] lab w lab w' → Valid lab w' → Seq ds P N ops Q ((d, v) :: l) rest w') : Seq ds P N ops Q l (⟨some d, .call ⟨.value (.func f), xs.toArray, tys⟩, ty, pos, af, none⟩ :: rest) w :=
 Seq.call hf hx hd hc fun v w' ⟨h1, h2⟩ => h v w' h1 (Stp.below h2) (hv.below h2.size)
theorem Seq.go {y : Code} {Q' : Exit → Act → World → Prop} (hQ : ∀ a w, y.wp P Q' a w → Q .normal a w) (h : Run ds P N Q' y l w) : Seq ds P N ops Q l [] w := Seq.nil fun a ha => hQ a w (h a ha)
theorem Run.skip_go {y : Code} {Q' : Exit → Act → World → Prop} (hQ : ∀ a w, y.wp P Q' a w → Q .normal a w) (h : Run ds P N Q' y l w) : Run ds P N Q .skip l w := Run.skip fun a ha => hQ a w (h a ha)
theorem Run.exit_go {id : Nat} {y : Code} {Q' : Exit → Act → World → Prop} (hQ : ∀ a w, y.wp P Q' a w → Q (.exit id) a w) (h : Run ds P N Q' y l w) : Run ds P N Q (.exit id) l w := Run.exit fun a ha => hQ a w (h a ha)
theorem ret_then {K : Act → World → Prop} (h : ∀ a, Fr ds N l a → Q .ret a w) : ∀ a, Fr ds N l a → Exit.then K Q .ret a w := h
theorem ret_block {id : Nat} (h : ∀ a, Fr ds N l a → Q .ret a w) : ∀ a, Fr ds N l a → Exit.inBlock id Q .ret a w := h
theorem Run.cond_b {c : Operand} {x y : Code} {b b' : Bool} (hc : ev l c = some (.bool b')) (he : b' = b) (h : Run ds P N Q (match b with | true => x | false => y) l w) : Run ds P N Q (.cond c x y) l w := by
 subst he
 cases b'
 ·exact Run.cond_false hc h
 ·exact Run.cond_true hc h
theorem Seq.guard_on' {d : Option Nat} {op : Op} {ty : TypeId} {pos : String} {af : Array Edge} {g : Nat} {b b' : Bool} {dg : Nat} (hg : (ops[g]?).bind (·.dst) = some dg) (hb : lk l dg = some (.bool b')) (he : b' = b)
  (h : Seq ds P N ops Q l (⟨d, op, ty, pos, af, none⟩ :: rest) w) : Seq ds P N ops Q l (⟨d, op, ty, pos, af, some (g, b)⟩ :: rest) w := by
 subst he; exact Seq.guard_on hg hb h
theorem Seq.guard_off' {d : Nat} {op : Op} {ty : TypeId} {pos : String} {af : Array Edge} {g : Nat} {b b' c : Bool} {dg : Nat} (hg : (ops[g]?).bind (·.dst) = some dg) (hb : lk l dg = some (.bool b')) (he : b' = b) (hne : (b == c) = false) (hd : d < N)
  (h : Seq ds P N ops Q ((d, undef) :: l) rest w) : Seq ds P N ops Q l (⟨some d, op, ty, pos, af, some (g, c)⟩ :: rest) w := by
 subst he; exact Seq.guard_off hg hb hne hd h
theorem Does.pick_b {ty : TypeId} {c x y : Operand} {b b' : Bool} {v : Value} (hc : ev l c = some (.bool b')) (he : b' = b) (h : ev l (match b with | true => x | false => y) = some v) : Does P l (.pick c x y) ty w v w := by
 subst he
 cases b'
 ·exact Does.pick_f hc h
 ·exact Does.pick_t hc h
theorem bdich (b : Bool) : b = true ∨ b = false := by cases b <;> simp
theorem Seq.start {m : Nat} {a : Act} (hf : Fr ds N l a) (h : Seq ds P N ops Q l (ops.toList.drop m) w) : wpList P ops Q (ops.toList.drop m) a w := h a hf
theorem Own.loadN {t t' : TypeId} {by_ : Nat} {z : Option Value} {d b o : Nat} {arr : Array Value} (cs : List Value) (h : Own lab w d b t' arr) (ht : tyRow P t = some (true, cs.length, z, by_)) (hv : (arr.toList.drop o).take cs.length = cs) : (loadVar t ⟨b, o, none⟩).run P w = .ok (.agg cs.toArray) w :=
 run_loadVar_agg ht (fun j v hj => by
  rw [add_flat, h.cell]
  have hjl : j < cs.length := (List.getElem?_eq_some_iff.1 hj).1
  rw [← hv, List.getElem?_take_of_lt hjl, List.getElem?_drop] at hj
  simpa using hj)
theorem ent_step (lab : Lab) (w : World) : ∃ U, Stp U lab w (ent lab) w :=
 ⟨(List.range w.heap.size).filterMap lab, rfl, rfl, rfl, Nat.le_refl _, fun k hk e => ⟨ent_none.2 e, rfl⟩, fun k d hk e hd => absurd (List.mem_filterMap.2 ⟨k, by simpa using hk, e⟩) hd⟩
theorem isBool {b b' : Bool} (e : b = b') (lab : Lab) (w : World) : Is (.bool b') lab w (.bool b) := by subst e; rfl
theorem isI64 {b b' : Int} (e : b = b') (lab : Lab) (w : World) : Is (i64 b') lab w (i64 b) := by subst e; rfl
theorem isU32 {b b' : UInt32} (e : b = b') (lab : Lab) (w : World) : Is (u32 b') lab w (u32 b) := by subst e; rfl
theorem Is.out {u v : Value} {lab : Lab} {w : World} (h : Is u lab w v) : v = u := h
end
end Go.Proofs.Ytgfomedobfaidaa
end
section
set_option linter.unusedVariables false
set_option linter.unusedSimpArgs false
namespace Go.Proofs.Ytgfomedobfaidaa
open Go.RowKit
def And2 (V U : VP) : VP := fun lab w v => ∃ a b, v = .tuple #[a, b] ∧ V lab w a ∧ U lab w b
theorem And2.pers {V U : VP} (hV : Pers V) (hU : Pers U) : Pers (And2 V U) := ⟨fun s ⟨a, b, h, h1, h2⟩ => ⟨a, b, h, hV.step s h1, hU.step s h2⟩⟩
def And3 (V U X : VP) : VP := fun lab w v => ∃ a b c, v = .tuple #[a, b, c] ∧ V lab w a ∧ U lab w b ∧ X lab w c
theorem And3.pers {V U X : VP} (hV : Pers V) (hU : Pers U) (hX : Pers X) : Pers (And3 V U X) := ⟨fun s ⟨a, b, c, h, h1, h2, h3⟩ => ⟨a, b, c, h, hV.step s h1, hU.step s h2, hX.step s h3⟩⟩
def limbs (x : Nat) : List UInt32 := if h : x = 0 then [] else UInt32.ofNat x :: limbs (x / 4294967296)
termination_by x
decreasing_by omega
theorem limbs_zero : limbs 0 = [] := by unfold limbs; simp
theorem limbs_pos {x : Nat} (h : x ≠ 0) : limbs x = UInt32.ofNat x :: limbs (x / 4294967296) := by rw [limbs]; simp [h]
def wv : List UInt32 → Nat
 | [] => 0
 | a :: r => a.toNat + 4294967296 * wv r
theorem wv_limbs (x : Nat) : wv (limbs x) = x := by
 induction x using Nat.strongRecOn with
 | _ x ih =>
  by_cases h : x = 0
  ·subst h; rw [limbs_zero]; rfl
  ·rw [limbs_pos h, wv, ih (x / 4294967296) (by omega)]
   have : (UInt32.ofNat x).toNat = x % 4294967296 := by simp
   omega
theorem limbs_wv : ∀ {l : List UInt32}, (∀ a, l.getLast? = some a → a ≠ 0) → limbs (wv l) = l
 | [], _ => by simp [wv, limbs_zero]
 | a :: r, h => by
  have ha := a.toNat_lt
  by_cases hr : r = []
  ·subst hr
   have : a ≠ 0 := h a rfl
   have h0 : a.toNat ≠ 0 := fun e => this (by rw [← UInt32.toNat_inj, e]; rfl)
   simp only [wv, Nat.mul_zero, Nat.add_zero]
   rw [limbs_pos h0, Nat.div_eq_of_lt (by omega), limbs_zero]
   simp
  ·have ih := limbs_wv (l := r) (fun b hb => h b (by rw [List.getLast?_cons]; cases r with
    | nil => exact absurd rfl hr
    | cons c r => simpa [List.getLast?_cons] using hb))
   have hpos : wv r ≠ 0 := fun e => by rw [e, limbs_zero] at ih; exact hr ih.symm
   simp only [wv]
   rw [limbs_pos (by omega), show (a.toNat + 4294967296 * wv r) / 4294967296 = wv r by omega, ih]
   congr 1
   rw [← UInt32.toNat_inj]
   simp
theorem limbs_inj {x y : Nat} (h : limbs x = limbs y) : x = y := by rw [← wv_limbs x, ← wv_limbs y, h]
theorem wv_lt (l : List UInt32) : wv l < 4294967296 ^ l.length := by
 induction l with
 | nil => simp [wv]
 | cons a r ih =>
  have := a.toNat_lt
  simp only [wv, List.length_cons, Nat.pow_succ]
  omega
def nw (x : Nat) : Nat := (limbs x).length
theorem nw_zero : nw 0 = 0 := by simp [nw, limbs_zero]
theorem nw_pos {x : Nat} (h : x ≠ 0) : nw x = nw (x / 4294967296) + 1 := by simp [nw, limbs_pos h]
theorem lt_nw (x : Nat) : x < 4294967296 ^ nw x := by have := wv_lt (limbs x); rwa [wv_limbs] at this
theorem nw_le {x n : Nat} (h : x < 4294967296 ^ n) : nw x ≤ n := by
 induction n generalizing x with
 | zero => simp at h; subst h; simp [nw_zero]
 | succ n ih =>
  by_cases h0 : x = 0
  ·subst h0; simp [nw_zero]
  ·rw [nw_pos h0]
   have := ih (x := x / 4294967296) (by rw [Nat.pow_succ] at h; omega)
   omega
theorem nw_mono {x y : Nat} (h : x ≤ y) : nw x ≤ nw y := nw_le (Nat.lt_of_le_of_lt h (lt_nw y))
def NatV (x : Nat) : VP := fun lab w v => ∃ A c, v = .agg #[.slice A (nw x) c] ∧ nw x ≤ c ∧ c ≤ 9223372036854775807 ∧ RowAt lab w A ((limbs x).map u32)
theorem NatV.pers (x : Nat) : Pers (NatV x) := ⟨fun s ⟨A, c, h1, h2, h3, h4⟩ => ⟨A, c, h1, h2, h3, h4.lift s⟩⟩
theorem NatV.shape {x : Nat} {lab : Lab} {w : World} {v : Value} (h : NatV x lab w v) : ∃ A c, v = .agg #[.slice A (nw x) c] := by
 obtain ⟨A, c, h1, _⟩ := h
 exact ⟨A, c, h1⟩
theorem NatV.cap {x : Nat} {lab : Lab} {w : World} {A : Option Addr} {n c : Nat} (h : NatV x lab w (.agg #[.slice A n c])) : nw x ≤ c ∧ c ≤ 9223372036854775807 := by
 obtain ⟨A', c', h1, h2, h3, _⟩ := h
 cases h1
 exact ⟨h2, h3⟩
theorem NatV.zero (lab : Lab) (w : World) : NatV 0 lab w (.agg #[.slice none 0 0]) := ⟨none, 0, by rw [nw_zero], by rw [nw_zero]; omega, by omega, by rw [limbs_zero]; exact RowAt.nil⟩
theorem NatV.slice {x : Nat} {lab : Lab} {w : World} {A : Option Addr} {n c : Nat} (h : NatV x lab w (.agg #[.slice A n c])) : n = nw x ∧ nw x ≤ c ∧ c ≤ 9223372036854775807 ∧ RowAt lab w A ((limbs x).map u32) := by
 obtain ⟨A', c', h1, h2, h3, h4⟩ := h
 cases h1
 exact ⟨rfl, h2, h3, h4⟩
def cmpI (a b : Nat) : Int := if a < b then -1 else if a = b then 0 else 1
@[simp] theorem cmpI_lt (a b : Nat) : cmpI a b < 0 ↔ a < b := by unfold cmpI; split <;> (try split) <;> simp_all <;> omega
@[simp] theorem cmpI_eq (a b : Nat) : cmpI a b = 0 ↔ a = b := by unfold cmpI; split <;> (try split) <;> simp_all <;> omega
@[simp] theorem cmpI_le (a b : Nat) : cmpI a b ≤ 0 ↔ a ≤ b := by unfold cmpI; split <;> (try split) <;> simp_all <;> omega
@[simp] theorem cmpI_gt (a b : Nat) : 0 < cmpI a b ↔ b < a := by unfold cmpI; split <;> (try split) <;> simp_all <;> omega
@[simp] theorem cmpI_ge (a b : Nat) : 0 ≤ cmpI a b ↔ b ≤ a := by unfold cmpI; split <;> (try split) <;> simp_all <;> omega
theorem NatV.cast {x y : Nat} (e : x = y) {lab : Lab} {w : World} {v : Value} (h : NatV x lab w v) : NatV y lab w v := e ▸ h
def BytesV (bs : List UInt8) : VP := fun lab w v => ∃ A c, v = .slice A bs.length c ∧ bs.length ≤ c ∧ c ≤ 9223372036854775807 ∧ RowAt lab w A (bs.map u8)
theorem BytesV.pers (bs : List UInt8) : Pers (BytesV bs) := ⟨fun s ⟨A, c, h1, h2, h3, h4⟩ => ⟨A, c, h1, h2, h3, h4.lift s⟩⟩
theorem BytesV.shape {bs : List UInt8} {lab : Lab} {w : World} {v : Value} (h : BytesV bs lab w v) : ∃ A c, v = .slice A bs.length c := by
 obtain ⟨A, c, h1, _⟩ := h
 exact ⟨A, c, h1⟩
theorem BytesV.nil (lab : Lab) (w : World) : BytesV [] lab w (.slice none 0 0) := ⟨none, 0, rfl, by simp, by omega, RowAt.nil⟩
theorem BytesV.cast {x y : List UInt8} (e : x = y) {lab : Lab} {w : World} {v : Value} (h : BytesV x lab w v) : BytesV y lab w v := e ▸ h
def Ro (b : Nat) (cs : List Value) : VP := fun lab w _ => lab b = none ∧ ∃ t fr, w.heap[b]? = some (.cells cs.toArray t fr)
theorem Ro.pers (b : Nat) (cs : List Value) : Pers (Ro b cs) := ⟨fun s ⟨h1, t, fr, h2⟩ => by
 obtain ⟨k1, k2⟩ := s.free b (block_lt h2) h1
 exact ⟨k1, t, fr, k2.trans h2⟩⟩
theorem Ro.cell {b : Nat} {cs : List Value} {lab : Lab} {w : World} {u v : Value} (h : Ro b cs lab w u) (j : Nat) (hj : cs[j]? = some v) : w.cell? ⟨b, j, none⟩ = some v := by
 obtain ⟨h1, t, fr, h2⟩ := h
 rw [cell_of_row w b j _ t fr h2]
 simpa using hj
theorem Ro.cells {b : Nat} {cs : List Value} {lab : Lab} {w : World} {u : Value} (h : Ro b cs lab w u) (off : Nat) {cs' : List Value} (hc : (cs.drop off).take cs'.length = cs' := by rfl) : ∀ (j : Nat) (v : Value), cs'[j]? = some v → w.cell? ((⟨b, off, none⟩ : Addr).add j) = some v := by
 intro j v hj
 rw [add_flat]
 have hjl : j < cs'.length := (List.getElem?_eq_some_iff.1 hj).1
 rw [← hc, List.getElem?_take_of_lt hjl, List.getElem?_drop] at hj
 exact h.cell _ hj
def PtrV (F : Lab → World → List Value → Prop) : VP := fun lab w v => ∃ b t fr cs, v = .pointer (some ⟨b, 0, none⟩) ∧ lab b = none ∧ w.heap[b]? = some (.cells (List.toArray cs) t fr) ∧ F lab w cs
theorem PtrV.pers {F : Lab → World → List Value → Prop} (hF : ∀ (T : List Nat) (lab : Lab) (w : World) (lab' : Lab) (w' : World) (cs : List Value), Stp T lab w lab' w' → F lab w cs → F lab' w' cs) : Pers (PtrV F) := ⟨fun s ⟨b, t, fr, cs, h1, h2, h3, h4⟩ => by
 obtain ⟨k1, k2⟩ := s.free b (block_lt h3) h2
 exact ⟨b, t, fr, cs, h1, k1, k2.trans h3, hF _ _ _ _ _ _ s h4⟩⟩
theorem PtrV.shape {F : Lab → World → List Value → Prop} {lab : Lab} {w : World} {v : Value} (h : PtrV F lab w v) : ∃ b, v = .pointer (some ⟨b, 0, none⟩) := by
 obtain ⟨b, t, fr, cs, h1, _⟩ := h
 exact ⟨b, h1⟩
def ringSmall (m : Nat) : Nat := if m < 4294967296 then m else 0
def RingF (m : Nat) (lab : Lab) (w : World) (cs : List Value) : Prop := ∃ A c, cs = [.slice A (nw m) c, .int .u64 ((ringSmall m : Nat) : Int)] ∧ NatV m lab w (.agg #[.slice A (nw m) c])
theorem RingF.pers {m : Nat} {T : List Nat} {lab : Lab} {w : World} {lab' : Lab} {w' : World} {cs : List Value} (s : Stp T lab w lab' w') : RingF m lab w cs → RingF m lab' w' cs := fun ⟨A, c, h1, h2⟩ => ⟨A, c, h1, (NatV.pers m).step s h2⟩
def RingV (m : Nat) : VP := PtrV (RingF m)
theorem RingV.pers (m : Nat) : Pers (RingV m) := PtrV.pers (F := RingF m) (fun _ _ _ _ _ _ s h => RingF.pers s h)
theorem RingV.open {m : Nat} {lab : Lab} {w : World} {b : Nat} (h : RingV m lab w (.pointer (some ⟨b, 0, none⟩))) : ∃ A c, Ro b [.slice A (nw m) c, .int .u64 ((ringSmall m : Nat) : Int)] lab w undef ∧ NatV m lab w (.agg #[.slice A (nw m) c]) := by
 obtain ⟨b', t, fr, cs, h1, h2, h3, A, c, rfl, h4⟩ := h
 cases h1
 exact ⟨A, c, ⟨h2, t, fr, h3⟩, h4⟩
theorem RingV.cast {x y : Nat} (e : x = y) {lab : Lab} {w : World} {v : Value} (h : RingV x lab w v) : RingV y lab w v := e ▸ h
structure GroupD where
 p : Nat
 q : Nat
 g : Nat
 h : Nat
def GroupD.size (G : GroupD) : Nat := (G.p.log2 + 8) / 8
def GroupF (G : GroupD) (lab : Lab) (w : World) (cs : List Value) : Prop := ∃ bp bq Ag cg Ah ch, cs = [.pointer (some ⟨bp, 0, none⟩), .pointer (some ⟨bq, 0, none⟩), .slice Ag (nw G.g) cg, .slice Ah (nw G.h) ch, i64 G.size] ∧
 RingV G.p lab w (.pointer (some ⟨bp, 0, none⟩)) ∧ RingV G.q lab w (.pointer (some ⟨bq, 0, none⟩)) ∧ NatV G.g lab w (.agg #[.slice Ag (nw G.g) cg]) ∧ NatV G.h lab w (.agg #[.slice Ah (nw G.h) ch])
theorem GroupF.pers {G : GroupD} {T : List Nat} {lab : Lab} {w : World} {lab' : Lab} {w' : World} {cs : List Value} (s : Stp T lab w lab' w') : GroupF G lab w cs → GroupF G lab' w' cs :=
 fun ⟨bp, bq, Ag, cg, Ah, ch, h1, h2, h3, h4, h5⟩ => ⟨bp, bq, Ag, cg, Ah, ch, h1, (RingV.pers _).step s h2, (RingV.pers _).step s h3, (NatV.pers _).step s h4, (NatV.pers _).step s h5⟩
def GroupV (G : GroupD) : VP := PtrV (GroupF G)
theorem GroupV.pers (G : GroupD) : Pers (GroupV G) := PtrV.pers (F := GroupF G) (fun _ _ _ _ _ _ s h => GroupF.pers s h)
theorem GroupV.open {G : GroupD} {lab : Lab} {w : World} {b : Nat} (h : GroupV G lab w (.pointer (some ⟨b, 0, none⟩))) : ∃ bp bq Ag cg Ah ch,
  Ro b [.pointer (some ⟨bp, 0, none⟩), .pointer (some ⟨bq, 0, none⟩), .slice Ag (nw G.g) cg, .slice Ah (nw G.h) ch, i64 G.size] lab w undef ∧
  RingV G.p lab w (.pointer (some ⟨bp, 0, none⟩)) ∧ RingV G.q lab w (.pointer (some ⟨bq, 0, none⟩)) ∧ NatV G.g lab w (.agg #[.slice Ag (nw G.g) cg]) ∧ NatV G.h lab w (.agg #[.slice Ah (nw G.h) ch]) := by
 obtain ⟨b', t, fr, cs, h1, h2, h3, bp, bq, Ag, cg, Ah, ch, rfl, h4⟩ := h
 cases h1
 exact ⟨bp, bq, Ag, cg, Ah, ch, ⟨h2, t, fr, h3⟩, h4⟩
end Go.Proofs.Ytgfomedobfaidaa
end
section
set_option linter.unusedVariables false
set_option linter.unusedSimpArgs false
namespace Go.Proofs.Ytgfomedobfaidaa
open Go.RowKit
def WordsV (ws : List UInt32) : VP := fun lab w v => ∃ A c, v = .slice A ws.length c ∧ ws.length ≤ c ∧ c ≤ 9223372036854775807 ∧ RowAt lab w A (ws.map u32)
theorem WordsV.pers (ws : List UInt32) : Pers (WordsV ws) := ⟨fun s ⟨A, c, h1, h2, h3, h4⟩ => ⟨A, c, h1, h2, h3, h4.lift s⟩⟩
theorem WordsV.shape {ws : List UInt32} {lab : Lab} {w : World} {v : Value} (h : WordsV ws lab w v) : ∃ A c, v = .slice A ws.length c := by
 obtain ⟨A, c, h1, _⟩ := h
 exact ⟨A, c, h1⟩
theorem WordsV.shapeN {ws : List UInt32} {lab : Lab} {w : World} {v : Value} (h : WordsV ws lab w v) {n : Nat} (e : ws.length = n) : ∃ A c, v = .slice A n c := e ▸ h.shape
theorem BytesV.shapeN {ws : List UInt8} {lab : Lab} {w : World} {v : Value} (h : BytesV ws lab w v) {n : Nat} (e : ws.length = n) : ∃ A c, v = .slice A n c := e ▸ h.shape
theorem WordsV.cast {x y : List UInt32} (e : x = y) {lab : Lab} {w : World} {v : Value} (h : WordsV x lab w v) : WordsV y lab w v := e ▸ h
theorem WordsV.nil (lab : Lab) (w : World) : WordsV [] lab w (.slice none 0 0) := ⟨none, 0, rfl, by simp, by omega, RowAt.nil⟩
theorem WordsV.row {ws : List UInt32} {lab : Lab} {w : World} {A : Option Addr} {n c : Nat} (h : WordsV ws lab w (.slice A n c)) : RowAt lab w A (ws.map u32) := by
 obtain ⟨A', c', h1, _, _, h2⟩ := h
 cases h1
 exact h2
theorem WordsV.cap {ws : List UInt32} {lab : Lab} {w : World} {A : Option Addr} {n c : Nat} (h : WordsV ws lab w (.slice A n c)) : n = ws.length ∧ ws.length ≤ c ∧ c ≤ 9223372036854775807 := by
 obtain ⟨A', c', h1, h2, h3, _⟩ := h
 cases h1
 exact ⟨rfl, h2, h3⟩
theorem NatV.words {x : Nat} {lab : Lab} {w : World} {u : Value} (h : NatV x lab w (.agg #[u])) : WordsV (limbs x) lab w u := by
 obtain ⟨A, c, h1, h2, h3, h4⟩ := h
 cases h1
 exact ⟨A, c, rfl, h2, h3, h4⟩
theorem NatV.ofWords {ws : List UInt32} {x : Nat} {lab : Lab} {w : World} {u : Value} (h : WordsV ws lab w u) (e : ws = limbs x) : NatV x lab w (.agg #[u]) := by
 subst e
 obtain ⟨A, c, rfl, h2, h3, h4⟩ := h
 exact ⟨A, c, rfl, h2, h3, h4⟩
theorem BytesV.row {bs : List UInt8} {lab : Lab} {w : World} {A : Option Addr} {n c : Nat} (h : BytesV bs lab w (.slice A n c)) : RowAt lab w A (bs.map u8) := by
 obtain ⟨A', c', h1, _, _, h2⟩ := h
 cases h1
 exact h2
theorem BytesV.cap {bs : List UInt8} {lab : Lab} {w : World} {A : Option Addr} {n c : Nat} (h : BytesV bs lab w (.slice A n c)) : n = bs.length ∧ bs.length ≤ c ∧ c ≤ 9223372036854775807 := by
 obtain ⟨A', c', h1, h2, h3, _⟩ := h
 cases h1
 exact ⟨rfl, h2, h3⟩
theorem map_get {α : Type} (f : α → Value) (l : List α) (d : α) {j : Nat} (h : j < l.length) : (l.map f)[j]? = some (f (l.getD j d)) := by
 simp [List.getElem?_map, List.getElem?_eq_getElem h, List.getD]
theorem row_get {α : Type} (f : α → Value) (l : List α) (d : α) {j : Nat} (h : j < l.length) : (l.map f).toArray[j]? = some (f (l.getD j d)) := by
 rw [List.getElem?_toArray]; exact map_get f l d h
section
variable {ds : List Deferred} {P : Program} {N : Nat} {ops : Array Oper} {Q : Exit → Act → World → Prop} {l : List (Nat × Value)} {rest : List Oper} {w : World} {lab : Lab} {ty : TypeId}
theorem Does.index_row {t e : TypeId} {x y : Operand} {k : IntKind} {i : Int} {A : Option Addr} {n c : Nat} {ag : Bool} {by_ : Nat} {z : Option Value} {cs : List Value} (j : Nat) (ht : P.underlying t = some (.slice e)) (he : tyRow P e = some (ag, 1, z, by_)) (hx : ev l x = some (.slice A n c)) (hy : ev l y = some (.int k i)) (hr : RowAt lab w A cs) (hn : cs.length = n) (hij : i = (j : Int)) (hj : j < n) :
  Does P l (.indexAddr t x y) ty w (.pointer (A.map (·.add j))) w := by
 intro ρ hρ d pos af g
 obtain ⟨b, o, rfl, _⟩ := hr.cell (j := j) (v := cs[j]'(by omega)) (List.getElem?_eq_getElem (by omega))
 have h := (Does.indexAddr (P := P) (l := l) (w := w) (ty := ty) ht he hx hy (by omega) (by omega)) ρ hρ d pos af g
 rw [h]
 subst hij
 simp [add_flat]
theorem Does.load_row {t : TypeId} {x : Operand} {A : Option Addr} {n by_ : Nat} {z : Option Value} {cs : List Value} {j : Nat} {v : Value} (ht : tyRow P t = some (false, n, z, by_)) (hx : ev l x = some (.pointer (A.map (·.add j)))) (hr : RowAt lab w A cs) (hv : cs[j]? = some v) : Does P l (.load t x) ty w v w := by
 obtain ⟨b, o, rfl, hc⟩ := hr.cell hv
 exact Does.load_one ht hx (by simpa [add_flat] using hc)
theorem Does.index_own {t e : TypeId} {x y : Operand} {k : IntKind} {i : Int} {b n c : Nat} {ag : Bool} {s by_ : Nat} {z : Option Value} (j : Nat) (ht : P.underlying t = some (.slice e)) (he : tyRow P e = some (ag, s, z, by_)) (hx : ev l x = some (.slice (some ⟨b, 0, none⟩) n c)) (hy : ev l y = some (.int k i)) (hij : i = (j : Int)) (hj : j < n) :
  Does P l (.indexAddr t x y) ty w (.pointer (some ⟨b, j * s, none⟩)) w := by
 have h := Does.indexAddr (P := P) (l := l) (w := w) (ty := ty) ht he hx hy (by omega) (by omega)
 subst hij
 simpa using h
theorem set_splice {α : Type} (f : α → Value) (ws : List α) (j : Nat) (x : α) (h : j < ws.length) : ((ws.map f).toArray.toList.take j ++ [f x] ++ (ws.map f).toArray.toList.drop (j + 1)).toArray = ((ws.set j x).map f).toArray := by
 congr 1
 simp only [List.toList_toArray]
 rw [List.map_set, List.set_eq_take_append_cons_drop, if_pos (by simpa using h)]
 simp
theorem Seq.store_row {α : Type} (f : α → Value) {k b j : Nat} {t t' : TypeId} {x y : Operand} {v : α} {by_ : Nat} {z : Option Value} {ws : List α} {ag : Bool} {pos : String} {af : Array Edge} (hv : Valid lab w) (hO : Own lab w k b t' (ws.map f).toArray) (ht : tyRow P t = some (ag, 1, z, by_)) (hx : ev l x = some (.pointer (some ⟨b, j, none⟩))) (hy : ev l y = some (f v)) (hj : j < ws.length) (hf : (f v).cells = #[f v]) (h1 : (f v).oneCell' = true)
  (h : ∀ w', Own lab w' k b t' ((ws.set j v).map f).toArray → Stp [k] lab w lab w' → Valid lab w' → Seq ds P N ops Q l rest w') : Seq ds P N ops Q l (⟨none, .store t x y, ty, pos, af, none⟩ :: rest) w :=
 Seq.unit (Does.store _ hO ht hx hy (by rw [hf]; rfl) (by simp; omega) (by rw [hf]; simp [h1]) (by rw [hf]; exact set_splice f ws j v hj)) (h _ (hO.set _) (Stp.set hO.1 _) (hv.set _ _))
theorem run_makeSlice {t e : TypeId} {ag : Bool} {s by_ : Nat} {z : Value} (ht : P.underlying t = some (.slice e)) (he : tyRow P e = some (ag, s, some z, by_)) (hz : z.cells.size = s) {k k' : IntKind} {n c : Nat} (hnc : n ≤ c) (hb : by_ * c ≤ 281474976710656) (hc : c < 9223372036854775808) (w : World) :
  ∃ arr, (Instr.makeSlice t (.int k (n : Int)) (.int k' (c : Int))).run P w = .ok (.slice (some ⟨w.heap.size, 0, none⟩) n c) (w.alloc (.cells arr e)) ∧ arr = (Array.range (c * s)).map (fun i => z.cells[i % z.cells.size]!) := by
 obtain ⟨i, hi, hib, his⟩ := run_typeInfo' (P := P) (w := w) he
 refine ⟨_, ?_, rfl⟩
 have hwn : IntKind.i64.wrap (n : Int) = n := i64_wrap_in (by omega) (by omega)
 have hwc : IntKind.i64.wrap (c : Int) = c := i64_wrap_in (by omega) (by omega)
 have hbI : (by_ : Int) * (c : Int) ≤ 281474976710656 := by
  have : ((by_ * c : Nat) : Int) ≤ 281474976710656 := by omega
  rwa [Int.natCast_mul] at this
 simp only [Instr.makeSlice, Sem.run_bind, run_underlying ht, Result.andThen_ok, asInt, asIntOf, Sem.run_pure, hi, hwn, hwc, hib]
 have h48 : (2 : Int) ^ 48 = 281474976710656 := by decide
 rw [if_neg (by simp only [Bool.or_eq_true, decide_eq_true_eq, not_or]; exact ⟨⟨⟨by omega, by omega⟩, by omega⟩, by omega⟩)]
 simp only [Int.toNat_natCast, Sem.run_bind]
 have hroom : (askRoom (c * by_)).run P w = .ok () w := by
  unfold askRoom
  split <;> rfl
 simp only [hroom, Result.andThen_ok, run_sizeOf' he]
 by_cases h0 : c * s = 0
 ·rw [if_pos h0]
  simp only [Sem.run_bind, Sem.run_pure, Result.andThen_ok]
  simp only [h0, newRow]
  have e0 : ∀ g : Nat → Value, (Array.range 0).map g = #[] := fun g => by simp
  rw [e0, e0]
  rfl
 ·rw [if_neg h0]
  simp only [Sem.run_bind, run_zero' he, Sem.run_pure, Result.andThen_ok, newRow]
  rfl
theorem Seq.make_row {α : Type} (f : α → Value) (zx : α) {d k : Nat} {t e : TypeId} {x y : Operand} {ag : Bool} {by_ : Nat} {z : Value} {kk kk' : IntKind} {i i' : Int} {pos : String} {af : Array Edge} (n : Nat) (hv : Valid lab w) (ht : P.underlying t = some (.slice e)) (he : tyRow P e = some (ag, 1, some z, by_)) (hz : z.cells = #[f zx])
  (hx : ev l x = some (.int kk i)) (hy : ev l y = some (.int kk' i')) (hi : i = (n : Int)) (hi' : i' = (n : Int)) (hb : by_ * n ≤ 281474976710656) (hc : n < 9223372036854775808) (hd : d < N)
  (h : ∀ lab' w' b, Own lab' w' k b e ((List.replicate n zx).map f).toArray → Stp [] lab w lab' w' → Valid lab' w' → Seq ds P N ops Q ((d, .slice (some ⟨b, 0, none⟩) n n) :: l) rest w') : Seq ds P N ops Q l (⟨some d, .makeSlice t x y, ty, pos, af, none⟩ :: rest) w := by
 subst hi; subst hi'
 obtain ⟨arr, hr, ha⟩ := run_makeSlice (P := P) ht he (by rw [hz]; rfl) (k := kk) (k' := kk') (Nat.le_refl n) hb hc w
 have harr : arr = ((List.replicate n zx).map f).toArray := by
  rw [ha, hz]
  apply Array.ext
  ·simp
  ·intro j h1 h2
   simp
   rw [Nat.mod_one]
   rfl
 refine Seq.val (v := .slice (some ⟨w.heap.size, 0, none⟩) n n) (w' := w.alloc (.cells arr e)) ?_ hd (h (labNew lab w.heap.size k) _ w.heap.size (by rw [harr]; exact Own.alloc lab w _ e k) (Stp.alloc _ k) (hv.alloc _ k))
 intro ρ hρ d pos af g
 simp only [execOp, hρ _ _ hx, hρ _ _ hy, Sem.run_bind, hr, Result.andThen_ok]
 rfl
theorem run_buildSlice {t e : TypeId} {ag : Bool} {s by_ : Nat} {z : Value} {len : Nat} {pv : List (Nat × Value)} {cs : Array Value} (ht : P.underlying t = some (.slice e)) (he : tyRow P e = some (ag, s, some z, by_)) (hl : len * s ≤ 16777216) (hl0 : len * s ≠ 0)
  (hf : Instr.fill (fun i => some (i * s, s)) ((Array.range (len * s)).map (fun j => z.cells[j % z.cells.size]!)) pv = some cs) (w : World) :
  (Instr.buildSlice t len pv.toArray).run P w = .ok (.slice (some ⟨w.heap.size, 0, none⟩) len len) (w.alloc (.cells cs e)) := by
 simp only [Instr.buildSlice, Sem.run_bind, run_underlying ht, Result.andThen_ok, run_sizeOf' he]
 rw [if_neg (by omega), if_neg hl0]
 simp only [Sem.run_bind, run_zero' he, Sem.run_pure, Result.andThen_ok, List.toList_toArray, hf, newRow]
 rfl
theorem pairs_eval {parts : Array (Nat × Operand)} {pv : List (Nat × Value)} (hp : parts.toList.map (fun p => (p.1, ev l p.2)) = pv.map (fun p => (p.1, some p.2))) (ρ : Operand → Value) (hρ : ∀ x u, ev l x = some u → ρ x = u) : (parts.map fun (i, x) => (i, ρ x)) = pv.toArray := by
 apply Array.toList_inj.1
 rw [Array.toList_map]
 generalize parts.toList = L at hp
 induction L generalizing pv with
 | nil => cases pv with
  | nil => rfl
  | cons _ _ => simp at hp
 | cons q r ih => cases pv with
  | nil => simp at hp
  | cons p pv =>
   simp only [List.map_cons, List.cons.injEq, Prod.mk.injEq] at hp
   rw [List.map_cons, ih hp.2]
   obtain ⟨p1, p2⟩ := p
   simp only at hp
   simp [hp.1.1, hρ _ _ hp.1.2]
theorem Does.buildSlice {t e : TypeId} {ag : Bool} {s by_ : Nat} {z : Value} {len : Nat} {parts : Array (Nat × Operand)} (pv : List (Nat × Value)) (cs : List Value) (ht : P.underlying t = some (.slice e)) (he : tyRow P e = some (ag, s, some z, by_)) (hl : len * s ≤ 16777216) (hl0 : len * s ≠ 0)
  (hp : parts.toList.map (fun p => (p.1, ev l p.2)) = pv.map (fun p => (p.1, some p.2))) (hf : Instr.fill (fun i => some (i * s, s)) ((Array.range (len * s)).map (fun j => z.cells[j % z.cells.size]!)) pv = some cs.toArray) : Does P l (.buildSlice t len parts) ty w (.slice (some ⟨w.heap.size, 0, none⟩) len len) (w.alloc (.cells cs.toArray e)) := by
 intro ρ hρ d pos af g
 simp only [execOp, pairs_eval hp ρ hρ, Sem.run_bind, run_buildSlice ht he hl hl0 hf, Result.andThen_ok]
 rfl
theorem Seq.build_row {d : Nat} {t e : TypeId} {ag : Bool} {s by_ : Nat} {z : Value} {len : Nat} {parts : Array (Nat × Operand)} {pos : String} {af : Array Edge} (pv : List (Nat × Value)) (cs : List Value) (hv : Valid lab w) (ht : P.underlying t = some (.slice e)) (he : tyRow P e = some (ag, s, some z, by_)) (hl : len * s ≤ 16777216) (hl0 : len * s ≠ 0)
  (hp : parts.toList.map (fun p => (p.1, ev l p.2)) = pv.map (fun p => (p.1, some p.2))) (hf : Instr.fill (fun i => some (i * s, s)) ((Array.range (len * s)).map (fun j => z.cells[j % z.cells.size]!)) pv = some cs.toArray) (hd : d < N)
  (h : ∀ w' b, RowAt lab w' (some ⟨b, 0, none⟩) cs → Stp [] lab w lab w' → Valid lab w' → Seq ds P N ops Q ((d, .slice (some ⟨b, 0, none⟩) len len) :: l) rest w') : Seq ds P N ops Q l (⟨some d, .buildSlice t len parts, ty, pos, af, none⟩ :: rest) w :=
 Seq.val (Does.buildSlice pv cs ht he hl hl0 hp hf) hd (h _ _ (RowAt.fresh hv _ e (0, 0) cs (fun j v hj => by simpa using hj)) (Stp.fresh _) (hv.below (by rw [size_alloc]; omega)))
theorem sliceBound_ok {k : IntKind} {i : Int} {y : Nat} {code : BoundsCode} (j : Nat) (hij : i = (j : Int)) (hj : j ≤ y) : (Instr.sliceBound (.int k i) y code).run P w = .ok j w := by
 subst hij
 have h : 0 ≤ (j : Int) ∧ (j : Int) ≤ (y : Int) := ⟨by omega, by omega⟩
 simp [Instr.sliceBound, asIntOf, h]
theorem Does.slice_hi {t e : TypeId} {x y : Operand} {k : IntKind} {i : Int} {A : Option Addr} {n c : Nat} {ag : Bool} {s by_ : Nat} {z : Option Value} (j : Nat) (ht : P.underlying t = some (.slice e)) (he : tyRow P e = some (ag, s, z, by_)) (hx : ev l x = some (.slice A n c)) (hy : ev l y = some (.int k i)) (hij : i = (j : Int)) (hj : j ≤ c) :
  Does P l (.slice t x none (some y) none) ty w (.slice A j c) w := by
 intro ρ hρ d pos af g
 have hA : (if c = 0 then A else A.map (·.add (0 * s))) = A := by
  split
  ·rfl
  ·cases A with
   | none => rfl
   | some a => simp [Addr.add]
 simp only [execOp, hρ _ _ hx, Option.map_some, Option.map_none, hρ _ _ hy, Instr.sliceAt, Sem.run_bind, run_underlying ht, Result.andThen_ok, Instr.slice, Instr.sliceBounds, sliceBound_ok j hij hj, Sem.run_pure, run_sizeOf' he, if_true]
 simp only [sliceBound_ok j hij hj, Result.andThen_ok, Sem.run_pure, run_sizeOf' he, Nat.sub_zero, hA]
theorem Does.slice_lo {t e : TypeId} {x y : Operand} {k : IntKind} {i : Int} {A : Option Addr} {n c : Nat} {ag : Bool} {s by_ : Nat} {z : Option Value} (j : Nat) (ht : P.underlying t = some (.slice e)) (he : tyRow P e = some (ag, s, z, by_)) (hx : ev l x = some (.slice A n c)) (hy : ev l y = some (.int k i)) (hij : i = (j : Int)) (hj : j ≤ n) :
  Does P l (.slice t x (some y) none none) ty w (.slice (if c = j then A else A.map (·.add (j * s))) (n - j) (c - j)) w := by
 intro ρ hρ d pos af g
 simp only [execOp, hρ _ _ hx, Option.map_some, Option.map_none, hρ _ _ hy, Instr.sliceAt, Sem.run_bind, run_underlying ht, Result.andThen_ok, Instr.slice, Instr.sliceBounds, Sem.run_pure, Option.isSome_none, if_true, sliceBound_ok j hij hj, run_sizeOf' he]
theorem Does.slice_lohi {t e : TypeId} {x y y' : Operand} {k k' : IntKind} {i i' : Int} {A : Option Addr} {n c : Nat} {ag : Bool} {s by_ : Nat} {z : Option Value} (j j' : Nat) (ht : P.underlying t = some (.slice e)) (he : tyRow P e = some (ag, s, z, by_)) (hx : ev l x = some (.slice A n c)) (hy : ev l y = some (.int k i)) (hy' : ev l y' = some (.int k' i')) (hij : i = (j : Int)) (hij' : i' = (j' : Int)) (hj : j ≤ j') (hj' : j' ≤ c) :
  Does P l (.slice t x (some y) (some y') none) ty w (.slice (if c = j then A else A.map (·.add (j * s))) (j' - j) (c - j)) w := by
 intro ρ hρ d pos af g
 simp only [execOp, hρ _ _ hx, Option.map_some, Option.map_none, hρ _ _ hy, hρ _ _ hy', Instr.sliceAt, Sem.run_bind, run_underlying ht, Result.andThen_ok, Instr.slice, Instr.sliceBounds, Sem.run_pure, Option.isSome_none, if_true, sliceBound_ok j hij hj, sliceBound_ok j' hij' hj', run_sizeOf' he]
def App (lab : Lab) (w : World) (d : Nat) (t : TypeId) (v : Value) (n : Nat) (cs : List Value) : Prop := w.ownsRow 0 t 1 v n cs ∧ ∀ k, v.ownBlock = some k → lab k = some d
theorem App.lift {T : List Nat} {lab' : Lab} {w' : World} {d n : Nat} {t : TypeId} {v : Value} {cs : List Value} (h : App lab w d t v n cs) (s : Stp T lab w lab' w') (hd : d ∉ T) : App lab' w' d t v n cs := by
 obtain ⟨⟨h1, h2⟩, h3⟩ := h
 rcases h2 with h2 | ⟨g, cap, cur, rfl, hg, hh, r⟩
 ·exact ⟨⟨h1, .inl h2⟩, fun k hk => by rw [h2.1] at hk; simp [Value.ownBlock] at hk⟩
 ·obtain ⟨k1, k2⟩ := s.own g d (block_lt hh) (h3 g rfl) hd
  exact ⟨⟨h1, .inr ⟨g, cap, cur, rfl, hg, k2.trans hh, r⟩⟩, fun k hk => by simp [Value.ownBlock] at hk; subst hk; exact k1⟩
theorem App.nil {d : Nat} {t : TypeId} : App lab w d t (.slice none 0 0) 0 [] := ⟨⟨by simp, .inl ⟨rfl, rfl⟩⟩, fun k hk => by simp [Value.ownBlock] at hk⟩
theorem App.shape {d n : Nat} {t : TypeId} {v : Value} {cs : List Value} (h : App lab w d t v n cs) : ∃ A c, v = .slice A n c := by
 rcases h.1.2 with ⟨h, h0⟩ | ⟨g, cap, cur, h, _⟩
 ·exact ⟨none, 0, by rw [h, h0]⟩
 ·exact ⟨_, _, h⟩
theorem App.len {d n : Nat} {t : TypeId} {v : Value} {cs : List Value} (h : App lab w d t v n cs) : cs.length = n := by simpa using h.1.1
theorem App.lenMap {α : Type} {f : α → Value} {d n : Nat} {t : TypeId} {v : Value} {cs : List α} (h : App lab w d t v n (cs.map f)) : cs.length = n := by have := h.len; rwa [List.length_map] at this
theorem App.row {d n : Nat} {t : TypeId} {A : Option Addr} {c : Nat} {cs : List Value} (h : App lab w d t (.slice A n c) n cs) : RowAt (labFree lab d) w A cs ∧ n ≤ c ∧ c ≤ 9223372036854775807 := by
 obtain ⟨⟨h1, h2⟩, h3⟩ := h
 rcases h2 with ⟨h2, h0⟩ | ⟨g, cap, cur, h2, hg, hh, hnc, hcap, hsz, htk⟩
 ·cases h2
  have : cs = [] := List.eq_nil_of_length_eq_zero (by simpa using h1)
  subst this
  exact ⟨RowAt.nil, Nat.le_refl _, by omega⟩
 ·cases h2
  refine ⟨.inr ⟨g, 0, cur, t, (0, 0), rfl, by unfold labFree; rw [if_pos (h3 g rfl)], hh, fun j v hj => ?_⟩, hnc, by unfold maxLen at hcap; exact hcap⟩
  rw [← htk] at hj
  have hjl : j < n * 1 := by
   have := (List.getElem?_eq_some_iff.1 hj).1
   simp at this
   omega
  rw [List.getElem?_take_of_lt hjl] at hj
  simpa using hj
theorem run_append_nil {t ty' e : TypeId} {ag : Bool} {s by_ : Nat} {z : Option Value} (ht : P.underlying t = some (.slice e)) (he : tyRow P e = some (ag, s, z, by_)) {d n : Nat} {v : Value} {cs : List Value} (h : App lab w d e v n cs) (c : Nat) : (Builtin.append_ #[t, t] ty' #[v, .slice none 0 c]).run P w = .ok v w := by
 obtain ⟨i, hi, _, _⟩ := run_typeInfo' (P := P) (w := w) he
 rcases h.1.2 with ⟨rfl, rfl⟩ | ⟨g, cap, cur, rfl, _, _, hnc, _⟩
 ·simp [Builtin.append_, run_underlying ht, run_sizeOf' he, Builtin.lenOf, Builtin.firstCells]
 ·simp [Builtin.append_, run_underlying ht, run_sizeOf' he, Builtin.lenOf, Builtin.firstCells, hnc, storeCells]
theorem run_append {t ty' e : TypeId} {ag : Bool} {by_ : Nat} {z : Value} (ht : P.underlying t = some (.slice e)) (he : tyRow P e = some (ag, 1, some z, by_)) (hz : z.cells.size = 1) {d n : Nat} {v : Value} {cs : List Value} (hv : Valid lab w) (h : App lab w d e v n cs) {A : Option Addr} {m c : Nat} {ys : List Value} (hm : ys.length = m) (hr : RowAt lab w A ys) (h1 : ∀ u ∈ ys, u.oneCell' = true) (hb : (n + m) * by_ ≤ 140737488355328) (h63 : n + m ≤ 9223372036854775807) :
  ∃ v' w' lab', (Builtin.append_ #[t, t] ty' #[v, .slice A m c]).run P w = .ok v' w' ∧ App lab' w' d e v' (n + m) (cs ++ ys) ∧ Stp [d] lab w lab' w' ∧ Valid lab' w' := by
 have key : ∀ a : Addr, (∀ (j : Nat) (u : Value), ys[j]? = some u → w.cell? (a.add j) = some u) → ∃ v' w' lab', (Builtin.append_ #[t, t] ty' #[v, .slice (some a) m c]).run P w = .ok v' w' ∧ App lab' w' d e v' (n + m) (cs ++ ys) ∧ Stp [d] lab w lab' w' ∧ Valid lab' w' := by
  intro a hc
  obtain ⟨i, dd, hi, hu, _, his, hiz, hib⟩ := tyRow_info he
  obtain ⟨v', w', hrun, hown, hgr, _, hbl⟩ := run_append_own_at (P := P) w 0 t ty' e i z 1 by_ ht hi hiz his hib hz (by omega) v n cs h.1 a m c ys (by omega) hc h1 (by unfold maxLen; omega) hb (Nat.zero_le _)
  refine ⟨v', w', if v'.ownBlock = v.ownBlock then lab else labNew lab w.heap.size d, hrun, ⟨hown, ?_⟩, ?_, ?_⟩
  ·intro k hk
   split
   ·rename_i e1; exact h.2 k (e1 ▸ hk)
   ·rename_i e1
    rcases hbl with e2 | e2
    ·exact absurd e2 e1
    ·rw [e2] at hk; cases hk; simp [labNew]
  ·have hkeep : ∀ k, k < w.heap.size → (∀ d', lab k = some d' → d' ≠ d) → w'.heap[k]? = w.heap[k]? := fun k hk hd => hgr.block k hk fun e1 => by
    exact hd d (h.2 k e1.symm) rfl
   refine ⟨hgr.os, hgr.tape, hgr.output, hgr.size, fun k hk e0 => ⟨?_, hkeep k hk (fun d' e1 => by rw [e0] at e1; cases e1)⟩, fun k d' hk e0 hd => ⟨?_, hkeep k hk (fun d'' e1 => by rw [e0] at e1; cases e1; simpa using hd)⟩⟩
   ·split
    ·exact e0
    ·unfold labNew; rw [if_neg (by omega)]; exact e0
   ·split
    ·exact e0
    ·unfold labNew; rw [if_neg (by omega)]; exact e0
  ·intro k hk
   split
   ·exact hv k (Nat.le_trans hgr.size hk)
   ·rename_i e1
    rcases hbl with e2 | e2
    ·exact absurd e2 e1
    ·have hlt : w.heap.size < w'.heap.size := by
      obtain ⟨_, hx⟩ := hown
      rcases hx with ⟨rfl, _⟩ | ⟨g, cap, cur, rfl, _, hh, _⟩
      ·simp [Value.ownBlock] at e2
      ·simp [Value.ownBlock] at e2; subst e2; exact block_lt hh
     unfold labNew; rw [if_neg (by omega)]; exact hv k (by omega)
 cases A with
 | some a =>
  refine key a fun j u hu => ?_
  obtain ⟨b, o, hA, hcell⟩ := hr.cell hu
  cases hA
  rw [add_flat]; exact hcell
 | none =>
  have hys : ys = [] := by
   rcases hr with h0 | ⟨b, o, arr, t', fr, hA, _⟩
   ·exact h0
   ·cases hA
  subst hys
  simp at hm
  subst hm
  exact ⟨v, w, lab, run_append_nil ht he h c, by simpa using h, (Stp.refl _ _).more (by simp), hv⟩
theorem Seq.append {d k : Nat} {t e : TypeId} {x y : Operand} {ag : Bool} {by_ : Nat} {z : Value} {pos : String} {af : Array Edge} {n : Nat} {v : Value} {cs : List Value} {A : Option Addr} {m c : Nat} (ys : List Value) (hv : Valid lab w) (h : App lab w k e v n cs) (ht : P.underlying t = some (.slice e)) (he : tyRow P e = some (ag, 1, some z, by_)) (hz : z.cells.size = 1) (hx : ev l x = some v) (hy : ev l y = some (.slice A m c)) (hm : ys.length = m) (hr : RowAt lab w A ys) (h1 : ∀ u ∈ ys, u.oneCell' = true) (hb : (n + m) * by_ ≤ 140737488355328) (h63 : n + m ≤ 9223372036854775807) (hd : d < N)
  (hk : ∀ lab' w' v', App lab' w' k e v' (n + m) (cs ++ ys) → Stp [k] lab w lab' w' → Valid lab' w' → Seq ds P N ops Q ((d, v') :: l) rest w') : Seq ds P N ops Q l (⟨some d, .call ⟨.builtin .append, #[x, y], #[t, t]⟩, ty, pos, af, none⟩ :: rest) w := by
 obtain ⟨v', w', lab', hrun, h1', h2', h3'⟩ := run_append (P := P) (ty' := ty) ht he hz hv h hm hr h1 hb h63 (c := c)
 refine Seq.val (v := v') (w' := w') ?_ hd (hk lab' w' v' h1' h2' h3')
 intro ρ hρ d pos af g
 simp [execOp, resolve, invoke, builtin, hρ _ _ hx, hρ _ _ hy, hrun]
theorem Seq.make_app {d k : Nat} {t e : TypeId} {x y : Operand} {ag : Bool} {by_ : Nat} {z : Value} {kk kk' : IntKind} {i i' : Int} {pos : String} {af : Array Edge} (n : Nat) (hv : Valid lab w) (ht : P.underlying t = some (.slice e)) (he : tyRow P e = some (ag, 1, some z, by_)) (hz : z.cells.size = 1)
  (hx : ev l x = some (.int kk i)) (hy : ev l y = some (.int kk' i')) (hi : i = 0) (hi' : i' = (n : Int)) (hb : by_ * n ≤ 281474976710656) (hc : n < 9223372036854775808) (hd : d < N)
  (h : ∀ lab' w' v', App lab' w' k e v' 0 [] → Stp [] lab w lab' w' → Valid lab' w' → Seq ds P N ops Q ((d, v') :: l) rest w') : Seq ds P N ops Q l (⟨some d, .makeSlice t x y, ty, pos, af, none⟩ :: rest) w := by
 subst hi; subst hi'
 obtain ⟨arr, hr, ha⟩ := run_makeSlice (P := P) (n := 0) ht he hz (k := kk) (k' := kk') (Nat.zero_le n) hb hc w
 refine Seq.val (v := .slice (some ⟨w.heap.size, 0, none⟩) 0 n) (w' := w.alloc (.cells arr e)) ?_ hd (h (labNew lab w.heap.size k) _ _ ⟨⟨by simp, .inr ⟨w.heap.size, n, arr, rfl, Nat.zero_le _, heap_alloc_at w _, Nat.zero_le _, by unfold maxLen; omega, by rw [ha]; simp, by simp⟩⟩, fun k' hk' => by simp [Value.ownBlock] at hk'; subst hk'; simp [labNew]⟩ (Stp.alloc _ k) (hv.alloc _ k))
 intro ρ hρ d pos af g
 have hr' := hr
 simp only [execOp, hρ _ _ hx, hρ _ _ hy, Sem.run_bind]
 rw [show (0 : Int) = ((0 : Nat) : Int) from rfl, hr]
 rfl
theorem oneCell_u32 {ws : List UInt32} : ∀ u ∈ ws.map u32, u.oneCell' = true := by
 intro u hu; obtain ⟨x, _, rfl⟩ := List.mem_map.1 hu; rfl
theorem oneCell_u8 {ws : List UInt8} : ∀ u ∈ ws.map u8, u.oneCell' = true := by
 intro u hu; obtain ⟨x, _, rfl⟩ := List.mem_map.1 hu; rfl
theorem appCast {α : Type} {f : α → Value} {d n n' : Nat} {t : TypeId} {v : Value} {cs cs' : List α} (e : cs = cs') (en : n = n') (h : App lab w d t v n (cs.map f)) : App lab w d t v n' (cs'.map f) := by subst e; subst en; exact h
theorem WordsV.takeN {ws : List UInt32} {A : Option Addr} {n c : Nat} (h : WordsV ws lab w (.slice A n c)) (j : Nat) (hj : j ≤ n) : WordsV (ws.take j) lab w (.slice A j c) := by
 have h1 := h.cap
 have h2 := h.row.take j
 have e : (ws.take j).length = j := by rw [List.length_take]; omega
 exact ⟨A, c, by rw [e], by rw [e]; omega, h1.2.2, by rw [List.map_take]; exact h2⟩
theorem BytesV.takeN {ws : List UInt8} {A : Option Addr} {n c : Nat} (h : BytesV ws lab w (.slice A n c)) (j : Nat) (hj : j ≤ n) : BytesV (ws.take j) lab w (.slice A j c) := by
 have h1 := h.cap
 have h2 := h.row.take j
 have e : (ws.take j).length = j := by rw [List.length_take]; omega
 exact ⟨A, c, by rw [e], by rw [e]; omega, h1.2.2, by rw [List.map_take]; exact h2⟩
end
end Go.Proofs.Ytgfomedobfaidaa
end
section
namespace Go.Proofs.Ytgfomedobfaidaa
theorem wv_append (a b : List UInt32) : wv (a ++ b) = wv a + 4294967296 ^ a.length * wv b := by
 induction a with
 | nil => simp [wv]
 | cons x r ih =>
  simp only [List.cons_append, wv, ih, List.length_cons, Nat.pow_succ, Nat.mul_add]
  rw [Nat.mul_comm (4294967296 ^ r.length) 4294967296, Nat.mul_assoc]
  omega
theorem wv_take_zero {ws : List UInt32} {k : Nat} (hk : k < ws.length) (h0 : ws.getD k 0 = 0) : wv (ws.take (k + 1)) = wv (ws.take k) := by
 have e : ws.take (k + 1) = ws.take k ++ [ws.getD k 0] := by
  rw [List.take_succ_eq_append_getElem hk]; simp [List.getD, List.getElem?_eq_getElem hk]
 rw [e, wv_append, h0]
 simp [wv]
theorem take_limbs {ws : List UInt32} {k : Nat} (hk : k ≤ ws.length) (h : k = 0 ∨ ws.getD (k - 1) 0 ≠ 0) : ws.take k = limbs (wv (ws.take k)) := by
 refine (limbs_wv ?_).symm
 intro a ha
 rcases h with h | h
 ·subst h; simp at ha
 ·by_cases h0 : k = 0
  ·subst h0; simp at ha
  ·have e : (ws.take k).getLast? = some (ws.getD (k - 1) 0) := by
    rw [List.getLast?_eq_getElem?, List.length_take, show min k ws.length = k by omega, List.getElem?_take_of_lt (by omega)]
    simp [List.getD, List.getElem?_eq_getElem (show k - 1 < ws.length by omega)]
   rw [e] at ha
   cases ha
   exact h
end Go.Proofs.Ytgfomedobfaidaa
end
section
set_option linter.unusedVariables false
set_option linter.unusedSimpArgs false
namespace Go.Proofs.Ytgfomedobfaidaa
open Go.RowKit
def Wr (T U : TypeId) (lab : Lab) (w : World) (b : Nat) (bs : List UInt8) (bad : Bool) : Prop := ∃ v, Own lab w 901 b T #[v, .bool bad] ∧ App lab w 902 U v bs.length (bs.map u8)
theorem Wr.cast {T U : TypeId} {lab : Lab} {w : World} {b : Nat} {bs bs' : List UInt8} {bad bad' : Bool} (e : bs = bs') (f : bad = bad') (h : Wr T U lab w b bs bad) : Wr T U lab w b bs' bad' := by subst e; subst f; exact h
theorem Wr.mk {T U : TypeId} {lab : Lab} {w : World} {b n : Nat} {bs : List UInt8} {bad : Bool} {v : Value} (h : Own lab w 901 b T #[v, .bool bad]) (k : App lab w 902 U v n (bs.map u8)) : Wr T U lab w b bs bad := by
 have : bs.length = n := by simpa using k.len
 subst this
 exact ⟨v, h, k⟩
section
variable {ds : List Deferred} {P : Program} {N : Nat} {ops : Array Oper} {Q : Exit → Act → World → Prop} {l : List (Nat × Value)} {rest : List Oper} {w : World} {lab : Lab} {ty : TypeId}
theorem Seq.build_app {d k : Nat} {t e : TypeId} {ag : Bool} {by_ : Nat} {z : Value} {len : Nat} {parts : Array (Nat × Operand)} {pos : String} {af : Array Edge} (pv : List (Nat × Value)) (cs : List Value) (hv : Valid lab w) (ht : P.underlying t = some (.slice e)) (he : tyRow P e = some (ag, 1, some z, by_)) (hl : len ≤ 16777216) (hl0 : len ≠ 0) (hcl : cs.length = len)
  (hp : parts.toList.map (fun p => (p.1, ev l p.2)) = pv.map (fun p => (p.1, some p.2))) (hf : Instr.fill (fun i => some (i * 1, 1)) ((Array.range (len * 1)).map (fun j => z.cells[j % z.cells.size]!)) pv = some cs.toArray) (hd : d < N)
  (h : ∀ lab' w' v, App lab' w' k e v len cs → Stp [] lab w lab' w' → Valid lab' w' → Seq ds P N ops Q ((d, v) :: l) rest w') : Seq ds P N ops Q l (⟨some d, .buildSlice t len parts, ty, pos, af, none⟩ :: rest) w :=
 Seq.val (Does.buildSlice pv cs ht he (by omega) (by omega) hp hf) hd (h (labNew lab w.heap.size k) _ _ ⟨⟨by omega, .inr ⟨w.heap.size, len, cs.toArray, rfl, Nat.zero_le _, heap_alloc_at w _, Nat.le_refl _, by unfold maxLen; omega, by simp [hcl], by rw [List.toList_toArray, List.take_of_length_le (by omega)]⟩⟩, fun k' hk' => by simp [Value.ownBlock] at hk'; subst hk'; simp [labNew]⟩ (Stp.alloc _ k) (hv.alloc _ k))
theorem build_ex {t e : TypeId} {ag : Bool} {s by_ : Nat} {z : Value} {len : Nat} {parts : Array (Nat × Operand)} (pv : List (Nat × Value)) (cs : List Value) (hv : Valid lab w) (ht : P.underlying t = some (.slice e)) (he : tyRow P e = some (ag, s, some z, by_)) (hl : len * s ≤ 16777216) (hl0 : len * s ≠ 0)
  (hp : parts.toList.map (fun p => (p.1, ev l p.2)) = pv.map (fun p => (p.1, some p.2))) (hf : Instr.fill (fun i => some (i * s, s)) ((Array.range (len * s)).map (fun j => z.cells[j % z.cells.size]!)) pv = some cs.toArray) :
  ∃ b w', Does P l (.buildSlice t len parts) ty w (.slice (some ⟨b, 0, none⟩) len len) w' ∧ RowAt lab w' (some ⟨b, 0, none⟩) cs ∧ Stp [] lab w lab w' ∧ Valid lab w' :=
 ⟨_, _, Does.buildSlice pv cs ht he hl hl0 hp hf, RowAt.fresh hv _ e (0, 0) cs (fun j v hj => by simpa using hj), Stp.fresh _, hv.below (by rw [size_alloc]; omega)⟩
def RowsV (L : List (List UInt8)) : VP := fun lab w v => ∃ A c vs, v = .slice A L.length c ∧ L.length ≤ c ∧ c ≤ 9223372036854775807 ∧ List.length vs = L.length ∧ RowAt lab w A vs ∧ ∀ (i : Nat) (bs : List UInt8), L[i]? = some bs → ∃ u, vs[i]? = some u ∧ BytesV bs lab w u
theorem RowsV.pers (L : List (List UInt8)) : Pers (RowsV L) := ⟨fun s ⟨A, c, vs, h1, h2, h3, h4, h5, h6⟩ => ⟨A, c, vs, h1, h2, h3, h4, h5.lift s, fun i bs hi => by
 obtain ⟨u, hu, hb⟩ := h6 i bs hi
 exact ⟨u, hu, (BytesV.pers _).step s hb⟩⟩⟩
theorem RowsV.shape {L : List (List UInt8)} {v : Value} (h : RowsV L lab w v) : ∃ A c, v = .slice A L.length c := by
 obtain ⟨A, c, _, h1, _⟩ := h
 exact ⟨A, c, h1⟩
theorem RowsV.cap {L : List (List UInt8)} {A : Option Addr} {n c : Nat} (h : RowsV L lab w (.slice A n c)) : n = L.length ∧ L.length ≤ c ∧ c ≤ 9223372036854775807 := by
 obtain ⟨A', c', _, h1, h2, h3, _⟩ := h
 cases h1
 exact ⟨rfl, h2, h3⟩
theorem RowsV.cast {x y : List (List UInt8)} (e : x = y) {v : Value} (h : RowsV x lab w v) : RowsV y lab w v := e ▸ h
theorem RowsV.at_ {L : List (List UInt8)} {A : Option Addr} {n c : Nat} (h : RowsV L lab w (.slice A n c)) (j : Nat) (hj : j < n) : ∃ vs u, List.length vs = n ∧ RowAt lab w A vs ∧ vs[j]? = some u ∧ BytesV (List.getD L j []) lab w u := by
 obtain ⟨A', c', vs, h1, _, _, h4, h5, h6⟩ := h
 cases h1
 obtain ⟨u, hu, hb⟩ := h6 j (L[j]) (List.getElem?_eq_getElem hj)
 refine ⟨vs, u, h4, h5, hu, ?_⟩
 simpa [List.getD, List.getElem?_eq_getElem hj] using hb
theorem RowsV.mk {L : List (List UInt8)} {A : Option Addr} {c : Nat} {vs : List Value} (n : Nat) (hn : L.length = n) (hc : n ≤ c) (hc' : c ≤ 9223372036854775807) (hr : RowAt lab w A vs) (hvs : List.length vs = n) (h : ∀ (i : Nat) (bs : List UInt8), L[i]? = some bs → ∃ u, vs[i]? = some u ∧ BytesV bs lab w u) : RowsV L lab w (.slice A n c) := by
 subst hn
 exact ⟨A, c, vs, rfl, hc, hc', hvs, hr, h⟩
def EachB (lab : Lab) (w : World) : List (List UInt8) → List Value → Prop
 | [], [] => True
 | b :: r, v :: s => BytesV b lab w v ∧ EachB lab w r s
 | _, _ => False
theorem EachB.get : ∀ {L : List (List UInt8)} {vs : List Value}, EachB lab w L vs → ∀ (i : Nat) (bs : List UInt8), L[i]? = some bs → ∃ u, vs[i]? = some u ∧ BytesV bs lab w u
 | [], [], _, i, bs, h => by simp at h
 | b :: r, v :: s, h, 0, bs, hi => by simp at hi; subst hi; exact ⟨v, rfl, h.1⟩
 | b :: r, v :: s, h, i + 1, bs, hi => EachB.get (L := r) (vs := s) h.2 i bs (by simpa using hi)
 | [], _ :: _, h, _, _, _ => h.elim
 | _ :: _, [], h, _, _, _ => h.elim
end
def u64i (n : Int) : UInt64 := UInt64.ofNat (n % 18446744073709551616).toNat
theorem wrap_i64_u64i (n : Int) : IntKind.u64.wrap n = ((u64i n).toNat : Int) := by
 rw [IntKind.wrap_u64, u64i]; simp; omega
def be (x : UInt64) : Nat → List UInt8
 | 0 => []
 | k + 1 => (x >>> UInt64.ofNat (8 * k)).toUInt8 :: be x k
end Go.Proofs.Ytgfomedobfaidaa
end
section
set_option linter.unusedVariables false
set_option linter.unusedSimpArgs false
namespace Go.Proofs.Ytgfomedobfaidaa
open Go.RowKit

structure VoteD where
 kind : Int
 from_ : Int
 slot : Int
 view : Int
 valid : Int
 value : List UInt8
def VoteV (d : VoteD) : VP := fun lab w v => ∃ A c, v = .agg #[i64 d.kind, i64 d.from_, i64 d.slot, i64 d.view, i64 d.valid, .slice A d.value.length c] ∧ BytesV d.value lab w (.slice A d.value.length c)
theorem VoteV.pers (d : VoteD) : Pers (VoteV d) := ⟨fun s ⟨A, c, h, h1⟩ => ⟨A, c, h, (BytesV.pers _).step s h1⟩⟩
theorem VoteV.open {d : VoteD} {lab : Lab} {w : World} {v : Value} (h : VoteV d lab w v) : ∃ A c, v = .agg #[i64 d.kind, i64 d.from_, i64 d.slot, i64 d.view, i64 d.valid, .slice A d.value.length c] ∧ BytesV d.value lab w (.slice A d.value.length c) := h
theorem VoteV.mk {a b c d e : Int} {bs : List UInt8} {lab : Lab} {w : World} {A : Option Addr} {n m : Nat} (h : BytesV bs lab w (.slice A n m)) : VoteV ⟨a, b, c, d, e, bs⟩ lab w (.agg #[i64 a, i64 b, i64 c, i64 d, i64 e, .slice A n m]) := by
 obtain ⟨A', c', h1, h2⟩ := h
 cases h1
 exact ⟨_, _, rfl, _, _, rfl, h2⟩
theorem VoteV.cast {x y : VoteD} (e : x = y) {lab : Lab} {w : World} {v : Value} (h : VoteV x lab w v) : VoteV y lab w v := e ▸ h
def out_ (n least most : Int) : Bool := decide (n < least) || decide (most < n)
def textB (t : List UInt8) : List UInt8 := be (u64i t.length) 2 ++ t
def textOr (t : List UInt8) (most : Int) : List UInt8 := if most < (List.length t : Int) then [] else textB t
def VoteD.bad (d : VoteD) : Bool := (((((false || out_ d.kind 1 5) || out_ d.from_ 1 64) || out_ d.slot 0 256) || out_ d.view 0 1048576) || out_ (d.valid + 1) 0 1048577) || decide (4096 < (List.length d.value : Int))
def VoteD.bytes (d : VoteD) : List UInt8 := [86] ++ be (u64i d.kind) 1 ++ be (u64i d.from_) 1 ++ be (u64i d.slot) 4 ++ be (u64i d.view) 4 ++ be (u64i (d.valid + 1)) 4 ++ textB d.value
theorem VoteD.chain {d : VoteD} (h : d.bad = false) : [(86 : UInt8)] ++ be (u64i d.kind) (Int.toNat 1) ++ be (u64i d.from_) (Int.toNat 1) ++ be (u64i d.slot) (Int.toNat 4) ++ be (u64i d.view) (Int.toNat 4) ++ be (u64i (d.valid + 1)) (Int.toNat 4) ++ textOr d.value 4096 = d.bytes := by
 have h' : ¬ (4096 < (List.length d.value : Int)) := by simp [VoteD.bad] at h; omega
 rw [textOr, if_neg h']
 rfl
def by8 (n : Int) : UInt8 := UInt8.ofNat n.toNat
def four (n : Int) : List UInt8 := [by8 (n / 16777216), by8 (n / 65536 % 256), by8 (n / 256 % 256), by8 (n % 256)]
end Go.Proofs.Ytgfomedobfaidaa
end
section
namespace Go.Proofs.Ytgfomedobfaidaa
def blen (x : Nat) : Nat := if x = 0 then 0 else x.log2 + 1
theorem blen_le {x k : Nat} : blen x ≤ k ↔ x < 2 ^ k := by
 unfold blen
 split
 ·rename_i h; subst h; simp [Nat.pow_pos]
 ·rename_i h; rw [Nat.succ_le_iff, Nat.log2_lt h]
theorem lt_blen {x k : Nat} : k < blen x ↔ 2 ^ k ≤ x := by
 have := blen_le (x := x) (k := k)
 omega
theorem blen_zero : blen 0 = 0 := rfl
theorem blen_div {x j : Nat} (h : 2 ^ j ≤ x) : blen x = blen (x / 2 ^ j) + j := by
 have hp : 0 < 2 ^ j := Nat.pow_pos (by omega)
 have hj : j < blen x := lt_blen.2 h
 apply Nat.le_antisymm
 ·rw [blen_le, Nat.pow_add, ← Nat.div_lt_iff_lt_mul hp]
  exact blen_le.1 (Nat.le_refl _)
 ·have : blen (x / 2 ^ j) ≤ blen x - j := by
   rw [blen_le, Nat.div_lt_iff_lt_mul hp, ← Nat.pow_add, show blen x - j + j = blen x by omega]
   exact blen_le.1 (Nat.le_refl _)
  omega
theorem limbs_get (i : Nat) : ∀ (x : Nat), (limbs x).getD i 0 = UInt32.ofNat (x / 4294967296 ^ i) := by
 induction i with
 | zero =>
  intro x
  by_cases h : x = 0
  ·subst h; rw [limbs_zero]; rfl
  ·rw [limbs_pos h]; simp
 | succ i ih =>
  intro x
  by_cases h : x = 0
  ·subst h; rw [limbs_zero]; simp
  ·rw [limbs_pos h]
   simp only [List.getD_cons_succ]
   rw [ih, Nat.div_div_eq_div_mul, Nat.pow_succ, Nat.mul_comm 4294967296]
theorem limb_toNat (x i : Nat) : ((limbs x).getD i 0).toNat = x / 4294967296 ^ i % 4294967296 := by
 rw [limbs_get]; simp
theorem nw_pos_of {x : Nat} (h : x ≠ 0) : 0 < nw x := by rw [nw_pos h]; omega
theorem le_of_nw {x : Nat} (h : x ≠ 0) : 4294967296 ^ (nw x - 1) ≤ x := by
 refine Classical.byContradiction fun hn => ?_
 have h1 := nw_le (x := x) (n := nw x - 1) (by omega)
 have h2 := nw_pos_of h
 omega
theorem pow32 (i : Nat) : 4294967296 ^ i = 2 ^ (32 * i) := by rw [Nat.pow_mul]
theorem top_limb {x : Nat} (h : x ≠ 0) : ((limbs x).getD (nw x - 1) 0).toNat = x / 4294967296 ^ (nw x - 1) := by
 rw [limb_toNat, Nat.mod_eq_of_lt]
 rw [Nat.div_lt_iff_lt_mul (Nat.pow_pos (by omega)), Nat.mul_comm, ← Nat.pow_succ]
 have := nw_pos_of h
 rw [show (nw x - 1).succ = nw x by omega]
 exact lt_nw x
theorem blen_limbs {x : Nat} (h : x ≠ 0) : blen x = 32 * (nw x - 1) + blen ((limbs x).getD (nw x - 1) 0).toNat := by
 rw [top_limb h, pow32, blen_div (x := x) (j := 32 * (nw x - 1)) (by rw [← pow32]; exact le_of_nw h)]
 omega
def len8tab : List UInt8 := [0, 1, 2, 2, 3, 3, 3, 3, 4, 4, 4, 4, 4, 4, 4, 4, 5, 5, 5, 5, 5, 5, 5, 5, 5, 5, 5, 5, 5, 5, 5, 5, 6, 6, 6, 6, 6, 6, 6, 6, 6, 6, 6, 6, 6, 6, 6, 6, 6, 6, 6, 6, 6, 6, 6, 6, 6, 6, 6, 6, 6, 6, 6, 6, 7, 7, 7, 7, 7, 7, 7, 7, 7, 7, 7, 7, 7, 7, 7, 7, 7, 7, 7, 7, 7, 7, 7, 7, 7, 7, 7, 7, 7, 7, 7, 7, 7, 7, 7, 7, 7, 7, 7, 7, 7, 7, 7, 7, 7, 7, 7, 7, 7, 7, 7, 7, 7, 7, 7, 7, 7, 7, 7, 7, 7, 7, 7, 7, 8, 8, 8, 8, 8, 8, 8, 8, 8, 8, 8, 8, 8, 8, 8, 8, 8, 8, 8, 8, 8, 8, 8, 8, 8, 8, 8, 8, 8, 8, 8, 8, 8, 8, 8, 8, 8, 8, 8, 8, 8, 8, 8, 8, 8, 8, 8, 8, 8, 8, 8, 8, 8, 8, 8, 8, 8, 8, 8, 8, 8, 8, 8, 8, 8, 8, 8, 8, 8, 8, 8, 8, 8, 8, 8, 8, 8, 8, 8, 8, 8, 8, 8, 8, 8, 8, 8, 8, 8, 8, 8, 8, 8, 8, 8, 8, 8, 8, 8, 8, 8, 8, 8, 8, 8, 8, 8, 8, 8, 8, 8, 8, 8, 8, 8, 8, 8, 8, 8, 8, 8, 8, 8, 8, 8, 8, 8, 8]
theorem len8tab_get : ∀ i : Fin 256, ((len8tab.getD i.val 0).toNat : Int) = (blen i.val : Int) := by decide +kernel
theorem blen_u8 {x : Nat} (h : x < 256) : ((len8tab.getD x 0).toNat : Int) = (blen x : Int) := len8tab_get ⟨x, h⟩
def byteOf (a i : Nat) : UInt8 := UInt8.ofNat (a / 256 ^ i)
def beN (a n : Nat) : List UInt8 := (List.range n).map fun j => byteOf a (n - 1 - j)
theorem blen_le_nw (a : Nat) : blen a ≤ 32 * nw a := by rw [blen_le, ← pow32]; exact lt_nw a
end Go.Proofs.Ytgfomedobfaidaa
end
section
set_option linter.unusedVariables false
set_option linter.unusedSimpArgs false
namespace Go.Proofs.Ytgfomedobfaidaa
open Go.RowKit
def ElV (cs : List Value) (j : Nat) : VP := fun lab w v => ∃ A, v = .pointer (Option.map (fun zq => Addr.add zq j) A) ∧ RowAt lab w A cs
theorem ElV.pers (cs : List Value) (j : Nat) : Pers (ElV cs j) := ⟨fun s ⟨A, h, h1⟩ => ⟨A, h, h1.lift s⟩⟩
theorem BytesV.release {lab : Lab} {w : World} {d b n : Nat} {t : TypeId} {ws : List UInt8} (h : Own lab w d b t (ws.map u8).toArray) (hn : ws.length = n) (hc : n ≤ 9223372036854775807) : BytesV ws (labFree lab d) w (.slice (some ⟨b, 0, none⟩) n n) := by
 subst hn
 exact ⟨_, _, rfl, Nat.le_refl _, hc, RowAt.release h 0 _ (fun j v hj => by simpa using hj)⟩
theorem WordsV.release {lab : Lab} {w : World} {d b n : Nat} {t : TypeId} {ws : List UInt32} (h : Own lab w d b t (ws.map u32).toArray) (hn : ws.length = n) (hc : n ≤ 9223372036854775807) : WordsV ws (labFree lab d) w (.slice (some ⟨b, 0, none⟩) n n) := by
 subst hn
 exact ⟨_, _, rfl, Nat.le_refl _, hc, RowAt.release h 0 _ (fun j v hj => by simpa using hj)⟩
section
variable {P : Program} {N : Nat} {l : List (Nat × Value)} {w : World} {lab : Lab} {ty : TypeId}
theorem Does.index_str {t : TypeId} {x y : Operand} {s : List UInt8} {k : IntKind} {i : Int} (j : Nat) (ht : P.underlying t = some .string) (hx : ev l x = some (str s)) (hy : ev l y = some (.int k i)) (hij : i = (j : Int)) (hj : j < s.length) : Does P l (.index t x y) ty w (u8 (s.getD j 0)) w := by
 intro ρ hρ d pos af g
 subst hij
 have e : (⟨s.toArray⟩ : ByteArray)[j]? = some (s.getD j 0) := by
  rw [ByteArray.getElem?_lt' _ _ (by simpa [ByteArray.size] using hj)]
  simp [List.getD, List.getElem?_eq_getElem hj, ByteArray.get]
  rfl
 simp only [execOp, Instr.index, hρ _ _ hx, hρ _ _ hy, asIntOf, Sem.run_bind, Sem.run_pure, Result.andThen_ok, run_underlying ht, Int.natCast_nonneg, if_true, Int.toNat_natCast, e]
end
theorem shr_toNat (x : UInt32) (k : Nat) (hk : k < 32) : (x >>> UInt32.ofNat k).toNat = x.toNat / 2 ^ k := by
 rw [UInt32.toNat_shiftRight, UInt32.toNat_ofNat_of_lt' (by simp [UInt32.size]; omega), Nat.mod_eq_of_lt hk, Nat.shiftRight_eq_div_pow]
theorem len32_u8 {y : UInt32} (h : y.toNat < 256) : ((len8tab.getD y.toUInt8.toNat 0).toNat : Int) = (blen y.toNat : Int) := by
 rw [UInt32.toNat_toUInt8, Nat.mod_eq_of_lt h]; exact blen_u8 h
theorem len32_hi {x : UInt32} (k : Nat) (h : 2 ^ k ≤ x.toNat) (hk : k < 32) : blen x.toNat = blen (x >>> UInt32.ofNat k).toNat + k := by
 rw [shr_toNat _ _ hk]; exact blen_div h
theorem len32_a {x : UInt32} (h1 : (65536 : Int) ≤ x.toNat) (h2 : (256 : Int) ≤ (x >>> UInt32.ofNat 16).toNat) : (16 : Int) + 8 + ((len8tab.getD (x >>> UInt32.ofNat 16 >>> UInt32.ofNat 8).toUInt8.toNat 0).toNat : Int) = (blen x.toNat : Int) := by
 have hx := x.toNat_lt
 have e1 := len32_hi (x := x) 16 (by omega) (by omega)
 have e2 := len32_hi (x := x >>> UInt32.ofNat 16) 8 (by omega) (by omega)
 have e3 := shr_toNat (x >>> UInt32.ofNat 16) 8 (by omega)
 have e4 := shr_toNat x 16 (by omega)
 rw [len32_u8 (by rw [e3, e4]; omega)]
 omega
theorem len32_b {x : UInt32} (h1 : (65536 : Int) ≤ x.toNat) (h2 : ¬ (256 : Int) ≤ (x >>> UInt32.ofNat 16).toNat) : (16 : Int) + ((len8tab.getD (x >>> UInt32.ofNat 16).toUInt8.toNat 0).toNat : Int) = (blen x.toNat : Int) := by
 have e1 := len32_hi (x := x) 16 (by omega) (by omega)
 rw [len32_u8 (by omega)]
 omega
theorem len32_c {x : UInt32} (h1 : ¬ (65536 : Int) ≤ x.toNat) (h2 : (256 : Int) ≤ x.toNat) : (0 : Int) + 8 + ((len8tab.getD (x >>> UInt32.ofNat 8).toUInt8.toNat 0).toNat : Int) = (blen x.toNat : Int) := by
 have e2 := len32_hi (x := x) 8 (by omega) (by omega)
 have e3 := shr_toNat x 8 (by omega)
 rw [len32_u8 (by omega)]
 omega
theorem len32_d {x : UInt32} (h2 : ¬ (256 : Int) ≤ x.toNat) : (0 : Int) + ((len8tab.getD x.toUInt8.toNat 0).toNat : Int) = (blen x.toNat : Int) := by
 rw [len32_u8 (by omega)]
 omega
theorem bits_nz {a : Nat} (h : ¬ ((nw a : Nat) : Int) = 0) : a ≠ 0 := fun e => by subst e; simp [nw_zero] at h
theorem bits_zero {a : Nat} (h : ((nw a : Nat) : Int) = 0) : (0 : Int) = ((blen a : Nat) : Int) := by
 have : a = 0 := by
  have h0 : limbs a = [] := List.eq_nil_of_length_eq_zero (by have : (limbs a).length = nw a := rfl; omega)
  rw [← wv_limbs a, h0]; rfl
 subst this; rfl
theorem bits_pos {a : Nat} (h : ¬ ((nw a : Nat) : Int) = 0) : (32 : Int) * (((nw a : Nat) : Int) - 1) + ((blen (List.getD (limbs a) ((((nw a : Nat) : Int) - 1).toNat) (0 : UInt32)).toNat : Nat) : Int) = ((blen a : Nat) : Int) := by
 have h1 := bits_nz h
 have h2 := nw_pos_of h1
 rw [show (((nw a : Nat) : Int) - 1).toNat = nw a - 1 by omega]
 have := blen_limbs h1
 omega
end Go.Proofs.Ytgfomedobfaidaa
end
section
namespace Go.Proofs.Ytgfomedobfaidaa
def nv (b : List UInt8) : Nat := b.foldl (fun n x => 256 * n + x.toNat) 0
theorem foldl_nv (b : List UInt8) : ∀ n : Nat, b.foldl (fun n x => 256 * n + x.toNat) n = n * 256 ^ b.length + nv b := by
 induction b with
 | nil => intro n; simp [nv]
 | cons x r ih =>
  intro n
  have e0 : nv (x :: r) = List.foldl (fun n (x : UInt8) => 256 * n + x.toNat) (256 * 0 + x.toNat) r := rfl
  rw [List.foldl_cons, e0, ih, ih (256 * 0 + x.toNat), List.length_cons, Nat.pow_succ, Nat.add_mul]
  have e : 256 * n * 256 ^ r.length = n * (256 ^ r.length * 256) := by rw [Nat.mul_comm 256 n, Nat.mul_assoc, Nat.mul_comm 256]
  rw [e]; simp; omega
theorem nv_cons (x : UInt8) (r : List UInt8) : nv (x :: r) = x.toNat * 256 ^ r.length + nv r := by
 rw [nv, List.foldl_cons, foldl_nv]; simp
theorem nv_lt (b : List UInt8) : nv b < 256 ^ b.length := by
 induction b with
 | nil => simp [nv]
 | cons x r ih =>
  rw [nv_cons, List.length_cons, Nat.pow_succ]
  have hx := x.toNat_lt
  have : x.toNat * 256 ^ r.length ≤ 255 * 256 ^ r.length := Nat.mul_le_mul_right _ (by omega)
  omega
def nvLow (b : List UInt8) (k : Nat) : Nat := nv (b.drop (b.length - k))
theorem nvLow_zero (b : List UInt8) : nvLow b 0 = 0 := by
 unfold nvLow
 rw [List.drop_of_length_le (by omega)]; rfl
theorem nvLow_lt (b : List UInt8) {k : Nat} (h : k ≤ b.length) : nvLow b k < 256 ^ k := by
 have := nv_lt (b.drop (b.length - k))
 rw [List.length_drop, show b.length - (b.length - k) = k by omega] at this
 exact this
theorem nvLow_succ (b : List UInt8) {k : Nat} (h : k < b.length) : nvLow b (k + 1) = nvLow b k + (b.getD (b.length - 1 - k) 0).toNat * 256 ^ k := by
 unfold nvLow
 rw [show b.length - (k + 1) = b.length - 1 - k by omega, List.drop_eq_getElem_cons (by omega), nv_cons, List.length_drop, show b.length - 1 - k + 1 = b.length - k by omega, show b.length - (b.length - k) = k by omega]
 simp [List.getD, List.getElem?_eq_getElem (show b.length - 1 - k < b.length by omega)]
 omega
theorem nvLow_full (b : List UInt8) {k : Nat} (h : b.length ≤ k) : nvLow b k = nv b := by
 unfold nvLow
 rw [show b.length - k = 0 by omega]; rfl
def nvUp (b : List UInt8) (k : Nat) : List UInt32 := (List.range ((b.length + 3) / 4)).map fun j => UInt32.ofNat (nvLow b k / 4294967296 ^ j)
theorem nvUp_length (b : List UInt8) (k : Nat) : (nvUp b k).length = (b.length + 3) / 4 := by simp [nvUp]
theorem nvUp_zero (b : List UInt8) : List.replicate ((((b.length : Nat) : Int) + 3) / 4).toNat (0 : UInt32) = nvUp b 0 := by
 apply List.ext_getElem
 ·simp [nvUp]; omega
 ·intro j h1 h2
  simp [nvUp, nvLow_zero]
theorem wv_words (n : Nat) : ∀ V : Nat, V < 4294967296 ^ n → wv ((List.range n).map fun j => UInt32.ofNat (V / 4294967296 ^ j)) = V := by
 induction n with
 | zero => intro V h; simp at h; subst h; rfl
 | succ n ih =>
  intro V h
  rw [List.range_succ_eq_map, List.map_cons, List.map_map, wv]
  have e : ((fun j => UInt32.ofNat (V / 4294967296 ^ j)) ∘ Nat.succ) = fun j => UInt32.ofNat (V / 4294967296 / 4294967296 ^ j) := by
   funext j
   simp only [Function.comp_apply]
   rw [Nat.div_div_eq_div_mul, Nat.pow_succ, Nat.mul_comm 4294967296]
  rw [e, ih _ (by rw [Nat.pow_succ] at h; rw [Nat.div_lt_iff_lt_mul (by omega)]; exact h)]
  simp
  omega
theorem nvUp_full {b : List UInt8} {k : Nat} (h : b.length ≤ k) : wv (nvUp b k) = nv b := by
 unfold nvUp
 rw [wv_words, nvLow_full b h]
 rw [nvLow_full b h, pow32]
 refine Nat.lt_of_lt_of_le (nv_lt b) ?_
 rw [show 256 = 2 ^ 8 from rfl, ← Nat.pow_mul]
 exact Nat.pow_le_pow_right (by omega) (by omega)
theorem word_step {V x k q r : Nat} (hV : V < 256 ^ k) (hx : x < 256) (hk : k = 4 * q + r) (hr : r < 4) : (UInt32.ofNat (V / 4294967296 ^ q)) ||| ((UInt32.ofNat x) <<< UInt32.ofNat (8 * r)) = UInt32.ofNat ((V + x * 256 ^ k) / 4294967296 ^ q) := by
 have e1 : 256 ^ k = 2 ^ (8 * r) * 4294967296 ^ q := by
  rw [pow32, ← Nat.pow_add, show 256 = 2 ^ 8 from rfl, ← Nat.pow_mul]; congr 1; omega
 have hp : 0 < 4294967296 ^ q := Nat.pow_pos (by omega)
 have hu : V / 4294967296 ^ q < 2 ^ (8 * r) := by rw [Nat.div_lt_iff_lt_mul hp, ← e1]; exact hV
 have e2 : (V + x * 256 ^ k) / 4294967296 ^ q = V / 4294967296 ^ q + x * 2 ^ (8 * r) := by
  rw [e1, ← Nat.mul_assoc, Nat.add_mul_div_right _ _ hp]
 rw [e2]
 generalize V / 4294967296 ^ q = u at hu
 have hr8 : 2 ^ (8 * r) ≤ 2 ^ 24 := Nat.pow_le_pow_right (by omega) (by omega)
 have hxr : x * 2 ^ (8 * r) < 256 * 2 ^ (8 * r) := Nat.mul_lt_mul_of_pos_right hx (Nat.pow_pos (by omega))
 have hs : x * 2 ^ (8 * r) ≤ 255 * 2 ^ (8 * r) := Nat.mul_le_mul_right _ (by omega)
 rw [← UInt32.toNat_inj, UInt32.toNat_or, UInt32.toNat_shiftLeft, UInt32.toNat_ofNat_of_lt' (n := 8 * r) (by simp [UInt32.size]; omega), UInt32.toNat_ofNat_of_lt' (n := u) (by simp [UInt32.size]; omega), UInt32.toNat_ofNat_of_lt' (n := x) (by simp [UInt32.size]; omega), Nat.mod_eq_of_lt (a := 8 * r) (by omega), Nat.shiftLeft_eq, Nat.mod_eq_of_lt (a := x * 2 ^ (8 * r)) (by omega), UInt32.toNat_ofNat_of_lt' (by simp [UInt32.size]; omega)]
 have := Nat.shiftLeft_add_eq_or_of_lt hu x
 rw [Nat.shiftLeft_eq] at this
 rw [Nat.or_comm, ← this, Nat.add_comm]
theorem word_low {V x k j : Nat} (h : 4 * (j + 1) ≤ k) : UInt32.ofNat ((V + x * 256 ^ k) / 4294967296 ^ j) = UInt32.ofNat (V / 4294967296 ^ j) := by
 have hp : 0 < 4294967296 ^ j := Nat.pow_pos (by omega)
 have e1 : 256 ^ k = 4294967296 * 256 ^ (k - 4 * (j + 1)) * 4294967296 ^ j := by
  rw [show 4294967296 = 256 ^ 4 from rfl, ← Nat.pow_mul, ← Nat.pow_add, ← Nat.pow_add]; congr 1; omega
 rw [e1, ← Nat.mul_assoc, Nat.add_mul_div_right _ _ hp, ← UInt32.toNat_inj]
 simp only [UInt32.toNat_ofNat']
 rw [show x * (4294967296 * 256 ^ (k - 4 * (j + 1))) = 4294967296 * (x * 256 ^ (k - 4 * (j + 1))) by rw [← Nat.mul_assoc, Nat.mul_comm x, Nat.mul_assoc]]
 omega
theorem nvUp_step {b : List UInt8} {k : Nat} (h : k < b.length) : List.set (nvUp b k) (((k : Nat) : Int) / 4).toNat ((List.getD (nvUp b k) (((k : Nat) : Int) / 4).toNat (0 : UInt32)) ||| ((List.getD b (((b.length : Nat) : Int) - 1 - ((k : Nat) : Int)).toNat (0 : UInt8)).toUInt32 <<< UInt32.ofNat (8 * (((k : Nat) : Int) % 4)).toNat)) = nvUp b (k + 1) := by
 rw [show (((k : Nat) : Int) / 4).toNat = k / 4 by omega, show (8 * (((k : Nat) : Int) % 4)).toNat = 8 * (k % 4) by omega, show (((b.length : Nat) : Int) - 1 - ((k : Nat) : Int)).toNat = b.length - 1 - k by omega]
 have hV := nvLow_lt b (k := k) (by omega)
 have hS := nvLow_succ b h
 generalize hx : (b.getD (b.length - 1 - k) 0) = x at hS
 have hxl := x.toNat_lt
 have hx32 : x.toUInt32 = UInt32.ofNat x.toNat := by rw [← UInt32.toNat_inj]; simp
 have hg : (nvUp b k).getD (k / 4) 0 = UInt32.ofNat (nvLow b k / 4294967296 ^ (k / 4)) := by
  unfold nvUp
  simp [List.getD, List.getElem?_map, List.getElem?_range (show k / 4 < (b.length + 3) / 4 by omega)]
 rw [hg, hx32, word_step hV (by omega) (show k = 4 * (k / 4) + k % 4 by omega) (by omega), ← hS]
 apply List.ext_getElem
 ·simp [nvUp]
 ·intro j h1 h2
  rw [List.getElem_set]
  simp [nvUp] at h2
  split
  ·rename_i e
   subst e
   simp [nvUp]
  ·rename_i e
   simp only [nvUp, List.getElem_map, List.getElem_range]
   rw [hS]
   by_cases c : j < k / 4
   ·rw [word_low (by omega)]
   ·have hlt1 : nvLow b k < 4294967296 ^ j := by
     refine Nat.lt_of_lt_of_le hV ?_
     rw [show 4294967296 = 256 ^ 4 from rfl, ← Nat.pow_mul]
     exact Nat.pow_le_pow_right (by omega) (by omega)
    have hlt2 : nvLow b (k + 1) < 4294967296 ^ j := by
     refine Nat.lt_of_lt_of_le (nvLow_lt b (by omega)) ?_
     rw [show 4294967296 = 256 ^ 4 from rfl, ← Nat.pow_mul]
     exact Nat.pow_le_pow_right (by omega) (by omega)
    rw [hS] at hlt2
    rw [Nat.div_eq_of_lt hlt1, Nat.div_eq_of_lt hlt2]
end Go.Proofs.Ytgfomedobfaidaa
end
section
set_option linter.unusedVariables false
set_option linter.unusedSimpArgs false
namespace Go.Proofs.Ytgfomedobfaidaa
open Go.RowKit
def BitsV (bs : List Bool) : VP := fun lab w v => ∃ A c, v = .slice A bs.length c ∧ bs.length ≤ c ∧ c ≤ 9223372036854775807 ∧ RowAt lab w A (bs.map Value.bool)
theorem BitsV.pers (bs : List Bool) : Pers (BitsV bs) := ⟨fun s ⟨A, c, h1, h2, h3, h4⟩ => ⟨A, c, h1, h2, h3, h4.lift s⟩⟩
section
variable {lab : Lab} {w : World}
theorem BitsV.shape {bs : List Bool} {v : Value} (h : BitsV bs lab w v) : ∃ A c, v = .slice A bs.length c := by
 obtain ⟨A, c, h1, _⟩ := h
 exact ⟨A, c, h1⟩
theorem BitsV.shapeN {bs : List Bool} {v : Value} (h : BitsV bs lab w v) {n : Nat} (e : bs.length = n) : ∃ A c, v = .slice A n c := e ▸ h.shape
theorem BitsV.nil (lab : Lab) (w : World) : BitsV [] lab w (.slice none 0 0) := ⟨none, 0, rfl, by simp, by omega, RowAt.nil⟩
theorem BitsV.cast {x y : List Bool} (e : x = y) {v : Value} (h : BitsV x lab w v) : BitsV y lab w v := e ▸ h
theorem BitsV.row {bs : List Bool} {A : Option Addr} {n c : Nat} (h : BitsV bs lab w (.slice A n c)) : RowAt lab w A (bs.map Value.bool) := by
 obtain ⟨A', c', h1, _, _, h2⟩ := h
 cases h1
 exact h2
theorem BitsV.cap {bs : List Bool} {A : Option Addr} {n c : Nat} (h : BitsV bs lab w (.slice A n c)) : n = bs.length ∧ bs.length ≤ c ∧ c ≤ 9223372036854775807 := by
 obtain ⟨A', c', h1, h2, h3, _⟩ := h
 cases h1
 exact ⟨rfl, h2, h3⟩
theorem BitsV.takeN {ws : List Bool} {A : Option Addr} {n c : Nat} (h : BitsV ws lab w (.slice A n c)) (j : Nat) (hj : j ≤ n) : BitsV (ws.take j) lab w (.slice A j c) := by
 have h1 := h.cap
 have h2 := h.row.take j
 have e : (ws.take j).length = j := by rw [List.length_take]; omega
 exact ⟨A, c, by rw [e], by rw [e]; omega, h1.2.2, by rw [List.map_take]; exact h2⟩
theorem BitsV.release {d b n : Nat} {t : TypeId} {ws : List Bool} (h : Own lab w d b t (ws.map Value.bool).toArray) (hn : ws.length = n) (hc : n ≤ 9223372036854775807) : BitsV ws (labFree lab d) w (.slice (some ⟨b, 0, none⟩) n n) := by
 subst hn
 exact ⟨_, _, rfl, Nat.le_refl _, hc, RowAt.release h 0 _ (fun j v hj => by simpa using hj)⟩
theorem RowsV.nil (lab : Lab) (w : World) : RowsV [] lab w (.slice none 0 0) := ⟨none, 0, [], rfl, by simp, by omega, rfl, RowAt.nil, fun i bs h => by simp at h⟩
def NatsV (L : List Nat) : VP := fun lab w v => ∃ A c vs, v = .slice A L.length c ∧ L.length ≤ c ∧ c ≤ 9223372036854775807 ∧ List.length vs = L.length ∧ RowAt lab w A vs ∧ ∀ (i : Nat) (x : Nat), L[i]? = some x → ∃ u, vs[i]? = some u ∧ NatV x lab w (.agg #[u])
theorem NatsV.pers (L : List Nat) : Pers (NatsV L) := ⟨fun s ⟨A, c, vs, h1, h2, h3, h4, h5, h6⟩ => ⟨A, c, vs, h1, h2, h3, h4, h5.lift s, fun i bs hi => by
 obtain ⟨u, hu, hb⟩ := h6 i bs hi
 exact ⟨u, hu, (NatV.pers _).step s hb⟩⟩⟩
theorem NatsV.shape {L : List Nat} {v : Value} (h : NatsV L lab w v) : ∃ A c, v = .slice A L.length c := by
 obtain ⟨A, c, _, h1, _⟩ := h
 exact ⟨A, c, h1⟩
theorem NatsV.cap {L : List Nat} {A : Option Addr} {n c : Nat} (h : NatsV L lab w (.slice A n c)) : n = L.length ∧ L.length ≤ c ∧ c ≤ 9223372036854775807 := by
 obtain ⟨A', c', _, h1, h2, h3, _⟩ := h
 cases h1
 exact ⟨rfl, h2, h3⟩
theorem NatsV.nil (lab : Lab) (w : World) : NatsV [] lab w (.slice none 0 0) := ⟨none, 0, [], rfl, by simp, by omega, rfl, RowAt.nil, fun i bs h => by simp at h⟩
theorem NatsV.cast {x y : List Nat} (e : x = y) {v : Value} (h : NatsV x lab w v) : NatsV y lab w v := e ▸ h
theorem NatsV.at_ {L : List Nat} {A : Option Addr} {n c : Nat} (h : NatsV L lab w (.slice A n c)) (j : Nat) (hj : j < n) : ∃ vs u, List.length vs = n ∧ RowAt lab w A vs ∧ vs[j]? = some u ∧ NatV (List.getD L j 0) lab w (.agg #[u]) := by
 obtain ⟨A', c', vs, h1, _, _, h4, h5, h6⟩ := h
 cases h1
 obtain ⟨u, hu, hb⟩ := h6 j (L[j]) (List.getElem?_eq_getElem hj)
 refine ⟨vs, u, h4, h5, hu, ?_⟩
 simpa [List.getD, List.getElem?_eq_getElem hj] using hb
def NumsV (L : List (List Bool)) : VP := fun lab w v => ∃ A c vs, v = .slice A L.length c ∧ L.length ≤ c ∧ c ≤ 9223372036854775807 ∧ List.length vs = L.length ∧ RowAt lab w A vs ∧ ∀ (i : Nat) (x : List Bool), L[i]? = some x → ∃ u, vs[i]? = some u ∧ BitsV x lab w u
theorem NumsV.pers (L : List (List Bool)) : Pers (NumsV L) := ⟨fun s ⟨A, c, vs, h1, h2, h3, h4, h5, h6⟩ => ⟨A, c, vs, h1, h2, h3, h4, h5.lift s, fun i bs hi => by
 obtain ⟨u, hu, hb⟩ := h6 i bs hi
 exact ⟨u, hu, (BitsV.pers _).step s hb⟩⟩⟩
theorem NumsV.shape {L : List (List Bool)} {v : Value} (h : NumsV L lab w v) : ∃ A c, v = .slice A L.length c := by
 obtain ⟨A, c, _, h1, _⟩ := h
 exact ⟨A, c, h1⟩
theorem NumsV.cap {L : List (List Bool)} {A : Option Addr} {n c : Nat} (h : NumsV L lab w (.slice A n c)) : n = L.length ∧ L.length ≤ c ∧ c ≤ 9223372036854775807 := by
 obtain ⟨A', c', _, h1, h2, h3, _⟩ := h
 cases h1
 exact ⟨rfl, h2, h3⟩
theorem NumsV.nil (lab : Lab) (w : World) : NumsV [] lab w (.slice none 0 0) := ⟨none, 0, [], rfl, by simp, by omega, rfl, RowAt.nil, fun i bs h => by simp at h⟩
theorem NumsV.cast {x y : List (List Bool)} (e : x = y) {v : Value} (h : NumsV x lab w v) : NumsV y lab w v := e ▸ h
theorem NumsV.at_ {L : List (List Bool)} {A : Option Addr} {n c : Nat} (h : NumsV L lab w (.slice A n c)) (j : Nat) (hj : j < n) : ∃ vs u, List.length vs = n ∧ RowAt lab w A vs ∧ vs[j]? = some u ∧ BitsV (List.getD L j []) lab w u := by
 obtain ⟨A', c', vs, h1, _, _, h4, h5, h6⟩ := h
 cases h1
 obtain ⟨u, hu, hb⟩ := h6 j (L[j]) (List.getElem?_eq_getElem hj)
 refine ⟨vs, u, h4, h5, hu, ?_⟩
 simpa [List.getD, List.getElem?_eq_getElem hj] using hb
end
section
variable {P : Program} {N : Nat} {l : List (Nat × Value)} {w : World} {lab : Lab} {ty : TypeId}
theorem Does.load_rowN {t : TypeId} {x : Operand} {A : Option Addr} {by_ : Nat} {z : Option Value} {cs : List Value} {j : Nat} {v : Value} (ht : tyRow P t = some (true, 1, z, by_)) (hx : ev l x = some (.pointer (A.map (·.add j)))) (hr : RowAt lab w A cs) (hv : cs[j]? = some v) : Does P l (.load t x) ty w (.agg #[v]) w := by
 obtain ⟨b, o, rfl, hc⟩ := hr.cell hv
 refine Does.load_agg (cs := [v]) ht hx fun i u hi => ?_
 have : i = 0 := by
  by_cases h0 : i = 0
  ·exact h0
  ·rw [List.getElem?_eq_none (by simp; omega)] at hi; cases hi
 subst this
 simp at hi
 subst hi
 simpa [add_flat] using hc
theorem Does.min_ {x y : Operand} {tys : Array TypeId} {a b : Int} (hx : ev l x = some (i64 a)) (hy : ev l y = some (i64 b)) : Does P l (.call ⟨.builtin .min, #[x, y], tys⟩) ty w (i64 (Min.min a b)) w := by
 intro ρ hρ d pos af g
 have e : (if b < a then b else a) = Min.min a b := by rw [Int.min_def]; split <;> split <;> omega
 simp [execOp, resolve, invoke, builtin, hρ _ _ hx, hρ _ _ hy, Builtin.min_, Builtin.min2, e]
theorem Does.u8_add {t yt : TypeId} {x y : Operand} {a b : UInt8} (hx : ev l x = some (u8 a)) (hy : ev l y = some (u8 b)) : Does P l (.binOp .add t x y yt) ty w (u8 (a + b)) w :=
 run_binOp_int hx hy (by
  have e : IntKind.u8.wrap ((a.toNat : Int) + b.toNat) = ((a + b).toNat : Int) := by rw [IntKind.wrap_u8', UInt8.toNat_add]; omega
  simp only [binOp, Op.intArith, ne_eq, not_true, if_false, e]; rfl)
end
end Go.Proofs.Ytgfomedobfaidaa
end
section
namespace Go.Proofs.Ytgfomedobfaidaa
def bval : List Bool → Nat
 | [] => 0
 | b :: r => b.toNat + 2 * bval r
def ob (V n : Nat) : List Bool := (List.range n).map fun j => decide (V / 2 ^ j % 2 = 1)
def least (a : Nat) : List UInt8 := beN a ((blen a + 7) / 8)
end Go.Proofs.Ytgfomedobfaidaa
end
section
set_option linter.unusedVariables false
set_option linter.unusedSimpArgs false
namespace Go.Proofs.Ytgfomedobfaidaa
open Go.RowKit
structure EntryD where
 kind : Int
 author : Int
 epoch : Int
 mode : Int
 peer : Int
 phase : Int
 nums : List Nat
 texts : List (List UInt8)
 proof : List UInt8
def EntryV (d : EntryD) : VP := fun lab w v => ∃ A1 c1 A2 c2 A3 c3, v = .agg #[i64 d.kind, i64 d.author, i64 d.epoch, i64 d.mode, i64 d.peer, i64 d.phase, .slice A1 d.nums.length c1, .slice A2 d.texts.length c2, .slice A3 d.proof.length c3] ∧ NatsV d.nums lab w (.slice A1 d.nums.length c1) ∧ RowsV d.texts lab w (.slice A2 d.texts.length c2) ∧ BytesV d.proof lab w (.slice A3 d.proof.length c3)
theorem EntryV.pers (d : EntryD) : Pers (EntryV d) := ⟨fun s ⟨A1, c1, A2, c2, A3, c3, h, h1, h2, h3⟩ => ⟨A1, c1, A2, c2, A3, c3, h, (NatsV.pers _).step s h1, (RowsV.pers _).step s h2, (BytesV.pers _).step s h3⟩⟩
theorem EntryV.open {d : EntryD} {lab : Lab} {w : World} {v : Value} (h : EntryV d lab w v) : ∃ A1 c1 A2 c2 A3 c3, v = .agg #[i64 d.kind, i64 d.author, i64 d.epoch, i64 d.mode, i64 d.peer, i64 d.phase, .slice A1 d.nums.length c1, .slice A2 d.texts.length c2, .slice A3 d.proof.length c3] ∧ NatsV d.nums lab w (.slice A1 d.nums.length c1) ∧ RowsV d.texts lab w (.slice A2 d.texts.length c2) ∧ BytesV d.proof lab w (.slice A3 d.proof.length c3) := h
theorem EntryV.mk {a b c d e f : Int} {ns : List Nat} {ts : List (List UInt8)} {bs : List UInt8} {lab : Lab} {w : World} {A1 A2 A3 : Option Addr} {n1 m1 n2 m2 n3 m3 : Nat} (h1 : NatsV ns lab w (.slice A1 n1 m1)) (h2 : RowsV ts lab w (.slice A2 n2 m2)) (h3 : BytesV bs lab w (.slice A3 n3 m3)) : EntryV ⟨a, b, c, d, e, f, ns, ts, bs⟩ lab w (.agg #[i64 a, i64 b, i64 c, i64 d, i64 e, i64 f, .slice A1 n1 m1, .slice A2 n2 m2, .slice A3 n3 m3]) := by
 have e1 := h1.cap.1
 have e2 := h2.cap.1
 have e3 := h3.cap.1
 subst e1; subst e2; subst e3
 exact ⟨_, _, _, _, _, _, rfl, h1, h2, h3⟩
theorem EntryV.cast {x y : EntryD} (e : x = y) {lab : Lab} {w : World} {v : Value} (h : EntryV x lab w v) : EntryV y lab w v := e ▸ h
structure RentryD where
 kind : Int
 author : Int
 epoch : Int
 mode : Int
 peer : Int
 phase : Int
 nums : List (List Bool)
 texts : List (List UInt8)
 proof : List UInt8
def RentryV (d : RentryD) : VP := fun lab w v => ∃ A1 c1 A2 c2 A3 c3, v = .agg #[i64 d.kind, i64 d.author, i64 d.epoch, i64 d.mode, i64 d.peer, i64 d.phase, .slice A1 d.nums.length c1, .slice A2 d.texts.length c2, .slice A3 d.proof.length c3] ∧ NumsV d.nums lab w (.slice A1 d.nums.length c1) ∧ RowsV d.texts lab w (.slice A2 d.texts.length c2) ∧ BytesV d.proof lab w (.slice A3 d.proof.length c3)
theorem RentryV.pers (d : RentryD) : Pers (RentryV d) := ⟨fun s ⟨A1, c1, A2, c2, A3, c3, h, h1, h2, h3⟩ => ⟨A1, c1, A2, c2, A3, c3, h, (NumsV.pers _).step s h1, (RowsV.pers _).step s h2, (BytesV.pers _).step s h3⟩⟩
theorem RentryV.open {d : RentryD} {lab : Lab} {w : World} {v : Value} (h : RentryV d lab w v) : ∃ A1 c1 A2 c2 A3 c3, v = .agg #[i64 d.kind, i64 d.author, i64 d.epoch, i64 d.mode, i64 d.peer, i64 d.phase, .slice A1 d.nums.length c1, .slice A2 d.texts.length c2, .slice A3 d.proof.length c3] ∧ NumsV d.nums lab w (.slice A1 d.nums.length c1) ∧ RowsV d.texts lab w (.slice A2 d.texts.length c2) ∧ BytesV d.proof lab w (.slice A3 d.proof.length c3) := h
theorem RentryV.mk {a b c d e f : Int} {ns : List (List Bool)} {ts : List (List UInt8)} {bs : List UInt8} {lab : Lab} {w : World} {A1 A2 A3 : Option Addr} {n1 m1 n2 m2 n3 m3 : Nat} (h1 : NumsV ns lab w (.slice A1 n1 m1)) (h2 : RowsV ts lab w (.slice A2 n2 m2)) (h3 : BytesV bs lab w (.slice A3 n3 m3)) : RentryV ⟨a, b, c, d, e, f, ns, ts, bs⟩ lab w (.agg #[i64 a, i64 b, i64 c, i64 d, i64 e, i64 f, .slice A1 n1 m1, .slice A2 n2 m2, .slice A3 n3 m3]) := by
 have e1 := h1.cap.1
 have e2 := h2.cap.1
 have e3 := h3.cap.1
 subst e1; subst e2; subst e3
 exact ⟨_, _, _, _, _, _, rfl, h1, h2, h3⟩
theorem RentryV.cast {x y : RentryD} (e : x = y) {lab : Lab} {w : World} {v : Value} (h : RentryV x lab w v) : RentryV y lab w v := e ▸ h
structure PlainD where
 kind : Int
 author : Int
 epoch : Int
 mode : Int
 peer : Int
 phase : Int
 nums : List (List UInt8)
 texts : List (List UInt8)
 proof : List UInt8
def PlainV (d : PlainD) : VP := fun lab w v => ∃ A1 c1 A2 c2 A3 c3, v = .agg #[i64 d.kind, i64 d.author, i64 d.epoch, i64 d.mode, i64 d.peer, i64 d.phase, .slice A1 d.nums.length c1, .slice A2 d.texts.length c2, .slice A3 d.proof.length c3] ∧ RowsV d.nums lab w (.slice A1 d.nums.length c1) ∧ RowsV d.texts lab w (.slice A2 d.texts.length c2) ∧ BytesV d.proof lab w (.slice A3 d.proof.length c3)
theorem PlainV.pers (d : PlainD) : Pers (PlainV d) := ⟨fun s ⟨A1, c1, A2, c2, A3, c3, h, h1, h2, h3⟩ => ⟨A1, c1, A2, c2, A3, c3, h, (RowsV.pers _).step s h1, (RowsV.pers _).step s h2, (BytesV.pers _).step s h3⟩⟩
theorem PlainV.open {d : PlainD} {lab : Lab} {w : World} {v : Value} (h : PlainV d lab w v) : ∃ A1 c1 A2 c2 A3 c3, v = .agg #[i64 d.kind, i64 d.author, i64 d.epoch, i64 d.mode, i64 d.peer, i64 d.phase, .slice A1 d.nums.length c1, .slice A2 d.texts.length c2, .slice A3 d.proof.length c3] ∧ RowsV d.nums lab w (.slice A1 d.nums.length c1) ∧ RowsV d.texts lab w (.slice A2 d.texts.length c2) ∧ BytesV d.proof lab w (.slice A3 d.proof.length c3) := h
theorem PlainV.mk {a b c d e f : Int} {ns : List (List UInt8)} {ts : List (List UInt8)} {bs : List UInt8} {lab : Lab} {w : World} {A1 A2 A3 : Option Addr} {n1 m1 n2 m2 n3 m3 : Nat} (h1 : RowsV ns lab w (.slice A1 n1 m1)) (h2 : RowsV ts lab w (.slice A2 n2 m2)) (h3 : BytesV bs lab w (.slice A3 n3 m3)) : PlainV ⟨a, b, c, d, e, f, ns, ts, bs⟩ lab w (.agg #[i64 a, i64 b, i64 c, i64 d, i64 e, i64 f, .slice A1 n1 m1, .slice A2 n2 m2, .slice A3 n3 m3]) := by
 have e1 := h1.cap.1
 have e2 := h2.cap.1
 have e3 := h3.cap.1
 subst e1; subst e2; subst e3
 exact ⟨_, _, _, _, _, _, rfl, h1, h2, h3⟩
theorem PlainV.cast {x y : PlainD} (e : x = y) {lab : Lab} {w : World} {v : Value} (h : PlainV x lab w v) : PlainV y lab w v := e ▸ h
def long (l : List (List UInt8)) (most : Int) : Bool := l.any fun t => decide (most < (List.length t : Int))
def flat (l : List (List UInt8)) (most : Int) : List UInt8 := List.flatten (l.map fun t => textOr t most)
def natsB (l : List Nat) : List (List UInt8) := l.map least
def natsW (l : List Nat) (b : Bool) : List UInt8 := be (u64i (List.length l)) 1 ++ if b || out_ (List.length l) 0 64 then [] else flat (natsB l) 128
def textsW (l : List (List UInt8)) (b : Bool) : List UInt8 := be (u64i (List.length l)) 1 ++ if b || out_ (List.length l) 0 64 then [] else flat l 1024
def usesB (kind mode peer phase nn nt np : Int) : Bool :=
 (decide (kind = 1) || decide (mode = 0)) && ((decide (kind = 1) || decide (kind = 3) || decide (kind = 6) || decide (peer = 0)) && ((decide (kind = 4) || decide (phase = 0)) &&
 ((decide (kind = 2) || decide (kind = 7) || decide (kind = 3) || decide (kind = 6) || decide (kind = 5) || decide (nn = 0)) && ((decide (kind = 2) || decide (kind = 7) || decide (nt = 0)) && (decide (kind = 3) || decide (kind = 6) || decide (np = 0))))))
def EntryD.bad (d : EntryD) : Bool := (((((((false || out_ d.kind 1 7) || out_ d.author 1 64) || out_ d.epoch 0 1048576) || out_ d.mode 0 255) || out_ d.peer 0 255) || out_ d.phase 0 255) || out_ (List.length d.nums) 0 64 || long (natsB d.nums) 128)
def EntryD.head (d : EntryD) : List UInt8 := (((((([(69 : UInt8)] ++ be (u64i d.kind) (Int.toNat 1)) ++ be (u64i d.author) (Int.toNat 1)) ++ be (u64i d.epoch) (Int.toNat 4)) ++ be (u64i d.mode) (Int.toNat 1)) ++ be (u64i d.peer) (Int.toNat 1)) ++ be (u64i d.phase) (Int.toNat 1))
def EntryD.pre (d : EntryD) : Bool := ((((((false || out_ d.kind 1 7) || out_ d.author 1 64) || out_ d.epoch 0 1048576) || out_ d.mode 0 255) || out_ d.peer 0 255) || out_ d.phase 0 255)
def EntryD.all (d : EntryD) : List UInt8 := ((d.head ++ natsW d.nums d.pre) ++ textsW d.texts d.bad) ++ textOr d.proof 1024
def tooMany (l : List (List UInt8)) (most : Int) : Bool := decide (64 < (List.length l : Int)) || long l most
def listB (l : List (List UInt8)) (most : Int) : List UInt8 := be (u64i (List.length l)) 1 ++ flat l most
def numsB (l : List (List Bool)) : List (List UInt8) := l.map fun n => beN (bval n) ((n.length + 7) / 8)
section
variable {P : Program} {N : Nat} {l : List (Nat × Value)} {w : World} {ty : TypeId}
theorem Does.build_arr {t e : TypeId} {n : Nat} {parts : Array (Nat × Operand)} (pv : List (Nat × Value)) (cs : List Value) {ag ag' : Bool} {m s by_ by' : Nat} {z : Value} {z' : Option Value} (ht : P.underlying t = some (.array n e)) (hz : tyRow P t = some (ag, m, some z, by_)) (he : tyRow P e = some (ag', s, z', by'))
  (hp : parts.toList.map (fun p => (p.1, ev l p.2)) = pv.map (fun p => (p.1, some p.2))) (hc : Instr.fill (fun i => some (i * s, s)) z.cells pv = some cs.toArray) : Does P l (.build t parts) ty w (.agg cs.toArray) w := by
 intro ρ hρ d pos af g
 have hpv := pairs_eval hp ρ hρ
 simp only [execOp, Instr.build, Sem.run_bind, run_zero' hz, run_underlying ht, Result.andThen_ok, run_sizeOf' he, hpv, List.toList_toArray, hc]
 rfl
theorem Does.indexAt_arr {t e : TypeId} {x y : Operand} {k : IntKind} {i : Int} {b n : Nat} {ag : Bool} {s by_ : Nat} {z : Option Value} (j : Nat) (ht : P.underlying t = some (.array n e)) (he : tyRow P e = some (ag, s, z, by_)) (hx : ev l x = some (.pointer (some ⟨b, 0, none⟩))) (hy : ev l y = some (.int k i)) (hij : i = (j : Int)) (hj : j < n) :
  Does P l (.indexAddr t x y) ty w (.pointer (some ⟨b, 0 + j * s, none⟩)) w := by
 subst hij
 have h := Does.indexAddr_arr (P := P) (l := l) (w := w) (ty := ty) ht he hx hy (by omega) (by omega)
 simpa using h
end
def RentryD.uses (d : RentryD) : Bool := usesB d.kind d.mode d.peer d.phase (List.length d.nums) (List.length d.texts) (List.length d.proof)
def RentryD.out (d : RentryD) : Bool := out_ d.kind 1 7 || out_ d.author 1 64 || out_ d.epoch 0 1048576 || out_ d.mode 0 255 || out_ d.peer 0 255 || out_ d.phase 0 255 || decide (1024 < (List.length d.proof : Int))
def RentryD.bad (d : RentryD) : Bool := d.out || !d.uses || tooMany (numsB d.nums) 128 || tooMany d.texts 1024
def RentryD.all (d : RentryD) : List UInt8 := List.flatten [[(69 : UInt8), UInt8.ofNat d.kind.toNat, UInt8.ofNat d.author.toNat], four d.epoch, [UInt8.ofNat d.mode.toNat, UInt8.ofNat d.peer.toNat, UInt8.ofNat d.phase.toNat], listB (numsB d.nums) 128, listB d.texts 1024, textB d.proof]
end Go.Proofs.Ytgfomedobfaidaa
end
section
set_option linter.unusedVariables false
set_option linter.unusedSimpArgs false
namespace Go.Proofs.Ytgfomedobfaidaa
open Go.RowKit
def EachN (lab : Lab) (w : World) : List Nat → List Value → Prop
 | [], [] => True
 | b :: r, v :: s => NatV b lab w (.agg #[v]) ∧ EachN lab w r s
 | _, _ => False
def EachV (lab : Lab) (w : World) : List (List Bool) → List Value → Prop
 | [], [] => True
 | b :: r, v :: s => BitsV b lab w v ∧ EachV lab w r s
 | _, _ => False
section
variable {lab : Lab} {w : World}
theorem EachN.step {T : List Nat} {lab' : Lab} {w' : World} (st : Stp T lab w lab' w') : ∀ {L : List Nat} {vs : List Value}, EachN lab w L vs → EachN lab' w' L vs
 | [], [], _ => trivial
 | _ :: _, _ :: _, h => ⟨(NatV.pers _).step st h.1, EachN.step st h.2⟩
 | [], _ :: _, h => h.elim
 | _ :: _, [], h => h.elim
theorem EachV.step {T : List Nat} {lab' : Lab} {w' : World} (st : Stp T lab w lab' w') : ∀ {L : List (List Bool)} {vs : List Value}, EachV lab w L vs → EachV lab' w' L vs
 | [], [], _ => trivial
 | _ :: _, _ :: _, h => ⟨(BitsV.pers _).step st h.1, EachV.step st h.2⟩
 | [], _ :: _, h => h.elim
 | _ :: _, [], h => h.elim
theorem EachN.snoc {x : Nat} {v : Value} (hx : NatV x lab w (.agg #[v])) : ∀ {L : List Nat} {vs : List Value}, EachN lab w L vs → EachN lab w (L ++ [x]) (vs ++ [v])
 | [], [], _ => ⟨hx, trivial⟩
 | _ :: _, _ :: _, h => ⟨h.1, EachN.snoc hx h.2⟩
 | [], _ :: _, h => h.elim
 | _ :: _, [], h => h.elim
theorem EachV.snoc {x : List Bool} {v : Value} (hx : BitsV x lab w v) : ∀ {L : List (List Bool)} {vs : List Value}, EachV lab w L vs → EachV lab w (L ++ [x]) (vs ++ [v])
 | [], [], _ => ⟨hx, trivial⟩
 | _ :: _, _ :: _, h => ⟨h.1, EachV.snoc hx h.2⟩
 | [], _ :: _, h => h.elim
 | _ :: _, [], h => h.elim
theorem EachN.len : ∀ {L : List Nat} {vs : List Value}, EachN lab w L vs → vs.length = L.length
 | [], [], _ => rfl
 | _ :: _, _ :: _, h => by simp [EachN.len h.2]
 | [], _ :: _, h => h.elim
 | _ :: _, [], h => h.elim
theorem EachV.len : ∀ {L : List (List Bool)} {vs : List Value}, EachV lab w L vs → vs.length = L.length
 | [], [], _ => rfl
 | _ :: _, _ :: _, h => by simp [EachV.len h.2]
 | [], _ :: _, h => h.elim
 | _ :: _, [], h => h.elim
theorem EachN.get : ∀ {L : List Nat} {vs : List Value}, EachN lab w L vs → ∀ (i : Nat) (x : Nat), L[i]? = some x → ∃ u, vs[i]? = some u ∧ NatV x lab w (.agg #[u])
 | [], [], _, i, bs, h => by simp at h
 | b :: r, v :: s, h, 0, bs, hi => by simp at hi; subst hi; exact ⟨v, rfl, h.1⟩
 | b :: r, v :: s, h, i + 1, bs, hi => EachN.get (L := r) (vs := s) h.2 i bs (by simpa using hi)
 | [], _ :: _, h, _, _, _ => h.elim
 | _ :: _, [], h, _, _, _ => h.elim
theorem EachV.get : ∀ {L : List (List Bool)} {vs : List Value}, EachV lab w L vs → ∀ (i : Nat) (x : List Bool), L[i]? = some x → ∃ u, vs[i]? = some u ∧ BitsV x lab w u
 | [], [], _, i, bs, h => by simp at h
 | b :: r, v :: s, h, 0, bs, hi => by simp at hi; subst hi; exact ⟨v, rfl, h.1⟩
 | b :: r, v :: s, h, i + 1, bs, hi => EachV.get (L := r) (vs := s) h.2 i bs (by simpa using hi)
 | [], _ :: _, h, _, _, _ => h.elim
 | _ :: _, [], h, _, _, _ => h.elim
theorem App.nats {d n c : Nat} {t : TypeId} {A : Option Addr} {L : List Nat} {cs : List Value} (h : App lab w d t (.slice A n c) n cs) (e : EachN (labFree lab d) w L cs) : NatsV L (labFree lab d) w (.slice A n c) := by
 have h1 := h.row
 have h2 := h.len
 have h3 := e.len
 have : n = L.length := by omega
 subst this
 exact ⟨A, c, cs, rfl, h1.2.1, h1.2.2, h3, h1.1, e.get⟩
theorem App.nums {d n c : Nat} {t : TypeId} {A : Option Addr} {L : List (List Bool)} {cs : List Value} (h : App lab w d t (.slice A n c) n cs) (e : EachV (labFree lab d) w L cs) : NumsV L (labFree lab d) w (.slice A n c) := by
 have h1 := h.row
 have h2 := h.len
 have h3 := e.len
 have : n = L.length := by omega
 subst this
 exact ⟨A, c, cs, rfl, h1.2.1, h1.2.2, h3, h1.1, e.get⟩
def AppN (lab : Lab) (w : World) (d : Nat) (t : TypeId) (v : Value) (n : Nat) (L : List Nat) : Prop := ∃ cs, App lab w d t v n cs ∧ EachN lab w L cs
def AppV (lab : Lab) (w : World) (d : Nat) (t : TypeId) (v : Value) (n : Nat) (L : List (List Bool)) : Prop := ∃ cs, App lab w d t v n cs ∧ EachV lab w L cs
theorem AppN.mk {d n n' : Nat} {t : TypeId} {v : Value} {L L' : List Nat} {cs : List Value} (e : L = L') (en : n = n') (h : App lab w d t v n cs) (h1 : EachN lab w L cs) : AppN lab w d t v n' L' := by subst e; subst en; exact ⟨cs, h, h1⟩
theorem AppV.mk {d n n' : Nat} {t : TypeId} {v : Value} {L L' : List (List Bool)} {cs : List Value} (e : L = L') (en : n = n') (h : App lab w d t v n cs) (h1 : EachV lab w L cs) : AppV lab w d t v n' L' := by subst e; subst en; exact ⟨cs, h, h1⟩
theorem EachV.append : ∀ {L : List (List Bool)} {vs : List Value} {L' : List (List Bool)} {vs' : List Value}, EachV lab w L vs → EachV lab w L' vs' → EachV lab w (L ++ L') (vs ++ vs')
 | [], [], _, _, _, h => h
 | _ :: _, _ :: _, _, _, h, h' => ⟨h.1, EachV.append h.2 h'⟩
 | [], _ :: _, _, _, h, _ => h.elim
 | _ :: _, [], _, _, h, _ => h.elim
theorem EachV.of : ∀ {L : List (List Bool)} {vs : List Value}, vs.length = L.length → (∀ (i : Nat) (x : List Bool), L[i]? = some x → ∃ u, vs[i]? = some u ∧ BitsV x lab w u) → EachV lab w L vs
 | [], [], _, _ => trivial
 | b :: r, v :: s, hl, h => by
  obtain ⟨u, hu, hb⟩ := h 0 b rfl
  simp at hu
  subst hu
  exact ⟨hb, EachV.of (by simpa using hl) fun i x hi => h (i + 1) x (by simpa using hi)⟩
 | [], _ :: _, hl, _ => by simp at hl
 | _ :: _, [], hl, _ => by simp at hl
theorem EachV.cell1 : ∀ {L : List (List Bool)} {vs : List Value}, EachV lab w L vs → ∀ u ∈ vs, u.oneCell' = true
 | [], [], _, u, hu => by cases hu
 | _ :: _, _ :: _, h, u, hu => by
  rcases List.mem_cons.1 hu with rfl | hu
  ·obtain ⟨A2, c2, rfl⟩ := BitsV.shape h.1; rfl
  ·exact EachV.cell1 h.2 u hu
 | [], _ :: _, h, _, _ => h.elim
 | _ :: _, [], h, _, _ => h.elim
theorem NumsV.cells {L : List (List Bool)} {A : Option Addr} {n c : Nat} (h : NumsV L lab w (.slice A n c)) : ∃ vs, List.length vs = n ∧ RowAt lab w A vs ∧ EachV lab w L vs ∧ ∀ u ∈ vs, u.oneCell' = true := by
 obtain ⟨A', c', vs, h1, _, _, h4, h5, h6⟩ := h
 cases h1
 have e := EachV.of h4 h6
 exact ⟨vs, h4, h5, e, e.cell1⟩
theorem NumsV.one {x : List Bool} {v : Value} {b : Nat} (hr : RowAt lab w (some ⟨b, 0, none⟩) [v]) (hx : BitsV x lab w v) : NumsV [x] lab w (.slice (some ⟨b, 0, none⟩) 1 1) :=
 ⟨_, _, [v], rfl, Nat.le_refl _, by decide, rfl, hr, (show EachV lab w [x] [v] from ⟨hx, trivial⟩).get⟩
end
end Go.Proofs.Ytgfomedobfaidaa
end
