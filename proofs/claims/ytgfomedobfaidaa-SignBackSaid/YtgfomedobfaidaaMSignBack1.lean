import Derived.Below
import Derived.Calls
import Derived.Deep.LoopGhost
import Derived.KernelRfl
import Derived.Laws.Bits64
import Derived.Laws.BitsAllLaws
import Derived.Laws.BitsLemmas
import Derived.Laws.BytesString
import Derived.Laws.Cells
import Derived.Laws.CopyRow
import Derived.Laws.Rows
import Derived.Laws.Strings
import Derived.Maps.AppendAt
import Derived.Orders
import Derived.Tactics
set_option maxHeartbeats 8000000
set_option maxRecDepth 1000000
/-
  The row of SignBack: that the law answers true of every input; part 1 of 10: what the proof needs, in order.
-/
section
set_option linter.unusedVariables false
set_option linter.unusedSimpArgs false
namespace Go.Proofs.Ytgfomedobfaidaa
theorem lB9 {a b : Nat} (h : Nat.ble a b = true) : a ≤ b := Nat.le_of_ble_eq_true h
theorem dF9 {p : Prop} [i : Decidable p] (h : ¬ p) : decide p = false := decide_eq_false h
theorem dT9 {p : Prop} [i : Decidable p] (h : p) : decide p = true := decide_eq_true h
open Go.RowKit
def lk : List (Nat × Value) → Nat → Option Value
 | [], _ => none
 | (d, v) :: l, t => bif Nat.beq d t then some v else lk l t
def ev (l : List (Nat × Value)) : Operand → Option Value
 | .tmp t => lk l t
 | .const v => some v
 | .func f => some (.func (.func f) #[] #[])
 | .global g => some (.pointer (some ⟨g, 0, none⟩))
def evs (l : List (Nat × Value)) : List Operand → Option (List Value)
 | [] => some []
 | x :: r => match ev l x, evs l r with
  | some v, some vs => some (v :: vs)
  | _, _ => none
structure Fr (ds : List Deferred) (N : Nat) (l : List (Nat × Value)) (a : Act) : Prop where
 defers : a.defers = ds
 size : a.tmps.size = N
 at_ : ∀ t v, lk l t = some v → a.tmps[t]? = some v
theorem Fr.eval {ds : List Deferred} {N : Nat} {l : List (Nat × Value)} {a : Act} (h : Fr ds N l a) {x : Operand} {v : Value} (hx : ev l x = some v) : a.eval x = v := by
 cases x with
 | tmp t => simp only [ev] at hx; have := h.at_ _ _ hx; simp [Act.eval, Array.getD_eq_getD_getElem?, this]
 | const u => simp only [ev, Option.some.injEq] at hx; simp [Act.eval, hx]
 | func f => simp only [ev, Option.some.injEq] at hx; simp [Act.eval, hx]
 | global g => simp only [ev, Option.some.injEq] at hx; simp [Act.eval, hx]
theorem Fr.put {ds : List Deferred} {N : Nat} {l : List (Nat × Value)} {a : Act} (h : Fr ds N l a) {d : Nat} (hd : d < N) (v : Value) : Fr ds N ((d, v) :: l) (a.put (some d) v) where
 defers := h.defers
 size := by simp [Act.put, h.size]
 at_ := fun t u hu => by
  simp only [lk] at hu
  cases hb : Nat.beq d t with
  | true =>
   have : d = t := Nat.eq_of_beq_eq_true hb
   subst this
   simp [hb] at hu
   subst hu
   simp [Act.put, h.size, hd]
  | false =>
   have hne : d ≠ t := Nat.ne_of_beq_eq_false hb
   simp [hb] at hu
   simp only [Act.put, Array.getElem?_setIfInBounds_ne hne]
   exact h.at_ _ _ hu
theorem Fr.weaken {ds : List Deferred} {N : Nat} {l l' : List (Nat × Value)} {a : Act} (h : Fr ds N l a) (hl : ∀ t v, lk l' t = some v → lk l t = some v) : Fr ds N l' a := ⟨h.defers, h.size, fun t v ht => h.at_ t v (hl t v ht)⟩
def QjH (l : List (Nat × Value)) : List (Nat × Value) → Prop
 | [] => True
 | (t, v) :: r => lk l t = some v ∧ QjH l r
theorem QG {l : List (Nat × Value)} : ∀ {l' : List (Nat × Value)}, QjH l l' → ∀ t v, lk l' t = some v → lk l t = some v
 | [], _, t, v, h => by simp [lk] at h
 | (d, u) :: r, hs, t, v, h => by
  simp only [lk] at h
  cases hb : Nat.beq d t with
  | true =>
   have : d = t := Nat.eq_of_beq_eq_true hb
   subst this
   simp [hb] at h
   subst h
   exact hs.1
  | false => simp [hb] at h; exact QG hs.2 t v h
section
variable {ds : List Deferred} {P : Program} {N : Nat}
def Seq (ds : List Deferred) (P : Program) (N : Nat) (ops : Array Oper) (Q : Exit → Act → World → Prop) (l : List (Nat × Value)) (rest : List Oper) (w : World) : Prop := ∀ a, Fr ds N l a → wpList P ops Q rest a w
def Run (ds : List Deferred) (P : Program) (N : Nat) (Q : Exit → Act → World → Prop) (c : Code) (l : List (Nat × Value)) (w : World) : Prop := ∀ a, Fr ds N l a → c.wp P Q a w
variable {Q : Exit → Act → World → Prop} {ops : Array Oper} {l : List (Nat × Value)} {rest : List Oper} {w : World} {o : Oper}
theorem Run.seq {x y : Code} (h : Run ds P N (Exit.then (y.wp P Q) Q) x l w) : Run ds P N Q (.seq x y) l w := fun a ha => wp_seq (h a ha)
theorem Run.block {id : Nat} {c : Code} (h : Run ds P N (Exit.inBlock id Q) c l w) : Run ds P N Q (.block id c) l w := fun a ha => wp_block (h a ha)
theorem Run.skip (h : ∀ a, Fr ds N l a → Q .normal a w) : Run ds P N Q .skip l w := fun a ha => wp_skip (h a ha)
theorem Run.ret (h : ∀ a, Fr ds N l a → Q .ret a w) : Run ds P N Q .ret l w := fun a ha => wp_ret (h a ha)
theorem Run.exit {id : Nat} (h : ∀ a, Fr ds N l a → Q (.exit id) a w) : Run ds P N Q (.exit id) l w := fun a ha => wp_exit (h a ha)
theorem Qao {c : Operand} {x y : Code} (hc : ev l c = some (.bool true)) (h : Run ds P N Q x l w) : Run ds P N Q (.cond c x y) l w := fun a ha => wp_cond_true (ha.eval hc) (h a ha)
theorem Run.cond_false {c : Operand} {x y : Code} (hc : ev l c = some (.bool false)) (h : Run ds P N Q y l w) : Run ds P N Q (.cond c x y) l w := fun a ha => wp_cond_false (ha.eval hc) (h a ha)
theorem Run.region {id : Nat} {os : List Oper} (h : Seq ds P N os.toArray Q l os w) : Run ds P N Q (.region id os.toArray false) l w := fun a ha => wp_region_lit (h a ha)
theorem Run.weaken {c : Code} {l' : List (Nat × Value)} (hl : QjH l l') (h : Run ds P N Q c l' w) : Run ds P N Q c l w := fun a ha => h a (ha.weaken (QG hl))
theorem Run.post {c : Code} {Q' : Exit → Act → World → Prop} (hq : ∀ e a w, Q' e a w → Q e a w) (h : Run ds P N Q' c l w) : Run ds P N Q c l w := fun a ha => wp_mono (h a ha) hq
theorem Seq.nil (h : ∀ a, Fr ds N l a → Q .normal a w) : Seq ds P N ops Q l [] w := fun a ha => wpList_nil (h a ha)
theorem Seq.next {y : Code} (h : Run ds P N Q y l w) : Seq ds P N ops (Exit.then (y.wp P Q) Q) l [] w := fun a ha => wpList_nil (h a ha)
theorem Seq.weaken {l' : List (Nat × Value)} (hl : QjH l l') (h : Seq ds P N ops Q l' rest w) : Seq ds P N ops Q l rest w := fun a ha => h a (ha.weaken (QG hl))
theorem Run.loop {c : Code} (I : Nat → List (Nat × Value) → World → Prop) (m : Nat) {l0 : List (Nat × Value)} (hl : QjH l l0) (h0 : I m l0 w)
  (round : ∀ m l w, I m l w → Run ds P N (Exit.then (fun a w' => ∃ m', m' < m ∧ ∃ l', Fr ds N l' a ∧ I m' l' w') Q) c l w) : Run ds P N Q (.loop c) l w := by
 intro a ha
 refine wp_loop_ghost (fun m a w => ∃ l, Fr ds N l a ∧ I m l w) m ⟨l0, ha.weaken (QG hl), h0⟩ ?_
 intro n a w ⟨l, hf, hi⟩
 exact round n l w hi a hf
theorem Qba {d : Option Nat} {op : Op} {ty : TypeId} {pos : String} {af : Array Edge} {g : Nat} {b : Bool} {dg : Nat} (hg : (ops[g]?).bind (·.dst) = some dg) (hb : lk l dg = some (.bool b))
  (h : Seq ds P N ops Q l (⟨d, op, ty, pos, af, none⟩ :: rest) w) : Seq ds P N ops Q l (⟨d, op, ty, pos, af, some (g, b)⟩ :: rest) w := by
 intro a ha
 have h0 := h a ha
 have hy : yielded ops a.tmps g = some b := by simp only [yielded, hg]; have := ha.at_ _ _ hb; simp [this]
 unfold wpList at h0 ⊢
 rw [if_pos (by simp [Region.wanted])] at h0
 rw [if_pos (by simp [Region.wanted, hy])]
 exact h0
theorem Qam {d : Nat} {op : Op} {ty : TypeId} {pos : String} {af : Array Edge} {g : Nat} {b c : Bool} {dg : Nat} (hg : (ops[g]?).bind (·.dst) = some dg) (hb : lk l dg = some (.bool b)) (hne : (b == c) = false) (hd : d < N)
  (h : Seq ds P N ops Q ((d, undef) :: l) rest w) : Seq ds P N ops Q l (⟨some d, op, ty, pos, af, some (g, c)⟩ :: rest) w := by
 intro a ha
 have hy : yielded ops a.tmps g = some b := by simp only [yielded, hg]; have := ha.at_ _ _ hb; simp [this]
 unfold wpList
 rw [if_neg (by simp [Region.wanted, hy]; intro e; subst e; simp at hne)]
 exact h _ (ha.put hd undef)
def Qa (P : Program) (l : List (Nat × Value)) (op : Op) (ty : TypeId) (w : World) (v : Value) (w' : World) : Prop :=
 ∀ (ρ : Operand → Value), (∀ x u, ev l x = some u → ρ x = u) → ∀ d pos af g, (execOp ρ ⟨d, op, ty, pos, af, g⟩).run P w = .ok (.value v) w'
def Qgf (P : Program) (l : List (Nat × Value)) (op : Op) (ty : TypeId) (w w' : World) : Prop :=
 ∀ (ρ : Operand → Value), (∀ x u, ev l x = some u → ρ x = u) → ∀ d pos af g, (execOp ρ ⟨d, op, ty, pos, af, g⟩).run P w = .ok .skip w'
theorem Seq.val {d : Nat} {op : Op} {ty : TypeId} {pos : String} {af : Array Edge} {v : Value} {w' : World} (hr : Qa P l op ty w v w') (hd : d < N)
  (h : Seq ds P N ops Q ((d, v) :: l) rest w') : Seq ds P N ops Q l (⟨some d, op, ty, pos, af, none⟩ :: rest) w := by
 intro a ha
 unfold wpList
 rw [if_pos (by simp [Region.wanted])]
 refine .inl ?_
 unfold Oper.wp
 rw [hr a.eval (fun x u hu => ha.eval hu)]
 exact h _ (ha.put hd v)
theorem QcV {op : Op} {ty : TypeId} {pos : String} {af : Array Edge} {w' : World} (hr : Qgf P l op ty w w')
  (h : Seq ds P N ops Q l rest w') : Seq ds P N ops Q l (⟨none, op, ty, pos, af, none⟩ :: rest) w := by
 intro a ha
 unfold wpList
 rw [if_pos (by simp [Region.wanted])]
 refine .inl ?_
 unfold Oper.wp
 rw [hr a.eval (fun x u hu => ha.eval hu)]
 exact h _ ha
def Qw (P : Program) (f : Nat) : Prop := ∃ fn, P.funcs[f]? = some fn ∧ (fn.name == "runtime.NumGoroutine") = false ∧ fn.body.isNone = false
theorem Qa2 {f : Nat} (hf : Qw P f) (vs : Array Value) (w : World) : (callFunc f vs).run P w = .ok (.enter f vs) w := by
 obtain ⟨fn, h1, h2, h3⟩ := hf
 simp only [callFunc, program, Sem.run_bind, Sem.run, Result.andThen_ok, h1, h2, h3, if_false, Bool.false_eq_true]
 rfl
theorem XS {l : List (Nat × Value)} {f : Nat} {xs : List Operand} {tys : Array TypeId} {vs : List Value} {ty : TypeId} (hf : Qw P f) (hx : evs l xs = some vs) (w : World)
  (ρ : Operand → Value) (hρ : ∀ x u, ev l x = some u → ρ x = u) (d : Option Nat) (pos : String) (af : Array Edge) (g : Option (Nat × Bool)) :
  (execOp ρ ⟨d, .call ⟨.value (.func f), xs.toArray, tys⟩, ty, pos, af, g⟩).run P w = .ok (.enter f vs.toArray) w := by
 have hxs : xs.map ρ = vs := by
  clear hf
  induction xs generalizing vs with
  | nil => simp [evs] at hx; simp [← hx]
  | cons x r ih =>
   simp only [evs] at hx
   split at hx
   ·rename_i v vs' h1 h2
    simp only [Option.some.injEq] at hx
    rw [List.map_cons, hρ _ _ h1, ih h2, hx]
   ·cases hx
 have hfun : ρ (.func f) = .func (.func f) #[] #[] := hρ _ _ rfl
 simp only [execOp, resolve, hfun, Deferred.ofValue, Sem.run_bind, Sem.run_pure, Result.andThen_ok, invoke, List.map_toArray, hxs]
 simpa using Qa2 hf vs.toArray w
theorem Seq.call {d : Nat} {f : Nat} {xs : List Operand} {tys : Array TypeId} {ty : TypeId} {pos : String} {af : Array Edge} {vs : List Value} {R : Value → World → Prop} (hf : Qw P f) (hx : evs l xs = some vs) (hd : d < N)
  (hc : Calls P f vs.toArray w (fun e w' => ∃ v, e = .returned v ∧ R v w'))
  (h : ∀ v w', R v w' → Seq ds P N ops Q ((d, v) :: l) rest w') : Seq ds P N ops Q l (⟨some d, .call ⟨.value (.func f), xs.toArray, tys⟩, ty, pos, af, none⟩ :: rest) w := by
 intro a ha
 unfold wpList
 rw [if_pos (by simp [Region.wanted])]
 refine .inl ?_
 unfold Oper.wp
 rw [XS hf hx w a.eval (fun x u hu => ha.eval hu)]
 refine Calls.mono hc ?_
 rintro e w' ⟨v, rfl, hR⟩
 exact h v w' hR _ (ha.put hd v)
end
end Go.Proofs.Ytgfomedobfaidaa
end
section
set_option linter.unusedVariables false
set_option linter.unusedSimpArgs false
namespace Go.Proofs.Ytgfomedobfaidaa
open Go.RowKit
@[reducible] def u8 (x : UInt8) : Value := .int .u8 (x.toNat : Int)
@[reducible] def u32 (x : UInt32) : Value := .int .u32 (x.toNat : Int)
@[reducible] def u64 (x : UInt64) : Value := .int .u64 (x.toNat : Int)
@[reducible] def i64 (n : Int) : Value := .int .i64 n
def QlA : TypeDesc → Bool
 | .struct _ | .array _ _ => true
 | _ => false
def QT (P : Program) (t : TypeId) : Option (Bool × Nat × Option Value × Nat) :=
 match P.underlying t, P.info? t with
 | some d, some i => some (QlA d, i.size, i.zero, i.bytes)
 | _, _ => none
section
variable {P : Program} {N : Nat} {l : List (Nat × Value)} {w : World} {ty : TypeId}
theorem Zt {t : TypeId} {ag : Bool} {n by_ : Nat} {z : Option Value} (h : QT P t = some (ag, n, z, by_)) :
  ∃ i d, P.info? t = some i ∧ P.underlying t = some d ∧ QlA d = ag ∧ i.size = n ∧ i.zero = z ∧ i.bytes = by_ := by
 unfold QT at h
 cases hd : P.underlying t with
 | none => simp [hd] at h
 | some d =>
  cases hi : P.info? t with
  | none => simp [hd, hi] at h
  | some i => simp [hd, hi] at h; exact ⟨i, d, rfl, rfl, h.1, h.2.1, h.2.2.1, h.2.2.2⟩
theorem Vt {t : TypeId} {ag : Bool} {n by_ : Nat} {z : Option Value} (h : QT P t = some (ag, n, z, by_)) : (isAgg t).run P w = .ok ag w := by
 obtain ⟨i, d, h1, h2, h3, _⟩ := Zt h
 subst h3
 simp only [isAgg, Sem.run_bind, run_underlying h2, Result.andThen_ok]
 cases d <;> rfl
theorem QV {t : TypeId} {ag : Bool} {n by_ : Nat} {z : Option Value} (h : QT P t = some (ag, n, z, by_)) : (sizeOf t).run P w = .ok n w := by
 obtain ⟨i, d, h1, h2, h3, h4, _⟩ := Zt h
 subst h4
 simp [sizeOf, typeInfo, h1]
theorem XQ {t : TypeId} {ag : Bool} {n by_ : Nat} {z : Option Value} (h : QT P t = some (ag, n, z, by_)) : ∃ i, (typeInfo t).run P w = .ok i w ∧ i.bytes = by_ ∧ i.size = n := by
 obtain ⟨i, d, h1, h2, h3, h4, h5, h6⟩ := Zt h
 exact ⟨i, by simp [typeInfo, h1], h6, h4⟩
theorem Xg {t : TypeId} {ag : Bool} {n by_ : Nat} {z : Value} (h : QT P t = some (ag, n, some z, by_)) : (zeroValue t).run P w = .ok z w := by
 obtain ⟨i, d, h1, h2, h3, h4, h5, _⟩ := Zt h
 simp [zeroValue, typeInfo, h1, h5]
theorem Qa.move {x : Operand} {v : Value} (hx : ev l x = some v) : Qa P l (.move x) ty w v w := by
 intro ρ hρ d pos af g
 simp [execOp, hρ _ _ hx]
theorem Qa.assign {x : Operand} {v : Value} (hx : ev l x = some v) : Qa P l (.assign x) ty w v w := by
 intro ρ hρ d pos af g
 simp [execOp, hρ _ _ hx]
theorem Jt {c x y : Operand} {v : Value} (hc : ev l c = some (.bool true)) (hx : ev l x = some v) : Qa P l (.pick c x y) ty w v w := by
 intro ρ hρ d pos af g
 simp [execOp, hρ _ _ hx, hρ _ _ hc, asBool]
theorem Ju {c x y : Operand} {v : Value} (hc : ev l c = some (.bool false)) (hy : ev l y = some v) : Qa P l (.pick c x y) ty w v w := by
 intro ρ hρ d pos af g
 simp [execOp, hρ _ _ hy, hρ _ _ hc, asBool]
theorem Qa.extract {x : Operand} {vs : Array Value} {i : Nat} {v : Value} (hx : ev l x = some (.tuple vs)) (hi : vs[i]? = some v) : Qa P l (.extract x i) ty w v w := by
 intro ρ hρ d pos af g
 simp [execOp, hρ _ _ hx, Instr.extract, hi]
theorem Qa.nilCheck {x : Operand} {a : Addr} (hx : ev l x = some (.pointer (some a))) : Qa P l (.nilCheck x) ty w (.pointer (some a)) w := by
 intro ρ hρ d pos af g
 simp [execOp, hρ _ _ hx]
theorem QE {op : BinOp} {t : TypeId} {x y : Operand} {yt : TypeId} {k : IntKind} {a b : Int} {v : Value} (hx : ev l x = some (.int k a)) (hy : ev l y = some (.int k b))
  (h : (binOp op t (.int k a) (.int k b)).run P w = .ok v w) : Qa P l (.binOp op t x y yt) ty w v w := by
 intro ρ hρ d pos af g
 have hg : (eqGuard op t x y (.int k a) (.int k b)).run P w = .ok () w := by
  cases op <;> rfl
 simp only [execOp, hρ _ _ hx, hρ _ _ hy, Sem.run_bind, hg, Result.andThen_ok, h]
 rfl
theorem JX {n : Int} (h1 : -9223372036854775808 ≤ n) (h2 : n < 9223372036854775808) : IntKind.i64.wrap n = n := by
 rw [IntKind.wrap_i64]; omega
theorem Qa.add {t yt : TypeId} {x y : Operand} {a b : Int} (hx : ev l x = some (i64 a)) (hy : ev l y = some (i64 b)) (hr : -9223372036854775808 ≤ a + b ∧ a + b < 9223372036854775808) : Qa P l (.binOp .add t x y yt) ty w (i64 (a + b)) w :=
 QE hx hy (by simp only [binOp, Op.intArith, ne_eq, not_true, if_false]; rw [JX hr.1 hr.2]; rfl)
theorem Qa.sub {t yt : TypeId} {x y : Operand} {a b : Int} (hx : ev l x = some (i64 a)) (hy : ev l y = some (i64 b)) (hr : -9223372036854775808 ≤ a - b ∧ a - b < 9223372036854775808) : Qa P l (.binOp .sub t x y yt) ty w (i64 (a - b)) w :=
 QE hx hy (by simp only [binOp, Op.intArith, ne_eq, not_true, if_false]; rw [JX hr.1 hr.2]; rfl)
theorem Qa.mul {t yt : TypeId} {x y : Operand} {a b : Int} (hx : ev l x = some (i64 a)) (hy : ev l y = some (i64 b)) (hr : -9223372036854775808 ≤ a * b ∧ a * b < 9223372036854775808) : Qa P l (.binOp .mul t x y yt) ty w (i64 (a * b)) w :=
 QE hx hy (by simp only [binOp, Op.intArith, ne_eq, not_true, if_false]; rw [JX hr.1 hr.2]; rfl)
theorem Qa.quo {t yt : TypeId} {x y : Operand} {a b : Int} (hx : ev l x = some (i64 a)) (hy : ev l y = some (i64 b)) (h0 : 0 ≤ a) (hb : 0 < b) (hr : a < 9223372036854775808) : Qa P l (.binOp .quo t x y yt) ty w (i64 (a / b)) w :=
 QE hx hy (by
  have h1 : 0 ≤ a / b := Int.ediv_nonneg h0 (by omega)
  have h2 : a / b ≤ a := Int.ediv_le_self _ h0
  simp only [binOp, Op.intDiv, ne_eq, not_true, if_false]; rw [if_neg (by omega), Int.tdiv_eq_ediv_of_nonneg h0, JX (by omega) (by omega)]; rfl)
theorem Qa.rem {t yt : TypeId} {x y : Operand} {a b : Int} (hx : ev l x = some (i64 a)) (hy : ev l y = some (i64 b)) (h0 : 0 ≤ a) (hb : 0 < b) : Qa P l (.binOp .rem t x y yt) ty w (i64 (a % b)) w :=
 QE hx hy (by
  simp only [binOp, Op.intDiv, ne_eq, not_true, if_false]; rw [if_neg (by omega), Int.tmod_eq_emod_of_nonneg h0]; rfl)
theorem Qa.eql {t yt : TypeId} {x y : Operand} {k : IntKind} {a b : Int} (hx : ev l x = some (.int k a)) (hy : ev l y = some (.int k b)) : Qa P l (.binOp .eql t x y yt) ty w (.bool (decide (a = b))) w :=
 QE hx hy (by simp only [binOp, Op.intCmp, ne_eq, not_true, if_false]; rfl)
theorem Qa.neq {t yt : TypeId} {x y : Operand} {k : IntKind} {a b : Int} (hx : ev l x = some (.int k a)) (hy : ev l y = some (.int k b)) : Qa P l (.binOp .neq t x y yt) ty w (.bool (decide (a ≠ b))) w :=
 QE hx hy (by
  have e : (a != b) = decide (a ≠ b) := by rw [Bool.eq_iff_iff]; simp
  simp only [binOp, Op.intCmp, ne_eq, not_true, if_false]; rw [e]; rfl)
theorem Qa.lss {t yt : TypeId} {x y : Operand} {k : IntKind} {a b : Int} (hx : ev l x = some (.int k a)) (hy : ev l y = some (.int k b)) : Qa P l (.binOp .lss t x y yt) ty w (.bool (decide (a < b))) w :=
 QE hx hy (by simp only [binOp, Op.intCmp, ne_eq, not_true, if_false]; rfl)
theorem Qa.leq {t yt : TypeId} {x y : Operand} {k : IntKind} {a b : Int} (hx : ev l x = some (.int k a)) (hy : ev l y = some (.int k b)) : Qa P l (.binOp .leq t x y yt) ty w (.bool (decide (a ≤ b))) w :=
 QE hx hy (by simp only [binOp, Op.intCmp, ne_eq, not_true, if_false]; rfl)
theorem Qa.gtr {t yt : TypeId} {x y : Operand} {k : IntKind} {a b : Int} (hx : ev l x = some (.int k a)) (hy : ev l y = some (.int k b)) : Qa P l (.binOp .gtr t x y yt) ty w (.bool (decide (b < a))) w :=
 QE hx hy (by simp only [binOp, Op.intCmp, ne_eq, not_true, if_false]; rfl)
theorem Qa.geq {t yt : TypeId} {x y : Operand} {k : IntKind} {a b : Int} (hx : ev l x = some (.int k a)) (hy : ev l y = some (.int k b)) : Qa P l (.binOp .geq t x y yt) ty w (.bool (decide (b ≤ a))) w :=
 QE hx hy (by simp only [binOp, Op.intCmp, ne_eq, not_true, if_false]; rfl)
theorem Qh1 (x : UInt8) : BitVec.ofInt 8 (x.toNat : Int) = x.toBitVec := by rw [BitVec.ofInt_natCast]; simp
theorem X9 (x : UInt32) : BitVec.ofInt 32 (x.toNat : Int) = x.toBitVec := by rw [BitVec.ofInt_natCast]; simp
theorem UT (x : UInt64) : BitVec.ofInt 64 (x.toNat : Int) = x.toBitVec := by rw [BitVec.ofInt_natCast]; simp
theorem QhW (n : Nat) : IntKind.u8.wrap (n : Int) = ((UInt8.ofNat n).toNat : Int) := by rw [IntKind.wrap_u8']; simp
theorem QdU (n : Nat) : IntKind.u32.wrap (n : Int) = ((UInt32.ofNat n).toNat : Int) := by rw [IntKind.wrap_u32']; simp
theorem Ql2 (v : BitVec 8) : IntKind.u8.wrap (v.toNat : Int) = ((UInt8.ofBitVec v).toNat : Int) := by have := v.isLt; rw [IntKind.wrap_u8']; simp only [UInt8.toNat_ofBitVec]; omega
theorem QcU (v : BitVec 32) : IntKind.u32.wrap (v.toNat : Int) = ((UInt32.ofBitVec v).toNat : Int) := by have := v.isLt; rw [IntKind.wrap_u32']; simp only [UInt32.toNat_ofBitVec]; omega
theorem QhO (v : BitVec 64) : IntKind.u64.wrap (v.toNat : Int) = ((UInt64.ofBitVec v).toNat : Int) := by have := v.isLt; rw [IntKind.wrap_u64]; simp only [UInt64.toNat_ofBitVec]; omega
theorem Jw {t yt : TypeId} {x y : Operand} {a b : UInt32} (hx : ev l x = some (u32 a)) (hy : ev l y = some (u32 b)) : Qa P l (.binOp .add t x y yt) ty w (u32 (a + b)) w :=
 QE hx hy (by
  have e : IntKind.u32.wrap ((a.toNat : Int) + b.toNat) = ((a + b).toNat : Int) := by rw [IntKind.wrap_u32', UInt32.toNat_add]; omega
  simp only [binOp, Op.intArith, ne_eq, not_true, if_false, e]; rfl)
theorem Qbg {t yt : TypeId} {x y : Operand} {a b : UInt64} (hx : ev l x = some (u64 a)) (hy : ev l y = some (u64 b)) : Qa P l (.binOp .sub t x y yt) ty w (u64 (a - b)) w :=
 QE hx hy (by
  have e : IntKind.u64.wrap ((a.toNat : Int) - b.toNat) = ((a - b).toNat : Int) := by
   have := a.toNat_lt; have := b.toNat_lt
   rw [IntKind.wrap_u64, UInt64.toNat_sub]; omega
  simp only [binOp, Op.intArith, ne_eq, not_true, if_false, e]; rfl)
theorem Qbh {t yt : TypeId} {x y : Operand} {a b : UInt64} (hx : ev l x = some (u64 a)) (hy : ev l y = some (u64 b)) (hb : b.toNat ≠ 0) : Qa P l (.binOp .rem t x y yt) ty w (u64 (a % b)) w :=
 QE hx hy (by
  have e : ((a.toNat : Int).tmod b.toNat) = ((a % b).toNat : Int) := by
   rw [UInt64.toNat_mod, Int.tmod_eq_emod_of_nonneg (by omega), ← Int.natCast_emod]
  simp only [binOp, Op.intDiv, ne_eq, not_true, if_false]; rw [if_neg (by omega), e]; rfl)
theorem KF {t yt : TypeId} {x y : Operand} {a b : UInt8} (hx : ev l x = some (u8 a)) (hy : ev l y = some (u8 b)) : Qa P l (.binOp .xor t x y yt) ty w (u8 (a ^^^ b)) w :=
 QE hx hy (by
  have e : IntKind.u8.wrap ((BitVec.ofInt 8 (a.toNat : Int) ^^^ BitVec.ofInt 8 (b.toNat : Int)).toNat : Int) = ((a ^^^ b).toNat : Int) := by rw [Qh1, Qh1, Ql2]; rfl
  simp only [binOp, Op.intBits, ne_eq, not_true, if_false]; exact congrArg (fun z => Result.ok (Value.int .u8 z) w) e)
theorem ZD {t yt : TypeId} {x y : Operand} {a b : UInt32} (hx : ev l x = some (u32 a)) (hy : ev l y = some (u32 b)) : Qa P l (.binOp .and t x y yt) ty w (u32 (a &&& b)) w :=
 QE hx hy (by
  have e : IntKind.u32.wrap ((BitVec.ofInt 32 (a.toNat : Int) &&& BitVec.ofInt 32 (b.toNat : Int)).toNat : Int) = ((a &&& b).toNat : Int) := by rw [X9, X9, QcU]; rfl
  simp only [binOp, Op.intBits, ne_eq, not_true, if_false]; exact congrArg (fun z => Result.ok (Value.int .u32 z) w) e)
theorem Z9 {t yt : TypeId} {x y : Operand} {a b : UInt32} (hx : ev l x = some (u32 a)) (hy : ev l y = some (u32 b)) : Qa P l (.binOp .or t x y yt) ty w (u32 (a ||| b)) w :=
 QE hx hy (by
  have e : IntKind.u32.wrap ((BitVec.ofInt 32 (a.toNat : Int) ||| BitVec.ofInt 32 (b.toNat : Int)).toNat : Int) = ((a ||| b).toNat : Int) := by rw [X9, X9, QcU]; rfl
  simp only [binOp, Op.intBits, ne_eq, not_true, if_false]; exact congrArg (fun z => Result.ok (Value.int .u32 z) w) e)
theorem JD {t yt : TypeId} {x y : Operand} {a b : UInt32} (hx : ev l x = some (u32 a)) (hy : ev l y = some (u32 b)) : Qa P l (.binOp .xor t x y yt) ty w (u32 (a ^^^ b)) w :=
 QE hx hy (by
  have e : IntKind.u32.wrap ((BitVec.ofInt 32 (a.toNat : Int) ^^^ BitVec.ofInt 32 (b.toNat : Int)).toNat : Int) = ((a ^^^ b).toNat : Int) := by rw [X9, X9, QcU]; rfl
  simp only [binOp, Op.intBits, ne_eq, not_true, if_false]; exact congrArg (fun z => Result.ok (Value.int .u32 z) w) e)
theorem Qbi {t yt : TypeId} {x y : Operand} {a b : UInt64} (hx : ev l x = some (u64 a)) (hy : ev l y = some (u64 b)) : Qa P l (.binOp .and t x y yt) ty w (u64 (a &&& b)) w :=
 QE hx hy (by
  have e : IntKind.u64.wrap ((BitVec.ofInt 64 (a.toNat : Int) &&& BitVec.ofInt 64 (b.toNat : Int)).toNat : Int) = ((a &&& b).toNat : Int) := by rw [UT, UT, QhO]; rfl
  simp only [binOp, Op.intBits, ne_eq, not_true, if_false]; exact congrArg (fun z => Result.ok (Value.int .u64 z) w) e)
theorem Qcg {t yt : TypeId} {x y : Operand} {a b : UInt64} (hx : ev l x = some (u64 a)) (hy : ev l y = some (u64 b)) : Qa P l (.binOp .or t x y yt) ty w (u64 (a ||| b)) w :=
 QE hx hy (by
  have e : IntKind.u64.wrap ((BitVec.ofInt 64 (a.toNat : Int) ||| BitVec.ofInt 64 (b.toNat : Int)).toNat : Int) = ((a ||| b).toNat : Int) := by rw [UT, UT, QhO]; rfl
  simp only [binOp, Op.intBits, ne_eq, not_true, if_false]; exact congrArg (fun z => Result.ok (Value.int .u64 z) w) e)
theorem ZK {op : BinOp} {t : TypeId} {x y : Operand} {yt : TypeId} {k yk : IntKind} {a b : Int} {v : Value} (ho : op = .shl ∨ op = .shr) (hx : ev l x = some (.int k a)) (hy : ev l y = some (.int yk b))
  (h : (Op.shift op k a yk b).run P w = .ok v w) : Qa P l (.binOp op t x y yt) ty w v w := by
 intro ρ hρ d pos af g
 have hg : (eqGuard op t x y (.int k a) (.int yk b)).run P w = .ok () w := by
  cases op <;> rfl
 have hb : binOp op t (.int k a) (.int yk b) = Op.shift op k a yk b := by rcases ho with rfl | rfl <;> rfl
 simp only [execOp, hρ _ _ hx, hρ _ _ hy, Sem.run_bind, hg, Result.andThen_ok, hb, h]
 rfl
theorem Yh {t yt : TypeId} {x y : Operand} {yk : IntKind} {a : UInt32} {b : Int} (hx : ev l x = some (u32 a)) (hy : ev l y = some (.int yk b)) (h0 : 0 ≤ b) (h1 : b < 32) : Qa P l (.binOp .shl t x y yt) ty w (u32 (a <<< UInt32.ofNat b.toNat)) w :=
 ZK (.inl rfl) hx hy (by
  obtain ⟨n, rfl⟩ := Int.eq_ofNat_of_zero_le h0
  have e : IntKind.u32.wrap ((a.toNat : Int) * 2 ^ (min (n : Int).toNat IntKind.u32.bits)) = ((a <<< UInt32.ofNat (n : Int).toNat).toNat : Int) := by
   have hn : n < 32 := by omega
   rw [Int.toNat_natCast, show min n IntKind.u32.bits = n by simp [IntKind.bits]; omega, UInt32.toNat_shiftLeft, UInt32.toNat_ofNat_of_lt' (by simp [UInt32.size]; omega), IntKind.wrap_u32', Nat.mod_eq_of_lt hn, Nat.shiftLeft_eq]
   simp
  simp only [Op.shift]; rw [if_neg (by omega), e]; rfl)
theorem J7 {t yt : TypeId} {x y : Operand} {yk : IntKind} {a : UInt32} {b : Int} (hx : ev l x = some (u32 a)) (hy : ev l y = some (.int yk b)) (h0 : 0 ≤ b) (h1 : b < 32) : Qa P l (.binOp .shr t x y yt) ty w (u32 (a >>> UInt32.ofNat b.toNat)) w :=
 ZK (.inr rfl) hx hy (by
  obtain ⟨n, rfl⟩ := Int.eq_ofNat_of_zero_le h0
  have e : ((a.toNat : Int).fdiv (2 ^ (min (n : Int).toNat IntKind.u32.bits))) = ((a >>> UInt32.ofNat (n : Int).toNat).toNat : Int) := by
   have hn : n < 32 := by omega
   rw [Int.toNat_natCast, show min n IntKind.u32.bits = n by simp [IntKind.bits]; omega, UInt32.toNat_shiftRight, UInt32.toNat_ofNat_of_lt' (by simp [UInt32.size]; omega), Nat.mod_eq_of_lt hn, Nat.shiftRight_eq_div_pow, Int.fdiv_eq_ediv_of_nonneg _ (Int.le_of_lt (Int.pow_pos (by omega)))]
   simp
  simp only [Op.shift]; rw [if_neg (by omega), e]; rfl)
theorem Qa.not {t : TypeId} {x : Operand} {b : Bool} (hx : ev l x = some (.bool b)) : Qa P l (.unOp .not t x) ty w (.bool (!b)) w := by
 intro ρ hρ d pos af g
 simp [execOp, hρ _ _ hx, Op.unary]
theorem Qbj {t : TypeId} {x : Operand} {a : UInt32} (hx : ev l x = some (u32 a)) : Qa P l (.unOp .xor t x) ty w (u32 (~~~ a)) w := by
 intro ρ hρ d pos af g
 have e : IntKind.u32.wrap ((BitVec.ofInt 32 IntKind.u32.max ^^^ BitVec.ofInt 32 (a.toNat : Int)).toNat : Int) = ((~~~ a).toNat : Int) := by
  have : BitVec.ofInt 32 IntKind.u32.max = BitVec.allOnes 32 := by decide
  rw [X9, this, BitVec.allOnes_xor, QcU]
  rfl
 have e2 : (Op.intBits .xor .u32 (if IntKind.u32.signed then -1 else IntKind.u32.max) (a.toNat : Int)).run P w = .ok (u32 (~~~ a)) w := by
  simp only [Op.intBits]; exact congrArg (fun z => Result.ok (Value.int .u32 z) w) e
 simp only [execOp, hρ _ _ hx, Op.unary, Sem.run_bind, e2, Result.andThen_ok]
 rfl
theorem Qz {s t : TypeId} {x : Operand} {k k' : IntKind} {a b : Int} {ds : TypeDesc} (hs : P.underlying s = some ds) (ht : P.underlying t = some (.int k')) (hx : ev l x = some (.int k a)) (hb : k'.wrap a = b) : Qa P l (.convert s t x) ty w (.int k' b) w := by
 intro ρ hρ d pos af g
 have h : (convert s t (.int k a)).run P w = .ok (.int k' b) w := by
  simp only [convert, Sem.run_bind, run_underlying hs, run_underlying ht, Result.andThen_ok, Conv.intToInt, hb]
  cases ds <;> rfl
 simp only [execOp, hρ _ _ hx, Sem.run_bind, h, Result.andThen_ok]
 rfl
theorem Y2 (a : UInt8) : IntKind.u32.wrap (a.toNat : Int) = (a.toUInt32.toNat : Int) := by rw [QdU]; simp
theorem JW (a : UInt32) : IntKind.u8.wrap (a.toNat : Int) = (a.toUInt8.toNat : Int) := by rw [QhW]; simp
theorem YK (a : UInt8) : IntKind.i64.wrap (a.toNat : Int) = (a.toNat : Int) := by have := a.toNat_lt; rw [JX (by omega) (by omega)]
theorem Yc (a : UInt32) : IntKind.i64.wrap (a.toNat : Int) = (a.toNat : Int) := by have := a.toNat_lt; rw [JX (by omega) (by omega)]
theorem Qbq (a : Int) (h : 0 ≤ a) : IntKind.u8.wrap a = ((UInt8.ofNat a.toNat).toNat : Int) := by obtain ⟨n, rfl⟩ := Int.eq_ofNat_of_zero_le h; rw [QhW]; simp
end
end Go.Proofs.Ytgfomedobfaidaa
end
section
set_option linter.unusedVariables false
set_option linter.unusedSimpArgs false
namespace Go.Proofs.Ytgfomedobfaidaa
open Go.RowKit
abbrev Lab := Nat → Option Nat
def Ql (lab : Lab) (w : World) : Prop := ∀ k, w.heap.size ≤ k → lab k = none
structure Stp (T : List Nat) (lab : Lab) (w : World) (lab' : Lab) (w' : World) : Prop where
 os : w'.os = w.os
 tape : w'.tape = w.tape
 output : w'.output = w.output
 size : w.heap.size ≤ w'.heap.size
 free : ∀ k, k < w.heap.size → lab k = none → lab' k = none ∧ w'.heap[k]? = w.heap[k]?
 own : ∀ k d, k < w.heap.size → lab k = some d → d ∉ T → lab' k = some d ∧ w'.heap[k]? = w.heap[k]?
theorem Stp.refl (lab : Lab) (w : World) : Stp [] lab w lab w := ⟨rfl, rfl, rfl, Nat.le_refl _, fun _ _ h => ⟨h, rfl⟩, fun _ _ _ h _ => ⟨h, rfl⟩⟩
theorem Stp.trans {T U : List Nat} {l0 l1 l2 : Lab} {a b c : World} (h : Stp T l0 a l1 b) (k : Stp U l1 b l2 c) : Stp (T ++ U) l0 a l2 c where
 os := k.os.trans h.os
 tape := k.tape.trans h.tape
 output := k.output.trans h.output
 size := Nat.le_trans h.size k.size
 free := fun i hi h0 => by
  obtain ⟨h1, h2⟩ := h.free i hi h0
  obtain ⟨k1, k2⟩ := k.free i (Nat.lt_of_lt_of_le hi h.size) h1
  exact ⟨k1, k2.trans h2⟩
 own := fun i d hi h0 hd => by
  obtain ⟨h1, h2⟩ := h.own i d hi h0 (fun e => hd (List.mem_append_left _ e))
  obtain ⟨k1, k2⟩ := k.own i d (Nat.lt_of_lt_of_le hi h.size) h1 (fun e => hd (List.mem_append_right _ e))
  exact ⟨k1, k2.trans h2⟩
theorem Stp.more {T U : List Nat} {l0 l1 : Lab} {a b : World} (h : Stp T l0 a l1 b) (hT : ∀ d, d ∈ T → d ∈ U) : Stp U l0 a l1 b := ⟨h.os, h.tape, h.output, h.size, h.free, fun i d hi h0 hd => h.own i d hi h0 (fun e => hd (hT d e))⟩
theorem Stp.below {lab : Lab} {w w' : World} (h : Below w.heap.size w w') : Stp [] lab w lab w' := ⟨h.os, h.tape, h.output, h.size, fun k hk e => ⟨e, h.block k hk⟩, fun k d hk e _ => ⟨e, h.block k hk⟩⟩
theorem Stp.drew (lab : Lab) (w : World) : Stp [] lab w lab { w with drawn := w.drawn + 1 } := ⟨rfl, rfl, rfl, Nat.le_refl _, fun _ _ h => ⟨h, rfl⟩, fun _ _ _ h _ => ⟨h, rfl⟩⟩
theorem Ql.below {lab : Lab} {w w' : World} (hv : Ql lab w) (h : w.heap.size ≤ w'.heap.size) : Ql lab w' := fun k hk => hv k (Nat.le_trans h hk)
def ent (lab : Lab) : Lab := fun k => if (lab k).isSome then some 0 else none
theorem QcH {lab : Lab} {k : Nat} : ent lab k = none ↔ lab k = none := by unfold ent; cases lab k <;> simp
theorem Ql.ent {lab : Lab} {w : World} (h : Ql lab w) : Ql (ent lab) w := fun k hk => QcH.2 (h k hk)
theorem Stp.enter (lab : Lab) (w : World) : Stp [] (fun k => ent lab k) w (ent lab) w := Stp.refl _ _
abbrev VP := Lab → World → Value → Prop
structure Pers (V : VP) : Prop where
 step : ∀ {T : List Nat} {lab : Lab} {w : World} {lab' : Lab} {w' : World} {v : Value}, Stp T lab w lab' w' → V lab w v → V lab' w' v
theorem Stp.leave {T : List Nat} {lab lab' : Lab} {w w' : World} (h : Stp T (ent lab) w lab' w') (hT : (0 : Nat) ∉ T) : Below w.heap.size w w' :=
 ⟨h.os, h.tape, h.output, h.size, fun k hk => by
  cases hl : ent lab k with
  | none => exact (h.free k hk hl).2
  | some d =>
   have hd : d = 0 := by unfold ent at hl; split at hl <;> simp_all
   subst hd
   exact (h.own k 0 hk hl hT).2⟩
theorem Stp.back {T : List Nat} {lab lab' : Lab} {w w' : World} (h : Stp T (ent lab) w lab' w') (hT : (0 : Nat) ∉ T) (hv : Ql lab w) :
  ∀ k, lab' k = none → lab k = none := by
 intro k hk
 by_cases hlt : k < w.heap.size
 ·cases hl : lab k with
  | none => rfl
  | some d =>
   have he : ent lab k = some 0 := by unfold ent; simp [hl]
   have := (h.own k 0 hlt he hT).1
   rw [hk] at this
   cases this
 ·exact hv k (by omega)
theorem Stp.out {T : List Nat} {lab lab' : Lab} {w w' : World} (h : Stp T (ent lab) w lab' w') (hT : (0 : Nat) ∉ T) (hv : Ql lab w) : ∃ U, Stp U lab' w' lab w' :=
 ⟨(List.range w'.heap.size).filterMap lab', ⟨rfl, rfl, rfl, Nat.le_refl _, fun k hk e => ⟨h.back hT hv k e, rfl⟩, fun k d hk e hd => absurd (List.mem_filterMap.2 ⟨k, by simpa using hk, e⟩) hd⟩⟩
@[reducible] def str (bs : List UInt8) : Value := .string ⟨bs.toArray⟩
theorem J2 (b o j : Nat) : (⟨b, o, none⟩ : Addr).add j = ⟨b, o + j, none⟩ := by unfold Addr.add; split <;> simp_all
def Ja (lab : Lab) (w : World) (A : Option Addr) (cs : List Value) : Prop :=
 cs = [] ∨ ∃ b o arr t fr, A = some ⟨b, o, none⟩ ∧ lab b = none ∧ w.heap[b]? = some (.cells arr t fr) ∧ ∀ j v, cs[j]? = some v → arr[o + j]? = some v
theorem Ja.nil {lab : Lab} {w : World} {A : Option Addr} : Ja lab w A [] := .inl rfl
theorem Zj {w : World} {b : Nat} {o : Obj} (h : w.heap[b]? = some o) : b < w.heap.size := (Array.getElem?_eq_some_iff.1 h).1
theorem Ja.lift {T : List Nat} {lab lab' : Lab} {w w' : World} {A : Option Addr} {cs : List Value} (s : Stp T lab w lab' w') (h : Ja lab w A cs) : Ja lab' w' A cs := by
 rcases h with h | ⟨b, o, arr, t, fr, h1, h2, h3, h4⟩
 ·exact .inl h
 ·obtain ⟨k1, k2⟩ := s.free b (Zj h3) h2
  exact .inr ⟨b, o, arr, t, fr, h1, k1, k2.trans h3, h4⟩
theorem Ja.cell {lab : Lab} {w : World} {A : Option Addr} {cs : List Value} (h : Ja lab w A cs) {j : Nat} {v : Value} (hv : cs[j]? = some v) : ∃ b o, A = some ⟨b, o, none⟩ ∧ w.cell? ⟨b, o + j, none⟩ = some v := by
 rcases h with h | ⟨b, o, arr, t, fr, h1, h2, h3, h4⟩
 ·subst h; simp at hv
 ·exact ⟨b, o, h1, by rw [cell_of_row w b _ arr t fr h3]; exact h4 j v hv⟩
theorem Ja.sub {lab : Lab} {w : World} {A : Option Addr} {cs : List Value} (h : Ja lab w A cs) (lo n : Nat) : Ja lab w (A.map (·.add lo)) ((cs.drop lo).take n) := by
 rcases h with h | ⟨b, o, arr, t, fr, h1, h2, h3, h4⟩
 ·exact .inl (by simp [h])
 ·refine .inr ⟨b, o + lo, arr, t, fr, by simp [h1, J2], h2, h3, fun j v hv => ?_⟩
  have hj : j < n := by
   by_cases hj : j < n
   ·exact hj
   ·rw [List.getElem?_take, if_neg hj] at hv; cases hv
  rw [List.getElem?_take_of_lt hj, List.getElem?_drop] at hv
  rw [Nat.add_assoc]
  exact h4 _ v hv
theorem Ja.take {lab : Lab} {w : World} {A : Option Addr} {cs : List Value} (h : Ja lab w A cs) (n : Nat) : Ja lab w A (cs.take n) := by
 rcases h with h | ⟨b, o, arr, t, fr, h1, h2, h3, h4⟩
 ·exact .inl (by simp [h])
 ·refine .inr ⟨b, o, arr, t, fr, h1, h2, h3, fun j v hv => h4 j v ?_⟩
  by_cases hj : j < n
  ·rwa [List.getElem?_take_of_lt hj] at hv
  ·rw [List.getElem?_take, if_neg hj] at hv; cases hv
def QhR (cs : List Value) : VP := fun lab w v => ∃ A c, v = .slice A cs.length c ∧ cs.length ≤ c ∧ c ≤ 9223372036854775807 ∧ Ja lab w A cs
theorem Qjo (cs : List Value) : Pers (QhR cs) := ⟨fun s ⟨A, c, h1, h2, h3, h4⟩ => ⟨A, c, h1, h2, h3, h4.lift s⟩⟩
def Own (lab : Lab) (w : World) (d b : Nat) (t : TypeId) (arr : Array Value) : Prop := lab b = some d ∧ w.heap[b]? = some (.cells arr t (0, 0))
theorem Own.lift {T : List Nat} {lab lab' : Lab} {w w' : World} {d b : Nat} {t : TypeId} {arr : Array Value} (h : Own lab w d b t arr) (s : Stp T lab w lab' w') (hd : d ∉ T) : Own lab' w' d b t arr := by
 obtain ⟨k1, k2⟩ := s.own b d (Zj h.2) h.1 hd
 exact ⟨k1, k2.trans h.2⟩
theorem Own.cell {lab : Lab} {w : World} {d b : Nat} {t : TypeId} {arr : Array Value} (h : Own lab w d b t arr) (j : Nat) : w.cell? ⟨b, j, none⟩ = arr[j]? := cell_of_row w b j arr t (0, 0) h.2
def JT (lab : Lab) (b d : Nat) : Lab := fun k => if k = b then some d else lab k
theorem Yu (w : World) (o : Obj) {k : Nat} (h : k < w.heap.size) : (w.alloc o).heap[k]? = w.heap[k]? := Below.heap_alloc w o k h
theorem JU (w : World) (o : Obj) : (w.alloc o).heap[w.heap.size]? = some o := by show (w.heap.push o)[w.heap.size]? = some o; simp
theorem Yy (w : World) (o : Obj) : (w.alloc o).heap.size = w.heap.size + 1 := by show (w.heap.push o).size = _; simp
theorem Stp.alloc {lab : Lab} {w : World} (o : Obj) (d : Nat) : Stp [] lab w (JT lab w.heap.size d) (w.alloc o) :=
 ⟨rfl, rfl, rfl, by rw [Yy]; omega, fun k hk e => ⟨by unfold JT; rw [if_neg (by omega)]; exact e, Yu w o hk⟩, fun k d' hk e _ => ⟨by unfold JT; rw [if_neg (by omega)]; exact e, Yu w o hk⟩⟩
theorem Ql.alloc {lab : Lab} {w : World} (hv : Ql lab w) (o : Obj) (d : Nat) : Ql (JT lab w.heap.size d) (w.alloc o) := fun k hk => by
 rw [Yy] at hk
 unfold JT; rw [if_neg (by omega)]; exact hv k (by omega)
theorem Own.alloc (lab : Lab) (w : World) (arr : Array Value) (t : TypeId) (d : Nat) : Own (JT lab w.heap.size d) (w.alloc (.cells arr t)) d w.heap.size t arr := ⟨by simp [JT], JU w _⟩
theorem Stp.fresh {lab : Lab} {w : World} (o : Obj) : Stp [] lab w lab (w.alloc o) :=
 ⟨rfl, rfl, rfl, by rw [Yy]; omega, fun k hk e => ⟨e, Yu w o hk⟩, fun k d' hk e _ => ⟨e, Yu w o hk⟩⟩
theorem Ja.fresh {lab : Lab} {w : World} (hv : Ql lab w) (arr : Array Value) (t : TypeId) (fr : Nat × Nat) (cs : List Value) (h : ∀ (j : Nat) (v : Value), cs[j]? = some v → arr[j]? = some v) : Ja lab (w.alloc (.cells arr t fr)) (some ⟨w.heap.size, 0, none⟩) cs :=
 .inr ⟨w.heap.size, 0, arr, t, fr, rfl, hv _ (Nat.le_refl _), JU w _, fun j v hj => by rw [Nat.zero_add]; exact h j v hj⟩
def Q5 (lab : Lab) (d : Nat) : Lab := fun k => if lab k = some d then none else lab k
theorem Stp.release {lab : Lab} {w : World} (d : Nat) : Stp [d] lab w (Q5 lab d) w :=
 ⟨rfl, rfl, rfl, Nat.le_refl _, fun k hk e => ⟨by unfold Q5; split <;> simp_all, rfl⟩, fun k d' hk e hd => ⟨by unfold Q5; rw [if_neg (by rw [e]; simp at hd ⊢; exact hd)]; exact e, rfl⟩⟩
theorem Ql.release {lab : Lab} {w : World} (hv : Ql lab w) (d : Nat) : Ql (Q5 lab d) w := fun k hk => by unfold Q5; split; rfl; exact hv k hk
theorem Ja.release {lab : Lab} {w : World} {d b : Nat} {t : TypeId} {arr : Array Value} (h : Own lab w d b t arr) (o : Nat) (cs : List Value) (hc : ∀ (j : Nat) (v : Value), cs[j]? = some v → arr[o + j]? = some v) : Ja (Q5 lab d) w (some ⟨b, o, none⟩) cs :=
 .inr ⟨b, o, arr, t, (0, 0), rfl, by unfold Q5; rw [if_pos h.1], h.2, hc⟩
theorem Qdj {w : World} {g : Nat} {c cs : Array Value} {t : TypeId} {fr : Nat × Nat} (h : w.heap[g]? = some (.cells c t fr)) : (w.setRow g cs).heap[g]? = some (.cells cs t fr) := by
 simp [World.setRow, Array.getElem?_modify, h]
theorem V7 {w : World} {g k : Nat} {cs : Array Value} (h : k ≠ g) : (w.setRow g cs).heap[k]? = w.heap[k]? := by
 simp only [World.setRow, Array.getElem?_modify]; rw [if_neg (fun e => h e.symm)]
theorem Ke (w : World) (g : Nat) (cs : Array Value) : (w.setRow g cs).heap.size = w.heap.size := by simp [World.setRow]
theorem Stp.set {lab : Lab} {w : World} {d b : Nat} (h : lab b = some d) (cs : Array Value) : Stp [d] lab w lab (w.setRow b cs) :=
 ⟨rfl, rfl, rfl, by rw [Ke]; omega, fun k hk e => ⟨e, V7 (fun e' => by subst e'; rw [h] at e; cases e)⟩, fun k d' hk e hd => ⟨e, V7 (fun e' => by subst e'; rw [h] at e; cases e; simp at hd)⟩⟩
theorem Own.set {lab : Lab} {w : World} {d b : Nat} {t : TypeId} {arr : Array Value} (h : Own lab w d b t arr) (cs : Array Value) : Own lab (w.setRow b cs) d b t cs := ⟨h.1, Qdj h.2⟩
theorem Ql.set {lab : Lab} {w : World} (hv : Ql lab w) (b : Nat) (cs : Array Value) : Ql lab (w.setRow b cs) := hv.below (by rw [Ke]; omega)
section
variable {P : Program} {N : Nat} {l : List (Nat × Value)} {w : World} {ty : TypeId}
theorem Uj (t : TypeId) (v : Value) (w : World) : (newVar t v).run P w = .ok ⟨w.heap.size, 0, none⟩ (w.alloc (.cells v.cells t)) := rfl
theorem Qa.alloc {t : TypeId} {ag : Bool} {n by_ : Nat} {z : Value} (ht : QT P t = some (ag, n, some z, by_)) : Qa P l (.alloc t) ty w (.pointer (some ⟨w.heap.size, 0, none⟩)) (w.alloc (.cells z.cells t)) := by
 intro ρ hρ d pos af g
 simp only [execOp, Instr.alloc, Sem.run_bind, Xg ht, Result.andThen_ok, Uj]
 rfl
theorem Qa.box {t : TypeId} {x : Operand} {v : Value} (hx : ev l x = some v) : Qa P l (.box t x) ty w (.pointer (some ⟨w.heap.size, 0, none⟩)) (w.alloc (.cells v.cells t)) := by
 intro ρ hρ d pos af g
 simp only [execOp, Instr.box, hρ _ _ hx, Sem.run_bind, Result.andThen_ok, Uj]
 rfl
theorem Kf {t : TypeId} {n by_ : Nat} {z : Option Value} {a : Addr} {v : Value} (ht : QT P t = some (false, n, z, by_)) (hc : w.cell? a = some v) : (loadVar t a).run P w = .ok v w := by
 simp only [loadVar, Sem.run_bind, Vt ht, Result.andThen_ok, Bool.false_eq_true, if_false, load, Sem.run, hc]
theorem Xh {t : TypeId} {by_ : Nat} {z : Option Value} {a : Addr} {cs : List Value} (ht : QT P t = some (true, cs.length, z, by_)) (hc : ∀ j v, cs[j]? = some v → w.cell? (a.add j) = some v) : (loadVar t a).run P w = .ok (.agg cs.toArray) w := by
 simp only [loadVar, Sem.run_bind, Vt ht, Result.andThen_ok, if_true, QV ht, run_loadCells_list w a cs hc]
 rfl
theorem Jh {t : TypeId} {x : Operand} {n by_ : Nat} {z : Option Value} {a : Addr} {v : Value} (ht : QT P t = some (false, n, z, by_)) (hx : ev l x = some (.pointer (some a))) (hc : w.cell? a = some v) : Qa P l (.load t x) ty w v w := by
 intro ρ hρ d pos af g
 simp only [execOp, Instr.loadAt, Instr.sureAddr, hρ _ _ hx, Sem.run_bind, Sem.run_pure, Result.andThen_ok, Kf ht hc]
theorem Zl {t : TypeId} {x : Operand} {by_ : Nat} {z : Option Value} {a : Addr} {cs : List Value} (ht : QT P t = some (true, cs.length, z, by_)) (hx : ev l x = some (.pointer (some a))) (hc : ∀ j v, cs[j]? = some v → w.cell? (a.add j) = some v) : Qa P l (.load t x) ty w (.agg cs.toArray) w := by
 intro ρ hρ d pos af g
 simp only [execOp, Instr.loadAt, Instr.sureAddr, hρ _ _ hx, Sem.run_bind, Sem.run_pure, Result.andThen_ok, Xh ht hc]
theorem Qf {t t' : TypeId} {x : Operand} {n by_ : Nat} {z : Option Value} {lab : Lab} {d b o : Nat} {arr : Array Value} {v : Value} (h : Own lab w d b t' arr) (ht : QT P t = some (false, n, z, by_)) (hx : ev l x = some (.pointer (some ⟨b, o, none⟩))) (hv : arr[o]? = some v) : Qa P l (.load t x) ty w v w :=
 Jh ht hx (by rw [h.cell]; exact hv)
theorem Qb {t t' : TypeId} {x : Operand} {by_ : Nat} {z : Option Value} {lab : Lab} {d b o : Nat} {arr : Array Value} (cs : List Value) (h : Own lab w d b t' arr) (ht : QT P t = some (true, cs.length, z, by_)) (hx : ev l x = some (.pointer (some ⟨b, o, none⟩)))
  (hv : (arr.toList.drop o).take cs.length = cs) : Qa P l (.load t x) ty w (.agg cs.toArray) w :=
 Zl ht hx (fun j v hj => by
  rw [J2, h.cell]
  have hjl : j < cs.length := (List.getElem?_eq_some_iff.1 hj).1
  rw [← hv, List.getElem?_take_of_lt hjl, List.getElem?_drop] at hj
  simpa using hj)
theorem Qa1 {t t' : TypeId} {ag : Bool} {n by_ : Nat} {z : Option Value} {b o : Nat} {arr : Array Value} {v : Value} (ht : QT P t = some (ag, n, z, by_)) (hh : w.heap[b]? = some (.cells arr t' (0, 0))) (hn : v.cells.size = n) (ho : o + n ≤ arr.size) (h1 : v.cells.toList.all (·.oneCell') = true) :
  (storeVar t ⟨b, o, none⟩ v).run P w = .ok () (w.setRow b (arr.toList.take o ++ v.cells.toList ++ arr.toList.drop (o + n)).toArray) := by
 have h := run_storeCells_at (P := P) b o t' v.cells.toList 0 arr w hh (by simp; omega) (fun x hx => (List.all_eq_true.1 h1) x hx)
 simp only [storeVar, Sem.run_bind, QV ht, Result.andThen_ok]
 rw [if_neg (by simp [hn]), h]
 simp [hn]
theorem Qa.store {t t' : TypeId} {x y : Operand} {ag : Bool} {n by_ : Nat} {z : Option Value} {b o : Nat} {arr : Array Value} {v : Value} {lab : Lab} {d : Nat} (arr' : Array Value) (h : Own lab w d b t' arr) (ht : QT P t = some (ag, n, z, by_)) (hx : ev l x = some (.pointer (some ⟨b, o, none⟩))) (hy : ev l y = some v)
  (hn : v.cells.size = n) (ho : o + n ≤ arr.size) (h1 : v.cells.toList.all (·.oneCell') = true) (ha : (arr.toList.take o ++ v.cells.toList ++ arr.toList.drop (o + n)).toArray = arr') : Qgf P l (.store t x y) ty w (w.setRow b arr') := by
 intro ρ hρ d pos af g
 simp only [execOp, Instr.storeAt, Instr.sureAddr, hρ _ _ hx, hρ _ _ hy, Sem.run_bind, Sem.run_pure, Result.andThen_ok, Qa1 ht h.2 hn ho h1, ha]
theorem Qa.fieldAddr {s : TypeId} {x : Operand} {i : Nat} {fs : Array Field} {f : Field} {b o : Nat} {ag : Bool} {n by_ : Nat} {z : Option Value} (hs : P.underlying s = some (.struct fs)) (hf : fs[i]? = some f) (ht : QT P f.type = some (ag, n + 1, z, by_)) (hx : ev l x = some (.pointer (some ⟨b, o, none⟩))) :
  Qa P l (.fieldAddr s x i) ty w (.pointer (some ⟨b, o + f.offset, none⟩)) w := by
 intro ρ hρ d pos af g
 simp only [execOp, Instr.fieldAt, hρ _ _ hx, Sem.run_bind, run_underlying hs, Result.andThen_ok, hf, Instr.sureAddr, Sem.run_pure, fieldPlace, QV ht, Nat.add_eq_zero_iff, Nat.one_ne_zero, and_false, if_false, J2]
theorem Qd {s : TypeId} {x : Operand} {i : Nat} {fs : Array Field} {f : Field} {b o : Nat} {ag : Bool} {n by_ : Nat} {z : Option Value} (r : Nat) (hs : P.underlying s = some (.struct fs)) (hf : fs[i]? = some f) (ht : QT P f.type = some (ag, n + 1, z, by_)) (hx : ev l x = some (.pointer (some ⟨b, o, none⟩))) (hr : o + f.offset = r) :
  Qa P l (.fieldAddr s x i) ty w (.pointer (some ⟨b, r, none⟩)) w := hr ▸ Qa.fieldAddr hs hf ht hx
theorem Qa.len {t e : TypeId} {x : Operand} {A : Option Addr} {n c : Nat} (ht : P.underlying t = some (.slice e)) (hx : ev l x = some (.slice A n c)) : Qa P l (.call ⟨.builtin .len, #[x], #[t]⟩) ty w (i64 n) w := by
 intro ρ hρ d pos af g
 simp [execOp, resolve, invoke, builtin, hρ _ _ hx, Builtin.len_, run_underlying ht, goInt]
theorem Jf {t e yt : TypeId} {x y : Operand} {a : Addr} (ht : P.underlying t = some (.pointer e)) (hx : ev l x = some (.pointer (some a))) (hy : ev l y = some (.pointer none)) : Qa P l (.binOp .eql t x y yt) ty w (.bool false) w := by
 intro ρ hρ d pos af g
 have hg : (eqGuard .eql t x y (.pointer (some a)) (.pointer none)).run P w = .ok () w := rfl
 have he : ∀ d : Nat, (Op.equalIn (d + 1) t (.pointer (some a)) (.pointer none)).run P w = .ok false w := fun d => by simp [Op.equalIn, run_underlying ht]
 have hb : (binOp .eql t (.pointer (some a)) (.pointer none)).run P w = .ok (.bool false) w := by
  have e : binOp .eql t (.pointer (some a)) (.pointer none) = (do pure (.bool ((← Op.equal t (.pointer (some a)) (.pointer none))))) := rfl
  rw [e]
  simp [Op.equal, Op.maxDepth, he 9999]
 simp only [execOp, hρ _ _ hx, hρ _ _ hy, Sem.run_bind, hg, Result.andThen_ok, hb]
 rfl
theorem Yi {t e yt : TypeId} {x y : Operand} {a : Addr} (ht : P.underlying t = some (.pointer e)) (hx : ev l x = some (.pointer (some a))) (hy : ev l y = some (.pointer none)) : Qa P l (.binOp .neq t x y yt) ty w (.bool true) w := by
 intro ρ hρ d pos af g
 have hg : (eqGuard .neq t x y (.pointer (some a)) (.pointer none)).run P w = .ok () w := rfl
 have he : ∀ d : Nat, (Op.equalIn (d + 1) t (.pointer (some a)) (.pointer none)).run P w = .ok false w := fun d => by simp [Op.equalIn, run_underlying ht]
 have hb : (binOp .neq t (.pointer (some a)) (.pointer none)).run P w = .ok (.bool true) w := by
  have e : binOp .neq t (.pointer (some a)) (.pointer none) = (do pure (.bool (!(← Op.equal t (.pointer (some a)) (.pointer none))))) := rfl
  rw [e]
  simp [Op.equal, Op.maxDepth, he 9999]
 simp only [execOp, hρ _ _ hx, hρ _ _ hy, Sem.run_bind, hg, Result.andThen_ok, hb]
 rfl
theorem VJ {t yt : TypeId} {x y : Operand} {a b : List UInt8} (hx : ev l x = some (str a)) (hy : ev l y = some (str b)) : Qa P l (.binOp .neq t x y yt) ty w (.bool (decide (a ≠ b))) w := by
 intro ρ hρ d pos af g
 have hg : (eqGuard .neq t x y (str a) (str b)).run P w = .ok () w := rfl
 have hb : (binOp .neq t (str a) (str b)).run P w = .ok (.bool (decide (a ≠ b))) w := by
  rw [str, str, binOp_string_neq, ByteArray.toList_mk, ByteArray.toList_mk]
  have e : (!(a == b)) = decide (a ≠ b) := by rw [Bool.eq_iff_iff]; simp
  rw [e]; rfl
 simp only [execOp, hρ _ _ hx, hρ _ _ hy, Sem.run_bind, hg, Result.andThen_ok, hb]
 rfl
theorem Qa.indexAddr {t e : TypeId} {x y : Operand} {k : IntKind} {i : Int} {b o n c : Nat} {ag : Bool} {s by_ : Nat} {z : Option Value} (ht : P.underlying t = some (.slice e)) (he : QT P e = some (ag, s, z, by_)) (hx : ev l x = some (.slice (some ⟨b, o, none⟩) n c)) (hy : ev l y = some (.int k i)) (h0 : 0 ≤ i) (h1 : i < n) :
  Qa P l (.indexAddr t x y) ty w (.pointer (some ⟨b, o + i.toNat * s, none⟩)) w := by
 intro ρ hρ d pos af g
 simp only [execOp, Instr.indexAt, hρ _ _ hx, hρ _ _ hy, asIntOf, Sem.run_bind, Sem.run_pure, Result.andThen_ok, run_underlying ht, h0, h1, and_self, if_true, QV he, J2]
theorem Vl {t e : TypeId} {x y : Operand} {k : IntKind} {i : Int} {b o n : Nat} {ag : Bool} {s by_ : Nat} {z : Option Value} (ht : P.underlying t = some (.array n e)) (he : QT P e = some (ag, s, z, by_)) (hx : ev l x = some (.pointer (some ⟨b, o, none⟩))) (hy : ev l y = some (.int k i)) (h0 : 0 ≤ i) (h1 : i < n) :
  Qa P l (.indexAddr t x y) ty w (.pointer (some ⟨b, o + i.toNat * s, none⟩)) w := by
 intro ρ hρ d pos af g
 simp only [execOp, Instr.indexAt, hρ _ _ hx, hρ _ _ hy, asIntOf, Instr.sureAddr, Sem.run_bind, Sem.run_pure, Result.andThen_ok, run_underlying ht, h0, h1, and_self, if_true, QV he, J2]
theorem Ui (w : World) : ∀ {fs : List Field} {places : List (Nat × Nat)}, fs.map (fun f => (f.offset, (QT P f.type).map (·.2.1))) = places.map (fun p => (p.1, some p.2)) → (fs.mapM (fun f => do pure (f.offset, ← sizeOf f.type) : Field → Sem (Nat × Nat))).run P w = .ok places w
 | [], places, h => by
  cases places with
  | nil => rfl
  | cons _ _ => simp at h
 | f :: r, places, h => by
  cases places with
  | nil => simp at h
  | cons p places =>
   simp only [List.map_cons, List.cons.injEq, Prod.mk.injEq, Option.map_eq_some_iff] at h
   obtain ⟨⟨h1, ⟨ag, n, z, by_⟩, h2, h3⟩, h4⟩ := h
   obtain ⟨p1, p2⟩ := p
   simp only at h1 h3
   subst h1; subst h3
   simp only [List.mapM_cons, Sem.run_bind, QV h2, Result.andThen_ok, Sem.run_pure, Ui w h4]
theorem Qa.build {t : TypeId} {parts : Array (Nat × Operand)} (pv : List (Nat × Value)) {fs : Array Field} (places : List (Nat × Nat)) {ag : Bool} {n by_ : Nat} {z : Value} (cs : List Value) (ht : P.underlying t = some (.struct fs)) (hz : QT P t = some (ag, n, some z, by_))
  (hpl : fs.toList.map (fun f => (f.offset, (QT P f.type).map (·.2.1))) = places.map (fun p => (p.1, some p.2))) (hp : parts.toList.map (fun p => (p.1, ev l p.2)) = pv.map (fun p => (p.1, some p.2))) (hc : Instr.fill (places.toArray[·]?) z.cells pv = some cs.toArray) : Qa P l (.build t parts) ty w (.agg cs.toArray) w := by
 intro ρ hρ d pos af g
 have hpv : (parts.map fun (i, x) => (i, ρ x)).toList = pv := by
  rw [Array.toList_map]
  clear hc hpl
  generalize parts.toList = L at hp
  induction L generalizing pv with
  | nil => cases pv with
   | nil => rfl
   | cons _ _ => simp at hp
  | cons q r ih => cases pv with
   | nil => simp at hp
   | cons p pv =>
    simp only [List.map_cons, List.cons.injEq, Prod.mk.injEq] at hp
    rw [List.map_cons, ih _ hp.2]
    obtain ⟨p1, p2⟩ := p
    simp only at hp
    simp [hp.1.1, hρ _ _ hp.1.2]
 have hm : (fs.mapM (fun f => do pure (f.offset, ← sizeOf f.type) : Field → Sem (Nat × Nat))).run P w = .ok places.toArray w := by
  obtain ⟨fl⟩ := fs
  have h := Ui (P := P) w hpl
  rw [List.mapM_toArray]
  have e : ∀ F : Field → Sem (Nat × Nat), (List.toArray <$> (fl.mapM F)) = (fl.mapM F >>= fun x => pure x.toArray) := fun _ => rfl
  rw [e, Sem.run_bind, h]
  rfl
 simp only [execOp, Instr.build, Sem.run_bind, Xg hz, run_underlying ht, Result.andThen_ok, hm, hpv, hc]
 rfl
end
end Go.Proofs.Ytgfomedobfaidaa
end
section
set_option linter.unusedVariables false
set_option linter.unusedSimpArgs false
namespace Go.Proofs.Ytgfomedobfaidaa
open Go.RowKit
section
variable {ds : List Deferred} {P : Program} {N : Nat} {ops : Array Oper} {Q : Exit → Act → World → Prop}
def K4 (ops : Array Oper) (m : Nat) (l : List (Nat × Value)) : Bool :=
  ((List.range ops.size).all fun j => match ops[j]? with
    | some o => (o.after.all fun e => !Region.binds .any e || Nat.blt e.on j) &&
      (if j < m then (match o.dst with | some d => (lk l d).isNone && ((List.range m).all fun k => Nat.beq k j || (match ops[k]? with | some o' => o'.dst != some d | none => true)) | none => true)
       else if j = m then (List.range m).all fun k => o.after.any fun e => Region.binds .any e && Nat.beq e.on k
       else o.after.any fun e => Region.binds .any e && Nat.beq e.on (j - 1))
    | none => false) && Nat.ble m ops.size
structure BodyOk (ops : Array Oper) (m : Nat) (l : List (Nat × Value)) : Prop where
 le : m ≤ ops.size
 back : ∀ (j : Nat) (o : Oper), ops[j]? = some o → ∀ e ∈ o.after, Region.binds .any e = true → e.on < j
 fresh : ∀ (j : Nat) (o : Oper) (d : Nat), j < m → ops[j]? = some o → o.dst = some d → lk l d = none
 once : ∀ (j k : Nat) (o o' : Oper) (d : Nat), j < m → k < m → j ≠ k → ops[j]? = some o → ops[k]? = some o' → o.dst = some d → o'.dst ≠ some d
 atM : ∀ o, ops[m]? = some o → ∀ k, k < m → ∃ e ∈ o.after, Region.binds .any e = true ∧ e.on = k
 chain : ∀ (j : Nat) (o : Oper), m < j → ops[j]? = some o → ∃ e ∈ o.after, Region.binds .any e = true ∧ e.on = j - 1
theorem K3 {m : Nat} {l : List (Nat × Value)} (h : K4 ops m l = true) : BodyOk ops m l := by
  unfold K4 at h
  rw [Bool.and_eq_true, List.all_eq_true] at h
  obtain ⟨h, hm⟩ := h
  have hle : m ≤ ops.size := lB9 hm
  have key : ∀ (j : Nat) (o : Oper), ops[j]? = some o → (o.after.all fun e => !Region.binds .any e || Nat.blt e.on j) = true ∧
      (if j < m then (match o.dst with | some d => (lk l d).isNone && ((List.range m).all fun k => Nat.beq k j || (match ops[k]? with | some o' => o'.dst != some d | none => true)) | none => true)
       else if j = m then (List.range m).all fun k => o.after.any fun e => Region.binds .any e && Nat.beq e.on k
       else o.after.any fun e => Region.binds .any e && Nat.beq e.on (j - 1)) = true := by
    intro j o ho
    have hj : j < ops.size := (Array.getElem?_eq_some_iff.1 ho).1
    have := h j (List.mem_range.2 hj)
    simp only [ho, Bool.and_eq_true] at this
    exact this
  refine ⟨hle, ?_, ?_, ?_, ?_, ?_⟩
  · intro j o ho e he hb
    have := (Array.all_eq_true_iff_forall_mem.1 (key j o ho).1) e he
    simp only [hb, Bool.not_true, Bool.false_or] at this
    exact Nat.lt_of_not_le fun hle => by simp [Nat.blt] at this; omega
  · intro j o d hj ho hd
    have := (key j o ho).2
    rw [if_pos hj] at this
    simp only [hd, Bool.and_eq_true] at this
    simpa using this.1
  · intro j k o o' d hj hk hne ho ho' hd
    have := (key j o ho).2
    rw [if_pos hj] at this
    simp only [hd, Bool.and_eq_true, List.all_eq_true] at this
    have := this.2 k (List.mem_range.2 hk)
    simp only [ho', Bool.or_eq_true] at this
    rcases this with h1 | h1
    · exact absurd (Nat.eq_of_beq_eq_true h1).symm hne
    · simpa using h1
  · intro o ho k hk
    have := (key m o ho).2
    rw [if_neg (by omega), if_pos rfl, List.all_eq_true] at this
    have := this k (List.mem_range.2 hk)
    rw [← Array.any_toList, List.any_eq_true] at this
    obtain ⟨e, he, h1⟩ := this
    replace he := Array.mem_toList_iff.1 he
    rw [Bool.and_eq_true] at h1
    exact ⟨e, he, h1.1, Nat.eq_of_beq_eq_true h1.2⟩
  · intro j o hj ho
    have := (key j o ho).2
    rw [if_neg (by omega), if_neg (by omega)] at this
    rw [← Array.any_toList, List.any_eq_true] at this
    obtain ⟨e, he, h1⟩ := this
    replace he := Array.mem_toList_iff.1 he
    rw [Bool.and_eq_true] at h1
    exact ⟨e, he, h1.1, Nat.eq_of_beq_eq_true h1.2⟩
def Z3 (ops : Array Oper) (i : Nat) : Option Nat := (ops[i]?).bind (·.dst)
def Zc (ops : Array Oper) (i j : Nat) : Bool := match ops[i]? with
 | some o => o.after.toList.any fun e => Region.binds .any e && Nat.beq e.on j
 | none => false
def QdP (ops : Array Oper) (Φ : Nat → VP) (i : Nat) (lab : Lab) (w : World) (a : Act) : Prop :=
 ∀ d, Z3 ops i = some d → ∃ v, a.tmps[d]? = some v ∧ Φ i lab w v
def QkK (ops : Array Oper) (Φ : Nat → VP) (i : Nat) (lab : Lab) (w : World) : Prop := Z3 ops i = none → ∃ v, Φ i lab w v
def KA (ds : List Deferred) (P : Program) (N : Nat) (ops : Array Oper) (Q : Exit → Act → World → Prop) (l : List (Nat × Value)) (Xl : Lab) (w0 : World) (Φ : Nat → VP) (T U : List Nat) (i : Nat) : Prop :=
 ∀ lab w a, Ql lab w → Stp T Xl w0 lab w → Fr ds N l a → (∀ j, Zc ops i j = true → QdP ops Φ j lab w a) →
  wpOp P ops Q i (fun a' w' => ∃ lab' v, (∀ o, ops[i]? = some o → a' = a.put o.dst v) ∧ (∀ d, Z3 ops i = some d → d < N) ∧ Ql lab' w' ∧ Stp U lab w lab' w' ∧ Φ i lab' w' v) a w
theorem Jm {l : Array Bool} {i j : Nat} (hi : i < l.size) : (l.setIfInBounds i true).getD j false = true ↔ (j = i ∨ l.getD j false = true) := by
 by_cases h : i = j
 ·subst h; simp [hi]
 ·have e : (l.setIfInBounds i true).getD j false = l.getD j false := by simp [Array.getElem?_setIfInBounds_ne h]
  rw [e]
  exact ⟨fun x => .inr x, fun x => x.resolve_left (fun e => h e.symm)⟩
theorem Vn {m : Nat} {l : List (Nat × Value)} (hok : BodyOk ops m l) : ∀ (fuel p : Nat) (listed : Array Bool) (a : Act) (w : World), m ≤ p → p ≤ ops.size → fuel + p = ops.size → listed.size = ops.size →
  (∀ k, listed.getD k false = true ↔ k < p) → wpList P ops Q (ops.toList.drop p) a w → wpAny P .any ops Q fuel listed a w
 | 0, p, listed, a, w, hm, hp, hf, hs, hl, h => by
  have hpn : p = ops.size := by omega
  subst hpn
  have hr : Region.ready .any ops listed = [] := List.eq_nil_iff_forall_not_mem.2 fun j hj => by
   obtain ⟨h0, o, ho, _⟩ := mem_ready.1 hj
   have hj' : j < ops.size := (Array.getElem?_eq_some_iff.1 ho).1
   have h1 := (hl j).2 hj'
   simp [show j < listed.size by omega] at h0 h1
   rw [h0] at h1; cases h1
  refine ⟨hr, ?_⟩
  rw [List.drop_of_length_le (by simp)] at h
  exact h
 | fuel + 1, p, listed, a, w, hm, hp, hf, hs, hl, h => by
  have hpn : p < ops.size := by omega
  have hop : ops[p]? = some ops[p] := Array.getElem?_eq_getElem hpn
  have hready : p ∈ Region.ready .any ops listed := by
   rw [mem_ready]
   refine ⟨?_, ops[p], hop, fun e he hb => (hl _).2 (hok.back p _ hop e he hb)⟩
   have h1 : ¬ listed.getD p false = true := fun e => Nat.lt_irrefl p ((hl p).1 e)
   simpa [show p < listed.size by omega] using h1
  refine ⟨fun h0 => (by rw [h0] at hready; cases hready), fun i hi => ?_⟩
  obtain ⟨hi0, o, ho, hall⟩ := mem_ready.1 hi
  have hilt : i < ops.size := (Array.getElem?_eq_some_iff.1 ho).1
  have hip : i = p := by
   have h1 : ¬ i < p := fun h => by
    have := (hl i).2 h
    simp [show i < listed.size by omega] at hi0 this
    rw [hi0] at this; cases this
   by_cases h2 : i = p
   ·exact h2
   ·exfalso
    by_cases him : m < i
    ·obtain ⟨e, he, hb, hon⟩ := hok.chain i o him ho
     have := (hl _).1 (hall e he hb)
     omega
    ·omega
  subst hip
  have hoe : o = ops[i] := by rw [hop] at ho; exact (Option.some.inj ho).symm
  have hdrop : ops.toList.drop i = ops[i] :: ops.toList.drop (i + 1) := by
   rw [List.drop_eq_getElem_cons (by simpa using hpn)]; simp
  rw [hdrop] at h
  unfold wpOp
  rw [hop]
  unfold wpList at h
  have next : ∀ a w, wpList P ops Q (ops.toList.drop (i + 1)) a w → wpAny P .any ops Q fuel (listed.setIfInBounds i true) a w := fun a w h' =>
   Vn hok fuel (i + 1) _ a w (by omega) (by omega) (by omega) (by simp [hs]) (fun k => by rw [Jm (by omega), hl]; omega) h'
  dsimp only
  split
  ·rename_i hw
   rw [if_pos hw] at h
   exact h.imp (Oper.wp_mono next) id
  ·rename_i hw
   rw [if_neg hw] at h
   exact next _ _ h
theorem QcZ {m : Nat} {l : List (Nat × Value)} (hok : BodyOk ops m l) {Xl : Lab} {w0 : World} {Φ : Nat → VP} {T : List Nat} {z : Nat}
  (hΦ : ∀ i, i < m → ∀ {lab w lab' w' v}, Stp [] lab w lab' w' → Φ i lab w v → Φ i lab' w' v) (hΦT : ∀ i, i < m → i ≠ z → ∀ {lab w lab' w' v}, Stp T lab w lab' w' → Φ i lab w v → Φ i lab' w' v)
  (hlaw : ∀ i, i < m → i ≠ z → KA ds P N ops Q l Xl w0 Φ T [] i) (hlawz : z < m → KA ds P N ops Q l Xl w0 Φ [] T z)
  (htail : ∀ lab w a, Ql lab w → Stp T Xl w0 lab w → Fr ds N l a → (∀ i, i < m → QdP ops Φ i lab w a) → (∀ i, i < m → QkK ops Φ i lab w) → wpList P ops Q (ops.toList.drop m) a w) :
  ∀ (fuel c : Nat) (listed : Array Bool) (lab : Lab) (a : Act) (w : World), listed.size = ops.size → c ≤ m → c + fuel = ops.size → ((List.range m).filter fun k => listed.getD k false).length = c → (∀ k, listed.getD k false = true → k < m) →
   Ql lab w → Stp T Xl w0 lab w → (listed.getD z false = false → Stp [] Xl w0 lab w) → Fr ds N l a → (∀ i, i < m → listed.getD i false = true → QdP ops Φ i lab w a) → (∀ i, i < m → listed.getD i false = true → QkK ops Φ i lab w) → wpAny P .any ops Q fuel listed a w := by
 intro fuel
 induction fuel with
 | zero =>
  intro c listed lab a w hs hc hf hcnt hlm hv hst hst0 hfr hleft hleftU
  have hmn : m = ops.size := by have := hok.le; omega
  have hall : ∀ k, k < m → listed.getD k false = true := by
   intro k hk
   have hlen : ((List.range m).filter fun k => listed.getD k false).length = (List.range m).length := by simp; simp at hcnt; omega
   have := List.length_filter_eq_length_iff.1 hlen k (List.mem_range.2 hk)
   simpa using this
  exact Vn hok 0 m listed a w (Nat.le_refl _) hok.le (by omega) hs (fun k => ⟨hlm k, hall k⟩) (htail lab w a hv hst hfr (fun i hi => hleft i hi (hall i hi)) (fun i hi => hleftU i hi (hall i hi)))
 | succ fuel ih =>
  intro c listed lab a w hs hc hf hcnt hlm hv hst hst0 hfr hleft hleftU
  by_cases hall : ∀ k, k < m → listed.getD k false = true
  ·have hcm : c = m := by
    rw [← hcnt, List.filter_eq_self.2 (fun k hk => by simpa using hall k (List.mem_range.1 hk))]; simp
   exact Vn hok (fuel + 1) m listed a w (Nat.le_refl _) hok.le (by omega) hs (fun k => ⟨hlm k, hall k⟩) (htail lab w a hv hst hfr (fun i hi => hleft i hi (hall i hi)) (fun i hi => hleftU i hi (hall i hi)))
  ·have hex : ∃ k, k < m ∧ ¬ listed.getD k false = true := by
    refine Classical.byContradiction fun hno => hall fun k hk => Classical.byContradiction fun hk' => hno ⟨k, hk, hk'⟩
   obtain ⟨k0, ⟨hk0, hk0'⟩, hmin⟩ := exists_least hex
   have hk0s : k0 < ops.size := Nat.lt_of_lt_of_le hk0 hok.le
   have hready : k0 ∈ Region.ready .any ops listed := by
    rw [mem_ready]
    refine ⟨by simpa [show k0 < listed.size by omega] using hk0', ops[k0], Array.getElem?_eq_getElem hk0s, fun e he hb => ?_⟩
    have hlt := hok.back k0 _ (Array.getElem?_eq_getElem hk0s) e he hb
    refine Classical.byContradiction fun hno => ?_
    have := hmin e.on ⟨by omega, hno⟩
    omega
   refine ⟨fun h0 => (by rw [h0] at hready; cases hready), fun i hi => ?_⟩
   obtain ⟨hi0, o, ho, hwait⟩ := mem_ready.1 hi
   have his : i < ops.size := (Array.getElem?_eq_some_iff.1 ho).1
   have him : i < m := by
    refine Classical.byContradiction fun hge => ?_
    have hchain : ∀ d j, j = m + d → ∀ oj, ops[j]? = some oj → (∀ e ∈ oj.after, Region.binds .any e = true → listed.getD e.on false = true) → listed.getD k0 false = true := by
     intro d
     induction d with
     | zero =>
      intro j hj oj hoj hw
      subst hj
      obtain ⟨e, he, hb, hon⟩ := hok.atM oj hoj k0 hk0
      rw [← hon]; exact hw e he hb
     | succ d ihd =>
      intro j hj oj hoj hw
      obtain ⟨e, he, hb, hon⟩ := hok.chain j oj (by omega) hoj
      have h1 := hlm _ (hw e he hb)
      omega
    exact hk0' (hchain (i - m) i (by omega) o ho hwait)
   have hi0' : listed.getD i false = false := by simpa [show i < listed.size by omega] using hi0
   have hwaits : ∀ j, Zc ops i j = true → QdP ops Φ j lab w a := fun j hj => by
    unfold Zc at hj
    simp only [ho] at hj
    rw [List.any_eq_true] at hj
    obtain ⟨e, he, h1⟩ := hj
    rw [Bool.and_eq_true] at h1
    have hej := Nat.eq_of_beq_eq_true h1.2
    subst hej
    replace he := Array.mem_toList_iff.1 he
    exact hleft e.on (Nat.lt_trans (hok.back i o ho e he h1.1) him) (hwait e he h1.1)
   have hthis : wpOp P ops Q i (fun a' w' => ∃ lab' v, (∀ o, ops[i]? = some o → a' = a.put o.dst v) ∧ (∀ d, Z3 ops i = some d → d < N) ∧ Ql lab' w' ∧ (Stp T Xl w0 lab' w' ∧ (i ≠ z → Stp [] lab w lab' w') ∧ (i = z → Stp T lab w lab' w')) ∧ Φ i lab' w' v) a w := by
    by_cases hiz : i = z
    ·subst hiz
     refine wpOp_mono ?_ (hlawz him lab w a hv (hst0 hi0') hfr hwaits)
     rintro a' w' ⟨lab', v, h1, h2, h3, h4, h5⟩
     exact ⟨lab', v, h1, h2, h3, ⟨(hst0 hi0').trans h4, fun e => absurd rfl e, fun _ => h4⟩, h5⟩
    ·refine wpOp_mono ?_ (hlaw i him hiz lab w a hv hst hfr hwaits)
     rintro a' w' ⟨lab', v, h1, h2, h3, h4, h5⟩
     exact ⟨lab', v, h1, h2, h3, ⟨(hst.trans h4).more (by simp), fun _ => h4, fun e => absurd e hiz⟩, h5⟩
   refine wpOp_mono ?_ hthis
   rintro a' w' ⟨lab', v, hput, hdN, hv', ⟨hst', hstn, hstz⟩, hphi⟩
   obtain rfl := hput o ho
   replace hdN : ∀ d, o.dst = some d → d < N := fun d hd => hdN d (by simp [Z3, ho, hd])
   have hfr' : Fr ds N l (a.put o.dst v) := by
    cases hd : o.dst with
    | none => exact hfr
    | some d =>
     refine ⟨hfr.defers, by simp [Act.put, hfr.size], fun t u hu => ?_⟩
     have hne : d ≠ t := fun e => by subst e; rw [hok.fresh i o d him ho hd] at hu; cases hu
     simp only [Act.put, Array.getElem?_setIfInBounds_ne hne]
     exact hfr.at_ t u hu
   refine ih (c + 1) _ lab' _ w' (by simp [hs]) ?_ (by omega) ?_ (fun k hk => by rw [Jm (by omega)] at hk; rcases hk with rfl | hk; exact him; exact hlm k hk) hv' hst' (fun hz => by
    have hzi : i ≠ z := fun e => by subst e; have := (Jm (l := listed) (i := i) (j := i) (by omega)).2 (.inl rfl); rw [hz] at this; cases this
    have hz0 : listed.getD z false = false := by
     cases hq : listed.getD z false with
     | false => rfl
     | true => have := (Jm (l := listed) (i := i) (j := z) (by omega)).2 (.inr hq); rw [hz] at this; cases this
    exact (hst0 hz0).trans (hstn hzi)) hfr' ?_ ?_
   ·
    have : ((List.range m).filter fun k => listed.getD k false).length < (List.range m).length := by
     refine Nat.lt_of_le_of_ne (List.length_filter_le _ _) fun e => ?_
     have := List.length_filter_eq_length_iff.1 e k0 (List.mem_range.2 hk0)
     exact hk0' (by simpa using this)
    rw [hcnt] at this; simp at this; omega
   ·have hcount : ∀ n, n ≤ m → ((List.range n).filter fun k => (listed.setIfInBounds i true).getD k false).length = ((List.range n).filter fun k => listed.getD k false).length + (if i < n then 1 else 0) := by
     intro n
     induction n with
     | zero => intro _; simp
     | succ n ihn =>
      intro hn
      rw [List.range_succ, List.filter_append, List.filter_append, List.length_append, List.length_append, ihn (by omega)]
      have h1 : (listed.setIfInBounds i true).getD n false = (if n = i then true else listed.getD n false) := by
       rw [Bool.eq_iff_iff, Jm (by omega)]
       split <;> simp_all
      by_cases hni : n = i
      ·subst hni
       simp only [List.filter_cons, h1, if_true, hi0', List.filter_nil, Bool.false_eq_true, if_false, List.length_cons, List.length_nil]
       rw [if_neg (by omega), if_pos (by omega)]
      ·rw [List.filter_cons, List.filter_cons, h1, if_neg hni]
       have h2 : (if i < n + 1 then 1 else 0) = (if i < n then 1 else 0) := by split <;> split <;> omega
       rw [h2]
       split <;> simp <;> omega
    rw [hcount m (Nat.le_refl _), if_pos him, hcnt]
   ·intro j hj hlj
    rw [Jm (by omega)] at hlj
    intro d hjd
    obtain ⟨oj, hoj, hd⟩ : ∃ oj, ops[j]? = some oj ∧ oj.dst = some d := by
     unfold Z3 at hjd
     cases hq : ops[j]? with
     | none => simp [hq] at hjd
     | some oj => exact ⟨oj, rfl, by simpa [hq] using hjd⟩
    by_cases hji : j = i
    ·subst hji
     rw [ho] at hoj
     cases hoj
     refine ⟨v, ?_, hphi⟩
     simp [hd, Act.put, hfr.size, hdN d hd]
    ·obtain ⟨u, hu, hphij⟩ := hleft j hj (hlj.resolve_left hji) d hjd
     refine ⟨u, ?_, (if hjz : i = z then hΦT j hj (fun e => hji (e.trans hjz.symm)) (hstz hjz) hphij else hΦ j hj (hstn hjz) hphij)⟩
     cases hdi : o.dst with
     | none => exact hu
     | some di =>
      have hne : di ≠ d := fun e => hok.once j i oj o d hj him hji hoj ho hd (by rw [hdi, e])
      simp only [Act.put, Array.getElem?_setIfInBounds_ne hne]
      exact hu
   ·intro j hj hlj hjn
    rw [Jm (by omega)] at hlj
    by_cases hji : j = i
    ·subst hji; exact ⟨v, hphi⟩
    ·obtain ⟨u, hu⟩ := hleftU j hj (hlj.resolve_left hji) hjn
     exact ⟨u, if hjz : i = z then hΦT j hj (fun e => hji (e.trans hjz.symm)) (hstz hjz) hu else hΦ j hj (hstn hjz) hu⟩
theorem QfY {m : Nat} {l : List (Nat × Value)} {lab : Lab} {w : World} (hok : K4 ops m l = true) (hv : Ql lab w) (Φ : Nat → VP)
  (hΦ : ∀ i, i < m → ∀ {lab w lab' w' v}, Stp [] lab w lab' w' → Φ i lab w v → Φ i lab' w' v)
  (hlaw : ∀ w0, Stp [] lab w lab w0 → ∀ i, i < m → KA ds P N ops Q l lab w0 Φ [] [] i)
  (htail : ∀ lab' w' a, Ql lab' w' → Stp [] lab w lab' w' → Fr ds N l a → (∀ i, i < m → QdP ops Φ i lab' w' a) → wpList P ops Q (ops.toList.drop m) a w') : ∀ a, Fr ds N l a → wpAny P .any ops Q ops.size (Array.replicate ops.size false) a { w with drawn := w.drawn + 1 } := by
 intro a ha
 have h0 : ∀ k, (Array.replicate ops.size false).getD k false = false := fun k => by
  simp [Array.getElem?_replicate]
  split <;> simp
 have hst : Stp [] lab w lab { w with drawn := w.drawn + 1 } := Stp.drew lab w
 refine QcZ (T := []) (z := ops.size) (K3 hok) hΦ (fun i hi _ => hΦ i hi) (fun i hi _ => hlaw _ hst i hi) (fun hz => absurd (K3 hok).le (by omega)) (fun lab' w' a hv' hs' hf' hl' _ => htail lab' w' a hv' (hst.trans hs') hf' hl') ops.size 0 _ lab a _ (by simp) (Nat.zero_le _) (by omega) ?_ (fun k hk => by rw [h0] at hk; cases hk) (hv.below (Nat.le_refl _)) (Stp.refl _ _) (fun _ => Stp.refl _ _) ha (fun i _ hi => by rw [h0] at hi; cases hi) (fun i _ hi => by rw [h0] at hi; cases hi)
 simp [h0]
theorem Run.any {id m : Nat} {l : List (Nat × Value)} {lab : Lab} {w : World} (hm : P.follows .mixedOrders = true) (hok : K4 ops m l = true) (hv : Ql lab w) (Φ : Nat → VP)
  (hΦ : ∀ i, i < m → ∀ {lab w lab' w' v}, Stp [] lab w lab' w' → Φ i lab w v → Φ i lab' w' v)
  (hlaw : ∀ w0, Stp [] lab w lab w0 → ∀ i, i < m → KA ds P N ops Q l lab w0 Φ [] [] i)
  (htail : ∀ lab' w' a, Ql lab' w' → Stp [] lab w lab' w' → Fr ds N l a → (∀ i, i < m → QdP ops Φ i lab' w' a) → wpList P ops Q (ops.toList.drop m) a w') : Run ds P N Q (.region id ops true) l w := fun a ha => wp_region_any hm (QfY hok hv Φ hΦ hlaw htail a ha)
def Is (u : Value) : VP := fun _ _ v => v = u
theorem JH (u : Value) : Pers (Is u) := ⟨fun _ h => h⟩
def phi (L : List VP) (i : Nat) : VP := L.getD i (fun _ _ _ => True)
structure Pers0 (V : VP) : Prop where
 step : ∀ {lab : Lab} {w : World} {lab' : Lab} {w' : World} {v : Value}, Stp [] lab w lab' w' → V lab w v → V lab' w' v
theorem Pers.z {V : VP} (h : Pers V) : Pers0 V := ⟨fun s hv => h.step s hv⟩
def QkI : List VP → Prop
 | [] => True
 | V :: r => Pers0 V ∧ QkI r
theorem UR : ∀ {L : List VP}, QkI L → ∀ i, i < L.length → ∀ {lab w lab' w' v}, Stp [] lab w lab' w' → phi L i lab w v → phi L i lab' w' v
 | [], _, i, hi => absurd hi (by simp)
 | V :: r, h, 0, _ => fun s hv => h.1.step s hv
 | V :: r, h, i + 1, hi => fun s hv => UR (L := r) h.2 i (by simpa using hi) s hv
def Yw (p : Nat → Prop) : Nat → Nat → Prop
 | _, 0 => True
 | i, n + 1 => p i ∧ Yw p (i + 1) n
theorem QcA {p : Nat → Prop} : ∀ (n k : Nat), Yw p k n → ∀ i, k ≤ i → i < k + n → p i
 | 0, k, _, i, h1, h2 => absurd h2 (by omega)
 | n + 1, k, h, i, h1, h2 => by
  by_cases e : i = k
  ·subst e; exact h.1
  ·exact QcA n (k + 1) h.2 i (by omega) (by omega)
theorem QkT {p : Nat → Prop} {n : Nat} (h : Yw p 0 n) : ∀ i, i < n → p i := fun i hi => QcA n 0 h i (Nat.zero_le _) (by omega)
theorem Fr.ext {l : List (Nat × Value)} {a : Act} {d : Nat} {v : Value} (h : Fr ds N l a) (hv : a.tmps[d]? = some v) : Fr ds N ((d, v) :: l) a :=
 ⟨h.defers, h.size, fun t u hu => by
  simp only [lk] at hu
  cases hb : Nat.beq d t with
  | true =>
   have : d = t := Nat.eq_of_beq_eq_true hb
   subst this
   simp [hb] at hu
   subst hu
   exact hv
  | false => simp [hb] at hu; exact h.at_ _ _ hu⟩
theorem J4 {l : List (Nat × Value)} {Xl : Lab} {w0 : World} {Φ : Nat → VP} {T U : List Nat} {i d : Nat} {op : Op} {ty : TypeId} {pos : String} {af : Array Edge} (ho : ops[i]? = some ⟨some d, op, ty, pos, af, none⟩) (hd : d < N)
  (h : ∀ lab w a, Ql lab w → Stp T Xl w0 lab w → Fr ds N l a → (∀ j, Zc ops i j = true → QdP ops Φ j lab w a) → ∃ l' v lab' w', Fr ds N l' a ∧ Qa P l' op ty w v w' ∧ Ql lab' w' ∧ Stp U lab w lab' w' ∧ Φ i lab' w' v) : KA ds P N ops Q l Xl w0 Φ T U i := by
 intro lab w a hv hs hf hl
 obtain ⟨l', v, lab', w', hf', hdo, hv', hs', hphi⟩ := h lab w a hv hs hf hl
 unfold wpOp
 simp only [ho]
 rw [if_pos (by simp [Region.wanted])]
 refine .inl ?_
 unfold Oper.wp
 rw [hdo a.eval (fun x u hu => hf'.eval hu)]
 exact ⟨lab', v, fun o h => by cases h; rfl, fun d' h => by simp [Z3, ho] at h; subst h; exact hd, hv', hs', hphi⟩
theorem Qd1 {l : List (Nat × Value)} {Xl : Lab} {w0 : World} {Φ : Nat → VP} {T U : List Nat} {i d : Nat} {op : Op} {ty : TypeId} {pos : String} {af : Array Edge} {g dg : Nat} {b : Bool} (ho : ops[i]? = some ⟨some d, op, ty, pos, af, some (g, b)⟩) (hd : d < N) (hg : Z3 ops g = some dg) (hw : Zc ops i g = true) (hb : ∀ lab w v, Φ g lab w v → v = .bool b)
  (h : ∀ lab w a, Ql lab w → Stp T Xl w0 lab w → Fr ds N l a → (∀ j, Zc ops i j = true → QdP ops Φ j lab w a) → ∃ l' v lab' w', Fr ds N l' a ∧ Qa P l' op ty w v w' ∧ Ql lab' w' ∧ Stp U lab w lab' w' ∧ Φ i lab' w' v) : KA ds P N ops Q l Xl w0 Φ T U i := by
 intro lab w a hv hs hf hl
 obtain ⟨l', v, lab', w', hf', hdo, hv', hs', hphi⟩ := h lab w a hv hs hf hl
 obtain ⟨vg, hvg, hpg⟩ := hl g hw dg hg
 have hvb := hb _ _ _ hpg
 subst hvb
 have hy : yielded ops a.tmps g = some b := by simp only [yielded]; unfold Z3 at hg; simp [hg, hvg]
 unfold wpOp
 simp only [ho]
 rw [if_pos (by simp [Region.wanted, hy])]
 refine .inl ?_
 unfold Oper.wp
 rw [hdo a.eval (fun x u hu => hf'.eval hu)]
 exact ⟨lab', v, fun o h => by cases h; rfl, fun d' h => by simp [Z3, ho] at h; subst h; exact hd, hv', hs', hphi⟩
theorem QiM {l : List (Nat × Value)} {Xl : Lab} {w0 : World} {Φ : Nat → VP} {T : List Nat} {i d : Nat} {op : Op} {ty : TypeId} {pos : String} {af : Array Edge} {g dg : Nat} {b c : Bool} (ho : ops[i]? = some ⟨some d, op, ty, pos, af, some (g, c)⟩) (hd : d < N) (hg : Z3 ops g = some dg) (hw : Zc ops i g = true) (hb : ∀ lab w v, Φ g lab w v → v = .bool b) (hne : (b == c) = false) (hphi : ∀ lab w, Φ i lab w undef) : KA ds P N ops Q l Xl w0 Φ T [] i := by
 intro lab w a hv hs hf hl
 obtain ⟨vg, hvg, hpg⟩ := hl g hw dg hg
 have hvb := hb _ _ _ hpg
 subst hvb
 have hy : yielded ops a.tmps g = some b := by simp only [yielded]; unfold Z3 at hg; simp [hg, hvg]
 unfold wpOp
 simp only [ho]
 rw [if_neg (by simp [Region.wanted, hy]; intro e; subst e; simp at hne)]
 exact ⟨lab, undef, fun o h => by cases h; rfl, fun d' h => by simp [Z3, ho] at h; subst h; exact hd, hv, Stp.refl _ _, hphi _ _⟩
theorem QcB {l : List (Nat × Value)} {Xl : Lab} {w0 : World} {Φ : Nat → VP} {T : List Nat} {i d : Nat} {f : Nat} {xs : List Operand} {tys : Array TypeId} {ty : TypeId} {pos : String} {af : Array Edge} (ho : ops[i]? = some ⟨some d, .call ⟨.value (.func f), xs.toArray, tys⟩, ty, pos, af, none⟩) (hd : d < N) (hfc : Qw P f)
  (h : ∀ lab w a, Ql lab w → Stp T Xl w0 lab w → Fr ds N l a → (∀ j, Zc ops i j = true → QdP ops Φ j lab w a) → ∃ l' vs, Fr ds N l' a ∧ evs l' xs = some vs ∧ Calls P f vs.toArray w (fun e w' => ∃ v, e = .returned v ∧ Φ i lab w' v ∧ Below w.heap.size w w')) : KA ds P N ops Q l Xl w0 Φ T [] i := by
 intro lab w a hv hs hf hl
 obtain ⟨l', vs, hf', hx, hc⟩ := h lab w a hv hs hf hl
 unfold wpOp
 simp only [ho]
 rw [if_pos (by simp [Region.wanted])]
 refine .inl ?_
 unfold Oper.wp
 rw [XS hfc hx w a.eval (fun x u hu => hf'.eval hu)]
 refine Calls.mono hc ?_
 rintro e w' ⟨v, rfl, hphi, hb⟩
 exact ⟨lab, v, fun o h => by cases h; rfl, fun d' h => by simp [Z3, ho] at h; subst h; exact hd, hv.below hb.size, Stp.below hb, hphi⟩
theorem QbI {l : List (Nat × Value)} {Xl : Lab} {w0 : World} {Φ : Nat → VP} {T : List Nat} {i d : Nat} {f : Nat} {xs : List Operand} {tys : Array TypeId} {ty : TypeId} {pos : String} {af : Array Edge} {g dg : Nat} {b : Bool} (ho : ops[i]? = some ⟨some d, .call ⟨.value (.func f), xs.toArray, tys⟩, ty, pos, af, some (g, b)⟩) (hd : d < N) (hg : Z3 ops g = some dg) (hw : Zc ops i g = true) (hb : ∀ lab w v, Φ g lab w v → v = .bool b) (hfc : Qw P f)
  (h : ∀ lab w a, Ql lab w → Stp T Xl w0 lab w → Fr ds N l a → (∀ j, Zc ops i j = true → QdP ops Φ j lab w a) → ∃ l' vs, Fr ds N l' a ∧ evs l' xs = some vs ∧ Calls P f vs.toArray w (fun e w' => ∃ v, e = .returned v ∧ Φ i lab w' v ∧ Below w.heap.size w w')) : KA ds P N ops Q l Xl w0 Φ T [] i := by
 intro lab w a hv hs hf hl
 obtain ⟨l', vs, hf', hx, hc⟩ := h lab w a hv hs hf hl
 obtain ⟨vg, hvg, hpg⟩ := hl g hw dg hg
 have hvb := hb _ _ _ hpg
 subst hvb
 have hy : yielded ops a.tmps g = some b := by simp only [yielded]; unfold Z3 at hg; simp [hg, hvg]
 unfold wpOp
 simp only [ho]
 rw [if_pos (by simp [Region.wanted, hy])]
 refine .inl ?_
 unfold Oper.wp
 rw [XS hfc hx w a.eval (fun x u hu => hf'.eval hu)]
 refine Calls.mono hc ?_
 rintro e w' ⟨v, rfl, hphi, hb⟩
 exact ⟨lab, v, fun o h => by cases h; rfl, fun d' h => by simp [Z3, ho] at h; subst h; exact hd, hv.below hb.size, Stp.below hb, hphi⟩
def Qjv (k : Nat) (t : TypeId) (cs : List Value) : VP := fun lab w v => ∃ b, v = .pointer (some ⟨b, 0, none⟩) ∧ Own lab w k b t cs.toArray
theorem Qgg (k : Nat) (t : TypeId) (cs : List Value) : Pers0 (Qjv k t cs) := ⟨fun s ⟨b, h1, h2⟩ => ⟨b, h1, h2.lift s (by simp)⟩⟩
def idx (k : Nat) : List Value → List (Nat × Value)
 | [] => []
 | v :: r => (k, v) :: idx (k + 1) r
theorem Qfb : ∀ (args : List Value) (k t : Nat) (v : Value), lk (idx k args) t = some v → k ≤ t ∧ args[t - k]? = some v
 | [], k, t, v, h => by simp [idx, lk] at h
 | u :: r, k, t, v, h => by
  simp only [idx, lk] at h
  cases hb : Nat.beq k t with
  | true =>
   have : k = t := Nat.eq_of_beq_eq_true hb
   subst this
   simp [hb] at h
   simp [h]
  | false =>
   simp [hb] at h
   have hne := Nat.ne_of_beq_eq_false hb
   obtain ⟨h1, h2⟩ := Qfb r (k + 1) t v h
   refine ⟨by omega, ?_⟩
   rw [show t - k = (t - (k + 1)) + 1 by omega]
   simpa using h2
theorem Qu {f : FuncId} {fn : Func} {c : Code} {args : List Value} {w : World} {R : Ending → World → Prop} (hf : P.funcs[f]? = some fn) (hb : fn.body = some c) (hn : fn.ntmps = N) (ha : args.length ≤ N)
  (h : Run [] P N (bodyPost P fn R) c (idx 0 args) w) : Calls P f args.toArray w R := by
 refine calls_of_wp hf hb (h _ ⟨rfl, ?_, fun t v ht => ?_⟩)
 ·simp [hn]; omega
 ·obtain ⟨_, h1⟩ := Qfb args 0 t v ht
  have hlt : t < args.length := (List.getElem?_eq_some_iff.1 h1).1
  show (args.toArray ++ Array.replicate _ undef)[t]? = some v
  rw [Array.getElem?_append_left (by simpa using hlt)]
  simpa using h1
def UM (P : Program) (l : List (Nat × Value)) (w : World) : ResultVar → Value → Prop
 | .tmp t, v => lk l t = some v
 | .cell t ty, v => ∃ a, lk l t = some (.pointer (some a)) ∧ (loadVar ty a).run P w = .ok v w
def QkS (tmps : Array Value) : ResultVar → Sem Value
 | .tmp t => pure (tmps.getD t undef)
 | .cell a t => do loadVar t (← asAddr (tmps.getD a undef))
theorem Y8 (fn : Func) (tmps : Array Value) : results fn tmps = (do let vs ← fn.results.mapM (QkS tmps); pure (if h : vs.size = 1 then vs[0] else .tuple vs)) := by
 unfold results
 congr 2
theorem Yd {l : List (Nat × Value)} {w : World} {a : Act} (ha : Fr ds N l a) {r : ResultVar} {v : Value} (h : UM P l w r v) : (QkS a.tmps r).run P w = .ok v w := by
 cases r with
 | tmp t => have := ha.at_ _ _ h; simp [QkS, this]
 | cell c t =>
  obtain ⟨ad, h1, h2⟩ := h
  have := ha.at_ _ _ h1
  simp [QkS, this, asAddr, h2]
theorem QgI {F : ResultVar → Sem Value} {w : World} {r : ResultVar} {v : Value} (h : (F r).run P w = .ok v w) : ((#[r] : Array ResultVar).mapM F).run P w = .ok #[v] w := by
 simp [List.mapM_toArray, h]
theorem Qc7 {F : ResultVar → Sem Value} {w : World} {r s : ResultVar} {v u : Value} (h : (F r).run P w = .ok v w) (h' : (F s).run P w = .ok u w) : ((#[r, s] : Array ResultVar).mapM F).run P w = .ok #[v, u] w := by
 simp [List.mapM_toArray, h, h']
theorem Qdy {F : ResultVar → Sem Value} {w : World} {r s q : ResultVar} {v u x : Value} (h : (F r).run P w = .ok v w) (h' : (F s).run P w = .ok u w) (h'' : (F q).run P w = .ok x w) : ((#[r, s, q] : Array ResultVar).mapM F).run P w = .ok #[v, u, x] w := by
 simp [List.mapM_toArray, h, h', h'']
theorem Qa5 {fn : Func} {R : Ending → World → Prop} {l : List (Nat × Value)} {w : World} (hr : fn.results = #[]) (hR : R (.returned (.tuple #[])) w) : ∀ a, Fr [] N l a → bodyPost P fn R .ret a w := by
 intro a ha
 exact bodyPost_ret (results_none hr _ _ _) ha.defers hR
theorem Qm {fn : Func} {R : Ending → World → Prop} {l : List (Nat × Value)} {w : World} {r : ResultVar} {v : Value} (hr : fn.results = #[r]) (h : UM P l w r v) (hR : R (.returned v) w) : ∀ a, Fr [] N l a → bodyPost P fn R .ret a w := by
 intro a ha
 refine bodyPost_ret (v := v) ?_ ha.defers hR
 rw [Y8, hr]
 simp only [Sem.run_bind, QgI (Yd ha h), Result.andThen_ok]
 rfl
theorem QP {fn : Func} {R : Ending → World → Prop} {l : List (Nat × Value)} {w : World} {r s : ResultVar} {v u : Value} (hr : fn.results = #[r, s]) (h : UM P l w r v) (h' : UM P l w s u) (hR : R (.returned (.tuple #[v, u])) w) : ∀ a, Fr [] N l a → bodyPost P fn R .ret a w := by
 intro a ha
 refine bodyPost_ret (v := .tuple #[v, u]) ?_ ha.defers hR
 rw [Y8, hr]
 simp only [Sem.run_bind, Qc7 (Yd ha h) (Yd ha h'), Result.andThen_ok]
 rfl
theorem Xv {fn : Func} {R : Ending → World → Prop} {l : List (Nat × Value)} {w : World} {r s q : ResultVar} {v u x : Value} (hr : fn.results = #[r, s, q]) (h : UM P l w r v) (h' : UM P l w s u) (h'' : UM P l w q x) (hR : R (.returned (.tuple #[v, u, x])) w) : ∀ a, Fr [] N l a → bodyPost P fn R .ret a w := by
 intro a ha
 refine bodyPost_ret (v := .tuple #[v, u, x]) ?_ ha.defers hR
 rw [Y8, hr]
 simp only [Sem.run_bind, Qdy (Yd ha h) (Yd ha h') (Yd ha h''), Result.andThen_ok]
 rfl
variable {l : List (Nat × Value)} {rest : List Oper} {w : World} {lab : Lab}
theorem Seq.box {d k : Nat} {t : TypeId} {x : Operand} {v : Value} (cs : List Value) {ty : TypeId} {pos : String} {af : Array Edge} (hv : Ql lab w) (hx : ev l x = some v) (hc : v.cells = cs.toArray) (hd : d < N)
  (h : ∀ lab' w' b, Own lab' w' k b t cs.toArray → Stp [] lab w lab' w' → Ql lab' w' → Seq ds P N ops Q ((d, .pointer (some ⟨b, 0, none⟩)) :: l) rest w') : Seq ds P N ops Q l (⟨some d, .box t x, ty, pos, af, none⟩ :: rest) w :=
 Seq.val (Qa.box hx) hd (h _ _ w.heap.size (by rw [hc]; exact Own.alloc lab w _ t k) (Stp.alloc _ k) (hv.alloc _ k))
theorem Seq.alloc {d k : Nat} {t : TypeId} {ag : Bool} {n by_ : Nat} {z : Value} (cs : List Value) {ty : TypeId} {pos : String} {af : Array Edge} (hv : Ql lab w) (ht : QT P t = some (ag, n, some z, by_)) (hc : z.cells = cs.toArray) (hd : d < N)
  (h : ∀ lab' w' b, Own lab' w' k b t cs.toArray → Stp [] lab w lab' w' → Ql lab' w' → Seq ds P N ops Q ((d, .pointer (some ⟨b, 0, none⟩)) :: l) rest w') : Seq ds P N ops Q l (⟨some d, .alloc t, ty, pos, af, none⟩ :: rest) w :=
 Seq.val (Qa.alloc ht) hd (h _ _ w.heap.size (by rw [hc]; exact Own.alloc lab w _ t k) (Stp.alloc _ k) (hv.alloc _ k))
theorem Seq.store {k b o : Nat} {t t' : TypeId} {x y : Operand} {v : Value} {ag : Bool} {n by_ : Nat} {z : Option Value} {arr : Array Value} (arr' : List Value) {ty : TypeId} {pos : String} {af : Array Edge} (hv : Ql lab w) (hO : Own lab w k b t' arr) (ht : QT P t = some (ag, n, z, by_)) (hx : ev l x = some (.pointer (some ⟨b, o, none⟩))) (hy : ev l y = some v)
  (hn : v.cells.size = n) (ho : o + n ≤ arr.size) (h1 : v.cells.toList.all (·.oneCell') = true) (ha : (arr.toList.take o ++ v.cells.toList ++ arr.toList.drop (o + n)).toArray = arr'.toArray)
  (h : ∀ w', Own lab w' k b t' arr'.toArray → Stp [k] lab w lab w' → Ql lab w' → Seq ds P N ops Q l rest w') : Seq ds P N ops Q l (⟨none, .store t x y, ty, pos, af, none⟩ :: rest) w :=
 QcV (Qa.store arr'.toArray hO ht hx hy hn ho h1 ha) (h _ (hO.set _) (Stp.set hO.1 _) (hv.set _ _))
theorem K8 {d : Nat} {f : Nat} {xs : List Operand} {tys : Array TypeId} {ty : TypeId} {pos : String} {af : Array Edge} {vs : List Value} {V : VP} (hf : Qw P f) (hv : Ql lab w) (hx : evs l xs = some vs) (hd : d < N)
  (hc : Calls P f vs.toArray w (fun e w' => ∃ v, e = .returned v ∧ V lab w' v ∧ Below w.heap.size w w'))
  (h : ∀ v w', V lab w' v → Stp [] lab w lab w' → Ql lab w' → Seq ds P N ops Q ((d, v) :: l) rest w') : Seq ds P N ops Q l (⟨some d, .call ⟨.value (.func f), xs.toArray, tys⟩, ty, pos, af, none⟩ :: rest) w :=
 Seq.call hf hx hd hc fun v w' ⟨h1, h2⟩ => h v w' h1 (Stp.below h2) (hv.below h2.size)
theorem QH {y : Code} {Q' : Exit → Act → World → Prop} (hQ : ∀ a w, y.wp P Q' a w → Q .normal a w) (h : Run ds P N Q' y l w) : Seq ds P N ops Q l [] w := Seq.nil fun a ha => hQ a w (h a ha)
theorem Qg {y : Code} {Q' : Exit → Act → World → Prop} (hQ : ∀ a w, y.wp P Q' a w → Q .normal a w) (h : Run ds P N Q' y l w) : Run ds P N Q .skip l w := Run.skip fun a ha => hQ a w (h a ha)
theorem Qv {id : Nat} {y : Code} {Q' : Exit → Act → World → Prop} (hQ : ∀ a w, y.wp P Q' a w → Q (.exit id) a w) (h : Run ds P N Q' y l w) : Run ds P N Q (.exit id) l w := Run.exit fun a ha => hQ a w (h a ha)
theorem Qr {K : Act → World → Prop} (h : ∀ a, Fr ds N l a → Q .ret a w) : ∀ a, Fr ds N l a → Exit.then K Q .ret a w := h
theorem QQ {id : Nat} (h : ∀ a, Fr ds N l a → Q .ret a w) : ∀ a, Fr ds N l a → Exit.inBlock id Q .ret a w := h
theorem Qc {c : Operand} {x y : Code} {b b' : Bool} (hc : ev l c = some (.bool b')) (he : b' = b) (h : Run ds P N Q (match b with | true => x | false => y) l w) : Run ds P N Q (.cond c x y) l w := by
 subst he
 cases b'
 ·exact Run.cond_false hc h
 ·exact Qao hc h
theorem Qh {d : Option Nat} {op : Op} {ty : TypeId} {pos : String} {af : Array Edge} {g : Nat} {b b' : Bool} {dg : Nat} (hg : (ops[g]?).bind (·.dst) = some dg) (hb : lk l dg = some (.bool b')) (he : b' = b)
  (h : Seq ds P N ops Q l (⟨d, op, ty, pos, af, none⟩ :: rest) w) : Seq ds P N ops Q l (⟨d, op, ty, pos, af, some (g, b)⟩ :: rest) w := by
 subst he; exact Qba hg hb h
theorem Qk {d : Nat} {op : Op} {ty : TypeId} {pos : String} {af : Array Edge} {g : Nat} {b b' c : Bool} {dg : Nat} (hg : (ops[g]?).bind (·.dst) = some dg) (hb : lk l dg = some (.bool b')) (he : b' = b) (hne : (b == c) = false) (hd : d < N)
  (h : Seq ds P N ops Q ((d, undef) :: l) rest w) : Seq ds P N ops Q l (⟨some d, op, ty, pos, af, some (g, c)⟩ :: rest) w := by
 subst he; exact Qam hg hb hne hd h
theorem Qp {ty : TypeId} {c x y : Operand} {b b' : Bool} {v : Value} (hc : ev l c = some (.bool b')) (he : b' = b) (h : ev l (match b with | true => x | false => y) = some v) : Qa P l (.pick c x y) ty w v w := by
 subst he
 cases b'
 ·exact Ju hc h
 ·exact Jt hc h
theorem ZN (b : Bool) : b = true ∨ b = false := by cases b <;> simp
theorem Seq.start {m : Nat} {a : Act} (hf : Fr ds N l a) (h : Seq ds P N ops Q l (ops.toList.drop m) w) : wpList P ops Q (ops.toList.drop m) a w := h a hf
theorem Q6 {t t' : TypeId} {by_ : Nat} {z : Option Value} {d b o : Nat} {arr : Array Value} (cs : List Value) (h : Own lab w d b t' arr) (ht : QT P t = some (true, cs.length, z, by_)) (hv : (arr.toList.drop o).take cs.length = cs) : (loadVar t ⟨b, o, none⟩).run P w = .ok (.agg cs.toArray) w :=
 Xh ht (fun j v hj => by
  rw [J2, h.cell]
  have hjl : j < cs.length := (List.getElem?_eq_some_iff.1 hj).1
  rw [← hv, List.getElem?_take_of_lt hjl, List.getElem?_drop] at hj
  simpa using hj)
theorem Xz (lab : Lab) (w : World) : ∃ U, Stp U lab w (ent lab) w :=
 ⟨(List.range w.heap.size).filterMap lab, rfl, rfl, rfl, Nat.le_refl _, fun k hk e => ⟨QcH.2 e, rfl⟩, fun k d hk e hd => absurd (List.mem_filterMap.2 ⟨k, by simpa using hk, e⟩) hd⟩
theorem Jj {b b' : Bool} (e : b = b') (lab : Lab) (w : World) : Is (.bool b') lab w (.bool b) := by subst e; rfl
theorem JF {b b' : Int} (e : b = b') (lab : Lab) (w : World) : Is (i64 b') lab w (i64 b) := by subst e; rfl
theorem QbM {b b' : UInt32} (e : b = b') (lab : Lab) (w : World) : Is (u32 b') lab w (u32 b) := by subst e; rfl
theorem Is.out {u v : Value} {lab : Lab} {w : World} (h : Is u lab w v) : v = u := h
end
end Go.Proofs.Ytgfomedobfaidaa
end
section
set_option linter.unusedVariables false
set_option linter.unusedSimpArgs false
namespace Go.Proofs.Ytgfomedobfaidaa
open Go.RowKit
def Zo (V U : VP) : VP := fun lab w v => ∃ a b, v = .tuple #[a, b] ∧ V lab w a ∧ U lab w b
theorem Qgi {V U : VP} (hV : Pers V) (hU : Pers U) : Pers (Zo V U) := ⟨fun s ⟨a, b, h, h1, h2⟩ => ⟨a, b, h, hV.step s h1, hU.step s h2⟩⟩
def QdQ (V U X : VP) : VP := fun lab w v => ∃ a b c, v = .tuple #[a, b, c] ∧ V lab w a ∧ U lab w b ∧ X lab w c
theorem Qgh {V U X : VP} (hV : Pers V) (hU : Pers U) (hX : Pers X) : Pers (QdQ V U X) := ⟨fun s ⟨a, b, c, h, h1, h2, h3⟩ => ⟨a, b, c, h, hV.step s h1, hU.step s h2, hX.step s h3⟩⟩
def Qj (x : Nat) : List UInt32 := if h : x = 0 then [] else UInt32.ofNat x :: Qj (x / 4294967296)
termination_by x
decreasing_by omega
theorem Zn : Qj 0 = [] := by unfold Qj; simp
theorem YI {x : Nat} (h : x ≠ 0) : Qj x = UInt32.ofNat x :: Qj (x / 4294967296) := by rw [Qj]; simp [h]
def wv : List UInt32 → Nat
 | [] => 0
 | a :: r => a.toNat + 4294967296 * wv r
theorem Yq (x : Nat) : wv (Qj x) = x := by
 induction x using Nat.strongRecOn with
 | _ x ih =>
  by_cases h : x = 0
  ·subst h; rw [Zn]; rfl
  ·rw [YI h, wv, ih (x / 4294967296) (by omega)]
   have : (UInt32.ofNat x).toNat = x % 4294967296 := by simp
   omega
theorem Qc9 : ∀ {l : List UInt32}, (∀ a, l.getLast? = some a → a ≠ 0) → Qj (wv l) = l
 | [], _ => by simp [wv, Zn]
 | a :: r, h => by
  have ha := a.toNat_lt
  by_cases hr : r = []
  ·subst hr
   have : a ≠ 0 := h a rfl
   have h0 : a.toNat ≠ 0 := fun e => this (by rw [← UInt32.toNat_inj, e]; rfl)
   simp only [wv, Nat.mul_zero, Nat.add_zero]
   rw [YI h0, Nat.div_eq_of_lt (by omega), Zn]
   simp
  ·have ih := Qc9 (l := r) (fun b hb => h b (by rw [List.getLast?_cons]; cases r with
    | nil => exact absurd rfl hr
    | cons c r => simpa [List.getLast?_cons] using hb))
   have hpos : wv r ≠ 0 := fun e => by rw [e, Zn] at ih; exact hr ih.symm
   simp only [wv]
   rw [YI (by omega), show (a.toNat + 4294967296 * wv r) / 4294967296 = wv r by omega, ih]
   congr 1
   rw [← UInt32.toNat_inj]
   simp
theorem QaE {x y : Nat} (h : Qj x = Qj y) : x = y := by rw [← Yq x, ← Yq y, h]
theorem U7 (l : List UInt32) : wv l < 4294967296 ^ l.length := by
 induction l with
 | nil => simp [wv]
 | cons a r ih =>
  have := a.toNat_lt
  simp only [wv, List.length_cons, Nat.pow_succ]
  omega
def nw (x : Nat) : Nat := (Qj x).length
theorem Yl : nw 0 = 0 := by simp [nw, Zn]
theorem QeH {x : Nat} (h : x ≠ 0) : nw x = nw (x / 4294967296) + 1 := by simp [nw, YI h]
theorem Ym (x : Nat) : x < 4294967296 ^ nw x := by have := U7 (Qj x); rwa [Yq] at this
theorem Xi {x n : Nat} (h : x < 4294967296 ^ n) : nw x ≤ n := by
 induction n generalizing x with
 | zero => simp at h; subst h; simp [Yl]
 | succ n ih =>
  by_cases h0 : x = 0
  ·subst h0; simp [Yl]
  ·rw [QeH h0]
   have := ih (x := x / 4294967296) (by rw [Nat.pow_succ] at h; omega)
   omega
theorem QW {x y : Nat} (h : x ≤ y) : nw x ≤ nw y := Xi (Nat.lt_of_le_of_lt h (Ym y))
def Qi (x : Nat) : VP := fun lab w v => ∃ A c, v = .agg #[.slice A (nw x) c] ∧ nw x ≤ c ∧ c ≤ 9223372036854775807 ∧ Ja lab w A ((Qj x).map u32)
theorem Jq (x : Nat) : Pers (Qi x) := ⟨fun s ⟨A, c, h1, h2, h3, h4⟩ => ⟨A, c, h1, h2, h3, h4.lift s⟩⟩
theorem Qi.shape {x : Nat} {lab : Lab} {w : World} {v : Value} (h : Qi x lab w v) : ∃ A c, v = .agg #[.slice A (nw x) c] := by
 obtain ⟨A, c, h1, _⟩ := h
 exact ⟨A, c, h1⟩
theorem Qi.cap {x : Nat} {lab : Lab} {w : World} {A : Option Addr} {n c : Nat} (h : Qi x lab w (.agg #[.slice A n c])) : nw x ≤ c ∧ c ≤ 9223372036854775807 := by
 obtain ⟨A', c', h1, h2, h3, _⟩ := h
 cases h1
 exact ⟨h2, h3⟩
theorem Qi.zero (lab : Lab) (w : World) : Qi 0 lab w (.agg #[.slice none 0 0]) := ⟨none, 0, by rw [Yl], by rw [Yl]; omega, by omega, by rw [Zn]; exact Ja.nil⟩
theorem Qi.slice {x : Nat} {lab : Lab} {w : World} {A : Option Addr} {n c : Nat} (h : Qi x lab w (.agg #[.slice A n c])) : n = nw x ∧ nw x ≤ c ∧ c ≤ 9223372036854775807 ∧ Ja lab w A ((Qj x).map u32) := by
 obtain ⟨A', c', h1, h2, h3, h4⟩ := h
 cases h1
 exact ⟨rfl, h2, h3, h4⟩
def Jo (a b : Nat) : Int := if a < b then -1 else if a = b then 0 else 1
@[simp] theorem V0 (a b : Nat) : Jo a b < 0 ↔ a < b := by unfold Jo; split <;> (try split) <;> simp_all <;> omega
@[simp] theorem XC (a b : Nat) : Jo a b = 0 ↔ a = b := by unfold Jo; split <;> (try split) <;> simp_all <;> omega
@[simp] theorem QbR (a b : Nat) : Jo a b ≤ 0 ↔ a ≤ b := by unfold Jo; split <;> (try split) <;> simp_all <;> omega
@[simp] theorem QbS (a b : Nat) : 0 < Jo a b ↔ b < a := by unfold Jo; split <;> (try split) <;> simp_all <;> omega
@[simp] theorem XB (a b : Nat) : 0 ≤ Jo a b ↔ b ≤ a := by unfold Jo; split <;> (try split) <;> simp_all <;> omega
theorem Q1 {x y : Nat} (e : x = y) {lab : Lab} {w : World} {v : Value} (h : Qi x lab w v) : Qi y lab w v := e ▸ h
def Qe (bs : List UInt8) : VP := fun lab w v => ∃ A c, v = .slice A bs.length c ∧ bs.length ≤ c ∧ c ≤ 9223372036854775807 ∧ Ja lab w A (bs.map u8)
theorem Za (bs : List UInt8) : Pers (Qe bs) := ⟨fun s ⟨A, c, h1, h2, h3, h4⟩ => ⟨A, c, h1, h2, h3, h4.lift s⟩⟩
theorem Qe.shape {bs : List UInt8} {lab : Lab} {w : World} {v : Value} (h : Qe bs lab w v) : ∃ A c, v = .slice A bs.length c := by
 obtain ⟨A, c, h1, _⟩ := h
 exact ⟨A, c, h1⟩
theorem Qe.nil (lab : Lab) (w : World) : Qe [] lab w (.slice none 0 0) := ⟨none, 0, rfl, by simp, by omega, Ja.nil⟩
theorem Jc {x y : List UInt8} (e : x = y) {lab : Lab} {w : World} {v : Value} (h : Qe x lab w v) : Qe y lab w v := e ▸ h
def Ro (b : Nat) (cs : List Value) : VP := fun lab w _ => lab b = none ∧ ∃ t fr, w.heap[b]? = some (.cells cs.toArray t fr)
theorem Qjp (b : Nat) (cs : List Value) : Pers (Ro b cs) := ⟨fun s ⟨h1, t, fr, h2⟩ => by
 obtain ⟨k1, k2⟩ := s.free b (Zj h2) h1
 exact ⟨k1, t, fr, k2.trans h2⟩⟩
theorem Ro.cell {b : Nat} {cs : List Value} {lab : Lab} {w : World} {u v : Value} (h : Ro b cs lab w u) (j : Nat) (hj : cs[j]? = some v) : w.cell? ⟨b, j, none⟩ = some v := by
 obtain ⟨h1, t, fr, h2⟩ := h
 rw [cell_of_row w b j _ t fr h2]
 simpa using hj
theorem Ro.cells {b : Nat} {cs : List Value} {lab : Lab} {w : World} {u : Value} (h : Ro b cs lab w u) (off : Nat) {cs' : List Value} (hc : (cs.drop off).take cs'.length = cs' := by rfl) : ∀ (j : Nat) (v : Value), cs'[j]? = some v → w.cell? ((⟨b, off, none⟩ : Addr).add j) = some v := by
 intro j v hj
 rw [J2]
 have hjl : j < cs'.length := (List.getElem?_eq_some_iff.1 hj).1
 rw [← hc, List.getElem?_take_of_lt hjl, List.getElem?_drop] at hj
 exact h.cell _ hj
def YH (F : Lab → World → List Value → Prop) : VP := fun lab w v => ∃ b t fr cs, v = .pointer (some ⟨b, 0, none⟩) ∧ lab b = none ∧ w.heap[b]? = some (.cells (List.toArray cs) t fr) ∧ F lab w cs
theorem Qbd {F : Lab → World → List Value → Prop} (hF : ∀ (T : List Nat) (lab : Lab) (w : World) (lab' : Lab) (w' : World) (cs : List Value), Stp T lab w lab' w' → F lab w cs → F lab' w' cs) : Pers (YH F) := ⟨fun s ⟨b, t, fr, cs, h1, h2, h3, h4⟩ => by
 obtain ⟨k1, k2⟩ := s.free b (Zj h3) h2
 exact ⟨b, t, fr, cs, h1, k1, k2.trans h3, hF _ _ _ _ _ _ s h4⟩⟩
theorem YH.shape {F : Lab → World → List Value → Prop} {lab : Lab} {w : World} {v : Value} (h : YH F lab w v) : ∃ b, v = .pointer (some ⟨b, 0, none⟩) := by
 obtain ⟨b, t, fr, cs, h1, _⟩ := h
 exact ⟨b, h1⟩
def QJ (m : Nat) : Nat := if m < 4294967296 then m else 0
def QdH (m : Nat) (lab : Lab) (w : World) (cs : List Value) : Prop := ∃ A c, cs = [.slice A (nw m) c, .int .u64 ((QJ m : Nat) : Int)] ∧ Qi m lab w (.agg #[.slice A (nw m) c])
theorem QdG {m : Nat} {T : List Nat} {lab : Lab} {w : World} {lab' : Lab} {w' : World} {cs : List Value} (s : Stp T lab w lab' w') : QdH m lab w cs → QdH m lab' w' cs := fun ⟨A, c, h1, h2⟩ => ⟨A, c, h1, (Jq m).step s h2⟩
def JO (m : Nat) : VP := YH (QdH m)
theorem V2 (m : Nat) : Pers (JO m) := Qbd (F := QdH m) (fun _ _ _ _ _ _ s h => QdG s h)
theorem JO.open {m : Nat} {lab : Lab} {w : World} {b : Nat} (h : JO m lab w (.pointer (some ⟨b, 0, none⟩))) : ∃ A c, Ro b [.slice A (nw m) c, .int .u64 ((QJ m : Nat) : Int)] lab w undef ∧ Qi m lab w (.agg #[.slice A (nw m) c]) := by
 obtain ⟨b', t, fr, cs, h1, h2, h3, A, c, rfl, h4⟩ := h
 cases h1
 exact ⟨A, c, ⟨h2, t, fr, h3⟩, h4⟩
theorem Qj2 {x y : Nat} (e : x = y) {lab : Lab} {w : World} {v : Value} (h : JO x lab w v) : JO y lab w v := e ▸ h
structure GroupD where
 p : Nat
 q : Nat
 g : Nat
 h : Nat
def GroupD.size (G : GroupD) : Nat := (G.p.log2 + 8) / 8
def U5 (G : GroupD) (lab : Lab) (w : World) (cs : List Value) : Prop := ∃ bp bq Ag cg Ah ch, cs = [.pointer (some ⟨bp, 0, none⟩), .pointer (some ⟨bq, 0, none⟩), .slice Ag (nw G.g) cg, .slice Ah (nw G.h) ch, i64 G.size] ∧
 JO G.p lab w (.pointer (some ⟨bp, 0, none⟩)) ∧ JO G.q lab w (.pointer (some ⟨bq, 0, none⟩)) ∧ Qi G.g lab w (.agg #[.slice Ag (nw G.g) cg]) ∧ Qi G.h lab w (.agg #[.slice Ah (nw G.h) ch])
theorem Qcc {G : GroupD} {T : List Nat} {lab : Lab} {w : World} {lab' : Lab} {w' : World} {cs : List Value} (s : Stp T lab w lab' w') : U5 G lab w cs → U5 G lab' w' cs :=
 fun ⟨bp, bq, Ag, cg, Ah, ch, h1, h2, h3, h4, h5⟩ => ⟨bp, bq, Ag, cg, Ah, ch, h1, (V2 _).step s h2, (V2 _).step s h3, (Jq _).step s h4, (Jq _).step s h5⟩
def Js (G : GroupD) : VP := YH (U5 G)
theorem KD (G : GroupD) : Pers (Js G) := Qbd (F := U5 G) (fun _ _ _ _ _ _ s h => Qcc s h)
theorem Js.open {G : GroupD} {lab : Lab} {w : World} {b : Nat} (h : Js G lab w (.pointer (some ⟨b, 0, none⟩))) : ∃ bp bq Ag cg Ah ch,
  Ro b [.pointer (some ⟨bp, 0, none⟩), .pointer (some ⟨bq, 0, none⟩), .slice Ag (nw G.g) cg, .slice Ah (nw G.h) ch, i64 G.size] lab w undef ∧
  JO G.p lab w (.pointer (some ⟨bp, 0, none⟩)) ∧ JO G.q lab w (.pointer (some ⟨bq, 0, none⟩)) ∧ Qi G.g lab w (.agg #[.slice Ag (nw G.g) cg]) ∧ Qi G.h lab w (.agg #[.slice Ah (nw G.h) ch]) := by
 obtain ⟨b', t, fr, cs, h1, h2, h3, bp, bq, Ag, cg, Ah, ch, rfl, h4⟩ := h
 cases h1
 exact ⟨bp, bq, Ag, cg, Ah, ch, ⟨h2, t, fr, h3⟩, h4⟩
end Go.Proofs.Ytgfomedobfaidaa
end
section
set_option linter.unusedVariables false
set_option linter.unusedSimpArgs false
namespace Go.Proofs.Ytgfomedobfaidaa
open Go.RowKit
def Qo (ws : List UInt32) : VP := fun lab w v => ∃ A c, v = .slice A ws.length c ∧ ws.length ≤ c ∧ c ≤ 9223372036854775807 ∧ Ja lab w A (ws.map u32)
theorem JY (ws : List UInt32) : Pers (Qo ws) := ⟨fun s ⟨A, c, h1, h2, h3, h4⟩ => ⟨A, c, h1, h2, h3, h4.lift s⟩⟩
theorem Qo.shape {ws : List UInt32} {lab : Lab} {w : World} {v : Value} (h : Qo ws lab w v) : ∃ A c, v = .slice A ws.length c := by
 obtain ⟨A, c, h1, _⟩ := h
 exact ⟨A, c, h1⟩
theorem Qo.shapeN {ws : List UInt32} {lab : Lab} {w : World} {v : Value} (h : Qo ws lab w v) {n : Nat} (e : ws.length = n) : ∃ A c, v = .slice A n c := e ▸ h.shape
theorem Qe.shapeN {ws : List UInt8} {lab : Lab} {w : World} {v : Value} (h : Qe ws lab w v) {n : Nat} (e : ws.length = n) : ∃ A c, v = .slice A n c := e ▸ h.shape
theorem XG {x y : List UInt32} (e : x = y) {lab : Lab} {w : World} {v : Value} (h : Qo x lab w v) : Qo y lab w v := e ▸ h
theorem Qo.nil (lab : Lab) (w : World) : Qo [] lab w (.slice none 0 0) := ⟨none, 0, rfl, by simp, by omega, Ja.nil⟩
theorem Qo.row {ws : List UInt32} {lab : Lab} {w : World} {A : Option Addr} {n c : Nat} (h : Qo ws lab w (.slice A n c)) : Ja lab w A (ws.map u32) := by
 obtain ⟨A', c', h1, _, _, h2⟩ := h
 cases h1
 exact h2
theorem Qo.cap {ws : List UInt32} {lab : Lab} {w : World} {A : Option Addr} {n c : Nat} (h : Qo ws lab w (.slice A n c)) : n = ws.length ∧ ws.length ≤ c ∧ c ≤ 9223372036854775807 := by
 obtain ⟨A', c', h1, h2, h3, _⟩ := h
 cases h1
 exact ⟨rfl, h2, h3⟩
theorem QA {x : Nat} {lab : Lab} {w : World} {u : Value} (h : Qi x lab w (.agg #[u])) : Qo (Qj x) lab w u := by
 obtain ⟨A, c, h1, h2, h3, h4⟩ := h
 cases h1
 exact ⟨A, c, rfl, h2, h3, h4⟩
theorem VI {ws : List UInt32} {x : Nat} {lab : Lab} {w : World} {u : Value} (h : Qo ws lab w u) (e : ws = Qj x) : Qi x lab w (.agg #[u]) := by
 subst e
 obtain ⟨A, c, rfl, h2, h3, h4⟩ := h
 exact ⟨A, c, rfl, h2, h3, h4⟩
theorem Qe.row {bs : List UInt8} {lab : Lab} {w : World} {A : Option Addr} {n c : Nat} (h : Qe bs lab w (.slice A n c)) : Ja lab w A (bs.map u8) := by
 obtain ⟨A', c', h1, _, _, h2⟩ := h
 cases h1
 exact h2
theorem Qe.cap {bs : List UInt8} {lab : Lab} {w : World} {A : Option Addr} {n c : Nat} (h : Qe bs lab w (.slice A n c)) : n = bs.length ∧ bs.length ≤ c ∧ c ≤ 9223372036854775807 := by
 obtain ⟨A', c', h1, h2, h3, _⟩ := h
 cases h1
 exact ⟨rfl, h2, h3⟩
theorem Jp {α : Type} (f : α → Value) (l : List α) (d : α) {j : Nat} (h : j < l.length) : (l.map f)[j]? = some (f (l.getD j d)) := by
 simp [List.getElem?_map, List.getElem?_eq_getElem h, List.getD]
theorem Zi {α : Type} (f : α → Value) (l : List α) (d : α) {j : Nat} (h : j < l.length) : (l.map f).toArray[j]? = some (f (l.getD j d)) := by
 rw [List.getElem?_toArray]; exact Jp f l d h
section
variable {ds : List Deferred} {P : Program} {N : Nat} {ops : Array Oper} {Q : Exit → Act → World → Prop} {l : List (Nat × Value)} {rest : List Oper} {w : World} {lab : Lab} {ty : TypeId}
theorem Qs {t e : TypeId} {x y : Operand} {k : IntKind} {i : Int} {A : Option Addr} {n c : Nat} {ag : Bool} {by_ : Nat} {z : Option Value} {cs : List Value} (j : Nat) (ht : P.underlying t = some (.slice e)) (he : QT P e = some (ag, 1, z, by_)) (hx : ev l x = some (.slice A n c)) (hy : ev l y = some (.int k i)) (hr : Ja lab w A cs) (hn : cs.length = n) (hij : i = (j : Int)) (hj : j < n) :
  Qa P l (.indexAddr t x y) ty w (.pointer (A.map (·.add j))) w := by
 intro ρ hρ d pos af g
 obtain ⟨b, o, rfl, _⟩ := hr.cell (j := j) (v := cs[j]'(by omega)) (List.getElem?_eq_getElem (by omega))
 have h := (Qa.indexAddr (P := P) (l := l) (w := w) (ty := ty) ht he hx hy (by omega) (by omega)) ρ hρ d pos af g
 rw [h]
 subst hij
 simp [J2]
theorem Qy {t : TypeId} {x : Operand} {A : Option Addr} {n by_ : Nat} {z : Option Value} {cs : List Value} {j : Nat} {v : Value} (ht : QT P t = some (false, n, z, by_)) (hx : ev l x = some (.pointer (A.map (·.add j)))) (hr : Ja lab w A cs) (hv : cs[j]? = some v) : Qa P l (.load t x) ty w v w := by
 obtain ⟨b, o, rfl, hc⟩ := hr.cell hv
 exact Jh ht hx (by simpa [J2] using hc)
theorem Q4 {t e : TypeId} {x y : Operand} {k : IntKind} {i : Int} {b n c : Nat} {ag : Bool} {s by_ : Nat} {z : Option Value} (j : Nat) (ht : P.underlying t = some (.slice e)) (he : QT P e = some (ag, s, z, by_)) (hx : ev l x = some (.slice (some ⟨b, 0, none⟩) n c)) (hy : ev l y = some (.int k i)) (hij : i = (j : Int)) (hj : j < n) :
  Qa P l (.indexAddr t x y) ty w (.pointer (some ⟨b, j * s, none⟩)) w := by
 have h := Qa.indexAddr (P := P) (l := l) (w := w) (ty := ty) ht he hx hy (by omega) (by omega)
 subst hij
 simpa using h
theorem Ug {α : Type} (f : α → Value) (ws : List α) (j : Nat) (x : α) (h : j < ws.length) : ((ws.map f).toArray.toList.take j ++ [f x] ++ (ws.map f).toArray.toList.drop (j + 1)).toArray = ((ws.set j x).map f).toArray := by
 congr 1
 simp only [List.toList_toArray]
 rw [List.map_set, List.set_eq_take_append_cons_drop, if_pos (by simpa using h)]
 simp
theorem Q8 {α : Type} (f : α → Value) {k b j : Nat} {t t' : TypeId} {x y : Operand} {v : α} {by_ : Nat} {z : Option Value} {ws : List α} {ag : Bool} {pos : String} {af : Array Edge} (hv : Ql lab w) (hO : Own lab w k b t' (ws.map f).toArray) (ht : QT P t = some (ag, 1, z, by_)) (hx : ev l x = some (.pointer (some ⟨b, j, none⟩))) (hy : ev l y = some (f v)) (hj : j < ws.length) (hf : (f v).cells = #[f v]) (h1 : (f v).oneCell' = true)
  (h : ∀ w', Own lab w' k b t' ((ws.set j v).map f).toArray → Stp [k] lab w lab w' → Ql lab w' → Seq ds P N ops Q l rest w') : Seq ds P N ops Q l (⟨none, .store t x y, ty, pos, af, none⟩ :: rest) w :=
 QcV (Qa.store _ hO ht hx hy (by rw [hf]; rfl) (by simp; omega) (by rw [hf]; simp [h1]) (by rw [hf]; exact Ug f ws j v hj)) (h _ (hO.set _) (Stp.set hO.1 _) (hv.set _ _))
theorem XR {t e : TypeId} {ag : Bool} {s by_ : Nat} {z : Value} (ht : P.underlying t = some (.slice e)) (he : QT P e = some (ag, s, some z, by_)) (hz : z.cells.size = s) {k k' : IntKind} {n c : Nat} (hnc : n ≤ c) (hb : by_ * c ≤ 281474976710656) (hc : c < 9223372036854775808) (w : World) :
  ∃ arr, (Instr.makeSlice t (.int k (n : Int)) (.int k' (c : Int))).run P w = .ok (.slice (some ⟨w.heap.size, 0, none⟩) n c) (w.alloc (.cells arr e)) ∧ arr = (Array.range (c * s)).map (fun i => z.cells[i % z.cells.size]!) := by
 obtain ⟨i, hi, hib, his⟩ := XQ (P := P) (w := w) he
 refine ⟨_, ?_, rfl⟩
 have hwn : IntKind.i64.wrap (n : Int) = n := JX (by omega) (by omega)
 have hwc : IntKind.i64.wrap (c : Int) = c := JX (by omega) (by omega)
 have hbI : (by_ : Int) * (c : Int) ≤ 281474976710656 := by
  have : ((by_ * c : Nat) : Int) ≤ 281474976710656 := by omega
  rwa [Int.natCast_mul] at this
 simp only [Instr.makeSlice, Sem.run_bind, run_underlying ht, Result.andThen_ok, asInt, asIntOf, Sem.run_pure, hi, hwn, hwc, hib]
 have h48 : (2 : Int) ^ 48 = 281474976710656 := by decide
 rw [if_neg (by simp only [Bool.or_eq_true, decide_eq_true_eq, not_or]; exact ⟨⟨⟨by omega, by omega⟩, by omega⟩, by omega⟩)]
 simp only [Int.toNat_natCast, Sem.run_bind]
 have hroom : (askRoom (c * by_)).run P w = .ok () w := by
  unfold askRoom
  split <;> rfl
 simp only [hroom, Result.andThen_ok, QV he]
 by_cases h0 : c * s = 0
 ·rw [if_pos h0]
  simp only [Sem.run_bind, Sem.run_pure, Result.andThen_ok]
  simp only [h0, newRow]
  have e0 : ∀ g : Nat → Value, (Array.range 0).map g = #[] := fun g => by simp
  rw [e0, e0]
  rfl
 ·rw [if_neg h0]
  simp only [Sem.run_bind, Xg he, Sem.run_pure, Result.andThen_ok, newRow]
  rfl
theorem Jv {α : Type} (f : α → Value) (zx : α) {d k : Nat} {t e : TypeId} {x y : Operand} {ag : Bool} {by_ : Nat} {z : Value} {kk kk' : IntKind} {i i' : Int} {pos : String} {af : Array Edge} (n : Nat) (hv : Ql lab w) (ht : P.underlying t = some (.slice e)) (he : QT P e = some (ag, 1, some z, by_)) (hz : z.cells = #[f zx])
  (hx : ev l x = some (.int kk i)) (hy : ev l y = some (.int kk' i')) (hi : i = (n : Int)) (hi' : i' = (n : Int)) (hb : by_ * n ≤ 281474976710656) (hc : n < 9223372036854775808) (hd : d < N)
  (h : ∀ lab' w' b, Own lab' w' k b e ((List.replicate n zx).map f).toArray → Stp [] lab w lab' w' → Ql lab' w' → Seq ds P N ops Q ((d, .slice (some ⟨b, 0, none⟩) n n) :: l) rest w') : Seq ds P N ops Q l (⟨some d, .makeSlice t x y, ty, pos, af, none⟩ :: rest) w := by
 subst hi; subst hi'
 obtain ⟨arr, hr, ha⟩ := XR (P := P) ht he (by rw [hz]; rfl) (k := kk) (k' := kk') (Nat.le_refl n) hb hc w
 have harr : arr = ((List.replicate n zx).map f).toArray := by
  rw [ha, hz]
  apply Array.ext
  ·simp
  ·intro j h1 h2
   simp
   rw [Nat.mod_one]
   rfl
 refine Seq.val (v := .slice (some ⟨w.heap.size, 0, none⟩) n n) (w' := w.alloc (.cells arr e)) ?_ hd (h (JT lab w.heap.size k) _ w.heap.size (by rw [harr]; exact Own.alloc lab w _ e k) (Stp.alloc _ k) (hv.alloc _ k))
 intro ρ hρ d pos af g
 simp only [execOp, hρ _ _ hx, hρ _ _ hy, Sem.run_bind, hr, Result.andThen_ok]
 rfl
theorem KO {t e : TypeId} {ag : Bool} {s by_ : Nat} {z : Value} {len : Nat} {pv : List (Nat × Value)} {cs : Array Value} (ht : P.underlying t = some (.slice e)) (he : QT P e = some (ag, s, some z, by_)) (hl : len * s ≤ 16777216) (hl0 : len * s ≠ 0)
  (hf : Instr.fill (fun i => some (i * s, s)) ((Array.range (len * s)).map (fun j => z.cells[j % z.cells.size]!)) pv = some cs) (w : World) :
  (Instr.buildSlice t len pv.toArray).run P w = .ok (.slice (some ⟨w.heap.size, 0, none⟩) len len) (w.alloc (.cells cs e)) := by
 simp only [Instr.buildSlice, Sem.run_bind, run_underlying ht, Result.andThen_ok, QV he]
 rw [if_neg (by omega), if_neg hl0]
 simp only [Sem.run_bind, Xg he, Sem.run_pure, Result.andThen_ok, List.toList_toArray, hf, newRow]
 rfl
theorem Ul {parts : Array (Nat × Operand)} {pv : List (Nat × Value)} (hp : parts.toList.map (fun p => (p.1, ev l p.2)) = pv.map (fun p => (p.1, some p.2))) (ρ : Operand → Value) (hρ : ∀ x u, ev l x = some u → ρ x = u) : (parts.map fun (i, x) => (i, ρ x)) = pv.toArray := by
 apply Array.toList_inj.1
 rw [Array.toList_map]
 generalize parts.toList = L at hp
 induction L generalizing pv with
 | nil => cases pv with
  | nil => rfl
  | cons _ _ => simp at hp
 | cons q r ih => cases pv with
  | nil => simp at hp
  | cons p pv =>
   simp only [List.map_cons, List.cons.injEq, Prod.mk.injEq] at hp
   rw [List.map_cons, ih hp.2]
   obtain ⟨p1, p2⟩ := p
   simp only at hp
   simp [hp.1.1, hρ _ _ hp.1.2]
theorem Qa.buildSlice {t e : TypeId} {ag : Bool} {s by_ : Nat} {z : Value} {len : Nat} {parts : Array (Nat × Operand)} (pv : List (Nat × Value)) (cs : List Value) (ht : P.underlying t = some (.slice e)) (he : QT P e = some (ag, s, some z, by_)) (hl : len * s ≤ 16777216) (hl0 : len * s ≠ 0)
  (hp : parts.toList.map (fun p => (p.1, ev l p.2)) = pv.map (fun p => (p.1, some p.2))) (hf : Instr.fill (fun i => some (i * s, s)) ((Array.range (len * s)).map (fun j => z.cells[j % z.cells.size]!)) pv = some cs.toArray) : Qa P l (.buildSlice t len parts) ty w (.slice (some ⟨w.heap.size, 0, none⟩) len len) (w.alloc (.cells cs.toArray e)) := by
 intro ρ hρ d pos af g
 simp only [execOp, Ul hp ρ hρ, Sem.run_bind, KO ht he hl hl0 hf, Result.andThen_ok]
 rfl
theorem QR {d : Nat} {t e : TypeId} {ag : Bool} {s by_ : Nat} {z : Value} {len : Nat} {parts : Array (Nat × Operand)} {pos : String} {af : Array Edge} (pv : List (Nat × Value)) (cs : List Value) (hv : Ql lab w) (ht : P.underlying t = some (.slice e)) (he : QT P e = some (ag, s, some z, by_)) (hl : len * s ≤ 16777216) (hl0 : len * s ≠ 0)
  (hp : parts.toList.map (fun p => (p.1, ev l p.2)) = pv.map (fun p => (p.1, some p.2))) (hf : Instr.fill (fun i => some (i * s, s)) ((Array.range (len * s)).map (fun j => z.cells[j % z.cells.size]!)) pv = some cs.toArray) (hd : d < N)
  (h : ∀ w' b, Ja lab w' (some ⟨b, 0, none⟩) cs → Stp [] lab w lab w' → Ql lab w' → Seq ds P N ops Q ((d, .slice (some ⟨b, 0, none⟩) len len) :: l) rest w') : Seq ds P N ops Q l (⟨some d, .buildSlice t len parts, ty, pos, af, none⟩ :: rest) w :=
 Seq.val (Qa.buildSlice pv cs ht he hl hl0 hp hf) hd (h _ _ (Ja.fresh hv _ e (0, 0) cs (fun j v hj => by simpa using hj)) (Stp.fresh _) (hv.below (by rw [Yy]; omega)))
theorem Zh {k : IntKind} {i : Int} {y : Nat} {code : BoundsCode} (j : Nat) (hij : i = (j : Int)) (hj : j ≤ y) : (Instr.sliceBound (.int k i) y code).run P w = .ok j w := by
 subst hij
 have h : 0 ≤ (j : Int) ∧ (j : Int) ≤ (y : Int) := ⟨by omega, by omega⟩
 simp [Instr.sliceBound, asIntOf, h]
theorem JJ {t e : TypeId} {x y : Operand} {k : IntKind} {i : Int} {A : Option Addr} {n c : Nat} {ag : Bool} {s by_ : Nat} {z : Option Value} (j : Nat) (ht : P.underlying t = some (.slice e)) (he : QT P e = some (ag, s, z, by_)) (hx : ev l x = some (.slice A n c)) (hy : ev l y = some (.int k i)) (hij : i = (j : Int)) (hj : j ≤ c) :
  Qa P l (.slice t x none (some y) none) ty w (.slice A j c) w := by
 intro ρ hρ d pos af g
 have hA : (if c = 0 then A else A.map (·.add (0 * s))) = A := by
  split
  ·rfl
  ·cases A with
   | none => rfl
   | some a => simp [Addr.add]
 simp only [execOp, hρ _ _ hx, Option.map_some, Option.map_none, hρ _ _ hy, Instr.sliceAt, Sem.run_bind, run_underlying ht, Result.andThen_ok, Instr.slice, Instr.sliceBounds, Zh j hij hj, Sem.run_pure, QV he, if_true]
 simp only [Zh j hij hj, Result.andThen_ok, Sem.run_pure, QV he, Nat.sub_zero, hA]
theorem Vj {t e : TypeId} {x y : Operand} {k : IntKind} {i : Int} {A : Option Addr} {n c : Nat} {ag : Bool} {s by_ : Nat} {z : Option Value} (j : Nat) (ht : P.underlying t = some (.slice e)) (he : QT P e = some (ag, s, z, by_)) (hx : ev l x = some (.slice A n c)) (hy : ev l y = some (.int k i)) (hij : i = (j : Int)) (hj : j ≤ n) :
  Qa P l (.slice t x (some y) none none) ty w (.slice (if c = j then A else A.map (·.add (j * s))) (n - j) (c - j)) w := by
 intro ρ hρ d pos af g
 simp only [execOp, hρ _ _ hx, Option.map_some, Option.map_none, hρ _ _ hy, Instr.sliceAt, Sem.run_bind, run_underlying ht, Result.andThen_ok, Instr.slice, Instr.sliceBounds, Sem.run_pure, Option.isSome_none, if_true, Zh j hij hj, QV he]
theorem KG {t e : TypeId} {x y y' : Operand} {k k' : IntKind} {i i' : Int} {A : Option Addr} {n c : Nat} {ag : Bool} {s by_ : Nat} {z : Option Value} (j j' : Nat) (ht : P.underlying t = some (.slice e)) (he : QT P e = some (ag, s, z, by_)) (hx : ev l x = some (.slice A n c)) (hy : ev l y = some (.int k i)) (hy' : ev l y' = some (.int k' i')) (hij : i = (j : Int)) (hij' : i' = (j' : Int)) (hj : j ≤ j') (hj' : j' ≤ c) :
  Qa P l (.slice t x (some y) (some y') none) ty w (.slice (if c = j then A else A.map (·.add (j * s))) (j' - j) (c - j)) w := by
 intro ρ hρ d pos af g
 simp only [execOp, hρ _ _ hx, Option.map_some, Option.map_none, hρ _ _ hy, hρ _ _ hy', Instr.sliceAt, Sem.run_bind, run_underlying ht, Result.andThen_ok, Instr.slice, Instr.sliceBounds, Sem.run_pure, Option.isSome_none, if_true, Zh j hij hj, Zh j' hij' hj', QV he]
theorem Ja.cutLo {A : Option Addr} {cs : List Value} {c : Nat} (h : Ja lab w A cs) (j : Nat) (hc : cs.length ≤ c) : Ja lab w (if c = j then A else A.map (·.add (j * 1))) (cs.drop j) := by
 split
 ·rename_i e
  have : cs.drop j = [] := List.drop_of_length_le (by omega)
  rw [this]; exact Ja.nil
 ·rw [Nat.mul_one]
  have := h.sub j (cs.length - j)
  rwa [List.take_of_length_le (by simp)] at this
def App (lab : Lab) (w : World) (d : Nat) (t : TypeId) (v : Value) (n : Nat) (cs : List Value) : Prop := w.ownsRow 0 t 1 v n cs ∧ ∀ k, v.ownBlock = some k → lab k = some d
theorem App.lift {T : List Nat} {lab' : Lab} {w' : World} {d n : Nat} {t : TypeId} {v : Value} {cs : List Value} (h : App lab w d t v n cs) (s : Stp T lab w lab' w') (hd : d ∉ T) : App lab' w' d t v n cs := by
 obtain ⟨⟨h1, h2⟩, h3⟩ := h
 rcases h2 with h2 | ⟨g, cap, cur, rfl, hg, hh, r⟩
 ·exact ⟨⟨h1, .inl h2⟩, fun k hk => by rw [h2.1] at hk; simp [Value.ownBlock] at hk⟩
 ·obtain ⟨k1, k2⟩ := s.own g d (Zj hh) (h3 g rfl) hd
  exact ⟨⟨h1, .inr ⟨g, cap, cur, rfl, hg, k2.trans hh, r⟩⟩, fun k hk => by simp [Value.ownBlock] at hk; subst hk; exact k1⟩
theorem App.nil {d : Nat} {t : TypeId} : App lab w d t (.slice none 0 0) 0 [] := ⟨⟨by simp, .inl ⟨rfl, rfl⟩⟩, fun k hk => by simp [Value.ownBlock] at hk⟩
theorem App.shape {d n : Nat} {t : TypeId} {v : Value} {cs : List Value} (h : App lab w d t v n cs) : ∃ A c, v = .slice A n c := by
 rcases h.1.2 with ⟨h, h0⟩ | ⟨g, cap, cur, h, _⟩
 ·exact ⟨none, 0, by rw [h, h0]⟩
 ·exact ⟨_, _, h⟩
theorem App.len {d n : Nat} {t : TypeId} {v : Value} {cs : List Value} (h : App lab w d t v n cs) : cs.length = n := by simpa using h.1.1
theorem QY {α : Type} {f : α → Value} {d n : Nat} {t : TypeId} {v : Value} {cs : List α} (h : App lab w d t v n (cs.map f)) : cs.length = n := by have := h.len; rwa [List.length_map] at this
theorem App.row {d n : Nat} {t : TypeId} {A : Option Addr} {c : Nat} {cs : List Value} (h : App lab w d t (.slice A n c) n cs) : Ja (Q5 lab d) w A cs ∧ n ≤ c ∧ c ≤ 9223372036854775807 := by
 obtain ⟨⟨h1, h2⟩, h3⟩ := h
 rcases h2 with ⟨h2, h0⟩ | ⟨g, cap, cur, h2, hg, hh, hnc, hcap, hsz, htk⟩
 ·cases h2
  have : cs = [] := List.eq_nil_of_length_eq_zero (by simpa using h1)
  subst this
  exact ⟨Ja.nil, Nat.le_refl _, by omega⟩
 ·cases h2
  refine ⟨.inr ⟨g, 0, cur, t, (0, 0), rfl, by unfold Q5; rw [if_pos (h3 g rfl)], hh, fun j v hj => ?_⟩, hnc, by unfold maxLen at hcap; exact hcap⟩
  rw [← htk] at hj
  have hjl : j < n * 1 := by
   have := (List.getElem?_eq_some_iff.1 hj).1
   simp at this
   omega
  rw [List.getElem?_take_of_lt hjl] at hj
  simpa using hj
theorem X2 {t ty' e : TypeId} {ag : Bool} {s by_ : Nat} {z : Option Value} (ht : P.underlying t = some (.slice e)) (he : QT P e = some (ag, s, z, by_)) {d n : Nat} {v : Value} {cs : List Value} (h : App lab w d e v n cs) (c : Nat) : (Builtin.append_ #[t, t] ty' #[v, .slice none 0 c]).run P w = .ok v w := by
 obtain ⟨i, hi, _, _⟩ := XQ (P := P) (w := w) he
 rcases h.1.2 with ⟨rfl, rfl⟩ | ⟨g, cap, cur, rfl, _, _, hnc, _⟩
 ·simp [Builtin.append_, run_underlying ht, QV he, Builtin.lenOf, Builtin.firstCells]
 ·simp [Builtin.append_, run_underlying ht, QV he, Builtin.lenOf, Builtin.firstCells, hnc, storeCells]
theorem Qdk {t ty' e : TypeId} {ag : Bool} {by_ : Nat} {z : Value} (ht : P.underlying t = some (.slice e)) (he : QT P e = some (ag, 1, some z, by_)) (hz : z.cells.size = 1) {d n : Nat} {v : Value} {cs : List Value} (hv : Ql lab w) (h : App lab w d e v n cs) {A : Option Addr} {m c : Nat} {ys : List Value} (hm : ys.length = m) (hr : Ja lab w A ys) (h1 : ∀ u ∈ ys, u.oneCell' = true) (hb : (n + m) * by_ ≤ 140737488355328) (h63 : n + m ≤ 9223372036854775807) :
  ∃ v' w' lab', (Builtin.append_ #[t, t] ty' #[v, .slice A m c]).run P w = .ok v' w' ∧ App lab' w' d e v' (n + m) (cs ++ ys) ∧ Stp [d] lab w lab' w' ∧ Ql lab' w' := by
 have key : ∀ a : Addr, (∀ (j : Nat) (u : Value), ys[j]? = some u → w.cell? (a.add j) = some u) → ∃ v' w' lab', (Builtin.append_ #[t, t] ty' #[v, .slice (some a) m c]).run P w = .ok v' w' ∧ App lab' w' d e v' (n + m) (cs ++ ys) ∧ Stp [d] lab w lab' w' ∧ Ql lab' w' := by
  intro a hc
  obtain ⟨i, dd, hi, hu, _, his, hiz, hib⟩ := Zt he
  obtain ⟨v', w', hrun, hown, hgr, _, hbl⟩ := run_append_own_at (P := P) w 0 t ty' e i z 1 by_ ht hi hiz his hib hz (by omega) v n cs h.1 a m c ys (by omega) hc h1 (by unfold maxLen; omega) hb (Nat.zero_le _)
  refine ⟨v', w', if v'.ownBlock = v.ownBlock then lab else JT lab w.heap.size d, hrun, ⟨hown, ?_⟩, ?_, ?_⟩
  ·intro k hk
   split
   ·rename_i e1; exact h.2 k (e1 ▸ hk)
   ·rename_i e1
    rcases hbl with e2 | e2
    ·exact absurd e2 e1
    ·rw [e2] at hk; cases hk; simp [JT]
  ·have hkeep : ∀ k, k < w.heap.size → (∀ d', lab k = some d' → d' ≠ d) → w'.heap[k]? = w.heap[k]? := fun k hk hd => hgr.block k hk fun e1 => by
    exact hd d (h.2 k e1.symm) rfl
   refine ⟨hgr.os, hgr.tape, hgr.output, hgr.size, fun k hk e0 => ⟨?_, hkeep k hk (fun d' e1 => by rw [e0] at e1; cases e1)⟩, fun k d' hk e0 hd => ⟨?_, hkeep k hk (fun d'' e1 => by rw [e0] at e1; cases e1; simpa using hd)⟩⟩
   ·split
    ·exact e0
    ·unfold JT; rw [if_neg (by omega)]; exact e0
   ·split
    ·exact e0
    ·unfold JT; rw [if_neg (by omega)]; exact e0
  ·intro k hk
   split
   ·exact hv k (Nat.le_trans hgr.size hk)
   ·rename_i e1
    rcases hbl with e2 | e2
    ·exact absurd e2 e1
    ·have hlt : w.heap.size < w'.heap.size := by
      obtain ⟨_, hx⟩ := hown
      rcases hx with ⟨rfl, _⟩ | ⟨g, cap, cur, rfl, _, hh, _⟩
      ·simp [Value.ownBlock] at e2
      ·simp [Value.ownBlock] at e2; subst e2; exact Zj hh
     unfold JT; rw [if_neg (by omega)]; exact hv k (by omega)
 cases A with
 | some a =>
  refine key a fun j u hu => ?_
  obtain ⟨b, o, hA, hcell⟩ := hr.cell hu
  cases hA
  rw [J2]; exact hcell
 | none =>
  have hys : ys = [] := by
   rcases hr with h0 | ⟨b, o, arr, t', fr, hA, _⟩
   ·exact h0
   ·cases hA
  subst hys
  simp at hm
  subst hm
  exact ⟨v, w, lab, X2 ht he h c, by simpa using h, (Stp.refl _ _).more (by simp), hv⟩
theorem Seq.append {d k : Nat} {t e : TypeId} {x y : Operand} {ag : Bool} {by_ : Nat} {z : Value} {pos : String} {af : Array Edge} {n : Nat} {v : Value} {cs : List Value} {A : Option Addr} {m c : Nat} (ys : List Value) (hv : Ql lab w) (h : App lab w k e v n cs) (ht : P.underlying t = some (.slice e)) (he : QT P e = some (ag, 1, some z, by_)) (hz : z.cells.size = 1) (hx : ev l x = some v) (hy : ev l y = some (.slice A m c)) (hm : ys.length = m) (hr : Ja lab w A ys) (h1 : ∀ u ∈ ys, u.oneCell' = true) (hb : (n + m) * by_ ≤ 140737488355328) (h63 : n + m ≤ 9223372036854775807) (hd : d < N)
  (hk : ∀ lab' w' v', App lab' w' k e v' (n + m) (cs ++ ys) → Stp [k] lab w lab' w' → Ql lab' w' → Seq ds P N ops Q ((d, v') :: l) rest w') : Seq ds P N ops Q l (⟨some d, .call ⟨.builtin .append, #[x, y], #[t, t]⟩, ty, pos, af, none⟩ :: rest) w := by
 obtain ⟨v', w', lab', hrun, h1', h2', h3'⟩ := Qdk (P := P) (ty' := ty) ht he hz hv h hm hr h1 hb h63 (c := c)
 refine Seq.val (v := v') (w' := w') ?_ hd (hk lab' w' v' h1' h2' h3')
 intro ρ hρ d pos af g
 simp [execOp, resolve, invoke, builtin, hρ _ _ hx, hρ _ _ hy, hrun]
theorem VH {d k : Nat} {t e : TypeId} {x y : Operand} {ag : Bool} {by_ : Nat} {z : Value} {kk kk' : IntKind} {i i' : Int} {pos : String} {af : Array Edge} (n : Nat) (hv : Ql lab w) (ht : P.underlying t = some (.slice e)) (he : QT P e = some (ag, 1, some z, by_)) (hz : z.cells.size = 1)
  (hx : ev l x = some (.int kk i)) (hy : ev l y = some (.int kk' i')) (hi : i = 0) (hi' : i' = (n : Int)) (hb : by_ * n ≤ 281474976710656) (hc : n < 9223372036854775808) (hd : d < N)
  (h : ∀ lab' w' v', App lab' w' k e v' 0 [] → Stp [] lab w lab' w' → Ql lab' w' → Seq ds P N ops Q ((d, v') :: l) rest w') : Seq ds P N ops Q l (⟨some d, .makeSlice t x y, ty, pos, af, none⟩ :: rest) w := by
 subst hi; subst hi'
 obtain ⟨arr, hr, ha⟩ := XR (P := P) (n := 0) ht he hz (k := kk) (k' := kk') (Nat.zero_le n) hb hc w
 refine Seq.val (v := .slice (some ⟨w.heap.size, 0, none⟩) 0 n) (w' := w.alloc (.cells arr e)) ?_ hd (h (JT lab w.heap.size k) _ _ ⟨⟨by simp, .inr ⟨w.heap.size, n, arr, rfl, Nat.zero_le _, JU w _, Nat.zero_le _, by unfold maxLen; omega, by rw [ha]; simp, by simp⟩⟩, fun k' hk' => by simp [Value.ownBlock] at hk'; subst hk'; simp [JT]⟩ (Stp.alloc _ k) (hv.alloc _ k))
 intro ρ hρ d pos af g
 have hr' := hr
 simp only [execOp, hρ _ _ hx, hρ _ _ hy, Sem.run_bind]
 rw [show (0 : Int) = ((0 : Nat) : Int) from rfl, hr]
 rfl
theorem ZS {ws : List UInt32} : ∀ u ∈ ws.map u32, u.oneCell' = true := by
 intro u hu; obtain ⟨x, _, rfl⟩ := List.mem_map.1 hu; rfl
theorem JQ {ws : List UInt8} : ∀ u ∈ ws.map u8, u.oneCell' = true := by
 intro u hu; obtain ⟨x, _, rfl⟩ := List.mem_map.1 hu; rfl
theorem Yn {α : Type} {f : α → Value} {d n n' : Nat} {t : TypeId} {v : Value} {cs cs' : List α} (e : cs = cs') (en : n = n') (h : App lab w d t v n (cs.map f)) : App lab w d t v n' (cs'.map f) := by subst e; subst en; exact h
theorem Qo.takeN {ws : List UInt32} {A : Option Addr} {n c : Nat} (h : Qo ws lab w (.slice A n c)) (j : Nat) (hj : j ≤ n) : Qo (ws.take j) lab w (.slice A j c) := by
 have h1 := h.cap
 have h2 := h.row.take j
 have e : (ws.take j).length = j := by rw [List.length_take]; omega
 exact ⟨A, c, by rw [e], by rw [e]; omega, h1.2.2, by rw [List.map_take]; exact h2⟩
theorem Qe.takeN {ws : List UInt8} {A : Option Addr} {n c : Nat} (h : Qe ws lab w (.slice A n c)) (j : Nat) (hj : j ≤ n) : Qe (ws.take j) lab w (.slice A j c) := by
 have h1 := h.cap
 have h2 := h.row.take j
 have e : (ws.take j).length = j := by rw [List.length_take]; omega
 exact ⟨A, c, by rw [e], by rw [e]; omega, h1.2.2, by rw [List.map_take]; exact h2⟩
theorem QhP {ws : List UInt32} {A : Option Addr} {n c : Nat} (h : Qo ws lab w (.slice A n c)) (j : Nat) (hj : j ≤ n) : Qo (ws.drop j) lab w (.slice (if c = j then A else A.map (·.add (j * 1))) (n - j) (c - j)) := by
 have h1 := h.cap
 have h2 := h.row.cutLo j (c := c) (by simp; omega)
 have e : (ws.drop j).length = n - j := by rw [List.length_drop]; omega
 exact ⟨_, _, by rw [e], by rw [e]; omega, by omega, by rw [List.map_drop]; exact h2⟩
theorem Qbn {ws : List UInt8} {A : Option Addr} {n c : Nat} (h : Qe ws lab w (.slice A n c)) (j : Nat) (hj : j ≤ n) : Qe (ws.drop j) lab w (.slice (if c = j then A else A.map (·.add (j * 1))) (n - j) (c - j)) := by
 have h1 := h.cap
 have h2 := h.row.cutLo j (c := c) (by simp; omega)
 have e : (ws.drop j).length = n - j := by rw [List.length_drop]; omega
 exact ⟨_, _, by rw [e], by rw [e]; omega, by omega, by rw [List.map_drop]; exact h2⟩
end
end Go.Proofs.Ytgfomedobfaidaa
end
section
namespace Go.Proofs.Ytgfomedobfaidaa
theorem VZ (a b : List UInt32) : wv (a ++ b) = wv a + 4294967296 ^ a.length * wv b := by
 induction a with
 | nil => simp [wv]
 | cons x r ih =>
  simp only [List.cons_append, wv, ih, List.length_cons, Nat.pow_succ, Nat.mul_add]
  rw [Nat.mul_comm (4294967296 ^ r.length) 4294967296, Nat.mul_assoc]
  omega
theorem Qau {ws : List UInt32} {k : Nat} (hk : k < ws.length) (h0 : ws.getD k 0 = 0) : wv (ws.take (k + 1)) = wv (ws.take k) := by
 have e : ws.take (k + 1) = ws.take k ++ [ws.getD k 0] := by
  rw [List.take_succ_eq_append_getElem hk]; simp [List.getD, List.getElem?_eq_getElem hk]
 rw [e, VZ, h0]
 simp [wv]
theorem Uc {ws : List UInt32} {k : Nat} (hk : k ≤ ws.length) (h : k = 0 ∨ ws.getD (k - 1) 0 ≠ 0) : ws.take k = Qj (wv (ws.take k)) := by
 refine (Qc9 ?_).symm
 intro a ha
 rcases h with h | h
 ·subst h; simp at ha
 ·by_cases h0 : k = 0
  ·subst h0; simp at ha
  ·have e : (ws.take k).getLast? = some (ws.getD (k - 1) 0) := by
    rw [List.getLast?_eq_getElem?, List.length_take, show min k ws.length = k by omega, List.getElem?_take_of_lt (by omega)]
    simp [List.getD, List.getElem?_eq_getElem (show k - 1 < ws.length by omega)]
   rw [e] at ha
   cases ha
   exact h
end Go.Proofs.Ytgfomedobfaidaa
end
section
set_option linter.unusedVariables false
set_option linter.unusedSimpArgs false
namespace Go.Proofs.Ytgfomedobfaidaa
open Go.RowKit
def Wr (T U : TypeId) (lab : Lab) (w : World) (b : Nat) (bs : List UInt8) (bad : Bool) : Prop := ∃ v, Own lab w 901 b T #[v, .bool bad] ∧ App lab w 902 U v bs.length (bs.map u8)
theorem Ql3 {T U : TypeId} {lab : Lab} {w : World} {b : Nat} {bs bs' : List UInt8} {bad bad' : Bool} (e : bs = bs') (f : bad = bad') (h : Wr T U lab w b bs bad) : Wr T U lab w b bs' bad' := by subst e; subst f; exact h
theorem Wr.mk {T U : TypeId} {lab : Lab} {w : World} {b n : Nat} {bs : List UInt8} {bad : Bool} {v : Value} (h : Own lab w 901 b T #[v, .bool bad]) (k : App lab w 902 U v n (bs.map u8)) : Wr T U lab w b bs bad := by
 have : bs.length = n := by simpa using k.len
 subst this
 exact ⟨v, h, k⟩
section
variable {ds : List Deferred} {P : Program} {N : Nat} {ops : Array Oper} {Q : Exit → Act → World → Prop} {l : List (Nat × Value)} {rest : List Oper} {w : World} {lab : Lab} {ty : TypeId}
theorem Qan {d k : Nat} {t e : TypeId} {ag : Bool} {by_ : Nat} {z : Value} {len : Nat} {parts : Array (Nat × Operand)} {pos : String} {af : Array Edge} (pv : List (Nat × Value)) (cs : List Value) (hv : Ql lab w) (ht : P.underlying t = some (.slice e)) (he : QT P e = some (ag, 1, some z, by_)) (hl : len ≤ 16777216) (hl0 : len ≠ 0) (hcl : cs.length = len)
  (hp : parts.toList.map (fun p => (p.1, ev l p.2)) = pv.map (fun p => (p.1, some p.2))) (hf : Instr.fill (fun i => some (i * 1, 1)) ((Array.range (len * 1)).map (fun j => z.cells[j % z.cells.size]!)) pv = some cs.toArray) (hd : d < N)
  (h : ∀ lab' w' v, App lab' w' k e v len cs → Stp [] lab w lab' w' → Ql lab' w' → Seq ds P N ops Q ((d, v) :: l) rest w') : Seq ds P N ops Q l (⟨some d, .buildSlice t len parts, ty, pos, af, none⟩ :: rest) w :=
 Seq.val (Qa.buildSlice pv cs ht he (by omega) (by omega) hp hf) hd (h (JT lab w.heap.size k) _ _ ⟨⟨by omega, .inr ⟨w.heap.size, len, cs.toArray, rfl, Nat.zero_le _, JU w _, Nat.le_refl _, by unfold maxLen; omega, by simp [hcl], by rw [List.toList_toArray, List.take_of_length_le (by omega)]⟩⟩, fun k' hk' => by simp [Value.ownBlock] at hk'; subst hk'; simp [JT]⟩ (Stp.alloc _ k) (hv.alloc _ k))
theorem Xo {d k : Nat} {t e : TypeId} {ag : Bool} {by_ : Nat} {z : Option Value} {pos : String} {af : Array Edge} (hv : Ql lab w) (ht : P.underlying t = some (.slice e)) (he : QT P e = some (ag, 1, z, by_)) (hd : d < N)
  (h : ∀ lab' w' v, App lab' w' k e v 0 [] → Stp [] lab w lab' w' → Ql lab' w' → Seq ds P N ops Q ((d, v) :: l) rest w') : Seq ds P N ops Q l (⟨some d, .buildSlice t 0 #[], ty, pos, af, none⟩ :: rest) w := by
 refine Seq.val (v := .slice (some ⟨w.heap.size, 0, none⟩) 0 0) (w' := w.alloc (.cells #[] e)) ?_ hd (h (JT lab w.heap.size k) _ _ ⟨⟨by simp, .inr ⟨w.heap.size, 0, #[], rfl, Nat.zero_le _, JU w _, Nat.le_refl _, by unfold maxLen; omega, by simp, by simp⟩⟩, fun k' hk' => by simp [Value.ownBlock] at hk'; subst hk'; simp [JT]⟩ (Stp.alloc _ k) (hv.alloc _ k))
 intro ρ hρ d pos af g
 simp only [execOp, Instr.buildSlice, Sem.run_bind, run_underlying ht, Result.andThen_ok, QV he]
 simp [Instr.fill, newRow, show Array.range 0 = (#[] : Array Nat) from rfl]
 all_goals rfl
theorem Qhq {t e : TypeId} {ag : Bool} {s by_ : Nat} {z : Value} {len : Nat} {parts : Array (Nat × Operand)} (pv : List (Nat × Value)) (cs : List Value) (hv : Ql lab w) (ht : P.underlying t = some (.slice e)) (he : QT P e = some (ag, s, some z, by_)) (hl : len * s ≤ 16777216) (hl0 : len * s ≠ 0)
  (hp : parts.toList.map (fun p => (p.1, ev l p.2)) = pv.map (fun p => (p.1, some p.2))) (hf : Instr.fill (fun i => some (i * s, s)) ((Array.range (len * s)).map (fun j => z.cells[j % z.cells.size]!)) pv = some cs.toArray) :
  ∃ b w', Qa P l (.buildSlice t len parts) ty w (.slice (some ⟨b, 0, none⟩) len len) w' ∧ Ja lab w' (some ⟨b, 0, none⟩) cs ∧ Stp [] lab w lab w' ∧ Ql lab w' :=
 ⟨_, _, Qa.buildSlice pv cs ht he hl hl0 hp hf, Ja.fresh hv _ e (0, 0) cs (fun j v hj => by simpa using hj), Stp.fresh _, hv.below (by rw [Yy]; omega)⟩
def JB (L : List (List UInt8)) : VP := fun lab w v => ∃ A c vs, v = .slice A L.length c ∧ L.length ≤ c ∧ c ≤ 9223372036854775807 ∧ List.length vs = L.length ∧ Ja lab w A vs ∧ ∀ (i : Nat) (bs : List UInt8), L[i]? = some bs → ∃ u, vs[i]? = some u ∧ Qe bs lab w u
theorem YJ (L : List (List UInt8)) : Pers (JB L) := ⟨fun s ⟨A, c, vs, h1, h2, h3, h4, h5, h6⟩ => ⟨A, c, vs, h1, h2, h3, h4, h5.lift s, fun i bs hi => by
 obtain ⟨u, hu, hb⟩ := h6 i bs hi
 exact ⟨u, hu, (Za _).step s hb⟩⟩⟩
theorem JB.shape {L : List (List UInt8)} {v : Value} (h : JB L lab w v) : ∃ A c, v = .slice A L.length c := by
 obtain ⟨A, c, _, h1, _⟩ := h
 exact ⟨A, c, h1⟩
theorem JB.cap {L : List (List UInt8)} {A : Option Addr} {n c : Nat} (h : JB L lab w (.slice A n c)) : n = L.length ∧ L.length ≤ c ∧ c ≤ 9223372036854775807 := by
 obtain ⟨A', c', _, h1, h2, h3, _⟩ := h
 cases h1
 exact ⟨rfl, h2, h3⟩
theorem Qj1 {x y : List (List UInt8)} (e : x = y) {v : Value} (h : JB x lab w v) : JB y lab w v := e ▸ h
theorem JB.at_ {L : List (List UInt8)} {A : Option Addr} {n c : Nat} (h : JB L lab w (.slice A n c)) (j : Nat) (hj : j < n) : ∃ vs u, List.length vs = n ∧ Ja lab w A vs ∧ vs[j]? = some u ∧ Qe (List.getD L j []) lab w u := by
 obtain ⟨A', c', vs, h1, _, _, h4, h5, h6⟩ := h
 cases h1
 obtain ⟨u, hu, hb⟩ := h6 j (L[j]) (List.getElem?_eq_getElem hj)
 refine ⟨vs, u, h4, h5, hu, ?_⟩
 simpa [List.getD, List.getElem?_eq_getElem hj] using hb
theorem JB.mk {L : List (List UInt8)} {A : Option Addr} {c : Nat} {vs : List Value} (n : Nat) (hn : L.length = n) (hc : n ≤ c) (hc' : c ≤ 9223372036854775807) (hr : Ja lab w A vs) (hvs : List.length vs = n) (h : ∀ (i : Nat) (bs : List UInt8), L[i]? = some bs → ∃ u, vs[i]? = some u ∧ Qe bs lab w u) : JB L lab w (.slice A n c) := by
 subst hn
 exact ⟨A, c, vs, rfl, hc, hc', hvs, hr, h⟩
def Qap (lab : Lab) (w : World) : List (List UInt8) → List Value → Prop
 | [], [] => True
 | b :: r, v :: s => Qe b lab w v ∧ Qap lab w r s
 | _, _ => False
theorem Qap.get : ∀ {L : List (List UInt8)} {vs : List Value}, Qap lab w L vs → ∀ (i : Nat) (bs : List UInt8), L[i]? = some bs → ∃ u, vs[i]? = some u ∧ Qe bs lab w u
 | [], [], _, i, bs, h => by simp at h
 | b :: r, v :: s, h, 0, bs, hi => by simp at hi; subst hi; exact ⟨v, rfl, h.1⟩
 | b :: r, v :: s, h, i + 1, bs, hi => Qap.get (L := r) (vs := s) h.2 i bs (by simpa using hi)
 | [], _ :: _, h, _, _, _ => h.elim
 | _ :: _, [], h, _, _, _ => h.elim
end
def YG (n : Int) : UInt64 := UInt64.ofNat (n % 18446744073709551616).toNat
theorem XL (n : Int) : IntKind.u64.wrap n = ((YG n).toNat : Int) := by
 rw [IntKind.wrap_u64, YG]; simp; omega
def be (x : UInt64) : Nat → List UInt8
 | 0 => []
 | k + 1 => (x >>> UInt64.ofNat (8 * k)).toUInt8 :: be x k
end Go.Proofs.Ytgfomedobfaidaa
end
section
set_option linter.unusedVariables false
set_option linter.unusedSimpArgs false
namespace Go.Proofs.Ytgfomedobfaidaa
open Go.RowKit
section
variable {P : Program} {N : Nat} {l : List (Nat × Value)} {w : World} {lab : Lab} {ty : TypeId}
theorem Qd7 (bs : List UInt8) : ∀ acc : List UInt8, (bs.map (fun b => (b.toNat : Int))).foldl (fun (r : ByteArray) n => r.push (UInt8.ofNat n.toNat)) ⟨acc.toArray⟩ = ⟨(acc ++ bs).toArray⟩ := by
 induction bs with
 | nil => intro acc; simp
 | cons b r ih =>
  intro acc
  rw [List.map_cons, List.foldl_cons]
  have e : (ByteArray.mk acc.toArray).push (UInt8.ofNat ((b.toNat : Int)).toNat) = ⟨(acc ++ [b]).toArray⟩ := by
   simp [ByteArray.push]
  rw [e, ih]
  simp
theorem Yx {s e t : TypeId} {x : Operand} {bs : List UInt8} {A : Option Addr} {n c : Nat} (hs : P.underlying s = some (.slice e)) (he : P.underlying e = some (.int .u8)) (hd : P.underlying t = some .string) (hx : ev l x = some (.slice A n c)) (h : Qe bs lab w (.slice A n c)) : Qa P l (.convert s t x) ty w (str bs) w := by
 intro ρ hρ d pos af g
 have hl := h.cap.1
 have key : (convert s t (.slice A n c)).run P w = .ok (str bs) w := by
  rw [run_convert_bytes_string w s t e A n c hs he hd]
  cases A with
  | none =>
   have hb : bs = [] := by
    rcases h.row with h0 | ⟨b, o, arr, t', fr, hA, _⟩
    ·simpa using h0
    ·cases hA
   subst hb
   rfl
  | some a =>
   have hc : (loadCells a n).run P w = .ok ((bs.map (fun b => (b.toNat : Int))).map (Value.int .u8)).toArray w := by
    have e1 : (bs.map (fun b => (b.toNat : Int))).map (Value.int .u8) = bs.map u8 := by simp
    rw [e1, hl, show bs.length = (bs.map u8).length by simp]
    refine run_loadCells_list w a _ fun j v hj => ?_
    obtain ⟨b, o, hA, hcell⟩ := h.row.cell hj
    cases hA
    rw [J2]; exact hcell
   rw [run_bytesToString w a n c _ hc]
   have := Qd7 bs []
   rw [List.nil_append] at this
   exact congrArg (fun z => Result.ok (Value.string z) w) this
 simp only [execOp, hρ _ _ hx, Sem.run_bind, key, Result.andThen_ok]
 rfl
end
structure VoteD where
 kind : Int
 from_ : Int
 slot : Int
 view : Int
 valid : Int
 value : List UInt8
def Qak (d : VoteD) : VP := fun lab w v => ∃ A c, v = .agg #[i64 d.kind, i64 d.from_, i64 d.slot, i64 d.view, i64 d.valid, .slice A d.value.length c] ∧ Qe d.value lab w (.slice A d.value.length c)
theorem Qjy (d : VoteD) : Pers (Qak d) := ⟨fun s ⟨A, c, h, h1⟩ => ⟨A, c, h, (Za _).step s h1⟩⟩
theorem Qak.open {d : VoteD} {lab : Lab} {w : World} {v : Value} (h : Qak d lab w v) : ∃ A c, v = .agg #[i64 d.kind, i64 d.from_, i64 d.slot, i64 d.view, i64 d.valid, .slice A d.value.length c] ∧ Qe d.value lab w (.slice A d.value.length c) := h
theorem Qak.mk {a b c d e : Int} {bs : List UInt8} {lab : Lab} {w : World} {A : Option Addr} {n m : Nat} (h : Qe bs lab w (.slice A n m)) : Qak ⟨a, b, c, d, e, bs⟩ lab w (.agg #[i64 a, i64 b, i64 c, i64 d, i64 e, .slice A n m]) := by
 obtain ⟨A', c', h1, h2⟩ := h
 cases h1
 exact ⟨_, _, rfl, _, _, rfl, h2⟩
theorem Qjz {x y : VoteD} (e : x = y) {lab : Lab} {w : World} {v : Value} (h : Qak x lab w v) : Qak y lab w v := e ▸ h
def V8 (n QiL most : Int) : Bool := decide (n < QiL) || decide (most < n)
def Qic (t : List UInt8) : List UInt8 := be (YG t.length) 2 ++ t
def Qcm (t : List UInt8) (most : Int) : List UInt8 := if most < (List.length t : Int) then [] else Qic t
def VoteD.bad (d : VoteD) : Bool := (((((false || V8 d.kind 1 5) || V8 d.from_ 1 64) || V8 d.slot 0 256) || V8 d.view 0 1048576) || V8 (d.valid + 1) 0 1048577) || decide (4096 < (List.length d.value : Int))
def VoteD.bytes (d : VoteD) : List UInt8 := [86] ++ be (YG d.kind) 1 ++ be (YG d.from_) 1 ++ be (YG d.slot) 4 ++ be (YG d.view) 4 ++ be (YG (d.valid + 1)) 4 ++ Qic d.value
theorem VoteD.chain {d : VoteD} (h : d.bad = false) : [(86 : UInt8)] ++ be (YG d.kind) (Int.toNat 1) ++ be (YG d.from_) (Int.toNat 1) ++ be (YG d.slot) (Int.toNat 4) ++ be (YG d.view) (Int.toNat 4) ++ be (YG (d.valid + 1)) (Int.toNat 4) ++ Qcm d.value 4096 = d.bytes := by
 have h' : ¬ (4096 < (List.length d.value : Int)) := by simp [VoteD.bad] at h; omega
 rw [Qcm, if_neg h']
 rfl
def by8 (n : Int) : UInt8 := UInt8.ofNat n.toNat
def QlI (n : Int) : List UInt8 := [by8 (n / 16777216), by8 (n / 65536 % 256), by8 (n / 256 % 256), by8 (n % 256)]
end Go.Proofs.Ytgfomedobfaidaa
end
section
namespace Go.Proofs.Ytgfomedobfaidaa
def QL (x : Nat) : Nat := if x = 0 then 0 else x.log2 + 1
theorem Zk {x k : Nat} : QL x ≤ k ↔ x < 2 ^ k := by
 unfold QL
 split
 ·rename_i h; subst h; simp [Nat.pow_pos]
 ·rename_i h; rw [Nat.succ_le_iff, Nat.log2_lt h]
theorem Qaa {x k : Nat} : k < QL x ↔ 2 ^ k ≤ x := by
 have := Zk (x := x) (k := k)
 omega
theorem QfR : QL 0 = 0 := rfl
theorem QcR {x j : Nat} (h : 2 ^ j ≤ x) : QL x = QL (x / 2 ^ j) + j := by
 have hp : 0 < 2 ^ j := Nat.pow_pos (by omega)
 have hj : j < QL x := Qaa.2 h
 apply Nat.le_antisymm
 ·rw [Zk, Nat.pow_add, ← Nat.div_lt_iff_lt_mul hp]
  exact Zk.1 (Nat.le_refl _)
 ·have : QL (x / 2 ^ j) ≤ QL x - j := by
   rw [Zk, Nat.div_lt_iff_lt_mul hp, ← Nat.pow_add, show QL x - j + j = QL x by omega]
   exact Zk.1 (Nat.le_refl _)
  omega
theorem Qfd (i : Nat) : ∀ (x : Nat), (Qj x).getD i 0 = UInt32.ofNat (x / 4294967296 ^ i) := by
 induction i with
 | zero =>
  intro x
  by_cases h : x = 0
  ·subst h; rw [Zn]; rfl
  ·rw [YI h]; simp
 | succ i ih =>
  intro x
  by_cases h : x = 0
  ·subst h; rw [Zn]; simp
  ·rw [YI h]
   simp only [List.getD_cons_succ]
   rw [ih, Nat.div_div_eq_div_mul, Nat.pow_succ, Nat.mul_comm 4294967296]
theorem Jg (x i : Nat) : ((Qj x).getD i 0).toNat = x / 4294967296 ^ i % 4294967296 := by
 rw [Qfd]; simp
theorem Zm {x : Nat} (h : x ≠ 0) : 0 < nw x := by rw [QeH h]; omega
theorem XZ {x : Nat} (h : x ≠ 0) : 4294967296 ^ (nw x - 1) ≤ x := by
 refine Classical.byContradiction fun hn => ?_
 have h1 := Xi (x := x) (n := nw x - 1) (by omega)
 have h2 := Zm h
 omega
theorem UP (i : Nat) : 4294967296 ^ i = 2 ^ (32 * i) := by rw [Nat.pow_mul]
theorem VT {x : Nat} (h : x ≠ 0) : ((Qj x).getD (nw x - 1) 0).toNat = x / 4294967296 ^ (nw x - 1) := by
 rw [Jg, Nat.mod_eq_of_lt]
 rw [Nat.div_lt_iff_lt_mul (Nat.pow_pos (by omega)), Nat.mul_comm, ← Nat.pow_succ]
 have := Zm h
 rw [show (nw x - 1).succ = nw x by omega]
 exact Ym x
theorem QdD {x : Nat} (h : x ≠ 0) : QL x = 32 * (nw x - 1) + QL ((Qj x).getD (nw x - 1) 0).toNat := by
 rw [VT h, UP, QcR (x := x) (j := 32 * (nw x - 1)) (by rw [← UP]; exact XZ h)]
 omega
def Zz : List UInt8 := [0, 1, 2, 2, 3, 3, 3, 3, 4, 4, 4, 4, 4, 4, 4, 4, 5, 5, 5, 5, 5, 5, 5, 5, 5, 5, 5, 5, 5, 5, 5, 5, 6, 6, 6, 6, 6, 6, 6, 6, 6, 6, 6, 6, 6, 6, 6, 6, 6, 6, 6, 6, 6, 6, 6, 6, 6, 6, 6, 6, 6, 6, 6, 6, 7, 7, 7, 7, 7, 7, 7, 7, 7, 7, 7, 7, 7, 7, 7, 7, 7, 7, 7, 7, 7, 7, 7, 7, 7, 7, 7, 7, 7, 7, 7, 7, 7, 7, 7, 7, 7, 7, 7, 7, 7, 7, 7, 7, 7, 7, 7, 7, 7, 7, 7, 7, 7, 7, 7, 7, 7, 7, 7, 7, 7, 7, 7, 7, 8, 8, 8, 8, 8, 8, 8, 8, 8, 8, 8, 8, 8, 8, 8, 8, 8, 8, 8, 8, 8, 8, 8, 8, 8, 8, 8, 8, 8, 8, 8, 8, 8, 8, 8, 8, 8, 8, 8, 8, 8, 8, 8, 8, 8, 8, 8, 8, 8, 8, 8, 8, 8, 8, 8, 8, 8, 8, 8, 8, 8, 8, 8, 8, 8, 8, 8, 8, 8, 8, 8, 8, 8, 8, 8, 8, 8, 8, 8, 8, 8, 8, 8, 8, 8, 8, 8, 8, 8, 8, 8, 8, 8, 8, 8, 8, 8, 8, 8, 8, 8, 8, 8, 8, 8, 8, 8, 8, 8, 8, 8, 8, 8, 8, 8, 8, 8, 8, 8, 8, 8, 8, 8, 8, 8, 8, 8, 8]
theorem QbH : ∀ i : Fin 256, ((Zz.getD i.val 0).toNat : Int) = (QL i.val : Int) := by decide +kernel
theorem Qjl {x : Nat} (h : x < 256) : ((Zz.getD x 0).toNat : Int) = (QL x : Int) := QbH ⟨x, h⟩
def VE (a i : Nat) : UInt8 := UInt8.ofNat (a / 256 ^ i)
def beN (a n : Nat) : List UInt8 := (List.range n).map fun j => VE a (n - 1 - j)
theorem JE (a n : Nat) : (beN a n).length = n := by simp [beN]
def VF (a n i : Nat) : List UInt8 := (List.range n).map fun j => if n - 1 - j < i then VE a (n - 1 - j) else 0
theorem K6 (a n i : Nat) : (VF a n i).length = n := by simp [VF]
theorem QaW (a n : Nat) : VF a n 0 = List.replicate n 0 := by
 apply List.ext_getElem
 ·simp [VF]
 ·intro j h1 h2
  simp [VF]
theorem Qhr {a n i : Nat} (h : i < n) : (VF a n i).set (n - 1 - i) (VE a i) = VF a n (i + 1) := by
 apply List.ext_getElem
 ·simp [VF]
 ·intro j h1 h2
  rw [List.getElem_set]
  simp [VF] at h2
  simp only [VF, List.getElem_map, List.getElem_range]
  by_cases e : n - 1 - i = j
  ·subst e
   rw [if_pos rfl, show n - 1 - (n - 1 - i) = i by omega, if_pos (by omega)]
  ·rw [if_neg e]
   by_cases c : n - 1 - j < i
   ·rw [if_pos c, if_pos (by omega)]
   ·rw [if_neg c, if_neg (by omega)]
theorem QaX {a n i : Nat} (h : a < 256 ^ i) : VF a n i = beN a n := by
 apply List.ext_getElem
 ·simp [VF, beN]
 ·intro j h1 h2
  simp only [VF, beN, List.getElem_map, List.getElem_range]
  split
  ·rfl
  ·rename_i c
   unfold VE
   have : a < 256 ^ (n - 1 - j) := Nat.lt_of_lt_of_le h (Nat.pow_le_pow_right (by omega) (by omega))
   rw [Nat.div_eq_of_lt this]
   rfl
theorem QfP (a i : Nat) : (((Qj a).getD (i / 4) 0) >>> UInt32.ofNat (8 * (i % 4))).toUInt8 = VE a i := by
 rw [← UInt8.toNat_inj, VE, UInt32.toNat_toUInt8, UInt32.toNat_shiftRight, Jg, UInt32.toNat_ofNat_of_lt' (by simp [UInt32.size]; omega), Nat.mod_eq_of_lt (a := 8 * (i % 4)) (by omega), Nat.shiftRight_eq_div_pow, UInt8.toNat_ofNat']
 have e1 : 256 ^ i = 4294967296 ^ (i / 4) * 2 ^ (8 * (i % 4)) := by
  rw [UP, ← Nat.pow_add, show 32 * (i / 4) + 8 * (i % 4) = 8 * i by omega, Nat.pow_mul]
 rw [e1, ← Nat.div_div_eq_div_mul]
 generalize a / 4294967296 ^ (i / 4) = m
 have h4 : i % 4 < 4 := Nat.mod_lt _ (by omega)
 generalize i % 4 = r at h4
 have : r = 0 ∨ r = 1 ∨ r = 2 ∨ r = 3 := by omega
 rcases this with rfl | rfl | rfl | rfl <;> simp <;> omega
theorem UZ (a : Nat) : a < 256 ^ ((QL a + 7) / 8) := by
 rw [show 256 = 2 ^ 8 from rfl, ← Nat.pow_mul]
 exact Nat.lt_of_lt_of_le (Zk.1 (Nat.le_refl _)) (Nat.pow_le_pow_right (by omega) (by omega))
theorem Zv (a : Nat) : QL a ≤ 32 * nw a := by rw [Zk, ← UP]; exact Ym a
end Go.Proofs.Ytgfomedobfaidaa
end
section
set_option linter.unusedVariables false
set_option linter.unusedSimpArgs false
namespace Go.Proofs.Ytgfomedobfaidaa
open Go.RowKit
def ElV (cs : List Value) (j : Nat) : VP := fun lab w v => ∃ A, v = .pointer (Option.map (fun zq => Addr.add zq j) A) ∧ Ja lab w A cs
theorem QcW (cs : List Value) (j : Nat) : Pers (ElV cs j) := ⟨fun s ⟨A, h, h1⟩ => ⟨A, h, h1.lift s⟩⟩
theorem Qe.release {lab : Lab} {w : World} {d b n : Nat} {t : TypeId} {ws : List UInt8} (h : Own lab w d b t (ws.map u8).toArray) (hn : ws.length = n) (hc : n ≤ 9223372036854775807) : Qe ws (Q5 lab d) w (.slice (some ⟨b, 0, none⟩) n n) := by
 subst hn
 exact ⟨_, _, rfl, Nat.le_refl _, hc, Ja.release h 0 _ (fun j v hj => by simpa using hj)⟩
theorem Qo.release {lab : Lab} {w : World} {d b n : Nat} {t : TypeId} {ws : List UInt32} (h : Own lab w d b t (ws.map u32).toArray) (hn : ws.length = n) (hc : n ≤ 9223372036854775807) : Qo ws (Q5 lab d) w (.slice (some ⟨b, 0, none⟩) n n) := by
 subst hn
 exact ⟨_, _, rfl, Nat.le_refl _, hc, Ja.release h 0 _ (fun j v hj => by simpa using hj)⟩
section
variable {P : Program} {N : Nat} {l : List (Nat × Value)} {w : World} {lab : Lab} {ty : TypeId}
theorem Yb {t : TypeId} {x y : Operand} {s : List UInt8} {k : IntKind} {i : Int} (j : Nat) (ht : P.underlying t = some .string) (hx : ev l x = some (str s)) (hy : ev l y = some (.int k i)) (hij : i = (j : Int)) (hj : j < s.length) : Qa P l (.index t x y) ty w (u8 (s.getD j 0)) w := by
 intro ρ hρ d pos af g
 subst hij
 have e : (⟨s.toArray⟩ : ByteArray)[j]? = some (s.getD j 0) := by
  rw [ByteArray.getElem?_lt' _ _ (by simpa [ByteArray.size] using hj)]
  simp [List.getD, List.getElem?_eq_getElem hj, ByteArray.get]
  rfl
 simp only [execOp, Instr.index, hρ _ _ hx, hρ _ _ hy, asIntOf, Sem.run_bind, Sem.run_pure, Result.andThen_ok, run_underlying ht, Int.natCast_nonneg, if_true, Int.toNat_natCast, e]
end
theorem XP (x : UInt32) (k : Nat) (hk : k < 32) : (x >>> UInt32.ofNat k).toNat = x.toNat / 2 ^ k := by
 rw [UInt32.toNat_shiftRight, UInt32.toNat_ofNat_of_lt' (by simp [UInt32.size]; omega), Nat.mod_eq_of_lt hk, Nat.shiftRight_eq_div_pow]
theorem VW {y : UInt32} (h : y.toNat < 256) : ((Zz.getD y.toUInt8.toNat 0).toNat : Int) = (QL y.toNat : Int) := by
 rw [UInt32.toNat_toUInt8, Nat.mod_eq_of_lt h]; exact Qjl h
theorem VX {x : UInt32} (k : Nat) (h : 2 ^ k ≤ x.toNat) (hk : k < 32) : QL x.toNat = QL (x >>> UInt32.ofNat k).toNat + k := by
 rw [XP _ _ hk]; exact QcR h
theorem QiK {x : UInt32} (h1 : (65536 : Int) ≤ x.toNat) (h2 : (256 : Int) ≤ (x >>> UInt32.ofNat 16).toNat) : (16 : Int) + 8 + ((Zz.getD (x >>> UInt32.ofNat 16 >>> UInt32.ofNat 8).toUInt8.toNat 0).toNat : Int) = (QL x.toNat : Int) := by
 have hx := x.toNat_lt
 have e1 := VX (x := x) 16 (by omega) (by omega)
 have e2 := VX (x := x >>> UInt32.ofNat 16) 8 (by omega) (by omega)
 have e3 := XP (x >>> UInt32.ofNat 16) 8 (by omega)
 have e4 := XP x 16 (by omega)
 rw [VW (by rw [e3, e4]; omega)]
 omega
theorem QiJ {x : UInt32} (h1 : (65536 : Int) ≤ x.toNat) (h2 : ¬ (256 : Int) ≤ (x >>> UInt32.ofNat 16).toNat) : (16 : Int) + ((Zz.getD (x >>> UInt32.ofNat 16).toUInt8.toNat 0).toNat : Int) = (QL x.toNat : Int) := by
 have e1 := VX (x := x) 16 (by omega) (by omega)
 rw [VW (by omega)]
 omega
theorem QiI {x : UInt32} (h1 : ¬ (65536 : Int) ≤ x.toNat) (h2 : (256 : Int) ≤ x.toNat) : (0 : Int) + 8 + ((Zz.getD (x >>> UInt32.ofNat 8).toUInt8.toNat 0).toNat : Int) = (QL x.toNat : Int) := by
 have e2 := VX (x := x) 8 (by omega) (by omega)
 have e3 := XP x 8 (by omega)
 rw [VW (by omega)]
 omega
theorem QiH {x : UInt32} (h2 : ¬ (256 : Int) ≤ x.toNat) : (0 : Int) + ((Zz.getD x.toUInt8.toNat 0).toNat : Int) = (QL x.toNat : Int) := by
 rw [VW (by omega)]
 omega
theorem QfU {a : Nat} (h : ¬ ((nw a : Nat) : Int) = 0) : a ≠ 0 := fun e => by subst e; simp [Yl] at h
theorem QfT {a : Nat} (h : ((nw a : Nat) : Int) = 0) : (0 : Int) = ((QL a : Nat) : Int) := by
 have : a = 0 := by
  have h0 : Qj a = [] := List.eq_nil_of_length_eq_zero (by have : (Qj a).length = nw a := rfl; omega)
  rw [← Yq a, h0]; rfl
 subst this; rfl
theorem QcS {a : Nat} (h : ¬ ((nw a : Nat) : Int) = 0) : (32 : Int) * (((nw a : Nat) : Int) - 1) + ((QL (List.getD (Qj a) ((((nw a : Nat) : Int) - 1).toNat) (0 : UInt32)).toNat : Nat) : Int) = ((QL a : Nat) : Int) := by
 have h1 := QfU h
 have h2 := Zm h1
 rw [show (((nw a : Nat) : Int) - 1).toNat = nw a - 1 by omega]
 have := QdD h1
 omega
theorem U1 {a k : Nat} {size : Int} (h0 : 0 ≤ size) (h : ((k : Nat) : Int) < size) : List.set (VF a (Int.toNat size) k) (size - 1 - ((k : Nat) : Int)).toNat ((List.getD (Qj a) (((k : Nat) : Int) / 4).toNat (0 : UInt32)) >>> UInt32.ofNat (8 * (((k : Nat) : Int) % 4)).toNat).toUInt8 = VF a (Int.toNat size) (k + 1) := by
 rw [show (((k : Nat) : Int) / 4).toNat = k / 4 by omega, show (8 * (((k : Nat) : Int) % 4)).toNat = 8 * (k % 4) by omega, QfP, show (size - 1 - ((k : Nat) : Int)).toNat = size.toNat - 1 - k by omega]
 exact Qhr (by omega)
end Go.Proofs.Ytgfomedobfaidaa
end
section
namespace Go.Proofs.Ytgfomedobfaidaa
def nv (b : List UInt8) : Nat := b.foldl (fun n x => 256 * n + x.toNat) 0
theorem QgW (b : List UInt8) : ∀ n : Nat, b.foldl (fun n x => 256 * n + x.toNat) n = n * 256 ^ b.length + nv b := by
 induction b with
 | nil => intro n; simp [nv]
 | cons x r ih =>
  intro n
  have e0 : nv (x :: r) = List.foldl (fun n (x : UInt8) => 256 * n + x.toNat) (256 * 0 + x.toNat) r := rfl
  rw [List.foldl_cons, e0, ih, ih (256 * 0 + x.toNat), List.length_cons, Nat.pow_succ, Nat.add_mul]
  have e : 256 * n * 256 ^ r.length = n * (256 ^ r.length * 256) := by rw [Nat.mul_comm 256 n, Nat.mul_assoc, Nat.mul_comm 256]
  rw [e]; simp; omega
theorem Qb6 (x : UInt8) (r : List UInt8) : nv (x :: r) = x.toNat * 256 ^ r.length + nv r := by
 rw [nv, List.foldl_cons, QgW]; simp
theorem Qi3 (b : List UInt8) : nv b < 256 ^ b.length := by
 induction b with
 | nil => simp [nv]
 | cons x r ih =>
  rw [Qb6, List.length_cons, Nat.pow_succ]
  have hx := x.toNat_lt
  have : x.toNat * 256 ^ r.length ≤ 255 * 256 ^ r.length := Nat.mul_le_mul_right _ (by omega)
  omega
def VO (b : List UInt8) (k : Nat) : Nat := nv (b.drop (b.length - k))
theorem Qds (b : List UInt8) : VO b 0 = 0 := by
 unfold VO
 rw [List.drop_of_length_le (by omega)]; rfl
theorem Qc3 (b : List UInt8) {k : Nat} (h : k ≤ b.length) : VO b k < 256 ^ k := by
 have := Qi3 (b.drop (b.length - k))
 rw [List.length_drop, show b.length - (b.length - k) = k by omega] at this
 exact this
theorem Qdt (b : List UInt8) {k : Nat} (h : k < b.length) : VO b (k + 1) = VO b k + (b.getD (b.length - 1 - k) 0).toNat * 256 ^ k := by
 unfold VO
 rw [show b.length - (k + 1) = b.length - 1 - k by omega, List.drop_eq_getElem_cons (by omega), Qb6, List.length_drop, show b.length - 1 - k + 1 = b.length - k by omega, show b.length - (b.length - k) = k by omega]
 simp [List.getD, List.getElem?_eq_getElem (show b.length - 1 - k < b.length by omega)]
 omega
theorem Un (b : List UInt8) {k : Nat} (h : b.length ≤ k) : VO b k = nv b := by
 unfold VO
 rw [show b.length - k = 0 by omega]; rfl
def X0 (b : List UInt8) (k : Nat) : List UInt32 := (List.range ((b.length + 3) / 4)).map fun j => UInt32.ofNat (VO b k / 4294967296 ^ j)
theorem Qb7 (b : List UInt8) (k : Nat) : (X0 b k).length = (b.length + 3) / 4 := by simp [X0]
theorem QeL (b : List UInt8) : List.replicate ((((b.length : Nat) : Int) + 3) / 4).toNat (0 : UInt32) = X0 b 0 := by
 apply List.ext_getElem
 ·simp [X0]; omega
 ·intro j h1 h2
  simp [X0, Qds]
theorem Qgl (n : Nat) : ∀ V : Nat, V < 4294967296 ^ n → wv ((List.range n).map fun j => UInt32.ofNat (V / 4294967296 ^ j)) = V := by
 induction n with
 | zero => intro V h; simp at h; subst h; rfl
 | succ n ih =>
  intro V h
  rw [List.range_succ_eq_map, List.map_cons, List.map_map, wv]
  have e : ((fun j => UInt32.ofNat (V / 4294967296 ^ j)) ∘ Nat.succ) = fun j => UInt32.ofNat (V / 4294967296 / 4294967296 ^ j) := by
   funext j
   simp only [Function.comp_apply]
   rw [Nat.div_div_eq_div_mul, Nat.pow_succ, Nat.mul_comm 4294967296]
  rw [e, ih _ (by rw [Nat.pow_succ] at h; rw [Nat.div_lt_iff_lt_mul (by omega)]; exact h)]
  simp
  omega
theorem QeN {b : List UInt8} {k : Nat} (h : b.length ≤ k) : wv (X0 b k) = nv b := by
 unfold X0
 rw [Qgl, Un b h]
 rw [Un b h, UP]
 refine Nat.lt_of_lt_of_le (Qi3 b) ?_
 rw [show 256 = 2 ^ 8 from rfl, ← Nat.pow_mul]
 exact Nat.pow_le_pow_right (by omega) (by omega)
theorem QdV {V x k q r : Nat} (hV : V < 256 ^ k) (hx : x < 256) (hk : k = 4 * q + r) (hr : r < 4) : (UInt32.ofNat (V / 4294967296 ^ q)) ||| ((UInt32.ofNat x) <<< UInt32.ofNat (8 * r)) = UInt32.ofNat ((V + x * 256 ^ k) / 4294967296 ^ q) := by
 have e1 : 256 ^ k = 2 ^ (8 * r) * 4294967296 ^ q := by
  rw [UP, ← Nat.pow_add, show 256 = 2 ^ 8 from rfl, ← Nat.pow_mul]; congr 1; omega
 have hp : 0 < 4294967296 ^ q := Nat.pow_pos (by omega)
 have hu : V / 4294967296 ^ q < 2 ^ (8 * r) := by rw [Nat.div_lt_iff_lt_mul hp, ← e1]; exact hV
 have e2 : (V + x * 256 ^ k) / 4294967296 ^ q = V / 4294967296 ^ q + x * 2 ^ (8 * r) := by
  rw [e1, ← Nat.mul_assoc, Nat.add_mul_div_right _ _ hp]
 rw [e2]
 generalize V / 4294967296 ^ q = u at hu
 have hr8 : 2 ^ (8 * r) ≤ 2 ^ 24 := Nat.pow_le_pow_right (by omega) (by omega)
 have hxr : x * 2 ^ (8 * r) < 256 * 2 ^ (8 * r) := Nat.mul_lt_mul_of_pos_right hx (Nat.pow_pos (by omega))
 have hs : x * 2 ^ (8 * r) ≤ 255 * 2 ^ (8 * r) := Nat.mul_le_mul_right _ (by omega)
 rw [← UInt32.toNat_inj, UInt32.toNat_or, UInt32.toNat_shiftLeft, UInt32.toNat_ofNat_of_lt' (n := 8 * r) (by simp [UInt32.size]; omega), UInt32.toNat_ofNat_of_lt' (n := u) (by simp [UInt32.size]; omega), UInt32.toNat_ofNat_of_lt' (n := x) (by simp [UInt32.size]; omega), Nat.mod_eq_of_lt (a := 8 * r) (by omega), Nat.shiftLeft_eq, Nat.mod_eq_of_lt (a := x * 2 ^ (8 * r)) (by omega), UInt32.toNat_ofNat_of_lt' (by simp [UInt32.size]; omega)]
 have := Nat.shiftLeft_add_eq_or_of_lt hu x
 rw [Nat.shiftLeft_eq] at this
 rw [Nat.or_comm, ← this, Nat.add_comm]
theorem Qgo {V x k j : Nat} (h : 4 * (j + 1) ≤ k) : UInt32.ofNat ((V + x * 256 ^ k) / 4294967296 ^ j) = UInt32.ofNat (V / 4294967296 ^ j) := by
 have hp : 0 < 4294967296 ^ j := Nat.pow_pos (by omega)
 have e1 : 256 ^ k = 4294967296 * 256 ^ (k - 4 * (j + 1)) * 4294967296 ^ j := by
  rw [show 4294967296 = 256 ^ 4 from rfl, ← Nat.pow_mul, ← Nat.pow_add, ← Nat.pow_add]; congr 1; omega
 rw [e1, ← Nat.mul_assoc, Nat.add_mul_div_right _ _ hp, ← UInt32.toNat_inj]
 simp only [UInt32.toNat_ofNat']
 rw [show x * (4294967296 * 256 ^ (k - 4 * (j + 1))) = 4294967296 * (x * 256 ^ (k - 4 * (j + 1))) by rw [← Nat.mul_assoc, Nat.mul_comm x, Nat.mul_assoc]]
 omega
theorem QeM {b : List UInt8} {k : Nat} (h : k < b.length) : List.set (X0 b k) (((k : Nat) : Int) / 4).toNat ((List.getD (X0 b k) (((k : Nat) : Int) / 4).toNat (0 : UInt32)) ||| ((List.getD b (((b.length : Nat) : Int) - 1 - ((k : Nat) : Int)).toNat (0 : UInt8)).toUInt32 <<< UInt32.ofNat (8 * (((k : Nat) : Int) % 4)).toNat)) = X0 b (k + 1) := by
 rw [show (((k : Nat) : Int) / 4).toNat = k / 4 by omega, show (8 * (((k : Nat) : Int) % 4)).toNat = 8 * (k % 4) by omega, show (((b.length : Nat) : Int) - 1 - ((k : Nat) : Int)).toNat = b.length - 1 - k by omega]
 have hV := Qc3 b (k := k) (by omega)
 have hS := Qdt b h
 generalize hx : (b.getD (b.length - 1 - k) 0) = x at hS
 have hxl := x.toNat_lt
 have hx32 : x.toUInt32 = UInt32.ofNat x.toNat := by rw [← UInt32.toNat_inj]; simp
 have hg : (X0 b k).getD (k / 4) 0 = UInt32.ofNat (VO b k / 4294967296 ^ (k / 4)) := by
  unfold X0
  simp [List.getD, List.getElem?_map, List.getElem?_range (show k / 4 < (b.length + 3) / 4 by omega)]
 rw [hg, hx32, QdV hV (by omega) (show k = 4 * (k / 4) + k % 4 by omega) (by omega), ← hS]
 apply List.ext_getElem
 ·simp [X0]
 ·intro j h1 h2
  rw [List.getElem_set]
  simp [X0] at h2
  split
  ·rename_i e
   subst e
   simp [X0]
  ·rename_i e
   simp only [X0, List.getElem_map, List.getElem_range]
   rw [hS]
   by_cases c : j < k / 4
   ·rw [Qgo (by omega)]
   ·have hlt1 : VO b k < 4294967296 ^ j := by
     refine Nat.lt_of_lt_of_le hV ?_
     rw [show 4294967296 = 256 ^ 4 from rfl, ← Nat.pow_mul]
     exact Nat.pow_le_pow_right (by omega) (by omega)
    have hlt2 : VO b (k + 1) < 4294967296 ^ j := by
     refine Nat.lt_of_lt_of_le (Qc3 b (by omega)) ?_
     rw [show 4294967296 = 256 ^ 4 from rfl, ← Nat.pow_mul]
     exact Nat.pow_le_pow_right (by omega) (by omega)
    rw [hS] at hlt2
    rw [Nat.div_eq_of_lt hlt1, Nat.div_eq_of_lt hlt2]
end Go.Proofs.Ytgfomedobfaidaa
end
section
set_option linter.unusedVariables false
set_option linter.unusedSimpArgs false
namespace Go.Proofs.Ytgfomedobfaidaa
open Go.RowKit
def Zq (bs : List Bool) : VP := fun lab w v => ∃ A c, v = .slice A bs.length c ∧ bs.length ≤ c ∧ c ≤ 9223372036854775807 ∧ Ja lab w A (bs.map Value.bool)
theorem V4 (bs : List Bool) : Pers (Zq bs) := ⟨fun s ⟨A, c, h1, h2, h3, h4⟩ => ⟨A, c, h1, h2, h3, h4.lift s⟩⟩
section
variable {lab : Lab} {w : World}
theorem Zq.shape {bs : List Bool} {v : Value} (h : Zq bs lab w v) : ∃ A c, v = .slice A bs.length c := by
 obtain ⟨A, c, h1, _⟩ := h
 exact ⟨A, c, h1⟩
theorem Zq.shapeN {bs : List Bool} {v : Value} (h : Zq bs lab w v) {n : Nat} (e : bs.length = n) : ∃ A c, v = .slice A n c := e ▸ h.shape
theorem Zq.nil (lab : Lab) (w : World) : Zq [] lab w (.slice none 0 0) := ⟨none, 0, rfl, by simp, by omega, Ja.nil⟩
theorem Qj5 {x y : List Bool} (e : x = y) {v : Value} (h : Zq x lab w v) : Zq y lab w v := e ▸ h
theorem Zq.row {bs : List Bool} {A : Option Addr} {n c : Nat} (h : Zq bs lab w (.slice A n c)) : Ja lab w A (bs.map Value.bool) := by
 obtain ⟨A', c', h1, _, _, h2⟩ := h
 cases h1
 exact h2
theorem Zq.cap {bs : List Bool} {A : Option Addr} {n c : Nat} (h : Zq bs lab w (.slice A n c)) : n = bs.length ∧ bs.length ≤ c ∧ c ≤ 9223372036854775807 := by
 obtain ⟨A', c', h1, h2, h3, _⟩ := h
 cases h1
 exact ⟨rfl, h2, h3⟩
theorem Zq.takeN {ws : List Bool} {A : Option Addr} {n c : Nat} (h : Zq ws lab w (.slice A n c)) (j : Nat) (hj : j ≤ n) : Zq (ws.take j) lab w (.slice A j c) := by
 have h1 := h.cap
 have h2 := h.row.take j
 have e : (ws.take j).length = j := by rw [List.length_take]; omega
 exact ⟨A, c, by rw [e], by rw [e]; omega, h1.2.2, by rw [List.map_take]; exact h2⟩
theorem Qjw {ws : List Bool} {A : Option Addr} {n c : Nat} (h : Zq ws lab w (.slice A n c)) (j : Nat) (hj : j ≤ n) : Zq (ws.drop j) lab w (.slice (if c = j then A else A.map (·.add (j * 1))) (n - j) (c - j)) := by
 have h1 := h.cap
 have h2 := h.row.cutLo j (c := c) (by simp; omega)
 have e : (ws.drop j).length = n - j := by rw [List.length_drop]; omega
 exact ⟨_, _, by rw [e], by rw [e]; omega, by omega, by rw [List.map_drop]; exact h2⟩
theorem Zq.release {d b n : Nat} {t : TypeId} {ws : List Bool} (h : Own lab w d b t (ws.map Value.bool).toArray) (hn : ws.length = n) (hc : n ≤ 9223372036854775807) : Zq ws (Q5 lab d) w (.slice (some ⟨b, 0, none⟩) n n) := by
 subst hn
 exact ⟨_, _, rfl, Nat.le_refl _, hc, Ja.release h 0 _ (fun j v hj => by simpa using hj)⟩
theorem JB.nil (lab : Lab) (w : World) : JB [] lab w (.slice none 0 0) := ⟨none, 0, [], rfl, by simp, by omega, rfl, Ja.nil, fun i bs h => by simp at h⟩
def Jd (L : List Nat) : VP := fun lab w v => ∃ A c vs, v = .slice A L.length c ∧ L.length ≤ c ∧ c ≤ 9223372036854775807 ∧ List.length vs = L.length ∧ Ja lab w A vs ∧ ∀ (i : Nat) (x : Nat), L[i]? = some x → ∃ u, vs[i]? = some u ∧ Qi x lab w (.agg #[u])
theorem V3 (L : List Nat) : Pers (Jd L) := ⟨fun s ⟨A, c, vs, h1, h2, h3, h4, h5, h6⟩ => ⟨A, c, vs, h1, h2, h3, h4, h5.lift s, fun i bs hi => by
 obtain ⟨u, hu, hb⟩ := h6 i bs hi
 exact ⟨u, hu, (Jq _).step s hb⟩⟩⟩
theorem Jd.shape {L : List Nat} {v : Value} (h : Jd L lab w v) : ∃ A c, v = .slice A L.length c := by
 obtain ⟨A, c, _, h1, _⟩ := h
 exact ⟨A, c, h1⟩
theorem Jd.cap {L : List Nat} {A : Option Addr} {n c : Nat} (h : Jd L lab w (.slice A n c)) : n = L.length ∧ L.length ≤ c ∧ c ≤ 9223372036854775807 := by
 obtain ⟨A', c', _, h1, h2, h3, _⟩ := h
 cases h1
 exact ⟨rfl, h2, h3⟩
theorem Jd.nil (lab : Lab) (w : World) : Jd [] lab w (.slice none 0 0) := ⟨none, 0, [], rfl, by simp, by omega, rfl, Ja.nil, fun i bs h => by simp at h⟩
theorem Qj4 {x y : List Nat} (e : x = y) {v : Value} (h : Jd x lab w v) : Jd y lab w v := e ▸ h
theorem Jd.at_ {L : List Nat} {A : Option Addr} {n c : Nat} (h : Jd L lab w (.slice A n c)) (j : Nat) (hj : j < n) : ∃ vs u, List.length vs = n ∧ Ja lab w A vs ∧ vs[j]? = some u ∧ Qi (List.getD L j 0) lab w (.agg #[u]) := by
 obtain ⟨A', c', vs, h1, _, _, h4, h5, h6⟩ := h
 cases h1
 obtain ⟨u, hu, hb⟩ := h6 j (L[j]) (List.getElem?_eq_getElem hj)
 refine ⟨vs, u, h4, h5, hu, ?_⟩
 simpa [List.getD, List.getElem?_eq_getElem hj] using hb
def Yg (L : List (List Bool)) : VP := fun lab w v => ∃ A c vs, v = .slice A L.length c ∧ L.length ≤ c ∧ c ≤ 9223372036854775807 ∧ List.length vs = L.length ∧ Ja lab w A vs ∧ ∀ (i : Nat) (x : List Bool), L[i]? = some x → ∃ u, vs[i]? = some u ∧ Zq x lab w u
theorem U4 (L : List (List Bool)) : Pers (Yg L) := ⟨fun s ⟨A, c, vs, h1, h2, h3, h4, h5, h6⟩ => ⟨A, c, vs, h1, h2, h3, h4, h5.lift s, fun i bs hi => by
 obtain ⟨u, hu, hb⟩ := h6 i bs hi
 exact ⟨u, hu, (V4 _).step s hb⟩⟩⟩
theorem Yg.shape {L : List (List Bool)} {v : Value} (h : Yg L lab w v) : ∃ A c, v = .slice A L.length c := by
 obtain ⟨A, c, _, h1, _⟩ := h
 exact ⟨A, c, h1⟩
theorem Yg.cap {L : List (List Bool)} {A : Option Addr} {n c : Nat} (h : Yg L lab w (.slice A n c)) : n = L.length ∧ L.length ≤ c ∧ c ≤ 9223372036854775807 := by
 obtain ⟨A', c', _, h1, h2, h3, _⟩ := h
 cases h1
 exact ⟨rfl, h2, h3⟩
theorem Yg.nil (lab : Lab) (w : World) : Yg [] lab w (.slice none 0 0) := ⟨none, 0, [], rfl, by simp, by omega, rfl, Ja.nil, fun i bs h => by simp at h⟩
theorem Qj3 {x y : List (List Bool)} (e : x = y) {v : Value} (h : Yg x lab w v) : Yg y lab w v := e ▸ h
theorem Yg.at_ {L : List (List Bool)} {A : Option Addr} {n c : Nat} (h : Yg L lab w (.slice A n c)) (j : Nat) (hj : j < n) : ∃ vs u, List.length vs = n ∧ Ja lab w A vs ∧ vs[j]? = some u ∧ Zq (List.getD L j []) lab w u := by
 obtain ⟨A', c', vs, h1, _, _, h4, h5, h6⟩ := h
 cases h1
 obtain ⟨u, hu, hb⟩ := h6 j (L[j]) (List.getElem?_eq_getElem hj)
 refine ⟨vs, u, h4, h5, hu, ?_⟩
 simpa [List.getD, List.getElem?_eq_getElem hj] using hb
end
section
variable {P : Program} {N : Nat} {l : List (Nat × Value)} {w : World} {lab : Lab} {ty : TypeId}
theorem JZ {t : TypeId} {x : Operand} {A : Option Addr} {by_ : Nat} {z : Option Value} {cs : List Value} {j : Nat} {v : Value} (ht : QT P t = some (true, 1, z, by_)) (hx : ev l x = some (.pointer (A.map (·.add j)))) (hr : Ja lab w A cs) (hv : cs[j]? = some v) : Qa P l (.load t x) ty w (.agg #[v]) w := by
 obtain ⟨b, o, rfl, hc⟩ := hr.cell hv
 refine Zl (cs := [v]) ht hx fun i u hi => ?_
 have : i = 0 := by
  by_cases h0 : i = 0
  ·exact h0
  ·rw [List.getElem?_eq_none (by simp; omega)] at hi; cases hi
 subst this
 simp at hi
 subst hi
 simpa [J2] using hc
theorem Qcf {t yt : TypeId} {x y : Operand} {a b : UInt8} (hx : ev l x = some (u8 a)) (hy : ev l y = some (u8 b)) : Qa P l (.binOp .add t x y yt) ty w (u8 (a + b)) w :=
 QE hx hy (by
  have e : IntKind.u8.wrap ((a.toNat : Int) + b.toNat) = ((a + b).toNat : Int) := by rw [IntKind.wrap_u8', UInt8.toNat_add]; omega
  simp only [binOp, Op.intArith, ne_eq, not_true, if_false, e]; rfl)
end
end Go.Proofs.Ytgfomedobfaidaa
end
section
namespace Go.Proofs.Ytgfomedobfaidaa
def Ql9 : List Bool → Nat
 | [] => 0
 | b :: r => b.toNat + 2 * Ql9 r
def ob (V n : Nat) : List Bool := (List.range n).map fun j => decide (V / 2 ^ j % 2 = 1)
theorem QjX (a : Nat) : ∀ n, nv (beN a n) = a % 256 ^ n := by
 intro n
 induction n with
 | zero => simp [beN, nv, Nat.mod_one]
 | succ n ih =>
  have e : beN a (n + 1) = VE a n :: beN a n := by
   unfold beN
   rw [List.range_succ_eq_map, List.map_cons, List.map_map]
   congr 1
   apply List.map_congr_left
   intro j hj
   simp only [Function.comp_apply]
   rw [show n + 1 - 1 - j.succ = n - 1 - j by omega]
  rw [e, Qb6, ih, JE, Nat.pow_succ, Nat.mod_mul, VE]
  simp only [UInt8.toNat_ofNat']
  rw [Nat.mul_comm, show (2 : Nat) ^ 8 = 256 from rfl]
  omega
def QiL (a : Nat) : List UInt8 := beN a ((QL a + 7) / 8)
end Go.Proofs.Ytgfomedobfaidaa
end
