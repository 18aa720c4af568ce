import Derived.Test.YtgfomedobfaidaaMSignKeys1
import Derived.Test.YtgfomedobfaidaaProg
set_option maxHeartbeats 8000000
set_option maxRecDepth 1000000
/-
  The row of SignKeys: that the law answers true of every input; part 2 of 10: what the proof needs, in order.
-/
section
set_option linter.unusedVariables false
set_option linter.unusedSimpArgs false
namespace Go.Proofs.Ytgfomedobfaidaa
open Go.RowKit
def J7 (lab : Lab) (w : World) : List Nat → List Value → Prop
 | [], [] => True
 | b :: r, v :: s => Qj b lab w (.agg #[v]) ∧ J7 lab w r s
 | _, _ => False
def Z0 (lab : Lab) (w : World) : List (List Bool) → List Value → Prop
 | [], [] => True
 | b :: r, v :: s => Zn b lab w v ∧ Z0 lab w r s
 | _, _ => False
section
variable {lab : Lab} {w : World}
theorem J7.step {T : List Nat} {lab' : Lab} {w' : World} (st : Stp T lab w lab' w') : ∀ {L : List Nat} {vs : List Value}, J7 lab w L vs → J7 lab' w' L vs
 | [], [], _ => trivial
 | _ :: _, _ :: _, h => ⟨(Jp _).step st h.1, J7.step st h.2⟩
 | [], _ :: _, h => h.elim
 | _ :: _, [], h => h.elim
theorem Z0.step {T : List Nat} {lab' : Lab} {w' : World} (st : Stp T lab w lab' w') : ∀ {L : List (List Bool)} {vs : List Value}, Z0 lab w L vs → Z0 lab' w' L vs
 | [], [], _ => trivial
 | _ :: _, _ :: _, h => ⟨(Vy _).step st h.1, Z0.step st h.2⟩
 | [], _ :: _, h => h.elim
 | _ :: _, [], h => h.elim
theorem Ux {x : Nat} {v : Value} (hx : Qj x lab w (.agg #[v])) : ∀ {L : List Nat} {vs : List Value}, J7 lab w L vs → J7 lab w (L ++ [x]) (vs ++ [v])
 | [], [], _ => ⟨hx, trivial⟩
 | _ :: _, _ :: _, h => ⟨h.1, Ux hx h.2⟩
 | [], _ :: _, h => h.elim
 | _ :: _, [], h => h.elim
theorem QdG {x : List Bool} {v : Value} (hx : Zn x lab w v) : ∀ {L : List (List Bool)} {vs : List Value}, Z0 lab w L vs → Z0 lab w (L ++ [x]) (vs ++ [v])
 | [], [], _ => ⟨hx, trivial⟩
 | _ :: _, _ :: _, h => ⟨h.1, QdG hx h.2⟩
 | [], _ :: _, h => h.elim
 | _ :: _, [], h => h.elim
theorem J7.len : ∀ {L : List Nat} {vs : List Value}, J7 lab w L vs → vs.length = L.length
 | [], [], _ => rfl
 | _ :: _, _ :: _, h => by simp [J7.len h.2]
 | [], _ :: _, h => h.elim
 | _ :: _, [], h => h.elim
theorem Z0.len : ∀ {L : List (List Bool)} {vs : List Value}, Z0 lab w L vs → vs.length = L.length
 | [], [], _ => rfl
 | _ :: _, _ :: _, h => by simp [Z0.len h.2]
 | [], _ :: _, h => h.elim
 | _ :: _, [], h => h.elim
theorem J7.get : ∀ {L : List Nat} {vs : List Value}, J7 lab w L vs → ∀ (i : Nat) (x : Nat), L[i]? = some x → ∃ u, vs[i]? = some u ∧ Qj x lab w (.agg #[u])
 | [], [], _, i, bs, h => by simp at h
 | b :: r, v :: s, h, 0, bs, hi => by simp at hi; subst hi; exact ⟨v, rfl, h.1⟩
 | b :: r, v :: s, h, i + 1, bs, hi => J7.get (L := r) (vs := s) h.2 i bs (by simpa using hi)
 | [], _ :: _, h, _, _, _ => h.elim
 | _ :: _, [], h, _, _, _ => h.elim
theorem Z0.get : ∀ {L : List (List Bool)} {vs : List Value}, Z0 lab w L vs → ∀ (i : Nat) (x : List Bool), L[i]? = some x → ∃ u, vs[i]? = some u ∧ Zn x lab w u
 | [], [], _, i, bs, h => by simp at h
 | b :: r, v :: s, h, 0, bs, hi => by simp at hi; subst hi; exact ⟨v, rfl, h.1⟩
 | b :: r, v :: s, h, i + 1, bs, hi => Z0.get (L := r) (vs := s) h.2 i bs (by simpa using hi)
 | [], _ :: _, h, _, _, _ => h.elim
 | _ :: _, [], h, _, _, _ => h.elim
theorem QcW {d n c : Nat} {t : TypeId} {A : Option Addr} {L : List Nat} {cs : List Value} (h : App lab w d t (.slice A n c) n cs) (e : J7 (Q7 lab d) w L cs) : Jf L (Q7 lab d) w (.slice A n c) := by
 have h1 := h.row
 have h2 := h.len
 have h3 := e.len
 have : n = L.length := by omega
 subst this
 exact ⟨A, c, cs, rfl, h1.2.1, h1.2.2, h3, h1.1, e.get⟩
theorem App.nums {d n c : Nat} {t : TypeId} {A : Option Addr} {L : List (List Bool)} {cs : List Value} (h : App lab w d t (.slice A n c) n cs) (e : Z0 (Q7 lab d) w L cs) : Yh L (Q7 lab d) w (.slice A n c) := by
 have h1 := h.row
 have h2 := h.len
 have h3 := e.len
 have : n = L.length := by omega
 subst this
 exact ⟨A, c, cs, rfl, h1.2.1, h1.2.2, h3, h1.1, e.get⟩
def QkH (lab : Lab) (w : World) (d : Nat) (t : TypeId) (v : Value) (n : Nat) (L : List Nat) : Prop := ∃ cs, App lab w d t v n cs ∧ J7 lab w L cs
def Ql8 (lab : Lab) (w : World) (d : Nat) (t : TypeId) (v : Value) (n : Nat) (L : List (List Bool)) : Prop := ∃ cs, App lab w d t v n cs ∧ Z0 lab w L cs
theorem QkH.mk {d n n' : Nat} {t : TypeId} {v : Value} {L L' : List Nat} {cs : List Value} (e : L = L') (en : n = n') (h : App lab w d t v n cs) (h1 : J7 lab w L cs) : QkH lab w d t v n' L' := by subst e; subst en; exact ⟨cs, h, h1⟩
theorem Ql8.mk {d n n' : Nat} {t : TypeId} {v : Value} {L L' : List (List Bool)} {cs : List Value} (e : L = L') (en : n = n') (h : App lab w d t v n cs) (h1 : Z0 lab w L cs) : Ql8 lab w d t v n' L' := by subst e; subst en; exact ⟨cs, h, h1⟩
theorem Z0.append : ∀ {L : List (List Bool)} {vs : List Value} {L' : List (List Bool)} {vs' : List Value}, Z0 lab w L vs → Z0 lab w L' vs' → Z0 lab w (L ++ L') (vs ++ vs')
 | [], [], _, _, _, h => h
 | _ :: _, _ :: _, _, _, h, h' => ⟨h.1, Z0.append h.2 h'⟩
 | [], _ :: _, _, _, h, _ => h.elim
 | _ :: _, [], _, _, h, _ => h.elim
theorem Z0.of : ∀ {L : List (List Bool)} {vs : List Value}, vs.length = L.length → (∀ (i : Nat) (x : List Bool), L[i]? = some x → ∃ u, vs[i]? = some u ∧ Zn x lab w u) → Z0 lab w L vs
 | [], [], _, _ => trivial
 | b :: r, v :: s, hl, h => by
  obtain ⟨u, hu, hb⟩ := h 0 b rfl
  simp at hu
  subst hu
  exact ⟨hb, Z0.of (by simpa using hl) fun i x hi => h (i + 1) x (by simpa using hi)⟩
 | [], _ :: _, hl, _ => by simp at hl
 | _ :: _, [], hl, _ => by simp at hl
theorem Z0.cell1 : ∀ {L : List (List Bool)} {vs : List Value}, Z0 lab w L vs → ∀ u ∈ vs, u.oneCell' = true
 | [], [], _, u, hu => by cases hu
 | _ :: _, _ :: _, h, u, hu => by
  rcases List.mem_cons.1 hu with rfl | hu
  ·obtain ⟨A2, c2, rfl⟩ := Zn.shape h.1; rfl
  ·exact Z0.cell1 h.2 u hu
 | [], _ :: _, h, _, _ => h.elim
 | _ :: _, [], h, _, _ => h.elim
theorem Yh.cells {L : List (List Bool)} {A : Option Addr} {n c : Nat} (h : Yh L lab w (.slice A n c)) : ∃ vs, List.length vs = n ∧ QY lab w A vs ∧ Z0 lab w L vs ∧ ∀ u ∈ vs, u.oneCell' = true := by
 obtain ⟨A', c', vs, h1, _, _, h4, h5, h6⟩ := h
 cases h1
 have e := Z0.of h4 h6
 exact ⟨vs, h4, h5, e, e.cell1⟩
theorem QkC {x : List Bool} {v : Value} {b : Nat} (hr : QY lab w (some ⟨b, 0, none⟩) [v]) (hx : Zn x lab w v) : Yh [x] lab w (.slice (some ⟨b, 0, none⟩) 1 1) :=
 ⟨_, _, [v], rfl, Nat.le_refl _, by decide, rfl, hr, (show Z0 lab w [x] [v] from ⟨hx, trivial⟩).get⟩
end
end Go.Proofs.Ytgfomedobfaidaa
end
section
set_option linter.unusedVariables false
set_option linter.unusedSimpArgs false
namespace Go.Proofs.Ytgfomedobfaidaa
open Go.RowKit
class Per (V : VP) : Prop where
 p : Pers V
theorem up {V : VP} [h : Per V] {T : List Nat} {lab : Lab} {w : World} {lab' : Lab} {w' : World} {v : Value} (s : Stp T lab w lab' w') (q : V lab w v) : V lab' w' v := h.p.step s q
instance (u : Value) : Per (Is u) := ⟨JG u⟩
instance (x : Nat) : Per (Qj x) := ⟨Jp x⟩
instance (x : List UInt32) : Per (Qp x) := ⟨JT x⟩
instance (x : List UInt8) : Per (Qi x) := ⟨JV x⟩
instance (x : List Bool) : Per (Zn x) := ⟨Vy x⟩
instance (x : List (List UInt8)) : Per (J9 x) := ⟨YH x⟩
instance (x : List Nat) : Per (Jf x) := ⟨Vx x⟩
instance (x : List (List Bool)) : Per (Yh x) := ⟨Uv x⟩
instance (x : Nat) : Per (JN x) := ⟨Vw x⟩
instance (x : GroupD) : Per (Jn x) := ⟨K3 x⟩
instance {V U : VP} [h : Per V] [k : Per U] : Per (Zl V U) := ⟨Qgf h.p k.p⟩
instance {V U X : VP} [h : Per V] [k : Per U] [j : Per X] : Per (QdP V U X) := ⟨Qge h.p k.p j.p⟩
instance (b : Nat) (cs : List Value) : Per (Ro b cs) := ⟨Qjj b cs⟩
instance (cs : List Value) (j : Nat) : Per (ElV cs j) := ⟨QcU cs j⟩
def QhJ (V : VP) (R : Lab → World → Prop) : VP := fun lab w v => V lab w v ∧ R lab w
theorem Own.up {T : List Nat} {lab lab' : Lab} {w w' : World} {d b : Nat} {t : TypeId} {arr : Array Value} (h : Own lab w d b t arr) (s : Stp T lab w lab' w') (hd : d ∉ T := by decide) : Own lab' w' d b t arr := h.lift s hd
theorem App.up {T : List Nat} {lab lab' : Lab} {w w' : World} {d n : Nat} {t : TypeId} {v : Value} {cs : List Value} (h : App lab w d t v n cs) (s : Stp T lab w lab' w') (hd : d ∉ T := by decide) : App lab' w' d t v n cs := h.lift s hd
def Ke (d : Nat) : List (Nat × Nat) → Nat
 | [] => 0
 | (a, b) :: r => bif Nat.beq a d then b else Ke d r
def YY (ds : List (Nat × Nat)) : List Nat := ds.map (·.1)
theorem Qc6 {d : Nat} : ∀ {ds : List (Nat × Nat)}, d ∉ YY ds → Ke d ds = 0
 | [], _ => rfl
 | (a, b) :: r, h => by
  have h1 : d ≠ a := fun e => h (by simp [YY, e])
  have h2 : d ∉ YY r := fun e => h (by simp [YY] at e ⊢; exact .inr e)
  have h3 : Nat.beq a d = false := by
   cases hb : Nat.beq a d with
   | false => rfl
   | true => exact absurd (Nat.eq_of_beq_eq_true hb).symm h1
  simp [Ke, h3, Qc6 h2]
def Qf0 (ds : List (Nat × Nat)) (lab : Lab) : Lab := fun k => (lab k).map fun d => Ke d ds
theorem XZ {ds : List (Nat × Nat)} {lab : Lab} {k : Nat} : Qf0 ds lab k = none ↔ lab k = none := by unfold Qf0; cases lab k <;> simp
theorem Qm.entM {ds : List (Nat × Nat)} {lab : Lab} {w : World} (h : Qm lab w) : Qm (Qf0 ds lab) w := fun k hk => XZ.2 (h k hk)
theorem QaH (ds : List (Nat × Nat)) (lab : Lab) (w : World) : ∃ U, Stp U lab w (Qf0 ds lab) w :=
 ⟨(List.range w.heap.size).filterMap lab, rfl, rfl, rfl, Nat.le_refl _, fun k hk e => ⟨XZ.2 e, rfl⟩, fun k d hk e hd => absurd (List.mem_filterMap.2 ⟨k, by simpa using hk, e⟩) hd⟩
theorem Own.entM {ds : List (Nat × Nat)} {lab : Lab} {w : World} {d b : Nat} {t : TypeId} {arr : Array Value} (h : Own lab w d b t arr) (c : Nat) (hc : Ke d ds = c) : Own (Qf0 ds lab) w c b t arr := ⟨by unfold Qf0; rw [h.1]; exact congrArg some hc, h.2⟩
theorem App.entM {ds : List (Nat × Nat)} {lab : Lab} {w : World} {d n : Nat} {t : TypeId} {v : Value} {cs : List Value} (h : App lab w d t v n cs) (c : Nat) (hc : Ke d ds = c) : App (Qf0 ds lab) w c t v n cs := ⟨h.1, fun k hk => by unfold Qf0; rw [h.2 k hk]; exact congrArg some hc⟩
structure Back (lab' : Lab) (w' : World) (lab2 : Lab) (bk : List (Nat × Nat)) : Prop where
 u : ∃ U, Stp U lab' w' lab2 w'
 v : Qm lab2 w'
 l : ∀ (c k : Nat), c ≠ 0 → c ∈ YY bk → lab' k = some c → lab2 k = some (Ke c bk)
theorem Own.back {lab' : Lab} {w' : World} {lab2 : Lab} {bk : List (Nat × Nat)} {c b : Nat} {t : TypeId} {arr : Array Value} (h : Own lab' w' c b t arr) (B : Back lab' w' lab2 bk) (d : Nat) (hd : Ke c bk = d := by rfl) (h0 : c ≠ 0 := by decide) (hk : c ∈ YY bk := by decide) : Own lab2 w' d b t arr := ⟨hd ▸ B.l c b h0 hk h.1, h.2⟩
theorem App.back {lab' : Lab} {w' : World} {lab2 : Lab} {bk : List (Nat × Nat)} {c n : Nat} {t : TypeId} {v : Value} {cs : List Value} (h : App lab' w' c t v n cs) (B : Back lab' w' lab2 bk) (d : Nat) (hd : Ke c bk = d := by rfl) (h0 : c ≠ 0 := by decide) (hk : c ∈ YY bk := by decide) : App lab2 w' d t v n cs := ⟨h.1, fun k e => hd ▸ B.l c k h0 hk (h.2 k e)⟩
theorem Qhy {T : List Nat} {ds : List (Nat × Nat)} {lab lab' : Lab} {w w' : World} (bk : List (Nat × Nat)) (s : Stp T (Qf0 ds lab) w lab' w') (hT : (0 : Nat) ∉ T) (hv : Qm lab w) (hv' : Qm lab' w') :
  ∃ lab2, Stp (YY ds) lab w lab2 w' ∧ Back lab' w' lab2 bk := by
 let bck : Option Nat → Option Nat := fun o => o.bind fun c => if c ∈ YY bk then some (Ke c bk) else none
 let lab2 : Lab := fun k => if k < w.heap.size then (match lab k with
  | none => none
  | some d => if d ∈ YY ds then bck (lab' k) else some d) else bck (lab' k)
 have Uh : ∀ k d, k < w.heap.size → lab k = some d → d ∉ YY ds → lab' k = some 0 ∧ w'.heap[k]? = w.heap[k]? := fun k d hk e hd =>
  s.own k 0 hk (by simp [Qf0, e, Qc6 hd]) hT
 have hnone : ∀ k, lab' k = none → lab2 k = none := by
  intro k hk
  by_cases hlt : k < w.heap.size
  ·simp only [lab2, if_pos hlt]
   cases hl : lab k with
   | none => rfl
   | some d =>
    by_cases hd : d ∈ YY ds
    ·simp [hd, hk, bck]
    ·have := (Uh k d hlt hl hd).1
     rw [hk] at this; cases this
  ·simp [lab2, hlt, hk, bck]
 refine ⟨lab2, ⟨s.os, s.tape, s.output, s.size, fun k hk e => ?_, fun k d hk e hd => ?_⟩, ⟨(List.range w'.heap.size).filterMap lab', rfl, rfl, rfl, Nat.le_refl _, fun k hk e => ⟨hnone k e, rfl⟩, fun k d hk e hd => absurd (List.mem_filterMap.2 ⟨k, by simpa using hk, e⟩) hd⟩, fun k hk => hnone k (hv' k hk), fun c k h0 hc e => ?_⟩
 ·refine ⟨by simp only [lab2, if_pos hk, e], (s.free k hk (XZ.2 e)).2⟩
 ·refine ⟨by simp only [lab2, if_pos hk, e]; rw [if_neg hd], (Uh k d hk e hd).2⟩
 ·by_cases hlt : k < w.heap.size
  ·simp only [lab2, if_pos hlt]
   cases hl : lab k with
   | none =>
    have := (s.free k hlt (XZ.2 hl)).1
    rw [e] at this; cases this
   | some d =>
    by_cases hd : d ∈ YY ds
    ·simp [hd, e, bck, hc]
    ·have := (Uh k d hlt hl hd).1
     rw [e] at this; exact absurd (Option.some.inj this) h0
  ·simp [lab2, hlt, e, bck, hc]
theorem QX {lab : Lab} {w : World} (hv : Qm lab w) : ∃ L, Qm L w ∧ (∃ U, Stp U lab w L w) ∧ ∀ {T : List Nat} {lab' : Lab} {w' : World}, Stp T L w lab' w' → (0 : Nat) ∉ T → (∃ U, Stp U lab' w' lab w') ∧ Below w.heap.size w w' :=
 ⟨ent lab, hv.ent, Xw lab w, fun s hT => ⟨s.out hT hv, s.leave hT⟩⟩
def Eff (T : List Nat) (lab : Lab) (w : World) (R : VP) (e : Ending) (w' : World) : Prop := ∃ v lab', e = .returned v ∧ R lab' w' v ∧ Stp T lab w lab' w' ∧ Qm lab' w'
theorem Eff.of {lab : Lab} {w : World} {V : VP} {e : Ending} {w' : World} (hv : Qm lab w) (h : ∃ v, e = .returned v ∧ V lab w' v ∧ Below w.heap.size w w') : Eff [] lab w V e w' := by
 obtain ⟨v, h1, h2, h3⟩ := h
 exact ⟨v, lab, h1, h2, Stp.below h3, hv.below h3.size⟩
theorem QcE {lab : Lab} {w : World} (ds : List (Nat × Nat)) (hv : Qm lab w) : ∃ L, Qm L w ∧ (∃ U, Stp U lab w L w) ∧ (∀ {d b : Nat} {t : TypeId} {arr : Array Value} (c : Nat), Ke d ds = c → Own lab w d b t arr → Own L w c b t arr) ∧ (∀ {d n : Nat} {t : TypeId} {v : Value} {cs : List Value} (c : Nat), Ke d ds = c → App lab w d t v n cs → App L w c t v n cs) ∧
  ∀ {T : List Nat} {lab' : Lab} {w' : World} (bk : List (Nat × Nat)), Stp T L w lab' w' → (0 : Nat) ∉ T → Qm lab' w' → ∃ lab2, Stp (YY ds) lab w lab2 w' ∧ Back lab' w' lab2 bk :=
 ⟨Qf0 ds lab, hv.entM, QaH ds lab w, fun c hc h => h.entM c hc, fun c hc h => h.entM c hc, fun bk s hT hv' => Qhy bk s hT hv hv'⟩
section
variable {ds : List Deferred} {P : Program} {N : Nat} {ops : Array Oper} {Q : Exit → Act → World → Prop} {l : List (Nat × Value)} {rest : List Oper} {w : World} {lab : Lab} {ty : TypeId} {pos : String} {af : Array Edge}
theorem sv {d : Nat} {op : Op} {v : Value} {w' : World} (hr : Qa P l op ty w v w') (h : Seq ds P N ops Q ((d, v) :: l) rest w') (hd : d < N := by decide) : Seq ds P N ops Q l (⟨some d, op, ty, pos, af, none⟩ :: rest) w := Seq.val hr hd h
theorem Yo {d : Nat} (k : Nat) {t : TypeId} {x : Operand} {v : Value} (cs : List Value) (hv : Qm lab w) (hx : ev l x = some v) (hc : v.cells = cs.toArray)
  (h : ∀ b lab' w', Own lab' w' k b t cs.toArray → Stp [] lab w lab' w' → Qm lab' w' → Seq ds P N ops Q ((d, .pointer (some ⟨b, 0, none⟩)) :: l) rest w') (hd : d < N := by decide) : Seq ds P N ops Q l (⟨some d, .box t x, ty, pos, af, none⟩ :: rest) w := Seq.box cs hv hx hc hd fun lab' w' b => h b lab' w'
theorem QK {d : Nat} (k : Nat) {t : TypeId} {ag : Bool} {n by_ : Nat} {z : Value} (cs : List Value) (hv : Qm lab w) (ht : QU P t = some (ag, n, some z, by_)) (hc : z.cells = cs.toArray)
  (h : ∀ b lab' w', Own lab' w' k b t cs.toArray → Stp [] lab w lab' w' → Qm lab' w' → Seq ds P N ops Q ((d, .pointer (some ⟨b, 0, none⟩)) :: l) rest w') (hd : d < N := by decide) : Seq ds P N ops Q l (⟨some d, .alloc t, ty, pos, af, none⟩ :: rest) w := Seq.alloc cs hv ht hc hd fun lab' w' b => h b lab' w'
theorem Q1 {k b o : Nat} {t t' : TypeId} {x y : Operand} {v : Value} {ag : Bool} {n by_ : Nat} {z : Option Value} {arr : Array Value} (arr' : List Value) (hv : Qm lab w) (hO : Own lab w k b t' arr) (ht : QU P t = some (ag, n, z, by_)) (hx : ev l x = some (.pointer (some ⟨b, o, none⟩))) (hy : ev l y = some v)
  (hn : v.cells.size = n) (ho : o + n ≤ arr.size) (h1 : v.cells.toList.all (·.oneCell') = true) (ha : (arr.toList.take o ++ v.cells.toList ++ arr.toList.drop (o + n)).toArray = arr'.toArray)
  (h : ∀ w', Own lab w' k b t' arr'.toArray → Stp [k] lab w lab w' → Qm lab w' → Seq ds P N ops Q l rest w') : Seq ds P N ops Q l (⟨none, .store t x y, ty, pos, af, none⟩ :: rest) w := Seq.store arr' hv hO ht hx hy hn ho h1 ha h
theorem Q4 {d : Nat} {f : Nat} {xs : List Operand} {tys : Array TypeId} {vs : List Value} {V : VP} (hf : Qv P f) (hv : Qm lab w) (hx : evs l xs = some vs)
  (hc : Calls P f vs.toArray w (fun e w' => ∃ v, e = .returned v ∧ V lab w' v ∧ Below w.heap.size w w'))
  (h : ∀ v w', V lab w' v → Stp [] lab w lab w' → Qm lab w' → Seq ds P N ops Q ((d, v) :: l) rest w') (hd : d < N := by decide) : Seq ds P N ops Q l (⟨some d, .call ⟨.value (.func f), xs.toArray, tys⟩, ty, pos, af, none⟩ :: rest) w := Ky hf hv hx hd hc h
theorem ZP {d : Nat} {f : Nat} {xs : List Operand} {tys : Array TypeId} {vs : List Value} {R : VP} {T : List Nat} (hf : Qv P f) (hx : evs l xs = some vs)
  (hc : Calls P f vs.toArray w (Eff T lab w R))
  (h : ∀ v lab' w', R lab' w' v → Stp T lab w lab' w' → Qm lab' w' → Seq ds P N ops Q ((d, v) :: l) rest w') (hd : d < N := by decide) : Seq ds P N ops Q l (⟨some d, .call ⟨.value (.func f), xs.toArray, tys⟩, ty, pos, af, none⟩ :: rest) w :=
 Seq.call (R := fun v w' => ∃ lab', R lab' w' v ∧ Stp T lab w lab' w' ∧ Qm lab' w') hf hx hd (Calls.mono hc fun _ _ ⟨v, lab', h0, h1⟩ => ⟨v, h0, lab', h1⟩) fun v w' ⟨lab', h1, h2, h3⟩ => h v lab' w' h1 h2 h3
theorem rsr {id : Nat} {os : List Oper} {y : Code} (h : Seq ds P N os.toArray (Exit.then (y.wp P Q) Q) l os w) : Run ds P N Q (.seq (.region id os.toArray false) y) l w := Run.seq (Run.region h)
theorem nsr {id : Nat} {os : List Oper} {y : Code} (h : Seq ds P N os.toArray (Exit.then (y.wp P Q) Q) l os w) : Seq ds P N ops (Exit.then ((Code.seq (.region id os.toArray false) y).wp P Q) Q) l [] w := Seq.next (Run.seq (Run.region h))
inductive PV where
 | ex (u : Value)
 | v (V : VP)
def PV.vp : PV → VP
 | .ex u => Is u
 | .v V => V
def nth : List PV → Nat → Option PV
 | [], _ => none
 | x :: _, 0 => some x
 | _ :: r, n + 1 => nth r n
def Uc (Φ : List PV) (i : Nat) : VP := match nth Φ i with
 | some x => x.vp
 | none => fun _ _ _ => True
def Ask (Φ : List PV) (lab : Lab) (w : World) (K : List (Nat × Value) → Prop) : List (Nat × Nat) → List (Nat × Value) → Prop
 | [], l => K l
 | (j, d) :: r, l => match nth Φ j with
  | some (.ex u) => Ask Φ lab w K r ((d, u) :: l)
  | some (.v V) => ∀ v, V lab w v → Ask Φ lab w K r ((d, v) :: l)
  | none => ∀ v, Ask Φ lab w K r ((d, v) :: l)
theorem Ask.elim {Φ : List PV} {lab : Lab} {w : World} {K : List (Nat × Value) → Prop} {a : Act} : ∀ {us : List (Nat × Nat)} {l : List (Nat × Value)}, Ask Φ lab w K us l → Fr ds N l a → (∀ j d, (j, d) ∈ us → ∃ v, a.tmps[d]? = some v ∧ Uc Φ j lab w v) → ∃ l', Fr ds N l' a ∧ K l'
 | [], l, h, hf, _ => ⟨l, hf, h⟩
 | (j, d) :: r, l, h, hf, hl => by
  obtain ⟨v, hv, hp⟩ := hl j d (by simp)
  have hr : ∀ j d, (j, d) ∈ r → ∃ v, a.tmps[d]? = some v ∧ Uc Φ j lab w v := fun j d hm => hl j d (List.mem_cons_of_mem _ hm)
  unfold Ask at h
  unfold Uc at hp
  split at h
  ·rename_i u hn
   rw [hn] at hp
   have : v = u := hp
   subst this
   exact Ask.elim h (hf.ext hv) hr
  ·rename_i V hn
   rw [hn] at hp
   exact Ask.elim (h v hp) (hf.ext hv) hr
  ·exact Ask.elim (h v) (hf.ext hv) hr
class PerT (T : List Nat) (V : VP) : Prop where
 p : ∀ {lab : Lab} {w : World} {lab' : Lab} {w' : World} {v : Value}, Stp T lab w lab' w' → V lab w v → V lab' w' v
instance {T : List Nat} {V : VP} [h : Per V] : PerT T V := ⟨fun s q => h.p.step s q⟩
instance (k : Nat) (t : TypeId) (cs : List Value) : PerT [] (Qjp k t cs) := ⟨fun s h => (Qgd k t cs).step s h⟩
def QkI (d : Nat) (t : TypeId) (n : Nat) (cs : List Value) : VP := fun lab w v => App lab w d t v n cs
instance (d : Nat) (t : TypeId) (n : Nat) (cs : List Value) : PerT [] (QkI d t n cs) := ⟨fun s h => h.lift s (by simp)⟩
class PerL (T : List Nat) (Φ : List PV) : Prop where
 p : ∀ x ∈ Φ, ∀ {lab : Lab} {w : World} {lab' : Lab} {w' : World} {v : Value}, Stp T lab w lab' w' → x.vp lab w v → x.vp lab' w' v
instance {T : List Nat} : PerL T [] := ⟨fun _ h => by cases h⟩
instance {T : List Nat} {u : Value} {r : List PV} [h : PerL T r] : PerL T (.ex u :: r) := ⟨fun x hx => by
 rcases List.mem_cons.1 hx with rfl | hx
 ·intro lab w lab' w' v s q; exact q
 ·exact h.p x hx⟩
instance {T : List Nat} {V : VP} {r : List PV} [k : PerT T V] [h : PerL T r] : PerL T (.v V :: r) := ⟨fun x hx => by
 rcases List.mem_cons.1 hx with rfl | hx
 ·intro lab w lab' w' v s q; exact k.p s q
 ·exact h.p x hx⟩
theorem QeM : ∀ {Φ : List PV} {i : Nat} {x : PV}, nth Φ i = some x → x ∈ Φ
 | [], i, x, h => by simp [nth] at h
 | y :: r, 0, x, h => by simp [nth] at h; simp [h]
 | y :: r, i + 1, x, h => List.mem_cons_of_mem _ (QeM (Φ := r) (by simpa [nth] using h))
theorem Qg2 {T : List Nat} {Φ : List PV} (h : PerL T Φ) (i : Nat) {lab : Lab} {w : World} {lab' : Lab} {w' : World} {v : Value} (s : Stp T lab w lab' w') (q : Uc Φ i lab w v) : Uc Φ i lab' w' v := by
 unfold Uc at q ⊢
 cases hn : nth Φ i with
 | some x => rw [hn] at q; exact h.p x (QeM hn) s q
 | none => trivial
def QaI (ops : Array Oper) (i : Nat) (deps : List (Nat × Nat)) : Bool := deps.all fun p => JW ops i p.1 && (match Zz ops p.1 with | some d => Nat.beq d p.2 | none => false)
def QkR (ops : Array Oper) (m : Nat) (us : List (Nat × Nat)) : Bool := us.all fun p => Nat.blt p.1 m && (match Zz ops p.1 with | some d => Nat.beq d p.2 | none => false)
def OpL (ds : List Deferred) (P : Program) (N : Nat) (ops : Array Oper) (Q : Exit → Act → World → Prop) (l : List (Nat × Value)) (lab : Lab) (w : World) (Φ : List PV) (T U : List Nat) (i : Nat) : Prop := ∀ w0, Stp [] lab w lab w0 → K0 ds P N ops Q l lab w0 (Uc Φ) T U i
theorem Qcv (m : Nat) {Φ : List PV} (us : List (Nat × Nat)) (hok : Kt ops m l = true) (hus : QkR ops m us = true) (hv : Qm lab w) [hper : PerL [] Φ]
  (hlaw : Yw (fun i => OpL ds P N ops Q l lab w Φ [] [] i) 0 m)
  (htail : ∀ lab' w', Qm lab' w' → Stp [] lab w lab' w' → Ask Φ lab' w' (fun l' => Seq ds P N ops Q l' (ops.toList.drop m) w') us l) : ∀ a, Fr ds N l a → wpAny P .any ops Q ops.size (Array.replicate ops.size false) a { w with drawn := w.drawn + 1 } := by
 refine QfV hok hv (Uc Φ) (fun i _ {_ _ _ _ _} s q => Qg2 hper i s q) (fun w0 s0 i hi => QkM hlaw i hi w0 s0) ?_
 intro lab' w' a hv' s hf hl
 obtain ⟨l', hf', hK⟩ := Ask.elim (htail lab' w' hv' s) hf fun j d hm => by
  have h1 := List.all_eq_true.1 hus _ hm
  simp only [Bool.and_eq_true] at h1
  have hj : j < m := lB9 h1.1
  have hd : Zz ops j = some d := by
   have h2 := h1.2
   split at h2
   ·rename_i d' hd'; rw [hd', Nat.eq_of_beq_eq_true h2]
   ·cases h2
  exact hl j hj d hd
 exact hK a hf'
theorem Run.open {id : Nat} (m : Nat) {Φ : List PV} (us : List (Nat × Nat)) (hm : P.follows .mixedOrders = true) (hok : Kt ops m l = true) (hus : QkR ops m us = true) (hv : Qm lab w) [hper : PerL [] Φ]
  (hlaw : Yw (fun i => OpL ds P N ops Q l lab w Φ [] [] i) 0 m)
  (htail : ∀ lab' w', Qm lab' w' → Stp [] lab w lab' w' → Ask Φ lab' w' (fun l' => Seq ds P N ops Q l' (ops.toList.drop m) w') us l) : Run ds P N Q (.region id ops true) l w := fun a ha => wp_region_any hm (Qcv m us hok hus hv hlaw htail a ha)
theorem YQ {Φ : List PV} {i : Nat} {deps : List (Nat × Nat)} (hdep : QaI ops i deps = true) {lab : Lab} {w : World} {a : Act} (hl : ∀ j, JW ops i j = true → QdO ops (Uc Φ) j lab w a) : ∀ j d, (j, d) ∈ deps → ∃ v, a.tmps[d]? = some v ∧ Uc Φ j lab w v := fun j d hm => by
 have h1 := List.all_eq_true.1 hdep _ hm
 simp only [Bool.and_eq_true] at h1
 have hd : Zz ops j = some d := by
  have h2 := h1.2
  split at h2
  ·rename_i d' hd'; rw [hd', Nat.eq_of_beq_eq_true h2]
  ·cases h2
 exact hl j h1.1 d hd
theorem Yy {t e : TypeId} {ag : Bool} {s by_ : Nat} {z : Value} {len : Nat} {parts : Array (Nat × Operand)} {Ψ : VP} (pv : List (Nat × Value)) (cs : List Value) (hv : Qm lab w) (ht : P.underlying t = some (.slice e)) (he : QU P e = some (ag, s, some z, by_)) (hl : len * s ≤ 16777216) (hl0 : len * s ≠ 0)
  (hp : parts.toList.map (fun p => (p.1, ev l p.2)) = pv.map (fun p => (p.1, some p.2))) (hf : Instr.fill (fun i => some (i * s, s)) ((Array.range (len * s)).map (fun j => z.cells[j % z.cells.size]!)) pv = some cs.toArray)
  (hk : ∀ b w', QY lab w' (some ⟨b, 0, none⟩) cs → Stp [] lab w lab w' → Ψ lab w' (.slice (some ⟨b, 0, none⟩) len len)) :
  ∃ v' lab' w', Qa P l (.buildSlice t len parts) ty w v' w' ∧ Qm lab' w' ∧ Stp [] lab w lab' w' ∧ Ψ lab' w' v' := by
 obtain ⟨b, w', h1, h2, h3, h4⟩ := Qhk (P := P) (ty := ty) pv cs hv ht he hl hl0 hp hf
 exact ⟨_, lab, w', h1, h4, h3, hk b w' h2 h3⟩
variable {Φ : List PV} {T U : List Nat} {i d : Nat} {op : Op}
theorem oN (deps : List (Nat × Nat)) (ho : ops[i]? = some ⟨some d, op, ty, pos, af, none⟩) (hdep : QaI ops i deps = true)
  (h : ∀ lab' w', Qm lab' w' → Stp T lab w lab' w' → Ask Φ lab' w' (fun l' => ∃ v lab2 w2, Qa P l' op ty w' v w2 ∧ Qm lab2 w2 ∧ Stp U lab' w' lab2 w2 ∧ Uc Φ i lab2 w2 v) deps l) (hd : d < N := by decide) : OpL ds P N ops Q l lab w Φ T U i := fun w0 s0 =>
 J3 ho hd fun lab' w' a hv hs hf hl => by
  obtain ⟨l', hf', v, lab2, w2, h1, h2, h3, h4⟩ := Ask.elim (h lab' w' hv ((s0.trans hs).more (by simp))) hf (YQ hdep hl)
  exact ⟨l', v, lab2, w2, hf', h1, h2, h3, h4⟩
theorem oP (deps : List (Nat × Nat)) (ho : ops[i]? = some ⟨some d, op, ty, pos, af, none⟩) (hdep : QaI ops i deps = true)
  (h : ∀ lab' w', Qm lab' w' → Stp T lab w lab' w' → Ask Φ lab' w' (fun l' => ∃ v, Qa P l' op ty w' v w' ∧ Uc Φ i lab' w' v) deps l) (hd : d < N := by decide) : OpL ds P N ops Q l lab w Φ T [] i := fun w0 s0 =>
 J3 ho hd fun lab' w' a hv hs hf hl => by
  obtain ⟨l', hf', v, h1, h4⟩ := Ask.elim (h lab' w' hv ((s0.trans hs).more (by simp))) hf (YQ hdep hl)
  exact ⟨l', v, lab', w', hf', h1, hv, Stp.refl _ _, h4⟩
theorem oX {u : Value} (deps : List (Nat × Nat)) (ho : ops[i]? = some ⟨some d, op, ty, pos, af, none⟩) (hdep : QaI ops i deps = true) (hu : nth Φ i = some (.ex u))
  (h : ∀ lab' w', Ask Φ lab' w' (fun l' => Qa P l' op ty w' u w') deps l) (hd : d < N := by decide) : OpL ds P N ops Q l lab w Φ T [] i := fun w0 s0 =>
 J3 ho hd fun lab' w' a hv hs hf hl => by
  obtain ⟨l', hf', h1⟩ := Ask.elim (h lab' w') hf (YQ hdep hl)
  exact ⟨l', u, lab', w', hf', h1, hv, Stp.refl _ _, by unfold Uc; rw [hu]; rfl⟩
theorem oC {f : Nat} {xs : List Operand} {tys : Array TypeId} (deps : List (Nat × Nat)) (ho : ops[i]? = some ⟨some d, .call ⟨.value (.func f), xs.toArray, tys⟩, ty, pos, af, none⟩) (hdep : QaI ops i deps = true) (hf : Qv P f)
  (h : ∀ lab' w', Qm lab' w' → Stp T lab w lab' w' → Ask Φ lab' w' (fun l' => ∃ vs, evs l' xs = some vs ∧ Calls P f vs.toArray w' (fun e w2 => ∃ v, e = .returned v ∧ Uc Φ i lab' w2 v ∧ Below w'.heap.size w' w2)) deps l) (hd : d < N := by decide) : OpL ds P N ops Q l lab w Φ T [] i := fun w0 s0 =>
 Qc9 ho hd hf fun lab' w' a hv hs hfr hl => by
  obtain ⟨l', hf', vs, h1, h4⟩ := Ask.elim (h lab' w' hv ((s0.trans hs).more (by simp))) hfr (YQ hdep hl)
  exact ⟨l', vs, hf', h1, h4⟩
theorem QbL {g : Nat} {b b' : Bool} (hg : nth Φ g = some (.ex (.bool b'))) (he : b' = b) : ∀ (lab : Lab) (w : World) (v : Value), Uc Φ g lab w v → v = .bool b := fun _ _ _ h => by
 unfold Uc at h; rw [hg] at h; subst he; exact h
theorem QL {g dg : Nat} {b b' : Bool} (deps : List (Nat × Nat)) (ho : ops[i]? = some ⟨some d, op, ty, pos, af, some (g, b)⟩) (hdg : Zz ops g = some dg) (hw : JW ops i g = true) (hg : nth Φ g = some (.ex (.bool b'))) (he : b' = b) (hdep : QaI ops i deps = true)
  (h : ∀ lab' w', Qm lab' w' → Stp T lab w lab' w' → Ask Φ lab' w' (fun l' => ∃ v, Qa P l' op ty w' v w' ∧ Uc Φ i lab' w' v) deps l) (hd : d < N := by decide) : OpL ds P N ops Q l lab w Φ T [] i := fun w0 s0 =>
 Qd0 ho hd hdg hw (QbL hg he) fun lab' w' a hv hs hf hl => by
  obtain ⟨l', hf', v, h1, h4⟩ := Ask.elim (h lab' w' hv ((s0.trans hs).more (by simp))) hf (YQ hdep hl)
  exact ⟨l', v, lab', w', hf', h1, hv, Stp.refl _ _, h4⟩
theorem Zm {f : Nat} {xs : List Operand} {tys : Array TypeId} {g dg : Nat} {b b' : Bool} (deps : List (Nat × Nat)) (ho : ops[i]? = some ⟨some d, .call ⟨.value (.func f), xs.toArray, tys⟩, ty, pos, af, some (g, b)⟩) (hdg : Zz ops g = some dg) (hw : JW ops i g = true) (hg : nth Φ g = some (.ex (.bool b'))) (he : b' = b) (hdep : QaI ops i deps = true) (hf : Qv P f)
  (h : ∀ lab' w', Qm lab' w' → Stp T lab w lab' w' → Ask Φ lab' w' (fun l' => ∃ vs, evs l' xs = some vs ∧ Calls P f vs.toArray w' (fun e w2 => ∃ v, e = .returned v ∧ Uc Φ i lab' w2 v ∧ Below w'.heap.size w' w2)) deps l) (hd : d < N := by decide) : OpL ds P N ops Q l lab w Φ T [] i := fun w0 s0 =>
 QbF ho hd hdg hw (QbL hg he) hf fun lab' w' a hv hs hfr hl => by
  obtain ⟨l', hf', vs, h1, h4⟩ := Ask.elim (h lab' w' hv ((s0.trans hs).more (by simp))) hfr (YQ hdep hl)
  exact ⟨l', vs, hf', h1, h4⟩
theorem Jj {g dg : Nat} {b b' c : Bool} (ho : ops[i]? = some ⟨some d, op, ty, pos, af, some (g, c)⟩) (hdg : Zz ops g = some dg) (hw : JW ops i g = true) (hg : nth Φ g = some (.ex (.bool b'))) (he : b' = b) (hne : (b == c) = false) (hu : nth Φ i = some (.ex undef)) (hd : d < N := by decide) : OpL ds P N ops Q l lab w Φ T [] i := fun w0 s0 =>
 QiG ho hd hdg hw (QbL hg he) hne (fun _ _ => by unfold Uc; rw [hu]; rfl)
end
end Go.Proofs.Ytgfomedobfaidaa
end
section
set_option linter.unusedVariables false
set_option linter.unusedSimpArgs false
namespace Go.Proofs.Ytgfomedobfaidaa
open Go.RowKit
theorem KT : ∀ {l l' : List UInt32}, l.length = l'.length → wv l = wv l' → l = l'
 | [], [], _, _ => rfl
 | a :: r, b :: s, hl, h => by
  have ha := a.toNat_lt
  have hb := b.toNat_lt
  simp only [wv] at h
  have h1 : a.toNat = b.toNat := by omega
  have h2 : wv r = wv s := by omega
  rw [KT (by simpa using hl) h2, UInt32.toNat_inj.1 h1]
 | [], _ :: _, hl, _ => by simp at hl
 | _ :: _, [], hl, _ => by simp at hl
def wsN (x k : Nat) : List UInt32 := (List.range k).map fun i => UInt32.ofNat (x / 4294967296 ^ i)
theorem Qq (x k : Nat) : (wsN x k).length = k := by simp [wsN]
theorem Uz (x : Nat) : wsN x 0 = [] := rfl
theorem Y3 (x k : Nat) : wsN x (k + 1) = wsN x k ++ [UInt32.ofNat (x / 4294967296 ^ k)] := by simp [wsN, List.range_succ]
theorem Vg {x k i : Nat} (h : i < k) : (wsN x k).getD i 0 = UInt32.ofNat (x / 4294967296 ^ i) := by
 simp [wsN, List.getD, h]
theorem Vz (x k : Nat) : wv (wsN x k) = x % 4294967296 ^ k := by
 induction k with
 | zero => simp [Uz, wv, Nat.mod_one]
 | succ k ih =>
  rw [Y3, VQ, Qq, ih]
  simp only [wv, Nat.mul_zero, Nat.add_zero]
  rw [Nat.pow_succ, Nat.mod_mul, UInt32.toNat_ofNat']
theorem Qj0 (l : List UInt32) : wsN (wv l) l.length = l :=
 KT (Qq _ _) (by rw [Vz, Nat.mod_eq_of_lt (Uy l)])
theorem JQ {x k : Nat} (h : x < 4294967296 ^ k) : wv (wsN x k) = x := by rw [Vz, Nat.mod_eq_of_lt h]
theorem QdS {x y k : Nat} (h : x % 4294967296 ^ k = y % 4294967296 ^ k) : wsN x k = wsN y k := KT (by rw [Qq, Qq]) (by rw [Vz, Vz, h])
theorem QdQ : ∀ {l : List UInt32} {j : Nat} (x : UInt32), j < l.length → wv (l.set j x) + (l.getD j 0).toNat * 4294967296 ^ j = wv l + x.toNat * 4294967296 ^ j
 | [], _, _, h => by simp at h
 | a :: r, 0, x, _ => by simp [wv]; omega
 | a :: r, j + 1, x, h => by
  have ih := QdQ (l := r) (j := j) x (by simpa using h)
  simp only [List.set_cons_succ, wv, List.getD_cons_succ, Nat.pow_succ]
  rw [show (r.getD j 0).toNat * (4294967296 ^ j * 4294967296) = 4294967296 * ((r.getD j 0).toNat * 4294967296 ^ j) by rw [Nat.mul_comm 4294967296, Nat.mul_assoc],
   show x.toNat * (4294967296 ^ j * 4294967296) = 4294967296 * (x.toNat * 4294967296 ^ j) by rw [Nat.mul_comm 4294967296, Nat.mul_assoc]]
  omega
theorem Qal (k : Nat) : wv (List.replicate k 0) = 0 := by
 induction k with
 | zero => rfl
 | succ k ih => simp [List.replicate_succ, wv, ih]
theorem XF (k : Nat) : wsN 0 k = List.replicate k 0 := KT (by simp [Qq]) (by rw [Vz, Qal]; simp)
theorem QhO {x y k n : Nat} (hk : k < n) (hlow : x % 4294967296 ^ k = y % 4294967296 ^ k) (hx : x / 4294967296 ^ k / 4294967296 = y / 4294967296 ^ k / 4294967296) (w : UInt32) (hw : w = UInt32.ofNat (y / 4294967296 ^ k)) : (wsN x n).set k w = wsN y n := by
 refine List.ext_getElem (by simp [Qq]) fun i h1 h2 => ?_
 rw [List.getElem_set]
 split
 ·rename_i e; subst e; subst hw; simp [wsN]
 ·rename_i e
  simp only [wsN, List.getElem_map, List.getElem_range]
  rw [← UInt32.toNat_inj]
  rw [UInt32.toNat_ofNat', UInt32.toNat_ofNat', show (2 : Nat) ^ 32 = 4294967296 from rfl]
  have hd : ∀ a b : Nat, 4294967296 ^ a * 4294967296 ^ b = 4294967296 ^ (a + b) := fun a b => (Nat.pow_add _ _ _).symm
  by_cases hlt : i < k
  ·have e1 : ∀ z, z / 4294967296 ^ i % 4294967296 = z % 4294967296 ^ k / 4294967296 ^ i % 4294967296 := by
    intro z
    have : 4294967296 ^ k = 4294967296 ^ i * (4294967296 * 4294967296 ^ (k - i - 1)) := by
     rw [← Nat.mul_assoc, ← Nat.pow_succ, hd]; congr 1; omega
    rw [this, Nat.mod_mul_right_div_self, Nat.mod_mul_right_mod]
   rw [e1 x, e1 y, hlow]
  ·have e1 : ∀ z, z / 4294967296 ^ i = z / 4294967296 ^ k / 4294967296 / 4294967296 ^ (i - k - 1) := by
    intro z
    rw [Nat.div_div_eq_div_mul, Nat.div_div_eq_div_mul, Nat.mul_comm 4294967296, ← Nat.pow_succ, hd]; congr 2; omega
   rw [e1 x, e1 y, hx]
end Go.Proofs.Ytgfomedobfaidaa
namespace Go.Proofs.Ytgfomedobfaidaa
theorem QhT {ws : List UInt32} {k : Nat} (hk : k ≤ 2) : wv (ws.take k) < 18446744073709551616 := by
 have h := Uy (ws.take k)
 have h2 : (ws.take k).length ≤ 2 := by rw [List.length_take]; omega
 have : 4294967296 ^ (ws.take k).length ≤ 4294967296 ^ 2 := Nat.pow_le_pow_right (by omega) h2
 omega
theorem QdX {x : UInt32} {k : Nat} (hk : k < 2) : x.toNat * 2 ^ (32 * (k : Int)).toNat < 18446744073709551616 := by
 have h := x.toNat_lt
 have : k = 0 ∨ k = 1 := by omega
 rcases this with rfl | rfl
 ·simp; omega
 ·rw [show (32 * ((1 : Nat) : Int)).toNat = 32 from rfl]; omega
theorem Qea {ws : List UInt32} {k : Nat} (hk : k < ws.length) : wv (ws.take (k + 1)) = wv (ws.take k) + 4294967296 ^ k * (ws.getD k 0).toNat := by
 rw [List.take_succ_eq_append_getElem hk, VQ, List.length_take, Nat.min_eq_left (by omega)]
 simp [wv, List.getD, List.getElem?_eq_getElem hk]
theorem QdW {ws : List UInt32} {k : Nat} (hk : k < ws.length) (h2 : k < 2) : wv (ws.take k) ||| (ws.getD k 0).toNat * 2 ^ (32 * (k : Int)).toNat = wv (ws.take (k + 1)) := by
 rw [Qea hk]
 have : k = 0 ∨ k = 1 := by omega
 rcases this with rfl | rfl
 ·simp [wv]
 ·have h := Uy (ws.take 1)
  have hl : (ws.take 1).length = 1 := by rw [List.length_take]; omega
  rw [hl, Nat.pow_one] at h
  rw [show 2 ^ (32 * ((1 : Nat) : Int)).toNat = 4294967296 from rfl, Nat.or_comm]
  have := Nat.two_pow_add_eq_or_of_lt (i := 32) (b := wv (ws.take 1)) (by omega) (ws.getD 1 0).toNat
  rw [show (2 : Nat) ^ 32 = 4294967296 from rfl] at this
  rw [Nat.mul_comm, ← this]; omega
theorem Qk8 {a : Nat} {i : Int} (h0 : 0 ≤ i) : ((((Qk a).getD (i / 32).toNat 0 >>> UInt32.ofNat (i % 32).toNat) &&& 1).toNat : Int) = ((a / 2 ^ i.toNat % 2 : Nat) : Int) := by
 obtain ⟨n, rfl⟩ := Int.eq_ofNat_of_zero_le h0
 have e1 : ((n : Int) / 32).toNat = n / 32 := by omega
 have e2 : ((n : Int) % 32).toNat = n % 32 := by omega
 rw [e1, e2, UInt32.toNat_and, UInt32.toNat_one, Nat.and_one_is_mod, UInt32.toNat_shiftRight, UInt32.toNat_ofNat_of_lt' (by simp [UInt32.size]; omega), Nat.mod_eq_of_lt (show n % 32 < 32 by omega), Nat.shiftRight_eq_div_pow, Jh, Int.toNat_natCast]
 congr 1
 have e3 : 2 ^ n = 4294967296 ^ (n / 32) * 2 ^ (n % 32) := by rw [UF, ← Nat.pow_add]; congr 1; omega
 have e4 : (4294967296 : Nat) = 2 ^ (n % 32) * (2 * 2 ^ (31 - n % 32)) := by
  rw [← Nat.mul_assoc, ← Nat.pow_succ, ← Nat.pow_add, show n % 32 + 1 + (31 - n % 32) = 32 by omega]
 rw [e3, ← Nat.div_div_eq_div_mul]
 generalize a / 4294967296 ^ (n / 32) = x
 rw [show x % 4294967296 = x % (2 ^ (n % 32) * (2 * 2 ^ (31 - n % 32))) by rw [← e4], Nat.mod_mul_right_div_self, Nat.mod_mul_right_mod]
theorem Qjg {a : Nat} {i : Int} (h : (nw a : Int) ≤ i / 32) : ((a / 2 ^ i.toNat % 2 : Nat) : Int) = 0 := by
 have h1 : a < 2 ^ i.toNat := by
  refine Nat.lt_of_lt_of_le (Yl a) ?_
  rw [UF]; exact Nat.pow_le_pow_right (by omega) (by omega)
 rw [Nat.div_eq_of_lt h1]; rfl
def cA (a b k : Nat) : Nat := (a % 4294967296 ^ k + b % 4294967296 ^ k) / 4294967296 ^ k
theorem Kr (a b : Nat) : cA a b 0 = 0 := by simp [cA, Nat.mod_one]
theorem QfM (a b k : Nat) : cA a b k ≤ 1 := by
 unfold cA
 have hp : 0 < 4294967296 ^ k := Nat.pow_pos (by omega)
 have h1 := Nat.mod_lt a hp
 have h2 := Nat.mod_lt b hp
 have : (a % 4294967296 ^ k + b % 4294967296 ^ k) / 4294967296 ^ k < 2 := (Nat.div_lt_iff_lt_mul hp).2 (by omega)
 omega
theorem Zp (a k : Nat) : a % 4294967296 ^ (k + 1) = a % 4294967296 ^ k + 4294967296 ^ k * (a / 4294967296 ^ k % 4294967296) := by rw [Nat.pow_succ, Nat.mod_mul]
theorem QfL (a b k : Nat) : cA a b (k + 1) = (cA a b k + a / 4294967296 ^ k % 4294967296 + b / 4294967296 ^ k % 4294967296) / 4294967296 := by
 unfold cA
 have hp : 0 < 4294967296 ^ k := Nat.pow_pos (by omega)
 rw [Zp, Zp, Nat.pow_succ, ← Nat.div_div_eq_div_mul]
 rw [show a % 4294967296 ^ k + 4294967296 ^ k * (a / 4294967296 ^ k % 4294967296) + (b % 4294967296 ^ k + 4294967296 ^ k * (b / 4294967296 ^ k % 4294967296)) = (a % 4294967296 ^ k + b % 4294967296 ^ k) + 4294967296 ^ k * (a / 4294967296 ^ k % 4294967296 + b / 4294967296 ^ k % 4294967296) by rw [Nat.mul_add]; omega]
 rw [Nat.add_mul_div_left _ _ hp]
 congr 1; omega
theorem QbQ (a b k : Nat) : (a + b) / 4294967296 ^ k % 4294967296 = (cA a b k + a / 4294967296 ^ k % 4294967296 + b / 4294967296 ^ k % 4294967296) % 4294967296 := by
 have hp : 0 < 4294967296 ^ k := Nat.pow_pos (by omega)
 have e : (a + b) / 4294967296 ^ k = cA a b k + a / 4294967296 ^ k + b / 4294967296 ^ k := by
  unfold cA
  have ha := Nat.div_add_mod a (4294967296 ^ k)
  have hb := Nat.div_add_mod b (4294967296 ^ k)
  have : a + b = (a % 4294967296 ^ k + b % 4294967296 ^ k) + 4294967296 ^ k * (a / 4294967296 ^ k + b / 4294967296 ^ k) := by rw [Nat.mul_add]; omega
  rw [this, Nat.add_mul_div_left _ _ hp]; omega
 rw [e]; omega
theorem ZT {x y : Nat} (h : x % 4294967296 = y % 4294967296) : UInt32.ofNat x = UInt32.ofNat y := by
 rw [← UInt32.toNat_inj, UInt32.toNat_ofNat', UInt32.toNat_ofNat']; exact h
theorem UR {a k : Nat} (h : nw a ≤ k) : a / 4294967296 ^ k = 0 := Nat.div_eq_of_lt (Nat.lt_of_lt_of_le (Yl a) (Nat.pow_le_pow_right (by omega) h))
theorem Vb {a b k : Nat} {s : Nat} (hs : s = cA a b k + ((Qk a).getD k 0).toNat + ((Qk b).getD k 0).toNat) : wsN (a + b) k ++ [UInt32.ofNat s] = wsN (a + b) (k + 1) := by
 rw [Jh, Jh] at hs
 rw [Y3, ZT (x := s) (y := (a + b) / 4294967296 ^ k)]
 rw [QbQ, hs]
theorem Vc {a b k : Nat} {s : Nat} (hs : s = cA a b k + ((Qk a).getD k 0).toNat + ((Qk b).getD k 0).toNat) : s / 4294967296 = cA a b (k + 1) := by
 rw [Jh, Jh] at hs
 rw [QfL, hs]
theorem ZK {b k : Nat} (h : nw b ≤ k) : ((Qk b).getD k 0).toNat = 0 := by rw [Jh, UR h]
theorem QfW {a b n : Nat} (h1 : nw a ≤ n) (h2 : nw b ≤ n) : wv (wsN (a + b) n ++ [UInt32.ofNat (cA a b n)]) = a + b := by
 have h3 : Qk a = Qk a := rfl
 have e : wsN (a + b) n ++ [UInt32.ofNat (cA a b n)] = wsN (a + b) (n + 1) := Vb (by rw [ZK h1, ZK h2]; rfl)
 rw [e, JQ]
 have ha : a < 4294967296 ^ n := Nat.lt_of_lt_of_le (Yl a) (Nat.pow_le_pow_right (by omega) h1)
 have hb : b < 4294967296 ^ n := Nat.lt_of_lt_of_le (Yl b) (Nat.pow_le_pow_right (by omega) h2)
 rw [Nat.pow_succ]; omega
end Go.Proofs.Ytgfomedobfaidaa
namespace Go.Proofs.Ytgfomedobfaidaa
def bor (a b k : Nat) : Int := if a % 4294967296 ^ k < b % 4294967296 ^ k then 1 else 0
theorem QcM (a b : Nat) : bor a b 0 = 0 := by simp [bor, Nat.mod_one]
theorem QhF (a b k : Nat) : 0 ≤ bor a b k ∧ bor a b k ≤ 1 := by unfold bor; split <;> omega
theorem Kd {p A A' x y : Nat} (hA : A < p) (hA' : A' < p) : A + p * x < A' + p * y ↔ (x < y ∨ (x = y ∧ A < A')) := by
 constructor
 ·intro h
  by_cases h1 : x < y
  ·exact .inl h1
  ·by_cases h2 : x = y
   ·subst h2; exact .inr ⟨rfl, by omega⟩
   ·have : p * (y + 1) ≤ p * x := Nat.mul_le_mul_left _ (by omega)
    rw [Nat.mul_add] at this; omega
 ·rintro (h | ⟨rfl, h⟩)
  ·have : p * (x + 1) ≤ p * y := Nat.mul_le_mul_left _ (by omega)
   rw [Nat.mul_add] at this; omega
  ·omega
theorem QcN (a b k : Nat) : bor a b (k + 1) = if (((Qk a).getD k 0).toNat : Int) - bor a b k - (((Qk b).getD k 0).toNat : Int) < 0 then 1 else 0 := by
 have hp : 0 < 4294967296 ^ k := Nat.pow_pos (by omega)
 unfold bor
 rw [Zp, Zp, Jh, Jh]
 have hA := Nat.mod_lt a hp
 have hB := Nat.mod_lt b hp
 generalize a % 4294967296 ^ k = A at *
 generalize b % 4294967296 ^ k = A' at *
 generalize a / 4294967296 ^ k % 4294967296 = x
 generalize b / 4294967296 ^ k % 4294967296 = y
 have := Kd (x := x) (y := y) hA hB
 split <;> split <;> split <;> omega
theorem Qci {a b : Nat} (h : b ≤ a) (k : Nat) : (((a - b) / 4294967296 ^ k % 4294967296 : Nat) : Int) = ((((Qk a).getD k 0).toNat : Int) - bor a b k - (((Qk b).getD k 0).toNat : Int)) % 4294967296 := by
 have hp : 0 < 4294967296 ^ k := Nat.pow_pos (by omega)
 rw [Jh, Jh]
 unfold bor
 have hA := Nat.mod_lt a hp
 have hB := Nat.mod_lt b hp
 have ea := Nat.div_add_mod a (4294967296 ^ k)
 have eb := Nat.div_add_mod b (4294967296 ^ k)
 generalize 4294967296 ^ k = p at *
 generalize hx : a / p = x at *
 generalize hy : b / p = y at *
 generalize a % p = A at *
 generalize b % p = A' at *
 have hle : ¬ (A + p * x < A' + p * y) := by omega
 rw [Kd hA hB] at hle
 split
 ·rename_i hlt
  have hxy : y + 1 ≤ x := by omega
  have e : (a - b) / p = x - y - 1 := by
   have e1 : p * (x - y - 1) + p * (y + 1) = p * x := by rw [← Nat.mul_add]; congr 1; omega
   have e2 : p * (y + 1) = p * y + p := by rw [Nat.mul_add, Nat.mul_one]
   have : a - b = (A + p - A') + p * (x - y - 1) := by omega
   rw [this, Nat.add_mul_div_left _ _ hp, Nat.div_eq_of_lt (by omega)]; omega
  rw [e]; omega
 ·rename_i hlt
  have hxy : y ≤ x := by omega
  have e : (a - b) / p = x - y := by
   have e1 : p * (x - y) + p * y = p * x := by rw [← Nat.mul_add]; congr 1; omega
   have : a - b = (A - A') + p * (x - y) := by omega
   rw [this, Nat.add_mul_div_left _ _ hp, Nat.div_eq_of_lt (by omega)]; omega
  rw [e]; omega
def Xa (x k n : Nat) : List UInt32 := wsN x k ++ List.replicate (n - k) 0
theorem Qam (x n : Nat) : Xa x 0 n = List.replicate n 0 := by simp [Xa, Uz]
theorem Z1 {x k n : Nat} (h : k ≤ n) : (Xa x k n).length = n := by simp [Xa, Qq]; omega
theorem Qan (x n : Nat) : Xa x n n = wsN x n := by simp [Xa]
theorem Qcf {x k n : Nat} (h : k < n) (w : UInt32) (hw : w = UInt32.ofNat (x / 4294967296 ^ k)) : (Xa x k n).set k w = Xa x (k + 1) n := by
 subst hw
 unfold Xa
 rw [List.set_append_right _ _ (by rw [Qq]; omega), Qq, Nat.sub_self, Y3, List.append_assoc]
 congr 1
 rw [show n - k = (n - (k + 1)) + 1 by omega, List.replicate_succ, List.set_cons_zero]
 rfl
theorem VL {a b k n : Nat} (h : b ≤ a) (hk : k < n) {d : Int} (hd : 0 ≤ d ∧ d < 4294967296) (e : (d - ((((Qk a).getD k 0).toNat : Int) - bor a b k - (((Qk b).getD k 0).toNat : Int))) % 4294967296 = 0) :
  (Xa (a - b) k n).set k (UInt32.ofNat d.toNat) = Xa (a - b) (k + 1) n := by
 refine Qcf hk _ (ZT ?_)
 have := Qci h k
 omega
theorem QhX {a b n : Nat} (h1 : nw a ≤ n) : wv (Xa (a - b) n n) = a - b := by
 rw [Qan, JQ]
 exact Nat.lt_of_le_of_lt (Nat.sub_le _ _) (Nat.lt_of_lt_of_le (Yl a) (Nat.pow_le_pow_right (by omega) h1))
theorem QgA (x y : UInt32) : x.toNat * y.toNat ≤ 18446744065119617025 := by
 have hx := x.toNat_lt
 have hy := y.toNat_lt
 have : x.toNat * y.toNat ≤ 4294967295 * 4294967295 := Nat.mul_le_mul (by omega) (by omega)
 omega
theorem Xi (b k : Nat) : b % 4294967296 ^ (k + 1) = b % 4294967296 ^ k + 4294967296 ^ k * ((Qk b).getD k 0).toNat := by rw [Zp, Jh]
theorem Qg9 {out : List UInt32} {a b i k c : Nat} {x y : UInt32} (hx : x = (Qk a).getD i 0) (hy : y = (Qk b).getD k 0) (hl : i + k < out.length)
  (hv : wv out + c * 4294967296 ^ (i + k) = a % 4294967296 ^ i * b + x.toNat * 4294967296 ^ i * (b % 4294967296 ^ k)) :
  wv (out.set (i + k) (UInt32.ofNat (c + (x.toNat * y.toNat + (out.getD (i + k) 0).toNat)))) + (c + (x.toNat * y.toNat + (out.getD (i + k) 0).toNat)) / 4294967296 * 4294967296 ^ (i + (k + 1)) = a % 4294967296 ^ i * b + x.toNat * 4294967296 ^ i * (b % 4294967296 ^ (k + 1)) := by
 have h := QdQ (l := out) (UInt32.ofNat (c + (x.toNat * y.toNat + (out.getD (i + k) 0).toNat))) hl
 rw [UInt32.toNat_ofNat'] at h
 rw [Xi, ← hy, Nat.mul_add, show x.toNat * 4294967296 ^ i * (4294967296 ^ k * y.toNat) = x.toNat * y.toNat * 4294967296 ^ (i + k) by rw [Nat.pow_add]; simp only [Nat.mul_assoc, Nat.mul_comm, Nat.mul_left_comm], ← Nat.add_assoc i k 1, Nat.pow_succ]
 generalize (out.getD (i + k) 0).toNat = o at *
 generalize 4294967296 ^ (i + k) = p at *
 generalize x.toNat * y.toNat = xy at *
 have hs := Nat.div_add_mod (c + (xy + o)) 4294967296
 generalize hq : (c + (xy + o)) / 4294967296 = q at *
 have hm : (c + (xy + o)) % 2 ^ 32 = (c + (xy + o)) % 4294967296 := rfl
 rw [hm] at h
 generalize (c + (xy + o)) % 4294967296 = r at *
 have e1 : (4294967296 * q + r) * p = (c + (xy + o)) * p := by rw [hs]
 simp only [Nat.add_mul, Nat.mul_assoc] at e1
 rw [show q * (p * 4294967296) = 4294967296 * (q * p) by rw [Nat.mul_comm p, Nat.mul_left_comm]]
 omega
theorem Qi5 {out : List UInt32} {i k n x : Nat} {w : UInt32} (h : ∀ j, i + k ≤ j → out.getD j 0 = (wsN x n).getD j 0) : ∀ j, i + (k + 1) ≤ j → (out.set (i + k) w).getD j 0 = (wsN x n).getD j 0 := fun j hj => by
 rw [← h j (by omega)]
 simp [List.getD, List.getElem?_set]
 rw [if_neg (by omega)]
theorem Qgk {x k j : Nat} (n : Nat) (h : x < 4294967296 ^ k) (hj : k ≤ j) : (wsN x n).getD j 0 = 0 := by
 by_cases hn : j < n
 ·rw [Vg hn, Nat.div_eq_of_lt (Nat.lt_of_lt_of_le h (Nat.pow_le_pow_right (by omega) hj))]; rfl
 ·simp [List.getD, wsN, hn]
theorem Qi7 {out : List UInt32} {a b i k n c : Nat} {x : UInt32} (hx : x = (Qk a).getD i 0) (hn : n = nw a + nw b) (hi : i < nw a) (hk : k = nw b) (hl : out.length = n) (hc : c < 4294967296)
  (hv : wv out + c * 4294967296 ^ (i + k) = a % 4294967296 ^ i * b + x.toNat * 4294967296 ^ i * (b % 4294967296 ^ k)) (ht : ∀ j, i + k ≤ j → out.getD j 0 = (wsN (a % 4294967296 ^ i * b) n).getD j 0) :
  out.set (i + k) (UInt32.ofNat c) = wsN (a % 4294967296 ^ (i + 1) * b) n := by
 subst hk
 have hp : 0 < 4294967296 ^ i := Nat.pow_pos (by omega)
 have hP : a % 4294967296 ^ i * b < 4294967296 ^ (i + nw b) := by
  rw [Nat.pow_add]; exact Nat.mul_lt_mul'' (Nat.mod_lt _ hp) (Yl b)
 have h0 : out.getD (i + nw b) 0 = 0 := by rw [ht _ (Nat.le_refl _)]; exact Qgk n hP (Nat.le_refl _)
 have h := QdQ (l := out) (j := i + nw b) (UInt32.ofNat c) (by omega)
 rw [h0, UInt32.toNat_ofNat', Nat.mod_eq_of_lt (a := c) (by omega)] at h
 simp only [UInt32.toNat_zero, Nat.zero_mul, Nat.add_zero] at h
 refine KT (by rw [List.length_set, Qq, hl]) ?_
 rw [h, hv, Nat.mod_eq_of_lt (Yl b)]
 have e : a % 4294967296 ^ (i + 1) * b = a % 4294967296 ^ i * b + x.toNat * 4294967296 ^ i * b := by
  rw [Xi, ← hx, Nat.add_mul, Nat.mul_comm (4294967296 ^ i)]
 rw [← e, JQ]
 refine Nat.lt_of_lt_of_le (Nat.mul_lt_mul'' (Nat.mod_lt _ (Nat.pow_pos (by omega) : 0 < 4294967296 ^ (i + 1))) (Yl b)) ?_
 rw [← Nat.pow_add]; exact Nat.pow_le_pow_right (by omega) (by omega)
theorem Qi6 {a b n i : Nat} (h : nw a ≤ i) (hn : n = nw a + nw b) : wv (wsN (a % 4294967296 ^ i * b) n) = a * b := by
 rw [Nat.mod_eq_of_lt (Nat.lt_of_lt_of_le (Yl a) (Nat.pow_le_pow_right (by omega) h)), JQ]
 rw [hn, Nat.pow_add]; exact Nat.mul_lt_mul'' (Yl a) (Yl b)
theorem QeS {a b n : Nat} : List.replicate n 0 = wsN (a % 4294967296 ^ 0 * b) n := by rw [Nat.pow_zero, Nat.mod_one, Nat.zero_mul, XF]
theorem VZ (a b : Nat) : nw (a + b) ≤ max (nw a) (nw b) + 1 := by
 refine YV ?_
 have ha : a < 4294967296 ^ max (nw a) (nw b) := Nat.lt_of_lt_of_le (Yl a) (Nat.pow_le_pow_right (by omega) (Nat.le_max_left _ _))
 have hb : b < 4294967296 ^ max (nw a) (nw b) := Nat.lt_of_lt_of_le (Yl b) (Nat.pow_le_pow_right (by omega) (Nat.le_max_right _ _))
 rw [Nat.pow_succ]; omega
theorem QeG (a b : Nat) : nw (a * b) ≤ nw a + nw b := YV (by rw [Nat.pow_add]; exact Nat.mul_lt_mul'' (Yl a) (Yl b))
theorem QdR {a b : Nat} (h : ∀ i, ((Qk a).getD i 0).toNat = ((Qk b).getD i 0).toNat) : Qk a = Qk b := by
 have hl : (Qk a).length = (Qk b).length := by
  refine Nat.le_antisymm ?_ ?_
  ·refine Nat.le_of_not_lt fun hlt => ?_
   have h1 := h (nw a - 1)
   have ha : a ≠ 0 := fun e => by subst e; rw [Zk] at hlt; simp at hlt
   have hp := Zj ha
   have : (Qk a).length = nw a := rfl
   rw [VK ha, ZK (b := b) (show (Qk b).length ≤ nw a - 1 by omega)] at h1
   have := XU ha
   have h2 : 0 < a / 4294967296 ^ (nw a - 1) := Nat.div_pos this (Nat.pow_pos (by omega))
   omega
  ·refine Nat.le_of_not_lt fun hlt => ?_
   have h1 := h (nw b - 1)
   have hb : b ≠ 0 := fun e => by subst e; rw [Zk] at hlt; simp at hlt
   have hp := Zj hb
   have : (Qk b).length = nw b := rfl
   rw [VK hb, ZK (b := a) (show (Qk a).length ≤ nw b - 1 by omega)] at h1
   have := XU hb
   have h2 : 0 < b / 4294967296 ^ (nw b - 1) := Nat.div_pos this (Nat.pow_pos (by omega))
   omega
 refine List.ext_getElem hl fun i h1 h2 => ?_
 have := h i
 rw [UInt32.toNat_inj] at this
 simpa [List.getD, h1, h2] using this
theorem Qlg (b k : Nat) : nw b ≤ k → ((Qk b).getD k 0).toNat = 0 := ZK
theorem QaJ {a b : Nat} (h : Ji a b < 0) : a < b := (Vt a b).1 h
theorem UY {a b : Nat} (h : ¬ Ji a b < 0) : b ≤ a := by rw [Vt] at h; omega
def shl (l : List UInt32) (n : Nat) : List UInt32 := wsN (wv l * 2 ^ n) (l.length + 1)
theorem Qde (l : List UInt32) (n : Nat) : (shl l n).length = l.length + 1 := Qq _ _
theorem QjG {x : UInt32} {n : Int} (h0 : 0 ≤ n) (h1 : n < 32) : x.toNat * 2 ^ n.toNat < 18446744073709551616 := by
 have hx := x.toNat_lt
 have h2 : 2 ^ n.toNat ≤ 2 ^ 32 := Nat.pow_le_pow_right (by omega) (by omega)
 have := Nat.mul_le_mul (show x.toNat ≤ 4294967295 by omega) h2
 omega
theorem Qel {x : UInt32} {n : Nat} (h1 : n < 32) : x.toNat * 2 ^ n < 18446744073709551616 := QjG (n := (n : Int)) (by omega) (by omega)
theorem KX {l : List UInt32} {k n m : Nat} (hk : k < l.length) (hm : m = l.length + 1) (hn : n < 32) {y : Nat} (hy : y = (l.getD k 0).toNat * 2 ^ n) {old : UInt32} (ho : old = (wsN (wv (l.take k) * 2 ^ n) m).getD k 0) :
  ((wsN (wv (l.take k) * 2 ^ n) m).set k (old ||| UInt32.ofNat y)).set (k + 1) (UInt32.ofNat (y / 4294967296)) = wsN (wv (l.take (k + 1)) * 2 ^ n) m := by
 have hlen := Uy (l.take k)
 rw [List.length_take, Nat.min_eq_left (by omega)] at hlen
 have hp : 0 < 4294967296 ^ k := Nat.pow_pos (by omega)
 have h2n : 0 < 2 ^ n := Nat.pow_pos (by omega)
 have h32 : 2 ^ n ≤ 2 ^ 31 := Nat.pow_le_pow_right (by omega) (by omega)
 have hc : wv (l.take k) * 2 ^ n / 4294967296 ^ k < 2 ^ n := by
  rw [Nat.div_lt_iff_lt_mul hp, Nat.mul_comm (2 ^ n)]
  exact Nat.mul_lt_mul_of_pos_right hlen h2n
 have hold : old = UInt32.ofNat (wv (l.take k) * 2 ^ n / 4294967296 ^ k) := by rw [ho, Vg (by omega)]
 have e : wv (l.take (k + 1)) * 2 ^ n = wv (l.take k) * 2 ^ n + 4294967296 ^ k * y := by
  rw [Qea hk, Nat.add_mul, hy, Nat.mul_assoc]
 rw [e]
 generalize hC : wv (l.take k) * 2 ^ n = C at *
 have hor : old ||| UInt32.ofNat y = UInt32.ofNat (C / 4294967296 ^ k + y) := by
  rw [hold, ← UInt32.toNat_inj, UInt32.toNat_or, UInt32.toNat_ofNat', UInt32.toNat_ofNat', UInt32.toNat_ofNat']
  have hyd : y % 2 ^ 32 = (((l.getD k 0).toNat) % 2 ^ (32 - n)) * 2 ^ n := by
   rw [hy, show (2 : Nat) ^ 32 = 2 ^ (32 - n) * 2 ^ n by rw [← Nat.pow_add]; congr 1; omega, Nat.mul_mod_mul_right]
  have hyc : (C / 4294967296 ^ k + y) % 2 ^ 32 = C / 4294967296 ^ k + y % 2 ^ 32 := by
   have hl : y % 2 ^ 32 + 2 ^ n ≤ 2 ^ 32 := by
    rw [hyd]
    have h3 : (l.getD k 0).toNat % 2 ^ (32 - n) + 1 ≤ 2 ^ (32 - n) := Nat.mod_lt _ (Nat.pow_pos (by omega))
    have h4 := Nat.mul_le_mul_right (2 ^ n) h3
    rw [Nat.add_mul, Nat.one_mul, ← Nat.pow_add, show 32 - n + n = 32 by omega] at h4
    exact h4
   generalize C / 4294967296 ^ k = c0 at *
   omega
  rw [hyc, Nat.mod_eq_of_lt (a := C / 4294967296 ^ k) (by omega), hyd, Nat.mul_comm _ (2 ^ n)]
  have := Nat.two_pow_add_eq_or_of_lt hc ((l.getD k 0).toNat % 2 ^ (32 - n))
  rw [Nat.or_comm, ← this, Nat.add_comm]
 have hpk : 4294967296 ^ (k + 1) = 4294967296 ^ k * 4294967296 := Nat.pow_succ ..
 have hdiv : (C + 4294967296 ^ k * y) / 4294967296 ^ k = C / 4294967296 ^ k + y := Nat.add_mul_div_left _ _ hp
 have hmod : (C + 4294967296 ^ k * y) % 4294967296 ^ k = C % 4294967296 ^ k := Nat.add_mul_mod_self_left _ _ _
 have hylt : y < 18446744073709551616 / 2 := by
  rw [hy]
  have hx := (l.getD k 0).toNat_lt
  have := Nat.mul_le_mul (show (l.getD k 0).toNat ≤ 4294967295 by omega) h32
  omega
 refine List.ext_getElem (by simp [Qq]) fun i h1 h3 => ?_
 have him : i < m := by simpa [Qq] using h3
 have hw : ∀ x, (wsN x m)[i]'(by rw [Qq]; exact him) = UInt32.ofNat (x / 4294967296 ^ i) := fun x => by simp [wsN]
 rw [List.getElem_set, List.getElem_set]
 by_cases hi1 : k + 1 = i
 ·rw [if_pos hi1]
  subst hi1
  rw [hw, hpk, ← Nat.div_div_eq_div_mul, hdiv]
  refine ZT ?_
  have : (C / 4294967296 ^ k + y) / 4294967296 = y / 4294967296 := by
   have hq := Nat.div_add_mod y 4294967296
   have hl : y % 4294967296 + 2 ^ n ≤ 4294967296 := by
    have hyd : y % 2 ^ 32 = (((l.getD k 0).toNat) % 2 ^ (32 - n)) * 2 ^ n := by
     rw [hy, show (2 : Nat) ^ 32 = 2 ^ (32 - n) * 2 ^ n by rw [← Nat.pow_add]; congr 1; omega, Nat.mul_mod_mul_right]
    rw [show (4294967296 : Nat) = 2 ^ 32 from rfl, hyd]
    have h3 : (l.getD k 0).toNat % 2 ^ (32 - n) + 1 ≤ 2 ^ (32 - n) := Nat.mod_lt _ (Nat.pow_pos (by omega))
    have h4 := Nat.mul_le_mul_right (2 ^ n) h3
    rw [Nat.add_mul, Nat.one_mul, ← Nat.pow_add, show 32 - n + n = 32 by omega] at h4
    exact h4
   clear hdiv hold hor
   generalize C / 4294967296 ^ k = c0 at *
   omega
  rw [this]
 ·rw [if_neg hi1]
  by_cases hi2 : k = i
  ·rw [if_pos hi2]
   subst hi2
   rw [hw, hdiv, hor]
  ·rw [if_neg hi2, hw, hw]
   refine ZT ?_
   by_cases hlt : i < k
   ·have e1 : ∀ z, z / 4294967296 ^ i % 4294967296 = z % 4294967296 ^ k / 4294967296 ^ i % 4294967296 := by
     intro z
     have : 4294967296 ^ k = 4294967296 ^ i * (4294967296 * 4294967296 ^ (k - i - 1)) := by
      rw [← Nat.mul_assoc, ← Nat.pow_succ, ← Nat.pow_add]; congr 1; omega
     rw [this, Nat.mod_mul_right_div_self, Nat.mod_mul_right_mod]
    rw [e1 C, e1 (C + 4294967296 ^ k * y), hmod]
   ·have hk2 : 4294967296 ^ (k + 2) ≤ 4294967296 ^ i := Nat.pow_le_pow_right (by omega) (by omega)
    have hpk2 : 4294967296 ^ (k + 2) = 4294967296 ^ k * 18446744073709551616 := by rw [Nat.pow_add]
    have hCl : C < 4294967296 ^ k * 4294967296 := by
     have := Nat.div_add_mod C (4294967296 ^ k)
     have h9 := Nat.mod_lt C hp
     have h8 : 4294967296 ^ k * (C / 4294967296 ^ k) ≤ 4294967296 ^ k * 2147483648 := Nat.mul_le_mul_left _ (by omega)
     generalize 4294967296 ^ k * (C / 4294967296 ^ k) = z at *
     generalize 4294967296 ^ k = p at *
     omega
    have hyl : 4294967296 ^ k * y ≤ 4294967296 ^ k * 9223372036854775808 := Nat.mul_le_mul_left _ (by omega)
    rw [Nat.div_eq_of_lt (a := C) (by omega), Nat.div_eq_of_lt (a := C + 4294967296 ^ k * y) (by omega)]
end Go.Proofs.Ytgfomedobfaidaa
end
section
set_option linter.unusedVariables false
set_option linter.unusedSimpArgs false
namespace Go.Proofs.Ytgfomedobfaidaa
open Go.RowKit
@[reducible] def n64 (n : Nat) : Value := .int .u64 (n : Int)
theorem QjY {b b' : Nat} (e : b = b') (lab : Lab) (w : World) : Is (n64 b') lab w (n64 b) := by subst e; rfl
section
variable {P : Program} {N : Nat} {l : List (Nat × Value)} {w : World} {lab : Lab} {ty : TypeId}
theorem Y4 {n : Nat} (h : n < 18446744073709551616) : IntKind.u64.wrap (n : Int) = (n : Int) := by rw [IntKind.wrap_u64]; omega
theorem Jm {t yt : TypeId} {x y : Operand} {a b : Nat} (hx : ev l x = some (n64 a)) (hy : ev l y = some (n64 b)) (h : a + b < 18446744073709551616) : Qa P l (.binOp .add t x y yt) ty w (n64 (a + b)) w :=
 QC hx hy (by
  have e : IntKind.u64.wrap ((a : Int) + b) = ((a + b : Nat) : Int) := by rw [← Int.natCast_add]; exact Y4 h
  simp only [binOp, Op.intArith, ne_eq, not_true, if_false, e]; rfl)
theorem Yk {t yt : TypeId} {x y : Operand} {a b : Nat} (hx : ev l x = some (n64 a)) (hy : ev l y = some (n64 b)) (h : b ≤ a) (h' : a < 18446744073709551616) : Qa P l (.binOp .sub t x y yt) ty w (n64 (a - b)) w :=
 QC hx hy (by
  have e : IntKind.u64.wrap ((a : Int) - b) = ((a - b : Nat) : Int) := by rw [← Int.ofNat_sub h]; exact Y4 (by omega)
  simp only [binOp, Op.intArith, ne_eq, not_true, if_false, e]; rfl)
theorem ZC {t yt : TypeId} {x y : Operand} {a b : Nat} (hx : ev l x = some (n64 a)) (hy : ev l y = some (n64 b)) (h : a * b < 18446744073709551616) : Qa P l (.binOp .mul t x y yt) ty w (n64 (a * b)) w :=
 QC hx hy (by
  have e : IntKind.u64.wrap ((a : Int) * b) = ((a * b : Nat) : Int) := by rw [← Int.natCast_mul]; exact Y4 h
  simp only [binOp, Op.intArith, ne_eq, not_true, if_false, e]; rfl)
theorem VE {t yt : TypeId} {x y : Operand} {a b : Nat} (hx : ev l x = some (n64 a)) (hy : ev l y = some (n64 b)) (hb : b ≠ 0) (h : a < 18446744073709551616) : Qa P l (.binOp .quo t x y yt) ty w (n64 (a / b)) w :=
 QC hx hy (by
  have e : IntKind.u64.wrap ((a : Int).tdiv b) = ((a / b : Nat) : Int) := by
   rw [Int.tdiv_eq_ediv_of_nonneg (by omega), ← Int.natCast_ediv]; exact Y4 (Nat.lt_of_le_of_lt (Nat.div_le_self _ _) h)
  simp only [binOp, Op.intDiv, ne_eq, not_true, if_false]; rw [if_neg (by omega), e]; rfl)
theorem ZB {t yt : TypeId} {x y : Operand} {a b : Nat} (hx : ev l x = some (n64 a)) (hy : ev l y = some (n64 b)) (hb : b ≠ 0) : Qa P l (.binOp .rem t x y yt) ty w (n64 (a % b)) w :=
 QC hx hy (by
  have e : ((a : Int).tmod b) = ((a % b : Nat) : Int) := by rw [Int.tmod_eq_emod_of_nonneg (by omega), ← Int.natCast_emod]
  simp only [binOp, Op.intDiv, ne_eq, not_true, if_false]; rw [if_neg (by omega), e]; rfl)
theorem Xo {t yt : TypeId} {x y : Operand} {yk : IntKind} {a : Nat} {b : Int} (hx : ev l x = some (n64 a)) (hy : ev l y = some (.int yk b)) (h0 : 0 ≤ b) (h1 : b < 64) (h : a * 2 ^ b.toNat < 18446744073709551616) : Qa P l (.binOp .shl t x y yt) ty w (n64 (a * 2 ^ b.toNat)) w :=
 ZJ (.inl rfl) hx hy (by
  obtain ⟨n, rfl⟩ := Int.eq_ofNat_of_zero_le h0
  have e : IntKind.u64.wrap ((a : Int) * 2 ^ (min (n : Int).toNat IntKind.u64.bits)) = ((a * 2 ^ (n : Int).toNat : Nat) : Int) := by
   have hn : n < 64 := by omega
   rw [Int.toNat_natCast, show min n IntKind.u64.bits = n by simp [IntKind.bits]; omega]
   have : ((a : Int) * 2 ^ n) = ((a * 2 ^ n : Nat) : Int) := by simp
   rw [this]; exact Y4 (by simpa using h)
  simp only [Op.shift]; rw [if_neg (by omega), e]; rfl)
theorem Y9 {t yt : TypeId} {x y : Operand} {yk : IntKind} {a : Nat} {b : Int} (hx : ev l x = some (n64 a)) (hy : ev l y = some (.int yk b)) (h0 : 0 ≤ b) (h1 : b < 64) : Qa P l (.binOp .shr t x y yt) ty w (n64 (a / 2 ^ b.toNat)) w :=
 ZJ (.inr rfl) hx hy (by
  obtain ⟨n, rfl⟩ := Int.eq_ofNat_of_zero_le h0
  have e : ((a : Int).fdiv (2 ^ (min (n : Int).toNat IntKind.u64.bits))) = ((a / 2 ^ (n : Int).toNat : Nat) : Int) := by
   have hn : n < 64 := by omega
   rw [Int.toNat_natCast, show min n IntKind.u64.bits = n by simp [IntKind.bits]; omega, Int.fdiv_eq_ediv_of_nonneg _ (Int.le_of_lt (Int.pow_pos (by omega)))]
   simp
  simp only [Op.shift]; rw [if_neg (by omega), e]; rfl)
theorem Ve {t yt : TypeId} {x y : Operand} {yk : IntKind} {a b : Nat} (hx : ev l x = some (n64 a)) (hy : ev l y = some (.int yk (b : Int))) (h1 : b < 64) (h : a * 2 ^ b < 18446744073709551616) : Qa P l (.binOp .shl t x y yt) ty w (n64 (a * 2 ^ b)) w :=
 Xo (b := (b : Int)) hx hy (by omega) (by omega) h
theorem Qag {t yt : TypeId} {x y : Operand} {yk : IntKind} {a b : Nat} (hx : ev l x = some (n64 a)) (hy : ev l y = some (.int yk (b : Int))) (h1 : b < 64) : Qa P l (.binOp .shr t x y yt) ty w (n64 (a / 2 ^ b)) w :=
 Y9 (b := (b : Int)) hx hy (by omega) (by omega)
theorem Yb {t yt : TypeId} {x y : Operand} {yk : IntKind} {a : Nat} (hx : ev l x = some (n64 a)) (hy : ev l y = some (.int yk 32)) (h : a < 4294967296) : Qa P l (.binOp .shl t x y yt) ty w (n64 (a * 4294967296)) w :=
 Xo hx hy (by omega) (by omega) (by show a * 4294967296 < _; omega)
theorem Jr {t yt : TypeId} {x y : Operand} {yk : IntKind} {a : Nat} (hx : ev l x = some (n64 a)) (hy : ev l y = some (.int yk 32)) : Qa P l (.binOp .shr t x y yt) ty w (n64 (a / 4294967296)) w :=
 Y9 hx hy (by omega) (by omega)
theorem K8 {t yt : TypeId} {x y : Operand} {a b : Nat} (hx : ev l x = some (n64 a)) (hy : ev l y = some (n64 b)) (ha : a < 18446744073709551616) (hb : b < 18446744073709551616) : Qa P l (.binOp .or t x y yt) ty w (n64 (a ||| b)) w := by
 have h := Qcc (P := P) (l := l) (ty := ty) (w := w) (t := t) (yt := yt) (x := x) (y := y) (a := UInt64.ofNat a) (b := UInt64.ofNat b) (by rw [hx]; simp [Nat.mod_eq_of_lt ha]) (by rw [hy]; simp [Nat.mod_eq_of_lt hb])
 have e : u64 (UInt64.ofNat a ||| UInt64.ofNat b) = n64 (a ||| b) := by simp [Nat.mod_eq_of_lt ha, Nat.mod_eq_of_lt hb]
 rw [e] at h; exact h
theorem QjP {a b : Nat} (h : b < 4294967296) : a * 4294967296 ||| b = a * 4294967296 + b := by
 have := Nat.two_pow_add_eq_or_of_lt (i := 32) (b := b) (by omega) a
 rw [show (2 : Nat) ^ 32 = 4294967296 from rfl, Nat.mul_comm] at this; exact this.symm
theorem ZO {t yt : TypeId} {x y : Operand} {a b : Nat} (hx : ev l x = some (n64 (a * 4294967296))) (hy : ev l y = some (n64 b)) (ha : a < 4294967296) (hb : b < 4294967296) : Qa P l (.binOp .or t x y yt) ty w (n64 (a * 4294967296 + b)) w := by
 have h := K8 (P := P) (ty := ty) (w := w) (t := t) (yt := yt) hx hy (by omega) (by omega)
 rw [QjP hb] at h; exact h
theorem QA {s t : TypeId} {x : Operand} {a : UInt32} {ds : TypeDesc} (hs : P.underlying s = some ds) (ht : P.underlying t = some (.int .u64)) (hx : ev l x = some (u32 a)) : Qa P l (.convert s t x) ty w (n64 a.toNat) w :=
 Qz hs ht hx (Y4 (Nat.lt_trans a.toNat_lt (by decide)))
theorem Qca {s t : TypeId} {x : Operand} {a : UInt8} {ds : TypeDesc} (hs : P.underlying s = some ds) (ht : P.underlying t = some (.int .u64)) (hx : ev l x = some (u8 a)) : Qa P l (.convert s t x) ty w (n64 a.toNat) w :=
 Qz hs ht hx (Y4 (Nat.lt_trans a.toNat_lt (by decide)))
theorem QD {s t : TypeId} {x : Operand} {a : Nat} {ds : TypeDesc} (hs : P.underlying s = some ds) (ht : P.underlying t = some (.int .u32)) (hx : ev l x = some (n64 a)) : Qa P l (.convert s t x) ty w (u32 (UInt32.ofNat a)) w :=
 Qz hs ht hx (QdT a)
theorem K7 {s t : TypeId} {x : Operand} {a : Nat} {ds : TypeDesc} (hs : P.underlying s = some ds) (ht : P.underlying t = some (.int .u8)) (hx : ev l x = some (n64 a)) : Qa P l (.convert s t x) ty w (u8 (UInt8.ofNat a)) w :=
 Qz hs ht hx (QhP a)
theorem Qbc {s t : TypeId} {x : Operand} {a : Nat} {ds : TypeDesc} (hs : P.underlying s = some ds) (ht : P.underlying t = some (.int .i64)) (hx : ev l x = some (n64 a)) (h : a < 9223372036854775808) : Qa P l (.convert s t x) ty w (i64 (a : Int)) w :=
 Qz hs ht hx (by rw [JS (by omega) (by omega)])
theorem VF {s t : TypeId} {x : Operand} {a : Int} {ds : TypeDesc} (hs : P.underlying s = some ds) (ht : P.underlying t = some (.int .u64)) (hx : ev l x = some (i64 a)) (h0 : 0 ≤ a) (h : a < 9223372036854775808) : Qa P l (.convert s t x) ty w (n64 a.toNat) w :=
 Qz hs ht hx (by obtain ⟨n, rfl⟩ := Int.eq_ofNat_of_zero_le h0; exact Y4 (by omega))
theorem KL {s t : TypeId} {x : Operand} {a : Nat} {ds : TypeDesc} (hs : P.underlying s = some ds) (ht : P.underlying t = some (.int .i64)) (hx : ev l x = some (u32 (UInt32.ofNat a))) : Qa P l (.convert s t x) ty w (i64 ((a % 4294967296 : Nat) : Int)) w :=
 Qz hs ht hx (by rw [UInt32.toNat_ofNat']; show IntKind.i64.wrap ((a % 2 ^ 32 : Nat) : Int) = _; rw [JS (by omega) (by omega)])
theorem YS {s t : TypeId} {x : Operand} {a : Int} {ds : TypeDesc} (hs : P.underlying s = some ds) (ht : P.underlying t = some (.int .u32)) (hx : ev l x = some (i64 a)) : Qa P l (.convert s t x) ty w (u32 (UInt32.ofNat (a % 4294967296).toNat)) w :=
 Qz hs ht hx (by
  have e : IntKind.u32.wrap a = a % 4294967296 := by
   unfold IntKind.wrap
   simp [IntKind.signed, IntKind.bits]
  rw [e, UInt32.toNat_ofNat']
  omega)
theorem YA {s t : TypeId} {x : Operand} {a : Int} {ds : TypeDesc} (hs : P.underlying s = some ds) (ht : P.underlying t = some (.int .u32)) (hx : ev l x = some (i64 a)) (h0 : 0 ≤ a) : Qa P l (.convert s t x) ty w (u32 (UInt32.ofNat a.toNat)) w :=
 Qz hs ht hx (by obtain ⟨n, rfl⟩ := Int.eq_ofNat_of_zero_le h0; rw [IntKind.wrap_u32', UInt32.toNat_ofNat']; omega)
theorem QO {t e : TypeId} {x y : Operand} {k : IntKind} {i : Int} {b o n c : Nat} {ag : Bool} {by_ : Nat} {z : Option Value} (j : Nat) (ht : P.underlying t = some (.slice e)) (he : QU P e = some (ag, 1, z, by_)) (hx : ev l x = some (.slice (some ⟨b, o, none⟩) n c)) (hy : ev l y = some (.int k i)) (hij : i = (j : Int)) (hj : j < n) :
  Qa P l (.indexAddr t x y) ty w (.pointer (some ⟨b, o + j, none⟩)) w := by
 have h := Qa.indexAddr (P := P) (l := l) (w := w) (ty := ty) ht he hx hy (by omega) (by omega)
 rw [hij, Int.toNat_natCast, Nat.mul_one] at h
 exact h
theorem KM {t e : TypeId} {x y y' : Operand} {k k' : IntKind} {i i' : Int} {b n c : Nat} {ag : Bool} {by_ : Nat} {z : Option Value} (j j' : Nat) (ht : P.underlying t = some (.slice e)) (he : QU P e = some (ag, 1, z, by_)) (hx : ev l x = some (.slice (some ⟨b, 0, none⟩) n c)) (hy : ev l y = some (.int k i)) (hy' : ev l y' = some (.int k' i')) (hij : i = (j : Int)) (hij' : i' = (j' : Int)) (hj : j ≤ j' ∧ j < c) (hj' : j' ≤ c) :
  Qa P l (.slice t x (some y) (some y') none) ty w (.slice (some ⟨b, j, none⟩) (j' - j) (c - j)) w := by
 have h := K6 (P := P) (l := l) (w := w) (ty := ty) j j' ht he hx hy hy' hij hij' hj.1 hj'
 rw [if_neg (by omega)] at h
 simp only [Option.map_some, JB, Nat.mul_one, Nat.zero_add] at h
 exact h
def Qt (us : List UInt32) (o : Nat) (xs : List UInt32) : List UInt32 := us.take o ++ xs ++ us.drop (o + xs.length)
theorem QN {us : List UInt32} {o : Nat} {xs : List UInt32} (h : o + xs.length ≤ us.length) : (Qt us o xs).length = us.length := by simp [Qt]; omega
theorem XR (us : List UInt32) (o : Nat) : Qt us o [] = us := by simp [Qt]
theorem XQ {us : List UInt32} {o k : Nat} {xs : List UInt32} (hk : xs.length = k) (h : o + k < us.length) (w : UInt32) : (Qt us o xs).set (o + k) w = Qt us o (xs ++ [w]) := by
 subst hk
 unfold Qt
 rw [List.append_assoc, List.set_append_right _ _ (by simp; omega), List.length_take, Nat.min_eq_left (by omega), show o + xs.length - o = xs.length by omega, List.set_append_right _ _ (Nat.le_refl _), Nat.sub_self]
 rw [List.drop_eq_getElem_cons (by omega), List.set_cons_zero]
 simp [List.append_assoc, Nat.add_assoc]
theorem XS {us : List UInt32} {o j : Nat} {xs : List UInt32} (h : o + xs.length ≤ us.length) (hj : xs.length ≤ j) : (Qt us o xs).getD (o + j) 0 = us.getD (o + j) 0 := by
 unfold Qt
 simp only [List.getD]
 rw [List.append_assoc, List.getElem?_append_right (by simp; omega), List.getElem?_append_right (by simp; omega), List.getElem?_drop]
 simp only [List.length_take]
 congr 2; omega
theorem Qbx {us : List UInt32} {o : Nat} {xs ys : List UInt32} (h : o + ys.length ≤ us.length) (hl : xs.length = ys.length) : Qt (Qt us o xs) o ys = Qt us o ys := by
 refine List.ext_getElem (by rw [QN (by rw [QN (by omega)]; omega), QN (by omega), QN h]) fun i h1 h2 => ?_
 simp only [Qt, List.getElem_append, List.getElem_take, List.getElem_drop, List.length_append, List.length_take, List.length_drop]
 split <;> split <;> (try split) <;> (try split) <;> (try split) <;> simp_all <;> (try omega) <;> congr 1 <;> omega
end
end Go.Proofs.Ytgfomedobfaidaa
end
section
namespace Go.Proofs.Ytgfomedobfaidaa
theorem Jg : Try.prog.follows .mixedOrders = true := by kernel_rfl
theorem Qkn : Qv Try.prog 31 := ⟨Try.f31, Try.func31, by kernel_rfl, by kernel_rfl⟩
theorem JM : Qv Try.prog 32 := ⟨Try.f32, Try.func32, by kernel_rfl, by kernel_rfl⟩
theorem ZF : Qv Try.prog 34 := ⟨Try.f34, Try.func34, by kernel_rfl, by kernel_rfl⟩
theorem Qhj : Qv Try.prog 35 := ⟨Try.f35, Try.func35, by kernel_rfl, by kernel_rfl⟩
theorem Qhi : Qv Try.prog 36 := ⟨Try.f36, Try.func36, by kernel_rfl, by kernel_rfl⟩
theorem Qjd : Qv Try.prog 37 := ⟨Try.f37, Try.func37, by kernel_rfl, by kernel_rfl⟩
theorem QbP : Qv Try.prog 38 := ⟨Try.f38, Try.func38, by kernel_rfl, by kernel_rfl⟩
theorem QfC : Qv Try.prog 39 := ⟨Try.f39, Try.func39, by kernel_rfl, by kernel_rfl⟩
theorem Qlw : Qv Try.prog 41 := ⟨Try.f41, Try.func41, by kernel_rfl, by kernel_rfl⟩
theorem Qlv : Qv Try.prog 47 := ⟨Try.f47, Try.func47, by kernel_rfl, by kernel_rfl⟩
theorem ZW : Qv Try.prog 48 := ⟨Try.f48, Try.func48, by kernel_rfl, by kernel_rfl⟩
theorem Qkm : Qv Try.prog 49 := ⟨Try.f49, Try.func49, by kernel_rfl, by kernel_rfl⟩
theorem Qkl : Qv Try.prog 57 := ⟨Try.f57, Try.func57, by kernel_rfl, by kernel_rfl⟩
theorem Vu : Qv Try.prog 61 := ⟨Try.f61, Try.func61, by kernel_rfl, by kernel_rfl⟩
theorem Qlu : Qv Try.prog 62 := ⟨Try.f62, Try.func62, by kernel_rfl, by kernel_rfl⟩
theorem Qlt : Qv Try.prog 64 := ⟨Try.f64, Try.func64, by kernel_rfl, by kernel_rfl⟩
theorem Qls : Qv Try.prog 65 := ⟨Try.f65, Try.func65, by kernel_rfl, by kernel_rfl⟩
theorem QfB : Qv Try.prog 66 := ⟨Try.f66, Try.func66, by kernel_rfl, by kernel_rfl⟩
theorem Qlr : Qv Try.prog 67 := ⟨Try.f67, Try.func67, by kernel_rfl, by kernel_rfl⟩
theorem Qjc : Qv Try.prog 68 := ⟨Try.f68, Try.func68, by kernel_rfl, by kernel_rfl⟩
theorem KJ : Qv Try.prog 69 := ⟨Try.f69, Try.func69, by kernel_rfl, by kernel_rfl⟩
theorem Qlq : Qv Try.prog 81 := ⟨Try.f81, Try.func81, by kernel_rfl, by kernel_rfl⟩
theorem Qhh : Qv Try.prog 93 := ⟨Try.f93, Try.func93, by kernel_rfl, by kernel_rfl⟩
theorem Qk7 : Qv Try.prog 104 := ⟨Try.f104, Try.func104, by kernel_rfl, by kernel_rfl⟩
theorem Va : Qv Try.prog 105 := ⟨Try.f105, Try.func105, by kernel_rfl, by kernel_rfl⟩
theorem Qk6 : Qv Try.prog 106 := ⟨Try.f106, Try.func106, by kernel_rfl, by kernel_rfl⟩
theorem QhD : Qv Try.prog 107 := ⟨Try.f107, Try.func107, by kernel_rfl, by kernel_rfl⟩
theorem QaM : Qv Try.prog 108 := ⟨Try.f108, Try.func108, by kernel_rfl, by kernel_rfl⟩
theorem QfI : Qv Try.prog 109 := ⟨Try.f109, Try.func109, by kernel_rfl, by kernel_rfl⟩
theorem QhC : Qv Try.prog 110 := ⟨Try.f110, Try.func110, by kernel_rfl, by kernel_rfl⟩
theorem QaL : Qv Try.prog 111 := ⟨Try.f111, Try.func111, by kernel_rfl, by kernel_rfl⟩
theorem QaK : Qv Try.prog 112 := ⟨Try.f112, Try.func112, by kernel_rfl, by kernel_rfl⟩
theorem X0 : Qv Try.prog 113 := ⟨Try.f113, Try.func113, by kernel_rfl, by kernel_rfl⟩
theorem QfH : Qv Try.prog 114 := ⟨Try.f114, Try.func114, by kernel_rfl, by kernel_rfl⟩
theorem Qk5 : Qv Try.prog 115 := ⟨Try.f115, Try.func115, by kernel_rfl, by kernel_rfl⟩
theorem V8 : Qv Try.prog 116 := ⟨Try.f116, Try.func116, by kernel_rfl, by kernel_rfl⟩
theorem QcL : Qv Try.prog 117 := ⟨Try.f117, Try.func117, by kernel_rfl, by kernel_rfl⟩
theorem Ur : Qv Try.prog 126 := ⟨Try.f126, Try.func126, by kernel_rfl, by kernel_rfl⟩
theorem Uq : Qv Try.prog 129 := ⟨Try.f129, Try.func129, by kernel_rfl, by kernel_rfl⟩
theorem QfG : Qv Try.prog 130 := ⟨Try.f130, Try.func130, by kernel_rfl, by kernel_rfl⟩
theorem Up : Qv Try.prog 131 := ⟨Try.f131, Try.func131, by kernel_rfl, by kernel_rfl⟩
theorem QfF : Qv Try.prog 132 := ⟨Try.f132, Try.func132, by kernel_rfl, by kernel_rfl⟩
theorem Kq : Qv Try.prog 135 := ⟨Try.f135, Try.func135, by kernel_rfl, by kernel_rfl⟩
theorem QhB : Qv Try.prog 136 := ⟨Try.f136, Try.func136, by kernel_rfl, by kernel_rfl⟩
theorem Qk4 : Qv Try.prog 137 := ⟨Try.f137, Try.func137, by kernel_rfl, by kernel_rfl⟩
theorem QfE : Qv Try.prog 138 := ⟨Try.f138, Try.func138, by kernel_rfl, by kernel_rfl⟩
theorem Qk3 : Qv Try.prog 139 := ⟨Try.f139, Try.func139, by kernel_rfl, by kernel_rfl⟩
theorem Qk2 : Qv Try.prog 140 := ⟨Try.f140, Try.func140, by kernel_rfl, by kernel_rfl⟩
theorem QcK : Qv Try.prog 141 := ⟨Try.f141, Try.func141, by kernel_rfl, by kernel_rfl⟩
theorem Qk1 : Qv Try.prog 153 := ⟨Try.f153, Try.func153, by kernel_rfl, by kernel_rfl⟩
theorem QhA : Qv Try.prog 155 := ⟨Try.f155, Try.func155, by kernel_rfl, by kernel_rfl⟩
theorem Qk0 : Qv Try.prog 156 := ⟨Try.f156, Try.func156, by kernel_rfl, by kernel_rfl⟩
theorem Qkz : Qv Try.prog 157 := ⟨Try.f157, Try.func157, by kernel_rfl, by kernel_rfl⟩
theorem Qky : Qv Try.prog 158 := ⟨Try.f158, Try.func158, by kernel_rfl, by kernel_rfl⟩
theorem Qh9 : Qv Try.prog 159 := ⟨Try.f159, Try.func159, by kernel_rfl, by kernel_rfl⟩
theorem Qkx : Qv Try.prog 160 := ⟨Try.f160, Try.func160, by kernel_rfl, by kernel_rfl⟩
theorem Qh8 : Qv Try.prog 161 := ⟨Try.f161, Try.func161, by kernel_rfl, by kernel_rfl⟩
theorem Qkw : Qv Try.prog 162 := ⟨Try.f162, Try.func162, by kernel_rfl, by kernel_rfl⟩
theorem Qkv : Qv Try.prog 171 := ⟨Try.f171, Try.func171, by kernel_rfl, by kernel_rfl⟩
theorem Qku : Qv Try.prog 172 := ⟨Try.f172, Try.func172, by kernel_rfl, by kernel_rfl⟩
theorem Qkt : Qv Try.prog 173 := ⟨Try.f173, Try.func173, by kernel_rfl, by kernel_rfl⟩
theorem Qh7 : Qv Try.prog 176 := ⟨Try.f176, Try.func176, by kernel_rfl, by kernel_rfl⟩
theorem Qks : Qv Try.prog 182 := ⟨Try.f182, Try.func182, by kernel_rfl, by kernel_rfl⟩
theorem Qkr : Qv Try.prog 183 := ⟨Try.f183, Try.func183, by kernel_rfl, by kernel_rfl⟩
theorem QfD : Qv Try.prog 184 := ⟨Try.f184, Try.func184, by kernel_rfl, by kernel_rfl⟩
theorem Xz : Qv Try.prog 189 := ⟨Try.f189, Try.func189, by kernel_rfl, by kernel_rfl⟩
theorem Qkq : Qv Try.prog 190 := ⟨Try.f190, Try.func190, by kernel_rfl, by kernel_rfl⟩
theorem Qh6 : Qv Try.prog 192 := ⟨Try.f192, Try.func192, by kernel_rfl, by kernel_rfl⟩
theorem Qh5 : Qv Try.prog 193 := ⟨Try.f193, Try.func193, by kernel_rfl, by kernel_rfl⟩
theorem Qh4 : Qv Try.prog 199 := ⟨Try.f199, Try.func199, by kernel_rfl, by kernel_rfl⟩
theorem Qkp : Qv Try.prog 200 := ⟨Try.f200, Try.func200, by kernel_rfl, by kernel_rfl⟩
theorem Qko : Qv Try.prog 201 := ⟨Try.f201, Try.func201, by kernel_rfl, by kernel_rfl⟩
theorem ty2 : QU Try.prog 2 = some (false, 1, some (.int .i64 0), 8) := by kernel_rfl
theorem ty3 : QU Try.prog 3 = some (false, 1, some (.int .i64 0), 8) := by kernel_rfl
theorem ty5 : QU Try.prog 5 = some (false, 1, some (.int .u8 0), 1) := by kernel_rfl
theorem XJ : QU Try.prog 22 = some (false, 1, some (.slice none 0 0), 24) := by kernel_rfl
theorem QdL : QU Try.prog 38 = some (false, 1, some (.slice none 0 0), 24) := by kernel_rfl
theorem Zb : QU Try.prog 58 = some (false, 1, some (.slice none 0 0), 24) := by kernel_rfl
theorem Qo : QU Try.prog 60 = some (true, 1, some (.agg #[.slice none 0 0]), 24) := by kernel_rfl
theorem Qai : QU Try.prog 62 = some (false, 1, some (.int .u64 0), 8) := by kernel_rfl
theorem V0 : QU Try.prog 67 = some (false, 1, some (.pointer none), 8) := by kernel_rfl
theorem Qah : QU Try.prog 77 = some (true, 3, some (.agg #[.slice none 0 0, .slice none 0 0, .slice none 0 0]), 72) := by kernel_rfl
theorem Qgg : QU Try.prog 86 = some (true, 4, some (.agg #[.slice none 0 0, .slice none 0 0, .slice none 0 0, .slice none 0 0]), 96) := by kernel_rfl
theorem Qx : QU Try.prog 167 = some (false, 1, some (.int .u32 0), 4) := by kernel_rfl
theorem QkU : QU Try.prog 169 = some (true, 5, some (.agg #[.pointer none, .pointer none, .slice none 0 0, .slice none 0 0, .int .i64 0]), 72) := by kernel_rfl
theorem QkT : QU Try.prog 174 = some (true, 2, some (.agg #[.slice none 0 0, .int .u64 0]), 32) := by kernel_rfl
theorem QkS : QU Try.prog 211 = some (true, 16, some (.agg #[.slice none 0 0, .slice none 0 0, .slice none 0 0, .slice none 0 0, .slice none 0 0, .slice none 0 0, .slice none 0 0, .slice none 0 0, .slice none 0 0, .slice none 0 0, .slice none 0 0, .slice none 0 0, .slice none 0 0, .slice none 0 0, .slice none 0 0, .slice none 0 0]), 384) := by kernel_rfl
theorem VG : QU Try.prog 223 = some (true, 8, some (.agg #[.int .u32 0, .int .u32 0, .int .u32 0, .int .u32 0, .int .u32 0, .int .u32 0, .int .u32 0, .int .u32 0]), 32) := by kernel_rfl
theorem Qj7 : QU Try.prog 226 = some (true, 10, some (.agg #[.int .u32 0, .int .u32 0, .int .u32 0, .int .u32 0, .int .u32 0, .int .u32 0, .int .u32 0, .int .u32 0, .slice none 0 0, .int .i64 0]), 64) := by kernel_rfl
theorem QdY : QU Try.prog 227 = some (true, 64, some (.agg #[.int .u32 0, .int .u32 0, .int .u32 0, .int .u32 0, .int .u32 0, .int .u32 0, .int .u32 0, .int .u32 0, .int .u32 0, .int .u32 0, .int .u32 0, .int .u32 0, .int .u32 0, .int .u32 0, .int .u32 0, .int .u32 0, .int .u32 0, .int .u32 0, .int .u32 0, .int .u32 0, .int .u32 0, .int .u32 0, .int .u32 0, .int .u32 0, .int .u32 0, .int .u32 0, .int .u32 0, .int .u32 0, .int .u32 0, .int .u32 0, .int .u32 0, .int .u32 0, .int .u32 0, .int .u32 0, .int .u32 0, .int .u32 0, .int .u32 0, .int .u32 0, .int .u32 0, .int .u32 0, .int .u32 0, .int .u32 0, .int .u32 0, .int .u32 0, .int .u32 0, .int .u32 0, .int .u32 0, .int .u32 0, .int .u32 0, .int .u32 0, .int .u32 0, .int .u32 0, .int .u32 0, .int .u32 0, .int .u32 0, .int .u32 0, .int .u32 0, .int .u32 0, .int .u32 0, .int .u32 0, .int .u32 0, .int .u32 0, .int .u32 0, .int .u32 0]), 256) := by kernel_rfl
end Go.Proofs.Ytgfomedobfaidaa
end
section
set_option linter.unusedVariables false
set_option linter.unusedSimpArgs false
namespace Go.Proofs.Ytgfomedobfaidaa
open Go.RowKit
theorem Ut {lab : Lab} {w : World} (hv : Qm lab w) {x : UInt32} :
  Calls Try.prog 161 #[u32 x] w (fun e w' => ∃ v, e = .returned v ∧ (Is (i64 ((QM x.toNat : Nat) : Int))) lab w' v ∧ Below w.heap.size w w') := by
 have hv0 := hv.ent
 obtain ⟨zU0, z00⟩ := Xw lab w
 have hT := fun i => UInt8.toNat_lt (List.getD Zw i 0)
 refine Qu Try.func161 rfl Try.ntmps161 (lB9 rfl) ?_
 refine Run.seq ?_
 refine Run.region ?_
 refine Seq.val (Qa.assign rfl) (by decide) ?_
 refine QG (fun _ _ h => h) ?_
 refine Run.seq ?_
 refine Run.seq ?_
 refine Run.region ?_
 refine Seq.val (Qa.move rfl) (by decide) ?_
 refine Seq.val (Qa.geq rfl rfl) (by decide) ?_
 refine QG (fun _ _ h => h) ?_
 rcases ZM (decide ((65536 : Int) ≤ (x.toNat : Int))) with hc1 | hc1
 ·skip
  have hp1 := of_decide_eq_true hc1
  refine Qc rfl hc1 ?_
  refine Run.seq ?_
  refine Run.region ?_
  refine Seq.val (Qa.move rfl) (by decide) ?_
  refine Seq.val (J6 (b := 16) rfl rfl (by omega) (by omega)) (by decide) ?_
  refine Seq.val (Qa.assign rfl) (by decide) ?_
  refine QG (fun _ _ h => h) ?_
  refine Run.region ?_
  refine Seq.val (Qa.assign rfl) (by decide) ?_
  refine QG (fun _ _ h => h) ?_
  refine Run.seq ?_
  refine Run.seq ?_
  refine Run.region ?_
  refine Seq.val (Qa.move rfl) (by decide) ?_
  refine Seq.val (Qa.geq rfl rfl) (by decide) ?_
  refine QG (fun _ _ h => h) ?_
  rcases ZM (decide ((256 : Int) ≤ ((x >>> UInt32.ofNat 16).toNat : Int))) with hc2 | hc2
  ·skip
   have hp2 := of_decide_eq_true hc2
   refine Qc rfl hc2 ?_
   refine Run.seq ?_
   refine Run.region ?_
   refine Seq.val (Qa.move rfl) (by decide) ?_
   refine Seq.val (J6 (b := 8) rfl rfl (by omega) (by omega)) (by decide) ?_
   refine Seq.val (Qa.assign rfl) (by decide) ?_
   refine QG (fun _ _ h => h) ?_
   refine Run.region ?_
   refine Seq.val (Qa.move rfl) (by decide) ?_
   refine Seq.val (Qa.add rfl rfl (by omega)) (by decide) ?_
   refine Seq.val (Qa.assign rfl) (by decide) ?_
   refine QG (fun _ _ h => h) ?_
   refine Run.seq ?_
   refine Run.region ?_
   refine Seq.val (Qa.move rfl) (by decide) ?_
   refine Seq.val (Qa.move rfl) (by decide) ?_
   refine Seq.val (Qz Try.underlying167 Try.underlying5 rfl (JR _)) (by decide) ?_
   refine Seq.val (Yc (s := Zw) ((((x >>> UInt32.ofNat 16) >>> UInt32.ofNat 8).toUInt8).toNat) Try.underlying9 (by kernel_rfl) rfl (by rfl) (by exact UInt8.toNat_lt _)) (by decide) ?_
   refine Seq.val (Qz Try.underlying5 Try.underlying3 rfl (YI _)) (by decide) ?_
   refine Seq.val (Qa.add rfl rfl (by (have h1 := hT ((x >>> UInt32.ofNat 16 >>> UInt32.ofNat 8).toUInt8.toNat); have h2 := hT ((x >>> UInt32.ofNat 16).toUInt8.toNat); have h3 := hT ((x >>> UInt32.ofNat 8).toUInt8.toNat); have h4 := hT x.toUInt8.toNat; omega))) (by decide) ?_
   refine Seq.val (Qa.assign rfl) (by decide) ?_
   refine QG (fun _ _ h => h) ?_
   have z9 := Stp.refl (ent lab) w
   obtain ⟨zU, zo⟩ := z9.out (by decide) hv
   refine Run.ret ?_
   exact Qn Try.results161 rfl ⟨_, rfl, (JE (show (((16 + 8) + ((List.getD Zw ((((x >>> UInt32.ofNat 16) >>> UInt32.ofNat 8).toUInt8).toNat) (0 : UInt8)).toNat : Int)) : Int) = ((QM x.toNat : Nat) : Int) from by exact QiE hp1 hp2) _ _), z9.leave (by decide)⟩
  ·skip
   have hp2 := of_decide_eq_false hc2
   refine Qc rfl hc2 ?_
   refine Qh (fun _ _ h => h) ?_
   refine Run.seq ?_
   refine Run.region ?_
   refine Seq.val (Qa.move rfl) (by decide) ?_
   refine Seq.val (Qa.move rfl) (by decide) ?_
   refine Seq.val (Qz Try.underlying167 Try.underlying5 rfl (JR _)) (by decide) ?_
   refine Seq.val (Yc (s := Zw) (((x >>> UInt32.ofNat 16).toUInt8).toNat) Try.underlying9 (by kernel_rfl) rfl (by rfl) (by exact UInt8.toNat_lt _)) (by decide) ?_
   refine Seq.val (Qz Try.underlying5 Try.underlying3 rfl (YI _)) (by decide) ?_
   refine Seq.val (Qa.add rfl rfl (by (have h1 := hT ((x >>> UInt32.ofNat 16 >>> UInt32.ofNat 8).toUInt8.toNat); have h2 := hT ((x >>> UInt32.ofNat 16).toUInt8.toNat); have h3 := hT ((x >>> UInt32.ofNat 8).toUInt8.toNat); have h4 := hT x.toUInt8.toNat; omega))) (by decide) ?_
   refine Seq.val (Qa.assign rfl) (by decide) ?_
   refine QG (fun _ _ h => h) ?_
   have z9 := Stp.refl (ent lab) w
   obtain ⟨zU, zo⟩ := z9.out (by decide) hv
   refine Run.ret ?_
   exact Qn Try.results161 rfl ⟨_, rfl, (JE (show ((16 + ((List.getD Zw (((x >>> UInt32.ofNat 16).toUInt8).toNat) (0 : UInt8)).toNat : Int)) : Int) = ((QM x.toNat : Nat) : Int) from by exact QiD hp1 hp2) _ _), z9.leave (by decide)⟩
 ·skip
  have hp1 := of_decide_eq_false hc1
  refine Qc rfl hc1 ?_
  refine Qh (fun _ _ h => h) ?_
  refine Run.seq ?_
  refine Run.seq ?_
  refine Run.region ?_
  refine Seq.val (Qa.move rfl) (by decide) ?_
  refine Seq.val (Qa.geq rfl rfl) (by decide) ?_
  refine QG (fun _ _ h => h) ?_
  rcases ZM (decide ((256 : Int) ≤ (x.toNat : Int))) with hc2 | hc2
  ·skip
   have hp2 := of_decide_eq_true hc2
   refine Qc rfl hc2 ?_
   refine Run.seq ?_
   refine Run.region ?_
   refine Seq.val (Qa.move rfl) (by decide) ?_
   refine Seq.val (J6 (b := 8) rfl rfl (by omega) (by omega)) (by decide) ?_
   refine Seq.val (Qa.assign rfl) (by decide) ?_
   refine QG (fun _ _ h => h) ?_
   refine Run.region ?_
   refine Seq.val (Qa.move rfl) (by decide) ?_
   refine Seq.val (Qa.add rfl rfl (by omega)) (by decide) ?_
   refine Seq.val (Qa.assign rfl) (by decide) ?_
   refine QG (fun _ _ h => h) ?_
   refine Run.seq ?_
   refine Run.region ?_
   refine Seq.val (Qa.move rfl) (by decide) ?_
   refine Seq.val (Qa.move rfl) (by decide) ?_
   refine Seq.val (Qz Try.underlying167 Try.underlying5 rfl (JR _)) (by decide) ?_
   refine Seq.val (Yc (s := Zw) (((x >>> UInt32.ofNat 8).toUInt8).toNat) Try.underlying9 (by kernel_rfl) rfl (by rfl) (by exact UInt8.toNat_lt _)) (by decide) ?_
   refine Seq.val (Qz Try.underlying5 Try.underlying3 rfl (YI _)) (by decide) ?_
   refine Seq.val (Qa.add rfl rfl (by (have h1 := hT ((x >>> UInt32.ofNat 16 >>> UInt32.ofNat 8).toUInt8.toNat); have h2 := hT ((x >>> UInt32.ofNat 16).toUInt8.toNat); have h3 := hT ((x >>> UInt32.ofNat 8).toUInt8.toNat); have h4 := hT x.toUInt8.toNat; omega))) (by decide) ?_
   refine Seq.val (Qa.assign rfl) (by decide) ?_
   refine QG (fun _ _ h => h) ?_
   have z9 := Stp.refl (ent lab) w
   obtain ⟨zU, zo⟩ := z9.out (by decide) hv
   refine Run.ret ?_
   exact Qn Try.results161 rfl ⟨_, rfl, (JE (show (((0 + 8) + ((List.getD Zw (((x >>> UInt32.ofNat 8).toUInt8).toNat) (0 : UInt8)).toNat : Int)) : Int) = ((QM x.toNat : Nat) : Int) from by exact QiC hp1 hp2) _ _), z9.leave (by decide)⟩
  ·skip
   have hp2 := of_decide_eq_false hc2
   refine Qc rfl hc2 ?_
   refine Qh (fun _ _ h => h) ?_
   refine Run.seq ?_
   refine Run.region ?_
   refine Seq.val (Qa.move rfl) (by decide) ?_
   refine Seq.val (Qa.move rfl) (by decide) ?_
   refine Seq.val (Qz Try.underlying167 Try.underlying5 rfl (JR _)) (by decide) ?_
   refine Seq.val (Yc (s := Zw) x.toUInt8.toNat Try.underlying9 (by kernel_rfl) rfl (by rfl) (by exact UInt8.toNat_lt _)) (by decide) ?_
   refine Seq.val (Qz Try.underlying5 Try.underlying3 rfl (YI _)) (by decide) ?_
   refine Seq.val (Qa.add rfl rfl (by (have h1 := hT ((x >>> UInt32.ofNat 16 >>> UInt32.ofNat 8).toUInt8.toNat); have h2 := hT ((x >>> UInt32.ofNat 16).toUInt8.toNat); have h3 := hT ((x >>> UInt32.ofNat 8).toUInt8.toNat); have h4 := hT x.toUInt8.toNat; omega))) (by decide) ?_
   refine Seq.val (Qa.assign rfl) (by decide) ?_
   refine QG (fun _ _ h => h) ?_
   have z9 := Stp.refl (ent lab) w
   obtain ⟨zU, zo⟩ := z9.out (by decide) hv
   refine Run.ret ?_
   exact Qn Try.results161 rfl ⟨_, rfl, (JE (show ((0 + ((List.getD Zw x.toUInt8.toNat (0 : UInt8)).toNat : Int)) : Int) = ((QM x.toNat : Nat) : Int) from by exact QiB hp2) _ _), z9.leave (by decide)⟩
theorem Ya {lab : Lab} {w : World} (hv : Qm lab w) {a : Nat} {v0 : Value} (h0 : Qj a lab w v0) (hn : nw a ≤ 1000000) :
  Calls Try.prog 113 #[v0] w (fun e w' => ∃ v, e = .returned v ∧ (Is (i64 ((QM a : Nat) : Int))) lab w' v ∧ Below w.heap.size w w') := by
 have hv0 := hv.ent
 obtain ⟨zU0, z00⟩ := Xw lab w
 replace h0 := (Jp _).step z00 h0
 obtain ⟨A1, c2, rfl⟩ := Qj.shape h0
 have z3 := Qj.cap h0
 have hB := Zt a
 refine Qu Try.func113 rfl Try.ntmps113 (lB9 rfl) ?_
 refine Run.seq ?_
 refine Run.region ?_
 refine Seq.box (k := 2) [.slice A1 (nw a) c2] hv0 rfl rfl (by decide) ?_
 intro lab4 w5 b6 o7 s8 hv9
 refine Seq.val (Qa.assign rfl) (by decide) ?_
 refine QG (fun _ _ h => h) ?_
 refine Run.seq ?_
 refine Run.seq ?_
 refine Run.region ?_
 refine Seq.val (Qd 0 Try.underlying60 rfl Zb rfl rfl) (by decide) ?_
 have q11 := (Jp _).step s8 h0
 have q10 := Q9 q11
 refine Seq.val (Qf o7 Zb rfl rfl) (by decide) ?_
 refine Seq.val (Qa.len Try.underlying58 rfl) (by decide) ?_
 refine Seq.val (Qa.eql rfl rfl) (by decide) ?_
 refine QG (fun _ _ h => h) ?_
 rcases ZM (decide ((((nw a : Nat) : Int) : Int) = (0 : Int))) with hc1 | hc1
 ·skip
  have hp1 := of_decide_eq_true hc1
  refine Qc rfl hc1 ?_
  refine Run.seq ?_
  refine Run.region ?_
  refine Seq.val (Qa.assign rfl) (by decide) ?_
  refine QG (fun _ _ h => h) ?_
  obtain ⟨zU, zo⟩ := s8.out (by decide) hv
  refine Run.ret (Qr ?_)
  exact Qn Try.results113 rfl ⟨_, rfl, (JE (show (0 : Int) = ((QM a : Nat) : Int) from by exact QfQ hp1) _ _), s8.leave (by decide)⟩
 ·skip
  have hp1 := of_decide_eq_false hc1
  refine Qc rfl hc1 ?_
  refine Qh (fun _ _ h => h) ?_
  refine Run.seq ?_
  refine Run.any (m := 15) Jg (by kernel_rfl) hv9 (phi [Is (.pointer (some ⟨b6, 0, none⟩)), Qp (Qk a), Is (i64 ((nw a : Nat) : Int)), Is (i64 (((nw a : Nat) : Int) - 1)), Is (i64 (32 * (((nw a : Nat) : Int) - 1))), Is (.pointer (some ⟨b6, 0, none⟩)), Qp (Qk a), Is (.pointer (some ⟨b6, 0, none⟩)), Qp (Qk a), Is (i64 ((nw a : Nat) : Int)), Is (i64 (((nw a : Nat) : Int) - 1)), ElV (List.map u32 (Qk a)) ((((nw a : Nat) : Int) - 1).toNat), Is (u32 (List.getD (Qk a) ((((nw a : Nat) : Int) - 1).toNat) (0 : UInt32))), Is (i64 ((QM (List.getD (Qk a) ((((nw a : Nat) : Int) - 1).toNat) (0 : UInt32)).toNat : Nat) : Int)), Is (i64 ((32 * (((nw a : Nat) : Int) - 1)) + ((QM (List.getD (Qk a) ((((nw a : Nat) : Int) - 1).toNat) (0 : UInt32)).toNat : Nat) : Int)))]) (UH (L := [Is (.pointer (some ⟨b6, 0, none⟩)), Qp (Qk a), Is (i64 ((nw a : Nat) : Int)), Is (i64 (((nw a : Nat) : Int) - 1)), Is (i64 (32 * (((nw a : Nat) : Int) - 1))), Is (.pointer (some ⟨b6, 0, none⟩)), Qp (Qk a), Is (.pointer (some ⟨b6, 0, none⟩)), Qp (Qk a), Is (i64 ((nw a : Nat) : Int)), Is (i64 (((nw a : Nat) : Int) - 1)), ElV (List.map u32 (Qk a)) ((((nw a : Nat) : Int) - 1).toNat), Is (u32 (List.getD (Qk a) ((((nw a : Nat) : Int) - 1).toNat) (0 : UInt32))), Is (i64 ((QM (List.getD (Qk a) ((((nw a : Nat) : Int) - 1).toNat) (0 : UInt32)).toNat : Nat) : Int)), Is (i64 ((32 * (((nw a : Nat) : Int) - 1)) + ((QM (List.getD (Qk a) ((((nw a : Nat) : Int) - 1).toNat) (0 : UInt32)).toNat : Nat) : Int)))]) ⟨Pers.z (JG _), Pers.z (JT _), Pers.z (JG _), Pers.z (JG _), Pers.z (JG _), Pers.z (JG _), Pers.z (JT _), Pers.z (JG _), Pers.z (JT _), Pers.z (JG _), Pers.z (JG _), Pers.z (QcU _ _), Pers.z (JG _), Pers.z (JG _), Pers.z (JG _), trivial⟩) ?_ ?_
  ·intro wz z0
   refine QkM (n := 15) ⟨?_, ?_, ?_, ?_, ?_, ?_, ?_, ?_, ?_, ?_, ?_, ?_, ?_, ?_, ?_, trivial⟩
   ·refine J3 rfl (by decide) fun lab12 w13 a14 hv15 s16 f17 d18 => ?_
    exact ⟨_, _, _, _, f17, Qd 0 Try.underlying60 rfl Zb rfl rfl, hv15, Stp.refl _ _, rfl⟩
   ·refine J3 rfl (by decide) fun lab19 w20 a21 hv22 s23 f24 d25 => ?_
    obtain ⟨v26, e27, q28⟩ := d25 0 rfl 7 rfl
    replace q28 : (Is (.pointer (some ⟨b6, 0, none⟩))) lab19 w20 v26 := q28
    replace q28 := Is.out q28; subst q28
    have f29 := f24.ext e27
    have o30 := o7.lift (z0.trans s23) (by decide)
    have q32 := (Jp _).step (z0.trans s23) q11
    have q31 := Q9 q32
    exact ⟨_, _, _, _, f29, Qf o30 Zb rfl rfl, hv22, Stp.refl _ _, q31⟩
   ·refine J3 rfl (by decide) fun lab33 w34 a35 hv36 s37 f38 d39 => ?_
    obtain ⟨v40, e41, q42⟩ := d39 1 rfl 8 rfl
    replace q42 : (Qp (Qk a)) lab33 w34 v40 := q42
    obtain ⟨A43, c44, rfl⟩ := Qp.shapeN q42 (n := nw a) (by rfl)
    have z45 := Qp.cap q42
    have f46 := f38.ext e41
    exact ⟨_, _, _, _, f46, Qa.len Try.underlying58 rfl, hv36, Stp.refl _ _, rfl⟩
   ·refine J3 rfl (by decide) fun lab47 w48 a49 hv50 s51 f52 d53 => ?_
    obtain ⟨v54, e55, q56⟩ := d53 2 rfl 9 rfl
    replace q56 : (Is (i64 ((nw a : Nat) : Int))) lab47 w48 v54 := q56
    replace q56 := Is.out q56; subst q56
    have f57 := f52.ext e55
    exact ⟨_, _, _, _, f57, Qa.sub rfl rfl (by omega), hv50, Stp.refl _ _, rfl⟩
   ·refine J3 rfl (by decide) fun lab58 w59 a60 hv61 s62 f63 d64 => ?_
    obtain ⟨v65, e66, q67⟩ := d64 3 rfl 10 rfl
    replace q67 : (Is (i64 (((nw a : Nat) : Int) - 1))) lab58 w59 v65 := q67
    replace q67 := Is.out q67; subst q67
    have f68 := f63.ext e66
    exact ⟨_, _, _, _, f68, Qa.mul rfl rfl (by omega), hv61, Stp.refl _ _, rfl⟩
   ·refine J3 rfl (by decide) fun lab69 w70 a71 hv72 s73 f74 d75 => ?_
    exact ⟨_, _, _, _, f74, Qd 0 Try.underlying60 rfl Zb rfl rfl, hv72, Stp.refl _ _, rfl⟩
   ·refine J3 rfl (by decide) fun lab76 w77 a78 hv79 s80 f81 d82 => ?_
    obtain ⟨v83, e84, q85⟩ := d82 5 rfl 12 rfl
    replace q85 : (Is (.pointer (some ⟨b6, 0, none⟩))) lab76 w77 v83 := q85
    replace q85 := Is.out q85; subst q85
    have f86 := f81.ext e84
    have o87 := o7.lift (z0.trans s80) (by decide)
    have q89 := (Jp _).step (z0.trans s80) q11
    have q88 := Q9 q89
    exact ⟨_, _, _, _, f86, Qf o87 Zb rfl rfl, hv79, Stp.refl _ _, q88⟩
   ·refine J3 rfl (by decide) fun lab90 w91 a92 hv93 s94 f95 d96 => ?_
    exact ⟨_, _, _, _, f95, Qd 0 Try.underlying60 rfl Zb rfl rfl, hv93, Stp.refl _ _, rfl⟩
   ·refine J3 rfl (by decide) fun lab97 w98 a99 hv100 s101 f102 d103 => ?_
    obtain ⟨v104, e105, q106⟩ := d103 7 rfl 14 rfl
    replace q106 : (Is (.pointer (some ⟨b6, 0, none⟩))) lab97 w98 v104 := q106
    replace q106 := Is.out q106; subst q106
    have f107 := f102.ext e105
    have o108 := o7.lift (z0.trans s101) (by decide)
    have q110 := (Jp _).step (z0.trans s101) q11
    have q109 := Q9 q110
    exact ⟨_, _, _, _, f107, Qf o108 Zb rfl rfl, hv100, Stp.refl _ _, q109⟩
   ·refine J3 rfl (by decide) fun lab111 w112 a113 hv114 s115 f116 d117 => ?_
    obtain ⟨v118, e119, q120⟩ := d117 8 rfl 15 rfl
    replace q120 : (Qp (Qk a)) lab111 w112 v118 := q120
    obtain ⟨A121, c122, rfl⟩ := Qp.shapeN q120 (n := nw a) (by rfl)
    have z123 := Qp.cap q120
    have f124 := f116.ext e119
    exact ⟨_, _, _, _, f124, Qa.len Try.underlying58 rfl, hv114, Stp.refl _ _, rfl⟩
   ·refine J3 rfl (by decide) fun lab125 w126 a127 hv128 s129 f130 d131 => ?_
    obtain ⟨v132, e133, q134⟩ := d131 9 rfl 16 rfl
    replace q134 : (Is (i64 ((nw a : Nat) : Int))) lab125 w126 v132 := q134
    replace q134 := Is.out q134; subst q134
    have f135 := f130.ext e133
    exact ⟨_, _, _, _, f135, Qa.sub rfl rfl (by omega), hv128, Stp.refl _ _, rfl⟩
   ·refine J3 rfl (by decide) fun lab136 w137 a138 hv139 s140 f141 d142 => ?_
    obtain ⟨v143, e144, q145⟩ := d142 6 rfl 13 rfl
    replace q145 : (Qp (Qk a)) lab136 w137 v143 := q145
    obtain ⟨A146, c147, rfl⟩ := Qp.shapeN q145 (n := nw a) (by rfl)
    have z148 := Qp.cap q145
    have f149 := f141.ext e144
    obtain ⟨v150, e151, q152⟩ := d142 10 rfl 17 rfl
    replace q152 : (Is (i64 (((nw a : Nat) : Int) - 1))) lab136 w137 v150 := q152
    replace q152 := Is.out q152; subst q152
    have f153 := f149.ext e151
    exact ⟨_, _, _, _, f153, Qs ((((nw a : Nat) : Int) - 1).toNat) Try.underlying58 Qx rfl rfl (Qp.row q145) (by simp [nw]) (by omega) (by omega), hv139, Stp.refl _ _, ⟨_, rfl, (Qp.row q145)⟩⟩
   ·refine J3 rfl (by decide) fun lab154 w155 a156 hv157 s158 f159 d160 => ?_
    obtain ⟨v161, e162, q163⟩ := d160 11 rfl 18 rfl
    replace q163 : (ElV (List.map u32 (Qk a)) ((((nw a : Nat) : Int) - 1).toNat)) lab154 w155 v161 := q163
    obtain ⟨A164, rfl, r165⟩ := q163
    have f166 := f159.ext e162
    exact ⟨_, _, _, _, f166, Qy Qx rfl r165 (Jo u32 _ (0 : UInt32) (by (have h1 := QfR hp1; have h2 := Zj h1; have h3 : (Qk a).length = nw a := rfl; omega))), hv157, Stp.refl _ _, rfl⟩
   ·refine Qc9 rfl (by decide) Qh8 fun lab167 w168 a169 hv170 s171 f172 d173 => ?_
    obtain ⟨v174, e175, q176⟩ := d173 12 rfl 19 rfl
    replace q176 : (Is (u32 (List.getD (Qk a) ((((nw a : Nat) : Int) - 1).toNat) (0 : UInt32)))) lab167 w168 v174 := q176
    replace q176 := Is.out q176; subst q176
    have f177 := f172.ext e175
    exact ⟨_, _, f177, rfl, (Ut hv170 (x := List.getD (Qk a) ((((nw a : Nat) : Int) - 1).toNat) (0 : UInt32)))⟩
   ·refine J3 rfl (by decide) fun lab178 w179 a180 hv181 s182 f183 d184 => ?_
    obtain ⟨v185, e186, q187⟩ := d184 4 rfl 11 rfl
    replace q187 : (Is (i64 (32 * (((nw a : Nat) : Int) - 1)))) lab178 w179 v185 := q187
    replace q187 := Is.out q187; subst q187
    have f188 := f183.ext e186
    obtain ⟨v189, e190, q191⟩ := d184 13 rfl 20 rfl
    replace q191 : (Is (i64 ((QM (List.getD (Qk a) ((((nw a : Nat) : Int) - 1).toNat) (0 : UInt32)).toNat : Nat) : Int))) lab178 w179 v189 := q191
    have q191 := Is.out q191; subst q191
    have f192 := f188.ext e190
    exact ⟨_, _, _, _, f192, Qa.add rfl rfl (by (have h1 := QcQ hp1; omega)), hv181, Stp.refl _ _, rfl⟩
  ·skip
   intro lab193 w194 a195 hv196 s197 f198 hl199
   obtain ⟨v200, e201, q202⟩ := hl199 14 (by decide) 21 rfl
   replace q202 : (Is (i64 ((32 * (((nw a : Nat) : Int) - 1)) + ((QM (List.getD (Qk a) ((((nw a : Nat) : Int) - 1).toNat) (0 : UInt32)).toNat : Nat) : Int)))) lab193 w194 v200 := q202
   replace q202 := Is.out q202; subst q202
   have f203 := f198.ext e201
   refine Seq.start (m := 15) f203 ?_
   refine Seq.val (Qa.assign rfl) (by decide) ?_
   refine QG (fun _ _ h => h) ?_
   have c204 := s8.trans s197
   obtain ⟨zU, zo⟩ := c204.out (by decide) hv
   refine Run.ret ?_
   exact Qn Try.results113 rfl ⟨_, rfl, (JE (show (((32 * (((nw a : Nat) : Int) - 1)) + ((QM (List.getD (Qk a) ((((nw a : Nat) : Int) - 1).toNat) (0 : UInt32)).toNat : Nat) : Int)) : Int) = ((QM a : Nat) : Int) from by exact QcQ hp1) _ _), c204.leave (by decide)⟩
theorem Qa2 {lab : Lab} {w : World} (hv : Qm lab w) {a : Nat} {v0 : Value} (h0 : Qj a lab w v0) {size : Int} (hn : nw a ≤ 1000000) (h0s : 0 ≤ size ∧ size ≤ 10000000) :
  Calls Try.prog 129 #[v0, i64 size] w (fun e w' => ∃ v, e = .returned v ∧ (Zl (Qi (if size < (((QM a + 7) / 8 : Nat) : Int) then [] else beN a (Int.toNat size))) (Is (i64 (if size < (((QM a + 7) / 8 : Nat) : Int) then 2 else 0)))) lab w' v ∧ Below w.heap.size w w') := by
 have hv0 := hv.ent
 obtain ⟨zU0, z00⟩ := Xw lab w
 replace h0 := (Jp _).step z00 h0
 obtain ⟨A1, c2, rfl⟩ := Qj.shape h0
 have z3 := Qj.cap h0
 have hB := Zt a
 refine Qu Try.func129 rfl Try.ntmps129 (lB9 rfl) ?_
 refine Run.seq ?_
 refine Run.region ?_
 refine Seq.box (k := 3) [.slice A1 (nw a) c2] hv0 rfl rfl (by decide) ?_
 intro lab4 w5 b6 o7 s8 hv9
 refine Seq.val (Qa.assign rfl) (by decide) ?_
 refine Seq.val (Qa.assign rfl) (by decide) ?_
 refine QG (fun _ _ h => h) ?_
 refine Run.seq ?_
 refine Run.seq ?_
 refine Run.region ?_
 refine Seq.val (Qa.move rfl) (by decide) ?_
 refine Seq.val (Qa.lss rfl rfl) (by decide) ?_
 refine QG (fun _ _ h => h) ?_
 rcases ZM (decide ((size : Int) < (0 : Int))) with hc1 | hc1
 ·skip
  have hp1 := of_decide_eq_true hc1
  refine Qc rfl hc1 ?_
  refine Run.seq ?_
  refine Run.region ?_
  refine Seq.val (Qa.assign rfl) (by decide) ?_
  refine Seq.val (Qa.assign rfl) (by decide) ?_
  refine QG (fun _ _ h => h) ?_
  obtain ⟨zU, zo⟩ := s8.out (by decide) hv
  refine Run.ret (Qr ?_)
  exact QP Try.results129 rfl rfl ⟨_, rfl, ⟨_, _, rfl, (Je (show ([] : List UInt8) = (if size < (((QM a + 7) / 8 : Nat) : Int) then [] else beN a (Int.toNat size)) from by rw [if_pos (by omega)]) (Qi.nil _ _)), (JE (show (1 : Int) = (if size < (((QM a + 7) / 8 : Nat) : Int) then 2 else 0) from by omega) _ _)⟩, s8.leave (by decide)⟩
 ·skip
  have hp1 := of_decide_eq_false hc1
  refine Qc rfl hc1 ?_
  refine Qh (fun _ _ h => h) ?_
  refine Run.seq ?_
  refine Run.region ?_
  refine Seq.val (Qb [.slice A1 (nw a) c2] o7 Qo rfl rfl) (by decide) ?_
  have q10 := (Jp _).step s8 h0
  refine Ky (V := Is (i64 ((QM a : Nat) : Int))) X0 hv9 rfl (by decide) (Ya hv9 q10 (show nw a ≤ 1000000 from by assumption)) ?_
  intro v11 w12 q13 s14 hv15
  have q13 := Is.out q13; subst q13
  refine Seq.val (Qa.add rfl rfl (by omega)) (by decide) ?_
  refine Seq.val (Qa.quo rfl rfl (by omega) (by omega) (by omega)) (by decide) ?_
  refine Seq.val (Qa.assign rfl) (by decide) ?_
  refine QG (fun _ _ h => h) ?_
  refine Run.seq ?_
  refine Run.seq ?_
  refine Run.region ?_
  refine Seq.val (Qa.move rfl) (by decide) ?_
  refine Seq.val (Qa.move rfl) (by decide) ?_
  refine Seq.val (Qa.gtr rfl rfl) (by decide) ?_
  refine QG (fun _ _ h => h) ?_
  rcases ZM (decide ((size : Int) < ((((QM a : Nat) : Int) + 7) / 8 : Int))) with hc2 | hc2
  ·skip
   have hp2 := of_decide_eq_true hc2
   refine Qc rfl hc2 ?_
   refine Run.seq ?_
   refine Run.region ?_
   refine Seq.val (Qa.assign rfl) (by decide) ?_
   refine Seq.val (Qa.assign rfl) (by decide) ?_
   refine QG (fun _ _ h => h) ?_
   have c16 := s8.trans s14
   obtain ⟨zU, zo⟩ := c16.out (by decide) hv
   refine Run.ret (Qr ?_)
   exact QP Try.results129 rfl rfl ⟨_, rfl, ⟨_, _, rfl, (Je (show ([] : List UInt8) = (if size < (((QM a + 7) / 8 : Nat) : Int) then [] else beN a (Int.toNat size)) from by rw [if_pos (by omega)]) (Qi.nil _ _)), (JE (show (2 : Int) = (if size < (((QM a + 7) / 8 : Nat) : Int) then 2 else 0) from by rw [if_pos (by omega)]) _ _)⟩, c16.leave (by decide)⟩
  ·skip
   have hp2 := of_decide_eq_false hc2
   refine Qc rfl hc2 ?_
   refine Qh (fun _ _ h => h) ?_
   refine Run.seq ?_
   refine Run.region ?_
   refine Seq.val (Qa.move rfl) (by decide) ?_
   refine Jv (k := 20) u8 (0 : UInt8) ((size).toNat) hv15 Try.underlying22 ty5 rfl rfl rfl (by omega) (by omega) (by omega) (by omega) (by decide) ?_
   intro lab17 w18 b19 o20 s21 hv22
   refine Seq.val (Qa.assign rfl) (by decide) ?_
   refine QG (fun _ _ h => h) ?_
   refine Run.seq ?_
   refine Run.seq ?_
   refine Run.region ?_
   refine Seq.val (Qa.move rfl) (by decide) ?_
   refine Seq.val (Qa.move rfl) (by decide) ?_
   refine QG (fun _ _ h => h) ?_
   refine Run.block ?_
   refine Run.loop (fun m' l' w' => ∃ (k : Nat) (lab' : Lab), m' = (QM a + 7) / 8 - k ∧ l' = [(21, i64 ((k : Nat) : Int)), (0, .agg #[.slice A1 (nw a) c2]), (1, i64 size), (2, .pointer (some ⟨b6, 0, none⟩)), (4, .slice none 0 0), (5, .int .i64 0), (9, i64 size), (10, .bool (decide ((size : Int) < (0 : Int)))), (11, .agg #[.slice A1 (nw a) c2]), (12, i64 ((QM a : Nat) : Int)), (13, i64 (((QM a : Nat) : Int) + 7)), (14, i64 ((((QM a : Nat) : Int) + 7) / 8)), (6, i64 ((((QM a : Nat) : Int) + 7) / 8)), (15, i64 ((((QM a : Nat) : Int) + 7) / 8)), (16, i64 size), (17, .bool (decide ((size : Int) < ((((QM a : Nat) : Int) + 7) / 8 : Int)))), (18, i64 size), (19, .slice (some ⟨b19, 0, none⟩) ((size).toNat) ((size).toNat)), (7, .slice (some ⟨b19, 0, none⟩) ((size).toNat) ((size).toNat)), (20, i64 ((((QM a : Nat) : Int) + 7) / 8))] ∧ Qm lab' w' ∧ Stp [20] lab17 w18 lab' w' ∧ Own lab' w' 20 b19 5 (List.map u8 (VA a (Int.toNat size) k)).toArray ∧ (k ≤ (QM a + 7) / 8)) ((QM a + 7) / 8 - 0) (l0 := [(21, i64 ((0 : Nat) : Int)), (0, .agg #[.slice A1 (nw a) c2]), (1, i64 size), (2, .pointer (some ⟨b6, 0, none⟩)), (4, .slice none 0 0), (5, .int .i64 0), (9, i64 size), (10, .bool (decide ((size : Int) < (0 : Int)))), (11, .agg #[.slice A1 (nw a) c2]), (12, i64 ((QM a : Nat) : Int)), (13, i64 (((QM a : Nat) : Int) + 7)), (14, i64 ((((QM a : Nat) : Int) + 7) / 8)), (6, i64 ((((QM a : Nat) : Int) + 7) / 8)), (15, i64 ((((QM a : Nat) : Int) + 7) / 8)), (16, i64 size), (17, .bool (decide ((size : Int) < ((((QM a : Nat) : Int) + 7) / 8 : Int)))), (18, i64 size), (19, .slice (some ⟨b19, 0, none⟩) ((size).toNat) ((size).toNat)), (7, .slice (some ⟨b19, 0, none⟩) ((size).toNat) ((size).toNat)), (20, i64 ((((QM a : Nat) : Int) + 7) / 8))]) ⟨(congrArg (fun z => some (i64 z)) (show (0 : Int) = ((0 : Nat) : Int) from by rfl)), rfl, rfl, rfl, rfl, rfl, rfl, rfl, rfl, rfl, rfl, rfl, rfl, rfl, rfl, rfl, rfl, rfl, rfl, rfl, trivial⟩ ⟨0, lab17, rfl, rfl, hv22, ((Stp.refl _ _).more (by simp)), ((show List.replicate ((size).toNat) (0 : UInt8) = VA a (Int.toNat size) 0 from by (exact (QaO _ _).symm)) ▸ o20), (by omega)⟩ ?_
   intro m23 l24 w25 H26
   obtain ⟨k, lab27, hzm, rfl, hv28, s29, o30, hk⟩ := H26
   replace hzm := hzm.symm; subst hzm
   have hL := Kv a (Int.toNat size) k
   have hL2 : (Qk a).length = nw a := rfl
   refine Run.seq ?_
   refine Run.region ?_
   refine Seq.val (Qa.lss rfl rfl) (by decide) ?_
   refine QG (fun _ _ h => h) ?_
   refine Run.seq ?_
   rcases ZM (decide ((((k : Nat) : Int) : Int) < ((((QM a : Nat) : Int) + 7) / 8 : Int))) with hc3 | hc3
   ·skip
    have hp3 := of_decide_eq_true hc3
    refine Qc rfl hc3 ?_
    refine Qh (fun _ _ h => h) ?_
    refine Run.seq ?_
    refine Run.block ?_
    refine Run.seq ?_
    refine Run.region ?_
    refine Seq.val (Qa.move rfl) (by decide) ?_
    refine Seq.val (Qa.assign rfl) (by decide) ?_
    refine QG (fun _ _ h => h) ?_
    refine Run.region ?_
    refine Seq.val (Qa.move rfl) (by decide) ?_
    refine Seq.val (Qa.move rfl) (by decide) ?_
    refine Seq.val (Qa.sub rfl rfl (by omega)) (by decide) ?_
    refine Seq.val (Qa.move rfl) (by decide) ?_
    refine Seq.val (Qa.sub rfl rfl (by omega)) (by decide) ?_
    refine Seq.val (Qd 0 Try.underlying60 rfl Zb rfl rfl) (by decide) ?_
    have c32 := s21.trans s29
    have c33 := s14.trans c32
    have o31 := o7.lift c33 (by decide)
    have q35 := (Jp _).step c33 q10
    have q34 := Q9 q35
    refine Seq.val (Qf o31 Zb rfl rfl) (by decide) ?_
    refine Seq.val (Qa.move rfl) (by decide) ?_
    refine Seq.val (Qa.quo rfl rfl (by omega) (by omega) (by omega)) (by decide) ?_
    refine Seq.val (Qs ((((k : Nat) : Int) / 4).toNat) Try.underlying58 Qx rfl rfl (Qp.row q34) (by simp [nw]) (by omega) (by omega)) (by decide) ?_
    refine Seq.val (Qy Qx rfl (Qp.row q34) (Jo u32 _ (0 : UInt32) (by omega))) (by decide) ?_
    refine Seq.val (Qa.move rfl) (by decide) ?_
    refine Seq.val (Qa.rem rfl rfl (by omega) (by omega)) (by decide) ?_
    refine Seq.val (Qa.mul rfl rfl (by omega)) (by decide) ?_
    refine Seq.val (J6 rfl rfl (by omega) (by omega)) (by decide) ?_
    refine Seq.val (Qz Try.underlying167 Try.underlying5 rfl (JR _)) (by decide) ?_
    refine Seq.val (Q5 (((size - 1) - ((k : Nat) : Int)).toNat) Try.underlying22 ty5 rfl rfl (by omega) (by omega)) (by decide) ?_
    refine Q8 (k := 20) (j := (((size - 1) - ((k : Nat) : Int)).toNat)) (v := (((List.getD (Qk a) ((((k : Nat) : Int) / 4).toNat) (0 : UInt32)) >>> UInt32.ofNat (8 * (((k : Nat) : Int) % 4)).toNat).toUInt8)) u8 hv28 o30 ty5 (congrArg (fun o => some (Value.pointer (some ⟨b19, o, none⟩))) (Nat.mul_one (((size - 1) - ((k : Nat) : Int)).toNat))) rfl (by omega) rfl rfl ?_
    intro w36 o37 s38 hv39
    refine QG (fun _ _ h => h) ?_
    refine Run.region ?_
    refine Seq.val (Qa.add rfl rfl (by omega)) (by decide) ?_
    refine Seq.val (Qa.move rfl) (by decide) ?_
    have c40 := s29.trans s38
    exact Seq.nil (fun a41 h42 => ⟨_, by omega, _, h42.weaken (QF (l' := [(21, i64 (((k + 1) : Nat) : Int)), (0, .agg #[.slice A1 (nw a) c2]), (1, i64 size), (2, .pointer (some ⟨b6, 0, none⟩)), (4, .slice none 0 0), (5, .int .i64 0), (9, i64 size), (10, .bool (decide ((size : Int) < (0 : Int)))), (11, .agg #[.slice A1 (nw a) c2]), (12, i64 ((QM a : Nat) : Int)), (13, i64 (((QM a : Nat) : Int) + 7)), (14, i64 ((((QM a : Nat) : Int) + 7) / 8)), (6, i64 ((((QM a : Nat) : Int) + 7) / 8)), (15, i64 ((((QM a : Nat) : Int) + 7) / 8)), (16, i64 size), (17, .bool (decide ((size : Int) < ((((QM a : Nat) : Int) + 7) / 8 : Int)))), (18, i64 size), (19, .slice (some ⟨b19, 0, none⟩) ((size).toNat) ((size).toNat)), (7, .slice (some ⟨b19, 0, none⟩) ((size).toNat) ((size).toNat)), (20, i64 ((((QM a : Nat) : Int) + 7) / 8))]) ⟨(congrArg (fun z => some (i64 z)) (show (((k : Nat) : Int) + 1 : Int) = (((k + 1) : Nat) : Int) from by rfl)), rfl, rfl, rfl, rfl, rfl, rfl, rfl, rfl, rfl, rfl, rfl, rfl, rfl, rfl, rfl, rfl, rfl, rfl, rfl, trivial⟩), ⟨k + 1, lab27, rfl, rfl, hv39, (c40.more (by decide)), ((show List.set (VA a (Int.toNat size) k) (((size - 1) - ((k : Nat) : Int)).toNat) (((List.getD (Qk a) ((((k : Nat) : Int) / 4).toNat) (0 : UInt32)) >>> UInt32.ofNat (8 * (((k : Nat) : Int) % 4)).toNat).toUInt8) = VA a (Int.toNat size) (k + 1) from by (exact Us (by omega) (by omega))) ▸ o37), (by omega)⟩⟩)
   ·skip
    have hp3 := of_decide_eq_false hc3
    refine Qc rfl hc3 ?_
    refine Qw (fun _ _ h => h) ?_
    refine Run.seq ?_
    refine Run.region ?_
    refine Seq.val (Qa.move rfl) (by decide) ?_
    refine Seq.val (Qa.assign rfl) (by decide) ?_
    refine Seq.val (Qa.assign rfl) (by decide) ?_
    refine QG (fun _ _ h => h) ?_
    have c43 := s21.trans s29
    have c44 := s14.trans c43
    have c45 := s8.trans c44
    obtain ⟨zU, zo⟩ := c45.out (by decide) hv
    have hv46 := Qm.release hv28 20
    have q47 : Qi (VA a (Int.toNat size) k) (Q7 lab27 20) w25 (.slice (some ⟨b19, 0, none⟩) ((size).toNat) ((size).toNat)) := Qi.release o30 (by assumption) (by omega)
    have c48 := c45.trans (Stp.release (lab := lab27) (w := w25) 20)
    obtain ⟨zU, zo⟩ := c48.out (by decide) hv
    refine Run.ret ?_
    exact QP Try.results129 rfl rfl ⟨_, rfl, ⟨_, _, rfl, (Je (show (VA a (Int.toNat size) k) = (if size < (((QM a + 7) / 8 : Nat) : Int) then [] else beN a (Int.toNat size)) from by (rw [if_neg (by omega)]; exact QaP (Nat.lt_of_lt_of_le (UQ a) (Nat.pow_le_pow_right (by omega) (by omega))))) ((JV _).step zo q47)), (JE (show (0 : Int) = (if size < (((QM a + 7) / 8 : Nat) : Int) then 2 else 0) from by rw [if_neg (by omega)]) _ _)⟩, c48.leave (by decide)⟩
end Go.Proofs.Ytgfomedobfaidaa
end
section
set_option linter.unusedVariables false
set_option linter.unusedSimpArgs false
namespace Go.Proofs.Ytgfomedobfaidaa
open Go.RowKit
theorem Yt {lab : Lab} {w : World} (hv : Qm lab w) {ws : List UInt32} {v0 : Value} (h0 : Qp ws lab w v0) :
  Calls Try.prog 105 #[v0] w (fun e w' => ∃ v, e = .returned v ∧ (Qj (wv ws)) lab w' v ∧ Below w.heap.size w w') := by
 have hv0 := hv.ent
 obtain ⟨zU0, z00⟩ := Xw lab w
 replace h0 := (JT _).step z00 h0
 obtain ⟨A1, c2, rfl⟩ := Qp.shape h0
 have z3 := Qp.cap h0
 refine Qu Try.func105 rfl Try.ntmps105 (lB9 rfl) ?_
 refine Run.seq ?_
 refine Run.region ?_
 refine Seq.alloc (k := 3) [.slice none 0 0] hv0 Qo rfl (by decide) ?_
 intro lab4 w5 b6 o7 s8 hv9
 refine QG (fun _ _ h => h) ?_
 refine Run.seq ?_
 refine Run.block ?_
 have q10 := (JT _).step s8 h0
 refine Run.loop (fun m' l' w' => ∃ (k : Nat) (lab' : Lab) (ur0 : Value), m' = k ∧ l' = [(0, ur0), (2, .pointer (some ⟨b6, 0, none⟩))] ∧ Qm lab' w' ∧ Stp [] lab4 w5 lab' w' ∧ (Qp (List.take k ws)) lab' w' ur0 ∧ (k ≤ List.length ws) ∧ (wv (List.take k ws) = wv ws)) ((List.length ws)) (l0 := [(0, .slice A1 (List.length ws) c2), (2, .pointer (some ⟨b6, 0, none⟩))]) ⟨rfl, rfl, trivial⟩ ⟨List.length ws, lab4, (.slice A1 (List.length ws) c2), rfl, rfl, hv9, ((Stp.refl _ _).more (by simp)), (XB (show ws = (List.take (List.length ws) ws) from by simp) q10), (by omega), (by simp)⟩ ?_
 intro m11 l12 w13 H14
 obtain ⟨k, lab15, v18, hzm, rfl, hv16, s17, q19, hk, hw⟩ := H14
 replace hzm := hzm.symm; subst hzm
 obtain ⟨A20, c21, rfl⟩ := Qp.shapeN q19 (n := k) (by rw [List.length_take]; omega)
 have z22 := Qp.cap q19
 refine Run.seq ?_
 refine Run.seq ?_
 refine Run.region ?_
 refine Seq.val (Qa.move rfl) (by decide) ?_
 refine Seq.val (Qa.len Try.underlying58 rfl) (by decide) ?_
 refine Seq.val (Qa.gtr rfl rfl) (by decide) ?_
 refine Seq.val (Qa.move rfl) (by decide) ?_
 rcases ZM (decide ((0 : Int) < (((k : Nat) : Int) : Int))) with hc1 | hc1
 ·skip
  have hp1 := of_decide_eq_true hc1
  refine Qg rfl rfl hc1 ?_
  refine Seq.val (Qa.move rfl) (by decide) ?_
  refine Qg rfl rfl hc1 ?_
  refine Seq.val (Qa.move rfl) (by decide) ?_
  refine Qg rfl rfl hc1 ?_
  refine Seq.val (Qa.len Try.underlying58 rfl) (by decide) ?_
  refine Qg rfl rfl hc1 ?_
  refine Seq.val (Qa.sub rfl rfl (by omega)) (by decide) ?_
  refine Qg rfl rfl hc1 ?_
  refine Seq.val (Qs ((((k : Nat) : Int) - 1).toNat) Try.underlying58 Qx rfl rfl (Qp.row q19) (by (simp; omega)) (by omega) (by omega)) (by decide) ?_
  refine Qg rfl rfl hc1 ?_
  refine Seq.val (Qy Qx rfl (Qp.row q19) (Jo u32 _ (0 : UInt32) (by omega))) (by decide) ?_
  refine Qg rfl rfl hc1 ?_
  refine Seq.val (Qa.eql rfl rfl) (by decide) ?_
  refine Seq.val (Ql rfl hc1 rfl) (by decide) ?_
  refine QG (fun _ _ h => h) ?_
  rcases ZM (decide (((List.getD (List.take k ws) ((((k : Nat) : Int) - 1).toNat) (0 : UInt32)).toNat : Int) = (0 : Int))) with hc2 | hc2
  ·skip
   have hp2 := of_decide_eq_true hc2
   refine Qc rfl hc2 ?_
   refine Qh (fun _ _ h => h) ?_
   refine Run.block ?_
   refine Run.region ?_
   refine Seq.val (Qa.move rfl) (by decide) ?_
   refine Seq.val (Qa.move rfl) (by decide) ?_
   refine Seq.val (Qa.len Try.underlying58 rfl) (by decide) ?_
   refine Seq.val (Qa.sub rfl rfl (by omega)) (by decide) ?_
   have q23 := Qp.takeN q19 ((((k : Nat) : Int) - 1).toNat) (by omega)
   refine Seq.val (ZN ((((k : Nat) : Int) - 1).toNat) Try.underlying58 Qx rfl rfl (by omega) (by have := (Qp.cap q19).2; omega)) (by decide) ?_
   refine Seq.val (Qa.assign rfl) (by decide) ?_
   exact Seq.nil (fun a24 h25 => ⟨_, by omega, _, h25.weaken (QF (l' := [(0, .slice A20 ((((k : Nat) : Int) - 1).toNat) c21), (2, .pointer (some ⟨b6, 0, none⟩))]) ⟨rfl, rfl, trivial⟩), ⟨k - 1, lab15, (.slice A20 ((((k : Nat) : Int) - 1).toNat) c21), rfl, rfl, hv16, (s17.more (by decide)), (XB (show (List.take ((((k : Nat) : Int) - 1).toNat) (List.take k ws)) = (List.take (k - 1) ws) from by (rw [List.take_take]; congr 1; omega)) q23), (by omega), (by (have e := Qak (ws := ws) (k := k - 1) (by omega) (by simpa [List.getD, List.getElem?_take_of_lt, show k - 1 < k by omega, ← UInt32.toNat_inj] using hp2); rw [show k - 1 + 1 = k by omega] at e; rw [← e]; exact hw))⟩⟩)
  ·skip
   have hp2 := of_decide_eq_false hc2
   refine Qc rfl hc2 ?_
   refine Qw (fun _ _ h => h) ?_
   refine Run.seq ?_
   refine Run.region ?_
   refine Seq.val (Qa.move rfl) (by decide) ?_
   refine Seq.val (Qa.build [(0, .slice A20 k c21)] [(0, 1)] [.slice A20 k c21] Try.underlying60 Qo (by kernel_rfl) rfl (by kernel_rfl)) (by decide) ?_
   have o26 := o7.lift s17 (by decide)
   refine Seq.store [.slice A20 k c21] hv16 o26 Qo rfl rfl rfl (lB9 rfl) rfl rfl ?_
   intro w27 o28 s29 hv30
   refine QG (fun _ _ h => h) ?_
   have c31 := s17.trans s29
   have c32 := s8.trans c31
   obtain ⟨zU, zo⟩ := c32.out (by decide) hv
   have q33 := (JT _).step s29 q19
   refine Run.ret ?_
   exact Qn Try.results105 ⟨_, rfl, Q6 [.slice A20 k c21] o28 Qo rfl⟩ ⟨_, rfl, (VD ((JT _).step zo q33) (show List.take k ws = Qk (wv ws) from by (rw [← hw]; exact KU hk (by first | (left; omega) | (right; simpa [List.getD, List.getElem?_take_of_lt, show k - 1 < k by omega, ← UInt32.toNat_inj] using hp2))))), c32.leave (by decide)⟩
 ·skip
  have hp1 := of_decide_eq_false hc1
  refine Qe rfl rfl hc1 rfl (by decide) ?_
  refine Qe rfl rfl hc1 rfl (by decide) ?_
  refine Qe rfl rfl hc1 rfl (by decide) ?_
  refine Qe rfl rfl hc1 rfl (by decide) ?_
  refine Qe rfl rfl hc1 rfl (by decide) ?_
  refine Qe rfl rfl hc1 rfl (by decide) ?_
  refine Qe rfl rfl hc1 rfl (by decide) ?_
  refine Seq.val (Ql rfl hc1 rfl) (by decide) ?_
  refine QG (fun _ _ h => h) ?_
  refine Qc rfl rfl ?_
  refine Qw (fun _ _ h => h) ?_
  refine Run.seq ?_
  refine Run.region ?_
  refine Seq.val (Qa.move rfl) (by decide) ?_
  refine Seq.val (Qa.build [(0, .slice A20 k c21)] [(0, 1)] [.slice A20 k c21] Try.underlying60 Qo (by kernel_rfl) rfl (by kernel_rfl)) (by decide) ?_
  have o34 := o7.lift s17 (by decide)
  refine Seq.store [.slice A20 k c21] hv16 o34 Qo rfl rfl rfl (lB9 rfl) rfl rfl ?_
  intro w35 o36 s37 hv38
  refine QG (fun _ _ h => h) ?_
  have c39 := s17.trans s37
  have c40 := s8.trans c39
  obtain ⟨zU, zo⟩ := c40.out (by decide) hv
  have q41 := (JT _).step s37 q19
  refine Run.ret ?_
  exact Qn Try.results105 ⟨_, rfl, Q6 [.slice A20 k c21] o36 Qo rfl⟩ ⟨_, rfl, (VD ((JT _).step zo q41) (show List.take k ws = Qk (wv ws) from by (rw [← hw]; exact KU hk (by first | (left; omega) | (right; simpa [List.getD, List.getElem?_take_of_lt, show k - 1 < k by omega, ← UInt32.toNat_inj] using hp2))))), c40.leave (by decide)⟩
theorem UL {lab : Lab} {w : World} (hv : Qm lab w) {b : List UInt8} {v0 : Value} (h0 : Qi b lab w v0) (hl : List.length b ≤ 1000000000) :
  Calls Try.prog 93 #[v0] w (fun e w' => ∃ v, e = .returned v ∧ (Zl (Qj (if 128 < List.length b then 0 else nv b)) (Is (i64 (if 128 < List.length b then 4 else 0)))) lab w' v ∧ Below w.heap.size w w') := by
 have hv0 := hv.ent
 obtain ⟨zU0, z00⟩ := Xw lab w
 replace h0 := (JV _).step z00 h0
 obtain ⟨A1, c2, rfl⟩ := Qi.shape h0
 have z3 := Qi.cap h0
 refine Qu Try.func93 rfl Try.ntmps93 (lB9 rfl) ?_
 refine Run.seq ?_
 refine Run.region ?_
 refine Seq.alloc (k := 3) [.slice none 0 0] hv0 Qo rfl (by decide) ?_
 intro lab4 w5 b6 o7 s8 hv9
 refine Seq.val (Qa.assign rfl) (by decide) ?_
 refine QG (fun _ _ h => h) ?_
 refine Run.seq ?_
 refine Run.seq ?_
 refine Run.region ?_
 refine Seq.val (Qa.move rfl) (by decide) ?_
 refine Seq.val (Qa.len Try.underlying22 rfl) (by decide) ?_
 refine Seq.val (Qa.gtr rfl rfl) (by decide) ?_
 refine QG (fun _ _ h => h) ?_
 rcases ZM (decide ((128 : Int) < (((List.length b : Nat) : Int) : Int))) with hc1 | hc1
 ·skip
  have hp1 := of_decide_eq_true hc1
  refine Qc rfl hc1 ?_
  refine Run.seq ?_
  refine Run.region ?_
  refine Seq.val (Qa.build [] [(0, 1)] [.slice none 0 0] Try.underlying60 Qo (by kernel_rfl) rfl (by kernel_rfl)) (by decide) ?_
  refine Seq.store [.slice none 0 0] hv9 o7 Qo rfl rfl rfl (lB9 rfl) rfl rfl ?_
  intro w10 o11 s12 hv13
  refine Seq.val (Qa.assign rfl) (by decide) ?_
  refine QG (fun _ _ h => h) ?_
  have c14 := s8.trans s12
  obtain ⟨zU, zo⟩ := c14.out (by decide) hv
  have q15 := (Jp _).step s12 (Qj.zero lab4 w5)
  refine Run.ret (Qr ?_)
  exact QP Try.results93 ⟨_, rfl, Q6 [.slice none 0 0] o11 Qo rfl⟩ rfl ⟨_, rfl, ⟨_, _, rfl, (Q2 (show 0 = (if 128 < List.length b then 0 else nv b) from by rw [if_pos (by omega)]) ((Jp _).step zo q15)), (JE (show (4 : Int) = (if 128 < List.length b then 4 else 0) from by rw [if_pos (by omega)]) _ _)⟩, c14.leave (by decide)⟩
 ·skip
  have hp1 := of_decide_eq_false hc1
  refine Qc rfl hc1 ?_
  refine Qh (fun _ _ h => h) ?_
  refine Run.seq ?_
  refine Run.region ?_
  refine Seq.val (Qa.move rfl) (by decide) ?_
  refine Seq.val (Qa.len Try.underlying22 rfl) (by decide) ?_
  refine Seq.val (Qa.add rfl rfl (by omega)) (by decide) ?_
  refine Seq.val (Qa.quo rfl rfl (by omega) (by omega) (by omega)) (by decide) ?_
  refine Jv (k := 16) u32 (0 : UInt32) (((((List.length b : Nat) : Int) + 3) / 4).toNat) hv9 Try.underlying58 Qx rfl rfl rfl (by omega) (by omega) (by omega) (by omega) (by decide) ?_
  intro lab16 w17 b18 o19 s20 hv21
  refine Seq.val (Qa.assign rfl) (by decide) ?_
  refine QG (fun _ _ h => h) ?_
  refine Run.seq ?_
  refine Run.seq ?_
  refine Run.region ?_
  refine Seq.val (Qa.move rfl) (by decide) ?_
  refine Seq.val (Qa.len Try.underlying22 rfl) (by decide) ?_
  refine Seq.val (Qa.move rfl) (by decide) ?_
  refine QG (fun _ _ h => h) ?_
  refine Run.block ?_
  refine Run.loop (fun m' l' w' => ∃ (k : Nat) (lab' : Lab), m' = List.length b - k ∧ l' = [(18, i64 ((k : Nat) : Int)), (0, .slice A1 (List.length b) c2), (2, .pointer (some ⟨b6, 0, none⟩)), (3, .int .i64 0), (7, .slice A1 (List.length b) c2), (8, i64 ((List.length b : Nat) : Int)), (9, .bool (decide ((128 : Int) < (((List.length b : Nat) : Int) : Int)))), (11, .slice A1 (List.length b) c2), (12, i64 ((List.length b : Nat) : Int)), (13, i64 (((List.length b : Nat) : Int) + 3)), (14, i64 ((((List.length b : Nat) : Int) + 3) / 4)), (15, .slice (some ⟨b18, 0, none⟩) (((((List.length b : Nat) : Int) + 3) / 4).toNat) (((((List.length b : Nat) : Int) + 3) / 4).toNat)), (4, .slice (some ⟨b18, 0, none⟩) (((((List.length b : Nat) : Int) + 3) / 4).toNat) (((((List.length b : Nat) : Int) + 3) / 4).toNat)), (16, .slice A1 (List.length b) c2), (17, i64 ((List.length b : Nat) : Int))] ∧ Qm lab' w' ∧ Stp [16] lab16 w17 lab' w' ∧ Own lab' w' 16 b18 167 (List.map u32 (Xx b k)).toArray ∧ (k ≤ List.length b)) (List.length b - 0) (l0 := [(18, i64 ((0 : Nat) : Int)), (0, .slice A1 (List.length b) c2), (2, .pointer (some ⟨b6, 0, none⟩)), (3, .int .i64 0), (7, .slice A1 (List.length b) c2), (8, i64 ((List.length b : Nat) : Int)), (9, .bool (decide ((128 : Int) < (((List.length b : Nat) : Int) : Int)))), (11, .slice A1 (List.length b) c2), (12, i64 ((List.length b : Nat) : Int)), (13, i64 (((List.length b : Nat) : Int) + 3)), (14, i64 ((((List.length b : Nat) : Int) + 3) / 4)), (15, .slice (some ⟨b18, 0, none⟩) (((((List.length b : Nat) : Int) + 3) / 4).toNat) (((((List.length b : Nat) : Int) + 3) / 4).toNat)), (4, .slice (some ⟨b18, 0, none⟩) (((((List.length b : Nat) : Int) + 3) / 4).toNat) (((((List.length b : Nat) : Int) + 3) / 4).toNat)), (16, .slice A1 (List.length b) c2), (17, i64 ((List.length b : Nat) : Int))]) ⟨(congrArg (fun z => some (i64 z)) (show (0 : Int) = ((0 : Nat) : Int) from by rfl)), rfl, rfl, rfl, rfl, rfl, rfl, rfl, rfl, rfl, rfl, rfl, rfl, rfl, rfl, trivial⟩ ⟨0, lab16, rfl, rfl, hv21, ((Stp.refl _ _).more (by simp)), ((show List.replicate (((((List.length b : Nat) : Int) + 3) / 4).toNat) (0 : UInt32) = Xx b 0 from by (exact QeJ b)) ▸ o19), (by omega)⟩ ?_
  intro m22 l23 w24 H25
  obtain ⟨k, lab26, hzm, rfl, hv27, s28, o29, hk⟩ := H25
  replace hzm := hzm.symm; subst hzm
  have hL := Qb2 b k
  refine Run.seq ?_
  refine Run.region ?_
  refine Seq.val (Qa.lss rfl rfl) (by decide) ?_
  refine QG (fun _ _ h => h) ?_
  refine Run.seq ?_
  rcases ZM (decide ((((k : Nat) : Int) : Int) < (((List.length b : Nat) : Int) : Int))) with hc2 | hc2
  ·skip
   have hp2 := of_decide_eq_true hc2
   refine Qc rfl hc2 ?_
   refine Qh (fun _ _ h => h) ?_
   refine Run.seq ?_
   refine Run.block ?_
   refine Run.seq ?_
   refine Run.region ?_
   refine Seq.val (Qa.move rfl) (by decide) ?_
   refine Seq.val (Qa.assign rfl) (by decide) ?_
   refine QG (fun _ _ h => h) ?_
   refine Run.seq ?_
   refine Run.region ?_
   refine Seq.val (Qa.move rfl) (by decide) ?_
   refine Seq.val (Qa.move rfl) (by decide) ?_
   refine Seq.val (Qa.len Try.underlying22 rfl) (by decide) ?_
   refine Seq.val (Qa.sub rfl rfl (by omega)) (by decide) ?_
   refine Seq.val (Qa.move rfl) (by decide) ?_
   refine Seq.val (Qa.sub rfl rfl (by omega)) (by decide) ?_
   have c31 := s20.trans s28
   have c32 := s8.trans c31
   have q30 := (JV _).step c32 h0
   refine Seq.val (Qs (((((List.length b : Nat) : Int) - 1) - ((k : Nat) : Int)).toNat) Try.underlying22 ty5 rfl rfl (Qi.row q30) (by simp [nw]) (by omega) (by omega)) (by decide) ?_
   refine Seq.val (Qy ty5 rfl (Qi.row q30) (Jo u8 _ (0 : UInt8) (by omega))) (by decide) ?_
   refine Seq.val (Qa.assign rfl) (by decide) ?_
   refine QG (fun _ _ h => h) ?_
   refine Run.any (m := 12) Jg (by kernel_rfl) hv27 (phi [Is (.slice (some ⟨b18, 0, none⟩) (((((List.length b : Nat) : Int) + 3) / 4).toNat) (((((List.length b : Nat) : Int) + 3) / 4).toNat)), Is (i64 ((k : Nat) : Int)), Is (i64 (((k : Nat) : Int) / 4)), Is (.pointer (some ⟨b18, ((((k : Nat) : Int) / 4).toNat) * 1, none⟩)), Is (u32 (List.getD (Xx b k) ((((k : Nat) : Int) / 4).toNat) (0 : UInt32))), Is (u8 (List.getD b (((((List.length b : Nat) : Int) - 1) - ((k : Nat) : Int)).toNat) (0 : UInt8))), Is (u32 ((List.getD b (((((List.length b : Nat) : Int) - 1) - ((k : Nat) : Int)).toNat) (0 : UInt8)).toUInt32)), Is (i64 ((k : Nat) : Int)), Is (i64 (((k : Nat) : Int) % 4)), Is (i64 (8 * (((k : Nat) : Int) % 4))), Is (u32 (((List.getD b (((((List.length b : Nat) : Int) - 1) - ((k : Nat) : Int)).toNat) (0 : UInt8)).toUInt32) <<< UInt32.ofNat (8 * (((k : Nat) : Int) % 4)).toNat)), Is (u32 ((List.getD (Xx b k) ((((k : Nat) : Int) / 4).toNat) (0 : UInt32)) ||| (((List.getD b (((((List.length b : Nat) : Int) - 1) - ((k : Nat) : Int)).toNat) (0 : UInt8)).toUInt32) <<< UInt32.ofNat (8 * (((k : Nat) : Int) % 4)).toNat)))]) (UH (L := [Is (.slice (some ⟨b18, 0, none⟩) (((((List.length b : Nat) : Int) + 3) / 4).toNat) (((((List.length b : Nat) : Int) + 3) / 4).toNat)), Is (i64 ((k : Nat) : Int)), Is (i64 (((k : Nat) : Int) / 4)), Is (.pointer (some ⟨b18, ((((k : Nat) : Int) / 4).toNat) * 1, none⟩)), Is (u32 (List.getD (Xx b k) ((((k : Nat) : Int) / 4).toNat) (0 : UInt32))), Is (u8 (List.getD b (((((List.length b : Nat) : Int) - 1) - ((k : Nat) : Int)).toNat) (0 : UInt8))), Is (u32 ((List.getD b (((((List.length b : Nat) : Int) - 1) - ((k : Nat) : Int)).toNat) (0 : UInt8)).toUInt32)), Is (i64 ((k : Nat) : Int)), Is (i64 (((k : Nat) : Int) % 4)), Is (i64 (8 * (((k : Nat) : Int) % 4))), Is (u32 (((List.getD b (((((List.length b : Nat) : Int) - 1) - ((k : Nat) : Int)).toNat) (0 : UInt8)).toUInt32) <<< UInt32.ofNat (8 * (((k : Nat) : Int) % 4)).toNat)), Is (u32 ((List.getD (Xx b k) ((((k : Nat) : Int) / 4).toNat) (0 : UInt32)) ||| (((List.getD b (((((List.length b : Nat) : Int) - 1) - ((k : Nat) : Int)).toNat) (0 : UInt8)).toUInt32) <<< UInt32.ofNat (8 * (((k : Nat) : Int) % 4)).toNat)))]) ⟨Pers.z (JG _), Pers.z (JG _), Pers.z (JG _), Pers.z (JG _), Pers.z (JG _), Pers.z (JG _), Pers.z (JG _), Pers.z (JG _), Pers.z (JG _), Pers.z (JG _), Pers.z (JG _), Pers.z (JG _), trivial⟩) ?_ ?_
   ·intro wz z0
    refine QkM (n := 12) ⟨?_, ?_, ?_, ?_, ?_, ?_, ?_, ?_, ?_, ?_, ?_, ?_, trivial⟩
    ·refine J3 rfl (by decide) fun lab33 w34 a35 hv36 s37 f38 d39 => ?_
     exact ⟨_, _, _, _, f38, Qa.move rfl, hv36, Stp.refl _ _, rfl⟩
    ·refine J3 rfl (by decide) fun lab40 w41 a42 hv43 s44 f45 d46 => ?_
     exact ⟨_, _, _, _, f45, Qa.move rfl, hv43, Stp.refl _ _, rfl⟩
    ·refine J3 rfl (by decide) fun lab47 w48 a49 hv50 s51 f52 d53 => ?_
     obtain ⟨v54, e55, q56⟩ := d53 1 rfl 30 rfl
     replace q56 : (Is (i64 ((k : Nat) : Int))) lab47 w48 v54 := q56
     replace q56 := Is.out q56; subst q56
     have f57 := f52.ext e55
     exact ⟨_, _, _, _, f57, Qa.quo rfl rfl (by omega) (by omega) (by omega), hv50, Stp.refl _ _, rfl⟩
    ·refine J3 rfl (by decide) fun lab58 w59 a60 hv61 s62 f63 d64 => ?_
     obtain ⟨v65, e66, q67⟩ := d64 0 rfl 29 rfl
     replace q67 : (Is (.slice (some ⟨b18, 0, none⟩) (((((List.length b : Nat) : Int) + 3) / 4).toNat) (((((List.length b : Nat) : Int) + 3) / 4).toNat))) lab58 w59 v65 := q67
     replace q67 := Is.out q67; subst q67
     have f68 := f63.ext e66
     obtain ⟨v69, e70, q71⟩ := d64 2 rfl 31 rfl
     replace q71 : (Is (i64 (((k : Nat) : Int) / 4))) lab58 w59 v69 := q71
     replace q71 := Is.out q71; subst q71
     have f72 := f68.ext e70
     exact ⟨_, _, _, _, f72, Q5 ((((k : Nat) : Int) / 4).toNat) Try.underlying58 Qx rfl rfl (by omega) (by omega), hv61, Stp.refl _ _, rfl⟩
    ·refine J3 rfl (by decide) fun lab73 w74 a75 hv76 s77 f78 d79 => ?_
     obtain ⟨v80, e81, q82⟩ := d79 3 rfl 32 rfl
     replace q82 : (Is (.pointer (some ⟨b18, ((((k : Nat) : Int) / 4).toNat) * 1, none⟩))) lab73 w74 v80 := q82
     replace q82 := Is.out q82; subst q82
     have f83 := f78.ext e81
     have o84 := o29.lift (z0.trans s77) (by decide)
     exact ⟨_, _, _, _, f83, Qf o84 Qx rfl (by rw [Nat.mul_one]; exact Ze u32 _ (0 : UInt32) (by omega)), hv76, Stp.refl _ _, rfl⟩
    ·refine J3 rfl (by decide) fun lab85 w86 a87 hv88 s89 f90 d91 => ?_
     exact ⟨_, _, _, _, f90, Qa.move rfl, hv88, Stp.refl _ _, rfl⟩
    ·refine J3 rfl (by decide) fun lab92 w93 a94 hv95 s96 f97 d98 => ?_
     obtain ⟨v99, e100, q101⟩ := d98 5 rfl 34 rfl
     replace q101 : (Is (u8 (List.getD b (((((List.length b : Nat) : Int) - 1) - ((k : Nat) : Int)).toNat) (0 : UInt8)))) lab92 w93 v99 := q101
     replace q101 := Is.out q101; subst q101
     have f102 := f97.ext e100
     exact ⟨_, _, _, _, f102, Qz Try.underlying5 Try.underlying167 rfl (Y0 _), hv95, Stp.refl _ _, rfl⟩
    ·refine J3 rfl (by decide) fun lab103 w104 a105 hv106 s107 f108 d109 => ?_
     exact ⟨_, _, _, _, f108, Qa.move rfl, hv106, Stp.refl _ _, rfl⟩
    ·refine J3 rfl (by decide) fun lab110 w111 a112 hv113 s114 f115 d116 => ?_
     obtain ⟨v117, e118, q119⟩ := d116 7 rfl 36 rfl
     replace q119 : (Is (i64 ((k : Nat) : Int))) lab110 w111 v117 := q119
     replace q119 := Is.out q119; subst q119
     have f120 := f115.ext e118
     exact ⟨_, _, _, _, f120, Qa.rem rfl rfl (by omega) (by omega), hv113, Stp.refl _ _, rfl⟩
    ·refine J3 rfl (by decide) fun lab121 w122 a123 hv124 s125 f126 d127 => ?_
     obtain ⟨v128, e129, q130⟩ := d127 8 rfl 37 rfl
     replace q130 : (Is (i64 (((k : Nat) : Int) % 4))) lab121 w122 v128 := q130
     replace q130 := Is.out q130; subst q130
     have f131 := f126.ext e129
     exact ⟨_, _, _, _, f131, Qa.mul rfl rfl (by omega), hv124, Stp.refl _ _, rfl⟩
    ·refine J3 rfl (by decide) fun lab132 w133 a134 hv135 s136 f137 d138 => ?_
     obtain ⟨v139, e140, q141⟩ := d138 6 rfl 35 rfl
     replace q141 : (Is (u32 ((List.getD b (((((List.length b : Nat) : Int) - 1) - ((k : Nat) : Int)).toNat) (0 : UInt8)).toUInt32))) lab132 w133 v139 := q141
     replace q141 := Is.out q141; subst q141
     have f142 := f137.ext e140
     obtain ⟨v143, e144, q145⟩ := d138 9 rfl 38 rfl
     replace q145 : (Is (i64 (8 * (((k : Nat) : Int) % 4)))) lab132 w133 v143 := q145
     replace q145 := Is.out q145; subst q145
     have f146 := f142.ext e144
     exact ⟨_, _, _, _, f146, Yi rfl rfl (by omega) (by omega), hv135, Stp.refl _ _, rfl⟩
    ·refine J3 rfl (by decide) fun lab147 w148 a149 hv150 s151 f152 d153 => ?_
     obtain ⟨v154, e155, q156⟩ := d153 4 rfl 33 rfl
     replace q156 : (Is (u32 (List.getD (Xx b k) ((((k : Nat) : Int) / 4).toNat) (0 : UInt32)))) lab147 w148 v154 := q156
     replace q156 := Is.out q156; subst q156
     have f157 := f152.ext e155
     obtain ⟨v158, e159, q160⟩ := d153 10 rfl 39 rfl
     replace q160 : (Is (u32 (((List.getD b (((((List.length b : Nat) : Int) - 1) - ((k : Nat) : Int)).toNat) (0 : UInt8)).toUInt32) <<< UInt32.ofNat (8 * (((k : Nat) : Int) % 4)).toNat))) lab147 w148 v158 := q160
     replace q160 := Is.out q160; subst q160
     have f161 := f157.ext e159
     exact ⟨_, _, _, _, f161, Z5 rfl rfl, hv150, Stp.refl _ _, rfl⟩
   ·skip
    intro lab162 w163 a164 hv165 s166 f167 hl168
    obtain ⟨v169, e170, q171⟩ := hl168 0 (by decide) 29 rfl
    replace q171 : (Is (.slice (some ⟨b18, 0, none⟩) (((((List.length b : Nat) : Int) + 3) / 4).toNat) (((((List.length b : Nat) : Int) + 3) / 4).toNat))) lab162 w163 v169 := q171
    replace q171 := Is.out q171; subst q171
    have f172 := f167.ext e170
    obtain ⟨v173, e174, q175⟩ := hl168 2 (by decide) 31 rfl
    replace q175 : (Is (i64 (((k : Nat) : Int) / 4))) lab162 w163 v173 := q175
    replace q175 := Is.out q175; subst q175
    have f176 := f172.ext e174
    obtain ⟨v177, e178, q179⟩ := hl168 11 (by decide) 40 rfl
    replace q179 : (Is (u32 ((List.getD (Xx b k) ((((k : Nat) : Int) / 4).toNat) (0 : UInt32)) ||| (((List.getD b (((((List.length b : Nat) : Int) - 1) - ((k : Nat) : Int)).toNat) (0 : UInt8)).toUInt32) <<< UInt32.ofNat (8 * (((k : Nat) : Int) % 4)).toNat)))) lab162 w163 v177 := q179
    replace q179 := Is.out q179; subst q179
    have f180 := f176.ext e178
    refine Seq.start (m := 12) f180 ?_
    refine Seq.val (Q5 ((((k : Nat) : Int) / 4).toNat) Try.underlying58 Qx rfl rfl (by omega) (by omega)) (by decide) ?_
    have o181 := o29.lift s166 (by decide)
    refine Q8 (k := 16) (j := ((((k : Nat) : Int) / 4).toNat)) (v := ((List.getD (Xx b k) ((((k : Nat) : Int) / 4).toNat) (0 : UInt32)) ||| (((List.getD b (((((List.length b : Nat) : Int) - 1) - ((k : Nat) : Int)).toNat) (0 : UInt8)).toUInt32) <<< UInt32.ofNat (8 * (((k : Nat) : Int) % 4)).toNat))) u32 hv165 o181 Qx (congrArg (fun o => some (Value.pointer (some ⟨b18, o, none⟩))) (Nat.mul_one ((((k : Nat) : Int) / 4).toNat))) rfl (by omega) rfl rfl ?_
    intro w182 o183 s184 hv185
    refine QG (fun _ _ h => h) ?_
    refine Run.region ?_
    refine Seq.val (Qa.add rfl rfl (by omega)) (by decide) ?_
    refine Seq.val (Qa.move rfl) (by decide) ?_
    have c186 := s166.trans s184
    have c187 := s28.trans c186
    exact Seq.nil (fun a188 h189 => ⟨_, by omega, _, h189.weaken (QF (l' := [(18, i64 (((k + 1) : Nat) : Int)), (0, .slice A1 (List.length b) c2), (2, .pointer (some ⟨b6, 0, none⟩)), (3, .int .i64 0), (7, .slice A1 (List.length b) c2), (8, i64 ((List.length b : Nat) : Int)), (9, .bool (decide ((128 : Int) < (((List.length b : Nat) : Int) : Int)))), (11, .slice A1 (List.length b) c2), (12, i64 ((List.length b : Nat) : Int)), (13, i64 (((List.length b : Nat) : Int) + 3)), (14, i64 ((((List.length b : Nat) : Int) + 3) / 4)), (15, .slice (some ⟨b18, 0, none⟩) (((((List.length b : Nat) : Int) + 3) / 4).toNat) (((((List.length b : Nat) : Int) + 3) / 4).toNat)), (4, .slice (some ⟨b18, 0, none⟩) (((((List.length b : Nat) : Int) + 3) / 4).toNat) (((((List.length b : Nat) : Int) + 3) / 4).toNat)), (16, .slice A1 (List.length b) c2), (17, i64 ((List.length b : Nat) : Int))]) ⟨(congrArg (fun z => some (i64 z)) (show (((k : Nat) : Int) + 1 : Int) = (((k + 1) : Nat) : Int) from by rfl)), rfl, rfl, rfl, rfl, rfl, rfl, rfl, rfl, rfl, rfl, rfl, rfl, rfl, rfl, trivial⟩), ⟨k + 1, lab162, rfl, rfl, hv185, (c187.more (by decide)), ((show List.set (Xx b k) ((((k : Nat) : Int) / 4).toNat) ((List.getD (Xx b k) ((((k : Nat) : Int) / 4).toNat) (0 : UInt32)) ||| (((List.getD b (((((List.length b : Nat) : Int) - 1) - ((k : Nat) : Int)).toNat) (0 : UInt8)).toUInt32) <<< UInt32.ofNat (8 * (((k : Nat) : Int) % 4)).toNat)) = Xx b (k + 1) from by (exact QeK (by omega))) ▸ o183), (by omega)⟩⟩)
  ·skip
   have hp2 := of_decide_eq_false hc2
   refine Qc rfl hc2 ?_
   refine Qw (fun _ _ h => h) ?_
   refine Run.seq ?_
   refine Run.region ?_
   refine Seq.val (Qa.move rfl) (by decide) ?_
   have hv190 := Qm.release hv27 16
   have q191 : Qp (Xx b k) (Q7 lab26 16) w24 (.slice (some ⟨b18, 0, none⟩) (((((List.length b : Nat) : Int) + 3) / 4).toNat) (((((List.length b : Nat) : Int) + 3) / 4).toNat)) := Qp.release o29 (by assumption) (by omega)
   refine Ky (V := Qj (wv (Xx b k))) Va hv190 rfl (by decide) (Yt hv190 q191) ?_
   intro v192 w193 q194 s195 hv196
   obtain ⟨A197, c198, rfl⟩ := Qj.shape q194
   have z199 := Qj.cap q194
   have c201 := (Stp.release (lab := lab26) (w := w24) 16).trans s195
   have c202 := s28.trans c201
   have c203 := s20.trans c202
   have o200 := o7.lift c203 (by decide)
   refine Seq.store [.slice A197 (nw (wv (Xx b k))) c198] hv196 o200 Qo rfl rfl rfl (lB9 rfl) rfl rfl ?_
   intro w204 o205 s206 hv207
   refine Seq.val (Qa.assign rfl) (by decide) ?_
   refine QG (fun _ _ h => h) ?_
   have c208 := c203.trans s206
   have c209 := s8.trans c208
   obtain ⟨zU, zo⟩ := c209.out (by decide) hv
   have q210 := (Jp _).step s206 q194
   refine Run.ret ?_
   exact QP Try.results93 ⟨_, rfl, Q6 [.slice A197 (nw (wv (Xx b k))) c198] o205 Qo rfl⟩ rfl ⟨_, rfl, ⟨_, _, rfl, (Q2 (show (wv (Xx b k)) = (if 128 < List.length b then 0 else nv b) from by rw [if_neg (by omega), QeL (by omega)]) ((Jp _).step zo q210)), (JE (show (0 : Int) = (if 128 < List.length b then 4 else 0) from by rw [if_neg (by omega)]) _ _)⟩, c209.leave (by decide)⟩
end Go.Proofs.Ytgfomedobfaidaa
end
section
set_option linter.unusedVariables false
set_option linter.unusedSimpArgs false
namespace Go.Proofs.Ytgfomedobfaidaa
open Go.RowKit
theorem QW {lab : Lab} {w : World} (hv : Qm lab w) {x : Nat} (hx : x < 18446744073709551616) :
  Calls Try.prog 32 #[n64 x] w (fun e w' => ∃ v, e = .returned v ∧ (Qj x) lab w' v ∧ Below w.heap.size w w') := by
 obtain ⟨L0, h0L, ⟨zU0, z00⟩, hX⟩ := QX hv
 refine Qu Try.func32 rfl Try.ntmps32 (lB9 rfl) ?_
 refine rsr ?_
 refine QK 3 [.slice none 0 0] h0L Qo rfl fun b3 L1 w2 o4 s5 h6 => ?_
 refine nsr ?_
 refine sv (Qa.move rfl) ?_
 refine sv (QD Try.underlying62 Try.underlying167 rfl) ?_
 refine sv (Qa.move rfl) ?_
 refine sv (Jr rfl rfl) ?_
 refine sv (QD Try.underlying62 Try.underlying167 rfl) ?_
 refine QS [(0, u32 (UInt32.ofNat x)), (1, u32 (UInt32.ofNat (x / 4294967296)))] (List.map u32 [UInt32.ofNat x, UInt32.ofNat (x / 4294967296)]) h6 Try.underlying58 Qx (by decide) (by decide) rfl (by kernel_rfl) (by decide) ?_
 intro w7 b8 r9 s10 hv11
 have q12 : Qp [UInt32.ofNat x, UInt32.ofNat (x / 4294967296)] L1 w7 (.slice (some ⟨b8, 0, none⟩) 2 2) := ⟨_, _, rfl, Nat.le_refl _, lB9 rfl, r9⟩
 refine Q4 (V := Qj (wv ([UInt32.ofNat x, UInt32.ofNat (x / 4294967296)]))) Va hv11 rfl (Yt hv11 q12) fun v13 w14 q15 s16 h17 => ?_
 obtain ⟨A18, c19, rfl⟩ := Qj.shape q15
 have z20 := Qj.cap q15
 have c22 := s10.trans s16
 have o21 := o4.up c22
 refine Q1 [.slice A18 (nw (wv ([UInt32.ofNat x, UInt32.ofNat (x / 4294967296)]))) c19] h17 o21 Qo rfl rfl rfl (lB9 rfl) rfl rfl fun w23 o24 s25 h26 => ?_
 refine Seq.next ?_
 have c27 := c22.trans s25
 have c28 := s5.trans c27
 obtain ⟨⟨zU, zo⟩, zb⟩ := hX c28 (by decide)
 have q29 := up s25 q15
 refine Run.ret ?_
 exact Qn Try.results32 ⟨_, rfl, Q6 [.slice A18 (nw (wv ([UInt32.ofNat x, UInt32.ofNat (x / 4294967296)]))) c19] o24 Qo rfl⟩ ⟨_, rfl, (Q2 (by (simp only [wv, UInt32.toNat_ofNat']; omega)) (up zo q29)), zb⟩
theorem VM {lab : Lab} {w : World} (hv : Qm lab w) {a : Nat} {v0 : Value} (h0 : Qj a lab w v0) :
  Calls Try.prog 141 #[v0] w (fun e w' => ∃ v, e = .returned v ∧ (Zl (Is (n64 (if nw a ≤ 2 then a else 0))) (Is (.bool (decide (nw a ≤ 2))))) lab w' v ∧ Below w.heap.size w w') := by
 obtain ⟨L0, h0L, ⟨zU0, z00⟩, hX⟩ := QX hv
 replace h0 := up z00 h0
 obtain ⟨A1, c2, rfl⟩ := Qj.shape h0
 have z3 := Qj.cap h0
 refine Qu Try.func141 rfl Try.ntmps141 (lB9 rfl) ?_
 refine rsr ?_
 refine Yo 2 [.slice A1 (nw a) c2] h0L rfl rfl fun b6 L4 w5 o7 s8 h9 => ?_
 refine sv (Qa.assign rfl) ?_
 refine sv (Qa.assign rfl) ?_
 refine nsr ?_
 refine sv (Qa.assign rfl) ?_
 refine Seq.next ?_
 refine Run.seq ?_
 refine rsr ?_
 refine sv (Qd 0 Try.underlying60 rfl Zb rfl rfl) ?_
 have q11 := up s8 h0
 have q10 := Q9 q11
 refine sv (Qf o7 Zb rfl rfl) ?_
 refine sv (Qa.len Try.underlying58 rfl) ?_
 refine sv (Qa.gtr rfl rfl) ?_
 refine Seq.next ?_
 rcases Decidable.em ((2 : Int) < (((nw a : Nat) : Int) : Int)) with hp1 | hp1
 ·refine Qc rfl (dT9 hp1) ?_
  refine rsr ?_
  refine sv (Qa.assign rfl) ?_
  refine sv (Qa.assign rfl) ?_
  refine Seq.next ?_
  obtain ⟨⟨zU, zo⟩, zb⟩ := hX s8 (by decide)
  refine Run.ret (Qr ?_)
  exact QP Try.results141 rfl rfl ⟨_, rfl, ⟨_, _, rfl, (QjY (by rw [if_neg (by omega)]) _ _), (Jb (by (simp; omega)) _ _)⟩, zb⟩
 refine Qc rfl (dF9 hp1) ?_
 refine Qh (fun _ _ h => h) ?_
 refine Run.seq ?_
 refine rsr ?_
 refine sv (Qd 0 Try.underlying60 rfl Zb rfl rfl) ?_
 have q12 := Q9 q11
 refine sv (Qf o7 Zb rfl rfl) ?_
 refine sv (Qa.len Try.underlying58 rfl) ?_
 refine sv (Qa.move rfl) ?_
 refine Seq.next ?_
 refine Run.block ?_
 refine Run.loop (fun m' l' w' => ∃ (k : Nat) (lab' : Lab), m' = nw a - k ∧ l' = [(14, i64 ((k : Nat) : Int)), (4, n64 (wv (List.take k (Qk a)))), (2, .int .u64 0), (3, .bool false), (12, .slice A1 (nw a) c2), (13, i64 ((nw a : Nat) : Int))] ∧ Qm lab' w' ∧ Stp [] L4 w5 lab' w' ∧ (k ≤ nw a)) (nw a - 0) (l0 := [(14, i64 ((0 : Nat) : Int)), (4, n64 (wv (List.take 0 (Qk a)))), (2, .int .u64 0), (3, .bool false), (12, .slice A1 (nw a) c2), (13, i64 ((nw a : Nat) : Int))]) ⟨(congrArg (fun z => some (i64 z)) (show (0 : Int) = ((0 : Nat) : Int) from by rfl)), (congrArg (fun z => some (n64 z)) (show (0 : Nat) = wv (List.take 0 (Qk a)) from by rfl)), rfl, rfl, rfl, rfl, trivial⟩ ⟨0, L4, rfl, rfl, h9, ((Stp.refl _ _).more (by simp)), (by omega)⟩ ?_
 intro m13 l14 w15 H16
 obtain ⟨k, lab17, hzm, rfl, hv18, s19, hk⟩ := H16
 replace hzm := hzm.symm; subst hzm
 refine rsr ?_
 refine sv (Qa.lss rfl rfl) ?_
 refine Seq.next ?_
 refine Run.seq ?_
 rcases Decidable.em ((((k : Nat) : Int) : Int) < (((nw a : Nat) : Int) : Int)) with hp2 | hp2
 rotate_left
 ·refine Qc rfl (dF9 hp2) ?_
  refine Qw (fun _ _ h => h) ?_
  refine rsr ?_
  refine sv (Qa.move rfl) ?_
  refine sv (Qa.assign rfl) ?_
  refine sv (Qa.assign rfl) ?_
  refine Seq.next ?_
  have c24 := s8.trans s19
  obtain ⟨⟨zU, zo⟩, zb⟩ := hX c24 (by decide)
  refine Run.ret ?_
  exact QP Try.results141 rfl rfl ⟨_, rfl, ⟨_, _, rfl, (QjY (by (rw [if_pos (by omega), List.take_of_length_le (by show nw a ≤ _; omega), Yr])) _ _), (Jb (by (simp; omega)) _ _)⟩, zb⟩
 refine Qc rfl (dT9 hp2) ?_
 refine Qh (fun _ _ h => h) ?_
 refine Run.seq ?_
 refine Run.block ?_
 refine rsr ?_
 refine sv (Qa.move rfl) ?_
 have q20 := up s19 q12
 refine sv (Qs k Try.underlying58 Qx rfl rfl (Qp.row q20) (by simp [nw]) (by omega) (by omega)) ?_
 have t21 := UInt32.toNat_lt (List.getD (Qk a) k (0 : UInt32))
 refine sv (Qy Qx rfl (Qp.row q20) (Jo u32 _ (0 : UInt32) (by (simp [nw] at *; omega)))) ?_
 refine sv (Qa.assign rfl) ?_
 refine sv (Qa.assign rfl) ?_
 refine Seq.next ?_
 refine Run.region ?_
 refine sv (Qa.move rfl) ?_
 refine sv (Qa.move rfl) ?_
 refine sv (QA Try.underlying167 Try.underlying62 rfl) ?_
 refine sv (Qa.move rfl) ?_
 refine sv (Qa.mul rfl rfl (by omega)) ?_
 refine sv (Xo rfl rfl (by omega) (by omega) (by exact QdX (by omega))) ?_
 refine sv (K8 rfl rfl (by exact QhT (by omega)) (by exact QdX (by omega))) ?_
 refine sv (Qa.assign rfl) ?_
 refine QG (fun _ _ h => h) ?_
 refine Run.region ?_
 refine sv (Qa.add rfl rfl (by omega)) ?_
 refine sv (Qa.move rfl) ?_
 exact Seq.nil (fun a22 h23 => ⟨_, by omega, _, h23.weaken (QF (l' := [(14, i64 (((k + 1) : Nat) : Int)), (4, n64 (wv (List.take (k + 1) (Qk a)))), (2, .int .u64 0), (3, .bool false), (12, .slice A1 (nw a) c2), (13, i64 ((nw a : Nat) : Int))]) ⟨(congrArg (fun z => some (i64 z)) (show (((k : Nat) : Int) + 1 : Int) = (((k + 1) : Nat) : Int) from by rfl)), (congrArg (fun z => some (n64 z)) (show ((wv (List.take k (Qk a))) ||| (((List.getD (Qk a) k (0 : UInt32)).toNat) * 2 ^ (32 * ((k : Nat) : Int)).toNat) : Nat) = wv (List.take (k + 1) (Qk a)) from by exact QdW (by show _ < nw a; omega) (by omega))), rfl, rfl, rfl, rfl, trivial⟩), ⟨k + 1, lab17, rfl, rfl, hv18, (s19.more (by decide)), (by omega)⟩⟩)
theorem Vr {lab : Lab} {w : World} (hv : Qm lab w) {a : Nat} {v0 : Value} (h0 : Qj a lab w v0) {i : Int} (hi : i < 9223372036854775808) :
  Calls Try.prog 126 #[v0, i64 i] w (fun e w' => ∃ v, e = .returned v ∧ (Is (i64 (if 0 ≤ i then ((a / 2 ^ i.toNat % 2 : Nat) : Int) else 0))) lab w' v ∧ Below w.heap.size w w') := by
 obtain ⟨L0, h0L, ⟨zU0, z00⟩, hX⟩ := QX hv
 replace h0 := up z00 h0
 obtain ⟨A1, c2, rfl⟩ := Qj.shape h0
 have z3 := Qj.cap h0
 refine Qu Try.func126 rfl Try.ntmps126 (lB9 rfl) ?_
 refine rsr ?_
 refine Yo 3 [.slice A1 (nw a) c2] h0L rfl rfl fun b6 L4 w5 o7 s8 h9 => ?_
 refine sv (Qa.assign rfl) ?_
 refine Seq.next ?_
 refine Run.seq ?_
 refine rsr ?_
 refine sv (Qa.move rfl) ?_
 refine sv (Qa.lss rfl rfl) ?_
 refine sv (Qa.move rfl) ?_
 rcases Decidable.em ((i : Int) < (0 : Int)) with hp1 | hp1
 ·refine Qe rfl rfl (dT9 hp1) rfl (by decide) ?_
  refine Qe rfl rfl (dT9 hp1) rfl (by decide) ?_
  refine Qe rfl rfl (dT9 hp1) rfl (by decide) ?_
  refine Qe rfl rfl (dT9 hp1) rfl (by decide) ?_
  refine Qe rfl rfl (dT9 hp1) rfl (by decide) ?_
  refine Qe rfl rfl (dT9 hp1) rfl (by decide) ?_
  refine sv (Ql rfl (dT9 hp1) rfl) ?_
  refine Seq.next ?_
  refine Qc rfl rfl ?_
  refine rsr ?_
  refine sv (Qa.assign rfl) ?_
  refine Seq.next ?_
  obtain ⟨⟨zU, zo⟩, zb⟩ := hX s8 (by decide)
  refine Run.ret (Qr ?_)
  exact Qn Try.results126 rfl ⟨_, rfl, (JE (by rw [if_neg (by omega)]) _ _), zb⟩
 refine Qg rfl rfl (dF9 hp1) ?_
 refine sv (Qa.move rfl) ?_
 refine Qg rfl rfl (dF9 hp1) ?_
 refine sv (Qa.quo rfl rfl (by omega) (by omega) (by omega)) ?_
 refine Qg rfl rfl (dF9 hp1) ?_
 refine sv (Qd 0 Try.underlying60 rfl Zb rfl rfl) ?_
 refine Qg rfl rfl (dF9 hp1) ?_
 have q11 := up s8 h0
 have q10 := Q9 q11
 refine sv (Qf o7 Zb rfl rfl) ?_
 refine Qg rfl rfl (dF9 hp1) ?_
 refine sv (Qa.len Try.underlying58 rfl) ?_
 refine Qg rfl rfl (dF9 hp1) ?_
 refine sv (Qa.geq rfl rfl) ?_
 refine sv (Ql rfl (dF9 hp1) rfl) ?_
 refine Seq.next ?_
 rcases Decidable.em ((((nw a : Nat) : Int) : Int) ≤ (i / 32 : Int)) with hp2 | hp2
 ·refine Qc rfl (dT9 hp2) ?_
  refine rsr ?_
  refine sv (Qa.assign rfl) ?_
  refine Seq.next ?_
  obtain ⟨⟨zU, zo⟩, zb⟩ := hX s8 (by decide)
  refine Run.ret (Qr ?_)
  exact Qn Try.results126 rfl ⟨_, rfl, (JE (by rw [if_pos (by omega), Qjg (by omega)]) _ _), zb⟩
 refine Qc rfl (dF9 hp2) ?_
 refine Qh (fun _ _ h => h) ?_
 refine rsr ?_
 refine sv (Qd 0 Try.underlying60 rfl Zb rfl rfl) ?_
 have q12 := Q9 q11
 refine sv (Qf o7 Zb rfl rfl) ?_
 refine sv (Qa.move rfl) ?_
 refine sv (Qa.quo rfl rfl (by omega) (by omega) (by omega)) ?_
 refine sv (Qs ((i / 32).toNat) Try.underlying58 Qx rfl rfl (Qp.row q12) (by simp [nw]) (by omega) (by omega)) ?_
 refine sv (Qy Qx rfl (Qp.row q12) (Jo u32 _ (0 : UInt32) (by (simp [nw] at *; omega)))) ?_
 refine sv (Qa.move rfl) ?_
 refine sv (Qa.rem rfl rfl (by omega) (by omega)) ?_
 refine sv (J6 rfl rfl (by omega) (by omega)) ?_
 refine sv (ZA (b := (1 : UInt32)) rfl rfl) ?_
 refine sv (Qz Try.underlying167 Try.underlying3 rfl (Yd _)) ?_
 refine sv (Qa.assign rfl) ?_
 refine Seq.next ?_
 obtain ⟨⟨zU, zo⟩, zb⟩ := hX s8 (by decide)
 refine Run.ret ?_
 exact Qn Try.results126 rfl ⟨_, rfl, (JE (by rw [if_pos (by omega), Qk8 (by omega)]) _ _), zb⟩
end Go.Proofs.Ytgfomedobfaidaa
end
