/-
  Rows of numbers that grow: the cells, and what each says.
-/
import Derived.Test.YtgfomedobfaidaaEntry
set_option linter.unusedVariables false
set_option linter.unusedSimpArgs false
namespace Go.Proofs.Ytgfomedobfaidaa
open Go.RowKit

/-- Each cell says its number. -/
def EachN (lab : Lab) (w : World) : List Nat → List Value → Prop
  | [], [] => True
  | b :: r, v :: s => NatV b lab w (.agg #[v]) ∧ EachN lab w r s
  | _, _ => False
def EachV (lab : Lab) (w : World) : List (List Bool) → List Value → Prop
  | [], [] => True
  | b :: r, v :: s => BitsV b lab w v ∧ EachV lab w r s
  | _, _ => False
section
variable {lab : Lab} {w : World}
theorem EachN.step {T : List Nat} {lab' : Lab} {w' : World} (st : Stp T lab w lab' w') : ∀ {L : List Nat} {vs : List Value}, EachN lab w L vs → EachN lab' w' L vs
  | [], [], _ => trivial
  | _ :: _, _ :: _, h => ⟨(NatV.pers _).step st h.1, EachN.step st h.2⟩
  | [], _ :: _, h => h.elim
  | _ :: _, [], h => h.elim
theorem EachV.step {T : List Nat} {lab' : Lab} {w' : World} (st : Stp T lab w lab' w') : ∀ {L : List (List Bool)} {vs : List Value}, EachV lab w L vs → EachV lab' w' L vs
  | [], [], _ => trivial
  | _ :: _, _ :: _, h => ⟨(BitsV.pers _).step st h.1, EachV.step st h.2⟩
  | [], _ :: _, h => h.elim
  | _ :: _, [], h => h.elim
theorem EachN.snoc {x : Nat} {v : Value} (hx : NatV x lab w (.agg #[v])) : ∀ {L : List Nat} {vs : List Value}, EachN lab w L vs → EachN lab w (L ++ [x]) (vs ++ [v])
  | [], [], _ => ⟨hx, trivial⟩
  | _ :: _, _ :: _, h => ⟨h.1, EachN.snoc hx h.2⟩
  | [], _ :: _, h => h.elim
  | _ :: _, [], h => h.elim
theorem EachV.snoc {x : List Bool} {v : Value} (hx : BitsV x lab w v) : ∀ {L : List (List Bool)} {vs : List Value}, EachV lab w L vs → EachV lab w (L ++ [x]) (vs ++ [v])
  | [], [], _ => ⟨hx, trivial⟩
  | _ :: _, _ :: _, h => ⟨h.1, EachV.snoc hx h.2⟩
  | [], _ :: _, h => h.elim
  | _ :: _, [], h => h.elim
theorem EachN.len : ∀ {L : List Nat} {vs : List Value}, EachN lab w L vs → vs.length = L.length
  | [], [], _ => rfl
  | _ :: _, _ :: _, h => by simp [EachN.len h.2]
  | [], _ :: _, h => h.elim
  | _ :: _, [], h => h.elim
theorem EachV.len : ∀ {L : List (List Bool)} {vs : List Value}, EachV lab w L vs → vs.length = L.length
  | [], [], _ => rfl
  | _ :: _, _ :: _, h => by simp [EachV.len h.2]
  | [], _ :: _, h => h.elim
  | _ :: _, [], h => h.elim
theorem EachN.get : ∀ {L : List Nat} {vs : List Value}, EachN lab w L vs → ∀ (i : Nat) (x : Nat), L[i]? = some x → ∃ u, vs[i]? = some u ∧ NatV x lab w (.agg #[u])
  | [], [], _, i, bs, h => by simp at h
  | b :: r, v :: s, h, 0, bs, hi => by simp at hi; subst hi; exact ⟨v, rfl, h.1⟩
  | b :: r, v :: s, h, i + 1, bs, hi => EachN.get (L := r) (vs := s) h.2 i bs (by simpa using hi)
  | [], _ :: _, h, _, _, _ => h.elim
  | _ :: _, [], h, _, _, _ => h.elim
theorem EachV.get : ∀ {L : List (List Bool)} {vs : List Value}, EachV lab w L vs → ∀ (i : Nat) (x : List Bool), L[i]? = some x → ∃ u, vs[i]? = some u ∧ BitsV x lab w u
  | [], [], _, i, bs, h => by simp at h
  | b :: r, v :: s, h, 0, bs, hi => by simp at hi; subst hi; exact ⟨v, rfl, h.1⟩
  | b :: r, v :: s, h, i + 1, bs, hi => EachV.get (L := r) (vs := s) h.2 i bs (by simpa using hi)
  | [], _ :: _, h, _, _, _ => h.elim
  | _ :: _, [], h, _, _, _ => h.elim
theorem App.nats {d n c : Nat} {t : TypeId} {A : Option Addr} {L : List Nat} {cs : List Value} (h : App lab w d t (.slice A n c) n cs) (e : EachN (labFree lab d) w L cs) : NatsV L (labFree lab d) w (.slice A n c) := by
  have h1 := h.row
  have h2 := h.len
  have h3 := e.len
  have : n = L.length := by omega
  subst this
  exact ⟨A, c, cs, rfl, h1.2.1, h1.2.2, h3, h1.1, e.get⟩
theorem App.nums {d n c : Nat} {t : TypeId} {A : Option Addr} {L : List (List Bool)} {cs : List Value} (h : App lab w d t (.slice A n c) n cs) (e : EachV (labFree lab d) w L cs) : NumsV L (labFree lab d) w (.slice A n c) := by
  have h1 := h.row
  have h2 := h.len
  have h3 := e.len
  have : n = L.length := by omega
  subst this
  exact ⟨A, c, cs, rfl, h1.2.1, h1.2.2, h3, h1.1, e.get⟩
/-- A growing row of numbers. -/
def AppN (lab : Lab) (w : World) (d : Nat) (t : TypeId) (v : Value) (n : Nat) (L : List Nat) : Prop := ∃ cs, App lab w d t v n cs ∧ EachN lab w L cs
def AppV (lab : Lab) (w : World) (d : Nat) (t : TypeId) (v : Value) (n : Nat) (L : List (List Bool)) : Prop := ∃ cs, App lab w d t v n cs ∧ EachV lab w L cs
theorem AppN.mk {d n n' : Nat} {t : TypeId} {v : Value} {L L' : List Nat} {cs : List Value} (e : L = L') (en : n = n') (h : App lab w d t v n cs) (h1 : EachN lab w L cs) : AppN lab w d t v n' L' := by subst e; subst en; exact ⟨cs, h, h1⟩
theorem AppV.mk {d n n' : Nat} {t : TypeId} {v : Value} {L L' : List (List Bool)} {cs : List Value} (e : L = L') (en : n = n') (h : App lab w d t v n cs) (h1 : EachV lab w L cs) : AppV lab w d t v n' L' := by subst e; subst en; exact ⟨cs, h, h1⟩
theorem EachV.append : ∀ {L : List (List Bool)} {vs : List Value} {L' : List (List Bool)} {vs' : List Value}, EachV lab w L vs → EachV lab w L' vs' → EachV lab w (L ++ L') (vs ++ vs')
  | [], [], _, _, _, h => h
  | _ :: _, _ :: _, _, _, h, h' => ⟨h.1, EachV.append h.2 h'⟩
  | [], _ :: _, _, _, h, _ => h.elim
  | _ :: _, [], _, _, h, _ => h.elim
theorem EachV.of : ∀ {L : List (List Bool)} {vs : List Value}, vs.length = L.length → (∀ (i : Nat) (x : List Bool), L[i]? = some x → ∃ u, vs[i]? = some u ∧ BitsV x lab w u) → EachV lab w L vs
  | [], [], _, _ => trivial
  | b :: r, v :: s, hl, h => by
    obtain ⟨u, hu, hb⟩ := h 0 b rfl
    simp at hu
    subst hu
    exact ⟨hb, EachV.of (by simpa using hl) fun i x hi => h (i + 1) x (by simpa using hi)⟩
  | [], _ :: _, hl, _ => by simp at hl
  | _ :: _, [], hl, _ => by simp at hl
theorem EachV.cell1 : ∀ {L : List (List Bool)} {vs : List Value}, EachV lab w L vs → ∀ u ∈ vs, u.oneCell' = true
  | [], [], _, u, hu => by cases hu
  | _ :: _, _ :: _, h, u, hu => by
    rcases List.mem_cons.1 hu with rfl | hu
    · obtain ⟨A2, c2, rfl⟩ := BitsV.shape h.1; rfl
    · exact EachV.cell1 h.2 u hu
  | [], _ :: _, h, _, _ => h.elim
  | _ :: _, [], h, _, _ => h.elim
theorem NumsV.cells {L : List (List Bool)} {A : Option Addr} {n c : Nat} (h : NumsV L lab w (.slice A n c)) : ∃ vs, List.length vs = n ∧ RowAt lab w A vs ∧ EachV lab w L vs ∧ ∀ u ∈ vs, u.oneCell' = true := by
  obtain ⟨A', c', vs, h1, _, _, h4, h5, h6⟩ := h
  cases h1
  have e := EachV.of h4 h6
  exact ⟨vs, h4, h5, e, e.cell1⟩
theorem NumsV.one {x : List Bool} {v : Value} {b : Nat} (hr : RowAt lab w (some ⟨b, 0, none⟩) [v]) (hx : BitsV x lab w v) : NumsV [x] lab w (.slice (some ⟨b, 0, none⟩) 1 1) :=
  ⟨_, _, [v], rfl, Nat.le_refl _, by decide, rfl, hr, (show EachV lab w [x] [v] from ⟨hx, trivial⟩).get⟩
end
end Go.Proofs.Ytgfomedobfaidaa
