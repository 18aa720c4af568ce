/-
  The row of GroupMultis: that the law answers true of every input; part 6 of 9: what the proof needs, in order.
-/
import Derived.Test.YtgfomedobfaidaaMGroupMultis5
section
set_option linter.unusedVariables false
set_option linter.unusedSimpArgs false
namespace Go.Proofs.Ytgfomedobfaidaa
open Go.RowKit
structure StepD where
 n : Nat
 base : Nat
 primes : List Nat
def StepV (d : StepD) : VP := fun lab w v => ∃ a b c, v = .agg #[a, b, c] ∧ NatV d.n lab w (.agg #[a]) ∧ NatV d.base lab w (.agg #[b]) ∧ NatsV d.primes lab w c
theorem StepV.pers (d : StepD) : Pers (StepV d) := ⟨fun s ⟨a, b, c, h, h1, h2, h3⟩ => ⟨a, b, c, h, (NatV.pers _).step s h1, (NatV.pers _).step s h2, (NatsV.pers _).step s h3⟩⟩
instance (d : StepD) : Per (StepV d) := ⟨StepV.pers d⟩
theorem StepV.open {d : StepD} {lab : Lab} {w : World} {v : Value} (h : StepV d lab w v) : ∃ A1 c1 A2 c2 A3 c3, v = .agg #[.slice A1 (nw d.n) c1, .slice A2 (nw d.base) c2, .slice A3 d.primes.length c3] ∧ NatV d.n lab w (.agg #[.slice A1 (nw d.n) c1]) ∧ NatV d.base lab w (.agg #[.slice A2 (nw d.base) c2]) ∧ NatsV d.primes lab w (.slice A3 d.primes.length c3) := by
 obtain ⟨a, b, c, rfl, h1, h2, h3⟩ := h
 obtain ⟨A1, c1, e1⟩ := NatV.shape h1
 obtain ⟨A2, c2, e2⟩ := NatV.shape h2
 obtain ⟨A3, c3, rfl⟩ := NatsV.shape h3
 cases e1; cases e2
 exact ⟨A1, c1, A2, c2, A3, c3, rfl, h1, h2, h3⟩
theorem StepV.mk {n base : Nat} {primes : List Nat} {lab : Lab} {w : World} {a b c : Value} (h1 : NatV n lab w (.agg #[a])) (h2 : NatV base lab w (.agg #[b])) (h3 : NatsV primes lab w c) : StepV ⟨n, base, primes⟩ lab w (.agg #[a, b, c]) := ⟨a, b, c, rfl, h1, h2, h3⟩
theorem StepV.cast {x y : StepD} (e : x = y) {lab : Lab} {w : World} {v : Value} (h : StepV x lab w v) : StepV y lab w v := e ▸ h
def StepsV (L : List StepD) : VP := fun lab w v => ∃ A c vs, v = .slice A L.length c ∧ L.length ≤ c ∧ c ≤ 9223372036854775807 ∧ List.length vs = L.length * 3 ∧ RowAt lab w A vs ∧ ∀ (i : Nat) (x : StepD), L[i]? = some x → ∃ a b d, vs[i * 3]? = some a ∧ vs[i * 3 + 1]? = some b ∧ vs[i * 3 + 2]? = some d ∧ StepV x lab w (.agg #[a, b, d])
theorem StepsV.pers (L : List StepD) : Pers (StepsV L) := ⟨fun s ⟨A, c, vs, h1, h2, h3, h4, h5, h6⟩ => ⟨A, c, vs, h1, h2, h3, h4, h5.lift s, fun i x hi => by
 obtain ⟨a, b, d, k1, k2, k3, k4⟩ := h6 i x hi
 exact ⟨a, b, d, k1, k2, k3, (StepV.pers _).step s k4⟩⟩⟩
instance (L : List StepD) : Per (StepsV L) := ⟨StepsV.pers L⟩
theorem StepsV.shape {L : List StepD} {lab : Lab} {w : World} {v : Value} (h : StepsV L lab w v) : ∃ A c, v = .slice A L.length c := by
 obtain ⟨A, c, _, h1, _⟩ := h
 exact ⟨A, c, h1⟩
theorem StepsV.cap {L : List StepD} {lab : Lab} {w : World} {A : Option Addr} {n c : Nat} (h : StepsV L lab w (.slice A n c)) : n = L.length ∧ L.length ≤ c ∧ c ≤ 9223372036854775807 := by
 obtain ⟨A', c', _, h1, h2, h3, _⟩ := h
 cases h1
 exact ⟨rfl, h2, h3⟩
theorem StepsV.nil (lab : Lab) (w : World) : StepsV [] lab w (.slice none 0 0) := ⟨none, 0, [], rfl, by simp, by omega, rfl, RowAt.nil, fun i bs h => by simp at h⟩
theorem StepsV.cast {x y : List StepD} (e : x = y) {lab : Lab} {w : World} {v : Value} (h : StepsV x lab w v) : StepsV y lab w v := e ▸ h
def step0 : StepD := ⟨0, 0, []⟩
theorem StepsV.at_ {L : List StepD} {lab : Lab} {w : World} {A : Option Addr} {n c : Nat} (h : StepsV L lab w (.slice A n c)) (j : Nat) (hj : j < n) : ∃ vs a b d, List.length vs = n * 3 ∧ RowAt lab w A vs ∧ (∀ i u, [a, b, d][i]? = some u → vs[j * 3 + i]? = some u) ∧ StepV (List.getD L j step0) lab w (.agg #[a, b, d]) := by
 obtain ⟨A', c', vs, h1, _, _, h4, h5, h6⟩ := h
 cases h1
 obtain ⟨a, b, d, k1, k2, k3, k4⟩ := h6 j (L[j]) (List.getElem?_eq_getElem hj)
 refine ⟨vs, a, b, d, h4, h5, ?_, ?_⟩
 ·intro i u hi
  match i, hi with
  | 0, hi => simp at hi; subst hi; exact k1
  | 1, hi => simp at hi; subst hi; exact k2
  | 2, hi => simp at hi; subst hi; exact k3
  | i + 3, hi => simp at hi
 ·simpa [List.getD, List.getElem?_eq_getElem hj] using k4
def EachS (lab : Lab) (w : World) : List StepD → List Value → Prop
 | [], [] => True
 | d :: L, a :: b :: c :: vs => StepV d lab w (.agg #[a, b, c]) ∧ EachS lab w L vs
 | _, _ => False
theorem EachS.len {lab : Lab} {w : World} : ∀ {L : List StepD} {vs : List Value}, EachS lab w L vs → vs.length = L.length * 3
 | [], [], _ => rfl
 | d :: L, a :: b :: c :: vs, h => by have := EachS.len h.2; simp only [List.length_cons]; omega
 | [], _ :: _, h => h.elim
 | _ :: _, [], h => h.elim
 | _ :: _, [_], h => h.elim
 | _ :: _, [_, _], h => h.elim
theorem EachS.get {lab : Lab} {w : World} : ∀ {L : List StepD} {vs : List Value}, EachS lab w L vs → ∀ (i : Nat) (x : StepD), L[i]? = some x → ∃ a b d, vs[i * 3]? = some a ∧ vs[i * 3 + 1]? = some b ∧ vs[i * 3 + 2]? = some d ∧ StepV x lab w (.agg #[a, b, d])
 | [], [], _, i, x, hi => by simp at hi
 | d :: L, a :: b :: c :: vs, h, 0, x, hi => by simp at hi; subst hi; exact ⟨a, b, c, rfl, rfl, rfl, h.1⟩
 | d :: L, a :: b :: c :: vs, h, i + 1, x, hi => by
  obtain ⟨a', b', d', h1, h2, h3, h4⟩ := EachS.get h.2 i x (by simpa using hi)
  refine ⟨a', b', d', ?_, ?_, ?_, h4⟩
  ·rw [show (i + 1) * 3 = i * 3 + 3 by omega]; exact h1
  ·rw [show (i + 1) * 3 + 1 = i * 3 + 1 + 3 by omega]; exact h2
  ·rw [show (i + 1) * 3 + 2 = i * 3 + 2 + 3 by omega]; exact h3
 | [], _ :: _, h, _, _, _ => h.elim
 | _ :: _, [], h, _, _, _ => h.elim
 | _ :: _, [_], h, _, _, _ => h.elim
 | _ :: _, [_, _], h, _, _, _ => h.elim
theorem EachS.step {lab : Lab} {w : World} {T : List Nat} {lab' : Lab} {w' : World} (st : Stp T lab w lab' w') : ∀ {L : List StepD} {vs : List Value}, EachS lab w L vs → EachS lab' w' L vs
 | [], [], _ => trivial
 | d :: L, a :: b :: c :: vs, h => ⟨(StepV.pers _).step st h.1, EachS.step st h.2⟩
 | [], _ :: _, h => h.elim
 | _ :: _, [], h => h.elim
 | _ :: _, [_], h => h.elim
 | _ :: _, [_, _], h => h.elim
theorem StepsV.mk {lab : Lab} {w : World} {L : List StepD} {A : Option Addr} {c : Nat} {vs : List Value} (n : Nat) (hn : L.length = n) (hc : n ≤ c) (hc' : c ≤ 9223372036854775807) (hr : RowAt lab w A vs) (h : EachS lab w L vs) : StepsV L lab w (.slice A n c) := by
 subst hn
 exact ⟨A, c, vs, rfl, hc, hc', h.len, hr, h.get⟩
theorem NatsV.one {lab : Lab} {w : World} {x : Nat} {v : Value} {b : Nat} (hr : RowAt lab w (some ⟨b, 0, none⟩) [v]) (hx : NatV x lab w (.agg #[v])) : NatsV [x] lab w (.slice (some ⟨b, 0, none⟩) 1 1) :=
 ⟨_, _, [v], rfl, Nat.le_refl _, by decide, rfl, hr, (show EachN lab w [x] [v] from ⟨hx, trivial⟩).get⟩
section
variable {P : Program} {N : Nat} {l : List (Nat × Value)} {w : World} {lab : Lab} {ty : TypeId}
theorem Does.index_rowS {t e : TypeId} {x y : Operand} {k : IntKind} {i : Int} {A : Option Addr} {n c s : Nat} {ag : Bool} {by_ : Nat} {z : Option Value} {cs : List Value} (j : Nat) (ht : P.underlying t = some (.slice e)) (he : tyRow P e = some (ag, s, z, by_)) (hx : ev l x = some (.slice A n c)) (hy : ev l y = some (.int k i)) (hr : RowAt lab w A cs) (hn : cs.length = n * s) (hs : 0 < s) (hij : i = (j : Int)) (hj : j < n) :
  Does P l (.indexAddr t x y) ty w (.pointer (A.map (·.add (j * s)))) w := by
 intro ρ hρ d pos af g
 have hpos : 0 < cs.length := by rw [hn]; exact Nat.mul_pos (by omega) hs
 obtain ⟨b, o, rfl, _⟩ := hr.cell (j := 0) (v := cs[0]'hpos) (List.getElem?_eq_getElem hpos)
 have h := (Does.indexAddr (P := P) (l := l) (w := w) (ty := ty) ht he hx hy (by omega) (by omega)) ρ hρ d pos af g
 rw [h]
 subst hij
 simp [add_flat]
theorem Does.load_rowS {t : TypeId} {x : Operand} {A : Option Addr} {by_ : Nat} {z : Option Value} {cs : List Value} {o : Nat} (us : List Value) (ht : tyRow P t = some (true, us.length, z, by_)) (hx : ev l x = some (.pointer (A.map (·.add o)))) (hr : RowAt lab w A cs) (hu : ∀ i u, us[i]? = some u → cs[o + i]? = some u) (h0 : 0 < us.length) : Does P l (.load t x) ty w (.agg us.toArray) w := by
 have hA : ∃ b o', A = some ⟨b, o', none⟩ := by
  obtain ⟨b, o', h, _⟩ := hr.cell (hu 0 _ (List.getElem?_eq_getElem h0))
  exact ⟨b, o', h⟩
 obtain ⟨b, o', rfl⟩ := hA
 refine Does.load_agg (a := ⟨b, o' + o, none⟩) ht (by simpa [add_flat] using hx) fun j v hj => ?_
 obtain ⟨b2, o2, h2, hc⟩ := hr.cell (hu j v hj)
 cases h2
 rw [add_flat, Nat.add_assoc]
 exact hc
end
theorem NatsV.takeN {L : List Nat} {A : Option Addr} {n c : Nat} {lab : Lab} {w : World} (h : NatsV L lab w (.slice A n c)) (j : Nat) (hj : j ≤ n) : NatsV (L.take j) lab w (.slice A j c) := by
 obtain ⟨A', c', vs, h1, h2, h3, h4, h5, h6⟩ := h
 cases h1
 refine NatsV.mk j (by rw [List.length_take]; omega) (by omega) h3 (h5.take j) (by rw [List.length_take]; omega) fun i x hi => ?_
 have hij : i < j := by
  have := (List.getElem?_eq_some_iff.1 hi).1
  rw [List.length_take] at this; omega
 rw [List.getElem?_take_of_lt hij] at hi
 obtain ⟨u, hu, hb⟩ := h6 i x hi
 exact ⟨u, by rw [List.getElem?_take_of_lt hij]; exact hu, hb⟩
section
variable {lab : Lab} {w : World}
theorem EachN.of : ∀ {L : List Nat} {vs : List Value}, vs.length = L.length → (∀ (i : Nat) (x : Nat), L[i]? = some x → ∃ u, vs[i]? = some u ∧ NatV x lab w (.agg #[u])) → EachN lab w L vs
 | [], [], _, _ => trivial
 | x :: L, v :: vs, h, hh => by
  obtain ⟨u, h1, h2⟩ := hh 0 x rfl
  simp at h1; subst h1
  exact ⟨h2, EachN.of (by simpa using h) fun i y hi => by simpa using hh (i + 1) y (by simpa using hi)⟩
 | [], _ :: _, h, _ => by simp at h
 | _ :: _, [], h, _ => by simp at h
theorem NatV.cell1 {x : Nat} {u : Value} (h : NatV x lab w (.agg #[u])) : u.oneCell' = true := by
 obtain ⟨A, c, h1, _⟩ := h
 cases h1; rfl
theorem EachN.cell1 : ∀ {L : List Nat} {vs : List Value}, EachN lab w L vs → ∀ u ∈ vs, u.oneCell' = true
 | [], [], _, u, hu => by cases hu
 | _ :: _, _ :: _, h, u, hu => by
  rcases List.mem_cons.1 hu with rfl | hu
  ·exact NatV.cell1 h.1
  ·exact EachN.cell1 h.2 u hu
 | [], _ :: _, h, _, _ => h.elim
 | _ :: _, [], h, _, _ => h.elim
theorem EachN.append : ∀ {L M : List Nat} {vs us : List Value}, EachN lab w L vs → EachN lab w M us → EachN lab w (L ++ M) (vs ++ us)
 | [], _, [], _, _, k => k
 | _ :: _, _, _ :: _, _, h, k => ⟨h.1, EachN.append h.2 k⟩
 | [], _, _ :: _, _, h, _ => h.elim
 | _ :: _, _, [], _, h, _ => h.elim
theorem NatsV.cells {L : List Nat} {A : Option Addr} {n c : Nat} (h : NatsV L lab w (.slice A n c)) : ∃ vs, List.length vs = n ∧ RowAt lab w A vs ∧ EachN lab w L vs ∧ ∀ u ∈ vs, u.oneCell' = true := by
 obtain ⟨A', c', vs, h1, _, _, h4, h5, h6⟩ := h
 cases h1
 have e := EachN.of h4 h6
 exact ⟨vs, h4, h5, e, e.cell1⟩
end
def smallP (n : Nat) : Prop := 2 ≤ n ∧ n < 65536 ∧ ∀ d, d < 256 → 2 ≤ d → d * d ≤ n → n % d ≠ 0
instance (n : Nat) : Decidable (smallP n) := by unfold smallP; infer_instance
theorem small_end {n d : Nat} (h2 : 2 ≤ n) (h16 : n < 65536) (hall : ∀ e, e < d → 2 ≤ e → n % e ≠ 0) (hd : n < d * d) : smallP n :=
 ⟨h2, h16, fun e _ h2e hee => hall e (by
  rcases Nat.lt_or_ge e d with h | h
  ·exact h
  ·have := Nat.mul_le_mul h h; omega) h2e⟩
theorem small_not {n d : Nat} (h16 : n < 65536) (h2 : 2 ≤ d) (hd : d * d ≤ n) (h0 : n % d = 0) : ¬ smallP n := fun h => h.2.2 d (by
 rcases Nat.lt_or_ge d 256 with h | h
 ·exact h
 ·have := Nat.mul_le_mul h h; omega) h2 hd h0
theorem sq_lt {d n : Nat} (h : d * d ≤ n) (h16 : n < 65536) : d < 256 := by
 rcases Nat.lt_or_ge d 256 with h' | h'
 ·exact h'
 ·have := Nat.mul_le_mul h' h'; omega
theorem small_u {n : Nat} (h1 : (!decide (nw n ≤ 2)) = false) : (if nw n ≤ 2 then n else 0) = n := if_pos (by simpa using h1)
theorem small_a {n : Nat} (h : (!decide (nw n ≤ 2)) = true) : false = decide (smallP n) := (decide_eq_false fun hs => by
 have h2 : ¬ nw n ≤ 2 := by simpa using h
 have := nw_le (x := n) (n := 1) (by have := hs.2.1; omega)
 omega).symm
theorem small_b {n : Nat} (h1 : (!decide (nw n ≤ 2)) = false) (h : (((if nw n ≤ 2 then n else 0) : Nat) : Int) < 2) : false = decide (smallP n) := (decide_eq_false fun hs => by
 rw [small_u h1] at h; have := hs.1; omega).symm
theorem small_c {n : Nat} (h1 : (!decide (nw n ≤ 2)) = false) (h : (65536 : Int) ≤ (((if nw n ≤ 2 then n else 0) : Nat) : Int)) : false = decide (smallP n) := (decide_eq_false fun hs => by
 rw [small_u h1] at h; have := hs.2.1; omega).symm
theorem small_d {n d : Nat} (h1 : (!decide (nw n ≤ 2)) = false) (h3 : ¬ (65536 : Int) ≤ (((if nw n ≤ 2 then n else 0) : Nat) : Int)) (h2 : 2 ≤ d) (h4 : ((d * d : Nat) : Int) ≤ (((if nw n ≤ 2 then n else 0) : Nat) : Int)) (h5 : (((if nw n ≤ 2 then n else 0) % d : Nat) : Int) = 0) : false = decide (smallP n) := (decide_eq_false (by
 rw [small_u h1] at h3 h4 h5
 exact small_not (by omega) h2 (by omega) (by omega))).symm
theorem small_e {n d : Nat} (h1 : (!decide (nw n ≤ 2)) = false) (h2 : ¬ (((if nw n ≤ 2 then n else 0) : Nat) : Int) < 2) (h3 : ¬ (65536 : Int) ≤ (((if nw n ≤ 2 then n else 0) : Nat) : Int)) (hall : ∀ e, e < d → 2 ≤ e → n % e ≠ 0) (h4 : ¬ ((d * d : Nat) : Int) ≤ (((if nw n ≤ 2 then n else 0) : Nat) : Int)) : true = decide (smallP n) := (decide_eq_true (by
 rw [small_u h1] at h2 h3 h4
 exact small_end (by omega) (by omega) hall (by omega))).symm
theorem small_lt256 {n d : Nat} (h1 : (!decide (nw n ≤ 2)) = false) (h3 : ¬ (65536 : Int) ≤ (((if nw n ≤ 2 then n else 0) : Nat) : Int)) (h4 : ((d * d : Nat) : Int) ≤ (((if nw n ≤ 2 then n else 0) : Nat) : Int)) : d < 256 := by
 rw [small_u h1] at h3 h4
 exact sq_lt (n := n) (by omega) (by omega)
theorem small_next {n d : Nat} (h1 : (!decide (nw n ≤ 2)) = false) (hall : ∀ e, e < d → 2 ≤ e → n % e ≠ 0) (h5 : ¬ (((if nw n ≤ 2 then n else 0) % d : Nat) : Int) = 0) : ∀ e, e < d + 1 → 2 ≤ e → n % e ≠ 0 := by
 rw [small_u h1] at h5
 intro e he h2
 rcases Nat.lt_or_ge e d with h | h
 ·exact hall e h h2
 ·obtain rfl : e = d := by omega
  omega
def knownP (behind : List Nat) (n : Nat) : Prop := n ∈ behind ∨ smallP n
instance (b : List Nat) (n : Nat) : Decidable (knownP b n) := by unfold knownP; infer_instance
theorem known_not {behind : List Nat} {n k : Nat} (h : ∀ j, j < k → behind.getD j 0 ≠ n) (hk : behind.length ≤ k) : n ∉ behind := fun hm => by
 obtain ⟨i, hi, e⟩ := List.mem_iff_getElem.1 hm
 exact h i (by omega) (by simp [List.getD, List.getElem?_eq_getElem hi, e])
theorem known_yes {behind : List Nat} {n k : Nat} (hk : k < behind.length) (h : behind.getD k 0 = n) : n ∈ behind := by
 subst h; simp [List.getD, List.getElem?_eq_getElem hk]
theorem known_t {behind : List Nat} {n k : Nat} (hk : k < behind.length) (h : cmpI (behind.getD k 0) n = 0) : true = decide (knownP behind n) := (decide_eq_true (.inl (known_yes hk (by simpa using h)))).symm
theorem known_s {behind : List Nat} {n k : Nat} (hall : ∀ j, j < k → behind.getD j 0 ≠ n) (hk : behind.length ≤ k) : decide (smallP n) = decide (knownP behind n) := decide_eq_decide.2 ⟨.inr, fun h => h.resolve_left (known_not hall hk)⟩
theorem known_next {behind : List Nat} {n k : Nat} (hall : ∀ j, j < k → behind.getD j 0 ≠ n) (h : ¬ cmpI (behind.getD k 0) n = 0) : ∀ j, j < k + 1 → behind.getD j 0 ≠ n := by
 intro j hj
 rcases Nat.lt_or_ge j k with h' | h'
 ·exact hall j h'
 ·obtain rfl : j = k := by omega
  simpa using h
def pwF : Nat → Nat → Nat → Nat
 | 0, _, _ => 1
 | f + 1, n, p => if n % p = 0 then p * pwF f (n / p) p else 1
def pw (n p : Nat) : Nat := pwF n n p
theorem pwF_more {p : Nat} (hp : 2 ≤ p) : ∀ (f g n : Nat), n ≠ 0 → n ≤ f → n ≤ g → pwF f n p = pwF g n p
 | 0, g, n, h0, hf, hg => by omega
 | f + 1, 0, n, h0, hf, hg => by omega
 | f + 1, g + 1, n, h0, hf, hg => by
  simp only [pwF]
  split
  ·rename_i h
   have h1 : n / p ≠ 0 := fun e => by
    have := Nat.div_add_mod n p
    rw [h, e] at this; simp at this; exact h0 this.symm
   have h2 : n / p < n := Nat.div_lt_self (by omega) (by omega)
   rw [pwF_more hp f g (n / p) h1 (by omega) (by omega)]
  ·rfl
theorem pw_step {n p : Nat} (hp : 2 ≤ p) (h0 : n ≠ 0) (h : n % p = 0) : pw n p = p * pw (n / p) p := by
 obtain ⟨m, rfl⟩ : ∃ m, n = m + 1 := ⟨n - 1, by omega⟩
 have h1 : (m + 1) / p ≠ 0 := fun e => by
  have := Nat.div_add_mod (m + 1) p
  rw [h, e] at this; simp at this
 have h2 : (m + 1) / p < m + 1 := Nat.div_lt_self (by omega) (by omega)
 rw [pw, pwF, if_pos h, pw, pwF_more hp m ((m + 1) / p) _ h1 (by omega) (Nat.le_refl _)]
theorem pw_stop {n p : Nat} (h0 : n ≠ 0) (h : n % p ≠ 0) : pw n p = 1 := by
 obtain ⟨m, rfl⟩ : ∃ m, n = m + 1 := ⟨n - 1, by omega⟩
 rw [pw, pwF, if_neg h]
theorem div_ne {n p : Nat} (h0 : n ≠ 0) (h : n % p = 0) : n / p ≠ 0 := fun e => by
 have := Nat.div_add_mod n p
 rw [h, e] at this; simp at this; exact h0 this.symm
theorem pw_dvd {p : Nat} (hp : 2 ≤ p) : ∀ (f n : Nat), n ≤ f → n ≠ 0 → pw n p ∣ n
 | 0, n, h, h0 => by omega
 | f + 1, n, h, h0 => by
  by_cases hd : n % p = 0
  ·rw [pw_step hp h0 hd]
   have h2 : n / p < n := Nat.div_lt_self (by omega) (by omega)
   have ih := pw_dvd hp f (n / p) (by omega) (div_ne h0 hd)
   have e : n = p * (n / p) := by have := Nat.div_add_mod n p; omega
   conv => rhs; rw [e]
   exact Nat.mul_dvd_mul_left p ih
  ·rw [pw_stop h0 hd]; exact Nat.one_dvd _
theorem pw_le {n p : Nat} (hp : 2 ≤ p) (h0 : n ≠ 0) : pw n p ≤ n := Nat.le_of_dvd (by omega) (pw_dvd hp n n (Nat.le_refl _) h0)
theorem pw_one {n p : Nat} (hp : 2 ≤ p) (h0 : n ≠ 0) : pw n p = 1 ↔ n % p ≠ 0 := by
 constructor
 ·intro h hd
  rw [pw_step hp h0 hd] at h
  have h1 : 0 < pw (n / p) p := Nat.pos_of_dvd_of_pos (pw_dvd hp _ _ (Nat.le_refl _) (div_ne h0 hd)) (Nat.pos_of_ne_zero (div_ne h0 hd))
  have := Nat.mul_le_mul hp h1
  omega
 ·exact pw_stop h0
def powD (n p : Nat) : Nat := if pw n p = 1 then 0 else pw n p
theorem powD_zero {n p : Nat} (hp : 2 ≤ p) (h0 : n ≠ 0) : powD n p = 0 ↔ n % p ≠ 0 := by
 have hpos : 0 < pw n p := Nat.pos_of_dvd_of_pos (pw_dvd hp _ _ (Nat.le_refl _) h0) (Nat.pos_of_ne_zero h0)
 unfold powD
 rw [← pw_one hp h0]
 split <;> omega
theorem powD_le {n p : Nat} (hp : 2 ≤ p) (h0 : n ≠ 0) : powD n p ≤ n := by
 unfold powD; split
 ·omega
 ·exact pw_le hp h0
theorem pow_dv {m p : Nat} (hc : (!decide ((if p = 0 then 0 else m % p) = 0)) = false) (h2p : 2 ≤ p) : m % p = 0 := by
 rw [if_neg (by omega)] at hc; simpa using hc
theorem pow_ndv {m p : Nat} (hc : (!decide ((if p = 0 then 0 else m % p) = 0)) = true) (h2p : 2 ≤ p) : m % p ≠ 0 := by
 rw [if_neg (by omega)] at hc; simpa using hc
theorem pow_a {n m p o : Nat} (h2p : 2 ≤ p) (hm : m ≠ 0) (hpw : o * pw m p = pw n p) (hc : (!decide ((if p = 0 then 0 else m % p) = 0)) = true) (hp : cmpI o 1 = 0) : 0 = powD n p := by
 rw [pw_stop hm (pow_ndv hc h2p), Nat.mul_one] at hpw
 unfold powD; rw [if_pos (by rw [← hpw]; simpa using hp)]
theorem pow_b {n m p o : Nat} (h2p : 2 ≤ p) (hm : m ≠ 0) (hpw : o * pw m p = pw n p) (hc : (!decide ((if p = 0 then 0 else m % p) = 0)) = true) (hp : ¬ cmpI o 1 = 0) : o = powD n p := by
 rw [pw_stop hm (pow_ndv hc h2p), Nat.mul_one] at hpw
 unfold powD; rw [if_neg (by rw [← hpw]; simpa using hp), hpw]
theorem pow_mo {n m p o : Nat} (hmo : o * m = n) (h : m % p = 0) : o * p * (m / p) = n := by
 have := Nat.div_add_mod m p
 rw [h, Nat.add_zero] at this
 rw [Nat.mul_assoc, this, hmo]
theorem pow_pw {n m p o : Nat} (h2p : 2 ≤ p) (hm : m ≠ 0) (hpw : o * pw m p = pw n p) (h : m % p = 0) : o * p * pw (m / p) p = pw n p := by
 rw [Nat.mul_assoc, ← pw_step h2p hm h, hpw]
theorem pow_le1 {n m o : Nat} (hmo : o * m = n) (hm : m ≠ 0) (h0n : n ≠ 0) : o ≤ n ∧ m ≤ n := by
 have ho : o ≠ 0 := fun e => by subst e; simp at hmo; omega
 subst hmo
 exact ⟨Nat.le_mul_of_pos_right _ (by omega), Nat.le_mul_of_pos_left _ (by omega)⟩
def goodP (N B : Nat) (behind ps : List Nat) (i : Nat) : Prop :=
 (∀ j, j < i → ps.getD j 0 ≠ ps.getD i 0) ∧ knownP behind (ps.getD i 0) ∧ 2 ≤ ps.getD i 0 ∧ (N - 1) % ps.getD i 0 = 0 ∧ Nat.gcd (subM N (B ^ ((N - 1) / ps.getD i 0) % N) 1) N = 1
def fprod (N : Nat) (ps : List Nat) : Nat → Nat
 | 0 => 1
 | k + 1 => fprod N ps k * powD (N - 1) (ps.getD k 0)
def HoldsP (s : StepD) (behind : List Nat) : Prop :=
 2 ≤ s.n ∧ 1 ≤ s.primes.length ∧ s.primes.length ≤ 32 ∧ s.base ^ (s.n - 1) % s.n = 1 ∧ (∀ i, i < s.primes.length → goodP s.n s.base behind s.primes i) ∧ s.n < fprod s.n s.primes s.primes.length * fprod s.n s.primes s.primes.length
instance (N B : Nat) (b ps : List Nat) (i : Nat) : Decidable (goodP N B b ps i) := by unfold goodP; infer_instance
instance (s : StepD) (b : List Nat) : Decidable (HoldsP s b) := by unfold HoldsP; infer_instance
theorem fprod_le {N : Nat} {ps : List Nat} (h1 : 2 ≤ N) : ∀ k, (∀ i, i < k → 2 ≤ ps.getD i 0) → fprod N ps k ≤ N ^ k
 | 0, _ => by simp [fprod]
 | k + 1, h => by
  rw [fprod, Nat.pow_succ]
  exact Nat.mul_le_mul (fprod_le h1 k fun i hi => h i (by omega)) (Nat.le_trans (powD_le (h k (by omega)) (by omega)) (by omega))
theorem nw_mul {a b : Nat} : nw (a * b) ≤ nw a + nw b := by
 apply nw_le
 rw [Nat.pow_add]
 exact Nat.mul_lt_mul'' (lt_nw a) (lt_nw b)
theorem nw_pow (a : Nat) : ∀ k, nw (a ^ k) ≤ nw a * k + 1
 | 0 => by simp [nw_one]
 | k + 1 => by
  rw [Nat.pow_succ]
  have h1 := nw_mul (a := a ^ k) (b := a)
  have h2 := nw_pow a k
  rw [Nat.mul_succ]; omega
theorem fprod_nw {N k : Nat} {ps : List Nat} (h1 : 2 ≤ N) (hN : nw N ≤ 32) (hk : k ≤ 32) (h : ∀ i, i < k → 2 ≤ ps.getD i 0) : nw (fprod N ps k) ≤ 1025 := by
 have h1' := nw_mono (fprod_le h1 k h)
 have h2 := nw_pow N k
 have h3 : nw N * k ≤ 32 * 32 := Nat.mul_le_mul hN hk
 omega
theorem nw_le1 {x : Nat} (h : x < 4294967296) : nw x ≤ 1 := nw_le (n := 1) (by omega)
theorem two_le {n : Nat} (h : ¬ cmpI n 2 < 0) : 2 ≤ n := by rw [cmpI_lt] at h; omega
theorem primes_nw {ps : List Nat} (h : ∀ x ∈ ps, nw x ≤ 32) (i : Nat) : nw (ps.getD i 0) ≤ 32 := by
 rcases Nat.lt_or_ge i ps.length with hi | hi
 ·exact h _ (by simp [List.getD, List.getElem?_eq_getElem hi])
 ·simp [List.getD, List.getElem?_eq_none hi, nw_zero]
theorem getD_take {ps : List Nat} {i k : Nat} (h : k < i) : (ps.take i).getD k 0 = ps.getD k 0 := by simp [List.getD, List.getElem?_take_of_lt h]
section
variable {s : StepD} {b : List Nat} {i k : Nat}
theorem holds_f1 (h : cmpI s.n 2 < 0) : false = decide (HoldsP s b) := (decide_eq_false fun hs => by rw [cmpI_lt] at h; have := hs.1; omega).symm
theorem holds_f2 (h : ((s.primes.length : Nat) : Int) < 1) : false = decide (HoldsP s b) := (decide_eq_false fun hs => by have := hs.2.1; omega).symm
theorem holds_f3 (h : (32 : Int) < ((s.primes.length : Nat) : Int)) : false = decide (HoldsP s b) := (decide_eq_false fun hs => by have := hs.2.2.1; omega).symm
theorem holds_f4 (h : cmpI (s.base ^ (s.n - 1) % s.n) 1 ≠ 0) : false = decide (HoldsP s b) := (decide_eq_false fun hs => h (by rw [cmpI_eq]; exact hs.2.2.2.1)).symm
theorem holds_fi (hi : i < s.primes.length) (h : ¬ goodP s.n s.base b s.primes i) : false = decide (HoldsP s b) := (decide_eq_false fun hs => h (hs.2.2.2.2.1 i hi)).symm
theorem holds_f7 (hi : i < s.primes.length) (hk : k < i) (h : cmpI ((s.primes.take i).getD k 0) (s.primes.getD i 0) = 0) : false = decide (HoldsP s b) := holds_fi hi fun hg => hg.1 k hk (by rw [getD_take hk] at h; simpa using h)
theorem holds_f8 (hi : i < s.primes.length) (h : (!decide (knownP b (s.primes.getD i 0))) = true) : false = decide (HoldsP s b) := holds_fi hi fun hg => by rw [decide_eq_true hg.2.1] at h; cases h
theorem holds_f9 (hi : i < s.primes.length) (h : cmpI (s.primes.getD i 0) 2 < 0) : false = decide (HoldsP s b) := holds_fi hi fun hg => by rw [cmpI_lt] at h; have := hg.2.2.1; omega
theorem holds_f10 (h2 : 2 ≤ s.n) (hi : i < s.primes.length) (hp : ¬ cmpI (s.primes.getD i 0) 2 < 0) (h : powD (s.n - 1) (s.primes.getD i 0) = 0) : false = decide (HoldsP s b) := holds_fi hi fun hg => (powD_zero (two_le hp) (by omega)).1 h hg.2.2.2.1
theorem holds_f11 (hi : i < s.primes.length) (h : cmpI (Nat.gcd (subM s.n (s.base ^ ((s.n - 1) / s.primes.getD i 0) % s.n) 1) s.n) 1 ≠ 0) : false = decide (HoldsP s b) := holds_fi hi fun hg => h (by rw [cmpI_eq]; exact hg.2.2.2.2)
theorem holds_nd (hnd : ∀ j, j < k → s.primes.getD j 0 ≠ s.primes.getD i 0) (hk : k < i) (h : ¬ cmpI ((s.primes.take i).getD k 0) (s.primes.getD i 0) = 0) : ∀ j, j < k + 1 → s.primes.getD j 0 ≠ s.primes.getD i 0 := by
 intro j hj
 rcases Nat.lt_or_ge j k with h' | h'
 ·exact hnd j h'
 ·obtain rfl : j = k := by omega
  rw [getD_take hk] at h; simpa using h
theorem holds_good (h2 : 2 ≤ s.n) (hg : ∀ j, j < i → goodP s.n s.base b s.primes j) (hnd : ∀ j, j < i → s.primes.getD j 0 ≠ s.primes.getD i 0) (h8 : (!decide (knownP b (s.primes.getD i 0))) = false) (h9 : ¬ cmpI (s.primes.getD i 0) 2 < 0) (h10 : ¬ powD (s.n - 1) (s.primes.getD i 0) = 0) (h11 : ¬ cmpI (Nat.gcd (subM s.n (s.base ^ ((s.n - 1) / s.primes.getD i 0) % s.n) 1) s.n) 1 ≠ 0) : ∀ j, j < i + 1 → goodP s.n s.base b s.primes j := by
 intro j hj
 rcases Nat.lt_or_ge j i with h' | h'
 ·exact hg j h'
 ·obtain rfl : j = i := by omega
  refine ⟨hnd, by simpa using h8, two_le h9, ?_, ?_⟩
  ·exact Decidable.byContradiction fun hc => h10 ((powD_zero (two_le h9) (by omega)).2 hc)
  ·have := Decidable.not_not.1 h11
   rwa [cmpI_eq] at this
theorem holds_end (h1 : ¬ cmpI s.n 2 < 0) (h2 : ¬ ((s.primes.length : Nat) : Int) < 1) (h3 : ¬ (32 : Int) < ((s.primes.length : Nat) : Int)) (h4 : ¬ cmpI (s.base ^ (s.n - 1) % s.n) 1 ≠ 0) (hg : ∀ j, j < i → goodP s.n s.base b s.primes j) (hi : i = s.primes.length) : decide ((0 : Int) < cmpI (fprod s.n s.primes i * fprod s.n s.primes i) s.n) = decide (HoldsP s b) := by
 subst hi
 rw [decide_eq_decide, cmpI_gt]
 exact ⟨fun h => ⟨two_le h1, by omega, by omega, by have := Decidable.not_not.1 h4; rwa [cmpI_eq] at this, hg, h⟩, fun h => h.2.2.2.2.2⟩
end
def stepNs (s : StepD) : List Nat := [s.n, s.base] ++ s.primes
def longP (n : Nat) : Prop := 1024 < blen n
instance (n : Nat) : Decidable (longP n) := by unfold longP; infer_instance
def longC (chain : List StepD) : Prop := ∃ i, i < chain.length ∧ ∃ j, j < (stepNs (chain.getD i step0)).length ∧ longP ((stepNs (chain.getD i step0)).getD j 0)
def behindC (chain : List StepD) (k : Nat) : List Nat := (chain.take k).map (·.n)
def holdC (chain : List StepD) : Prop := ∀ i, i < chain.length → HoldsP (chain.getD i step0) (behindC chain i)
instance (chain : List StepD) : Decidable (longC chain) := by
 unfold longC
 exact decidable_of_iff (∃ i : Fin chain.length, ∃ j : Fin (stepNs (chain.getD i.val step0)).length, longP ((stepNs (chain.getD i.val step0)).getD j.val 0)) ⟨fun ⟨i, j, h⟩ => ⟨i.1, i.2, j.1, j.2, h⟩, fun ⟨i, hi, j, hj, h⟩ => ⟨⟨i, hi⟩, ⟨j, hj⟩, h⟩⟩
instance (chain : List StepD) : Decidable (holdC chain) := by unfold holdC; infer_instance
def checkE (chain : List StepD) : Int := if 64 < chain.length ∨ longC chain then 4 else if holdC chain then 0 else 8
def primeC (n : Nat) (chain : List StepD) : Prop := smallP n ∨ (checkE chain = 0 ∧ n ∈ chain.map (·.n))
instance (n : Nat) (chain : List StepD) : Decidable (primeC n chain) := by unfold primeC; infer_instance
theorem bn_t {p : Prop} [Decidable p] (h : (!decide p) = true) : ¬ p := by simpa using h
theorem bn_f {p : Prop} [Decidable p] (h : (!decide p) = false) : p := by simpa using h
theorem getD_memD {L : List Nat} {j : Nat} (hj : j < L.length) : L.getD j 0 ∈ L := by
 rw [List.getD, List.getElem?_eq_getElem hj]; exact List.getElem_mem hj
theorem check_a {chain : List StepD} (h : (64 : Int) < ((chain.length : Nat) : Int)) : 4 = checkE chain := by unfold checkE; rw [if_pos (.inl (by omega))]
theorem check_b {chain : List StepD} {i j : Nat} (hi : i < chain.length) (hj : j < (stepNs (chain.getD i step0)).length) (h : longP ((stepNs (chain.getD i step0)).getD j 0)) : 4 = checkE chain := by unfold checkE; rw [if_pos (.inr ⟨i, hi, j, hj, h⟩)]
theorem check_nl {chain : List StepD} {i : Nat} (hi : chain.length ≤ i) (hL : ∀ a, a < i → ∀ x ∈ stepNs (chain.getD a step0), ¬ longP x) : ¬ longC chain := fun ⟨a, ha, j, hj, h⟩ => hL a (by omega) _ (getD_memD hj) h
theorem check_c {chain : List StepD} {m : Nat} (h1 : ¬ (64 : Int) < ((chain.length : Nat) : Int)) (hl : ¬ longC chain) (hm : m < chain.length) (h : ¬ HoldsP (chain.getD m step0) (behindC chain m)) : 8 = checkE chain := by
 unfold checkE; rw [if_neg (by simp only [not_or]; exact ⟨by omega, hl⟩), if_neg fun hc => h (hc m hm)]
theorem check_d {chain : List StepD} {m : Nat} (h1 : ¬ (64 : Int) < ((chain.length : Nat) : Int)) (hl : ¬ longC chain) (hm : chain.length ≤ m) (h : ∀ a, a < m → HoldsP (chain.getD a step0) (behindC chain a)) : 0 = checkE chain := by
 unfold checkE; rw [if_neg (by simp only [not_or]; exact ⟨by omega, hl⟩), if_pos (show holdC chain from fun a ha => h a (by omega))]
theorem check_row {s : StepD} {j : Nat} (hj : (stepNs s).length ≤ j) (h : ∀ b, b < j → ¬ longP ((stepNs s).getD b 0)) : ∀ x ∈ stepNs s, ¬ longP x := fun x hx => by
 obtain ⟨b, hb, e⟩ := List.mem_iff_getElem.1 hx
 have := h b (by omega)
 rwa [List.getD, List.getElem?_eq_getElem hb, Option.getD_some, e] at this
theorem check_rows {chain : List StepD} {i : Nat} (hL : ∀ a, a < i → ∀ x ∈ stepNs (chain.getD a step0), ¬ longP x) (h : ∀ x ∈ stepNs (chain.getD i step0), ¬ longP x) : ∀ a, a < i + 1 → ∀ x ∈ stepNs (chain.getD a step0), ¬ longP x := by
 intro a ha
 rcases Nat.lt_or_ge a i with h' | h'
 ·exact hL a h'
 ·obtain rfl : a = i := by omega
  exact h
theorem upto_succ' {p : Nat → Prop} {j : Nat} (h : ∀ b, b < j → p b) (hj : p j) : ∀ b, b < j + 1 → p b := by
 intro b hb
 rcases Nat.lt_or_ge b j with h' | h'
 ·exact h b h'
 ·obtain rfl : b = j := by omega
  exact hj
theorem stepNs_nw {s : StepD} (h1 : nw s.n ≤ 100000) (h2 : nw s.base ≤ 100000) (h3 : ∀ x ∈ s.primes, nw x ≤ 100000) (j : Nat) : nw ((stepNs s).getD j 0) ≤ 100000 := by
 rcases Nat.lt_or_ge j (stepNs s).length with hj | hj
 ·have hm := getD_memD hj
  generalize (stepNs s).getD j 0 = y at hm ⊢
  unfold stepNs at hm
  rcases List.mem_append.1 hm with h | h
  ·simp at h; rcases h with rfl | rfl <;> assumption
  ·exact h3 _ h
 ·simp [List.getD, List.getElem?_eq_none hj, nw_zero]
theorem behindC_succ {chain : List StepD} {k : Nat} (h : k < chain.length) : behindC chain k ++ [(chain.getD k step0).n] = behindC chain (k + 1) := by
 unfold behindC
 rw [List.take_succ_eq_append_getElem h, List.map_append]
 simp [List.getD, List.getElem?_eq_getElem h]
theorem blen_le_nw' {n k : Nat} (h : blen n ≤ 32 * k) : nw n ≤ k := nw_le (by rw [pow32]; exact blen_le.1 h)
theorem blen_nw {n : Nat} (h : ¬ longP n) : nw n ≤ 32 := by
 unfold longP at h
 have h2 := blen_le_nw' (n := n) (k := 32) (by omega)
 exact h2
theorem not_long {chain : List StepD} (h : ¬ longC chain) {i : Nat} (hi : i < chain.length) : ∀ x ∈ stepNs (chain.getD i step0), nw x ≤ 32 := fun x hx => by
 obtain ⟨j, hj, e⟩ := List.mem_iff_getElem.1 hx
 refine blen_nw fun hl => h ⟨i, hi, j, hj, ?_⟩
 rw [List.getD, List.getElem?_eq_getElem hj, e]; exact hl
theorem prime_a {n : Nat} {chain : List StepD} (h : smallP n) : true = decide (primeC n chain) := (decide_eq_true (.inl h)).symm
theorem prime_b {n : Nat} {chain : List StepD} (h : ¬ smallP n) (h2 : checkE chain ≠ 0) : false = decide (primeC n chain) := (decide_eq_false fun hp => hp.elim h fun h' => h2 h'.1).symm
theorem prime_c {n k : Nat} {chain : List StepD} (hk : k < chain.length) (h2 : ¬ checkE chain ≠ 0) (h : cmpI (chain.getD k step0).n n = 0) : true = decide (primeC n chain) := (decide_eq_true (.inr ⟨Decidable.not_not.1 h2, List.mem_map.2 ⟨chain.getD k step0, by rw [List.getD, List.getElem?_eq_getElem hk]; exact List.getElem_mem hk, by simpa using h⟩⟩)).symm
theorem prime_d {n k : Nat} {chain : List StepD} (h : ¬ smallP n) (hk : chain.length ≤ k) (hall : ∀ j, j < k → (chain.getD j step0).n ≠ n) : false = decide (primeC n chain) := (decide_eq_false fun hp => hp.elim h fun h' => by
 obtain ⟨s, hs, e⟩ := List.mem_map.1 h'.2
 obtain ⟨i, hi, e2⟩ := List.mem_iff_getElem.1 hs
 refine hall i (by omega) ?_
 rw [List.getD, List.getElem?_eq_getElem hi, Option.getD_some, e2, e]).symm
end Go.Proofs.Ytgfomedobfaidaa
end
section
set_option linter.unusedVariables false
set_option linter.unusedSimpArgs false
set_option maxRecDepth 100000
namespace Go.Proofs.Ytgfomedobfaidaa
open Go.RowKit
theorem cert_Small {lab : Lab} {w : World} (hv : Valid lab w) {n : Nat} {v0 : Value} (h0 : NatV n lab w v0) :
  Calls Try.prog 155 #[v0] w (fun e w' => ∃ v, e = .returned v ∧ (Is (.bool (decide (smallP n)))) lab w' v ∧ Below w.heap.size w w') := by
 obtain ⟨L0, h0L, ⟨zU0, z00⟩, hX⟩ := enter0 hv
 replace h0 := up z00 h0
 obtain ⟨A1, c2, rfl⟩ := NatV.shape h0
 have z3 := NatV.cap h0
 refine calls_run Try.func155 rfl Try.ntmps155 (Nat.le_of_ble_eq_true rfl) ?_
 refine rsr ?_
 refine sbox 2 [.slice A1 (nw n) c2] h0L rfl rfl fun b6 L4 w5 o7 s8 h9 => ?_
 refine sv (Does.assign rfl) ?_
 refine nsr ?_
 refine sv (Does.load_ownN [.slice A1 (nw n) c2] o7 ty60 rfl rfl) ?_
 have q10 := up s8 h0
 refine scall (V := And2 (Is (n64 (if nw n ≤ 2 then n else 0))) (Is (.bool (decide (nw n ≤ 2))))) cal141 h9 rfl (nat_Uint h9 q10) fun v11 w12 q13 s14 h15 => ?_
 obtain ⟨v16, v17, rfl, q18, q19⟩ := q13
 have q18 := Is.out q18; subst q18
 have q19 := Is.out q19; subst q19
 refine sv (Does.move rfl) ?_
 refine sv (Does.extract rfl rfl) ?_
 refine sv (Does.extract rfl rfl) ?_
 refine sv (Does.assign rfl) ?_
 refine sv (Does.assign rfl) ?_
 refine Seq.next ?_
 refine Run.seq ?_
 refine rsr ?_
 refine sv (Does.move rfl) ?_
 refine sv (Does.not rfl) ?_
 refine sv (Does.move rfl) ?_
 rcases bdich (!(decide (nw n ≤ 2))) with hc1 | hc1
 ·refine Seq.guard_off' rfl rfl hc1 rfl (by decide) ?_
  refine Seq.guard_off' rfl rfl hc1 rfl (by decide) ?_
  refine sv (Does.pick_b rfl hc1 rfl) ?_
  refine sv (Does.move rfl) ?_
  refine Seq.guard_off' rfl rfl rfl rfl (by decide) ?_
  refine Seq.guard_off' rfl rfl rfl rfl (by decide) ?_
  refine sv (Does.pick_t rfl rfl) ?_
  refine Seq.next ?_
  refine Run.cond_b rfl rfl ?_
  refine rsr ?_
  refine sv (Does.assign rfl) ?_
  refine Seq.next ?_
  have c20 := s8.trans s14
  obtain ⟨⟨zU, zo⟩, zb⟩ := hX c20 (by decide)
  refine Run.ret (ret_then ?_)
  exact post_one Try.results155 rfl ⟨_, rfl, (isBool (by exact small_a hc1) _ _), zb⟩
 refine Seq.guard_on' rfl rfl hc1 ?_
 refine sv (Does.move rfl) ?_
 refine Seq.guard_on' rfl rfl hc1 ?_
 refine sv (Does.lss rfl rfl) ?_
 refine sv (Does.pick_b rfl hc1 rfl) ?_
 refine sv (Does.move rfl) ?_
 rcases Decidable.em (((if nw n ≤ 2 then n else 0 : Nat) : Int) < (2 : Int)) with hp2 | hp2
 ·refine Seq.guard_off' rfl rfl (decide_eq_true hp2) rfl (by decide) ?_
  refine Seq.guard_off' rfl rfl (decide_eq_true hp2) rfl (by decide) ?_
  refine sv (Does.pick_b rfl (decide_eq_true hp2) rfl) ?_
  refine Seq.next ?_
  refine Run.cond_b rfl rfl ?_
  refine rsr ?_
  refine sv (Does.assign rfl) ?_
  refine Seq.next ?_
  have c21 := s8.trans s14
  obtain ⟨⟨zU, zo⟩, zb⟩ := hX c21 (by decide)
  refine Run.ret (ret_then ?_)
  exact post_one Try.results155 rfl ⟨_, rfl, (isBool (by exact small_b hc1 hp2) _ _), zb⟩
 refine Seq.guard_on' rfl rfl (decide_eq_false hp2) ?_
 refine sv (Does.move rfl) ?_
 refine Seq.guard_on' rfl rfl (decide_eq_false hp2) ?_
 refine sv (Does.geq rfl rfl) ?_
 refine sv (Does.pick_b rfl (decide_eq_false hp2) rfl) ?_
 refine Seq.next ?_
 rcases Decidable.em ((65536 : Int) ≤ ((if nw n ≤ 2 then n else 0 : Nat) : Int)) with hp3 | hp3
 ·refine Run.cond_b rfl (decide_eq_true hp3) ?_
  refine rsr ?_
  refine sv (Does.assign rfl) ?_
  refine Seq.next ?_
  have c22 := s8.trans s14
  obtain ⟨⟨zU, zo⟩, zb⟩ := hX c22 (by decide)
  refine Run.ret (ret_then ?_)
  exact post_one Try.results155 rfl ⟨_, rfl, (isBool (by exact small_c hc1 hp3) _ _), zb⟩
 refine Run.cond_b rfl (decide_eq_false hp3) ?_
 refine Run.skip_go (fun _ _ h => h) ?_
 refine Run.seq ?_
 refine rsr ?_
 refine sv (Does.assign rfl) ?_
 refine Seq.next ?_
 refine Run.block ?_
 refine Run.loop (fun m' l' w' => ∃ (d : Nat) (lab' : Lab), m' = 300 - d ∧ l' = [(5, n64 d), (3, n64 (if nw n ≤ 2 then n else 0))] ∧ Valid lab' w' ∧ Stp [] L4 w12 lab' w' ∧ (2 ≤ d) ∧ (d ≤ 256) ∧ (∀ e, e < d → 2 ≤ e → n % e ≠ 0)) (300 - 2) (l0 := [(5, n64 2), (3, n64 (if nw n ≤ 2 then n else 0))]) ⟨rfl, rfl, trivial⟩ ⟨2, L4, rfl, rfl, h15, ((Stp.refl _ _).more (by simp)), (by omega), (by omega), (by omega)⟩ ?_
 intro m23 l24 w25 H26
 obtain ⟨d, lab27, hzm, rfl, hv28, s29, h2, hd, hall⟩ := H26
 replace hzm := hzm.symm; subst hzm
 refine Run.seq ?_
 refine rsr ?_
 refine sv (Does.move rfl) ?_
 refine sv (Does.move rfl) ?_
 refine sv (Does.n64_mul rfl rfl (by (have h9 := Nat.mul_le_mul hd hd; omega))) ?_
 refine sv (Does.move rfl) ?_
 refine sv (Does.leq rfl rfl) ?_
 refine Seq.next ?_
 rcases Decidable.em (((d * d : Nat) : Int) ≤ ((if nw n ≤ 2 then n else 0 : Nat) : Int)) with hp4 | hp4
 rotate_left
 ·refine Run.cond_b rfl (decide_eq_false hp4) ?_
  refine Run.exit_go (fun _ _ h => h) ?_
  refine rsr ?_
  refine sv (Does.assign rfl) ?_
  refine Seq.next ?_
  have c34 := s14.trans s29
  have c35 := s8.trans c34
  obtain ⟨⟨zU, zo⟩, zb⟩ := hX c35 (by decide)
  refine Run.ret ?_
  exact post_one Try.results155 rfl ⟨_, rfl, (isBool (by exact small_e hc1 hp2 hp3 hall hp4) _ _), zb⟩
 refine Run.cond_b rfl (decide_eq_true hp4) ?_
 refine Run.skip_go (fun _ _ h => h) ?_
 refine Run.seq ?_
 refine Run.block ?_
 refine rsr ?_
 refine sv (Does.move rfl) ?_
 refine sv (Does.move rfl) ?_
 refine sv (Does.n64_rem rfl rfl (by omega)) ?_
 refine sv (Does.eql rfl rfl) ?_
 refine Seq.next ?_
 rcases Decidable.em ((((if nw n ≤ 2 then n else 0) % d : Nat) : Int) = (0 : Int)) with hp5 | hp5
 ·refine Run.cond_b rfl (decide_eq_true hp5) ?_
  refine rsr ?_
  refine sv (Does.assign rfl) ?_
  refine Seq.next ?_
  have c30 := s14.trans s29
  have c31 := s8.trans c30
  obtain ⟨⟨zU, zo⟩, zb⟩ := hX c31 (by decide)
  refine Run.ret (ret_block (ret_then (ret_then (ret_block (ret_then ?_)))))
  exact post_one Try.results155 rfl ⟨_, rfl, (isBool (by exact small_d hc1 hp3 h2 hp4 hp5) _ _), zb⟩
 refine Run.cond_b rfl (decide_eq_false hp5) ?_
 refine Run.skip_go (fun _ _ h => h) ?_
 refine Run.region ?_
 refine sv (Does.move rfl) ?_
 refine sv (Does.n64_add (b := 1) rfl rfl (by omega)) ?_
 refine sv (Does.assign rfl) ?_
 exact Seq.nil (fun a32 h33 => ⟨_, by omega, _, h33.weaken (subs_lk (l' := [(5, n64 (d + 1)), (3, n64 (if nw n ≤ 2 then n else 0))]) ⟨(congrArg (fun z => some (n64 z)) (show (d + 1 : Nat) = (d + 1) from by rfl)), rfl, trivial⟩), ⟨d + 1, lab27, rfl, rfl, hv28, (s29.more (by decide)), (by omega), (by exact small_lt256 hc1 hp3 hp4), (by exact small_next hc1 hall hp5)⟩⟩)
theorem cert_known {lab : Lab} {w : World} (hv : Valid lab w) {n : Nat} {v0 : Value} (h0 : NatV n lab w v0) {behind : List Nat} {v1 : Value} (h1 : NatsV behind lab w v1) :
  Calls Try.prog 199 #[v0, v1] w (fun e w' => ∃ v, e = .returned v ∧ (Is (.bool (decide (knownP behind n)))) lab w' v ∧ Below w.heap.size w w') := by
 obtain ⟨L0, h0L, ⟨zU0, z00⟩, hX⟩ := enter0 hv
 replace h0 := up z00 h0
 obtain ⟨A1, c2, rfl⟩ := NatV.shape h0
 have z3 := NatV.cap h0
 replace h1 := up z00 h1
 obtain ⟨A4, c5, rfl⟩ := NatsV.shape h1
 have z6 := NatsV.cap h1
 refine calls_run Try.func199 rfl Try.ntmps199 (Nat.le_of_ble_eq_true rfl) ?_
 refine rsr ?_
 refine sbox 3 [.slice A1 (nw n) c2] h0L rfl rfl fun b9 L7 w8 o10 s11 h12 => ?_
 refine sv (Does.assign rfl) ?_
 refine Seq.next ?_
 refine Run.seq ?_
 refine rsr ?_
 refine sv (Does.move rfl) ?_
 refine sv (Does.len Try.underlying38 rfl) ?_
 refine sv (Does.move rfl) ?_
 refine Seq.next ?_
 refine Run.block ?_
 refine Run.loop (fun m' l' w' => ∃ (k : Nat) (lab' : Lab), m' = List.length behind - k ∧ l' = [(9, i64 ((k : Nat) : Int)), (2, .pointer (some ⟨b9, 0, none⟩)), (7, .slice A4 (List.length behind) c5), (8, i64 ((List.length behind : Nat) : Int))] ∧ Valid lab' w' ∧ Stp [7] L7 w8 lab' w' ∧ (k ≤ List.length behind) ∧ (∀ j, j < k → List.getD behind j 0 ≠ n)) (List.length behind - 0) (l0 := [(9, i64 ((0 : Nat) : Int)), (2, .pointer (some ⟨b9, 0, none⟩)), (7, .slice A4 (List.length behind) c5), (8, i64 ((List.length behind : Nat) : Int))]) ⟨(congrArg (fun z => some (i64 z)) (show (0 : Int) = ((0 : Nat) : Int) from by rfl)), rfl, rfl, rfl, trivial⟩ ⟨0, L7, rfl, rfl, h12, ((Stp.refl _ _).more (by simp)), (by omega), (by omega)⟩ ?_
 intro m13 l14 w15 H16
 obtain ⟨k, lab17, hzm, rfl, hv18, s19, hk, hall⟩ := H16
 replace hzm := hzm.symm; subst hzm
 refine rsr ?_
 refine sv (Does.lss rfl rfl) ?_
 refine Seq.next ?_
 refine Run.seq ?_
 rcases Decidable.em ((((k : Nat) : Int) : Int) < (((List.length behind : Nat) : Int) : Int)) with hp1 | hp1
 rotate_left
 ·refine Run.cond_b rfl (decide_eq_false hp1) ?_
  refine Run.exit_go (fun _ _ h => h) ?_
  refine rsr ?_
  have o56 := o10.up s19
  refine sv (Does.load_ownN [.slice A1 (nw n) c2] o56 ty60 rfl rfl) ?_
  have c57 := s11.trans s19
  have q58 := up c57 h0
  refine scall (V := Is (.bool (decide (smallP n)))) cal155 hv18 rfl (cert_Small hv18 q58) fun v59 w60 q61 s62 h63 => ?_
  have q61 := Is.out q61; subst q61
  refine sv (Does.assign rfl) ?_
  refine Seq.next ?_
  have c64 := c57.trans s62
  obtain ⟨⟨zU, zo⟩, zb⟩ := hX c64 (by decide)
  refine Run.ret ?_
  exact post_one Try.results199 rfl ⟨_, rfl, (isBool (by exact known_s hall (by omega)) _ _), zb⟩
 refine Run.cond_b rfl (decide_eq_true hp1) ?_
 refine Run.skip_go (fun _ _ h => h) ?_
 refine Run.seq ?_
 refine Run.block ?_
 refine rsr ?_
 have c26 := s11.trans s19
 have q27 := up c26 h1
 obtain ⟨vs20, u21, m22, r23, q24, q25⟩ := NatsV.at_ q27 k (by omega)
 obtain ⟨A28, c29, hz⟩ := NatV.shape q25; cases hz
 have z30 := NatV.cap q25
 refine sv (Does.index_row k Try.underlying38 ty60 rfl rfl r23 m22 (by omega) (by omega)) ?_
 refine sv (Does.load_rowN ty60 rfl r23 q24) ?_
 refine salloc 7 [.slice none 0 0] hv18 ty60 rfl fun b33 L31 w32 o34 s35 h36 => ?_
 refine sstore [.slice A28 (nw (List.getD behind k 0)) c29] h36 o34 ty60 rfl rfl rfl (Nat.le_of_ble_eq_true rfl) rfl rfl fun w37 o38 s39 h40 => ?_
 refine nsr ?_
 refine sv (Does.load_ownN [.slice A28 (nw (List.getD behind k 0)) c29] o38 ty60 rfl rfl) ?_
 have c42 := s35.trans s39
 have c43 := s19.trans c42
 have o41 := o10.up c43
 refine sv (Does.load_ownN [.slice A1 (nw n) c2] o41 ty60 rfl rfl) ?_
 have q44 := up c42 q25
 have c45 := c26.trans c42
 have q46 := up c45 h0
 refine scall (V := Is (i64 (cmpI (List.getD behind k 0) n))) cal34 h40 rfl (nat_Cmp h40 q44 q46) fun v47 w48 q49 s50 h51 => ?_
 have q49 := Is.out q49; subst q49
 refine sv (Does.eql rfl rfl) ?_
 refine Seq.next ?_
 rcases Decidable.em ((cmpI (List.getD behind k 0) n : Int) = (0 : Int)) with hp2 | hp2
 ·refine Run.cond_b rfl (decide_eq_true hp2) ?_
  refine rsr ?_
  refine sv (Does.assign rfl) ?_
  refine Seq.next ?_
  have c52 := c45.trans s50
  obtain ⟨⟨zU, zo⟩, zb⟩ := hX c52 (by decide)
  refine Run.ret (ret_block (ret_then (ret_then (ret_block (ret_then ?_)))))
  exact post_one Try.results199 rfl ⟨_, rfl, (isBool (by exact known_t (by omega) hp2) _ _), zb⟩
 refine Run.cond_b rfl (decide_eq_false hp2) ?_
 refine Run.skip_go (fun _ _ h => h) ?_
 refine Run.region ?_
 refine sv (Does.add rfl rfl (by omega)) ?_
 refine sv (Does.move rfl) ?_
 have c53 := c43.trans s50
 exact Seq.nil (fun a54 h55 => ⟨_, by omega, _, h55.weaken (subs_lk (l' := [(9, i64 (((k + 1) : Nat) : Int)), (2, .pointer (some ⟨b9, 0, none⟩)), (7, .slice A4 (List.length behind) c5), (8, i64 ((List.length behind : Nat) : Int))]) ⟨(congrArg (fun z => some (i64 z)) (show (((k : Nat) : Int) + 1 : Int) = (((k + 1) : Nat) : Int) from by rfl)), rfl, rfl, rfl, trivial⟩), ⟨k + 1, L31, rfl, rfl, h51, (c53.more (by decide)), (by omega), (by exact known_next hall hp2)⟩⟩)
theorem cert_power {lab : Lab} {w : World} (hv : Valid lab w) {n : Nat} {v0 : Value} (h0 : NatV n lab w v0) {p : Nat} {v1 : Value} (h1 : NatV p lab w v1) (h0n : n ≠ 0) (h2p : 2 ≤ p) (hn : nw n ≤ 900000) (hp : nw p ≤ 900000) :
  Calls Try.prog 200 #[v0, v1] w (fun e w' => ∃ v, e = .returned v ∧ (NatV (powD n p)) lab w' v ∧ Below w.heap.size w w') := by
 obtain ⟨L0, h0L, ⟨zU0, z00⟩, hX⟩ := enter0 hv
 replace h0 := up z00 h0
 obtain ⟨A1, c2, rfl⟩ := NatV.shape h0
 have z3 := NatV.cap h0
 replace h1 := up z00 h1
 obtain ⟨A4, c5, rfl⟩ := NatV.shape h1
 have z6 := NatV.cap h1
 refine calls_run Try.func200 rfl Try.ntmps200 (Nat.le_of_ble_eq_true rfl) ?_
 refine rsr ?_
 refine sbox 3 [.slice A1 (nw n) c2] h0L rfl rfl fun b9 L7 w8 o10 s11 h12 => ?_
 refine sbox 4 [.slice A4 (nw p) c5] h12 rfl rfl fun b15 L13 w14 o16 s17 h18 => ?_
 refine salloc 5 [.slice none 0 0] h18 ty60 rfl fun b21 L19 w20 o22 s23 h24 => ?_
 refine nsr ?_
 refine scall (V := NatV 1) cal32 h24 rfl (nat_New h24 (x := 1) (show 1 < 18446744073709551616 from by omega)) fun v25 w26 q27 s28 h29 => ?_
 obtain ⟨A30, c31, rfl⟩ := NatV.shape q27
 have z32 := NatV.cap q27
 refine salloc 6 [.slice none 0 0] h29 ty60 rfl fun b35 L33 w34 o36 s37 h38 => ?_
 refine sstore [.slice A30 (nw 1) c31] h38 o36 ty60 rfl rfl rfl (Nat.le_of_ble_eq_true rfl) rfl rfl fun w39 o40 s41 h42 => ?_
 refine Seq.next ?_
 refine Run.seq ?_
 refine Run.block ?_
 have c44 := s37.trans s41
 have c45 := s28.trans c44
 have c46 := s23.trans c45
 have c47 := s17.trans c46
 have o43 := o10.up c47
 have c48 := s11.trans c47
 have q49 := up c48 h0
 have q50 := up c44 q27
 refine Run.loop (fun m' l' w' => ∃ (m : Nat) (o : Nat) (lab' : Lab) (ub3 : Value) (ub6 : Value), m' = m ∧ l' = [(2, .pointer (some ⟨b9, 0, none⟩)), (3, .pointer (some ⟨b15, 0, none⟩)), (4, .pointer (some ⟨b21, 0, none⟩)), (5, .pointer (some ⟨b35, 0, none⟩))] ∧ Valid lab' w' ∧ Stp [3, 6, 7, 8] L33 w39 lab' w' ∧ Own lab' w' 3 b9 60 #[ub3] ∧ NatV m lab' w' (.agg #[ub3]) ∧ Own lab' w' 6 b35 60 #[ub6] ∧ NatV o lab' w' (.agg #[ub6]) ∧ (m ≠ 0) ∧ (o * m = n) ∧ (o * pw m p = pw n p)) (n) (l0 := [(2, .pointer (some ⟨b9, 0, none⟩)), (3, .pointer (some ⟨b15, 0, none⟩)), (4, .pointer (some ⟨b21, 0, none⟩)), (5, .pointer (some ⟨b35, 0, none⟩))]) ⟨rfl, rfl, rfl, rfl, trivial⟩ ⟨n, 1, L33, (.slice A1 (nw n) c2), (.slice A30 (nw 1) c31), rfl, rfl, h42, ((Stp.refl _ _).more (by simp)), o43, q49, o40, q50, (by omega), (by omega), (by omega)⟩ ?_
 intro m51 l52 w53 H54
 obtain ⟨m, o, lab55, u58, u59, hzm, rfl, hv56, s57, o60, q62, o61, q63, hm, hmo, hpw⟩ := H54
 replace hzm := hzm.symm; subst hzm
 obtain ⟨A64, c65, hz⟩ := NatV.shape q62; cases hz
 obtain ⟨A66, c67, hz⟩ := NatV.shape q63; cases hz
 have hl := pow_le1 hmo hm h0n
 have hl1 := nw_mono hl.1
 have hl2 := nw_mono hl.2
 refine Run.block ?_
 refine rsr ?_
 refine sv (Does.load_ownN [.slice A64 (nw m) c65] o60 ty60 rfl rfl) ?_
 have c69 := c46.trans s57
 have o68 := o16.up c69
 refine sv (Does.load_ownN [.slice A4 (nw p) c5] o68 ty60 rfl rfl) ?_
 have c70 := c48.trans s57
 have q71 := up c70 h1
 refine scall (V := And3 (NatV (m / p)) (NatV (if p = 0 then 0 else m % p)) (Is (i64 (if p = 0 then 5 else 0)))) cal112 hv56 rfl (nat_Div hv56 q62 q71 (show nw m ≤ 999999 from by omega) (show nw p ≤ 1000000 from by omega)) fun v72 w73 q74 s75 h76 => ?_
 obtain ⟨v77, v78, v79, rfl, q80, q81, q82⟩ := q74
 obtain ⟨A83, c84, rfl⟩ := NatV.shape q80
 have z85 := NatV.cap q80
 obtain ⟨A86, c87, rfl⟩ := NatV.shape q81
 have z88 := NatV.cap q81
 have q82 := Is.out q82; subst q82
 refine sv (Does.move rfl) ?_
 refine sv (Does.extract rfl rfl) ?_
 refine sv (Does.extract rfl rfl) ?_
 refine sv (Does.extract rfl rfl) ?_
 refine salloc 7 [.slice none 0 0] h76 ty60 rfl fun b91 L89 w90 o92 s93 h94 => ?_
 refine salloc 8 [.slice none 0 0] h94 ty60 rfl fun b97 L95 w96 o98 s99 h100 => ?_
 have o101 := o92.up s99
 refine sstore [.slice A83 (nw (m / p)) c84] h100 o101 ty60 rfl rfl rfl (Nat.le_of_ble_eq_true rfl) rfl rfl fun w102 o103 s104 h105 => ?_
 have o106 := o98.up s104
 refine sstore [.slice A86 (nw (if p = 0 then 0 else m % p)) c87] h105 o106 ty60 rfl rfl rfl (Nat.le_of_ble_eq_true rfl) rfl rfl fun w107 o108 s109 h110 => ?_
 refine sv (Does.assign rfl) ?_
 refine Seq.next ?_
 refine Run.seq ?_
 refine rsr ?_
 refine sv (Does.load_ownN [.slice A86 (nw (if p = 0 then 0 else m % p)) c87] o108 ty60 rfl rfl) ?_
 have c111 := s104.trans s109
 have c112 := s99.trans c111
 have c113 := s93.trans c112
 have q114 := up c113 q81
 refine scall (V := Is (.bool (decide ((if p = 0 then 0 else m % p) = 0)))) cal48 h110 rfl (nat_Zero h110 q114) fun v115 w116 q117 s118 h119 => ?_
 have q117 := Is.out q117; subst q117
 refine sv (Does.not rfl) ?_
 refine Seq.next ?_
 rcases bdich (!(decide ((if p = 0 then 0 else m % p) = 0))) with hc1 | hc1
 ·refine Run.cond_b rfl hc1 ?_
  refine Run.exit_go (fun _ _ h => h) ?_
  refine Run.seq ?_
  refine Run.seq ?_
  refine Run.open 4 (Φ := [.ex (.agg #[.slice A66 (nw o) c67]), .v (NatV 1), .v (Is (i64 (cmpI o 1))), .ex (.bool (decide ((cmpI o 1 : Int) = (0 : Int))))]) [(3, 27)] mixed (by kernel_rfl) rfl h119 ⟨?_, ?_, ?_, ?_, trivial⟩ (fun L151 w152 h153 s154 => ?_)
  ·refine oP [] rfl rfl fun L120 w121 h122 s123 => ?_
   have c125 := s118.trans s123
   have c126 := c113.trans c125
   have c127 := s75.trans c126
   have o124 := o61.up c127
   exact ⟨_, Does.load_ownN [.slice A66 (nw o) c67] o124 ty60 rfl rfl, rfl⟩
  ·refine oC [] rfl rfl cal32 fun L128 w129 h130 s131 => ?_
   exact ⟨_, rfl, (nat_New h130 (x := 1) (show 1 < 18446744073709551616 from by omega))⟩
  ·refine oC [(0, 24), (1, 25)] rfl rfl cal34 fun L132 w133 h134 s135 v136 q137 => ?_
   obtain ⟨A138, c139, rfl⟩ := NatV.shape q137
   have z140 := NatV.cap q137
   have c141 := s118.trans s135
   have c142 := c113.trans c141
   have c143 := s75.trans c142
   have q144 := up c143 q63
   exact ⟨_, rfl, (nat_Cmp h134 q144 q137)⟩
  ·refine oP [(2, 26)] rfl rfl fun L145 w146 h147 s148 v149 q150 => ?_
   have q150 := Is.out q150; subst q150
   exact ⟨_, Does.eql rfl rfl, rfl⟩
  refine Seq.next ?_
  rcases Decidable.em ((cmpI o 1 : Int) = (0 : Int)) with hp2 | hp2
  ·refine Run.cond_b rfl (decide_eq_true hp2) ?_
   refine rsr ?_
   refine sv (Does.build [] [(0, 1)] [.slice none 0 0] Try.underlying60 ty60 (by kernel_rfl) rfl (by kernel_rfl)) ?_
   have c156 := s118.trans s154
   have c157 := c113.trans c156
   have c158 := s75.trans c157
   have c159 := s57.trans c158
   have c160 := c45.trans c159
   have o155 := o22.up c160
   refine sstore [.slice none 0 0] h153 o155 ty60 rfl rfl rfl (Nat.le_of_ble_eq_true rfl) rfl rfl fun w161 o162 s163 h164 => ?_
   refine Seq.next ?_
   have c165 := c158.trans s163
   have c166 := c70.trans c165
   obtain ⟨⟨zU, zo⟩, zb⟩ := hX c166 (by decide)
   have q167 := up s163 (NatV.zero L151 w152)
   refine Run.ret (ret_then ?_)
   exact post_one Try.results200 ⟨_, rfl, Own.loadN [.slice none 0 0] o162 ty60 rfl⟩ ⟨_, rfl, (NatV.cast (by exact pow_a h2p hm hpw hc1 hp2) (up zo q167)), zb⟩
  refine Run.cond_b rfl (decide_eq_false hp2) ?_
  refine Run.skip_go (fun _ _ h => h) ?_
  refine rsr ?_
  have c169 := s118.trans s154
  have c170 := c113.trans c169
  have c171 := s75.trans c170
  have o168 := o61.up c171
  refine sv (Does.load_ownN [.slice A66 (nw o) c67] o168 ty60 rfl rfl) ?_
  have c173 := s57.trans c171
  have c174 := c45.trans c173
  have o172 := o22.up c174
  refine sstore [.slice A66 (nw o) c67] h153 o172 ty60 rfl rfl rfl (Nat.le_of_ble_eq_true rfl) rfl rfl fun w175 o176 s177 h178 => ?_
  refine Seq.next ?_
  have c179 := c171.trans s177
  have c180 := c70.trans c179
  obtain ⟨⟨zU, zo⟩, zb⟩ := hX c180 (by decide)
  have q181 := up c179 q63
  refine Run.ret ?_
  exact post_one Try.results200 ⟨_, rfl, Own.loadN [.slice A66 (nw o) c67] o176 ty60 rfl⟩ ⟨_, rfl, (NatV.cast (by exact pow_b h2p hm hpw hc1 hp2) (up zo q181)), zb⟩
 refine Run.cond_b rfl hc1 ?_
 refine Run.skip_go (fun _ _ h => h) ?_
 refine Run.many [⟨20, .ex (.agg #[.slice A66 (nw o) c67]), [], none⟩, ⟨21, .ex (.agg #[.slice A4 (nw p) c5]), [], none⟩, ⟨22, .v (NatV (o * p)), [], none⟩, ⟨23, .ex (.agg #[.slice A83 (nw (m / p)) c84]), [], none⟩, ⟨5, .v (BoxB b35 6 60 (NatV (o * p))), [6], none⟩] [3, 4] [[], [], [], [6], []] mixed (by kernel_rfl) (by kernel_rfl) rfl h119 ⟨stay_ex, stay_ex, stay_v, stay_ex, stay_boxB rfl, trivial⟩ ⟨?_, ?_, ?_, ?_, ?_, trivial⟩ (fun L232 w233 h234 s235 v236 q237 => ?_)
 ·refine rP [] rfl rfl rfl rfl fun L182 w183 h184 s185 => ?_
  replace s185 : Stp [] _ _ _ _ := s185
  have c187 := s118.trans s185
  have c188 := c113.trans c187
  have c189 := s75.trans c188
  have o186 := o61.up c189
  exact ⟨_, Does.load_ownN [.slice A66 (nw o) c67] o186 ty60 rfl rfl, rfl⟩
 ·refine rP [] rfl rfl rfl rfl fun L190 w191 h192 s193 => ?_
  replace s193 : Stp [] _ _ _ _ := s193
  have c195 := s118.trans s193
  have c196 := c113.trans c195
  have c197 := s75.trans c196
  have o194 := o68.up c197
  exact ⟨_, Does.load_ownN [.slice A4 (nw p) c5] o194 ty60 rfl rfl, rfl⟩
 ·refine rC [0, 1] rfl rfl rfl rfl cal116 fun L198 w199 h200 s201 => ?_
  replace s201 : Stp [] _ _ _ _ := s201
  have c202 := s118.trans s201
  have c203 := c113.trans c202
  have c204 := s75.trans c203
  have q205 := up c204 q63
  have q206 := up c204 q71
  exact ⟨_, rfl, (nat_Mul h200 q205 q206 (show nw o ≤ 1000000 from by omega) (show nw p ≤ 1000000 from by omega))⟩
 ·refine rP [] rfl rfl rfl rfl fun L207 w208 h209 s210 => ?_
  replace s210 : Stp [6] _ _ _ _ := s210
  have c212 := s118.trans s210
  have c213 := s109.trans c212
  have o211 := o103.up c213
  exact ⟨_, Does.load_ownN [.slice A83 (nw (m / p)) c84] o211 ty60 rfl rfl, rfl⟩
 ·refine rS [2] rfl rfl rfl fun L214 w215 h216 s217 v218 q219 => ?_
  replace s217 : Stp [] _ _ _ _ := s217
  obtain ⟨A220, c221, rfl⟩ := NatV.shape q219
  have z222 := NatV.cap q219
  have c224 := s118.trans s217
  have c225 := c113.trans c224
  have c226 := s75.trans c225
  have o223 := o61.up c226
  refine store_goR (v := (.agg #[.slice A220 (nw (o * p)) c221])) [.slice A220 (nw (o * p)) c221] h216 o223 ty60 rfl rfl rfl (Nat.le_of_ble_eq_true rfl) rfl rfl fun w227 s230 o231 => ?_
  exact ⟨(.agg #[.slice A220 (nw (o * p)) c221]), rfl, o231, (up s230 q219)⟩
 replace s235 : Stp [6] _ _ _ _ := s235
 obtain ⟨u239, rfl, o240, q241⟩ := q237
 obtain ⟨A242, c243, rfl⟩ := NatV.shape q241
 have z244 := NatV.cap q241
 replace o240 : Own L232 w233 6 b35 60 #[.slice A242 (nw (o * p)) c243] := o240
 have c246 := s118.trans s235
 have c247 := c113.trans c246
 have c248 := s75.trans c247
 have o245 := o60.up c248
 refine sstore [.slice A83 (nw (m / p)) c84] h234 o245 ty60 rfl rfl rfl (Nat.le_of_ble_eq_true rfl) rfl rfl fun w249 o250 s251 h252 => ?_
 have c253 := c247.trans s251
 have q254 := up c253 q80
 have o255 := o240.up s251
 have q256 := up s251 q241
 have c257 := c248.trans s251
 have c258 := s57.trans c257
 exact Seq.nil (fun a259 h260 => ⟨_, by exact Nat.div_lt_self (by omega) (by omega), _, h260.weaken (subs_lk (l' := [(2, .pointer (some ⟨b9, 0, none⟩)), (3, .pointer (some ⟨b15, 0, none⟩)), (4, .pointer (some ⟨b21, 0, none⟩)), (5, .pointer (some ⟨b35, 0, none⟩))]) ⟨rfl, rfl, rfl, rfl, trivial⟩), ⟨m / p, o * p, L232, (.slice A83 (nw (m / p)) c84), (.slice A242 (nw (o * p)) c243), rfl, rfl, h252, (c258.more (by decide)), o250, (NatV.cast (show (m / p) = (m / p) from by rfl) q254), o255, (NatV.cast (show (o * p) = (o * p) from by rfl) q256), (by exact div_ne hm (pow_dv hc1 h2p)), (by exact pow_mo hmo (pow_dv hc1 h2p)), (by exact pow_pw h2p hm hpw (pow_dv hc1 h2p))⟩⟩)
end Go.Proofs.Ytgfomedobfaidaa
end
section
set_option linter.unusedVariables false
set_option linter.unusedSimpArgs false
namespace Go.Proofs.Ytgfomedobfaidaa
open Go.RowKit
theorem nat_SubLe {lab : Lab} {w : World} (hv : Valid lab w) {a : Nat} {v0 : Value} (h0 : NatV a lab w v0) {b : Nat} {v1 : Value} (h1 : NatV b lab w v1) (ha : nw a ≤ 1000000) (hb : nw b ≤ 1000000) (hab : b ≤ a) :
  Calls Try.prog 111 #[v0, v1] w (fun e w' => ∃ v, e = .returned v ∧ (And2 (NatV (a - b)) (Is (.bool (true)))) lab w' v ∧ Below w.heap.size w w') := by
 have h := nat_Sub hv h0 h1 ha hb
 rw [if_neg (by omega), decide_eq_true hab] at h
 exact h
theorem nat_DivNz {lab : Lab} {w : World} (hv : Valid lab w) {a : Nat} {v0 : Value} (h0 : NatV a lab w v0) {b : Nat} {v1 : Value} (h1 : NatV b lab w v1) (ha : nw a ≤ 999999) (hb : nw b ≤ 1000000) (hb0 : b ≠ 0) :
  Calls Try.prog 112 #[v0, v1] w (fun e w' => ∃ v, e = .returned v ∧ (And3 (NatV (a / b)) (NatV (a % b)) (Is (i64 0))) lab w' v ∧ Below w.heap.size w w') := by
 have h := nat_Div hv h0 h1 ha hb
 rw [if_neg hb0, if_neg hb0] at h
 exact h
end Go.Proofs.Ytgfomedobfaidaa
end
section
set_option linter.unusedVariables false
set_option linter.unusedSimpArgs false
set_option maxRecDepth 100000
namespace Go.Proofs.Ytgfomedobfaidaa
open Go.RowKit
set_option maxHeartbeats 4000000 in
theorem cert_Holds {lab : Lab} {w : World} (hv : Valid lab w) {s : StepD} {v0 : Value} (h0 : StepV s lab w v0) {behind : List Nat} {v1 : Value} (h1 : NatsV behind lab w v1) (hn : nw s.n ≤ 32) (hb : nw s.base ≤ 32) (hps : ∀ x ∈ s.primes, nw x ≤ 32) :
  Calls Try.prog 183 #[v0, v1] w (fun e w' => ∃ v, e = .returned v ∧ (Is (.bool (decide (HoldsP s behind)))) lab w' v ∧ Below w.heap.size w w') := by
 obtain ⟨L0, h0L, ⟨zU0, z00⟩, hX⟩ := enter0 hv
 replace h0 := up z00 h0
 obtain ⟨A1, c2, A4, c5, A7, c8, rfl, q3, q6, q9⟩ := StepV.open h0
 have z10 := NatV.cap q3
 have z11 := NatV.cap q6
 have z12 := NatsV.cap q9
 replace h1 := up z00 h1
 obtain ⟨A13, c14, rfl⟩ := NatsV.shape h1
 have z15 := NatsV.cap h1
 have n1 : nw 1 = 1 := nw_one
 refine calls_run Try.func183 rfl Try.ntmps183 (Nat.le_of_ble_eq_true rfl) ?_
 refine rsr ?_
 refine sbox 3 [.slice A1 (nw s.n) c2, .slice A4 (nw s.base) c5, .slice A7 (List.length s.primes) c8] h0L rfl rfl fun b18 L16 w17 o19 s20 h21 => ?_
 refine sv (Does.assign rfl) ?_
 refine nsr ?_
 refine scall (V := NatV 1) cal32 h21 rfl (nat_New h21 (x := 1) (show 1 < 18446744073709551616 from by omega)) fun v22 w23 q24 s25 h26 => ?_
 obtain ⟨A27, c28, rfl⟩ := NatV.shape q24
 have z29 := NatV.cap q24
 refine salloc 6 [.slice none 0 0] h26 ty60 rfl fun b32 L30 w31 o33 s34 h35 => ?_
 refine sstore [.slice A27 (nw 1) c28] h35 o33 ty60 rfl rfl rfl (Nat.le_of_ble_eq_true rfl) rfl rfl fun w36 o37 s38 h39 => ?_
 refine Seq.next ?_
 refine Run.seq ?_
 refine Run.seq ?_
 rcases Decidable.em ((cmpI s.n 2 : Int) < (0 : Int)) with hp1 | hp1
 ·refine Run.open 17 (Φ := [.ex (.pointer (some ⟨b18, 0, none⟩)), .ex (.agg #[.slice A1 (nw s.n) c2]), .v (NatV 2), .v (Is (i64 (cmpI s.n 2))), .ex (.bool (decide ((cmpI s.n 2 : Int) < (0 : Int)))), .ex (.bool (decide ((cmpI s.n 2 : Int) < (0 : Int)))), .ex undef, .ex undef, .ex undef, .ex undef, .ex (.bool true), .ex (.bool true), .ex undef, .ex undef, .ex undef, .ex undef, .ex (.bool true)]) [(16, 36)] mixed (by kernel_rfl) rfl h39 ⟨(oX [] rfl rfl rfl fun _ _ => Does.fieldAddr' 0 Try.underlying77 rfl ty60 rfl rfl), ?_, ?_, ?_, ?_, (oX [(4, 24)] rfl rfl rfl fun _ _ => Does.move rfl), (oOff rfl rfl rfl rfl (decide_eq_true hp1) rfl rfl), (oOff rfl rfl rfl rfl (decide_eq_true hp1) rfl rfl), (oOff rfl rfl rfl rfl (decide_eq_true hp1) rfl rfl), (oOff rfl rfl rfl rfl (decide_eq_true hp1) rfl rfl), (oX [(5, 25)] rfl rfl rfl fun _ _ => Does.pick_b rfl (decide_eq_true hp1) rfl), (oX [(10, 30)] rfl rfl rfl fun _ _ => Does.move rfl), (oOff rfl rfl rfl rfl rfl rfl rfl), (oOff rfl rfl rfl rfl rfl rfl rfl), (oOff rfl rfl rfl rfl rfl rfl rfl), (oOff rfl rfl rfl rfl rfl rfl rfl), (oX [(11, 31)] rfl rfl rfl fun _ _ => Does.pick_t rfl rfl), trivial⟩ (fun L132 w133 h134 s135 => ?_)
  ·refine oP [(0, 20)] rfl rfl fun L84 w85 h86 s87 => ?_
   have c89 := s38.trans s87
   have c90 := s34.trans c89
   have c91 := s25.trans c90
   have o88 := o19.up c91
   exact ⟨_, Does.load_ownN [.slice A1 (nw s.n) c2] o88 ty60 rfl rfl, rfl⟩
  ·refine oC [] rfl rfl cal32 fun L92 w93 h94 s95 => ?_
   exact ⟨_, rfl, (nat_New h94 (x := 2) (show 2 < 18446744073709551616 from by omega))⟩
  ·refine oC [(1, 21), (2, 22)] rfl rfl cal34 fun L96 w97 h98 s99 v100 q101 => ?_
   obtain ⟨A102, c103, rfl⟩ := NatV.shape q101
   have z104 := NatV.cap q101
   have c105 := s38.trans s99
   have c106 := s34.trans c105
   have c107 := s25.trans c106
   have c108 := s20.trans c107
   have q109 := up c108 q3
   exact ⟨_, rfl, (nat_Cmp h98 q109 q101)⟩
  ·refine oP [(3, 23)] rfl rfl fun L110 w111 h112 s113 v114 q115 => ?_
   have q115 := Is.out q115; subst q115
   exact ⟨_, Does.lss rfl rfl, rfl⟩
  refine Seq.next ?_
  refine Run.cond_b rfl rfl ?_
  refine rsr ?_
  refine sv (Does.assign rfl) ?_
  refine Seq.next ?_
  have c136 := s38.trans s135
  have c137 := s34.trans c136
  have c138 := s25.trans c137
  have c139 := s20.trans c138
  obtain ⟨⟨zU, zo⟩, zb⟩ := hX c139 (by decide)
  refine Run.ret (ret_then ?_)
  exact post_one Try.results183 rfl ⟨_, rfl, (isBool (by exact holds_f1 hp1) _ _), zb⟩
 rcases Decidable.em ((((List.length s.primes : Nat) : Int) : Int) < (1 : Int)) with hp2 | hp2
 ·refine Run.open 17 (Φ := [.ex (.pointer (some ⟨b18, 0, none⟩)), .ex (.agg #[.slice A1 (nw s.n) c2]), .v (NatV 2), .v (Is (i64 (cmpI s.n 2))), .ex (.bool (decide ((cmpI s.n 2 : Int) < (0 : Int)))), .ex (.bool (decide ((cmpI s.n 2 : Int) < (0 : Int)))), .ex (.pointer (some ⟨b18, 2, none⟩)), .ex (.slice A7 (List.length s.primes) c8), .ex (i64 ((List.length s.primes : Nat) : Int)), .ex (.bool (decide ((((List.length s.primes : Nat) : Int) : Int) < (1 : Int)))), .ex (.bool (decide ((((List.length s.primes : Nat) : Int) : Int) < (1 : Int)))), .ex (.bool (decide ((((List.length s.primes : Nat) : Int) : Int) < (1 : Int)))), .ex undef, .ex undef, .ex undef, .ex undef, .ex (.bool true)]) [(16, 36)] mixed (by kernel_rfl) rfl h39 ⟨(oX [] rfl rfl rfl fun _ _ => Does.fieldAddr' 0 Try.underlying77 rfl ty60 rfl rfl), ?_, ?_, ?_, ?_, (oX [(4, 24)] rfl rfl rfl fun _ _ => Does.move rfl), ?_, ?_, ?_, ?_, (oX [(5, 25), (9, 29)] rfl rfl rfl fun _ _ => Does.pick_b rfl (decide_eq_false hp1) rfl), (oX [(10, 30)] rfl rfl rfl fun _ _ => Does.move rfl), (oOff rfl rfl rfl rfl (decide_eq_true hp2) rfl rfl), (oOff rfl rfl rfl rfl (decide_eq_true hp2) rfl rfl), (oOff rfl rfl rfl rfl (decide_eq_true hp2) rfl rfl), (oOff rfl rfl rfl rfl (decide_eq_true hp2) rfl rfl), (oX [(11, 31)] rfl rfl rfl fun _ _ => Does.pick_b rfl (decide_eq_true hp2) rfl), trivial⟩ (fun L280 w281 h282 s283 => ?_)
  ·refine oP [(0, 20)] rfl rfl fun L212 w213 h214 s215 => ?_
   have c217 := s38.trans s215
   have c218 := s34.trans c217
   have c219 := s25.trans c218
   have o216 := o19.up c219
   exact ⟨_, Does.load_ownN [.slice A1 (nw s.n) c2] o216 ty60 rfl rfl, rfl⟩
  ·refine oC [] rfl rfl cal32 fun L220 w221 h222 s223 => ?_
   exact ⟨_, rfl, (nat_New h222 (x := 2) (show 2 < 18446744073709551616 from by omega))⟩
  ·refine oC [(1, 21), (2, 22)] rfl rfl cal34 fun L224 w225 h226 s227 v228 q229 => ?_
   obtain ⟨A230, c231, rfl⟩ := NatV.shape q229
   have z232 := NatV.cap q229
   have c233 := s38.trans s227
   have c234 := s34.trans c233
   have c235 := s25.trans c234
   have c236 := s20.trans c235
   have q237 := up c236 q3
   exact ⟨_, rfl, (nat_Cmp h226 q237 q229)⟩
  ·refine oP [(3, 23)] rfl rfl fun L238 w239 h240 s241 v242 q243 => ?_
   have q243 := Is.out q243; subst q243
   exact ⟨_, Does.lss rfl rfl, rfl⟩
  ·refine oP_on [] rfl rfl rfl rfl (decide_eq_false hp1) rfl fun L248 w249 h250 s251 => ?_
   exact ⟨_, Does.fieldAddr' 2 Try.underlying77 rfl ty38 rfl rfl, rfl⟩
  ·refine oP_on [(6, 26)] rfl rfl rfl rfl (decide_eq_false hp1) rfl fun L252 w253 h254 s255 => ?_
   have c257 := s38.trans s255
   have c258 := s34.trans c257
   have c259 := s25.trans c258
   have o256 := o19.up c259
   exact ⟨_, Does.load_own1 o256 ty38 rfl rfl, rfl⟩
  ·refine oP_on [(7, 27)] rfl rfl rfl rfl (decide_eq_false hp1) rfl fun L260 w261 h262 s263 => ?_
   exact ⟨_, Does.len Try.underlying38 rfl, rfl⟩
  ·refine oP_on [(8, 28)] rfl rfl rfl rfl (decide_eq_false hp1) rfl fun L264 w265 h266 s267 => ?_
   exact ⟨_, Does.lss rfl rfl, rfl⟩
  refine Seq.next ?_
  refine Run.cond_b rfl rfl ?_
  refine rsr ?_
  refine sv (Does.assign rfl) ?_
  refine Seq.next ?_
  have c284 := s38.trans s283
  have c285 := s34.trans c284
  have c286 := s25.trans c285
  have c287 := s20.trans c286
  obtain ⟨⟨zU, zo⟩, zb⟩ := hX c287 (by decide)
  refine Run.ret (ret_then ?_)
  exact post_one Try.results183 rfl ⟨_, rfl, (isBool (by exact holds_f2 hp2) _ _), zb⟩
 refine Run.open 17 (Φ := [.ex (.pointer (some ⟨b18, 0, none⟩)), .ex (.agg #[.slice A1 (nw s.n) c2]), .v (NatV 2), .v (Is (i64 (cmpI s.n 2))), .ex (.bool (decide ((cmpI s.n 2 : Int) < (0 : Int)))), .ex (.bool (decide ((cmpI s.n 2 : Int) < (0 : Int)))), .ex (.pointer (some ⟨b18, 2, none⟩)), .ex (.slice A7 (List.length s.primes) c8), .ex (i64 ((List.length s.primes : Nat) : Int)), .ex (.bool (decide ((((List.length s.primes : Nat) : Int) : Int) < (1 : Int)))), .ex (.bool (decide ((((List.length s.primes : Nat) : Int) : Int) < (1 : Int)))), .ex (.bool (decide ((((List.length s.primes : Nat) : Int) : Int) < (1 : Int)))), .ex (.pointer (some ⟨b18, 2, none⟩)), .ex (.slice A7 (List.length s.primes) c8), .ex (i64 ((List.length s.primes : Nat) : Int)), .ex (.bool (decide ((32 : Int) < (((List.length s.primes : Nat) : Int) : Int)))), .ex (.bool (decide ((32 : Int) < (((List.length s.primes : Nat) : Int) : Int))))]) [(16, 36)] mixed (by kernel_rfl) rfl h39 ⟨(oX [] rfl rfl rfl fun _ _ => Does.fieldAddr' 0 Try.underlying77 rfl ty60 rfl rfl), ?_, ?_, ?_, ?_, (oX [(4, 24)] rfl rfl rfl fun _ _ => Does.move rfl), ?_, ?_, ?_, ?_, (oX [(5, 25), (9, 29)] rfl rfl rfl fun _ _ => Does.pick_b rfl (decide_eq_false hp1) rfl), (oX [(10, 30)] rfl rfl rfl fun _ _ => Does.move rfl), ?_, ?_, ?_, ?_, (oX [(11, 31), (15, 35)] rfl rfl rfl fun _ _ => Does.pick_b rfl (decide_eq_false hp2) rfl), trivial⟩ (fun L380 w381 h382 s383 => ?_)
 ·refine oP [(0, 20)] rfl rfl fun L292 w293 h294 s295 => ?_
  have c297 := s38.trans s295
  have c298 := s34.trans c297
  have c299 := s25.trans c298
  have o296 := o19.up c299
  exact ⟨_, Does.load_ownN [.slice A1 (nw s.n) c2] o296 ty60 rfl rfl, rfl⟩
 ·refine oC [] rfl rfl cal32 fun L300 w301 h302 s303 => ?_
  exact ⟨_, rfl, (nat_New h302 (x := 2) (show 2 < 18446744073709551616 from by omega))⟩
 ·refine oC [(1, 21), (2, 22)] rfl rfl cal34 fun L304 w305 h306 s307 v308 q309 => ?_
  obtain ⟨A310, c311, rfl⟩ := NatV.shape q309
  have z312 := NatV.cap q309
  have c313 := s38.trans s307
  have c314 := s34.trans c313
  have c315 := s25.trans c314
  have c316 := s20.trans c315
  have q317 := up c316 q3
  exact ⟨_, rfl, (nat_Cmp h306 q317 q309)⟩
 ·refine oP [(3, 23)] rfl rfl fun L318 w319 h320 s321 v322 q323 => ?_
  have q323 := Is.out q323; subst q323
  exact ⟨_, Does.lss rfl rfl, rfl⟩
 ·refine oP_on [] rfl rfl rfl rfl (decide_eq_false hp1) rfl fun L328 w329 h330 s331 => ?_
  exact ⟨_, Does.fieldAddr' 2 Try.underlying77 rfl ty38 rfl rfl, rfl⟩
 ·refine oP_on [(6, 26)] rfl rfl rfl rfl (decide_eq_false hp1) rfl fun L332 w333 h334 s335 => ?_
  have c337 := s38.trans s335
  have c338 := s34.trans c337
  have c339 := s25.trans c338
  have o336 := o19.up c339
  exact ⟨_, Does.load_own1 o336 ty38 rfl rfl, rfl⟩
 ·refine oP_on [(7, 27)] rfl rfl rfl rfl (decide_eq_false hp1) rfl fun L340 w341 h342 s343 => ?_
  exact ⟨_, Does.len Try.underlying38 rfl, rfl⟩
 ·refine oP_on [(8, 28)] rfl rfl rfl rfl (decide_eq_false hp1) rfl fun L344 w345 h346 s347 => ?_
  exact ⟨_, Does.lss rfl rfl, rfl⟩
 ·refine oP_on [] rfl rfl rfl rfl (decide_eq_false hp2) rfl fun L356 w357 h358 s359 => ?_
  exact ⟨_, Does.fieldAddr' 2 Try.underlying77 rfl ty38 rfl rfl, rfl⟩
 ·refine oP_on [(12, 32)] rfl rfl rfl rfl (decide_eq_false hp2) rfl fun L360 w361 h362 s363 => ?_
  have c365 := s38.trans s363
  have c366 := s34.trans c365
  have c367 := s25.trans c366
  have o364 := o19.up c367
  exact ⟨_, Does.load_own1 o364 ty38 rfl rfl, rfl⟩
 ·refine oP_on [(13, 33)] rfl rfl rfl rfl (decide_eq_false hp2) rfl fun L368 w369 h370 s371 => ?_
  exact ⟨_, Does.len Try.underlying38 rfl, rfl⟩
 ·refine oP_on [(14, 34)] rfl rfl rfl rfl (decide_eq_false hp2) rfl fun L372 w373 h374 s375 => ?_
  exact ⟨_, Does.gtr rfl rfl, rfl⟩
 refine Seq.next ?_
 rcases Decidable.em ((32 : Int) < (((List.length s.primes : Nat) : Int) : Int)) with hp3 | hp3
 ·refine Run.cond_b rfl (decide_eq_true hp3) ?_
  refine rsr ?_
  refine sv (Does.assign rfl) ?_
  refine Seq.next ?_
  have c384 := s38.trans s383
  have c385 := s34.trans c384
  have c386 := s25.trans c385
  have c387 := s20.trans c386
  obtain ⟨⟨zU, zo⟩, zb⟩ := hX c387 (by decide)
  refine Run.ret (ret_then ?_)
  exact post_one Try.results183 rfl ⟨_, rfl, (isBool (by exact holds_f3 hp3) _ _), zb⟩
 refine Run.cond_b rfl (decide_eq_false hp3) ?_
 refine Run.skip_go (fun _ _ h => h) ?_
 refine rsr ?_
 refine sv (Does.fieldAddr' 0 Try.underlying77 rfl ty60 rfl rfl) ?_
 have c389 := s38.trans s383
 have c390 := s34.trans c389
 have c391 := s25.trans c390
 have o388 := o19.up c391
 refine sv (Does.load_ownN [.slice A1 (nw s.n) c2] o388 ty60 rfl rfl) ?_
 have o392 := o37.up s383
 refine sv (Does.load_ownN [.slice A27 (nw 1) c28] o392 ty60 rfl rfl) ?_
 have c393 := s20.trans c391
 have q394 := up c393 q3
 have q395 := up c390 q24
 refine scall (V := And2 (NatV (s.n - 1)) (Is (.bool true))) cal111 h382 rfl (nat_SubLe h382 q394 q395 (show nw s.n ≤ 1000000 from by omega) (show nw 1 ≤ 1000000 from by omega) (show 1 ≤ s.n from by (have h9 := two_le hp1; have h8 := nw_mono (Nat.sub_le s.n 1); omega))) fun v396 w397 q398 s399 h400 => ?_
 obtain ⟨v401, v402, rfl, q403, q404⟩ := q398
 obtain ⟨A405, c406, rfl⟩ := NatV.shape q403
 have z407 := NatV.cap q403
 have q404 := Is.out q404; subst q404
 refine sv (Does.move rfl) ?_
 refine sv (Does.extract rfl rfl) ?_
 refine sv (Does.extract rfl rfl) ?_
 refine salloc 7 [.slice none 0 0] h400 ty60 rfl fun b410 L408 w409 o411 s412 h413 => ?_
 refine sstore [.slice A405 (nw (s.n - 1)) c406] h413 o411 ty60 rfl rfl rfl (Nat.le_of_ble_eq_true rfl) rfl rfl fun w414 o415 s416 h417 => ?_
 refine sv (Does.assign rfl) ?_
 refine nsr ?_
 refine sv (Does.fieldAddr' 0 Try.underlying77 rfl ty60 rfl rfl) ?_
 have c419 := s412.trans s416
 have c420 := s399.trans c419
 have o418 := o388.up c420
 refine sv (Does.load_ownN [.slice A1 (nw s.n) c2] o418 ty60 rfl rfl) ?_
 have q421 := up c420 q394
 refine scall (V := And2 (RingV s.n) (Is (i64 0))) cal114 h417 rfl (mod_New h417 q421 (show 1 < s.n from by (have h9 := two_le hp1; have h8 := nw_mono (Nat.sub_le s.n 1); omega)) (show nw s.n ≤ 1000000 from by omega)) fun v422 w423 q424 s425 h426 => ?_
 obtain ⟨v427, v428, rfl, q429, q430⟩ := q424
 obtain ⟨b431, rfl⟩ := PtrV.shape q429
 have q430 := Is.out q430; subst q430
 refine sv (Does.move rfl) ?_
 refine sv (Does.extract rfl rfl) ?_
 refine sv (Does.extract rfl rfl) ?_
 refine sv (Does.assign rfl) ?_
 refine sv (Does.assign rfl) ?_
 refine Seq.next ?_
 refine Run.seq ?_
 refine Run.seq ?_
 obtain ⟨A432, c433, r434, q435⟩ := RingV.open q429
 refine Run.open 12 (Φ := [.ex (i64 0), .ex (.bool false), .ex (.bool false), .ex (.pointer (some ⟨b431, 0, none⟩)), .ex (.pointer (some ⟨b18, 1, none⟩)), .ex (.agg #[.slice A4 (nw s.base) c5]), .ex (.agg #[.slice A405 (nw (s.n - 1)) c406]), .v (NatV (s.base ^ (s.n - 1) % s.n)), .ex (.agg #[.slice A27 (nw 1) c28]), .v (Is (i64 (cmpI (s.base ^ (s.n - 1) % s.n) 1))), .ex (.bool (decide ((cmpI (s.base ^ (s.n - 1) % s.n) 1 : Int) ≠ (0 : Int)))), .ex (.bool (decide ((cmpI (s.base ^ (s.n - 1) % s.n) 1 : Int) ≠ (0 : Int))))]) [(11, 61)] mixed (by kernel_rfl) rfl h426 ⟨(oX [] rfl rfl rfl fun _ _ => Does.move rfl), (oX [(0, 50)] rfl rfl rfl fun _ _ => Does.neq (a := 0) (b := 0) rfl rfl), (oX [(1, 51)] rfl rfl rfl fun _ _ => Does.move rfl), ?_, ?_, ?_, ?_, ?_, ?_, ?_, ?_, (oX [(2, 52), (10, 60)] rfl rfl rfl fun _ _ => Does.pick_f rfl rfl), trivial⟩ (fun L508 w509 h510 s511 => ?_)
 ·refine oP_on [] rfl rfl rfl rfl rfl rfl fun L448 w449 h450 s451 => ?_
  exact ⟨_, Does.move rfl, rfl⟩
 ·refine oP_on [] rfl rfl rfl rfl rfl rfl fun L452 w453 h454 s455 => ?_
  exact ⟨_, Does.fieldAddr' 1 Try.underlying77 rfl ty60 rfl rfl, rfl⟩
 ·refine oP_on [(4, 54)] rfl rfl rfl rfl rfl rfl fun L456 w457 h458 s459 => ?_
  have c461 := s425.trans s459
  have o460 := o418.up c461
  exact ⟨_, Does.load_ownN [.slice A4 (nw s.base) c5] o460 ty60 rfl rfl, rfl⟩
 ·refine oP_on [] rfl rfl rfl rfl rfl rfl fun L462 w463 h464 s465 => ?_
  have c467 := s425.trans s465
  have o466 := o415.up c467
  exact ⟨_, Does.load_ownN [.slice A405 (nw (s.n - 1)) c406] o466 ty60 rfl rfl, rfl⟩
 ·refine oC_on [(3, 53), (5, 55), (6, 56)] rfl rfl rfl rfl rfl rfl cal108 fun L468 w469 h470 s471 => ?_
  have q472 := up s471 q429
  have c473 := s425.trans s471
  have c474 := c420.trans c473
  have c475 := c393.trans c474
  have q476 := up c475 q6
  have c477 := c419.trans c473
  have q478 := up c477 q403
  exact ⟨_, rfl, (ring_Exp h470 q472 q476 q478 (show 1 < s.n from by (have h9 := two_le hp1; have h8 := nw_mono (Nat.sub_le s.n 1); omega)) (show nw s.base ≤ 1000 from by omega) (show nw (s.n - 1) ≤ 1000 from by (have h9 := two_le hp1; have h8 := nw_mono (Nat.sub_le s.n 1); omega)) (show nw s.n ≤ 1000 from by omega))⟩
 ·refine oP_on [] rfl rfl rfl rfl rfl rfl fun L479 w480 h481 s482 => ?_
  have c484 := s425.trans s482
  have c485 := c420.trans c484
  have o483 := o392.up c485
  exact ⟨_, Does.load_ownN [.slice A27 (nw 1) c28] o483 ty60 rfl rfl, rfl⟩
 ·refine oC_on [(7, 57), (8, 58)] rfl rfl rfl rfl rfl rfl cal34 fun L486 w487 h488 s489 v490 q491 => ?_
  obtain ⟨A492, c493, rfl⟩ := NatV.shape q491
  have z494 := NatV.cap q491
  have c495 := s425.trans s489
  have c496 := c420.trans c495
  have q497 := up c496 q395
  exact ⟨_, rfl, (nat_Cmp h488 q491 q497)⟩
 ·refine oP_on [(9, 59)] rfl rfl rfl rfl rfl rfl fun L498 w499 h500 s501 v502 q503 => ?_
  have q503 := Is.out q503; subst q503
  exact ⟨_, Does.neq rfl rfl, rfl⟩
 refine Seq.next ?_
 rcases Decidable.em ((cmpI (s.base ^ (s.n - 1) % s.n) 1 : Int) ≠ (0 : Int)) with hp4 | hp4
 ·refine Run.cond_b rfl (decide_eq_true hp4) ?_
  refine rsr ?_
  refine sv (Does.assign rfl) ?_
  refine Seq.next ?_
  have c512 := s425.trans s511
  have c513 := c420.trans c512
  have c514 := c393.trans c513
  obtain ⟨⟨zU, zo⟩, zb⟩ := hX c514 (by decide)
  refine Run.ret (ret_then ?_)
  exact post_one Try.results183 rfl ⟨_, rfl, (isBool (by exact holds_f4 hp4) _ _), zb⟩
 refine Run.cond_b rfl (decide_eq_false hp4) ?_
 refine Run.skip_go (fun _ _ h => h) ?_
 refine rsr ?_
 have c516 := s425.trans s511
 have c517 := c420.trans c516
 have o515 := o392.up c517
 refine sv (Does.load_ownN [.slice A27 (nw 1) c28] o515 ty60 rfl rfl) ?_
 refine salloc 11 [.slice none 0 0] h510 ty60 rfl fun b520 L518 w519 o521 s522 h523 => ?_
 refine sstore [.slice A27 (nw 1) c28] h523 o521 ty60 rfl rfl rfl (Nat.le_of_ble_eq_true rfl) rfl rfl fun w524 o525 s526 h527 => ?_
 refine Seq.next ?_
 refine Run.seq ?_
 refine rsr ?_
 refine sv (Does.fieldAddr' 2 Try.underlying77 rfl ty38 rfl rfl) ?_
 have c529 := s522.trans s526
 have c530 := c516.trans c529
 have o528 := o418.up c530
 refine sv (Does.load_own1 o528 ty38 rfl rfl) ?_
 refine sv (Does.len Try.underlying38 rfl) ?_
 refine sv (Does.move rfl) ?_
 refine Seq.next ?_
 refine Run.block ?_
 have c531 := c517.trans c529
 have q532 := up c531 q395
 refine Run.loop (fun m' l' w' => ∃ (i : Nat) (lab' : Lab) (ub11 : Value), m' = List.length s.primes - i ∧ l' = [(66, i64 ((i : Nat) : Int)), (1, .slice A13 (List.length behind) c14), (2, .pointer (some ⟨b18, 0, none⟩)), (5, .pointer (some ⟨b32, 0, none⟩)), (6, .pointer (some ⟨b410, 0, none⟩)), (8, .pointer (some ⟨b431, 0, none⟩)), (10, .pointer (some ⟨b520, 0, none⟩)), (64, .slice A7 (List.length s.primes) c8), (65, i64 ((List.length s.primes : Nat) : Int))] ∧ Valid lab' w' ∧ Stp [11, 13, 15, 16, 17, 18] L518 w524 lab' w' ∧ Own lab' w' 11 b520 60 #[ub11] ∧ NatV (fprod s.n s.primes i) lab' w' (.agg #[ub11]) ∧ (i ≤ List.length s.primes) ∧ (∀ j, j < i → goodP s.n s.base behind s.primes j)) (List.length s.primes - 0) (l0 := [(66, i64 ((0 : Nat) : Int)), (1, .slice A13 (List.length behind) c14), (2, .pointer (some ⟨b18, 0, none⟩)), (5, .pointer (some ⟨b32, 0, none⟩)), (6, .pointer (some ⟨b410, 0, none⟩)), (8, .pointer (some ⟨b431, 0, none⟩)), (10, .pointer (some ⟨b520, 0, none⟩)), (64, .slice A7 (List.length s.primes) c8), (65, i64 ((List.length s.primes : Nat) : Int))]) ⟨(congrArg (fun z => some (i64 z)) (show (0 : Int) = ((0 : Nat) : Int) from by rfl)), rfl, rfl, rfl, rfl, rfl, rfl, rfl, rfl, trivial⟩ ⟨0, L518, (.slice A27 (nw 1) c28), rfl, rfl, h527, ((Stp.refl _ _).more (by simp)), o525, (NatV.cast (show 1 = (fprod s.n s.primes 0) from by rfl) q532), (by omega), (by omega)⟩ ?_
 intro m533 l534 w535 H536
 obtain ⟨i, lab537, u540, hzm, rfl, hv538, s539, o541, q542, hi, hg⟩ := H536
 replace hzm := hzm.symm; subst hzm
 obtain ⟨A543, c544, hz⟩ := NatV.shape q542; cases hz
 have h2n := two_le hp1
 have hm1 := nw_mono (Nat.sub_le s.n 1)
 have hpi := primes_nw hps i
 have hdv := nw_mono (Nat.div_le_self (s.n - 1) (List.getD s.primes i 0))
 have hpw := fun h => nw_mono (powD_le (n := s.n - 1) (p := List.getD s.primes i 0) h (by omega))
 refine rsr ?_
 refine sv (Does.lss rfl rfl) ?_
 refine Seq.next ?_
 refine Run.seq ?_
 rcases Decidable.em ((((i : Nat) : Int) : Int) < (((List.length s.primes : Nat) : Int) : Int)) with hp5 | hp5
 rotate_left
 ·refine Run.cond_b rfl (decide_eq_false hp5) ?_
  refine Run.exit_go (fun _ _ h => h) ?_
  refine Run.seq ?_
  refine Run.open 8 (Φ := [.ex (.agg #[.slice A543 (nw (fprod s.n s.primes i)) c544]), .ex (.agg #[.slice A543 (nw (fprod s.n s.primes i)) c544]), .v (NatV ((fprod s.n s.primes i) * (fprod s.n s.primes i))), .ex (.pointer (some ⟨b18, 0, none⟩)), .ex (.agg #[.slice A1 (nw s.n) c2]), .v (Is (i64 (cmpI ((fprod s.n s.primes i) * (fprod s.n s.primes i)) s.n))), .ex (.bool (decide ((0 : Int) < (cmpI ((fprod s.n s.primes i) * (fprod s.n s.primes i)) s.n : Int)))), .ex (.bool (decide ((0 : Int) < (cmpI ((fprod s.n s.primes i) * (fprod s.n s.primes i)) s.n : Int))))]) [(7, 4)] mixed (by kernel_rfl) rfl hv538 ⟨?_, ?_, ?_, (oX [] rfl rfl rfl fun _ _ => Does.fieldAddr' 0 Try.underlying77 rfl ty60 rfl rfl), ?_, ?_, ?_, (oX [(6, 131)] rfl rfl rfl fun _ _ => Does.assign rfl), trivial⟩ (fun L1077 w1078 h1079 s1080 => ?_)
  ·refine oP [] rfl rfl fun L1030 w1031 h1032 s1033 => ?_
   have o1034 := o541.up s1033
   exact ⟨_, Does.load_ownN [.slice A543 (nw (fprod s.n s.primes i)) c544] o1034 ty60 rfl rfl, rfl⟩
  ·refine oP [] rfl rfl fun L1035 w1036 h1037 s1038 => ?_
   have o1039 := o541.up s1038
   exact ⟨_, Does.load_ownN [.slice A543 (nw (fprod s.n s.primes i)) c544] o1039 ty60 rfl rfl, rfl⟩
  ·refine oC [(0, 125), (1, 126)] rfl rfl cal116 fun L1040 w1041 h1042 s1043 => ?_
   have q1044 := up s1043 q542
   exact ⟨_, rfl, (nat_Mul h1042 q1044 q1044 (show nw (fprod s.n s.primes i) ≤ 1000000 from by (have h9 := fprod_nw (ps := s.primes) h2n hn (show i ≤ 32 by omega) (fun j hj => (hg j (by omega)).2.2.1); omega)) (show nw (fprod s.n s.primes i) ≤ 1000000 from by (have h9 := fprod_nw (ps := s.primes) h2n hn (show i ≤ 32 by omega) (fun j hj => (hg j (by omega)).2.2.1); omega)))⟩
  ·refine oP [(3, 128)] rfl rfl fun L1049 w1050 h1051 s1052 => ?_
   have c1054 := s539.trans s1052
   have o1053 := o528.up c1054
   exact ⟨_, Does.load_ownN [.slice A1 (nw s.n) c2] o1053 ty60 rfl rfl, rfl⟩
  ·refine oC [(2, 127), (4, 129)] rfl rfl cal34 fun L1055 w1056 h1057 s1058 v1059 q1060 => ?_
   obtain ⟨A1061, c1062, rfl⟩ := NatV.shape q1060
   have z1063 := NatV.cap q1060
   have c1064 := s539.trans s1058
   have c1065 := c530.trans c1064
   have q1066 := up c1065 q421
   exact ⟨_, rfl, (nat_Cmp h1057 q1060 q1066)⟩
  ·refine oP [(5, 130)] rfl rfl fun L1067 w1068 h1069 s1070 v1071 q1072 => ?_
   have q1072 := Is.out q1072; subst q1072
   exact ⟨_, Does.gtr rfl rfl, rfl⟩
  refine Seq.next ?_
  have c1081 := s539.trans s1080
  have c1082 := c531.trans c1081
  have c1083 := c393.trans c1082
  obtain ⟨⟨zU, zo⟩, zb⟩ := hX c1083 (by decide)
  refine Run.ret ?_
  exact post_one Try.results183 rfl ⟨_, rfl, (isBool (by exact holds_end hp1 hp2 hp3 hp4 hg (by omega)) _ _), zb⟩
 refine Run.cond_b rfl (decide_eq_true hp5) ?_
 refine Run.skip_go (fun _ _ h => h) ?_
 refine Run.seq ?_
 refine Run.block ?_
 refine rsr ?_
 refine sv (Does.move rfl) ?_
 have c551 := c531.trans s539
 have c552 := c393.trans c551
 have q553 := up c552 q9
 obtain ⟨vs545, u546, m547, r548, q549, q550⟩ := NatsV.at_ q553 i (by omega)
 obtain ⟨A554, c555, hz⟩ := NatV.shape q550; cases hz
 have z556 := NatV.cap q550
 refine sv (Does.index_row i Try.underlying38 ty60 rfl rfl r548 m547 (by omega) (by omega)) ?_
 refine sv (Does.load_rowN ty60 rfl r548 q549) ?_
 refine salloc 13 [.slice none 0 0] hv538 ty60 rfl fun b559 L557 w558 o560 s561 h562 => ?_
 refine sv (Does.assign rfl) ?_
 refine sstore [.slice A554 (nw (List.getD s.primes i 0)) c555] h562 o560 ty60 rfl rfl rfl (Nat.le_of_ble_eq_true rfl) rfl rfl fun w563 o564 s565 h566 => ?_
 refine Seq.next ?_
 refine Run.seq ?_
 refine rsr ?_
 refine sv (Does.fieldAddr' 2 Try.underlying77 rfl ty38 rfl rfl) ?_
 have c568 := s561.trans s565
 have c569 := s539.trans c568
 have o567 := o528.up c569
 refine sv (Does.load_own1 o567 ty38 rfl rfl) ?_
 refine sv (Does.move rfl) ?_
 have q570 := up c568 q553
 have q571 := NatsV.takeN q570 i (by omega)
 refine sv (Does.slice_hi i Try.underlying38 ty60 rfl rfl (by omega) (by omega)) ?_
 refine sv (Does.len Try.underlying38 rfl) ?_
 refine sv (Does.move rfl) ?_
 refine Seq.next ?_
 refine Run.block ?_
 refine Run.loop (fun m' l' w' => ∃ (k : Nat) (lab' : Lab), m' = i - k ∧ l' = [(76, i64 ((k : Nat) : Int)), (1, .slice A13 (List.length behind) c14), (2, .pointer (some ⟨b18, 0, none⟩)), (5, .pointer (some ⟨b32, 0, none⟩)), (6, .pointer (some ⟨b410, 0, none⟩)), (8, .pointer (some ⟨b431, 0, none⟩)), (10, .pointer (some ⟨b520, 0, none⟩)), (64, .slice A7 (List.length s.primes) c8), (65, i64 ((List.length s.primes : Nat) : Int)), (66, i64 ((i : Nat) : Int)), (12, .pointer (some ⟨b559, 0, none⟩)), (74, .slice A7 i c8), (75, i64 ((i : Nat) : Int))] ∧ Valid lab' w' ∧ Stp [15] L557 w563 lab' w' ∧ (k ≤ i) ∧ (∀ j, j < k → List.getD s.primes j 0 ≠ List.getD s.primes i 0)) (i - 0) (l0 := [(76, i64 ((0 : Nat) : Int)), (1, .slice A13 (List.length behind) c14), (2, .pointer (some ⟨b18, 0, none⟩)), (5, .pointer (some ⟨b32, 0, none⟩)), (6, .pointer (some ⟨b410, 0, none⟩)), (8, .pointer (some ⟨b431, 0, none⟩)), (10, .pointer (some ⟨b520, 0, none⟩)), (64, .slice A7 (List.length s.primes) c8), (65, i64 ((List.length s.primes : Nat) : Int)), (66, i64 ((i : Nat) : Int)), (12, .pointer (some ⟨b559, 0, none⟩)), (74, .slice A7 i c8), (75, i64 ((i : Nat) : Int))]) ⟨(congrArg (fun z => some (i64 z)) (show (0 : Int) = ((0 : Nat) : Int) from by rfl)), rfl, rfl, rfl, rfl, rfl, rfl, rfl, rfl, rfl, rfl, rfl, rfl, trivial⟩ ⟨0, L557, rfl, rfl, h566, ((Stp.refl _ _).more (by simp)), (by omega), (by omega)⟩ ?_
 intro m572 l573 w574 H575
 obtain ⟨k, lab576, hzm, rfl, hv577, s578, hk, hnd⟩ := H575
 replace hzm := hzm.symm; subst hzm
 refine rsr ?_
 refine sv (Does.lss rfl rfl) ?_
 refine Seq.next ?_
 refine Run.seq ?_
 rcases Decidable.em ((((k : Nat) : Int) : Int) < (((i : Nat) : Int) : Int)) with hp6 | hp6
 ·refine Run.cond_b rfl (decide_eq_true hp6) ?_
  refine Run.skip_go (fun _ _ h => h) ?_
  refine Run.seq ?_
  refine Run.block ?_
  refine rsr ?_
  have q585 := up s578 q571
  obtain ⟨vs579, u580, m581, r582, q583, q584⟩ := NatsV.at_ q585 k (by omega)
  obtain ⟨A586, c587, hz⟩ := NatV.shape q584; cases hz
  have z588 := NatV.cap q584
  refine sv (Does.index_row k Try.underlying38 ty60 rfl rfl r582 m581 (by omega) (by omega)) ?_
  refine sv (Does.load_rowN ty60 rfl r582 q583) ?_
  refine salloc 15 [.slice none 0 0] hv577 ty60 rfl fun b591 L589 w590 o592 s593 h594 => ?_
  refine sstore [.slice A586 (nw (List.getD (List.take i s.primes) k 0)) c587] h594 o592 ty60 rfl rfl rfl (Nat.le_of_ble_eq_true rfl) rfl rfl fun w595 o596 s597 h598 => ?_
  refine nsr ?_
  refine sv (Does.load_ownN [.slice A586 (nw (List.getD (List.take i s.primes) k 0)) c587] o596 ty60 rfl rfl) ?_
  have c600 := s593.trans s597
  have c601 := s578.trans c600
  have o599 := o564.up c601
  refine sv (Does.load_ownN [.slice A554 (nw (List.getD s.primes i 0)) c555] o599 ty60 rfl rfl) ?_
  have q602 := up c600 q584
  have c603 := c568.trans c601
  have q604 := up c603 q550
  refine scall (V := Is (i64 (cmpI (List.getD (List.take i s.primes) k 0) (List.getD s.primes i 0)))) cal34 h598 rfl (nat_Cmp h598 q602 q604) fun v605 w606 q607 s608 h609 => ?_
  have q607 := Is.out q607; subst q607
  refine sv (Does.eql rfl rfl) ?_
  refine Seq.next ?_
  rcases Decidable.em ((cmpI (List.getD (List.take i s.primes) k 0) (List.getD s.primes i 0) : Int) = (0 : Int)) with hp7 | hp7
  ·refine Run.cond_b rfl (decide_eq_true hp7) ?_
   refine rsr ?_
   refine sv (Does.assign rfl) ?_
   refine Seq.next ?_
   have c610 := c603.trans s608
   have c611 := c552.trans c610
   obtain ⟨⟨zU, zo⟩, zb⟩ := hX c611 (by decide)
   refine Run.ret (ret_block (ret_then (ret_then (ret_block (ret_then (ret_block (ret_then (ret_then (ret_block (ret_then ?_))))))))))
   exact post_one Try.results183 rfl ⟨_, rfl, (isBool (by exact holds_f7 (by omega) (by omega) hp7) _ _), zb⟩
  refine Run.cond_b rfl (decide_eq_false hp7) ?_
  refine Run.skip_go (fun _ _ h => h) ?_
  refine Run.region ?_
  refine sv (Does.add rfl rfl (by omega)) ?_
  refine sv (Does.move rfl) ?_
  have c612 := c601.trans s608
  exact Seq.nil (fun a613 h614 => ⟨_, by omega, _, h614.weaken (subs_lk (l' := [(76, i64 (((k + 1) : Nat) : Int)), (1, .slice A13 (List.length behind) c14), (2, .pointer (some ⟨b18, 0, none⟩)), (5, .pointer (some ⟨b32, 0, none⟩)), (6, .pointer (some ⟨b410, 0, none⟩)), (8, .pointer (some ⟨b431, 0, none⟩)), (10, .pointer (some ⟨b520, 0, none⟩)), (64, .slice A7 (List.length s.primes) c8), (65, i64 ((List.length s.primes : Nat) : Int)), (66, i64 ((i : Nat) : Int)), (12, .pointer (some ⟨b559, 0, none⟩)), (74, .slice A7 i c8), (75, i64 ((i : Nat) : Int))]) ⟨(congrArg (fun z => some (i64 z)) (show (((k : Nat) : Int) + 1 : Int) = (((k + 1) : Nat) : Int) from by rfl)), rfl, rfl, rfl, rfl, rfl, rfl, rfl, rfl, rfl, rfl, rfl, rfl, trivial⟩), ⟨k + 1, L589, rfl, rfl, h609, (c612.more (by decide)), (by omega), (by exact holds_nd hnd (by omega) hp7)⟩⟩)
 refine Run.cond_b rfl (decide_eq_false hp6) ?_
 refine Run.exit_go (fun _ _ h => h) ?_
 refine Run.seq ?_
 refine Run.seq ?_
 rcases bdich (!(decide (knownP behind (List.getD s.primes i 0)))) with hc7 | hc7
 ·refine Run.open 10 (Φ := [.ex (.agg #[.slice A554 (nw (List.getD s.primes i 0)) c555]), .ex (.slice A13 (List.length behind) c14), .v (Is (.bool (decide (knownP behind (List.getD s.primes i 0))))), .ex (.bool (!(decide (knownP behind (List.getD s.primes i 0))))), .ex (.bool (!(decide (knownP behind (List.getD s.primes i 0))))), .ex undef, .ex undef, .ex undef, .ex undef, .ex (.bool true)]) [(9, 94)] mixed (by kernel_rfl) rfl hv577 ⟨?_, (oX [] rfl rfl rfl fun _ _ => Does.move rfl), ?_, ?_, (oX [(3, 88)] rfl rfl rfl fun _ _ => Does.move rfl), (oOff rfl rfl rfl rfl hc7 rfl rfl), (oOff rfl rfl rfl rfl hc7 rfl rfl), (oOff rfl rfl rfl rfl hc7 rfl rfl), (oOff rfl rfl rfl rfl hc7 rfl rfl), (oX [(4, 89)] rfl rfl rfl fun _ _ => Does.pick_b rfl hc7 rfl), trivial⟩ (fun L677 w678 h679 s680 => ?_)
  ·refine oP [] rfl rfl fun L644 w645 h646 s647 => ?_
   have c649 := s578.trans s647
   have o648 := o564.up c649
   exact ⟨_, Does.load_ownN [.slice A554 (nw (List.getD s.primes i 0)) c555] o648 ty60 rfl rfl, rfl⟩
  ·refine oC [(0, 85), (1, 86)] rfl rfl cal199 fun L654 w655 h656 s657 => ?_
   have c658 := s578.trans s657
   have c659 := c568.trans c658
   have q660 := up c659 q550
   have c661 := c552.trans c659
   have q662 := up c661 h1
   exact ⟨_, rfl, (cert_known h656 q660 q662)⟩
  ·refine oP [(2, 87)] rfl rfl fun L663 w664 h665 s666 v667 q668 => ?_
   have q668 := Is.out q668; subst q668
   exact ⟨_, Does.not rfl, rfl⟩
  refine Seq.next ?_
  refine Run.cond_b rfl rfl ?_
  refine rsr ?_
  refine sv (Does.assign rfl) ?_
  refine Seq.next ?_
  have c681 := s578.trans s680
  have c682 := c568.trans c681
  have c683 := c552.trans c682
  obtain ⟨⟨zU, zo⟩, zb⟩ := hX c683 (by decide)
  refine Run.ret (ret_then (ret_block (ret_then (ret_then (ret_block (ret_then ?_))))))
  exact post_one Try.results183 rfl ⟨_, rfl, (isBool (by exact holds_f8 (by omega) hc7) _ _), zb⟩
 refine Run.open 10 (Φ := [.ex (.agg #[.slice A554 (nw (List.getD s.primes i 0)) c555]), .ex (.slice A13 (List.length behind) c14), .v (Is (.bool (decide (knownP behind (List.getD s.primes i 0))))), .ex (.bool (!(decide (knownP behind (List.getD s.primes i 0))))), .ex (.bool (!(decide (knownP behind (List.getD s.primes i 0))))), .ex (.agg #[.slice A554 (nw (List.getD s.primes i 0)) c555]), .v (NatV 2), .v (Is (i64 (cmpI (List.getD s.primes i 0) 2))), .ex (.bool (decide ((cmpI (List.getD s.primes i 0) 2 : Int) < (0 : Int)))), .ex (.bool (decide ((cmpI (List.getD s.primes i 0) 2 : Int) < (0 : Int))))]) [(9, 94)] mixed (by kernel_rfl) rfl hv577 ⟨?_, (oX [] rfl rfl rfl fun _ _ => Does.move rfl), ?_, ?_, (oX [(3, 88)] rfl rfl rfl fun _ _ => Does.move rfl), ?_, ?_, ?_, ?_, (oX [(4, 89), (8, 93)] rfl rfl rfl fun _ _ => Does.pick_b rfl hc7 rfl), trivial⟩ (fun L745 w746 h747 s748 => ?_)
 ·refine oP [] rfl rfl fun L684 w685 h686 s687 => ?_
  have c689 := s578.trans s687
  have o688 := o564.up c689
  exact ⟨_, Does.load_ownN [.slice A554 (nw (List.getD s.primes i 0)) c555] o688 ty60 rfl rfl, rfl⟩
 ·refine oC [(0, 85), (1, 86)] rfl rfl cal199 fun L694 w695 h696 s697 => ?_
  have c698 := s578.trans s697
  have c699 := c568.trans c698
  have q700 := up c699 q550
  have c701 := c552.trans c699
  have q702 := up c701 h1
  exact ⟨_, rfl, (cert_known h696 q700 q702)⟩
 ·refine oP [(2, 87)] rfl rfl fun L703 w704 h705 s706 v707 q708 => ?_
  have q708 := Is.out q708; subst q708
  exact ⟨_, Does.not rfl, rfl⟩
 ·refine oP_on [] rfl rfl rfl rfl hc7 rfl fun L713 w714 h715 s716 => ?_
  have c718 := s578.trans s716
  have o717 := o564.up c718
  exact ⟨_, Does.load_ownN [.slice A554 (nw (List.getD s.primes i 0)) c555] o717 ty60 rfl rfl, rfl⟩
 ·refine oC_on [] rfl rfl rfl rfl hc7 rfl cal32 fun L719 w720 h721 s722 => ?_
  exact ⟨_, rfl, (nat_New h721 (x := 2) (show 2 < 18446744073709551616 from by omega))⟩
 ·refine oC_on [(5, 90), (6, 91)] rfl rfl rfl rfl hc7 rfl cal34 fun L723 w724 h725 s726 v727 q728 => ?_
  obtain ⟨A729, c730, rfl⟩ := NatV.shape q728
  have z731 := NatV.cap q728
  have c732 := s578.trans s726
  have c733 := c568.trans c732
  have q734 := up c733 q550
  exact ⟨_, rfl, (nat_Cmp h725 q734 q728)⟩
 ·refine oP_on [(7, 92)] rfl rfl rfl rfl hc7 rfl fun L735 w736 h737 s738 v739 q740 => ?_
  have q740 := Is.out q740; subst q740
  exact ⟨_, Does.lss rfl rfl, rfl⟩
 refine Seq.next ?_
 rcases Decidable.em ((cmpI (List.getD s.primes i 0) 2 : Int) < (0 : Int)) with hp8 | hp8
 ·refine Run.cond_b rfl (decide_eq_true hp8) ?_
  refine rsr ?_
  refine sv (Does.assign rfl) ?_
  refine Seq.next ?_
  have c749 := s578.trans s748
  have c750 := c568.trans c749
  have c751 := c552.trans c750
  obtain ⟨⟨zU, zo⟩, zb⟩ := hX c751 (by decide)
  refine Run.ret (ret_then (ret_block (ret_then (ret_then (ret_block (ret_then ?_))))))
  exact post_one Try.results183 rfl ⟨_, rfl, (isBool (by exact holds_f9 (by omega) hp8) _ _), zb⟩
 refine Run.cond_b rfl (decide_eq_false hp8) ?_
 refine Run.skip_go (fun _ _ h => h) ?_
 refine rsr ?_
 have c753 := s578.trans s748
 have c754 := c569.trans c753
 have c755 := c530.trans c754
 have o752 := o415.up c755
 refine sv (Does.load_ownN [.slice A405 (nw (s.n - 1)) c406] o752 ty60 rfl rfl) ?_
 have o756 := o564.up c753
 refine sv (Does.load_ownN [.slice A554 (nw (List.getD s.primes i 0)) c555] o756 ty60 rfl rfl) ?_
 have c757 := c419.trans c755
 have q758 := up c757 q403
 have c759 := c568.trans c753
 have q760 := up c759 q550
 refine scall (V := NatV (powD (s.n - 1) (List.getD s.primes i 0))) cal200 h747 rfl (cert_power h747 q758 q760 (show (s.n - 1) ≠ 0 from by omega) (show 2 ≤ (List.getD s.primes i 0) from by exact two_le hp8) (show nw (s.n - 1) ≤ 900000 from by omega) (show nw (List.getD s.primes i 0) ≤ 900000 from by omega)) fun v761 w762 q763 s764 h765 => ?_
 obtain ⟨A766, c767, rfl⟩ := NatV.shape q763
 have z768 := NatV.cap q763
 refine salloc 16 [.slice none 0 0] h765 ty60 rfl fun b771 L769 w770 o772 s773 h774 => ?_
 refine sstore [.slice A766 (nw (powD (s.n - 1) (List.getD s.primes i 0))) c767] h774 o772 ty60 rfl rfl rfl (Nat.le_of_ble_eq_true rfl) rfl rfl fun w775 o776 s777 h778 => ?_
 refine Seq.next ?_
 refine Run.seq ?_
 refine rsr ?_
 refine sv (Does.load_ownN [.slice A766 (nw (powD (s.n - 1) (List.getD s.primes i 0))) c767] o776 ty60 rfl rfl) ?_
 have c779 := s773.trans s777
 have q780 := up c779 q763
 refine scall (V := Is (.bool (decide ((powD (s.n - 1) (List.getD s.primes i 0)) = 0)))) cal48 h778 rfl (nat_Zero h778 q780) fun v781 w782 q783 s784 h785 => ?_
 have q783 := Is.out q783; subst q783
 refine Seq.next ?_
 rcases Decidable.em ((powD (s.n - 1) (List.getD s.primes i 0)) = 0) with hp9 | hp9
 ·refine Run.cond_b rfl (decide_eq_true hp9) ?_
  refine rsr ?_
  refine sv (Does.assign rfl) ?_
  refine Seq.next ?_
  have c786 := c779.trans s784
  have c787 := s764.trans c786
  have c788 := c759.trans c787
  have c789 := c552.trans c788
  obtain ⟨⟨zU, zo⟩, zb⟩ := hX c789 (by decide)
  refine Run.ret (ret_then (ret_block (ret_then (ret_then (ret_block (ret_then ?_))))))
  exact post_one Try.results183 rfl ⟨_, rfl, (isBool (by exact holds_f10 h2n (by omega) hp8 hp9) _ _), zb⟩
 refine Run.cond_b rfl (decide_eq_false hp9) ?_
 refine Run.skip_go (fun _ _ h => h) ?_
 refine rsr ?_
 have c791 := c779.trans s784
 have c792 := s764.trans c791
 have c793 := c759.trans c792
 have o790 := o541.up c793
 refine sv (Does.load_ownN [.slice A543 (nw (fprod s.n s.primes i)) c544] o790 ty60 rfl rfl) ?_
 have o794 := o776.up s784
 refine sv (Does.load_ownN [.slice A766 (nw (powD (s.n - 1) (List.getD s.primes i 0))) c767] o794 ty60 rfl rfl) ?_
 have q795 := up c793 q542
 have q796 := up s784 q780
 refine scall (V := NatV ((fprod s.n s.primes i) * (powD (s.n - 1) (List.getD s.primes i 0)))) cal116 h785 rfl (nat_Mul h785 q795 q796 (show nw (fprod s.n s.primes i) ≤ 1000000 from by (have h9 := fprod_nw (ps := s.primes) h2n hn (show i ≤ 32 by omega) (fun j hj => (hg j (by omega)).2.2.1); omega)) (show nw (powD (s.n - 1) (List.getD s.primes i 0)) ≤ 1000000 from by (have h7 := hpw (two_le hp8); omega))) fun v797 w798 q799 s800 h801 => ?_
 obtain ⟨A802, c803, rfl⟩ := NatV.shape q799
 have z804 := NatV.cap q799
 have o805 := o790.up s800
 refine sstore [.slice A802 (nw ((fprod s.n s.primes i) * (powD (s.n - 1) (List.getD s.primes i 0)))) c803] h801 o805 ty60 rfl rfl rfl (Nat.le_of_ble_eq_true rfl) rfl rfl fun w806 o807 s808 h809 => ?_
 refine nsr ?_
 have c811 := s800.trans s808
 have c812 := c792.trans c811
 have o810 := o752.up c812
 refine sv (Does.load_ownN [.slice A405 (nw (s.n - 1)) c406] o810 ty60 rfl rfl) ?_
 have o813 := o756.up c812
 refine sv (Does.load_ownN [.slice A554 (nw (List.getD s.primes i 0)) c555] o813 ty60 rfl rfl) ?_
 have q814 := up c812 q758
 have q815 := up c812 q760
 refine scall (V := And3 (NatV ((s.n - 1) / (List.getD s.primes i 0))) (NatV ((s.n - 1) % (List.getD s.primes i 0))) (Is (i64 0))) cal112 h809 rfl (nat_DivNz h809 q814 q815 (show nw (s.n - 1) ≤ 999999 from by omega) (show nw (List.getD s.primes i 0) ≤ 1000000 from by omega) (show (List.getD s.primes i 0) ≠ 0 from by (have h9 := two_le hp8; omega))) fun v816 w817 q818 s819 h820 => ?_
 obtain ⟨v821, v822, v823, rfl, q824, q825, q826⟩ := q818
 obtain ⟨A827, c828, rfl⟩ := NatV.shape q824
 have z829 := NatV.cap q824
 obtain ⟨A830, c831, rfl⟩ := NatV.shape q825
 have z832 := NatV.cap q825
 have q826 := Is.out q826; subst q826
 refine sv (Does.move rfl) ?_
 refine sv (Does.extract rfl rfl) ?_
 refine sv (Does.extract rfl rfl) ?_
 refine sv (Does.extract rfl rfl) ?_
 refine salloc 17 [.slice none 0 0] h820 ty60 rfl fun b835 L833 w834 o836 s837 h838 => ?_
 refine salloc 18 [.slice none 0 0] h838 ty60 rfl fun b841 L839 w840 o842 s843 h844 => ?_
 have o845 := o836.up s843
 refine sstore [.slice A827 (nw ((s.n - 1) / (List.getD s.primes i 0))) c828] h844 o845 ty60 rfl rfl rfl (Nat.le_of_ble_eq_true rfl) rfl rfl fun w846 o847 s848 h849 => ?_
 have o850 := o842.up s848
 refine sstore [.slice A830 (nw ((s.n - 1) % (List.getD s.primes i 0))) c831] h849 o850 ty60 rfl rfl rfl (Nat.le_of_ble_eq_true rfl) rfl rfl fun w851 o852 s853 h854 => ?_
 refine sv (Does.assign rfl) ?_
 refine Seq.next ?_
 refine Run.seq ?_
 refine Run.open 14 (Φ := [.ex (.pointer (some ⟨b431, 0, none⟩)), .ex (.pointer (some ⟨b431, 0, none⟩)), .ex (.pointer (some ⟨b18, 1, none⟩)), .ex (.agg #[.slice A4 (nw s.base) c5]), .ex (.agg #[.slice A827 (nw ((s.n - 1) / (List.getD s.primes i 0))) c828]), .v (NatV (s.base ^ ((s.n - 1) / (List.getD s.primes i 0)) % s.n)), .ex (.agg #[.slice A27 (nw 1) c28]), .v (NatV (subM s.n (s.base ^ ((s.n - 1) / (List.getD s.primes i 0)) % s.n) 1)), .ex (.pointer (some ⟨b18, 0, none⟩)), .ex (.agg #[.slice A1 (nw s.n) c2]), .v (NatV (Nat.gcd (subM s.n (s.base ^ ((s.n - 1) / (List.getD s.primes i 0)) % s.n) 1) s.n)), .ex (.agg #[.slice A27 (nw 1) c28]), .v (Is (i64 (cmpI (Nat.gcd (subM s.n (s.base ^ ((s.n - 1) / (List.getD s.primes i 0)) % s.n) 1) s.n) 1))), .ex (.bool (decide ((cmpI (Nat.gcd (subM s.n (s.base ^ ((s.n - 1) / (List.getD s.primes i 0)) % s.n) 1) s.n) 1 : Int) ≠ (0 : Int))))]) [(13, 123)] mixed (by kernel_rfl) rfl h854 ⟨(oX [] rfl rfl rfl fun _ _ => Does.move rfl), (oX [] rfl rfl rfl fun _ _ => Does.move rfl), (oX [] rfl rfl rfl fun _ _ => Does.fieldAddr' 1 Try.underlying77 rfl ty60 rfl rfl), ?_, ?_, ?_, ?_, ?_, (oX [] rfl rfl rfl fun _ _ => Does.fieldAddr' 0 Try.underlying77 rfl ty60 rfl rfl), ?_, ?_, ?_, ?_, ?_, trivial⟩ (fun L1006 w1007 h1008 s1009 => ?_)
 ·refine oP [(2, 112)] rfl rfl fun L867 w868 h869 s870 => ?_
  have c872 := s853.trans s870
  have c873 := s848.trans c872
  have c874 := s843.trans c873
  have c875 := s837.trans c874
  have c876 := s819.trans c875
  have c877 := c812.trans c876
  have c878 := c753.trans c877
  have o871 := o567.up c878
  exact ⟨_, Does.load_ownN [.slice A4 (nw s.base) c5] o871 ty60 rfl rfl, rfl⟩
 ·refine oP [] rfl rfl fun L879 w880 h881 s882 => ?_
  have c884 := s853.trans s882
  have o883 := o847.up c884
  exact ⟨_, Does.load_ownN [.slice A827 (nw ((s.n - 1) / (List.getD s.primes i 0))) c828] o883 ty60 rfl rfl, rfl⟩
 ·refine oC [(1, 111), (3, 113), (4, 114)] rfl rfl cal108 fun L885 w886 h887 s888 => ?_
  have c889 := s853.trans s888
  have c890 := s848.trans c889
  have c891 := s843.trans c890
  have c892 := s837.trans c891
  have c893 := s819.trans c892
  have c894 := c812.trans c893
  have c895 := c754.trans c894
  have c896 := c529.trans c895
  have c897 := s511.trans c896
  have q898 := up c897 q429
  have c899 := c811.trans c893
  have c900 := c793.trans c899
  have c901 := c552.trans c900
  have q902 := up c901 q6
  have q903 := up c892 q824
  exact ⟨_, rfl, (ring_Exp h887 q898 q902 q903 (show 1 < s.n from by omega) (show nw s.base ≤ 1000 from by omega) (show nw ((s.n - 1) / (List.getD s.primes i 0)) ≤ 1000 from by omega) (show nw s.n ≤ 1000 from by omega))⟩
 ·refine oP [] rfl rfl fun L904 w905 h906 s907 => ?_
  have c909 := s853.trans s907
  have c910 := s848.trans c909
  have c911 := s843.trans c910
  have c912 := s837.trans c911
  have c913 := s819.trans c912
  have c914 := c812.trans c913
  have c915 := c754.trans c914
  have c916 := c529.trans c915
  have o908 := o515.up c916
  exact ⟨_, Does.load_ownN [.slice A27 (nw 1) c28] o908 ty60 rfl rfl, rfl⟩
 ·refine oC [(0, 110), (5, 115), (6, 116)] rfl rfl cal81 fun L917 w918 h919 s920 v921 q922 => ?_
  obtain ⟨A923, c924, rfl⟩ := NatV.shape q922
  have z925 := NatV.cap q922
  have c926 := s853.trans s920
  have c927 := s848.trans c926
  have c928 := s843.trans c927
  have c929 := s837.trans c928
  have c930 := s819.trans c929
  have c931 := c812.trans c930
  have c932 := c754.trans c931
  have c933 := c529.trans c932
  have c934 := s511.trans c933
  have q935 := up c934 q429
  have q936 := up c932 q532
  exact ⟨_, rfl, (ring_Sub h919 q935 q922 q936 (show 1 < s.n from by omega) (show nw (s.base ^ ((s.n - 1) / (List.getD s.primes i 0)) % s.n) ≤ 1000 from by exact Nat.le_trans (nw_mono (Nat.le_of_lt (Nat.mod_lt _ (by omega)))) (by omega)) (show nw 1 ≤ 1000 from by omega) (show nw s.n ≤ 1000 from by omega))⟩
 ·refine oP [(8, 118)] rfl rfl fun L941 w942 h943 s944 => ?_
  have c946 := s853.trans s944
  have c947 := s848.trans c946
  have c948 := s843.trans c947
  have c949 := s837.trans c948
  have c950 := s819.trans c949
  have c951 := c812.trans c950
  have c952 := c753.trans c951
  have o945 := o567.up c952
  exact ⟨_, Does.load_ownN [.slice A1 (nw s.n) c2] o945 ty60 rfl rfl, rfl⟩
 ·refine oC [(7, 117), (9, 119)] rfl rfl cal201 fun L953 w954 h955 s956 v957 q958 => ?_
  obtain ⟨A959, c960, rfl⟩ := NatV.shape q958
  have z961 := NatV.cap q958
  have c962 := s853.trans s956
  have c963 := s848.trans c962
  have c964 := s843.trans c963
  have c965 := s837.trans c964
  have c966 := s819.trans c965
  have c967 := c812.trans c966
  have c968 := c755.trans c967
  have q969 := up c968 q421
  exact ⟨_, rfl, (nat_Gcd h955 q958 q969 (show nw (subM s.n (s.base ^ ((s.n - 1) / (List.getD s.primes i 0)) % s.n) 1) ≤ 999999 from by exact Nat.le_trans (nw_mono (Nat.le_of_lt (subM_lt (by omega)))) (by omega)) (show nw s.n ≤ 999999 from by omega))⟩
 ·refine oP [] rfl rfl fun L970 w971 h972 s973 => ?_
  have c975 := s853.trans s973
  have c976 := s848.trans c975
  have c977 := s843.trans c976
  have c978 := s837.trans c977
  have c979 := s819.trans c978
  have c980 := c812.trans c979
  have c981 := c754.trans c980
  have c982 := c529.trans c981
  have o974 := o515.up c982
  exact ⟨_, Does.load_ownN [.slice A27 (nw 1) c28] o974 ty60 rfl rfl, rfl⟩
 ·refine oC [(10, 120), (11, 121)] rfl rfl cal34 fun L983 w984 h985 s986 v987 q988 => ?_
  obtain ⟨A989, c990, rfl⟩ := NatV.shape q988
  have z991 := NatV.cap q988
  have c992 := s853.trans s986
  have c993 := s848.trans c992
  have c994 := s843.trans c993
  have c995 := s837.trans c994
  have c996 := s819.trans c995
  have c997 := c812.trans c996
  have c998 := c754.trans c997
  have q999 := up c998 q532
  exact ⟨_, rfl, (nat_Cmp h985 q988 q999)⟩
 ·refine oP [(12, 122)] rfl rfl fun L1000 w1001 h1002 s1003 v1004 q1005 => ?_
  have q1005 := Is.out q1005; subst q1005
  exact ⟨_, Does.neq rfl rfl, rfl⟩
 refine Seq.next ?_
 rcases Decidable.em ((cmpI (Nat.gcd (subM s.n (s.base ^ ((s.n - 1) / (List.getD s.primes i 0)) % s.n) 1) s.n) 1 : Int) ≠ (0 : Int)) with hp10 | hp10
 ·refine Run.cond_b rfl (decide_eq_true hp10) ?_
  refine rsr ?_
  refine sv (Does.assign rfl) ?_
  refine Seq.next ?_
  have c1010 := s853.trans s1009
  have c1011 := s848.trans c1010
  have c1012 := s843.trans c1011
  have c1013 := s837.trans c1012
  have c1014 := s819.trans c1013
  have c1015 := c811.trans c1014
  have c1016 := c793.trans c1015
  have c1017 := c552.trans c1016
  obtain ⟨⟨zU, zo⟩, zb⟩ := hX c1017 (by decide)
  refine Run.ret (ret_block (ret_then (ret_then (ret_block (ret_then ?_)))))
  exact post_one Try.results183 rfl ⟨_, rfl, (isBool (by exact holds_f11 (by omega) hp10) _ _), zb⟩
 refine Run.cond_b rfl (decide_eq_false hp10) ?_
 refine Run.skip_go (fun _ _ h => h) ?_
 refine Run.region ?_
 refine sv (Does.add rfl rfl (by omega)) ?_
 refine sv (Does.move rfl) ?_
 have c1019 := s853.trans s1009
 have c1020 := s848.trans c1019
 have c1021 := s843.trans c1020
 have c1022 := s837.trans c1021
 have c1023 := s819.trans c1022
 have o1018 := o807.up c1023
 have c1024 := s808.trans c1023
 have q1025 := up c1024 q799
 have c1026 := c812.trans c1023
 have c1027 := c754.trans c1026
 exact Seq.nil (fun a1028 h1029 => ⟨_, by omega, _, h1029.weaken (subs_lk (l' := [(66, i64 (((i + 1) : Nat) : Int)), (1, .slice A13 (List.length behind) c14), (2, .pointer (some ⟨b18, 0, none⟩)), (5, .pointer (some ⟨b32, 0, none⟩)), (6, .pointer (some ⟨b410, 0, none⟩)), (8, .pointer (some ⟨b431, 0, none⟩)), (10, .pointer (some ⟨b520, 0, none⟩)), (64, .slice A7 (List.length s.primes) c8), (65, i64 ((List.length s.primes : Nat) : Int))]) ⟨(congrArg (fun z => some (i64 z)) (show (((i : Nat) : Int) + 1 : Int) = (((i + 1) : Nat) : Int) from by rfl)), rfl, rfl, rfl, rfl, rfl, rfl, rfl, rfl, trivial⟩), ⟨i + 1, L1006, (.slice A802 (nw ((fprod s.n s.primes i) * (powD (s.n - 1) (List.getD s.primes i 0)))) c803), rfl, rfl, h1008, (c1027.more (by decide)), o1018, (NatV.cast (show ((fprod s.n s.primes i) * (powD (s.n - 1) (List.getD s.primes i 0))) = (fprod s.n s.primes (i + 1)) from by rfl) q1025), (by omega), (by exact holds_good h2n hg (fun j hj => hnd j (by omega)) hc7 hp8 hp9 hp10)⟩⟩)
end Go.Proofs.Ytgfomedobfaidaa
end
section
set_option linter.unusedVariables false
set_option linter.unusedSimpArgs false
set_option maxRecDepth 100000
namespace Go.Proofs.Ytgfomedobfaidaa
open Go.RowKit
theorem cert_long {lab : Lab} {w : World} (hv : Valid lab w) {n : Nat} {v0 : Value} (h0 : NatV n lab w v0) (hn : nw n ≤ 1000000) :
  Calls Try.prog 182 #[v0] w (fun e w' => ∃ v, e = .returned v ∧ (Is (.bool (decide (longP n)))) lab w' v ∧ Below w.heap.size w w') := by
 obtain ⟨L0, h0L, ⟨zU0, z00⟩, hX⟩ := enter0 hv
 replace h0 := up z00 h0
 obtain ⟨A1, c2, rfl⟩ := NatV.shape h0
 have z3 := NatV.cap h0
 refine calls_run Try.func182 rfl Try.ntmps182 (Nat.le_of_ble_eq_true rfl) ?_
 refine rsr ?_
 refine sbox 2 [.slice A1 (nw n) c2] h0L rfl rfl fun b6 L4 w5 o7 s8 h9 => ?_
 refine sv (Does.assign rfl) ?_
 refine nsr ?_
 refine sv (Does.load_ownN [.slice A1 (nw n) c2] o7 ty60 rfl rfl) ?_
 have q10 := up s8 h0
 refine scall (V := Is (i64 ((blen n : Nat) : Int))) cal113 h9 rfl (nat_Bits h9 q10 (show nw n ≤ 1000000 from by assumption)) fun v11 w12 q13 s14 h15 => ?_
 have q13 := Is.out q13; subst q13
 refine sv (Does.gtr rfl rfl) ?_
 refine sv (Does.assign rfl) ?_
 refine Seq.next ?_
 have c16 := s8.trans s14
 obtain ⟨⟨zU, zo⟩, zb⟩ := hX c16 (by decide)
 refine Run.ret ?_
 exact post_one Try.results182 rfl ⟨_, rfl, (isBool (by (exact decide_eq_decide.2 (by unfold longP; omega))) _ _), zb⟩
set_option maxHeartbeats 2000000 in
theorem cert_Check {lab : Lab} {w : World} (hv : Valid lab w) {chain : List StepD} {v0 : Value} (h0 : StepsV chain lab w v0) (hc : ∀ i, i < List.length chain → nw (List.getD chain i step0).n ≤ 100000 ∧ nw (List.getD chain i step0).base ≤ 100000 ∧ ∀ x ∈ (List.getD chain i step0).primes, nw x ≤ 100000) (hl : ∀ i, i < List.length chain → List.length (List.getD chain i step0).primes ≤ 100000) :
  Calls Try.prog 156 #[v0] w (fun e w' => ∃ v, e = .returned v ∧ (Is (i64 (checkE chain))) lab w' v ∧ Below w.heap.size w w') := by
 obtain ⟨L0, h0L, ⟨zU0, z00⟩, hX⟩ := enter0 hv
 replace h0 := up z00 h0
 obtain ⟨A1, c2, rfl⟩ := StepsV.shape h0
 have z3 := StepsV.cap h0
 refine calls_run Try.func156 rfl Try.ntmps156 (Nat.le_of_ble_eq_true rfl) ?_
 refine rsr ?_
 refine sv (Does.assign rfl) ?_
 refine Seq.next ?_
 refine Run.seq ?_
 refine rsr ?_
 refine sv (Does.move rfl) ?_
 refine sv (Does.len Try.underlying71 rfl) ?_
 refine sv (Does.gtr rfl rfl) ?_
 refine Seq.next ?_
 rcases Decidable.em ((64 : Int) < (((List.length chain : Nat) : Int) : Int)) with hp1 | hp1
 ·refine Run.cond_b rfl (decide_eq_true hp1) ?_
  refine rsr ?_
  refine sv (Does.assign rfl) ?_
  refine Seq.next ?_
  have z9 := Stp.refl L0 w
  obtain ⟨⟨zU, zo⟩, zb⟩ := hX z9 (by decide)
  refine Run.ret (ret_then ?_)
  exact post_one Try.results156 rfl ⟨_, rfl, (isI64 (by exact check_a hp1) _ _), zb⟩
 refine Run.cond_b rfl (decide_eq_false hp1) ?_
 refine Run.skip_go (fun _ _ h => h) ?_
 refine Run.seq ?_
 refine rsr ?_
 refine sv (Does.move rfl) ?_
 refine sv (Does.len Try.underlying71 rfl) ?_
 refine sv (Does.move rfl) ?_
 refine Seq.next ?_
 refine Run.block ?_
 refine Run.loop (fun m' l' w' => ∃ (i : Nat) (lab' : Lab), m' = List.length chain - i ∧ l' = [(15, i64 ((i : Nat) : Int)), (0, .slice A1 (List.length chain) c2), (13, .slice A1 (List.length chain) c2), (14, i64 ((List.length chain : Nat) : Int))] ∧ Valid lab' w' ∧ Stp [5, 7, 924] L0 w lab' w' ∧ (i ≤ List.length chain) ∧ (∀ a, a < i → ∀ x ∈ stepNs (List.getD chain a step0), ¬ longP x)) (List.length chain - 0) (l0 := [(15, i64 ((0 : Nat) : Int)), (0, .slice A1 (List.length chain) c2), (13, .slice A1 (List.length chain) c2), (14, i64 ((List.length chain : Nat) : Int))]) ⟨(congrArg (fun z => some (i64 z)) (show (0 : Int) = ((0 : Nat) : Int) from by rfl)), rfl, rfl, rfl, trivial⟩ ⟨0, L0, rfl, rfl, h0L, ((Stp.refl _ _).more (by simp)), (by omega), (by omega)⟩ ?_
 intro m4 l5 w6 H7
 obtain ⟨i, lab8, hzm, rfl, hv9, s10, hi, hL⟩ := H7
 replace hzm := hzm.symm; subst hzm
 refine rsr ?_
 refine sv (Does.lss rfl rfl) ?_
 refine Seq.next ?_
 refine Run.seq ?_
 rcases Decidable.em ((((i : Nat) : Int) : Int) < (((List.length chain : Nat) : Int) : Int)) with hp2 | hp2
 rotate_left
 ·refine Run.cond_b rfl (decide_eq_false hp2) ?_
  refine Run.exit_go (fun _ _ h => h) ?_
  refine rsr ?_
  refine sv (Does.assign rfl) ?_
  refine Seq.next ?_
  refine Run.seq ?_
  refine rsr ?_
  refine sv (Does.move rfl) ?_
  refine sv (Does.len Try.underlying71 rfl) ?_
  refine sv (Does.move rfl) ?_
  refine Seq.next ?_
  refine Run.block ?_
  refine Run.loop (fun m' l' w' => ∃ (m : Nat) (lab' : Lab) (ux907 : Value), m' = List.length chain - m ∧ l' = [(38, i64 ((m : Nat) : Int)), (7, ux907), (36, .slice A1 (List.length chain) c2), (37, i64 ((List.length chain : Nat) : Int))] ∧ Valid lab' w' ∧ Stp [10, 907] lab8 w6 lab' w' ∧ AppN lab' w' 907 60 ux907 m (behindC chain m) ∧ (m ≤ List.length chain) ∧ (∀ a, a < m → HoldsP (List.getD chain a step0) (behindC chain a))) (List.length chain - 0) (l0 := [(38, i64 ((0 : Nat) : Int)), (7, .slice none 0 0), (36, .slice A1 (List.length chain) c2), (37, i64 ((List.length chain : Nat) : Int))]) ⟨(congrArg (fun z => some (i64 z)) (show (0 : Int) = ((0 : Nat) : Int) from by rfl)), rfl, rfl, rfl, trivial⟩ ⟨0, lab8, (.slice none 0 0), rfl, rfl, hv9, ((Stp.refl _ _).more (by simp)), (AppN.mk (show ([]) = (behindC chain 0) from by rfl) (show 0 = 0 from by rfl) (App.nil (lab := lab8) (w := w6) (d := 907) (t := 60)) trivial), (by omega), (by omega)⟩ ?_
  intro m128 l129 w130 H131
  obtain ⟨m, lab132, v135, hzm, rfl, hv133, s134, o136, hm, hH⟩ := H131
  replace hzm := hzm.symm; subst hzm
  obtain ⟨cs137, o138, q139⟩ := o136
  obtain ⟨A140, c141, rfl⟩ := App.shape o138
  have z143 := (App.row o138).2
  have hnl := check_nl (by omega) hL
  have hN9 := fun h => not_long hnl (i := m) h
  refine rsr ?_
  refine sv (Does.lss rfl rfl) ?_
  refine Seq.next ?_
  refine Run.seq ?_
  rcases Decidable.em ((((m : Nat) : Int) : Int) < (((List.length chain : Nat) : Int) : Int)) with hp3 | hp3
  rotate_left
  ·refine Run.cond_b rfl (decide_eq_false hp3) ?_
   refine Run.exit_go (fun _ _ h => h) ?_
   refine rsr ?_
   refine sv (Does.assign rfl) ?_
   refine Seq.next ?_
   have c218 := s10.trans s134
   obtain ⟨⟨zU, zo⟩, zb⟩ := hX c218 (by decide)
   refine Run.ret ?_
   exact post_one Try.results156 rfl ⟨_, rfl, (isI64 (by exact check_d hp1 (check_nl (by omega) hL) (by omega) hH) _ _), zb⟩
  refine Run.cond_b rfl (decide_eq_true hp3) ?_
  refine Run.skip_go (fun _ _ h => h) ?_
  refine Run.seq ?_
  refine Run.block ?_
  refine rsr ?_
  have c153 := s10.trans s134
  have q154 := up c153 h0
  obtain ⟨vs144, a145, b146, d147, m148, r149, u150, q151⟩ := StepsV.at_ q154 m (by omega)
  obtain ⟨A155, c156, A157, c158, A159, c160, z152, q161, q162, q163⟩ := StepV.open q151; cases z152
  have z164 := NatV.cap q161
  have z165 := NatV.cap q162
  have z166 := NatsV.cap q163
  refine sv (Does.index_rowS m Try.underlying71 ty77 rfl rfl r149 m148 (by decide) (by omega) (by omega)) ?_
  refine sv (Does.load_rowS [.slice A155 (nw (List.getD chain m step0).n) c156, .slice A157 (nw (List.getD chain m step0).base) c158, .slice A159 (List.length (List.getD chain m step0).primes) c160] ty77 rfl r149 u150 (Nat.succ_pos _)) ?_
  refine salloc 10 [.slice none 0 0, .slice none 0 0, .slice none 0 0] hv133 ty77 rfl fun b169 L167 w168 o170 s171 h172 => ?_
  refine sstore [.slice A155 (nw (List.getD chain m step0).n) c156, .slice A157 (nw (List.getD chain m step0).base) c158, .slice A159 (List.length (List.getD chain m step0).primes) c160] h172 o170 ty77 rfl rfl rfl (Nat.le_of_ble_eq_true rfl) rfl rfl fun w173 o174 s175 h176 => ?_
  refine Seq.next ?_
  refine Run.seq ?_
  refine rsr ?_
  refine sv (Does.load_ownN [.slice A155 (nw (List.getD chain m step0).n) c156, .slice A157 (nw (List.getD chain m step0).base) c158, .slice A159 (List.length (List.getD chain m step0).primes) c160] o174 ty77 rfl rfl) ?_
  refine sv (Does.move rfl) ?_
  have c178 := s171.trans s175
  have o177 := o138.up c178
  have q179 := EachN.step c178 q139
  have q180 := App.nats o177 (EachN.step (Stp.release 907) q179)
  have q182 := up c178 q161
  have q183 := up c178 q162
  have q184 := up c178 q163
  have q181 : StepV (List.getD chain m step0) (labFree L167 907) w173 (.agg #[.slice A155 (nw (List.getD chain m step0).n) c156, .slice A157 (nw (List.getD chain m step0).base) c158, .slice A159 (List.length (List.getD chain m step0).primes) c160]) := StepV.mk (up_free 907 q182) (up_free 907 q183) (up_free 907 q184)
  refine scall (V := Is (.bool (decide (HoldsP (List.getD chain m step0) (behindC chain m))))) cal183 h176 rfl (cert_Holds (Valid.release h176 907) q181 q180 (show nw (List.getD chain m step0).n ≤ 32 from by exact hN9 (by omega) _ (by simp [stepNs]; done)) (show nw (List.getD chain m step0).base ≤ 32 from by exact hN9 (by omega) _ (by simp [stepNs]; done)) (show ∀ x ∈ (List.getD chain m step0).primes, nw x ≤ 32 from by exact fun x hx => hN9 (by omega) x (List.mem_append_right _ hx))) fun v185 w186 q187 s188 h189 => ?_
  have q187 := Is.out q187; subst q187
  refine sv (Does.not rfl) ?_
  refine Seq.next ?_
  rcases bdich (!(decide (HoldsP (List.getD chain m step0) (behindC chain m)))) with hc4 | hc4
  ·refine Run.cond_b rfl hc4 ?_
   refine rsr ?_
   refine sv (Does.assign rfl) ?_
   refine Seq.next ?_
   have c190 := c178.trans s188
   have c191 := c153.trans c190
   obtain ⟨⟨zU, zo⟩, zb⟩ := hX c191 (by decide)
   refine Run.ret (ret_then (ret_block (ret_then (ret_then (ret_block (ret_then ?_))))))
   exact post_one Try.results156 rfl ⟨_, rfl, (isI64 (by exact check_c hp1 hnl (by omega) (bn_t hc4)) _ _), zb⟩
  refine Run.cond_b rfl hc4 ?_
  refine Run.skip_go (fun _ _ h => h) ?_
  refine Run.region ?_
  refine sv (Does.move rfl) ?_
  refine sv (Does.fieldAddr' 0 Try.underlying77 rfl ty60 rfl rfl) ?_
  have o192 := o174.up s188
  refine sv (Does.load_ownN [.slice A155 (nw (List.getD chain m step0).n) c156] o192 ty60 rfl rfl) ?_
  refine Seq.build_row [(0, .agg #[.slice A155 (nw (List.getD chain m step0).n) c156])] [.slice A155 (nw (List.getD chain m step0).n) c156] h189 Try.underlying38 ty60 (by decide) (by decide) rfl (by kernel_rfl) (by decide) ?_
  intro w193 b194 r195 s196 hv197
  have c199 := s188.trans s196
  have o198 := o177.up c199
  refine Seq.append (k := 907) [.slice A155 (nw (List.getD chain m step0).n) c156] hv197 o198 Try.underlying38 ty60 rfl rfl rfl rfl r195 (by intro u hu; rw [List.mem_singleton] at hu; subst hu; rfl) (by omega) (by omega) (by decide) ?_
  intro lab200 w201 v202 o203 s204 hv205
  have c207 := c199.trans s204
  have q208 := up c207 q182
  have q209 := EachN.step c207 q179
  have q206 := EachN.snoc q208 q209
  obtain ⟨A210, c211, rfl⟩ := App.shape o203
  have z213 := (App.row o203).2
  refine sv (Does.assign rfl) ?_
  refine Seq.go (fun _ _ h => h) ?_
  refine Run.region ?_
  refine sv (Does.add rfl rfl (by omega)) ?_
  refine sv (Does.move rfl) ?_
  have c214 := c178.trans c207
  have c215 := s134.trans c214
  exact Seq.nil (fun a216 h217 => ⟨_, by omega, _, h217.weaken (subs_lk (l' := [(38, i64 (((m + 1) : Nat) : Int)), (7, .slice A210 (m + 1) c211), (36, .slice A1 (List.length chain) c2), (37, i64 ((List.length chain : Nat) : Int))]) ⟨(congrArg (fun z => some (i64 z)) (show (((m : Nat) : Int) + 1 : Int) = (((m + 1) : Nat) : Int) from by rfl)), rfl, rfl, rfl, trivial⟩), ⟨m + 1, lab200, (.slice A210 (m + 1) c211), rfl, rfl, hv205, (c215.more (by decide)), (AppN.mk (show (behindC chain m ++ [(List.getD chain m step0).n]) = (behindC chain (m + 1)) from by exact behindC_succ (by omega)) (show m + 1 = (m + 1) from by rfl) o203 q206), (by omega), (by exact upto_succ' hH (bn_f hc4))⟩⟩)
 refine Run.cond_b rfl (decide_eq_true hp2) ?_
 refine Run.skip_go (fun _ _ h => h) ?_
 refine Run.seq ?_
 refine Run.block ?_
 refine rsr ?_
 have q20 := up s10 h0
 obtain ⟨vs11, a12, b13, d14, m15, r16, u17, q18⟩ := StepsV.at_ q20 i (by omega)
 obtain ⟨A21, c22, A23, c24, A25, c26, z19, q27, q28, q29⟩ := StepV.open q18; cases z19
 have z30 := NatV.cap q27
 have z31 := NatV.cap q28
 have z32 := NatsV.cap q29
 refine sv (Does.index_rowS i Try.underlying71 ty77 rfl rfl r16 m15 (by decide) (by omega) (by omega)) ?_
 refine sv (Does.load_rowS [.slice A21 (nw (List.getD chain i step0).n) c22, .slice A23 (nw (List.getD chain i step0).base) c24, .slice A25 (List.length (List.getD chain i step0).primes) c26] ty77 rfl r16 u17 (Nat.succ_pos _)) ?_
 refine salloc 5 [.slice none 0 0, .slice none 0 0, .slice none 0 0] hv9 ty77 rfl fun b35 L33 w34 o36 s37 h38 => ?_
 refine sstore [.slice A21 (nw (List.getD chain i step0).n) c22, .slice A23 (nw (List.getD chain i step0).base) c24, .slice A25 (List.length (List.getD chain i step0).primes) c26] h38 o36 ty77 rfl rfl rfl (Nat.le_of_ble_eq_true rfl) rfl rfl fun w39 o40 s41 h42 => ?_
 refine nsr ?_
 refine sv (Does.fieldAddr' 0 Try.underlying77 rfl ty60 rfl rfl) ?_
 refine sv (Does.load_ownN [.slice A21 (nw (List.getD chain i step0).n) c22] o40 ty60 rfl rfl) ?_
 refine sv (Does.fieldAddr' 1 Try.underlying77 rfl ty60 rfl rfl) ?_
 refine sv (Does.load_ownN [.slice A23 (nw (List.getD chain i step0).base) c24] o40 ty60 rfl rfl) ?_
 have c43 := s37.trans s41
 have q44 := up c43 q27
 have q45 := up c43 q28
 refine Seq.build_app (k := 924) [(0, .agg #[.slice A21 (nw (List.getD chain i step0).n) c22]), (1, .agg #[.slice A23 (nw (List.getD chain i step0).base) c24])] [.slice A21 (nw (List.getD chain i step0).n) c22, .slice A23 (nw (List.getD chain i step0).base) c24] h42 Try.underlying38 ty60 (by decide) (by decide) rfl rfl (by kernel_rfl) (by decide) ?_
 intro L46 w47 v48 o49 s50 h51
 have q52 : EachN L46 w47 [(List.getD chain i step0).n, (List.getD chain i step0).base] [.slice A21 (nw (List.getD chain i step0).n) c22, .slice A23 (nw (List.getD chain i step0).base) c24] := ⟨up s50 q44, up s50 q45, trivial⟩
 obtain ⟨A53, c54, rfl⟩ := App.shape o49
 have z56 := (App.row o49).2
 refine sv (Does.fieldAddr' 2 Try.underlying77 rfl ty38 rfl rfl) ?_
 have o57 := o40.up s50
 refine sv (Does.load_own1 o57 ty38 rfl rfl) ?_
 have c70 := c43.trans s50
 have q71 := up c70 q29
 obtain ⟨vs58, m59, r60, e61, m62⟩ := NatsV.cells q71
 refine Seq.append (k := 924) vs58 h51 o49 Try.underlying38 ty60 rfl rfl rfl m59 r60 m62 (by (have := hl i (by omega); omega)) (by (have := hl i (by omega); omega)) (by decide) ?_
 intro L63 w64 v65 o66 s67 h68
 have q69 := EachN.append (EachN.step s67 q52) (EachN.step s67 e61)
 obtain ⟨A72, c73, rfl⟩ := App.shape o66
 have z75 := (App.row o66).2
 have hv76 := Valid.release h68 924
 have q77 : NatsV ([(List.getD chain i step0).n, (List.getD chain i step0).base] ++ ((List.getD chain i step0).primes)) (labFree L63 924) w64 (.slice A72 (2 + (List.length (List.getD chain i step0).primes)) c73) := App.nats o66 (EachN.step (Stp.release 924) q69)
 refine sv (Does.len Try.underlying38 rfl) ?_
 refine sv (Does.move rfl) ?_
 refine Seq.next ?_
 refine Run.block ?_
 refine Run.loop (fun m' l' w' => ∃ (j : Nat) (lab' : Lab), m' = List.length (stepNs (List.getD chain i step0)) - j ∧ l' = [(28, i64 ((j : Nat) : Int)), (0, .slice A1 (List.length chain) c2), (13, .slice A1 (List.length chain) c2), (14, i64 ((List.length chain : Nat) : Int)), (15, i64 ((i : Nat) : Int)), (26, .slice A72 (2 + (List.length (List.getD chain i step0).primes)) c73), (27, i64 ((2 + (List.length (List.getD chain i step0).primes) : Nat) : Int))] ∧ Valid lab' w' ∧ Stp [7] (labFree L63 924) w64 lab' w' ∧ (j ≤ List.length (stepNs (List.getD chain i step0))) ∧ (∀ b, b < j → ¬ longP (List.getD (stepNs (List.getD chain i step0)) b 0))) (List.length (stepNs (List.getD chain i step0)) - 0) (l0 := [(28, i64 ((0 : Nat) : Int)), (0, .slice A1 (List.length chain) c2), (13, .slice A1 (List.length chain) c2), (14, i64 ((List.length chain : Nat) : Int)), (15, i64 ((i : Nat) : Int)), (26, .slice A72 (2 + (List.length (List.getD chain i step0).primes)) c73), (27, i64 ((2 + (List.length (List.getD chain i step0).primes) : Nat) : Int))]) ⟨(congrArg (fun z => some (i64 z)) (show (0 : Int) = ((0 : Nat) : Int) from by rfl)), rfl, rfl, rfl, rfl, rfl, rfl, trivial⟩ ⟨0, (labFree L63 924), rfl, rfl, hv76, ((Stp.refl _ _).more (by simp)), (by omega), (by omega)⟩ ?_
 intro m78 l79 w80 H81
 obtain ⟨j, lab82, hzm, rfl, hv83, s84, hj, hLj⟩ := H81
 replace hzm := hzm.symm; subst hzm
 have hsl : List.length (stepNs (List.getD chain i step0)) = 2 + List.length (List.getD chain i step0).primes := by simp [stepNs]; omega
 refine rsr ?_
 refine sv (Does.lss rfl rfl) ?_
 refine Seq.next ?_
 refine Run.seq ?_
 rcases Decidable.em ((((j : Nat) : Int) : Int) < (((2 + (List.length (List.getD chain i step0).primes) : Nat) : Int) : Int)) with hp3 | hp3
 rotate_left
 ·refine Run.cond_b rfl (decide_eq_false hp3) ?_
  refine Run.exit_go (fun _ _ h => h) ?_
  refine Run.region ?_
  refine sv (Does.add rfl rfl (by omega)) ?_
  refine sv (Does.move rfl) ?_
  have c122 := (Stp.release (lab := L63) (w := w64) 924).trans s84
  have c123 := s67.trans c122
  have c124 := c70.trans c123
  have c125 := s10.trans c124
  exact Seq.nil (fun a126 h127 => ⟨_, by omega, _, h127.weaken (subs_lk (l' := [(15, i64 (((i + 1) : Nat) : Int)), (0, .slice A1 (List.length chain) c2), (13, .slice A1 (List.length chain) c2), (14, i64 ((List.length chain : Nat) : Int))]) ⟨(congrArg (fun z => some (i64 z)) (show (((i : Nat) : Int) + 1 : Int) = (((i + 1) : Nat) : Int) from by rfl)), rfl, rfl, rfl, trivial⟩), ⟨i + 1, lab82, rfl, rfl, hv83, (c125.more (by decide)), (by omega), (by exact check_rows hL (check_row (by omega) hLj))⟩⟩)
 refine Run.cond_b rfl (decide_eq_true hp3) ?_
 refine Run.skip_go (fun _ _ h => h) ?_
 refine Run.seq ?_
 refine Run.block ?_
 refine rsr ?_
 have q91 := up s84 q77
 obtain ⟨vs85, u86, m87, r88, q89, q90⟩ := NatsV.at_ q91 j (by omega)
 obtain ⟨A92, c93, hz⟩ := NatV.shape q90; cases hz
 have z94 := NatV.cap q90
 refine sv (Does.index_row j Try.underlying38 ty60 rfl rfl r88 m87 (by omega) (by omega)) ?_
 refine sv (Does.load_rowN ty60 rfl r88 q89) ?_
 refine salloc 7 [.slice none 0 0] hv83 ty60 rfl fun b97 L95 w96 o98 s99 h100 => ?_
 refine sstore [.slice A92 (nw (List.getD ([(List.getD chain i step0).n, (List.getD chain i step0).base] ++ ((List.getD chain i step0).primes)) j 0)) c93] h100 o98 ty60 rfl rfl rfl (Nat.le_of_ble_eq_true rfl) rfl rfl fun w101 o102 s103 h104 => ?_
 refine nsr ?_
 refine sv (Does.load_ownN [.slice A92 (nw (List.getD ([(List.getD chain i step0).n, (List.getD chain i step0).base] ++ ((List.getD chain i step0).primes)) j 0)) c93] o102 ty60 rfl rfl) ?_
 have c105 := s99.trans s103
 have q106 := up c105 q90
 refine scall (V := Is (.bool (decide (longP (List.getD ([(List.getD chain i step0).n, (List.getD chain i step0).base] ++ ((List.getD chain i step0).primes)) j 0))))) cal182 h104 rfl (cert_long h104 q106 (show nw (List.getD ([(List.getD chain i step0).n, (List.getD chain i step0).base] ++ ((List.getD chain i step0).primes)) j 0) ≤ 1000000 from by (have h9 := hc i (by omega); have h8 := stepNs_nw h9.1 h9.2.1 h9.2.2 j; exact Nat.le_trans h8 (by omega)))) fun v107 w108 q109 s110 h111 => ?_
 have q109 := Is.out q109; subst q109
 refine Seq.next ?_
 rcases Decidable.em (longP (List.getD ([(List.getD chain i step0).n, (List.getD chain i step0).base] ++ ((List.getD chain i step0).primes)) j 0)) with hp4 | hp4
 ·refine Run.cond_b rfl (decide_eq_true hp4) ?_
  refine rsr ?_
  refine sv (Does.assign rfl) ?_
  refine Seq.next ?_
  have c112 := c105.trans s110
  have c113 := s84.trans c112
  have c114 := (Stp.release (lab := L63) (w := w64) 924).trans c113
  have c115 := s67.trans c114
  have c116 := c70.trans c115
  have c117 := s10.trans c116
  obtain ⟨⟨zU, zo⟩, zb⟩ := hX c117 (by decide)
  refine Run.ret (ret_block (ret_then (ret_then (ret_block (ret_block (ret_then (ret_then (ret_block (ret_then ?_)))))))))
  exact post_one Try.results156 rfl ⟨_, rfl, (isI64 (by (exact check_b (by omega) (by show j < _; omega) hp4)) _ _), zb⟩
 refine Run.cond_b rfl (decide_eq_false hp4) ?_
 refine Run.skip_go (fun _ _ h => h) ?_
 refine Run.region ?_
 refine sv (Does.add rfl rfl (by omega)) ?_
 refine sv (Does.move rfl) ?_
 have c118 := c105.trans s110
 have c119 := s84.trans c118
 exact Seq.nil (fun a120 h121 => ⟨_, by omega, _, h121.weaken (subs_lk (l' := [(28, i64 (((j + 1) : Nat) : Int)), (0, .slice A1 (List.length chain) c2), (13, .slice A1 (List.length chain) c2), (14, i64 ((List.length chain : Nat) : Int)), (15, i64 ((i : Nat) : Int)), (26, .slice A72 (2 + (List.length (List.getD chain i step0).primes)) c73), (27, i64 ((2 + (List.length (List.getD chain i step0).primes) : Nat) : Int))]) ⟨(congrArg (fun z => some (i64 z)) (show (((j : Nat) : Int) + 1 : Int) = (((j + 1) : Nat) : Int) from by rfl)), rfl, rfl, rfl, rfl, rfl, rfl, trivial⟩), ⟨j + 1, L95, rfl, rfl, h111, (c119.more (by decide)), (by omega), (by exact upto_succ' hLj hp4)⟩⟩)
theorem cert_Prime {lab : Lab} {w : World} (hv : Valid lab w) {n : Nat} {v0 : Value} (h0 : NatV n lab w v0) {chain : List StepD} {v1 : Value} (h1 : StepsV chain lab w v1) (hc : ∀ i, i < List.length chain → nw (List.getD chain i step0).n ≤ 100000 ∧ nw (List.getD chain i step0).base ≤ 100000 ∧ ∀ x ∈ (List.getD chain i step0).primes, nw x ≤ 100000) (hl : ∀ i, i < List.length chain → List.length (List.getD chain i step0).primes ≤ 100000) :
  Calls Try.prog 110 #[v0, v1] w (fun e w' => ∃ v, e = .returned v ∧ (Is (.bool (decide (primeC n chain)))) lab w' v ∧ Below w.heap.size w w') := by
 obtain ⟨L0, h0L, ⟨zU0, z00⟩, hX⟩ := enter0 hv
 replace h0 := up z00 h0
 obtain ⟨A1, c2, rfl⟩ := NatV.shape h0
 have z3 := NatV.cap h0
 replace h1 := up z00 h1
 obtain ⟨A4, c5, rfl⟩ := StepsV.shape h1
 have z6 := StepsV.cap h1
 refine calls_run Try.func110 rfl Try.ntmps110 (Nat.le_of_ble_eq_true rfl) ?_
 refine rsr ?_
 refine sbox 3 [.slice A1 (nw n) c2] h0L rfl rfl fun b9 L7 w8 o10 s11 h12 => ?_
 refine sv (Does.assign rfl) ?_
 refine Seq.next ?_
 refine Run.seq ?_
 refine rsr ?_
 refine sv (Does.load_ownN [.slice A1 (nw n) c2] o10 ty60 rfl rfl) ?_
 have q13 := up s11 h0
 refine scall (V := Is (.bool (decide (smallP n)))) cal155 h12 rfl (cert_Small h12 q13) fun v14 w15 q16 s17 h18 => ?_
 have q16 := Is.out q16; subst q16
 refine Seq.next ?_
 rcases Decidable.em (smallP n) with hp1 | hp1
 ·refine Run.cond_b rfl (decide_eq_true hp1) ?_
  refine rsr ?_
  refine sv (Does.assign rfl) ?_
  refine Seq.next ?_
  have c19 := s11.trans s17
  obtain ⟨⟨zU, zo⟩, zb⟩ := hX c19 (by decide)
  refine Run.ret (ret_then ?_)
  exact post_one Try.results110 rfl ⟨_, rfl, (isBool (by exact prime_a hp1) _ _), zb⟩
 refine Run.cond_b rfl (decide_eq_false hp1) ?_
 refine Run.skip_go (fun _ _ h => h) ?_
 refine Run.seq ?_
 refine rsr ?_
 refine sv (Does.move rfl) ?_
 have c20 := s11.trans s17
 have q21 := up c20 h1
 refine scall (V := Is (i64 (checkE chain))) cal156 h18 rfl (cert_Check h18 q21 (show ∀ i, i < List.length chain → nw (List.getD chain i step0).n ≤ 100000 ∧ nw (List.getD chain i step0).base ≤ 100000 ∧ ∀ x ∈ (List.getD chain i step0).primes, nw x ≤ 100000 from by assumption) (show ∀ i, i < List.length chain → List.length (List.getD chain i step0).primes ≤ 100000 from by assumption)) fun v22 w23 q24 s25 h26 => ?_
 have q24 := Is.out q24; subst q24
 refine sv (Does.neq rfl rfl) ?_
 refine Seq.next ?_
 rcases Decidable.em ((checkE chain : Int) ≠ (0 : Int)) with hp2 | hp2
 ·refine Run.cond_b rfl (decide_eq_true hp2) ?_
  refine rsr ?_
  refine sv (Does.assign rfl) ?_
  refine Seq.next ?_
  have c27 := c20.trans s25
  obtain ⟨⟨zU, zo⟩, zb⟩ := hX c27 (by decide)
  refine Run.ret (ret_then ?_)
  exact post_one Try.results110 rfl ⟨_, rfl, (isBool (by exact prime_b hp1 hp2) _ _), zb⟩
 refine Run.cond_b rfl (decide_eq_false hp2) ?_
 refine Run.skip_go (fun _ _ h => h) ?_
 refine Run.seq ?_
 refine rsr ?_
 refine sv (Does.move rfl) ?_
 refine sv (Does.len Try.underlying71 rfl) ?_
 refine sv (Does.move rfl) ?_
 refine Seq.next ?_
 refine Run.block ?_
 refine Run.loop (fun m' l' w' => ∃ (k : Nat) (lab' : Lab), m' = List.length chain - k ∧ l' = [(14, i64 ((k : Nat) : Int)), (2, .pointer (some ⟨b9, 0, none⟩)), (12, .slice A4 (List.length chain) c5), (13, i64 ((List.length chain : Nat) : Int))] ∧ Valid lab' w' ∧ Stp [7] L7 w23 lab' w' ∧ (k ≤ List.length chain) ∧ (∀ j, j < k → (List.getD chain j step0).n ≠ n)) (List.length chain - 0) (l0 := [(14, i64 ((0 : Nat) : Int)), (2, .pointer (some ⟨b9, 0, none⟩)), (12, .slice A4 (List.length chain) c5), (13, i64 ((List.length chain : Nat) : Int))]) ⟨(congrArg (fun z => some (i64 z)) (show (0 : Int) = ((0 : Nat) : Int) from by rfl)), rfl, rfl, rfl, trivial⟩ ⟨0, L7, rfl, rfl, h26, ((Stp.refl _ _).more (by simp)), (by omega), (by omega)⟩ ?_
 intro m28 l29 w30 H31
 obtain ⟨k, lab32, hzm, rfl, hv33, s34, hk, hall⟩ := H31
 replace hzm := hzm.symm; subst hzm
 refine rsr ?_
 refine sv (Does.lss rfl rfl) ?_
 refine Seq.next ?_
 refine Run.seq ?_
 rcases Decidable.em ((((k : Nat) : Int) : Int) < (((List.length chain : Nat) : Int) : Int)) with hp3 | hp3
 rotate_left
 ·refine Run.cond_b rfl (decide_eq_false hp3) ?_
  refine Run.exit_go (fun _ _ h => h) ?_
  refine rsr ?_
  refine sv (Does.assign rfl) ?_
  refine Seq.next ?_
  have c85 := s25.trans s34
  have c86 := c20.trans c85
  obtain ⟨⟨zU, zo⟩, zb⟩ := hX c86 (by decide)
  refine Run.ret ?_
  exact post_one Try.results110 rfl ⟨_, rfl, (isBool (by exact prime_d hp1 (by omega) hall) _ _), zb⟩
 refine Run.cond_b rfl (decide_eq_true hp3) ?_
 refine Run.skip_go (fun _ _ h => h) ?_
 refine Run.seq ?_
 refine Run.block ?_
 refine rsr ?_
 have c44 := s25.trans s34
 have q45 := up c44 q21
 obtain ⟨vs35, a36, b37, d38, m39, r40, u41, q42⟩ := StepsV.at_ q45 k (by omega)
 obtain ⟨A46, c47, A48, c49, A50, c51, z43, q52, q53, q54⟩ := StepV.open q42; cases z43
 have z55 := NatV.cap q52
 have z56 := NatV.cap q53
 have z57 := NatsV.cap q54
 refine sv (Does.index_rowS k Try.underlying71 ty77 rfl rfl r40 m39 (by decide) (by omega) (by omega)) ?_
 refine sv (Does.load_rowS [.slice A46 (nw (List.getD chain k step0).n) c47, .slice A48 (nw (List.getD chain k step0).base) c49, .slice A50 (List.length (List.getD chain k step0).primes) c51] ty77 rfl r40 u41 (Nat.succ_pos _)) ?_
 refine salloc 7 [.slice none 0 0, .slice none 0 0, .slice none 0 0] hv33 ty77 rfl fun b60 L58 w59 o61 s62 h63 => ?_
 refine sstore [.slice A46 (nw (List.getD chain k step0).n) c47, .slice A48 (nw (List.getD chain k step0).base) c49, .slice A50 (List.length (List.getD chain k step0).primes) c51] h63 o61 ty77 rfl rfl rfl (Nat.le_of_ble_eq_true rfl) rfl rfl fun w64 o65 s66 h67 => ?_
 refine nsr ?_
 refine sv (Does.fieldAddr' 0 Try.underlying77 rfl ty60 rfl rfl) ?_
 refine sv (Does.load_ownN [.slice A46 (nw (List.getD chain k step0).n) c47] o65 ty60 rfl rfl) ?_
 have c69 := s62.trans s66
 have c70 := c44.trans c69
 have c71 := s17.trans c70
 have o68 := o10.up c71
 refine sv (Does.load_ownN [.slice A1 (nw n) c2] o68 ty60 rfl rfl) ?_
 have q72 := up c69 q52
 have q73 := up c71 q13
 refine scall (V := Is (i64 (cmpI ((List.getD chain k step0).n) n))) cal34 h67 rfl (nat_Cmp h67 q72 q73) fun v74 w75 q76 s77 h78 => ?_
 have q76 := Is.out q76; subst q76
 refine sv (Does.eql rfl rfl) ?_
 refine Seq.next ?_
 rcases Decidable.em ((cmpI ((List.getD chain k step0).n) n : Int) = (0 : Int)) with hp4 | hp4
 ·refine Run.cond_b rfl (decide_eq_true hp4) ?_
  refine rsr ?_
  refine sv (Does.assign rfl) ?_
  refine Seq.next ?_
  have c79 := c70.trans s77
  have c80 := c20.trans c79
  obtain ⟨⟨zU, zo⟩, zb⟩ := hX c80 (by decide)
  refine Run.ret (ret_block (ret_then (ret_then (ret_block (ret_then ?_)))))
  exact post_one Try.results110 rfl ⟨_, rfl, (isBool (by exact prime_c (by omega) hp2 hp4) _ _), zb⟩
 refine Run.cond_b rfl (decide_eq_false hp4) ?_
 refine Run.skip_go (fun _ _ h => h) ?_
 refine Run.region ?_
 refine sv (Does.add rfl rfl (by omega)) ?_
 refine sv (Does.move rfl) ?_
 have c81 := c69.trans s77
 have c82 := s34.trans c81
 exact Seq.nil (fun a83 h84 => ⟨_, by omega, _, h84.weaken (subs_lk (l' := [(14, i64 (((k + 1) : Nat) : Int)), (2, .pointer (some ⟨b9, 0, none⟩)), (12, .slice A4 (List.length chain) c5), (13, i64 ((List.length chain : Nat) : Int))]) ⟨(congrArg (fun z => some (i64 z)) (show (((k : Nat) : Int) + 1 : Int) = (((k + 1) : Nat) : Int) from by rfl)), rfl, rfl, rfl, trivial⟩), ⟨k + 1, L58, rfl, rfl, h78, (c82.more (by decide)), (by omega), (by exact upto_succ' hall (fun e => hp4 (by rw [cmpI_eq]; exact e)))⟩⟩)
end Go.Proofs.Ytgfomedobfaidaa
end
