/-
  Rules in a short form; the labels of a call that writes blocks of its caller's; regions whose order is open, told by what each operation asks for.
-/
import Derived.Test.YtgfomedobfaidaaList
import Derived.Test.YtgfomedobfaidaaEach
set_option linter.unusedVariables false
set_option linter.unusedSimpArgs false
namespace Go.Proofs.Ytgfomedobfaidaa
open Go.RowKit

/-! ### what stays -/
class Per (V : VP) : Prop where
  p : Pers V
theorem up {V : VP} [h : Per V] {T : List Nat} {lab : Lab} {w : World} {lab' : Lab} {w' : World} {v : Value} (s : Stp T lab w lab' w') (q : V lab w v) : V lab' w' v := h.p.step s q
instance (u : Value) : Per (Is u) := ⟨Is.pers u⟩
instance (x : Nat) : Per (NatV x) := ⟨NatV.pers x⟩
instance (x : List UInt32) : Per (WordsV x) := ⟨WordsV.pers x⟩
instance (x : List UInt8) : Per (BytesV x) := ⟨BytesV.pers x⟩
instance (x : List Bool) : Per (BitsV x) := ⟨BitsV.pers x⟩
instance (x : List (List UInt8)) : Per (RowsV x) := ⟨RowsV.pers x⟩
instance (x : List Nat) : Per (NatsV x) := ⟨NatsV.pers x⟩
instance (x : List (List Bool)) : Per (NumsV x) := ⟨NumsV.pers x⟩
instance (x : Nat) : Per (RingV x) := ⟨RingV.pers x⟩
instance (x : GroupD) : Per (GroupV x) := ⟨GroupV.pers x⟩
instance {V U : VP} [h : Per V] [k : Per U] : Per (And2 V U) := ⟨And2.pers h.p k.p⟩
instance {V U X : VP} [h : Per V] [k : Per U] [j : Per X] : Per (And3 V U X) := ⟨And3.pers h.p k.p j.p⟩
instance (b : Nat) (cs : List Value) : Per (Ro b cs) := ⟨Ro.pers b cs⟩
instance (cs : List Value) (j : Nat) : Per (ElV cs j) := ⟨ElV.pers cs j⟩
/-- A row that is read, told as what is said of a value. -/
def RowP (A : Option Addr) (cs : List Value) : VP := fun lab w _ => RowAt lab w A cs
instance (A : Option Addr) (cs : List Value) : Per (RowP A cs) := ⟨⟨fun s h => h.lift s⟩⟩
/-- With something of the caller's memory. -/
def With (V : VP) (R : Lab → World → Prop) : VP := fun lab w v => V lab w v ∧ R lab w
theorem Own.up {T : List Nat} {lab lab' : Lab} {w w' : World} {d b : Nat} {t : TypeId} {arr : Array Value} (h : Own lab w d b t arr) (s : Stp T lab w lab' w') (hd : d ∉ T := by decide) : Own lab' w' d b t arr := h.lift s hd
theorem App.up {T : List Nat} {lab lab' : Lab} {w w' : World} {d n : Nat} {t : TypeId} {v : Value} {cs : List Value} (h : App lab w d t v n cs) (s : Stp T lab w lab' w') (hd : d ∉ T := by decide) : App lab' w' d t v n cs := h.lift s hd

/-! ### labels of a call that writes -/
def look (d : Nat) : List (Nat × Nat) → Nat
  | [] => 0
  | (a, b) :: r => bif Nat.beq a d then b else look d r
def keys (ds : List (Nat × Nat)) : List Nat := ds.map (·.1)
theorem look_not {d : Nat} : ∀ {ds : List (Nat × Nat)}, d ∉ keys ds → look d ds = 0
  | [], _ => rfl
  | (a, b) :: r, h => by
    have h1 : d ≠ a := fun e => h (by simp [keys, e])
    have h2 : d ∉ keys r := fun e => h (by simp [keys] at e ⊢; exact .inr e)
    have h3 : Nat.beq a d = false := by
      cases hb : Nat.beq a d with
      | false => rfl
      | true => exact absurd (Nat.eq_of_beq_eq_true hb).symm h1
    simp [look, h3, look_not h2]
/-- The labels at the entry: those that the call may write have names of its own; all others are 0. -/
def entM (ds : List (Nat × Nat)) (lab : Lab) : Lab := fun k => (lab k).map fun d => look d ds
theorem entM_none {ds : List (Nat × Nat)} {lab : Lab} {k : Nat} : entM ds lab k = none ↔ lab k = none := by unfold entM; cases lab k <;> simp
theorem Valid.entM {ds : List (Nat × Nat)} {lab : Lab} {w : World} (h : Valid lab w) : Valid (entM ds lab) w := fun k hk => entM_none.2 (h k hk)
theorem entM_step (ds : List (Nat × Nat)) (lab : Lab) (w : World) : ∃ U, Stp U lab w (entM ds lab) w :=
  ⟨(List.range w.heap.size).filterMap lab, rfl, rfl, rfl, Nat.le_refl _, fun k hk e => ⟨entM_none.2 e, rfl⟩, fun k d hk e hd => absurd (List.mem_filterMap.2 ⟨k, by simpa using hk, e⟩) hd⟩
theorem Own.entM {ds : List (Nat × Nat)} {lab : Lab} {w : World} {d b : Nat} {t : TypeId} {arr : Array Value} (h : Own lab w d b t arr) (c : Nat) (hc : look d ds = c) : Own (entM ds lab) w c b t arr := ⟨by unfold Go.Proofs.Ytgfomedobfaidaa.entM; rw [h.1]; exact congrArg some hc, h.2⟩
theorem App.entM {ds : List (Nat × Nat)} {lab : Lab} {w : World} {d n : Nat} {t : TypeId} {v : Value} {cs : List Value} (h : App lab w d t v n cs) (c : Nat) (hc : look d ds = c) : App (entM ds lab) w c t v n cs := ⟨h.1, fun k hk => by unfold Go.Proofs.Ytgfomedobfaidaa.entM; rw [h.2 k hk]; exact congrArg some hc⟩
/-- How labels come back. -/
structure Back (lab' : Lab) (w' : World) (lab2 : Lab) (bk : List (Nat × Nat)) : Prop where
  u : ∃ U, Stp U lab' w' lab2 w'
  v : Valid lab2 w'
  l : ∀ (c k : Nat), c ≠ 0 → c ∈ keys bk → lab' k = some c → lab2 k = some (look c bk)
theorem Own.back {lab' : Lab} {w' : World} {lab2 : Lab} {bk : List (Nat × Nat)} {c b : Nat} {t : TypeId} {arr : Array Value} (h : Own lab' w' c b t arr) (B : Back lab' w' lab2 bk) (d : Nat) (hd : look c bk = d := by rfl) (h0 : c ≠ 0 := by decide) (hk : c ∈ keys bk := by decide) : Own lab2 w' d b t arr := ⟨hd ▸ B.l c b h0 hk h.1, h.2⟩
theorem App.back {lab' : Lab} {w' : World} {lab2 : Lab} {bk : List (Nat × Nat)} {c n : Nat} {t : TypeId} {v : Value} {cs : List Value} (h : App lab' w' c t v n cs) (B : Back lab' w' lab2 bk) (d : Nat) (hd : look c bk = d := by rfl) (h0 : c ≠ 0 := by decide) (hk : c ∈ keys bk := by decide) : App lab2 w' d t v n cs := ⟨h.1, fun k e => hd ▸ B.l c k h0 hk (h.2 k e)⟩
theorem leaveM {T : List Nat} {ds : List (Nat × Nat)} {lab lab' : Lab} {w w' : World} (bk : List (Nat × Nat)) (s : Stp T (entM ds lab) w lab' w') (hT : (0 : Nat) ∉ T) (hv : Valid lab w) (hv' : Valid lab' w') :
    ∃ lab2, Stp (keys ds) lab w lab2 w' ∧ Back lab' w' lab2 bk := by
  let bck : Option Nat → Option Nat := fun o => o.bind fun c => if c ∈ keys bk then some (look c bk) else none
  let lab2 : Lab := fun k => if k < w.heap.size then (match lab k with
    | none => none
    | some d => if d ∈ keys ds then bck (lab' k) else some d) else bck (lab' k)
  have hout : ∀ k d, k < w.heap.size → lab k = some d → d ∉ keys ds → lab' k = some 0 ∧ w'.heap[k]? = w.heap[k]? := fun k d hk e hd =>
    s.own k 0 hk (by simp [entM, e, look_not hd]) hT
  have hnone : ∀ k, lab' k = none → lab2 k = none := by
    intro k hk
    by_cases hlt : k < w.heap.size
    · simp only [lab2, if_pos hlt]
      cases hl : lab k with
      | none => rfl
      | some d =>
        by_cases hd : d ∈ keys ds
        · simp [hd, hk, bck]
        · have := (hout k d hlt hl hd).1
          rw [hk] at this; cases this
    · simp [lab2, hlt, hk, bck]
  refine ⟨lab2, ⟨s.os, s.tape, s.output, s.size, fun k hk e => ?_, fun k d hk e hd => ?_⟩, ⟨(List.range w'.heap.size).filterMap lab', rfl, rfl, rfl, Nat.le_refl _, fun k hk e => ⟨hnone k e, rfl⟩, fun k d hk e hd => absurd (List.mem_filterMap.2 ⟨k, by simpa using hk, e⟩) hd⟩, fun k hk => hnone k (hv' k hk), fun c k h0 hc e => ?_⟩
  · refine ⟨by simp only [lab2, if_pos hk, e], (s.free k hk (entM_none.2 e)).2⟩
  · refine ⟨by simp only [lab2, if_pos hk, e]; rw [if_neg hd], (hout k d hk e hd).2⟩
  · by_cases hlt : k < w.heap.size
    · simp only [lab2, if_pos hlt]
      cases hl : lab k with
      | none =>
        have := (s.free k hlt (entM_none.2 hl)).1
        rw [e] at this; cases this
      | some d =>
        by_cases hd : d ∈ keys ds
        · simp [hd, e, bck, hc]
        · have := (hout k d hlt hl hd).1
          rw [e] at this; exact absurd (Option.some.inj this) h0
    · simp [lab2, hlt, e, bck, hc]
/-- The entry of a call that writes nothing of its caller's, and its end. -/
theorem enter0 {lab : Lab} {w : World} (hv : Valid lab w) : ∃ L, Valid L w ∧ (∃ U, Stp U lab w L w) ∧ ∀ {T : List Nat} {lab' : Lab} {w' : World}, Stp T L w lab' w' → (0 : Nat) ∉ T → (∃ U, Stp U lab' w' lab w') ∧ Below w.heap.size w w' :=
  ⟨ent lab, hv.ent, ent_step lab w, fun s hT => ⟨s.out hT hv, s.leave hT⟩⟩
/-- What a call that writes comes to. -/
def Eff (T : List Nat) (lab : Lab) (w : World) (R : VP) (e : Ending) (w' : World) : Prop := ∃ v lab', e = .returned v ∧ R lab' w' v ∧ Stp T lab w lab' w' ∧ Valid lab' w'
/-- A call that writes nothing is one of these. -/
theorem Eff.of {lab : Lab} {w : World} {V : VP} {e : Ending} {w' : World} (hv : Valid lab w) (h : ∃ v, e = .returned v ∧ V lab w' v ∧ Below w.heap.size w w') : Eff [] lab w V e w' := by
  obtain ⟨v, h1, h2, h3⟩ := h
  exact ⟨v, lab, h1, h2, Stp.below h3, hv.below h3.size⟩

/-- The entry of a call that writes blocks of its caller's, and its end. -/
theorem enterM {lab : Lab} {w : World} (ds : List (Nat × Nat)) (hv : Valid lab w) : ∃ L, Valid L w ∧ (∃ U, Stp U lab w L w) ∧ (∀ {d b : Nat} {t : TypeId} {arr : Array Value} (c : Nat), look d ds = c → Own lab w d b t arr → Own L w c b t arr) ∧ (∀ {d n : Nat} {t : TypeId} {v : Value} {cs : List Value} (c : Nat), look d ds = c → App lab w d t v n cs → App L w c t v n cs) ∧
    ∀ {T : List Nat} {lab' : Lab} {w' : World} (bk : List (Nat × Nat)), Stp T L w lab' w' → (0 : Nat) ∉ T → Valid lab' w' → ∃ lab2, Stp (keys ds) lab w lab2 w' ∧ Back lab' w' lab2 bk :=
  ⟨entM ds lab, hv.entM, entM_step ds lab w, fun c hc h => h.entM c hc, fun c hc h => h.entM c hc, fun bk s hT hv' => leaveM bk s hT hv hv'⟩

/-! ### rules, shortly -/
section
variable {ds : List Deferred} {P : Program} {N : Nat} {ops : Array Oper} {Q : Exit → Act → World → Prop} {l : List (Nat × Value)} {rest : List Oper} {w : World} {lab : Lab} {ty : TypeId} {pos : String} {af : Array Edge}

theorem sv {d : Nat} {op : Op} {v : Value} {w' : World} (hr : Does P l op ty w v w') (h : Seq ds P N ops Q ((d, v) :: l) rest w') (hd : d < N := by decide) : Seq ds P N ops Q l (⟨some d, op, ty, pos, af, none⟩ :: rest) w := Seq.val hr hd h
theorem sbox {d : Nat} (k : Nat) {t : TypeId} {x : Operand} {v : Value} (cs : List Value) (hv : Valid lab w) (hx : ev l x = some v) (hc : v.cells = cs.toArray)
    (h : ∀ b lab' w', Own lab' w' k b t cs.toArray → Stp [] lab w lab' w' → Valid lab' w' → Seq ds P N ops Q ((d, .pointer (some ⟨b, 0, none⟩)) :: l) rest w') (hd : d < N := by decide) : Seq ds P N ops Q l (⟨some d, .box t x, ty, pos, af, none⟩ :: rest) w := Seq.box cs hv hx hc hd fun lab' w' b => h b lab' w'
theorem salloc {d : Nat} (k : Nat) {t : TypeId} {ag : Bool} {n by_ : Nat} {z : Value} (cs : List Value) (hv : Valid lab w) (ht : tyRow P t = some (ag, n, some z, by_)) (hc : z.cells = cs.toArray)
    (h : ∀ b lab' w', Own lab' w' k b t cs.toArray → Stp [] lab w lab' w' → Valid lab' w' → Seq ds P N ops Q ((d, .pointer (some ⟨b, 0, none⟩)) :: l) rest w') (hd : d < N := by decide) : Seq ds P N ops Q l (⟨some d, .alloc t, ty, pos, af, none⟩ :: rest) w := Seq.alloc cs hv ht hc hd fun lab' w' b => h b lab' w'
theorem sstore {k b o : Nat} {t t' : TypeId} {x y : Operand} {v : Value} {ag : Bool} {n by_ : Nat} {z : Option Value} {arr : Array Value} (arr' : List Value) (hv : Valid lab w) (hO : Own lab w k b t' arr) (ht : tyRow P t = some (ag, n, z, by_)) (hx : ev l x = some (.pointer (some ⟨b, o, none⟩))) (hy : ev l y = some v)
    (hn : v.cells.size = n) (ho : o + n ≤ arr.size) (h1 : v.cells.toList.all (·.oneCell') = true) (ha : (arr.toList.take o ++ v.cells.toList ++ arr.toList.drop (o + n)).toArray = arr'.toArray)
    (h : ∀ w', Own lab w' k b t' arr'.toArray → Stp [k] lab w lab w' → Valid lab w' → Seq ds P N ops Q l rest w') : Seq ds P N ops Q l (⟨none, .store t x y, ty, pos, af, none⟩ :: rest) w := Seq.store arr' hv hO ht hx hy hn ho h1 ha h
theorem scall {d : Nat} {f : Nat} {xs : List Operand} {tys : Array TypeId} {vs : List Value} {V : VP} (hf : Callable P f) (hv : Valid lab w) (hx : evs l xs = some vs)
    (hc : Calls P f vs.toArray w (fun e w' => ∃ v, e = .returned v ∧ V lab w' v ∧ Below w.heap.size w w'))
    (h : ∀ v w', V lab w' v → Stp [] lab w lab w' → Valid lab w' → Seq ds P N ops Q ((d, v) :: l) rest w') (hd : d < N := by decide) : Seq ds P N ops Q l (⟨some d, .call ⟨.value (.func f), xs.toArray, tys⟩, ty, pos, af, none⟩ :: rest) w := Seq.callS hf hv hx hd hc h
theorem scall_ {f : Nat} {xs : List Operand} {tys : Array TypeId} {vs : List Value} {V : VP} (hf : Callable P f) (hv : Valid lab w) (hx : evs l xs = some vs)
    (hc : Calls P f vs.toArray w (fun e w' => ∃ v, e = .returned v ∧ V lab w' v ∧ Below w.heap.size w w'))
    (h : ∀ v w', V lab w' v → Stp [] lab w lab w' → Valid lab w' → Seq ds P N ops Q l rest w') : Seq ds P N ops Q l (⟨none, .call ⟨.value (.func f), xs.toArray, tys⟩, ty, pos, af, none⟩ :: rest) w :=
  Seq.call_ hf hx hc fun v w' ⟨h1, h2⟩ => h v w' h1 (Stp.below h2) (hv.below h2.size)
theorem scallE {d : Nat} {f : Nat} {xs : List Operand} {tys : Array TypeId} {vs : List Value} {R : VP} {T : List Nat} (hf : Callable P f) (hx : evs l xs = some vs)
    (hc : Calls P f vs.toArray w (Eff T lab w R))
    (h : ∀ v lab' w', R lab' w' v → Stp T lab w lab' w' → Valid lab' w' → Seq ds P N ops Q ((d, v) :: l) rest w') (hd : d < N := by decide) : Seq ds P N ops Q l (⟨some d, .call ⟨.value (.func f), xs.toArray, tys⟩, ty, pos, af, none⟩ :: rest) w :=
  Seq.call (R := fun v w' => ∃ lab', R lab' w' v ∧ Stp T lab w lab' w' ∧ Valid lab' w') hf hx hd (Calls.mono hc fun _ _ ⟨v, lab', h0, h1⟩ => ⟨v, h0, lab', h1⟩) fun v w' ⟨lab', h1, h2, h3⟩ => h v lab' w' h1 h2 h3
theorem scallE_ {f : Nat} {xs : List Operand} {tys : Array TypeId} {vs : List Value} {R : VP} {T : List Nat} (hf : Callable P f) (hx : evs l xs = some vs)
    (hc : Calls P f vs.toArray w (Eff T lab w R))
    (h : ∀ v lab' w', R lab' w' v → Stp T lab w lab' w' → Valid lab' w' → Seq ds P N ops Q l rest w') : Seq ds P N ops Q l (⟨none, .call ⟨.value (.func f), xs.toArray, tys⟩, ty, pos, af, none⟩ :: rest) w :=
  Seq.call_ (R := fun v w' => ∃ lab', R lab' w' v ∧ Stp T lab w lab' w' ∧ Valid lab' w') hf hx (Calls.mono hc fun _ _ ⟨v, lab', h0, h1⟩ => ⟨v, h0, lab', h1⟩) fun v w' ⟨lab', h1, h2, h3⟩ => h v lab' w' h1 h2 h3
/-- A region, and what follows it. -/
theorem rsr {id : Nat} {os : List Oper} {y : Code} (h : Seq ds P N os.toArray (Exit.then (y.wp P Q) Q) l os w) : Run ds P N Q (.seq (.region id os.toArray false) y) l w := Run.seq (Run.region h)
theorem nsr {id : Nat} {os : List Oper} {y : Code} (h : Seq ds P N os.toArray (Exit.then (y.wp P Q) Q) l os w) : Seq ds P N ops (Exit.then ((Code.seq (.region id os.toArray false) y).wp P Q) Q) l [] w := Seq.next (Run.seq (Run.region h))

/-! ### a region whose order is open -/
inductive PV where
  | ex (u : Value)
  | v (V : VP)
def PV.vp : PV → VP
  | .ex u => Is u
  | .v V => V
def nth : List PV → Nat → Option PV
  | [], _ => none
  | x :: _, 0 => some x
  | _ :: r, n + 1 => nth r n
def phiV (Φ : List PV) (i : Nat) : VP := match nth Φ i with
  | some x => x.vp
  | none => fun _ _ _ => True
def Ask (Φ : List PV) (lab : Lab) (w : World) (K : List (Nat × Value) → Prop) : List (Nat × Nat) → List (Nat × Value) → Prop
  | [], l => K l
  | (j, d) :: r, l => match nth Φ j with
    | some (.ex u) => Ask Φ lab w K r ((d, u) :: l)
    | some (.v V) => ∀ v, V lab w v → Ask Φ lab w K r ((d, v) :: l)
    | none => ∀ v, Ask Φ lab w K r ((d, v) :: l)
theorem Ask.elim {Φ : List PV} {lab : Lab} {w : World} {K : List (Nat × Value) → Prop} {a : Act} : ∀ {us : List (Nat × Nat)} {l : List (Nat × Value)}, Ask Φ lab w K us l → Fr ds N l a → (∀ j d, (j, d) ∈ us → ∃ v, a.tmps[d]? = some v ∧ phiV Φ j lab w v) → ∃ l', Fr ds N l' a ∧ K l'
  | [], l, h, hf, _ => ⟨l, hf, h⟩
  | (j, d) :: r, l, h, hf, hl => by
    obtain ⟨v, hv, hp⟩ := hl j d (by simp)
    have hr : ∀ j d, (j, d) ∈ r → ∃ v, a.tmps[d]? = some v ∧ phiV Φ j lab w v := fun j d hm => hl j d (List.mem_cons_of_mem _ hm)
    unfold Ask at h
    unfold phiV at hp
    split at h
    · rename_i u hn
      rw [hn] at hp
      have : v = u := hp
      subst this
      exact Ask.elim h (hf.ext hv) hr
    · rename_i V hn
      rw [hn] at hp
      exact Ask.elim (h v hp) (hf.ext hv) hr
    · exact Ask.elim (h v) (hf.ext hv) hr
class PerT (T : List Nat) (V : VP) : Prop where
  p : ∀ {lab : Lab} {w : World} {lab' : Lab} {w' : World} {v : Value}, Stp T lab w lab' w' → V lab w v → V lab' w' v
instance {T : List Nat} {V : VP} [h : Per V] : PerT T V := ⟨fun s q => h.p.step s q⟩
instance (k : Nat) (t : TypeId) (cs : List Value) : PerT [] (BoxF k t cs) := ⟨fun s h => (BoxF.pers k t cs).step s h⟩
/-- A row of the call's own that grows. -/
def AppF (d : Nat) (t : TypeId) (n : Nat) (cs : List Value) : VP := fun lab w v => App lab w d t v n cs
instance (d : Nat) (t : TypeId) (n : Nat) (cs : List Value) : PerT [] (AppF d t n cs) := ⟨fun s h => h.lift s (by simp)⟩
class PerL (T : List Nat) (Φ : List PV) : Prop where
  p : ∀ x ∈ Φ, ∀ {lab : Lab} {w : World} {lab' : Lab} {w' : World} {v : Value}, Stp T lab w lab' w' → x.vp lab w v → x.vp lab' w' v
instance {T : List Nat} : PerL T [] := ⟨fun _ h => by cases h⟩
instance {T : List Nat} {u : Value} {r : List PV} [h : PerL T r] : PerL T (.ex u :: r) := ⟨fun x hx => by
  rcases List.mem_cons.1 hx with rfl | hx
  · intro lab w lab' w' v s q; exact q
  · exact h.p x hx⟩
instance {T : List Nat} {V : VP} {r : List PV} [k : PerT T V] [h : PerL T r] : PerL T (.v V :: r) := ⟨fun x hx => by
  rcases List.mem_cons.1 hx with rfl | hx
  · intro lab w lab' w' v s q; exact k.p s q
  · exact h.p x hx⟩
theorem nth_mem : ∀ {Φ : List PV} {i : Nat} {x : PV}, nth Φ i = some x → x ∈ Φ
  | [], i, x, h => by simp [nth] at h
  | y :: r, 0, x, h => by simp [nth] at h; simp [h]
  | y :: r, i + 1, x, h => List.mem_cons_of_mem _ (nth_mem (Φ := r) (by simpa [nth] using h))
theorem phiV_per {T : List Nat} {Φ : List PV} (h : PerL T Φ) (i : Nat) {lab : Lab} {w : World} {lab' : Lab} {w' : World} {v : Value} (s : Stp T lab w lab' w') (q : phiV Φ i lab w v) : phiV Φ i lab' w' v := by
  unfold phiV at q ⊢
  cases hn : nth Φ i with
  | some x => rw [hn] at q; exact h.p x (nth_mem hn) s q
  | none => trivial
def skipL : Nat → List PV → List PV
  | _, [] => []
  | 0, _ :: r => .ex undef :: r
  | n + 1, x :: r => x :: skipL n r
theorem nth_skip : ∀ {Φ : List PV} {z i : Nat}, i ≠ z → nth (skipL z Φ) i = nth Φ i
  | [], _, _, _ => by simp [skipL]
  | x :: r, 0, 0, h => absurd rfl h
  | x :: r, 0, i + 1, _ => by simp [skipL, nth]
  | x :: r, z + 1, 0, _ => by simp [skipL, nth]
  | x :: r, z + 1, i + 1, h => by simp only [skipL, nth]; exact nth_skip (by omega)
theorem perT_skip {T : List Nat} {Φ Ψ : List PV} {m : Nat} (z : Nat) (h : PerL T Ψ) (e : skipL z Φ = Ψ) : ∀ i, i < m → i ≠ z → ∀ {lab w lab' w' v}, Stp T lab w lab' w' → phiV Φ i lab w v → phiV Φ i lab' w' v := by
  intro i _ hz lab w lab' w' v s q
  subst e
  have e1 : phiV (skipL z Φ) i = phiV Φ i := by unfold phiV; rw [nth_skip hz]
  rw [← e1] at q ⊢
  exact phiV_per h i s q
/-- What an operation waits for. -/
def depOk (ops : Array Oper) (i : Nat) (deps : List (Nat × Nat)) : Bool := deps.all fun p => waits ops i p.1 && (match dstOf ops p.1 with | some d => Nat.beq d p.2 | none => false)
def usOk (ops : Array Oper) (m : Nat) (us : List (Nat × Nat)) : Bool := us.all fun p => Nat.blt p.1 m && (match dstOf ops p.1 with | some d => Nat.beq d p.2 | none => false)
/-- The law of an operation, in the state at hand. -/
def OpL (ds : List Deferred) (P : Program) (N : Nat) (ops : Array Oper) (Q : Exit → Act → World → Prop) (l : List (Nat × Value)) (lab : Lab) (w : World) (Φ : List PV) (T U : List Nat) (i : Nat) : Prop := ∀ w0, Stp [] lab w lab w0 → OpLaw ds P N ops Q l lab w0 (phiV Φ) T U i
theorem openCore (m : Nat) {Φ : List PV} (us : List (Nat × Nat)) (hok : bodyOk ops m l = true) (hus : usOk ops m us = true) (hv : Valid lab w) [hper : PerL [] Φ]
    (hlaw : LawsFrom (fun i => OpL ds P N ops Q l lab w Φ [] [] i) 0 m)
    (htail : ∀ lab' w', Valid lab' w' → Stp [] lab w lab' w' → Ask Φ lab' w' (fun l' => Seq ds P N ops Q l' (ops.toList.drop m) w') us l) : ∀ a, Fr ds N l a → wpAny P .any ops Q ops.size (Array.replicate ops.size false) a { w with drawn := w.drawn + 1 } := by
  refine anyCore hok hv (phiV Φ) (fun i _ {_ _ _ _ _} s q => phiV_per hper i s q) (fun w0 s0 i hi => laws hlaw i hi w0 s0) ?_
  intro lab' w' a hv' s hf hl
  obtain ⟨l', hf', hK⟩ := Ask.elim (htail lab' w' hv' s) hf fun j d hm => by
    have h1 := List.all_eq_true.1 hus _ hm
    simp only [Bool.and_eq_true] at h1
    have hj : j < m := Nat.le_of_ble_eq_true h1.1
    have hd : dstOf ops j = some d := by
      have h2 := h1.2
      split at h2
      · rename_i d' hd'; rw [hd', Nat.eq_of_beq_eq_true h2]
      · cases h2
    exact hl j hj d hd
  exact hK a hf'
theorem Run.open {id : Nat} (m : Nat) {Φ : List PV} (us : List (Nat × Nat)) (hm : P.follows .mixedOrders = true) (hok : bodyOk ops m l = true) (hus : usOk ops m us = true) (hv : Valid lab w) [hper : PerL [] Φ]
    (hlaw : LawsFrom (fun i => OpL ds P N ops Q l lab w Φ [] [] i) 0 m)
    (htail : ∀ lab' w', Valid lab' w' → Stp [] lab w lab' w' → Ask Φ lab' w' (fun l' => Seq ds P N ops Q l' (ops.toList.drop m) w') us l) : Run ds P N Q (.region id ops true) l w := fun a ha => wp_region_any hm (openCore m us hok hus hv hlaw htail a ha)
/-- .. where one operation writes. -/
theorem Run.openOne {id : Nat} (m z : Nat) (T : List Nat) {Φ : List PV} (us : List (Nat × Nat)) (hm : P.follows .mixedOrders = true) (hok : bodyOk ops m l = true) (hus : usOk ops m us = true) (hv : Valid lab w) [hper : PerL [] Φ]
    (hT : ∀ i, i < m → i ≠ z → ∀ {lab w lab' w' v}, Stp T lab w lab' w' → phiV Φ i lab w v → phiV Φ i lab' w' v)
    (hlaw : LawsFrom (fun i => if i = z then OpL ds P N ops Q l lab w Φ [] T i else OpL ds P N ops Q l lab w Φ T [] i) 0 m)
    (htail : ∀ lab' w', Valid lab' w' → Stp T lab w lab' w' → Ask Φ lab' w' (fun l' => Seq ds P N ops Q l' (ops.toList.drop m) w') us l) : Run ds P N Q (.region id ops true) l w := by
  refine Run.anyOne z T hm hok hv (phiV Φ) (fun i _ {_ _ _ _ _} s q => phiV_per hper i s q) hT (fun w0 s0 i hi => ?_) ?_
  · have := laws hlaw i hi
    split
    · rename_i e; rw [if_pos e] at this; exact this w0 s0
    · rename_i e; rw [if_neg e] at this; exact this w0 s0
  · intro lab' w' a hv' s hf hl
    obtain ⟨l', hf', hK⟩ := Ask.elim (htail lab' w' hv' s) hf fun j d hm => by
      have h1 := List.all_eq_true.1 hus _ hm
      simp only [Bool.and_eq_true] at h1
      have hj : j < m := Nat.le_of_ble_eq_true h1.1
      have hd : dstOf ops j = some d := by
        have h2 := h1.2
        split at h2
        · rename_i d' hd'; rw [hd', Nat.eq_of_beq_eq_true h2]
        · cases h2
      exact hl j hj d hd
    exact hK a hf'
theorem dep_left {Φ : List PV} {i : Nat} {deps : List (Nat × Nat)} (hdep : depOk ops i deps = true) {lab : Lab} {w : World} {a : Act} (hl : ∀ j, waits ops i j = true → Left ops (phiV Φ) j lab w a) : ∀ j d, (j, d) ∈ deps → ∃ v, a.tmps[d]? = some v ∧ phiV Φ j lab w v := fun j d hm => by
  have h1 := List.all_eq_true.1 hdep _ hm
  simp only [Bool.and_eq_true] at h1
  have hd : dstOf ops j = some d := by
    have h2 := h1.2
    split at h2
    · rename_i d' hd'; rw [hd', Nat.eq_of_beq_eq_true h2]
    · cases h2
  exact hl j h1.1 d hd
theorem append_lawN {k : Nat} {t e : TypeId} {x y : Operand} {ag : Bool} {by_ : Nat} {z : Value} {n : Nat} {v : Value} {cs : List Value} {A : Option Addr} {m c : Nat} {Ψ : VP} (ys : List Value) (hv : Valid lab w) (h : App lab w k e v n cs) (ht : P.underlying t = some (.slice e)) (he : tyRow P e = some (ag, 1, some z, by_)) (hz : z.cells.size = 1) (hx : ev l x = some v) (hy : ev l y = some (.slice A m c)) (hm : ys.length = m) (hr : RowAt lab w A ys) (h1 : ∀ u ∈ ys, u.oneCell' = true) (hb : (n + m) * by_ ≤ 140737488355328) (h63 : n + m ≤ 9223372036854775807)
    (hk : ∀ lab' w' v', App lab' w' k e v' (n + m) (cs ++ ys) → Ψ lab' w' v') :
    ∃ v' lab' w', Does P l (.call ⟨.builtin .append, #[x, y], #[t, t]⟩) ty w v' w' ∧ Valid lab' w' ∧ Stp [k] lab w lab' w' ∧ Ψ lab' w' v' := by
  obtain ⟨v', w', lab', h1', h2', h3', h4'⟩ := append_ex (P := P) (ty := ty) ys hv h ht he hz hx hy hm hr h1 hb h63
  exact ⟨v', lab', w', h1', h4', h3', hk _ _ _ h2'⟩
theorem build_lawN {t e : TypeId} {ag : Bool} {s by_ : Nat} {z : Value} {len : Nat} {parts : Array (Nat × Operand)} {Ψ : VP} (pv : List (Nat × Value)) (cs : List Value) (hv : Valid lab w) (ht : P.underlying t = some (.slice e)) (he : tyRow P e = some (ag, s, some z, by_)) (hl : len * s ≤ 16777216) (hl0 : len * s ≠ 0)
    (hp : parts.toList.map (fun p => (p.1, ev l p.2)) = pv.map (fun p => (p.1, some p.2))) (hf : Instr.fill (fun i => some (i * s, s)) ((Array.range (len * s)).map (fun j => z.cells[j % z.cells.size]!)) pv = some cs.toArray)
    (hk : ∀ b w', RowAt lab w' (some ⟨b, 0, none⟩) cs → Stp [] lab w lab w' → Ψ lab w' (.slice (some ⟨b, 0, none⟩) len len)) :
    ∃ v' lab' w', Does P l (.buildSlice t len parts) ty w v' w' ∧ Valid lab' w' ∧ Stp [] lab w lab' w' ∧ Ψ lab' w' v' := by
  obtain ⟨b, w', h1, h2, h3, h4⟩ := build_ex (P := P) (ty := ty) pv cs hv ht he hl hl0 hp hf
  exact ⟨_, lab, w', h1, h4, h3, hk b w' h2 h3⟩
variable {Φ : List PV} {T U : List Nat} {i d : Nat} {op : Op}
/-- An operation that may lay blocks. -/
theorem oN (deps : List (Nat × Nat)) (ho : ops[i]? = some ⟨some d, op, ty, pos, af, none⟩) (hdep : depOk ops i deps = true)
    (h : ∀ lab' w', Valid lab' w' → Stp T lab w lab' w' → Ask Φ lab' w' (fun l' => ∃ v lab2 w2, Does P l' op ty w' v w2 ∧ Valid lab2 w2 ∧ Stp U lab' w' lab2 w2 ∧ phiV Φ i lab2 w2 v) deps l) (hd : d < N := by decide) : OpL ds P N ops Q l lab w Φ T U i := fun w0 s0 =>
  law_val ho hd fun lab' w' a hv hs hf hl => by
    obtain ⟨l', hf', v, lab2, w2, h1, h2, h3, h4⟩ := Ask.elim (h lab' w' hv ((s0.trans hs).more (by simp))) hf (dep_left hdep hl)
    exact ⟨l', v, lab2, w2, hf', h1, h2, h3, h4⟩
/-- An operation that only reads. -/
theorem oP (deps : List (Nat × Nat)) (ho : ops[i]? = some ⟨some d, op, ty, pos, af, none⟩) (hdep : depOk ops i deps = true)
    (h : ∀ lab' w', Valid lab' w' → Stp T lab w lab' w' → Ask Φ lab' w' (fun l' => ∃ v, Does P l' op ty w' v w' ∧ phiV Φ i lab' w' v) deps l) (hd : d < N := by decide) : OpL ds P N ops Q l lab w Φ T [] i := fun w0 s0 =>
  law_val ho hd fun lab' w' a hv hs hf hl => by
    obtain ⟨l', hf', v, h1, h4⟩ := Ask.elim (h lab' w' hv ((s0.trans hs).more (by simp))) hf (dep_left hdep hl)
    exact ⟨l', v, lab', w', hf', h1, hv, Stp.refl _ _, h4⟩
/-- .. whose value is known out of what it waits for. -/
theorem oX {u : Value} (deps : List (Nat × Nat)) (ho : ops[i]? = some ⟨some d, op, ty, pos, af, none⟩) (hdep : depOk ops i deps = true) (hu : nth Φ i = some (.ex u))
    (h : ∀ lab' w', Ask Φ lab' w' (fun l' => Does P l' op ty w' u w') deps l) (hd : d < N := by decide) : OpL ds P N ops Q l lab w Φ T [] i := fun w0 s0 =>
  law_val ho hd fun lab' w' a hv hs hf hl => by
    obtain ⟨l', hf', h1⟩ := Ask.elim (h lab' w') hf (dep_left hdep hl)
    exact ⟨l', u, lab', w', hf', h1, hv, Stp.refl _ _, by unfold phiV; rw [hu]; rfl⟩
/-- A call. -/
theorem oC {f : Nat} {xs : List Operand} {tys : Array TypeId} (deps : List (Nat × Nat)) (ho : ops[i]? = some ⟨some d, .call ⟨.value (.func f), xs.toArray, tys⟩, ty, pos, af, none⟩) (hdep : depOk ops i deps = true) (hf : Callable P f)
    (h : ∀ lab' w', Valid lab' w' → Stp T lab w lab' w' → Ask Φ lab' w' (fun l' => ∃ vs, evs l' xs = some vs ∧ Calls P f vs.toArray w' (fun e w2 => ∃ v, e = .returned v ∧ phiV Φ i lab' w2 v ∧ Below w'.heap.size w' w2)) deps l) (hd : d < N := by decide) : OpL ds P N ops Q l lab w Φ T [] i := fun w0 s0 =>
  law_call ho hd hf fun lab' w' a hv hs hfr hl => by
    obtain ⟨l', hf', vs, h1, h4⟩ := Ask.elim (h lab' w' hv ((s0.trans hs).more (by simp))) hfr (dep_left hdep hl)
    exact ⟨l', vs, hf', h1, h4⟩
/-! .. behind a guard -/
theorem guardIs {g : Nat} {b b' : Bool} (hg : nth Φ g = some (.ex (.bool b'))) (he : b' = b) : ∀ (lab : Lab) (w : World) (v : Value), phiV Φ g lab w v → v = .bool b := fun _ _ _ h => by
  unfold phiV at h; rw [hg] at h; subst he; exact h
theorem oP_on {g dg : Nat} {b b' : Bool} (deps : List (Nat × Nat)) (ho : ops[i]? = some ⟨some d, op, ty, pos, af, some (g, b)⟩) (hdg : dstOf ops g = some dg) (hw : waits ops i g = true) (hg : nth Φ g = some (.ex (.bool b'))) (he : b' = b) (hdep : depOk ops i deps = true)
    (h : ∀ lab' w', Valid lab' w' → Stp T lab w lab' w' → Ask Φ lab' w' (fun l' => ∃ v, Does P l' op ty w' v w' ∧ phiV Φ i lab' w' v) deps l) (hd : d < N := by decide) : OpL ds P N ops Q l lab w Φ T [] i := fun w0 s0 =>
  law_val_on ho hd hdg hw (guardIs hg he) fun lab' w' a hv hs hf hl => by
    obtain ⟨l', hf', v, h1, h4⟩ := Ask.elim (h lab' w' hv ((s0.trans hs).more (by simp))) hf (dep_left hdep hl)
    exact ⟨l', v, lab', w', hf', h1, hv, Stp.refl _ _, h4⟩
theorem oN_on {g dg : Nat} {b b' : Bool} (deps : List (Nat × Nat)) (ho : ops[i]? = some ⟨some d, op, ty, pos, af, some (g, b)⟩) (hdg : dstOf ops g = some dg) (hw : waits ops i g = true) (hg : nth Φ g = some (.ex (.bool b'))) (he : b' = b) (hdep : depOk ops i deps = true)
    (h : ∀ lab' w', Valid lab' w' → Stp T lab w lab' w' → Ask Φ lab' w' (fun l' => ∃ v lab2 w2, Does P l' op ty w' v w2 ∧ Valid lab2 w2 ∧ Stp U lab' w' lab2 w2 ∧ phiV Φ i lab2 w2 v) deps l) (hd : d < N := by decide) : OpL ds P N ops Q l lab w Φ T U i := fun w0 s0 =>
  law_val_on ho hd hdg hw (guardIs hg he) fun lab' w' a hv hs hf hl => by
    obtain ⟨l', hf', v, lab2, w2, h1, h2, h3, h4⟩ := Ask.elim (h lab' w' hv ((s0.trans hs).more (by simp))) hf (dep_left hdep hl)
    exact ⟨l', v, lab2, w2, hf', h1, h2, h3, h4⟩
theorem oC_on {f : Nat} {xs : List Operand} {tys : Array TypeId} {g dg : Nat} {b b' : Bool} (deps : List (Nat × Nat)) (ho : ops[i]? = some ⟨some d, .call ⟨.value (.func f), xs.toArray, tys⟩, ty, pos, af, some (g, b)⟩) (hdg : dstOf ops g = some dg) (hw : waits ops i g = true) (hg : nth Φ g = some (.ex (.bool b'))) (he : b' = b) (hdep : depOk ops i deps = true) (hf : Callable P f)
    (h : ∀ lab' w', Valid lab' w' → Stp T lab w lab' w' → Ask Φ lab' w' (fun l' => ∃ vs, evs l' xs = some vs ∧ Calls P f vs.toArray w' (fun e w2 => ∃ v, e = .returned v ∧ phiV Φ i lab' w2 v ∧ Below w'.heap.size w' w2)) deps l) (hd : d < N := by decide) : OpL ds P N ops Q l lab w Φ T [] i := fun w0 s0 =>
  law_call_on ho hd hdg hw (guardIs hg he) hf fun lab' w' a hv hs hfr hl => by
    obtain ⟨l', hf', vs, h1, h4⟩ := Ask.elim (h lab' w' hv ((s0.trans hs).more (by simp))) hfr (dep_left hdep hl)
    exact ⟨l', vs, hf', h1, h4⟩
theorem oOff {g dg : Nat} {b b' c : Bool} (ho : ops[i]? = some ⟨some d, op, ty, pos, af, some (g, c)⟩) (hdg : dstOf ops g = some dg) (hw : waits ops i g = true) (hg : nth Φ g = some (.ex (.bool b'))) (he : b' = b) (hne : (b == c) = false) (hu : nth Φ i = some (.ex undef)) (hd : d < N := by decide) : OpL ds P N ops Q l lab w Φ T [] i := fun w0 s0 =>
  law_off ho hd hdg hw (guardIs hg he) hne (fun _ _ => by unfold phiV; rw [hu]; rfl)
theorem oOffU {g dg : Nat} {c : Bool} (ho : ops[i]? = some ⟨some d, op, ty, pos, af, some (g, c)⟩) (hdg : dstOf ops g = some dg) (hw : waits ops i g = true) (hg : nth Φ g = some (.ex undef)) (hu : nth Φ i = some (.ex undef)) (hd : d < N := by decide) : OpL ds P N ops Q l lab w Φ T [] i := fun w0 s0 =>
  law_off_undef ho hd hdg hw (fun _ _ _ h => by unfold phiV at h; rw [hg] at h; exact h) (fun _ _ => by unfold phiV; rw [hu]; rfl)
end
end Go.Proofs.Ytgfomedobfaidaa
