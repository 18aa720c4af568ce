/-
  The row of GroupMultis: that the law answers true of every input; part 2 of 9: what the proof needs, in order.
-/
import Derived.Test.YtgfomedobfaidaaMGroupMultis1
import Derived.LoopIn
import Derived.LoopNIn
import Derived.OwnWalkIn
import Derived.RangeFuncBox
import Derived.RangeFuncLeaves
import Derived.Shelf.Abstract
import Derived.TacticsInMore
import Derived.Test.YtgfomedobfaidaaProg
import Derived.WalkKit
section
set_option linter.unusedVariables false
set_option linter.unusedSimpArgs false
namespace Go.Proofs.Ytgfomedobfaidaa
open Go.RowKit
class Per (V : VP) : Prop where
 p : Pers V
theorem up {V : VP} [h : Per V] {T : List Nat} {lab : Lab} {w : World} {lab' : Lab} {w' : World} {v : Value} (s : Stp T lab w lab' w') (q : V lab w v) : V lab' w' v := h.p.step s q
instance (u : Value) : Per (Is u) := ⟨Is.pers u⟩
instance (x : Nat) : Per (NatV x) := ⟨NatV.pers x⟩
instance (x : List UInt32) : Per (WordsV x) := ⟨WordsV.pers x⟩
instance (x : List UInt8) : Per (BytesV x) := ⟨BytesV.pers x⟩
instance (x : List Bool) : Per (BitsV x) := ⟨BitsV.pers x⟩
instance (x : List (List UInt8)) : Per (RowsV x) := ⟨RowsV.pers x⟩
instance (x : List Nat) : Per (NatsV x) := ⟨NatsV.pers x⟩
instance (x : List (List Bool)) : Per (NumsV x) := ⟨NumsV.pers x⟩
instance (x : Nat) : Per (RingV x) := ⟨RingV.pers x⟩
instance (x : GroupD) : Per (GroupV x) := ⟨GroupV.pers x⟩
instance {V U : VP} [h : Per V] [k : Per U] : Per (And2 V U) := ⟨And2.pers h.p k.p⟩
instance {V U X : VP} [h : Per V] [k : Per U] [j : Per X] : Per (And3 V U X) := ⟨And3.pers h.p k.p j.p⟩
instance (b : Nat) (cs : List Value) : Per (Ro b cs) := ⟨Ro.pers b cs⟩
instance (cs : List Value) (j : Nat) : Per (ElV cs j) := ⟨ElV.pers cs j⟩
def With (V : VP) (R : Lab → World → Prop) : VP := fun lab w v => V lab w v ∧ R lab w
theorem Own.up {T : List Nat} {lab lab' : Lab} {w w' : World} {d b : Nat} {t : TypeId} {arr : Array Value} (h : Own lab w d b t arr) (s : Stp T lab w lab' w') (hd : d ∉ T := by decide) : Own lab' w' d b t arr := h.lift s hd
theorem App.up {T : List Nat} {lab lab' : Lab} {w w' : World} {d n : Nat} {t : TypeId} {v : Value} {cs : List Value} (h : App lab w d t v n cs) (s : Stp T lab w lab' w') (hd : d ∉ T := by decide) : App lab' w' d t v n cs := h.lift s hd
def look (d : Nat) : List (Nat × Nat) → Nat
 | [] => 0
 | (a, b) :: r => bif Nat.beq a d then b else look d r
def keys (ds : List (Nat × Nat)) : List Nat := ds.map (·.1)
theorem look_not {d : Nat} : ∀ {ds : List (Nat × Nat)}, d ∉ keys ds → look d ds = 0
 | [], _ => rfl
 | (a, b) :: r, h => by
  have h1 : d ≠ a := fun e => h (by simp [keys, e])
  have h2 : d ∉ keys r := fun e => h (by simp [keys] at e ⊢; exact .inr e)
  have h3 : Nat.beq a d = false := by
   cases hb : Nat.beq a d with
   | false => rfl
   | true => exact absurd (Nat.eq_of_beq_eq_true hb).symm h1
  simp [look, h3, look_not h2]
def entM (ds : List (Nat × Nat)) (lab : Lab) : Lab := fun k => (lab k).map fun d => look d ds
theorem entM_none {ds : List (Nat × Nat)} {lab : Lab} {k : Nat} : entM ds lab k = none ↔ lab k = none := by unfold entM; cases lab k <;> simp
theorem Valid.entM {ds : List (Nat × Nat)} {lab : Lab} {w : World} (h : Valid lab w) : Valid (entM ds lab) w := fun k hk => entM_none.2 (h k hk)
theorem entM_step (ds : List (Nat × Nat)) (lab : Lab) (w : World) : ∃ U, Stp U lab w (entM ds lab) w :=
 ⟨(List.range w.heap.size).filterMap lab, rfl, rfl, rfl, Nat.le_refl _, fun k hk e => ⟨entM_none.2 e, rfl⟩, fun k d hk e hd => absurd (List.mem_filterMap.2 ⟨k, by simpa using hk, e⟩) hd⟩
theorem Own.entM {ds : List (Nat × Nat)} {lab : Lab} {w : World} {d b : Nat} {t : TypeId} {arr : Array Value} (h : Own lab w d b t arr) (c : Nat) (hc : look d ds = c) : Own (entM ds lab) w c b t arr := ⟨by unfold Go.Proofs.Ytgfomedobfaidaa.entM; rw [h.1]; exact congrArg some hc, h.2⟩
theorem App.entM {ds : List (Nat × Nat)} {lab : Lab} {w : World} {d n : Nat} {t : TypeId} {v : Value} {cs : List Value} (h : App lab w d t v n cs) (c : Nat) (hc : look d ds = c) : App (entM ds lab) w c t v n cs := ⟨h.1, fun k hk => by unfold Go.Proofs.Ytgfomedobfaidaa.entM; rw [h.2 k hk]; exact congrArg some hc⟩
structure Back (lab' : Lab) (w' : World) (lab2 : Lab) (bk : List (Nat × Nat)) : Prop where
 u : ∃ U, Stp U lab' w' lab2 w'
 v : Valid lab2 w'
 l : ∀ (c k : Nat), c ≠ 0 → c ∈ keys bk → lab' k = some c → lab2 k = some (look c bk)
theorem Own.back {lab' : Lab} {w' : World} {lab2 : Lab} {bk : List (Nat × Nat)} {c b : Nat} {t : TypeId} {arr : Array Value} (h : Own lab' w' c b t arr) (B : Back lab' w' lab2 bk) (d : Nat) (hd : look c bk = d := by rfl) (h0 : c ≠ 0 := by decide) (hk : c ∈ keys bk := by decide) : Own lab2 w' d b t arr := ⟨hd ▸ B.l c b h0 hk h.1, h.2⟩
theorem App.back {lab' : Lab} {w' : World} {lab2 : Lab} {bk : List (Nat × Nat)} {c n : Nat} {t : TypeId} {v : Value} {cs : List Value} (h : App lab' w' c t v n cs) (B : Back lab' w' lab2 bk) (d : Nat) (hd : look c bk = d := by rfl) (h0 : c ≠ 0 := by decide) (hk : c ∈ keys bk := by decide) : App lab2 w' d t v n cs := ⟨h.1, fun k e => hd ▸ B.l c k h0 hk (h.2 k e)⟩
theorem leaveM {T : List Nat} {ds : List (Nat × Nat)} {lab lab' : Lab} {w w' : World} (bk : List (Nat × Nat)) (s : Stp T (entM ds lab) w lab' w') (hT : (0 : Nat) ∉ T) (hv : Valid lab w) (hv' : Valid lab' w') :
  ∃ lab2, Stp (keys ds) lab w lab2 w' ∧ Back lab' w' lab2 bk := by
 let bck : Option Nat → Option Nat := fun o => o.bind fun c => if c ∈ keys bk then some (look c bk) else none
 let lab2 : Lab := fun k => if k < w.heap.size then (match lab k with
  | none => none
  | some d => if d ∈ keys ds then bck (lab' k) else some d) else bck (lab' k)
 have hout : ∀ k d, k < w.heap.size → lab k = some d → d ∉ keys ds → lab' k = some 0 ∧ w'.heap[k]? = w.heap[k]? := fun k d hk e hd =>
  s.own k 0 hk (by simp [entM, e, look_not hd]) hT
 have hnone : ∀ k, lab' k = none → lab2 k = none := by
  intro k hk
  by_cases hlt : k < w.heap.size
  ·simp only [lab2, if_pos hlt]
   cases hl : lab k with
   | none => rfl
   | some d =>
    by_cases hd : d ∈ keys ds
    ·simp [hd, hk, bck]
    ·have := (hout k d hlt hl hd).1
     rw [hk] at this; cases this
  ·simp [lab2, hlt, hk, bck]
 refine ⟨lab2, ⟨s.os, s.tape, s.output, s.size, fun k hk e => ?_, fun k d hk e hd => ?_⟩, ⟨(List.range w'.heap.size).filterMap lab', rfl, rfl, rfl, Nat.le_refl _, fun k hk e => ⟨hnone k e, rfl⟩, fun k d hk e hd => absurd (List.mem_filterMap.2 ⟨k, by simpa using hk, e⟩) hd⟩, fun k hk => hnone k (hv' k hk), fun c k h0 hc e => ?_⟩
 ·refine ⟨by simp only [lab2, if_pos hk, e], (s.free k hk (entM_none.2 e)).2⟩
 ·refine ⟨by simp only [lab2, if_pos hk, e]; rw [if_neg hd], (hout k d hk e hd).2⟩
 ·by_cases hlt : k < w.heap.size
  ·simp only [lab2, if_pos hlt]
   cases hl : lab k with
   | none =>
    have := (s.free k hlt (entM_none.2 hl)).1
    rw [e] at this; cases this
   | some d =>
    by_cases hd : d ∈ keys ds
    ·simp [hd, e, bck, hc]
    ·have := (hout k d hlt hl hd).1
     rw [e] at this; exact absurd (Option.some.inj this) h0
  ·simp [lab2, hlt, e, bck, hc]
theorem enter0 {lab : Lab} {w : World} (hv : Valid lab w) : ∃ L, Valid L w ∧ (∃ U, Stp U lab w L w) ∧ ∀ {T : List Nat} {lab' : Lab} {w' : World}, Stp T L w lab' w' → (0 : Nat) ∉ T → (∃ U, Stp U lab' w' lab w') ∧ Below w.heap.size w w' :=
 ⟨ent lab, hv.ent, ent_step lab w, fun s hT => ⟨s.out hT hv, s.leave hT⟩⟩
def Eff (T : List Nat) (lab : Lab) (w : World) (R : VP) (e : Ending) (w' : World) : Prop := ∃ v lab', e = .returned v ∧ R lab' w' v ∧ Stp T lab w lab' w' ∧ Valid lab' w'
theorem Eff.of {lab : Lab} {w : World} {V : VP} {e : Ending} {w' : World} (hv : Valid lab w) (h : ∃ v, e = .returned v ∧ V lab w' v ∧ Below w.heap.size w w') : Eff [] lab w V e w' := by
 obtain ⟨v, h1, h2, h3⟩ := h
 exact ⟨v, lab, h1, h2, Stp.below h3, hv.below h3.size⟩
theorem enterM {lab : Lab} {w : World} (ds : List (Nat × Nat)) (hv : Valid lab w) : ∃ L, Valid L w ∧ (∃ U, Stp U lab w L w) ∧ (∀ {d b : Nat} {t : TypeId} {arr : Array Value} (c : Nat), look d ds = c → Own lab w d b t arr → Own L w c b t arr) ∧ (∀ {d n : Nat} {t : TypeId} {v : Value} {cs : List Value} (c : Nat), look d ds = c → App lab w d t v n cs → App L w c t v n cs) ∧
  ∀ {T : List Nat} {lab' : Lab} {w' : World} (bk : List (Nat × Nat)), Stp T L w lab' w' → (0 : Nat) ∉ T → Valid lab' w' → ∃ lab2, Stp (keys ds) lab w lab2 w' ∧ Back lab' w' lab2 bk :=
 ⟨entM ds lab, hv.entM, entM_step ds lab w, fun c hc h => h.entM c hc, fun c hc h => h.entM c hc, fun bk s hT hv' => leaveM bk s hT hv hv'⟩
section
variable {ds : List Deferred} {P : Program} {N : Nat} {ops : Array Oper} {Q : Exit → Act → World → Prop} {l : List (Nat × Value)} {rest : List Oper} {w : World} {lab : Lab} {ty : TypeId} {pos : String} {af : Array Edge}
theorem sv {d : Nat} {op : Op} {v : Value} {w' : World} (hr : Does P l op ty w v w') (h : Seq ds P N ops Q ((d, v) :: l) rest w') (hd : d < N := by decide) : Seq ds P N ops Q l (⟨some d, op, ty, pos, af, none⟩ :: rest) w := Seq.val hr hd h
theorem sbox {d : Nat} (k : Nat) {t : TypeId} {x : Operand} {v : Value} (cs : List Value) (hv : Valid lab w) (hx : ev l x = some v) (hc : v.cells = cs.toArray)
  (h : ∀ b lab' w', Own lab' w' k b t cs.toArray → Stp [] lab w lab' w' → Valid lab' w' → Seq ds P N ops Q ((d, .pointer (some ⟨b, 0, none⟩)) :: l) rest w') (hd : d < N := by decide) : Seq ds P N ops Q l (⟨some d, .box t x, ty, pos, af, none⟩ :: rest) w := Seq.box cs hv hx hc hd fun lab' w' b => h b lab' w'
theorem salloc {d : Nat} (k : Nat) {t : TypeId} {ag : Bool} {n by_ : Nat} {z : Value} (cs : List Value) (hv : Valid lab w) (ht : tyRow P t = some (ag, n, some z, by_)) (hc : z.cells = cs.toArray)
  (h : ∀ b lab' w', Own lab' w' k b t cs.toArray → Stp [] lab w lab' w' → Valid lab' w' → Seq ds P N ops Q ((d, .pointer (some ⟨b, 0, none⟩)) :: l) rest w') (hd : d < N := by decide) : Seq ds P N ops Q l (⟨some d, .alloc t, ty, pos, af, none⟩ :: rest) w := Seq.alloc cs hv ht hc hd fun lab' w' b => h b lab' w'
theorem sstore {k b o : Nat} {t t' : TypeId} {x y : Operand} {v : Value} {ag : Bool} {n by_ : Nat} {z : Option Value} {arr : Array Value} (arr' : List Value) (hv : Valid lab w) (hO : Own lab w k b t' arr) (ht : tyRow P t = some (ag, n, z, by_)) (hx : ev l x = some (.pointer (some ⟨b, o, none⟩))) (hy : ev l y = some v)
  (hn : v.cells.size = n) (ho : o + n ≤ arr.size) (h1 : v.cells.toList.all (·.oneCell') = true) (ha : (arr.toList.take o ++ v.cells.toList ++ arr.toList.drop (o + n)).toArray = arr'.toArray)
  (h : ∀ w', Own lab w' k b t' arr'.toArray → Stp [k] lab w lab w' → Valid lab w' → Seq ds P N ops Q l rest w') : Seq ds P N ops Q l (⟨none, .store t x y, ty, pos, af, none⟩ :: rest) w := Seq.store arr' hv hO ht hx hy hn ho h1 ha h
theorem scall {d : Nat} {f : Nat} {xs : List Operand} {tys : Array TypeId} {vs : List Value} {V : VP} (hf : Callable P f) (hv : Valid lab w) (hx : evs l xs = some vs)
  (hc : Calls P f vs.toArray w (fun e w' => ∃ v, e = .returned v ∧ V lab w' v ∧ Below w.heap.size w w'))
  (h : ∀ v w', V lab w' v → Stp [] lab w lab w' → Valid lab w' → Seq ds P N ops Q ((d, v) :: l) rest w') (hd : d < N := by decide) : Seq ds P N ops Q l (⟨some d, .call ⟨.value (.func f), xs.toArray, tys⟩, ty, pos, af, none⟩ :: rest) w := Seq.callS hf hv hx hd hc h
theorem scallE {d : Nat} {f : Nat} {xs : List Operand} {tys : Array TypeId} {vs : List Value} {R : VP} {T : List Nat} (hf : Callable P f) (hx : evs l xs = some vs)
  (hc : Calls P f vs.toArray w (Eff T lab w R))
  (h : ∀ v lab' w', R lab' w' v → Stp T lab w lab' w' → Valid lab' w' → Seq ds P N ops Q ((d, v) :: l) rest w') (hd : d < N := by decide) : Seq ds P N ops Q l (⟨some d, .call ⟨.value (.func f), xs.toArray, tys⟩, ty, pos, af, none⟩ :: rest) w :=
 Seq.call (R := fun v w' => ∃ lab', R lab' w' v ∧ Stp T lab w lab' w' ∧ Valid lab' w') hf hx hd (Calls.mono hc fun _ _ ⟨v, lab', h0, h1⟩ => ⟨v, h0, lab', h1⟩) fun v w' ⟨lab', h1, h2, h3⟩ => h v lab' w' h1 h2 h3
theorem rsr {id : Nat} {os : List Oper} {y : Code} (h : Seq ds P N os.toArray (Exit.then (y.wp P Q) Q) l os w) : Run ds P N Q (.seq (.region id os.toArray false) y) l w := Run.seq (Run.region h)
theorem nsr {id : Nat} {os : List Oper} {y : Code} (h : Seq ds P N os.toArray (Exit.then (y.wp P Q) Q) l os w) : Seq ds P N ops (Exit.then ((Code.seq (.region id os.toArray false) y).wp P Q) Q) l [] w := Seq.next (Run.seq (Run.region h))
inductive PV where
 | ex (u : Value)
 | v (V : VP)
def PV.vp : PV → VP
 | .ex u => Is u
 | .v V => V
def nth : List PV → Nat → Option PV
 | [], _ => none
 | x :: _, 0 => some x
 | _ :: r, n + 1 => nth r n
def phiV (Φ : List PV) (i : Nat) : VP := match nth Φ i with
 | some x => x.vp
 | none => fun _ _ _ => True
def Ask (Φ : List PV) (lab : Lab) (w : World) (K : List (Nat × Value) → Prop) : List (Nat × Nat) → List (Nat × Value) → Prop
 | [], l => K l
 | (j, d) :: r, l => match nth Φ j with
  | some (.ex u) => Ask Φ lab w K r ((d, u) :: l)
  | some (.v V) => ∀ v, V lab w v → Ask Φ lab w K r ((d, v) :: l)
  | none => ∀ v, Ask Φ lab w K r ((d, v) :: l)
theorem Ask.elim {Φ : List PV} {lab : Lab} {w : World} {K : List (Nat × Value) → Prop} {a : Act} : ∀ {us : List (Nat × Nat)} {l : List (Nat × Value)}, Ask Φ lab w K us l → Fr ds N l a → (∀ j d, (j, d) ∈ us → ∃ v, a.tmps[d]? = some v ∧ phiV Φ j lab w v) → ∃ l', Fr ds N l' a ∧ K l'
 | [], l, h, hf, _ => ⟨l, hf, h⟩
 | (j, d) :: r, l, h, hf, hl => by
  obtain ⟨v, hv, hp⟩ := hl j d (by simp)
  have hr : ∀ j d, (j, d) ∈ r → ∃ v, a.tmps[d]? = some v ∧ phiV Φ j lab w v := fun j d hm => hl j d (List.mem_cons_of_mem _ hm)
  unfold Ask at h
  unfold phiV at hp
  split at h
  ·rename_i u hn
   rw [hn] at hp
   have : v = u := hp
   subst this
   exact Ask.elim h (hf.ext hv) hr
  ·rename_i V hn
   rw [hn] at hp
   exact Ask.elim (h v hp) (hf.ext hv) hr
  ·exact Ask.elim (h v) (hf.ext hv) hr
class PerT (T : List Nat) (V : VP) : Prop where
 p : ∀ {lab : Lab} {w : World} {lab' : Lab} {w' : World} {v : Value}, Stp T lab w lab' w' → V lab w v → V lab' w' v
instance {T : List Nat} {V : VP} [h : Per V] : PerT T V := ⟨fun s q => h.p.step s q⟩
instance (k : Nat) (t : TypeId) (cs : List Value) : PerT [] (BoxF k t cs) := ⟨fun s h => (BoxF.pers k t cs).step s h⟩
def AppF (d : Nat) (t : TypeId) (n : Nat) (cs : List Value) : VP := fun lab w v => App lab w d t v n cs
instance (d : Nat) (t : TypeId) (n : Nat) (cs : List Value) : PerT [] (AppF d t n cs) := ⟨fun s h => h.lift s (by simp)⟩
class PerL (T : List Nat) (Φ : List PV) : Prop where
 p : ∀ x ∈ Φ, ∀ {lab : Lab} {w : World} {lab' : Lab} {w' : World} {v : Value}, Stp T lab w lab' w' → x.vp lab w v → x.vp lab' w' v
instance {T : List Nat} : PerL T [] := ⟨fun _ h => by cases h⟩
instance {T : List Nat} {u : Value} {r : List PV} [h : PerL T r] : PerL T (.ex u :: r) := ⟨fun x hx => by
 rcases List.mem_cons.1 hx with rfl | hx
 ·intro lab w lab' w' v s q; exact q
 ·exact h.p x hx⟩
instance {T : List Nat} {V : VP} {r : List PV} [k : PerT T V] [h : PerL T r] : PerL T (.v V :: r) := ⟨fun x hx => by
 rcases List.mem_cons.1 hx with rfl | hx
 ·intro lab w lab' w' v s q; exact k.p s q
 ·exact h.p x hx⟩
theorem nth_mem : ∀ {Φ : List PV} {i : Nat} {x : PV}, nth Φ i = some x → x ∈ Φ
 | [], i, x, h => by simp [nth] at h
 | y :: r, 0, x, h => by simp [nth] at h; simp [h]
 | y :: r, i + 1, x, h => List.mem_cons_of_mem _ (nth_mem (Φ := r) (by simpa [nth] using h))
theorem phiV_per {T : List Nat} {Φ : List PV} (h : PerL T Φ) (i : Nat) {lab : Lab} {w : World} {lab' : Lab} {w' : World} {v : Value} (s : Stp T lab w lab' w') (q : phiV Φ i lab w v) : phiV Φ i lab' w' v := by
 unfold phiV at q ⊢
 cases hn : nth Φ i with
 | some x => rw [hn] at q; exact h.p x (nth_mem hn) s q
 | none => trivial
def depOk (ops : Array Oper) (i : Nat) (deps : List (Nat × Nat)) : Bool := deps.all fun p => waits ops i p.1 && (match dstOf ops p.1 with | some d => Nat.beq d p.2 | none => false)
def usOk (ops : Array Oper) (m : Nat) (us : List (Nat × Nat)) : Bool := us.all fun p => Nat.blt p.1 m && (match dstOf ops p.1 with | some d => Nat.beq d p.2 | none => false)
def OpL (ds : List Deferred) (P : Program) (N : Nat) (ops : Array Oper) (Q : Exit → Act → World → Prop) (l : List (Nat × Value)) (lab : Lab) (w : World) (Φ : List PV) (T U : List Nat) (i : Nat) : Prop := ∀ w0, Stp [] lab w lab w0 → OpLaw ds P N ops Q l lab w0 (phiV Φ) T U i
theorem openCore (m : Nat) {Φ : List PV} (us : List (Nat × Nat)) (hok : bodyOk ops m l = true) (hus : usOk ops m us = true) (hv : Valid lab w) [hper : PerL [] Φ]
  (hlaw : LawsFrom (fun i => OpL ds P N ops Q l lab w Φ [] [] i) 0 m)
  (htail : ∀ lab' w', Valid lab' w' → Stp [] lab w lab' w' → Ask Φ lab' w' (fun l' => Seq ds P N ops Q l' (ops.toList.drop m) w') us l) : ∀ a, Fr ds N l a → wpAny P .any ops Q ops.size (Array.replicate ops.size false) a { w with drawn := w.drawn + 1 } := by
 refine anyCore hok hv (phiV Φ) (fun i _ {_ _ _ _ _} s q => phiV_per hper i s q) (fun w0 s0 i hi => laws hlaw i hi w0 s0) ?_
 intro lab' w' a hv' s hf hl
 obtain ⟨l', hf', hK⟩ := Ask.elim (htail lab' w' hv' s) hf fun j d hm => by
  have h1 := List.all_eq_true.1 hus _ hm
  simp only [Bool.and_eq_true] at h1
  have hj : j < m := Nat.le_of_ble_eq_true h1.1
  have hd : dstOf ops j = some d := by
   have h2 := h1.2
   split at h2
   ·rename_i d' hd'; rw [hd', Nat.eq_of_beq_eq_true h2]
   ·cases h2
  exact hl j hj d hd
 exact hK a hf'
theorem Run.open {id : Nat} (m : Nat) {Φ : List PV} (us : List (Nat × Nat)) (hm : P.follows .mixedOrders = true) (hok : bodyOk ops m l = true) (hus : usOk ops m us = true) (hv : Valid lab w) [hper : PerL [] Φ]
  (hlaw : LawsFrom (fun i => OpL ds P N ops Q l lab w Φ [] [] i) 0 m)
  (htail : ∀ lab' w', Valid lab' w' → Stp [] lab w lab' w' → Ask Φ lab' w' (fun l' => Seq ds P N ops Q l' (ops.toList.drop m) w') us l) : Run ds P N Q (.region id ops true) l w := fun a ha => wp_region_any hm (openCore m us hok hus hv hlaw htail a ha)
theorem dep_left {Φ : List PV} {i : Nat} {deps : List (Nat × Nat)} (hdep : depOk ops i deps = true) {lab : Lab} {w : World} {a : Act} (hl : ∀ j, waits ops i j = true → Left ops (phiV Φ) j lab w a) : ∀ j d, (j, d) ∈ deps → ∃ v, a.tmps[d]? = some v ∧ phiV Φ j lab w v := fun j d hm => by
 have h1 := List.all_eq_true.1 hdep _ hm
 simp only [Bool.and_eq_true] at h1
 have hd : dstOf ops j = some d := by
  have h2 := h1.2
  split at h2
  ·rename_i d' hd'; rw [hd', Nat.eq_of_beq_eq_true h2]
  ·cases h2
 exact hl j h1.1 d hd
theorem build_lawN {t e : TypeId} {ag : Bool} {s by_ : Nat} {z : Value} {len : Nat} {parts : Array (Nat × Operand)} {Ψ : VP} (pv : List (Nat × Value)) (cs : List Value) (hv : Valid lab w) (ht : P.underlying t = some (.slice e)) (he : tyRow P e = some (ag, s, some z, by_)) (hl : len * s ≤ 16777216) (hl0 : len * s ≠ 0)
  (hp : parts.toList.map (fun p => (p.1, ev l p.2)) = pv.map (fun p => (p.1, some p.2))) (hf : Instr.fill (fun i => some (i * s, s)) ((Array.range (len * s)).map (fun j => z.cells[j % z.cells.size]!)) pv = some cs.toArray)
  (hk : ∀ b w', RowAt lab w' (some ⟨b, 0, none⟩) cs → Stp [] lab w lab w' → Ψ lab w' (.slice (some ⟨b, 0, none⟩) len len)) :
  ∃ v' lab' w', Does P l (.buildSlice t len parts) ty w v' w' ∧ Valid lab' w' ∧ Stp [] lab w lab' w' ∧ Ψ lab' w' v' := by
 obtain ⟨b, w', h1, h2, h3, h4⟩ := build_ex (P := P) (ty := ty) pv cs hv ht he hl hl0 hp hf
 exact ⟨_, lab, w', h1, h4, h3, hk b w' h2 h3⟩
variable {Φ : List PV} {T U : List Nat} {i d : Nat} {op : Op}
theorem oN (deps : List (Nat × Nat)) (ho : ops[i]? = some ⟨some d, op, ty, pos, af, none⟩) (hdep : depOk ops i deps = true)
  (h : ∀ lab' w', Valid lab' w' → Stp T lab w lab' w' → Ask Φ lab' w' (fun l' => ∃ v lab2 w2, Does P l' op ty w' v w2 ∧ Valid lab2 w2 ∧ Stp U lab' w' lab2 w2 ∧ phiV Φ i lab2 w2 v) deps l) (hd : d < N := by decide) : OpL ds P N ops Q l lab w Φ T U i := fun w0 s0 =>
 law_val ho hd fun lab' w' a hv hs hf hl => by
  obtain ⟨l', hf', v, lab2, w2, h1, h2, h3, h4⟩ := Ask.elim (h lab' w' hv ((s0.trans hs).more (by simp))) hf (dep_left hdep hl)
  exact ⟨l', v, lab2, w2, hf', h1, h2, h3, h4⟩
theorem oP (deps : List (Nat × Nat)) (ho : ops[i]? = some ⟨some d, op, ty, pos, af, none⟩) (hdep : depOk ops i deps = true)
  (h : ∀ lab' w', Valid lab' w' → Stp T lab w lab' w' → Ask Φ lab' w' (fun l' => ∃ v, Does P l' op ty w' v w' ∧ phiV Φ i lab' w' v) deps l) (hd : d < N := by decide) : OpL ds P N ops Q l lab w Φ T [] i := fun w0 s0 =>
 law_val ho hd fun lab' w' a hv hs hf hl => by
  obtain ⟨l', hf', v, h1, h4⟩ := Ask.elim (h lab' w' hv ((s0.trans hs).more (by simp))) hf (dep_left hdep hl)
  exact ⟨l', v, lab', w', hf', h1, hv, Stp.refl _ _, h4⟩
theorem oX {u : Value} (deps : List (Nat × Nat)) (ho : ops[i]? = some ⟨some d, op, ty, pos, af, none⟩) (hdep : depOk ops i deps = true) (hu : nth Φ i = some (.ex u))
  (h : ∀ lab' w', Ask Φ lab' w' (fun l' => Does P l' op ty w' u w') deps l) (hd : d < N := by decide) : OpL ds P N ops Q l lab w Φ T [] i := fun w0 s0 =>
 law_val ho hd fun lab' w' a hv hs hf hl => by
  obtain ⟨l', hf', h1⟩ := Ask.elim (h lab' w') hf (dep_left hdep hl)
  exact ⟨l', u, lab', w', hf', h1, hv, Stp.refl _ _, by unfold phiV; rw [hu]; rfl⟩
theorem oC {f : Nat} {xs : List Operand} {tys : Array TypeId} (deps : List (Nat × Nat)) (ho : ops[i]? = some ⟨some d, .call ⟨.value (.func f), xs.toArray, tys⟩, ty, pos, af, none⟩) (hdep : depOk ops i deps = true) (hf : Callable P f)
  (h : ∀ lab' w', Valid lab' w' → Stp T lab w lab' w' → Ask Φ lab' w' (fun l' => ∃ vs, evs l' xs = some vs ∧ Calls P f vs.toArray w' (fun e w2 => ∃ v, e = .returned v ∧ phiV Φ i lab' w2 v ∧ Below w'.heap.size w' w2)) deps l) (hd : d < N := by decide) : OpL ds P N ops Q l lab w Φ T [] i := fun w0 s0 =>
 law_call ho hd hf fun lab' w' a hv hs hfr hl => by
  obtain ⟨l', hf', vs, h1, h4⟩ := Ask.elim (h lab' w' hv ((s0.trans hs).more (by simp))) hfr (dep_left hdep hl)
  exact ⟨l', vs, hf', h1, h4⟩
theorem guardIs {g : Nat} {b b' : Bool} (hg : nth Φ g = some (.ex (.bool b'))) (he : b' = b) : ∀ (lab : Lab) (w : World) (v : Value), phiV Φ g lab w v → v = .bool b := fun _ _ _ h => by
 unfold phiV at h; rw [hg] at h; subst he; exact h
theorem oP_on {g dg : Nat} {b b' : Bool} (deps : List (Nat × Nat)) (ho : ops[i]? = some ⟨some d, op, ty, pos, af, some (g, b)⟩) (hdg : dstOf ops g = some dg) (hw : waits ops i g = true) (hg : nth Φ g = some (.ex (.bool b'))) (he : b' = b) (hdep : depOk ops i deps = true)
  (h : ∀ lab' w', Valid lab' w' → Stp T lab w lab' w' → Ask Φ lab' w' (fun l' => ∃ v, Does P l' op ty w' v w' ∧ phiV Φ i lab' w' v) deps l) (hd : d < N := by decide) : OpL ds P N ops Q l lab w Φ T [] i := fun w0 s0 =>
 law_val_on ho hd hdg hw (guardIs hg he) fun lab' w' a hv hs hf hl => by
  obtain ⟨l', hf', v, h1, h4⟩ := Ask.elim (h lab' w' hv ((s0.trans hs).more (by simp))) hf (dep_left hdep hl)
  exact ⟨l', v, lab', w', hf', h1, hv, Stp.refl _ _, h4⟩
theorem oC_on {f : Nat} {xs : List Operand} {tys : Array TypeId} {g dg : Nat} {b b' : Bool} (deps : List (Nat × Nat)) (ho : ops[i]? = some ⟨some d, .call ⟨.value (.func f), xs.toArray, tys⟩, ty, pos, af, some (g, b)⟩) (hdg : dstOf ops g = some dg) (hw : waits ops i g = true) (hg : nth Φ g = some (.ex (.bool b'))) (he : b' = b) (hdep : depOk ops i deps = true) (hf : Callable P f)
  (h : ∀ lab' w', Valid lab' w' → Stp T lab w lab' w' → Ask Φ lab' w' (fun l' => ∃ vs, evs l' xs = some vs ∧ Calls P f vs.toArray w' (fun e w2 => ∃ v, e = .returned v ∧ phiV Φ i lab' w2 v ∧ Below w'.heap.size w' w2)) deps l) (hd : d < N := by decide) : OpL ds P N ops Q l lab w Φ T [] i := fun w0 s0 =>
 law_call_on ho hd hdg hw (guardIs hg he) hf fun lab' w' a hv hs hfr hl => by
  obtain ⟨l', hf', vs, h1, h4⟩ := Ask.elim (h lab' w' hv ((s0.trans hs).more (by simp))) hfr (dep_left hdep hl)
  exact ⟨l', vs, hf', h1, h4⟩
theorem oOff {g dg : Nat} {b b' c : Bool} (ho : ops[i]? = some ⟨some d, op, ty, pos, af, some (g, c)⟩) (hdg : dstOf ops g = some dg) (hw : waits ops i g = true) (hg : nth Φ g = some (.ex (.bool b'))) (he : b' = b) (hne : (b == c) = false) (hu : nth Φ i = some (.ex undef)) (hd : d < N := by decide) : OpL ds P N ops Q l lab w Φ T [] i := fun w0 s0 =>
 law_off ho hd hdg hw (guardIs hg he) hne (fun _ _ => by unfold phiV; rw [hu]; rfl)
end
end Go.Proofs.Ytgfomedobfaidaa
end
section
set_option linter.unusedVariables false
set_option linter.unusedSimpArgs false
namespace Go.Proofs.Ytgfomedobfaidaa
open Go.RowKit
theorem wv_inj : ∀ {l l' : List UInt32}, l.length = l'.length → wv l = wv l' → l = l'
 | [], [], _, _ => rfl
 | a :: r, b :: s, hl, h => by
  have ha := a.toNat_lt
  have hb := b.toNat_lt
  simp only [wv] at h
  have h1 : a.toNat = b.toNat := by omega
  have h2 : wv r = wv s := by omega
  rw [wv_inj (by simpa using hl) h2, UInt32.toNat_inj.1 h1]
 | [], _ :: _, hl, _ => by simp at hl
 | _ :: _, [], hl, _ => by simp at hl
def wsN (x k : Nat) : List UInt32 := (List.range k).map fun i => UInt32.ofNat (x / 4294967296 ^ i)
theorem wsN_length (x k : Nat) : (wsN x k).length = k := by simp [wsN]
theorem wsN_zero (x : Nat) : wsN x 0 = [] := rfl
theorem wsN_succ (x k : Nat) : wsN x (k + 1) = wsN x k ++ [UInt32.ofNat (x / 4294967296 ^ k)] := by simp [wsN, List.range_succ]
theorem wsN_get {x k i : Nat} (h : i < k) : (wsN x k).getD i 0 = UInt32.ofNat (x / 4294967296 ^ i) := by
 simp [wsN, List.getD, h]
theorem wv_wsN (x k : Nat) : wv (wsN x k) = x % 4294967296 ^ k := by
 induction k with
 | zero => simp [wsN_zero, wv, Nat.mod_one]
 | succ k ih =>
  rw [wsN_succ, wv_append, wsN_length, ih]
  simp only [wv, Nat.mul_zero, Nat.add_zero]
  rw [Nat.pow_succ, Nat.mod_mul, UInt32.toNat_ofNat']
theorem wsN_wv (l : List UInt32) : wsN (wv l) l.length = l :=
 wv_inj (wsN_length _ _) (by rw [wv_wsN, Nat.mod_eq_of_lt (wv_lt l)])
theorem wsN_nil_iff {x k : Nat} (h : x < 4294967296 ^ k) : wv (wsN x k) = x := by rw [wv_wsN, Nat.mod_eq_of_lt h]
theorem wsN_mod {x y k : Nat} (h : x % 4294967296 ^ k = y % 4294967296 ^ k) : wsN x k = wsN y k := wv_inj (by rw [wsN_length, wsN_length]) (by rw [wv_wsN, wv_wsN, h])
theorem wv_set : ∀ {l : List UInt32} {j : Nat} (x : UInt32), j < l.length → wv (l.set j x) + (l.getD j 0).toNat * 4294967296 ^ j = wv l + x.toNat * 4294967296 ^ j
 | [], _, _, h => by simp at h
 | a :: r, 0, x, _ => by simp [wv]; omega
 | a :: r, j + 1, x, h => by
  have ih := wv_set (l := r) (j := j) x (by simpa using h)
  simp only [List.set_cons_succ, wv, List.getD_cons_succ, Nat.pow_succ]
  rw [show (r.getD j 0).toNat * (4294967296 ^ j * 4294967296) = 4294967296 * ((r.getD j 0).toNat * 4294967296 ^ j) by rw [Nat.mul_comm 4294967296, Nat.mul_assoc],
   show x.toNat * (4294967296 ^ j * 4294967296) = 4294967296 * (x.toNat * 4294967296 ^ j) by rw [Nat.mul_comm 4294967296, Nat.mul_assoc]]
  omega
theorem wv_replicate (k : Nat) : wv (List.replicate k 0) = 0 := by
 induction k with
 | zero => rfl
 | succ k ih => simp [List.replicate_succ, wv, ih]
theorem wsN_zeros (k : Nat) : wsN 0 k = List.replicate k 0 := wv_inj (by simp [wsN_length]) (by rw [wv_wsN, wv_replicate]; simp)
theorem wsN_set {x y k n : Nat} (hk : k < n) (hlow : x % 4294967296 ^ k = y % 4294967296 ^ k) (hx : x / 4294967296 ^ k / 4294967296 = y / 4294967296 ^ k / 4294967296) (w : UInt32) (hw : w = UInt32.ofNat (y / 4294967296 ^ k)) : (wsN x n).set k w = wsN y n := by
 refine List.ext_getElem (by simp [wsN_length]) fun i h1 h2 => ?_
 rw [List.getElem_set]
 split
 ·rename_i e; subst e; subst hw; simp [wsN]
 ·rename_i e
  simp only [wsN, List.getElem_map, List.getElem_range]
  rw [← UInt32.toNat_inj]
  rw [UInt32.toNat_ofNat', UInt32.toNat_ofNat', show (2 : Nat) ^ 32 = 4294967296 from rfl]
  have hd : ∀ a b : Nat, 4294967296 ^ a * 4294967296 ^ b = 4294967296 ^ (a + b) := fun a b => (Nat.pow_add _ _ _).symm
  by_cases hlt : i < k
  ·have e1 : ∀ z, z / 4294967296 ^ i % 4294967296 = z % 4294967296 ^ k / 4294967296 ^ i % 4294967296 := by
    intro z
    have : 4294967296 ^ k = 4294967296 ^ i * (4294967296 * 4294967296 ^ (k - i - 1)) := by
     rw [← Nat.mul_assoc, ← Nat.pow_succ, hd]; congr 1; omega
    rw [this, Nat.mod_mul_right_div_self, Nat.mod_mul_right_mod]
   rw [e1 x, e1 y, hlow]
  ·have e1 : ∀ z, z / 4294967296 ^ i = z / 4294967296 ^ k / 4294967296 / 4294967296 ^ (i - k - 1) := by
    intro z
    rw [Nat.div_div_eq_div_mul, Nat.div_div_eq_div_mul, Nat.mul_comm 4294967296, ← Nat.pow_succ, hd]; congr 2; omega
   rw [e1 x, e1 y, hx]
end Go.Proofs.Ytgfomedobfaidaa
namespace Go.Proofs.Ytgfomedobfaidaa
theorem uint_lt {ws : List UInt32} {k : Nat} (hk : k ≤ 2) : wv (ws.take k) < 18446744073709551616 := by
 have h := wv_lt (ws.take k)
 have h2 : (ws.take k).length ≤ 2 := by rw [List.length_take]; omega
 have : 4294967296 ^ (ws.take k).length ≤ 4294967296 ^ 2 := Nat.pow_le_pow_right (by omega) h2
 omega
theorem uint_sh {x : UInt32} {k : Nat} (hk : k < 2) : x.toNat * 2 ^ (32 * (k : Int)).toNat < 18446744073709551616 := by
 have h := x.toNat_lt
 have : k = 0 ∨ k = 1 := by omega
 rcases this with rfl | rfl
 ·simp; omega
 ·rw [show (32 * ((1 : Nat) : Int)).toNat = 32 from rfl]; omega
theorem take_wv {ws : List UInt32} {k : Nat} (hk : k < ws.length) : wv (ws.take (k + 1)) = wv (ws.take k) + 4294967296 ^ k * (ws.getD k 0).toNat := by
 rw [List.take_succ_eq_append_getElem hk, wv_append, List.length_take, Nat.min_eq_left (by omega)]
 simp [wv, List.getD, List.getElem?_eq_getElem hk]
theorem uint_step {ws : List UInt32} {k : Nat} (hk : k < ws.length) (h2 : k < 2) : wv (ws.take k) ||| (ws.getD k 0).toNat * 2 ^ (32 * (k : Int)).toNat = wv (ws.take (k + 1)) := by
 rw [take_wv hk]
 have : k = 0 ∨ k = 1 := by omega
 rcases this with rfl | rfl
 ·simp [wv]
 ·have h := wv_lt (ws.take 1)
  have hl : (ws.take 1).length = 1 := by rw [List.length_take]; omega
  rw [hl, Nat.pow_one] at h
  rw [show 2 ^ (32 * ((1 : Nat) : Int)).toNat = 4294967296 from rfl, Nat.or_comm]
  have := Nat.two_pow_add_eq_or_of_lt (i := 32) (b := wv (ws.take 1)) (by omega) (ws.getD 1 0).toNat
  rw [show (2 : Nat) ^ 32 = 4294967296 from rfl] at this
  rw [Nat.mul_comm, ← this]; omega
theorem bit_at {a : Nat} {i : Int} (h0 : 0 ≤ i) : ((((limbs a).getD (i / 32).toNat 0 >>> UInt32.ofNat (i % 32).toNat) &&& 1).toNat : Int) = ((a / 2 ^ i.toNat % 2 : Nat) : Int) := by
 obtain ⟨n, rfl⟩ := Int.eq_ofNat_of_zero_le h0
 have e1 : ((n : Int) / 32).toNat = n / 32 := by omega
 have e2 : ((n : Int) % 32).toNat = n % 32 := by omega
 rw [e1, e2, UInt32.toNat_and, UInt32.toNat_one, Nat.and_one_is_mod, UInt32.toNat_shiftRight, UInt32.toNat_ofNat_of_lt' (by simp [UInt32.size]; omega), Nat.mod_eq_of_lt (show n % 32 < 32 by omega), Nat.shiftRight_eq_div_pow, limb_toNat, Int.toNat_natCast]
 congr 1
 have e3 : 2 ^ n = 4294967296 ^ (n / 32) * 2 ^ (n % 32) := by rw [pow32, ← Nat.pow_add]; congr 1; omega
 have e4 : (4294967296 : Nat) = 2 ^ (n % 32) * (2 * 2 ^ (31 - n % 32)) := by
  rw [← Nat.mul_assoc, ← Nat.pow_succ, ← Nat.pow_add, show n % 32 + 1 + (31 - n % 32) = 32 by omega]
 rw [e3, ← Nat.div_div_eq_div_mul]
 generalize a / 4294967296 ^ (n / 32) = x
 rw [show x % 4294967296 = x % (2 ^ (n % 32) * (2 * 2 ^ (31 - n % 32))) by rw [← e4], Nat.mod_mul_right_div_self, Nat.mod_mul_right_mod]
theorem bit_out {a : Nat} {i : Int} (h : (nw a : Int) ≤ i / 32) : ((a / 2 ^ i.toNat % 2 : Nat) : Int) = 0 := by
 have h1 : a < 2 ^ i.toNat := by
  refine Nat.lt_of_lt_of_le (lt_nw a) ?_
  rw [pow32]; exact Nat.pow_le_pow_right (by omega) (by omega)
 rw [Nat.div_eq_of_lt h1]; rfl
def cA (a b k : Nat) : Nat := (a % 4294967296 ^ k + b % 4294967296 ^ k) / 4294967296 ^ k
theorem cA_zero (a b : Nat) : cA a b 0 = 0 := by simp [cA, Nat.mod_one]
theorem cA_le (a b k : Nat) : cA a b k ≤ 1 := by
 unfold cA
 have hp : 0 < 4294967296 ^ k := Nat.pow_pos (by omega)
 have h1 := Nat.mod_lt a hp
 have h2 := Nat.mod_lt b hp
 have : (a % 4294967296 ^ k + b % 4294967296 ^ k) / 4294967296 ^ k < 2 := (Nat.div_lt_iff_lt_mul hp).2 (by omega)
 omega
theorem mod_succ_pow (a k : Nat) : a % 4294967296 ^ (k + 1) = a % 4294967296 ^ k + 4294967296 ^ k * (a / 4294967296 ^ k % 4294967296) := by rw [Nat.pow_succ, Nat.mod_mul]
theorem cA_succ (a b k : Nat) : cA a b (k + 1) = (cA a b k + a / 4294967296 ^ k % 4294967296 + b / 4294967296 ^ k % 4294967296) / 4294967296 := by
 unfold cA
 have hp : 0 < 4294967296 ^ k := Nat.pow_pos (by omega)
 rw [mod_succ_pow, mod_succ_pow, Nat.pow_succ, ← Nat.div_div_eq_div_mul]
 rw [show a % 4294967296 ^ k + 4294967296 ^ k * (a / 4294967296 ^ k % 4294967296) + (b % 4294967296 ^ k + 4294967296 ^ k * (b / 4294967296 ^ k % 4294967296)) = (a % 4294967296 ^ k + b % 4294967296 ^ k) + 4294967296 ^ k * (a / 4294967296 ^ k % 4294967296 + b / 4294967296 ^ k % 4294967296) by rw [Nat.mul_add]; omega]
 rw [Nat.add_mul_div_left _ _ hp]
 congr 1; omega
theorem cA_word (a b k : Nat) : (a + b) / 4294967296 ^ k % 4294967296 = (cA a b k + a / 4294967296 ^ k % 4294967296 + b / 4294967296 ^ k % 4294967296) % 4294967296 := by
 have hp : 0 < 4294967296 ^ k := Nat.pow_pos (by omega)
 have e : (a + b) / 4294967296 ^ k = cA a b k + a / 4294967296 ^ k + b / 4294967296 ^ k := by
  unfold cA
  have ha := Nat.div_add_mod a (4294967296 ^ k)
  have hb := Nat.div_add_mod b (4294967296 ^ k)
  have : a + b = (a % 4294967296 ^ k + b % 4294967296 ^ k) + 4294967296 ^ k * (a / 4294967296 ^ k + b / 4294967296 ^ k) := by rw [Nat.mul_add]; omega
  rw [this, Nat.add_mul_div_left _ _ hp]; omega
 rw [e]; omega
theorem ofNat32 {x y : Nat} (h : x % 4294967296 = y % 4294967296) : UInt32.ofNat x = UInt32.ofNat y := by
 rw [← UInt32.toNat_inj, UInt32.toNat_ofNat', UInt32.toNat_ofNat']; exact h
theorem limb_out {a k : Nat} (h : nw a ≤ k) : a / 4294967296 ^ k = 0 := Nat.div_eq_of_lt (Nat.lt_of_lt_of_le (lt_nw a) (Nat.pow_le_pow_right (by omega) h))
theorem add_step {a b k : Nat} {s : Nat} (hs : s = cA a b k + ((limbs a).getD k 0).toNat + ((limbs b).getD k 0).toNat) : wsN (a + b) k ++ [UInt32.ofNat s] = wsN (a + b) (k + 1) := by
 rw [limb_toNat, limb_toNat] at hs
 rw [wsN_succ, ofNat32 (x := s) (y := (a + b) / 4294967296 ^ k)]
 rw [cA_word, hs]
theorem add_carry {a b k : Nat} {s : Nat} (hs : s = cA a b k + ((limbs a).getD k 0).toNat + ((limbs b).getD k 0).toNat) : s / 4294967296 = cA a b (k + 1) := by
 rw [limb_toNat, limb_toNat] at hs
 rw [cA_succ, hs]
theorem limb_zero {b k : Nat} (h : nw b ≤ k) : ((limbs b).getD k 0).toNat = 0 := by rw [limb_toNat, limb_out h]
theorem add_end {a b n : Nat} (h1 : nw a ≤ n) (h2 : nw b ≤ n) : wv (wsN (a + b) n ++ [UInt32.ofNat (cA a b n)]) = a + b := by
 have h3 : limbs a = limbs a := rfl
 have e : wsN (a + b) n ++ [UInt32.ofNat (cA a b n)] = wsN (a + b) (n + 1) := add_step (by rw [limb_zero h1, limb_zero h2]; rfl)
 rw [e, wsN_nil_iff]
 have ha : a < 4294967296 ^ n := Nat.lt_of_lt_of_le (lt_nw a) (Nat.pow_le_pow_right (by omega) h1)
 have hb : b < 4294967296 ^ n := Nat.lt_of_lt_of_le (lt_nw b) (Nat.pow_le_pow_right (by omega) h2)
 rw [Nat.pow_succ]; omega
end Go.Proofs.Ytgfomedobfaidaa
namespace Go.Proofs.Ytgfomedobfaidaa
def bor (a b k : Nat) : Int := if a % 4294967296 ^ k < b % 4294967296 ^ k then 1 else 0
theorem bor_zero (a b : Nat) : bor a b 0 = 0 := by simp [bor, Nat.mod_one]
theorem bor_le (a b k : Nat) : 0 ≤ bor a b k ∧ bor a b k ≤ 1 := by unfold bor; split <;> omega
theorem low_cmp {p A A' x y : Nat} (hA : A < p) (hA' : A' < p) : A + p * x < A' + p * y ↔ (x < y ∨ (x = y ∧ A < A')) := by
 constructor
 ·intro h
  by_cases h1 : x < y
  ·exact .inl h1
  ·by_cases h2 : x = y
   ·subst h2; exact .inr ⟨rfl, by omega⟩
   ·have : p * (y + 1) ≤ p * x := Nat.mul_le_mul_left _ (by omega)
    rw [Nat.mul_add] at this; omega
 ·rintro (h | ⟨rfl, h⟩)
  ·have : p * (x + 1) ≤ p * y := Nat.mul_le_mul_left _ (by omega)
   rw [Nat.mul_add] at this; omega
  ·omega
theorem bor_succ (a b k : Nat) : bor a b (k + 1) = if (((limbs a).getD k 0).toNat : Int) - bor a b k - (((limbs b).getD k 0).toNat : Int) < 0 then 1 else 0 := by
 have hp : 0 < 4294967296 ^ k := Nat.pow_pos (by omega)
 unfold bor
 rw [mod_succ_pow, mod_succ_pow, limb_toNat, limb_toNat]
 have hA := Nat.mod_lt a hp
 have hB := Nat.mod_lt b hp
 generalize a % 4294967296 ^ k = A at *
 generalize b % 4294967296 ^ k = A' at *
 generalize a / 4294967296 ^ k % 4294967296 = x
 generalize b / 4294967296 ^ k % 4294967296 = y
 have := low_cmp (x := x) (y := y) hA hB
 split <;> split <;> split <;> omega
theorem sub_word {a b : Nat} (h : b ≤ a) (k : Nat) : (((a - b) / 4294967296 ^ k % 4294967296 : Nat) : Int) = ((((limbs a).getD k 0).toNat : Int) - bor a b k - (((limbs b).getD k 0).toNat : Int)) % 4294967296 := by
 have hp : 0 < 4294967296 ^ k := Nat.pow_pos (by omega)
 rw [limb_toNat, limb_toNat]
 unfold bor
 have hA := Nat.mod_lt a hp
 have hB := Nat.mod_lt b hp
 have ea := Nat.div_add_mod a (4294967296 ^ k)
 have eb := Nat.div_add_mod b (4294967296 ^ k)
 generalize 4294967296 ^ k = p at *
 generalize hx : a / p = x at *
 generalize hy : b / p = y at *
 generalize a % p = A at *
 generalize b % p = A' at *
 have hle : ¬ (A + p * x < A' + p * y) := by omega
 rw [low_cmp hA hB] at hle
 split
 ·rename_i hlt
  have hxy : y + 1 ≤ x := by omega
  have e : (a - b) / p = x - y - 1 := by
   have e1 : p * (x - y - 1) + p * (y + 1) = p * x := by rw [← Nat.mul_add]; congr 1; omega
   have e2 : p * (y + 1) = p * y + p := by rw [Nat.mul_add, Nat.mul_one]
   have : a - b = (A + p - A') + p * (x - y - 1) := by omega
   rw [this, Nat.add_mul_div_left _ _ hp, Nat.div_eq_of_lt (by omega)]; omega
  rw [e]; omega
 ·rename_i hlt
  have hxy : y ≤ x := by omega
  have e : (a - b) / p = x - y := by
   have e1 : p * (x - y) + p * y = p * x := by rw [← Nat.mul_add]; congr 1; omega
   have : a - b = (A - A') + p * (x - y) := by omega
   rw [this, Nat.add_mul_div_left _ _ hp, Nat.div_eq_of_lt (by omega)]; omega
  rw [e]; omega
def upto (x k n : Nat) : List UInt32 := wsN x k ++ List.replicate (n - k) 0
theorem upto_zero (x n : Nat) : upto x 0 n = List.replicate n 0 := by simp [upto, wsN_zero]
theorem upto_length {x k n : Nat} (h : k ≤ n) : (upto x k n).length = n := by simp [upto, wsN_length]; omega
theorem upto_full (x n : Nat) : upto x n n = wsN x n := by simp [upto]
theorem upto_set {x k n : Nat} (h : k < n) (w : UInt32) (hw : w = UInt32.ofNat (x / 4294967296 ^ k)) : (upto x k n).set k w = upto x (k + 1) n := by
 subst hw
 unfold upto
 rw [List.set_append_right _ _ (by rw [wsN_length]; omega), wsN_length, Nat.sub_self, wsN_succ, List.append_assoc]
 congr 1
 rw [show n - k = (n - (k + 1)) + 1 by omega, List.replicate_succ, List.set_cons_zero]
 rfl
theorem sub_step {a b k n : Nat} (h : b ≤ a) (hk : k < n) {d : Int} (hd : 0 ≤ d ∧ d < 4294967296) (e : (d - ((((limbs a).getD k 0).toNat : Int) - bor a b k - (((limbs b).getD k 0).toNat : Int))) % 4294967296 = 0) :
  (upto (a - b) k n).set k (UInt32.ofNat d.toNat) = upto (a - b) (k + 1) n := by
 refine upto_set hk _ (ofNat32 ?_)
 have := sub_word h k
 omega
theorem sub_end {a b n : Nat} (h1 : nw a ≤ n) : wv (upto (a - b) n n) = a - b := by
 rw [upto_full, wsN_nil_iff]
 exact Nat.lt_of_le_of_lt (Nat.sub_le _ _) (Nat.lt_of_lt_of_le (lt_nw a) (Nat.pow_le_pow_right (by omega) h1))
theorem mul_le32 (x y : UInt32) : x.toNat * y.toNat ≤ 18446744065119617025 := by
 have hx := x.toNat_lt
 have hy := y.toNat_lt
 have : x.toNat * y.toNat ≤ 4294967295 * 4294967295 := Nat.mul_le_mul (by omega) (by omega)
 omega
theorem mod_low_succ (b k : Nat) : b % 4294967296 ^ (k + 1) = b % 4294967296 ^ k + 4294967296 ^ k * ((limbs b).getD k 0).toNat := by rw [mod_succ_pow, limb_toNat]
theorem mul_step {out : List UInt32} {a b i k c : Nat} {x y : UInt32} (hx : x = (limbs a).getD i 0) (hy : y = (limbs b).getD k 0) (hl : i + k < out.length)
  (hv : wv out + c * 4294967296 ^ (i + k) = a % 4294967296 ^ i * b + x.toNat * 4294967296 ^ i * (b % 4294967296 ^ k)) :
  wv (out.set (i + k) (UInt32.ofNat (c + (x.toNat * y.toNat + (out.getD (i + k) 0).toNat)))) + (c + (x.toNat * y.toNat + (out.getD (i + k) 0).toNat)) / 4294967296 * 4294967296 ^ (i + (k + 1)) = a % 4294967296 ^ i * b + x.toNat * 4294967296 ^ i * (b % 4294967296 ^ (k + 1)) := by
 have h := wv_set (l := out) (UInt32.ofNat (c + (x.toNat * y.toNat + (out.getD (i + k) 0).toNat))) hl
 rw [UInt32.toNat_ofNat'] at h
 rw [mod_low_succ, ← hy, Nat.mul_add, show x.toNat * 4294967296 ^ i * (4294967296 ^ k * y.toNat) = x.toNat * y.toNat * 4294967296 ^ (i + k) by rw [Nat.pow_add]; simp only [Nat.mul_assoc, Nat.mul_comm, Nat.mul_left_comm], ← Nat.add_assoc i k 1, Nat.pow_succ]
 generalize (out.getD (i + k) 0).toNat = o at *
 generalize 4294967296 ^ (i + k) = p at *
 generalize x.toNat * y.toNat = xy at *
 have hs := Nat.div_add_mod (c + (xy + o)) 4294967296
 generalize hq : (c + (xy + o)) / 4294967296 = q at *
 have hm : (c + (xy + o)) % 2 ^ 32 = (c + (xy + o)) % 4294967296 := rfl
 rw [hm] at h
 generalize (c + (xy + o)) % 4294967296 = r at *
 have e1 : (4294967296 * q + r) * p = (c + (xy + o)) * p := by rw [hs]
 simp only [Nat.add_mul, Nat.mul_assoc] at e1
 rw [show q * (p * 4294967296) = 4294967296 * (q * p) by rw [Nat.mul_comm p, Nat.mul_left_comm]]
 omega
theorem mul_top {out : List UInt32} {i k n x : Nat} {w : UInt32} (h : ∀ j, i + k ≤ j → out.getD j 0 = (wsN x n).getD j 0) : ∀ j, i + (k + 1) ≤ j → (out.set (i + k) w).getD j 0 = (wsN x n).getD j 0 := fun j hj => by
 rw [← h j (by omega)]
 simp [List.getD, List.getElem?_set]
 rw [if_neg (by omega)]
theorem wsN_high {x k j : Nat} (n : Nat) (h : x < 4294967296 ^ k) (hj : k ≤ j) : (wsN x n).getD j 0 = 0 := by
 by_cases hn : j < n
 ·rw [wsN_get hn, Nat.div_eq_of_lt (Nat.lt_of_lt_of_le h (Nat.pow_le_pow_right (by omega) hj))]; rfl
 ·simp [List.getD, wsN, hn]
theorem mul_end {out : List UInt32} {a b i k n c : Nat} {x : UInt32} (hx : x = (limbs a).getD i 0) (hn : n = nw a + nw b) (hi : i < nw a) (hk : k = nw b) (hl : out.length = n) (hc : c < 4294967296)
  (hv : wv out + c * 4294967296 ^ (i + k) = a % 4294967296 ^ i * b + x.toNat * 4294967296 ^ i * (b % 4294967296 ^ k)) (ht : ∀ j, i + k ≤ j → out.getD j 0 = (wsN (a % 4294967296 ^ i * b) n).getD j 0) :
  out.set (i + k) (UInt32.ofNat c) = wsN (a % 4294967296 ^ (i + 1) * b) n := by
 subst hk
 have hp : 0 < 4294967296 ^ i := Nat.pow_pos (by omega)
 have hP : a % 4294967296 ^ i * b < 4294967296 ^ (i + nw b) := by
  rw [Nat.pow_add]; exact Nat.mul_lt_mul'' (Nat.mod_lt _ hp) (lt_nw b)
 have h0 : out.getD (i + nw b) 0 = 0 := by rw [ht _ (Nat.le_refl _)]; exact wsN_high n hP (Nat.le_refl _)
 have h := wv_set (l := out) (j := i + nw b) (UInt32.ofNat c) (by omega)
 rw [h0, UInt32.toNat_ofNat', Nat.mod_eq_of_lt (a := c) (by omega)] at h
 simp only [UInt32.toNat_zero, Nat.zero_mul, Nat.add_zero] at h
 refine wv_inj (by rw [List.length_set, wsN_length, hl]) ?_
 rw [h, hv, Nat.mod_eq_of_lt (lt_nw b)]
 have e : a % 4294967296 ^ (i + 1) * b = a % 4294967296 ^ i * b + x.toNat * 4294967296 ^ i * b := by
  rw [mod_low_succ, ← hx, Nat.add_mul, Nat.mul_comm (4294967296 ^ i)]
 rw [← e, wsN_nil_iff]
 refine Nat.lt_of_lt_of_le (Nat.mul_lt_mul'' (Nat.mod_lt _ (Nat.pow_pos (by omega) : 0 < 4294967296 ^ (i + 1))) (lt_nw b)) ?_
 rw [← Nat.pow_add]; exact Nat.pow_le_pow_right (by omega) (by omega)
theorem mul_fin {a b n i : Nat} (h : nw a ≤ i) (hn : n = nw a + nw b) : wv (wsN (a % 4294967296 ^ i * b) n) = a * b := by
 rw [Nat.mod_eq_of_lt (Nat.lt_of_lt_of_le (lt_nw a) (Nat.pow_le_pow_right (by omega) h)), wsN_nil_iff]
 rw [hn, Nat.pow_add]; exact Nat.mul_lt_mul'' (lt_nw a) (lt_nw b)
theorem mul_start {a b n : Nat} : List.replicate n 0 = wsN (a % 4294967296 ^ 0 * b) n := by rw [Nat.pow_zero, Nat.mod_one, Nat.zero_mul, wsN_zeros]
theorem nw_add_le (a b : Nat) : nw (a + b) ≤ max (nw a) (nw b) + 1 := by
 refine nw_le ?_
 have ha : a < 4294967296 ^ max (nw a) (nw b) := Nat.lt_of_lt_of_le (lt_nw a) (Nat.pow_le_pow_right (by omega) (Nat.le_max_left _ _))
 have hb : b < 4294967296 ^ max (nw a) (nw b) := Nat.lt_of_lt_of_le (lt_nw b) (Nat.pow_le_pow_right (by omega) (Nat.le_max_right _ _))
 rw [Nat.pow_succ]; omega
theorem nw_mul_le (a b : Nat) : nw (a * b) ≤ nw a + nw b := nw_le (by rw [Nat.pow_add]; exact Nat.mul_lt_mul'' (lt_nw a) (lt_nw b))
theorem wv_inj_of {a b : Nat} (h : ∀ i, ((limbs a).getD i 0).toNat = ((limbs b).getD i 0).toNat) : limbs a = limbs b := by
 have hl : (limbs a).length = (limbs b).length := by
  refine Nat.le_antisymm ?_ ?_
  ·refine Nat.le_of_not_lt fun hlt => ?_
   have h1 := h (nw a - 1)
   have ha : a ≠ 0 := fun e => by subst e; rw [limbs_zero] at hlt; simp at hlt
   have hp := nw_pos_of ha
   have : (limbs a).length = nw a := rfl
   rw [top_limb ha, limb_zero (b := b) (show (limbs b).length ≤ nw a - 1 by omega)] at h1
   have := le_of_nw ha
   have h2 : 0 < a / 4294967296 ^ (nw a - 1) := Nat.div_pos this (Nat.pow_pos (by omega))
   omega
  ·refine Nat.le_of_not_lt fun hlt => ?_
   have h1 := h (nw b - 1)
   have hb : b ≠ 0 := fun e => by subst e; rw [limbs_zero] at hlt; simp at hlt
   have hp := nw_pos_of hb
   have : (limbs b).length = nw b := rfl
   rw [top_limb hb, limb_zero (b := a) (show (limbs a).length ≤ nw b - 1 by omega)] at h1
   have := le_of_nw hb
   have h2 : 0 < b / 4294967296 ^ (nw b - 1) := Nat.div_pos this (Nat.pow_pos (by omega))
   omega
 refine List.ext_getElem hl fun i h1 h2 => ?_
 have := h i
 rw [UInt32.toNat_inj] at this
 simpa [List.getD, h1, h2] using this
theorem limbz (b k : Nat) : nw b ≤ k → ((limbs b).getD k 0).toNat = 0 := limb_zero
theorem cmp_lt {a b : Nat} (h : cmpI a b < 0) : a < b := (cmpI_lt a b).1 h
theorem cmp_nlt {a b : Nat} (h : ¬ cmpI a b < 0) : b ≤ a := by rw [cmpI_lt] at h; omega
def shl (l : List UInt32) (n : Nat) : List UInt32 := wsN (wv l * 2 ^ n) (l.length + 1)
theorem shl_length (l : List UInt32) (n : Nat) : (shl l n).length = l.length + 1 := wsN_length _ _
theorem shl_lt {x : UInt32} {n : Int} (h0 : 0 ≤ n) (h1 : n < 32) : x.toNat * 2 ^ n.toNat < 18446744073709551616 := by
 have hx := x.toNat_lt
 have h2 : 2 ^ n.toNat ≤ 2 ^ 32 := Nat.pow_le_pow_right (by omega) (by omega)
 have := Nat.mul_le_mul (show x.toNat ≤ 4294967295 by omega) h2
 omega
theorem shl_ltN {x : UInt32} {n : Nat} (h1 : n < 32) : x.toNat * 2 ^ n < 18446744073709551616 := shl_lt (n := (n : Int)) (by omega) (by omega)
theorem shift_step {l : List UInt32} {k n m : Nat} (hk : k < l.length) (hm : m = l.length + 1) (hn : n < 32) {y : Nat} (hy : y = (l.getD k 0).toNat * 2 ^ n) {old : UInt32} (ho : old = (wsN (wv (l.take k) * 2 ^ n) m).getD k 0) :
  ((wsN (wv (l.take k) * 2 ^ n) m).set k (old ||| UInt32.ofNat y)).set (k + 1) (UInt32.ofNat (y / 4294967296)) = wsN (wv (l.take (k + 1)) * 2 ^ n) m := by
 have hlen := wv_lt (l.take k)
 rw [List.length_take, Nat.min_eq_left (by omega)] at hlen
 have hp : 0 < 4294967296 ^ k := Nat.pow_pos (by omega)
 have h2n : 0 < 2 ^ n := Nat.pow_pos (by omega)
 have h32 : 2 ^ n ≤ 2 ^ 31 := Nat.pow_le_pow_right (by omega) (by omega)
 have hc : wv (l.take k) * 2 ^ n / 4294967296 ^ k < 2 ^ n := by
  rw [Nat.div_lt_iff_lt_mul hp, Nat.mul_comm (2 ^ n)]
  exact Nat.mul_lt_mul_of_pos_right hlen h2n
 have hold : old = UInt32.ofNat (wv (l.take k) * 2 ^ n / 4294967296 ^ k) := by rw [ho, wsN_get (by omega)]
 have e : wv (l.take (k + 1)) * 2 ^ n = wv (l.take k) * 2 ^ n + 4294967296 ^ k * y := by
  rw [take_wv hk, Nat.add_mul, hy, Nat.mul_assoc]
 rw [e]
 generalize hC : wv (l.take k) * 2 ^ n = C at *
 have hor : old ||| UInt32.ofNat y = UInt32.ofNat (C / 4294967296 ^ k + y) := by
  rw [hold, ← UInt32.toNat_inj, UInt32.toNat_or, UInt32.toNat_ofNat', UInt32.toNat_ofNat', UInt32.toNat_ofNat']
  have hyd : y % 2 ^ 32 = (((l.getD k 0).toNat) % 2 ^ (32 - n)) * 2 ^ n := by
   rw [hy, show (2 : Nat) ^ 32 = 2 ^ (32 - n) * 2 ^ n by rw [← Nat.pow_add]; congr 1; omega, Nat.mul_mod_mul_right]
  have hyc : (C / 4294967296 ^ k + y) % 2 ^ 32 = C / 4294967296 ^ k + y % 2 ^ 32 := by
   have hl : y % 2 ^ 32 + 2 ^ n ≤ 2 ^ 32 := by
    rw [hyd]
    have h3 : (l.getD k 0).toNat % 2 ^ (32 - n) + 1 ≤ 2 ^ (32 - n) := Nat.mod_lt _ (Nat.pow_pos (by omega))
    have h4 := Nat.mul_le_mul_right (2 ^ n) h3
    rw [Nat.add_mul, Nat.one_mul, ← Nat.pow_add, show 32 - n + n = 32 by omega] at h4
    exact h4
   generalize C / 4294967296 ^ k = c0 at *
   omega
  rw [hyc, Nat.mod_eq_of_lt (a := C / 4294967296 ^ k) (by omega), hyd, Nat.mul_comm _ (2 ^ n)]
  have := Nat.two_pow_add_eq_or_of_lt hc ((l.getD k 0).toNat % 2 ^ (32 - n))
  rw [Nat.or_comm, ← this, Nat.add_comm]
 have hpk : 4294967296 ^ (k + 1) = 4294967296 ^ k * 4294967296 := Nat.pow_succ ..
 have hdiv : (C + 4294967296 ^ k * y) / 4294967296 ^ k = C / 4294967296 ^ k + y := Nat.add_mul_div_left _ _ hp
 have hmod : (C + 4294967296 ^ k * y) % 4294967296 ^ k = C % 4294967296 ^ k := Nat.add_mul_mod_self_left _ _ _
 have hylt : y < 18446744073709551616 / 2 := by
  rw [hy]
  have hx := (l.getD k 0).toNat_lt
  have := Nat.mul_le_mul (show (l.getD k 0).toNat ≤ 4294967295 by omega) h32
  omega
 refine List.ext_getElem (by simp [wsN_length]) fun i h1 h3 => ?_
 have him : i < m := by simpa [wsN_length] using h3
 have hw : ∀ x, (wsN x m)[i]'(by rw [wsN_length]; exact him) = UInt32.ofNat (x / 4294967296 ^ i) := fun x => by simp [wsN]
 rw [List.getElem_set, List.getElem_set]
 by_cases hi1 : k + 1 = i
 ·rw [if_pos hi1]
  subst hi1
  rw [hw, hpk, ← Nat.div_div_eq_div_mul, hdiv]
  refine ofNat32 ?_
  have : (C / 4294967296 ^ k + y) / 4294967296 = y / 4294967296 := by
   have hq := Nat.div_add_mod y 4294967296
   have hl : y % 4294967296 + 2 ^ n ≤ 4294967296 := by
    have hyd : y % 2 ^ 32 = (((l.getD k 0).toNat) % 2 ^ (32 - n)) * 2 ^ n := by
     rw [hy, show (2 : Nat) ^ 32 = 2 ^ (32 - n) * 2 ^ n by rw [← Nat.pow_add]; congr 1; omega, Nat.mul_mod_mul_right]
    rw [show (4294967296 : Nat) = 2 ^ 32 from rfl, hyd]
    have h3 : (l.getD k 0).toNat % 2 ^ (32 - n) + 1 ≤ 2 ^ (32 - n) := Nat.mod_lt _ (Nat.pow_pos (by omega))
    have h4 := Nat.mul_le_mul_right (2 ^ n) h3
    rw [Nat.add_mul, Nat.one_mul, ← Nat.pow_add, show 32 - n + n = 32 by omega] at h4
    exact h4
   clear hdiv hold hor
   generalize C / 4294967296 ^ k = c0 at *
   omega
  rw [this]
 ·rw [if_neg hi1]
  by_cases hi2 : k = i
  ·rw [if_pos hi2]
   subst hi2
   rw [hw, hdiv, hor]
  ·rw [if_neg hi2, hw, hw]
   refine ofNat32 ?_
   by_cases hlt : i < k
   ·have e1 : ∀ z, z / 4294967296 ^ i % 4294967296 = z % 4294967296 ^ k / 4294967296 ^ i % 4294967296 := by
     intro z
     have : 4294967296 ^ k = 4294967296 ^ i * (4294967296 * 4294967296 ^ (k - i - 1)) := by
      rw [← Nat.mul_assoc, ← Nat.pow_succ, ← Nat.pow_add]; congr 1; omega
     rw [this, Nat.mod_mul_right_div_self, Nat.mod_mul_right_mod]
    rw [e1 C, e1 (C + 4294967296 ^ k * y), hmod]
   ·have hk2 : 4294967296 ^ (k + 2) ≤ 4294967296 ^ i := Nat.pow_le_pow_right (by omega) (by omega)
    have hpk2 : 4294967296 ^ (k + 2) = 4294967296 ^ k * 18446744073709551616 := by rw [Nat.pow_add]
    have hCl : C < 4294967296 ^ k * 4294967296 := by
     have := Nat.div_add_mod C (4294967296 ^ k)
     have h9 := Nat.mod_lt C hp
     have h8 : 4294967296 ^ k * (C / 4294967296 ^ k) ≤ 4294967296 ^ k * 2147483648 := Nat.mul_le_mul_left _ (by omega)
     generalize 4294967296 ^ k * (C / 4294967296 ^ k) = z at *
     generalize 4294967296 ^ k = p at *
     omega
    have hyl : 4294967296 ^ k * y ≤ 4294967296 ^ k * 9223372036854775808 := Nat.mul_le_mul_left _ (by omega)
    rw [Nat.div_eq_of_lt (a := C) (by omega), Nat.div_eq_of_lt (a := C + 4294967296 ^ k * y) (by omega)]
end Go.Proofs.Ytgfomedobfaidaa
end
section
set_option linter.unusedVariables false
set_option linter.unusedSimpArgs false
namespace Go.Proofs.Ytgfomedobfaidaa
open Go.RowKit
@[reducible] def n64 (n : Nat) : Value := .int .u64 (n : Int)
theorem isN64 {b b' : Nat} (e : b = b') (lab : Lab) (w : World) : Is (n64 b') lab w (n64 b) := by subst e; rfl
section
variable {P : Program} {N : Nat} {l : List (Nat × Value)} {w : World} {lab : Lab} {ty : TypeId}
theorem wrap_n64 {n : Nat} (h : n < 18446744073709551616) : IntKind.u64.wrap (n : Int) = (n : Int) := by rw [IntKind.wrap_u64]; omega
theorem Does.n64_add {t yt : TypeId} {x y : Operand} {a b : Nat} (hx : ev l x = some (n64 a)) (hy : ev l y = some (n64 b)) (h : a + b < 18446744073709551616) : Does P l (.binOp .add t x y yt) ty w (n64 (a + b)) w :=
 run_binOp_int hx hy (by
  have e : IntKind.u64.wrap ((a : Int) + b) = ((a + b : Nat) : Int) := by rw [← Int.natCast_add]; exact wrap_n64 h
  simp only [binOp, Op.intArith, ne_eq, not_true, if_false, e]; rfl)
theorem Does.n64_sub {t yt : TypeId} {x y : Operand} {a b : Nat} (hx : ev l x = some (n64 a)) (hy : ev l y = some (n64 b)) (h : b ≤ a) (h' : a < 18446744073709551616) : Does P l (.binOp .sub t x y yt) ty w (n64 (a - b)) w :=
 run_binOp_int hx hy (by
  have e : IntKind.u64.wrap ((a : Int) - b) = ((a - b : Nat) : Int) := by rw [← Int.ofNat_sub h]; exact wrap_n64 (by omega)
  simp only [binOp, Op.intArith, ne_eq, not_true, if_false, e]; rfl)
theorem Does.n64_mul {t yt : TypeId} {x y : Operand} {a b : Nat} (hx : ev l x = some (n64 a)) (hy : ev l y = some (n64 b)) (h : a * b < 18446744073709551616) : Does P l (.binOp .mul t x y yt) ty w (n64 (a * b)) w :=
 run_binOp_int hx hy (by
  have e : IntKind.u64.wrap ((a : Int) * b) = ((a * b : Nat) : Int) := by rw [← Int.natCast_mul]; exact wrap_n64 h
  simp only [binOp, Op.intArith, ne_eq, not_true, if_false, e]; rfl)
theorem Does.n64_quo {t yt : TypeId} {x y : Operand} {a b : Nat} (hx : ev l x = some (n64 a)) (hy : ev l y = some (n64 b)) (hb : b ≠ 0) (h : a < 18446744073709551616) : Does P l (.binOp .quo t x y yt) ty w (n64 (a / b)) w :=
 run_binOp_int hx hy (by
  have e : IntKind.u64.wrap ((a : Int).tdiv b) = ((a / b : Nat) : Int) := by
   rw [Int.tdiv_eq_ediv_of_nonneg (by omega), ← Int.natCast_ediv]; exact wrap_n64 (Nat.lt_of_le_of_lt (Nat.div_le_self _ _) h)
  simp only [binOp, Op.intDiv, ne_eq, not_true, if_false]; rw [if_neg (by omega), e]; rfl)
theorem Does.n64_rem {t yt : TypeId} {x y : Operand} {a b : Nat} (hx : ev l x = some (n64 a)) (hy : ev l y = some (n64 b)) (hb : b ≠ 0) : Does P l (.binOp .rem t x y yt) ty w (n64 (a % b)) w :=
 run_binOp_int hx hy (by
  have e : ((a : Int).tmod b) = ((a % b : Nat) : Int) := by rw [Int.tmod_eq_emod_of_nonneg (by omega), ← Int.natCast_emod]
  simp only [binOp, Op.intDiv, ne_eq, not_true, if_false]; rw [if_neg (by omega), e]; rfl)
theorem Does.n64_shl {t yt : TypeId} {x y : Operand} {yk : IntKind} {a : Nat} {b : Int} (hx : ev l x = some (n64 a)) (hy : ev l y = some (.int yk b)) (h0 : 0 ≤ b) (h1 : b < 64) (h : a * 2 ^ b.toNat < 18446744073709551616) : Does P l (.binOp .shl t x y yt) ty w (n64 (a * 2 ^ b.toNat)) w :=
 run_binOp_shift (.inl rfl) hx hy (by
  obtain ⟨n, rfl⟩ := Int.eq_ofNat_of_zero_le h0
  have e : IntKind.u64.wrap ((a : Int) * 2 ^ (min (n : Int).toNat IntKind.u64.bits)) = ((a * 2 ^ (n : Int).toNat : Nat) : Int) := by
   have hn : n < 64 := by omega
   rw [Int.toNat_natCast, show min n IntKind.u64.bits = n by simp [IntKind.bits]; omega]
   have : ((a : Int) * 2 ^ n) = ((a * 2 ^ n : Nat) : Int) := by simp
   rw [this]; exact wrap_n64 (by simpa using h)
  simp only [Op.shift]; rw [if_neg (by omega), e]; rfl)
theorem Does.n64_shr {t yt : TypeId} {x y : Operand} {yk : IntKind} {a : Nat} {b : Int} (hx : ev l x = some (n64 a)) (hy : ev l y = some (.int yk b)) (h0 : 0 ≤ b) (h1 : b < 64) : Does P l (.binOp .shr t x y yt) ty w (n64 (a / 2 ^ b.toNat)) w :=
 run_binOp_shift (.inr rfl) hx hy (by
  obtain ⟨n, rfl⟩ := Int.eq_ofNat_of_zero_le h0
  have e : ((a : Int).fdiv (2 ^ (min (n : Int).toNat IntKind.u64.bits))) = ((a / 2 ^ (n : Int).toNat : Nat) : Int) := by
   have hn : n < 64 := by omega
   rw [Int.toNat_natCast, show min n IntKind.u64.bits = n by simp [IntKind.bits]; omega, Int.fdiv_eq_ediv_of_nonneg _ (Int.le_of_lt (Int.pow_pos (by omega)))]
   simp
  simp only [Op.shift]; rw [if_neg (by omega), e]; rfl)
theorem Does.n64_shlN {t yt : TypeId} {x y : Operand} {yk : IntKind} {a b : Nat} (hx : ev l x = some (n64 a)) (hy : ev l y = some (.int yk (b : Int))) (h1 : b < 64) (h : a * 2 ^ b < 18446744073709551616) : Does P l (.binOp .shl t x y yt) ty w (n64 (a * 2 ^ b)) w :=
 Does.n64_shl (b := (b : Int)) hx hy (by omega) (by omega) h
theorem Does.n64_shrN {t yt : TypeId} {x y : Operand} {yk : IntKind} {a b : Nat} (hx : ev l x = some (n64 a)) (hy : ev l y = some (.int yk (b : Int))) (h1 : b < 64) : Does P l (.binOp .shr t x y yt) ty w (n64 (a / 2 ^ b)) w :=
 Does.n64_shr (b := (b : Int)) hx hy (by omega) (by omega)
theorem Does.n64_shl32 {t yt : TypeId} {x y : Operand} {yk : IntKind} {a : Nat} (hx : ev l x = some (n64 a)) (hy : ev l y = some (.int yk 32)) (h : a < 4294967296) : Does P l (.binOp .shl t x y yt) ty w (n64 (a * 4294967296)) w :=
 Does.n64_shl hx hy (by omega) (by omega) (by show a * 4294967296 < _; omega)
theorem Does.n64_shr32 {t yt : TypeId} {x y : Operand} {yk : IntKind} {a : Nat} (hx : ev l x = some (n64 a)) (hy : ev l y = some (.int yk 32)) : Does P l (.binOp .shr t x y yt) ty w (n64 (a / 4294967296)) w :=
 Does.n64_shr hx hy (by omega) (by omega)
theorem Does.n64_or {t yt : TypeId} {x y : Operand} {a b : Nat} (hx : ev l x = some (n64 a)) (hy : ev l y = some (n64 b)) (ha : a < 18446744073709551616) (hb : b < 18446744073709551616) : Does P l (.binOp .or t x y yt) ty w (n64 (a ||| b)) w := by
 have h := Does.u64_or (P := P) (l := l) (ty := ty) (w := w) (t := t) (yt := yt) (x := x) (y := y) (a := UInt64.ofNat a) (b := UInt64.ofNat b) (by rw [hx]; simp [Nat.mod_eq_of_lt ha]) (by rw [hy]; simp [Nat.mod_eq_of_lt hb])
 have e : u64 (UInt64.ofNat a ||| UInt64.ofNat b) = n64 (a ||| b) := by simp [Nat.mod_eq_of_lt ha, Nat.mod_eq_of_lt hb]
 rw [e] at h; exact h
theorem or_low {a b : Nat} (h : b < 4294967296) : a * 4294967296 ||| b = a * 4294967296 + b := by
 have := Nat.two_pow_add_eq_or_of_lt (i := 32) (b := b) (by omega) a
 rw [show (2 : Nat) ^ 32 = 4294967296 from rfl, Nat.mul_comm] at this; exact this.symm
theorem Does.n64_or_low {t yt : TypeId} {x y : Operand} {a b : Nat} (hx : ev l x = some (n64 (a * 4294967296))) (hy : ev l y = some (n64 b)) (ha : a < 4294967296) (hb : b < 4294967296) : Does P l (.binOp .or t x y yt) ty w (n64 (a * 4294967296 + b)) w := by
 have h := Does.n64_or (P := P) (ty := ty) (w := w) (t := t) (yt := yt) hx hy (by omega) (by omega)
 rw [or_low hb] at h; exact h
theorem Does.u32_n64 {s t : TypeId} {x : Operand} {a : UInt32} {ds : TypeDesc} (hs : P.underlying s = some ds) (ht : P.underlying t = some (.int .u64)) (hx : ev l x = some (u32 a)) : Does P l (.convert s t x) ty w (n64 a.toNat) w :=
 Does.conv_int hs ht hx (wrap_n64 (Nat.lt_trans a.toNat_lt (by decide)))
theorem Does.u8_n64 {s t : TypeId} {x : Operand} {a : UInt8} {ds : TypeDesc} (hs : P.underlying s = some ds) (ht : P.underlying t = some (.int .u64)) (hx : ev l x = some (u8 a)) : Does P l (.convert s t x) ty w (n64 a.toNat) w :=
 Does.conv_int hs ht hx (wrap_n64 (Nat.lt_trans a.toNat_lt (by decide)))
theorem Does.n64_u32 {s t : TypeId} {x : Operand} {a : Nat} {ds : TypeDesc} (hs : P.underlying s = some ds) (ht : P.underlying t = some (.int .u32)) (hx : ev l x = some (n64 a)) : Does P l (.convert s t x) ty w (u32 (UInt32.ofNat a)) w :=
 Does.conv_int hs ht hx (wrap32' a)
theorem Does.n64_u8 {s t : TypeId} {x : Operand} {a : Nat} {ds : TypeDesc} (hs : P.underlying s = some ds) (ht : P.underlying t = some (.int .u8)) (hx : ev l x = some (n64 a)) : Does P l (.convert s t x) ty w (u8 (UInt8.ofNat a)) w :=
 Does.conv_int hs ht hx (wrap8 a)
theorem Does.n64_i64 {s t : TypeId} {x : Operand} {a : Nat} {ds : TypeDesc} (hs : P.underlying s = some ds) (ht : P.underlying t = some (.int .i64)) (hx : ev l x = some (n64 a)) (h : a < 9223372036854775808) : Does P l (.convert s t x) ty w (i64 (a : Int)) w :=
 Does.conv_int hs ht hx (by rw [i64_wrap_in (by omega) (by omega)])
theorem Does.i64_n64 {s t : TypeId} {x : Operand} {a : Int} {ds : TypeDesc} (hs : P.underlying s = some ds) (ht : P.underlying t = some (.int .u64)) (hx : ev l x = some (i64 a)) (h0 : 0 ≤ a) (h : a < 9223372036854775808) : Does P l (.convert s t x) ty w (n64 a.toNat) w :=
 Does.conv_int hs ht hx (by obtain ⟨n, rfl⟩ := Int.eq_ofNat_of_zero_le h0; exact wrap_n64 (by omega))
theorem Does.u32of_i64 {s t : TypeId} {x : Operand} {a : Nat} {ds : TypeDesc} (hs : P.underlying s = some ds) (ht : P.underlying t = some (.int .i64)) (hx : ev l x = some (u32 (UInt32.ofNat a))) : Does P l (.convert s t x) ty w (i64 ((a % 4294967296 : Nat) : Int)) w :=
 Does.conv_int hs ht hx (by rw [UInt32.toNat_ofNat']; show IntKind.i64.wrap ((a % 2 ^ 32 : Nat) : Int) = _; rw [i64_wrap_in (by omega) (by omega)])
theorem Does.i64_u32i {s t : TypeId} {x : Operand} {a : Int} {ds : TypeDesc} (hs : P.underlying s = some ds) (ht : P.underlying t = some (.int .u32)) (hx : ev l x = some (i64 a)) : Does P l (.convert s t x) ty w (u32 (UInt32.ofNat (a % 4294967296).toNat)) w :=
 Does.conv_int hs ht hx (by
  have e : IntKind.u32.wrap a = a % 4294967296 := by
   unfold IntKind.wrap
   simp [IntKind.signed, IntKind.bits]
  rw [e, UInt32.toNat_ofNat']
  omega)
theorem Does.i64_u32 {s t : TypeId} {x : Operand} {a : Int} {ds : TypeDesc} (hs : P.underlying s = some ds) (ht : P.underlying t = some (.int .u32)) (hx : ev l x = some (i64 a)) (h0 : 0 ≤ a) : Does P l (.convert s t x) ty w (u32 (UInt32.ofNat a.toNat)) w :=
 Does.conv_int hs ht hx (by obtain ⟨n, rfl⟩ := Int.eq_ofNat_of_zero_le h0; rw [IntKind.wrap_u32', UInt32.toNat_ofNat']; omega)
theorem Does.index_sub {t e : TypeId} {x y : Operand} {k : IntKind} {i : Int} {b o n c : Nat} {ag : Bool} {by_ : Nat} {z : Option Value} (j : Nat) (ht : P.underlying t = some (.slice e)) (he : tyRow P e = some (ag, 1, z, by_)) (hx : ev l x = some (.slice (some ⟨b, o, none⟩) n c)) (hy : ev l y = some (.int k i)) (hij : i = (j : Int)) (hj : j < n) :
  Does P l (.indexAddr t x y) ty w (.pointer (some ⟨b, o + j, none⟩)) w := by
 have h := Does.indexAddr (P := P) (l := l) (w := w) (ty := ty) ht he hx hy (by omega) (by omega)
 rw [hij, Int.toNat_natCast, Nat.mul_one] at h
 exact h
theorem Does.slice_own {t e : TypeId} {x y y' : Operand} {k k' : IntKind} {i i' : Int} {b n c : Nat} {ag : Bool} {by_ : Nat} {z : Option Value} (j j' : Nat) (ht : P.underlying t = some (.slice e)) (he : tyRow P e = some (ag, 1, z, by_)) (hx : ev l x = some (.slice (some ⟨b, 0, none⟩) n c)) (hy : ev l y = some (.int k i)) (hy' : ev l y' = some (.int k' i')) (hij : i = (j : Int)) (hij' : i' = (j' : Int)) (hj : j ≤ j' ∧ j < c) (hj' : j' ≤ c) :
  Does P l (.slice t x (some y) (some y') none) ty w (.slice (some ⟨b, j, none⟩) (j' - j) (c - j)) w := by
 have h := Does.slice_lohi (P := P) (l := l) (w := w) (ty := ty) j j' ht he hx hy hy' hij hij' hj.1 hj'
 rw [if_neg (by omega)] at h
 simp only [Option.map_some, add_flat, Nat.mul_one, Nat.zero_add] at h
 exact h
def putAt (us : List UInt32) (o : Nat) (xs : List UInt32) : List UInt32 := us.take o ++ xs ++ us.drop (o + xs.length)
theorem putAt_length {us : List UInt32} {o : Nat} {xs : List UInt32} (h : o + xs.length ≤ us.length) : (putAt us o xs).length = us.length := by simp [putAt]; omega
theorem putAt_nil (us : List UInt32) (o : Nat) : putAt us o [] = us := by simp [putAt]
theorem putAt_set {us : List UInt32} {o k : Nat} {xs : List UInt32} (hk : xs.length = k) (h : o + k < us.length) (w : UInt32) : (putAt us o xs).set (o + k) w = putAt us o (xs ++ [w]) := by
 subst hk
 unfold putAt
 rw [List.append_assoc, List.set_append_right _ _ (by simp; omega), List.length_take, Nat.min_eq_left (by omega), show o + xs.length - o = xs.length by omega, List.set_append_right _ _ (Nat.le_refl _), Nat.sub_self]
 rw [List.drop_eq_getElem_cons (by omega), List.set_cons_zero]
 simp [List.append_assoc, Nat.add_assoc]
theorem putAt_get {us : List UInt32} {o j : Nat} {xs : List UInt32} (h : o + xs.length ≤ us.length) (hj : xs.length ≤ j) : (putAt us o xs).getD (o + j) 0 = us.getD (o + j) 0 := by
 unfold putAt
 simp only [List.getD]
 rw [List.append_assoc, List.getElem?_append_right (by simp; omega), List.getElem?_append_right (by simp; omega), List.getElem?_drop]
 simp only [List.length_take]
 congr 2; omega
theorem putAt_putAt {us : List UInt32} {o : Nat} {xs ys : List UInt32} (h : o + ys.length ≤ us.length) (hl : xs.length = ys.length) : putAt (putAt us o xs) o ys = putAt us o ys := by
 refine List.ext_getElem (by rw [putAt_length (by rw [putAt_length (by omega)]; omega), putAt_length (by omega), putAt_length h]) fun i h1 h2 => ?_
 simp only [putAt, List.getElem_append, List.getElem_take, List.getElem_drop, List.length_append, List.length_take, List.length_drop]
 split <;> split <;> (try split) <;> (try split) <;> (try split) <;> simp_all <;> (try omega) <;> congr 1 <;> omega
end
end Go.Proofs.Ytgfomedobfaidaa
end
section
namespace Go.Proofs.Ytgfomedobfaidaa
theorem mixed : Try.prog.follows .mixedOrders = true := by kernel_rfl
theorem cal30 : Callable Try.prog 30 := ⟨Try.f30, Try.func30, by kernel_rfl, by kernel_rfl⟩
theorem cal31 : Callable Try.prog 31 := ⟨Try.f31, Try.func31, by kernel_rfl, by kernel_rfl⟩
theorem cal32 : Callable Try.prog 32 := ⟨Try.f32, Try.func32, by kernel_rfl, by kernel_rfl⟩
theorem cal34 : Callable Try.prog 34 := ⟨Try.f34, Try.func34, by kernel_rfl, by kernel_rfl⟩
theorem cal36 : Callable Try.prog 36 := ⟨Try.f36, Try.func36, by kernel_rfl, by kernel_rfl⟩
theorem cal37 : Callable Try.prog 37 := ⟨Try.f37, Try.func37, by kernel_rfl, by kernel_rfl⟩
theorem cal39 : Callable Try.prog 39 := ⟨Try.f39, Try.func39, by kernel_rfl, by kernel_rfl⟩
theorem cal41 : Callable Try.prog 41 := ⟨Try.f41, Try.func41, by kernel_rfl, by kernel_rfl⟩
theorem cal46 : Callable Try.prog 46 := ⟨Try.f46, Try.func46, by kernel_rfl, by kernel_rfl⟩
theorem cal47 : Callable Try.prog 47 := ⟨Try.f47, Try.func47, by kernel_rfl, by kernel_rfl⟩
theorem cal48 : Callable Try.prog 48 := ⟨Try.f48, Try.func48, by kernel_rfl, by kernel_rfl⟩
theorem cal49 : Callable Try.prog 49 := ⟨Try.f49, Try.func49, by kernel_rfl, by kernel_rfl⟩
theorem cal61 : Callable Try.prog 61 := ⟨Try.f61, Try.func61, by kernel_rfl, by kernel_rfl⟩
theorem cal69 : Callable Try.prog 69 := ⟨Try.f69, Try.func69, by kernel_rfl, by kernel_rfl⟩
theorem cal81 : Callable Try.prog 81 := ⟨Try.f81, Try.func81, by kernel_rfl, by kernel_rfl⟩
theorem cal93 : Callable Try.prog 93 := ⟨Try.f93, Try.func93, by kernel_rfl, by kernel_rfl⟩
theorem cal104 : Callable Try.prog 104 := ⟨Try.f104, Try.func104, by kernel_rfl, by kernel_rfl⟩
theorem cal105 : Callable Try.prog 105 := ⟨Try.f105, Try.func105, by kernel_rfl, by kernel_rfl⟩
theorem cal106 : Callable Try.prog 106 := ⟨Try.f106, Try.func106, by kernel_rfl, by kernel_rfl⟩
theorem cal107 : Callable Try.prog 107 := ⟨Try.f107, Try.func107, by kernel_rfl, by kernel_rfl⟩
theorem cal108 : Callable Try.prog 108 := ⟨Try.f108, Try.func108, by kernel_rfl, by kernel_rfl⟩
theorem cal109 : Callable Try.prog 109 := ⟨Try.f109, Try.func109, by kernel_rfl, by kernel_rfl⟩
theorem cal110 : Callable Try.prog 110 := ⟨Try.f110, Try.func110, by kernel_rfl, by kernel_rfl⟩
theorem cal111 : Callable Try.prog 111 := ⟨Try.f111, Try.func111, by kernel_rfl, by kernel_rfl⟩
theorem cal112 : Callable Try.prog 112 := ⟨Try.f112, Try.func112, by kernel_rfl, by kernel_rfl⟩
theorem cal113 : Callable Try.prog 113 := ⟨Try.f113, Try.func113, by kernel_rfl, by kernel_rfl⟩
theorem cal114 : Callable Try.prog 114 := ⟨Try.f114, Try.func114, by kernel_rfl, by kernel_rfl⟩
theorem cal115 : Callable Try.prog 115 := ⟨Try.f115, Try.func115, by kernel_rfl, by kernel_rfl⟩
theorem cal116 : Callable Try.prog 116 := ⟨Try.f116, Try.func116, by kernel_rfl, by kernel_rfl⟩
theorem cal117 : Callable Try.prog 117 := ⟨Try.f117, Try.func117, by kernel_rfl, by kernel_rfl⟩
theorem cal126 : Callable Try.prog 126 := ⟨Try.f126, Try.func126, by kernel_rfl, by kernel_rfl⟩
theorem cal130 : Callable Try.prog 130 := ⟨Try.f130, Try.func130, by kernel_rfl, by kernel_rfl⟩
theorem cal131 : Callable Try.prog 131 := ⟨Try.f131, Try.func131, by kernel_rfl, by kernel_rfl⟩
theorem cal132 : Callable Try.prog 132 := ⟨Try.f132, Try.func132, by kernel_rfl, by kernel_rfl⟩
theorem cal136 : Callable Try.prog 136 := ⟨Try.f136, Try.func136, by kernel_rfl, by kernel_rfl⟩
theorem cal141 : Callable Try.prog 141 := ⟨Try.f141, Try.func141, by kernel_rfl, by kernel_rfl⟩
theorem cal153 : Callable Try.prog 153 := ⟨Try.f153, Try.func153, by kernel_rfl, by kernel_rfl⟩
theorem cal155 : Callable Try.prog 155 := ⟨Try.f155, Try.func155, by kernel_rfl, by kernel_rfl⟩
theorem cal156 : Callable Try.prog 156 := ⟨Try.f156, Try.func156, by kernel_rfl, by kernel_rfl⟩
theorem cal157 : Callable Try.prog 157 := ⟨Try.f157, Try.func157, by kernel_rfl, by kernel_rfl⟩
theorem cal158 : Callable Try.prog 158 := ⟨Try.f158, Try.func158, by kernel_rfl, by kernel_rfl⟩
theorem cal159 : Callable Try.prog 159 := ⟨Try.f159, Try.func159, by kernel_rfl, by kernel_rfl⟩
theorem cal160 : Callable Try.prog 160 := ⟨Try.f160, Try.func160, by kernel_rfl, by kernel_rfl⟩
theorem cal161 : Callable Try.prog 161 := ⟨Try.f161, Try.func161, by kernel_rfl, by kernel_rfl⟩
theorem cal162 : Callable Try.prog 162 := ⟨Try.f162, Try.func162, by kernel_rfl, by kernel_rfl⟩
theorem cal171 : Callable Try.prog 171 := ⟨Try.f171, Try.func171, by kernel_rfl, by kernel_rfl⟩
theorem cal172 : Callable Try.prog 172 := ⟨Try.f172, Try.func172, by kernel_rfl, by kernel_rfl⟩
theorem cal173 : Callable Try.prog 173 := ⟨Try.f173, Try.func173, by kernel_rfl, by kernel_rfl⟩
theorem cal176 : Callable Try.prog 176 := ⟨Try.f176, Try.func176, by kernel_rfl, by kernel_rfl⟩
theorem cal182 : Callable Try.prog 182 := ⟨Try.f182, Try.func182, by kernel_rfl, by kernel_rfl⟩
theorem cal183 : Callable Try.prog 183 := ⟨Try.f183, Try.func183, by kernel_rfl, by kernel_rfl⟩
theorem cal184 : Callable Try.prog 184 := ⟨Try.f184, Try.func184, by kernel_rfl, by kernel_rfl⟩
theorem cal189 : Callable Try.prog 189 := ⟨Try.f189, Try.func189, by kernel_rfl, by kernel_rfl⟩
theorem cal190 : Callable Try.prog 190 := ⟨Try.f190, Try.func190, by kernel_rfl, by kernel_rfl⟩
theorem cal192 : Callable Try.prog 192 := ⟨Try.f192, Try.func192, by kernel_rfl, by kernel_rfl⟩
theorem cal193 : Callable Try.prog 193 := ⟨Try.f193, Try.func193, by kernel_rfl, by kernel_rfl⟩
theorem cal199 : Callable Try.prog 199 := ⟨Try.f199, Try.func199, by kernel_rfl, by kernel_rfl⟩
theorem cal200 : Callable Try.prog 200 := ⟨Try.f200, Try.func200, by kernel_rfl, by kernel_rfl⟩
theorem cal201 : Callable Try.prog 201 := ⟨Try.f201, Try.func201, by kernel_rfl, by kernel_rfl⟩
theorem ty2 : tyRow Try.prog 2 = some (false, 1, some (.int .i64 0), 8) := by kernel_rfl
theorem ty3 : tyRow Try.prog 3 = some (false, 1, some (.int .i64 0), 8) := by kernel_rfl
theorem ty5 : tyRow Try.prog 5 = some (false, 1, some (.int .u8 0), 1) := by kernel_rfl
theorem ty22 : tyRow Try.prog 22 = some (false, 1, some (.slice none 0 0), 24) := by kernel_rfl
theorem ty38 : tyRow Try.prog 38 = some (false, 1, some (.slice none 0 0), 24) := by kernel_rfl
theorem ty58 : tyRow Try.prog 58 = some (false, 1, some (.slice none 0 0), 24) := by kernel_rfl
theorem ty60 : tyRow Try.prog 60 = some (true, 1, some (.agg #[.slice none 0 0]), 24) := by kernel_rfl
theorem ty62 : tyRow Try.prog 62 = some (false, 1, some (.int .u64 0), 8) := by kernel_rfl
theorem ty67 : tyRow Try.prog 67 = some (false, 1, some (.pointer none), 8) := by kernel_rfl
theorem ty77 : tyRow Try.prog 77 = some (true, 3, some (.agg #[.slice none 0 0, .slice none 0 0, .slice none 0 0]), 72) := by kernel_rfl
theorem ty86 : tyRow Try.prog 86 = some (true, 4, some (.agg #[.slice none 0 0, .slice none 0 0, .slice none 0 0, .slice none 0 0]), 96) := by kernel_rfl
theorem ty167 : tyRow Try.prog 167 = some (false, 1, some (.int .u32 0), 4) := by kernel_rfl
theorem ty169 : tyRow Try.prog 169 = some (true, 5, some (.agg #[.pointer none, .pointer none, .slice none 0 0, .slice none 0 0, .int .i64 0]), 72) := by kernel_rfl
theorem ty174 : tyRow Try.prog 174 = some (true, 2, some (.agg #[.slice none 0 0, .int .u64 0]), 32) := by kernel_rfl
theorem ty211 : tyRow Try.prog 211 = some (true, 16, some (.agg #[.slice none 0 0, .slice none 0 0, .slice none 0 0, .slice none 0 0, .slice none 0 0, .slice none 0 0, .slice none 0 0, .slice none 0 0, .slice none 0 0, .slice none 0 0, .slice none 0 0, .slice none 0 0, .slice none 0 0, .slice none 0 0, .slice none 0 0, .slice none 0 0]), 384) := by kernel_rfl
theorem ty223 : tyRow Try.prog 223 = some (true, 8, some (.agg #[.int .u32 0, .int .u32 0, .int .u32 0, .int .u32 0, .int .u32 0, .int .u32 0, .int .u32 0, .int .u32 0]), 32) := by kernel_rfl
theorem ty226 : tyRow Try.prog 226 = some (true, 10, some (.agg #[.int .u32 0, .int .u32 0, .int .u32 0, .int .u32 0, .int .u32 0, .int .u32 0, .int .u32 0, .int .u32 0, .slice none 0 0, .int .i64 0]), 64) := by kernel_rfl
theorem ty227 : tyRow Try.prog 227 = some (true, 64, some (.agg #[.int .u32 0, .int .u32 0, .int .u32 0, .int .u32 0, .int .u32 0, .int .u32 0, .int .u32 0, .int .u32 0, .int .u32 0, .int .u32 0, .int .u32 0, .int .u32 0, .int .u32 0, .int .u32 0, .int .u32 0, .int .u32 0, .int .u32 0, .int .u32 0, .int .u32 0, .int .u32 0, .int .u32 0, .int .u32 0, .int .u32 0, .int .u32 0, .int .u32 0, .int .u32 0, .int .u32 0, .int .u32 0, .int .u32 0, .int .u32 0, .int .u32 0, .int .u32 0, .int .u32 0, .int .u32 0, .int .u32 0, .int .u32 0, .int .u32 0, .int .u32 0, .int .u32 0, .int .u32 0, .int .u32 0, .int .u32 0, .int .u32 0, .int .u32 0, .int .u32 0, .int .u32 0, .int .u32 0, .int .u32 0, .int .u32 0, .int .u32 0, .int .u32 0, .int .u32 0, .int .u32 0, .int .u32 0, .int .u32 0, .int .u32 0, .int .u32 0, .int .u32 0, .int .u32 0, .int .u32 0, .int .u32 0, .int .u32 0, .int .u32 0, .int .u32 0]), 256) := by kernel_rfl
end Go.Proofs.Ytgfomedobfaidaa
end
section
set_option linter.unusedVariables false
set_option linter.unusedSimpArgs false
set_option maxRecDepth 100000
namespace Go.Proofs.Ytgfomedobfaidaa
open Go.RowKit
theorem bits_Len32 {lab : Lab} {w : World} (hv : Valid lab w) {x : UInt32} :
  Calls Try.prog 161 #[u32 x] w (fun e w' => ∃ v, e = .returned v ∧ (Is (i64 ((blen x.toNat : Nat) : Int))) lab w' v ∧ Below w.heap.size w w') := by
 have hv0 := hv.ent
 obtain ⟨zU0, z00⟩ := ent_step lab w
 have hT := fun i => UInt8.toNat_lt (List.getD len8tab i 0)
 refine calls_run Try.func161 rfl Try.ntmps161 (Nat.le_of_ble_eq_true rfl) ?_
 refine Run.seq ?_
 refine Run.region ?_
 refine Seq.val (Does.assign rfl) (by decide) ?_
 refine Seq.go (fun _ _ h => h) ?_
 refine Run.seq ?_
 refine Run.seq ?_
 refine Run.region ?_
 refine Seq.val (Does.move rfl) (by decide) ?_
 refine Seq.val (Does.geq rfl rfl) (by decide) ?_
 refine Seq.go (fun _ _ h => h) ?_
 rcases bdich (decide ((65536 : Int) ≤ (x.toNat : Int))) with hc1 | hc1
 ·skip
  have hp1 := of_decide_eq_true hc1
  refine Run.cond_b rfl hc1 ?_
  refine Run.seq ?_
  refine Run.region ?_
  refine Seq.val (Does.move rfl) (by decide) ?_
  refine Seq.val (Does.u32_shr (b := 16) rfl rfl (by omega) (by omega)) (by decide) ?_
  refine Seq.val (Does.assign rfl) (by decide) ?_
  refine Seq.go (fun _ _ h => h) ?_
  refine Run.region ?_
  refine Seq.val (Does.assign rfl) (by decide) ?_
  refine Seq.go (fun _ _ h => h) ?_
  refine Run.seq ?_
  refine Run.seq ?_
  refine Run.region ?_
  refine Seq.val (Does.move rfl) (by decide) ?_
  refine Seq.val (Does.geq rfl rfl) (by decide) ?_
  refine Seq.go (fun _ _ h => h) ?_
  rcases bdich (decide ((256 : Int) ≤ ((x >>> UInt32.ofNat 16).toNat : Int))) with hc2 | hc2
  ·skip
   have hp2 := of_decide_eq_true hc2
   refine Run.cond_b rfl hc2 ?_
   refine Run.seq ?_
   refine Run.region ?_
   refine Seq.val (Does.move rfl) (by decide) ?_
   refine Seq.val (Does.u32_shr (b := 8) rfl rfl (by omega) (by omega)) (by decide) ?_
   refine Seq.val (Does.assign rfl) (by decide) ?_
   refine Seq.go (fun _ _ h => h) ?_
   refine Run.region ?_
   refine Seq.val (Does.move rfl) (by decide) ?_
   refine Seq.val (Does.add rfl rfl (by omega)) (by decide) ?_
   refine Seq.val (Does.assign rfl) (by decide) ?_
   refine Seq.go (fun _ _ h => h) ?_
   refine Run.seq ?_
   refine Run.region ?_
   refine Seq.val (Does.move rfl) (by decide) ?_
   refine Seq.val (Does.move rfl) (by decide) ?_
   refine Seq.val (Does.conv_int Try.underlying167 Try.underlying5 rfl (wrap_u32_u8 _)) (by decide) ?_
   refine Seq.val (Does.index_str (s := len8tab) ((((x >>> UInt32.ofNat 16) >>> UInt32.ofNat 8).toUInt8).toNat) Try.underlying9 (by kernel_rfl) rfl (by rfl) (by exact UInt8.toNat_lt _)) (by decide) ?_
   refine Seq.val (Does.conv_int Try.underlying5 Try.underlying3 rfl (wrap_u8_i64 _)) (by decide) ?_
   refine Seq.val (Does.add rfl rfl (by (have h1 := hT ((x >>> UInt32.ofNat 16 >>> UInt32.ofNat 8).toUInt8.toNat); have h2 := hT ((x >>> UInt32.ofNat 16).toUInt8.toNat); have h3 := hT ((x >>> UInt32.ofNat 8).toUInt8.toNat); have h4 := hT x.toUInt8.toNat; omega))) (by decide) ?_
   refine Seq.val (Does.assign rfl) (by decide) ?_
   refine Seq.go (fun _ _ h => h) ?_
   have z9 := Stp.refl (ent lab) w
   obtain ⟨zU, zo⟩ := z9.out (by decide) hv
   refine Run.ret ?_
   exact post_one Try.results161 rfl ⟨_, rfl, (isI64 (show (((16 + 8) + ((List.getD len8tab ((((x >>> UInt32.ofNat 16) >>> UInt32.ofNat 8).toUInt8).toNat) (0 : UInt8)).toNat : Int)) : Int) = ((blen x.toNat : Nat) : Int) from by exact len32_a hp1 hp2) _ _), z9.leave (by decide)⟩
  ·skip
   have hp2 := of_decide_eq_false hc2
   refine Run.cond_b rfl hc2 ?_
   refine Run.skip_go (fun _ _ h => h) ?_
   refine Run.seq ?_
   refine Run.region ?_
   refine Seq.val (Does.move rfl) (by decide) ?_
   refine Seq.val (Does.move rfl) (by decide) ?_
   refine Seq.val (Does.conv_int Try.underlying167 Try.underlying5 rfl (wrap_u32_u8 _)) (by decide) ?_
   refine Seq.val (Does.index_str (s := len8tab) (((x >>> UInt32.ofNat 16).toUInt8).toNat) Try.underlying9 (by kernel_rfl) rfl (by rfl) (by exact UInt8.toNat_lt _)) (by decide) ?_
   refine Seq.val (Does.conv_int Try.underlying5 Try.underlying3 rfl (wrap_u8_i64 _)) (by decide) ?_
   refine Seq.val (Does.add rfl rfl (by (have h1 := hT ((x >>> UInt32.ofNat 16 >>> UInt32.ofNat 8).toUInt8.toNat); have h2 := hT ((x >>> UInt32.ofNat 16).toUInt8.toNat); have h3 := hT ((x >>> UInt32.ofNat 8).toUInt8.toNat); have h4 := hT x.toUInt8.toNat; omega))) (by decide) ?_
   refine Seq.val (Does.assign rfl) (by decide) ?_
   refine Seq.go (fun _ _ h => h) ?_
   have z9 := Stp.refl (ent lab) w
   obtain ⟨zU, zo⟩ := z9.out (by decide) hv
   refine Run.ret ?_
   exact post_one Try.results161 rfl ⟨_, rfl, (isI64 (show ((16 + ((List.getD len8tab (((x >>> UInt32.ofNat 16).toUInt8).toNat) (0 : UInt8)).toNat : Int)) : Int) = ((blen x.toNat : Nat) : Int) from by exact len32_b hp1 hp2) _ _), z9.leave (by decide)⟩
 ·skip
  have hp1 := of_decide_eq_false hc1
  refine Run.cond_b rfl hc1 ?_
  refine Run.skip_go (fun _ _ h => h) ?_
  refine Run.seq ?_
  refine Run.seq ?_
  refine Run.region ?_
  refine Seq.val (Does.move rfl) (by decide) ?_
  refine Seq.val (Does.geq rfl rfl) (by decide) ?_
  refine Seq.go (fun _ _ h => h) ?_
  rcases bdich (decide ((256 : Int) ≤ (x.toNat : Int))) with hc2 | hc2
  ·skip
   have hp2 := of_decide_eq_true hc2
   refine Run.cond_b rfl hc2 ?_
   refine Run.seq ?_
   refine Run.region ?_
   refine Seq.val (Does.move rfl) (by decide) ?_
   refine Seq.val (Does.u32_shr (b := 8) rfl rfl (by omega) (by omega)) (by decide) ?_
   refine Seq.val (Does.assign rfl) (by decide) ?_
   refine Seq.go (fun _ _ h => h) ?_
   refine Run.region ?_
   refine Seq.val (Does.move rfl) (by decide) ?_
   refine Seq.val (Does.add rfl rfl (by omega)) (by decide) ?_
   refine Seq.val (Does.assign rfl) (by decide) ?_
   refine Seq.go (fun _ _ h => h) ?_
   refine Run.seq ?_
   refine Run.region ?_
   refine Seq.val (Does.move rfl) (by decide) ?_
   refine Seq.val (Does.move rfl) (by decide) ?_
   refine Seq.val (Does.conv_int Try.underlying167 Try.underlying5 rfl (wrap_u32_u8 _)) (by decide) ?_
   refine Seq.val (Does.index_str (s := len8tab) (((x >>> UInt32.ofNat 8).toUInt8).toNat) Try.underlying9 (by kernel_rfl) rfl (by rfl) (by exact UInt8.toNat_lt _)) (by decide) ?_
   refine Seq.val (Does.conv_int Try.underlying5 Try.underlying3 rfl (wrap_u8_i64 _)) (by decide) ?_
   refine Seq.val (Does.add rfl rfl (by (have h1 := hT ((x >>> UInt32.ofNat 16 >>> UInt32.ofNat 8).toUInt8.toNat); have h2 := hT ((x >>> UInt32.ofNat 16).toUInt8.toNat); have h3 := hT ((x >>> UInt32.ofNat 8).toUInt8.toNat); have h4 := hT x.toUInt8.toNat; omega))) (by decide) ?_
   refine Seq.val (Does.assign rfl) (by decide) ?_
   refine Seq.go (fun _ _ h => h) ?_
   have z9 := Stp.refl (ent lab) w
   obtain ⟨zU, zo⟩ := z9.out (by decide) hv
   refine Run.ret ?_
   exact post_one Try.results161 rfl ⟨_, rfl, (isI64 (show (((0 + 8) + ((List.getD len8tab (((x >>> UInt32.ofNat 8).toUInt8).toNat) (0 : UInt8)).toNat : Int)) : Int) = ((blen x.toNat : Nat) : Int) from by exact len32_c hp1 hp2) _ _), z9.leave (by decide)⟩
  ·skip
   have hp2 := of_decide_eq_false hc2
   refine Run.cond_b rfl hc2 ?_
   refine Run.skip_go (fun _ _ h => h) ?_
   refine Run.seq ?_
   refine Run.region ?_
   refine Seq.val (Does.move rfl) (by decide) ?_
   refine Seq.val (Does.move rfl) (by decide) ?_
   refine Seq.val (Does.conv_int Try.underlying167 Try.underlying5 rfl (wrap_u32_u8 _)) (by decide) ?_
   refine Seq.val (Does.index_str (s := len8tab) x.toUInt8.toNat Try.underlying9 (by kernel_rfl) rfl (by rfl) (by exact UInt8.toNat_lt _)) (by decide) ?_
   refine Seq.val (Does.conv_int Try.underlying5 Try.underlying3 rfl (wrap_u8_i64 _)) (by decide) ?_
   refine Seq.val (Does.add rfl rfl (by (have h1 := hT ((x >>> UInt32.ofNat 16 >>> UInt32.ofNat 8).toUInt8.toNat); have h2 := hT ((x >>> UInt32.ofNat 16).toUInt8.toNat); have h3 := hT ((x >>> UInt32.ofNat 8).toUInt8.toNat); have h4 := hT x.toUInt8.toNat; omega))) (by decide) ?_
   refine Seq.val (Does.assign rfl) (by decide) ?_
   refine Seq.go (fun _ _ h => h) ?_
   have z9 := Stp.refl (ent lab) w
   obtain ⟨zU, zo⟩ := z9.out (by decide) hv
   refine Run.ret ?_
   exact post_one Try.results161 rfl ⟨_, rfl, (isI64 (show ((0 + ((List.getD len8tab x.toUInt8.toNat (0 : UInt8)).toNat : Int)) : Int) = ((blen x.toNat : Nat) : Int) from by exact len32_d hp2) _ _), z9.leave (by decide)⟩
theorem nat_Bits {lab : Lab} {w : World} (hv : Valid lab w) {a : Nat} {v0 : Value} (h0 : NatV a lab w v0) (hn : nw a ≤ 1000000) :
  Calls Try.prog 113 #[v0] w (fun e w' => ∃ v, e = .returned v ∧ (Is (i64 ((blen a : Nat) : Int))) lab w' v ∧ Below w.heap.size w w') := by
 have hv0 := hv.ent
 obtain ⟨zU0, z00⟩ := ent_step lab w
 replace h0 := (NatV.pers _).step z00 h0
 obtain ⟨A1, c2, rfl⟩ := NatV.shape h0
 have z3 := NatV.cap h0
 have hB := blen_le_nw a
 refine calls_run Try.func113 rfl Try.ntmps113 (Nat.le_of_ble_eq_true rfl) ?_
 refine Run.seq ?_
 refine Run.region ?_
 refine Seq.box (k := 2) [.slice A1 (nw a) c2] hv0 rfl rfl (by decide) ?_
 intro lab4 w5 b6 o7 s8 hv9
 refine Seq.val (Does.assign rfl) (by decide) ?_
 refine Seq.go (fun _ _ h => h) ?_
 refine Run.seq ?_
 refine Run.seq ?_
 refine Run.region ?_
 refine Seq.val (Does.fieldAddr' 0 Try.underlying60 rfl ty58 rfl rfl) (by decide) ?_
 have q11 := (NatV.pers _).step s8 h0
 have q10 := NatV.words q11
 refine Seq.val (Does.load_own1 o7 ty58 rfl rfl) (by decide) ?_
 refine Seq.val (Does.len Try.underlying58 rfl) (by decide) ?_
 refine Seq.val (Does.eql rfl rfl) (by decide) ?_
 refine Seq.go (fun _ _ h => h) ?_
 rcases bdich (decide ((((nw a : Nat) : Int) : Int) = (0 : Int))) with hc1 | hc1
 ·skip
  have hp1 := of_decide_eq_true hc1
  refine Run.cond_b rfl hc1 ?_
  refine Run.seq ?_
  refine Run.region ?_
  refine Seq.val (Does.assign rfl) (by decide) ?_
  refine Seq.go (fun _ _ h => h) ?_
  obtain ⟨zU, zo⟩ := s8.out (by decide) hv
  refine Run.ret (ret_then ?_)
  exact post_one Try.results113 rfl ⟨_, rfl, (isI64 (show (0 : Int) = ((blen a : Nat) : Int) from by exact bits_zero hp1) _ _), s8.leave (by decide)⟩
 ·skip
  have hp1 := of_decide_eq_false hc1
  refine Run.cond_b rfl hc1 ?_
  refine Run.skip_go (fun _ _ h => h) ?_
  refine Run.seq ?_
  refine Run.any (m := 15) mixed (by kernel_rfl) hv9 (phi [Is (.pointer (some ⟨b6, 0, none⟩)), WordsV (limbs a), Is (i64 ((nw a : Nat) : Int)), Is (i64 (((nw a : Nat) : Int) - 1)), Is (i64 (32 * (((nw a : Nat) : Int) - 1))), Is (.pointer (some ⟨b6, 0, none⟩)), WordsV (limbs a), Is (.pointer (some ⟨b6, 0, none⟩)), WordsV (limbs a), Is (i64 ((nw a : Nat) : Int)), Is (i64 (((nw a : Nat) : Int) - 1)), ElV (List.map u32 (limbs a)) ((((nw a : Nat) : Int) - 1).toNat), Is (u32 (List.getD (limbs a) ((((nw a : Nat) : Int) - 1).toNat) (0 : UInt32))), Is (i64 ((blen (List.getD (limbs a) ((((nw a : Nat) : Int) - 1).toNat) (0 : UInt32)).toNat : Nat) : Int)), Is (i64 ((32 * (((nw a : Nat) : Int) - 1)) + ((blen (List.getD (limbs a) ((((nw a : Nat) : Int) - 1).toNat) (0 : UInt32)).toNat : Nat) : Int)))]) (phi_pers (L := [Is (.pointer (some ⟨b6, 0, none⟩)), WordsV (limbs a), Is (i64 ((nw a : Nat) : Int)), Is (i64 (((nw a : Nat) : Int) - 1)), Is (i64 (32 * (((nw a : Nat) : Int) - 1))), Is (.pointer (some ⟨b6, 0, none⟩)), WordsV (limbs a), Is (.pointer (some ⟨b6, 0, none⟩)), WordsV (limbs a), Is (i64 ((nw a : Nat) : Int)), Is (i64 (((nw a : Nat) : Int) - 1)), ElV (List.map u32 (limbs a)) ((((nw a : Nat) : Int) - 1).toNat), Is (u32 (List.getD (limbs a) ((((nw a : Nat) : Int) - 1).toNat) (0 : UInt32))), Is (i64 ((blen (List.getD (limbs a) ((((nw a : Nat) : Int) - 1).toNat) (0 : UInt32)).toNat : Nat) : Int)), Is (i64 ((32 * (((nw a : Nat) : Int) - 1)) + ((blen (List.getD (limbs a) ((((nw a : Nat) : Int) - 1).toNat) (0 : UInt32)).toNat : Nat) : Int)))]) ⟨Pers.z (Is.pers _), Pers.z (WordsV.pers _), Pers.z (Is.pers _), Pers.z (Is.pers _), Pers.z (Is.pers _), Pers.z (Is.pers _), Pers.z (WordsV.pers _), Pers.z (Is.pers _), Pers.z (WordsV.pers _), Pers.z (Is.pers _), Pers.z (Is.pers _), Pers.z (ElV.pers _ _), Pers.z (Is.pers _), Pers.z (Is.pers _), Pers.z (Is.pers _), trivial⟩) ?_ ?_
  ·intro wz z0
   refine laws (n := 15) ⟨?_, ?_, ?_, ?_, ?_, ?_, ?_, ?_, ?_, ?_, ?_, ?_, ?_, ?_, ?_, trivial⟩
   ·refine law_val rfl (by decide) fun lab12 w13 a14 hv15 s16 f17 d18 => ?_
    exact ⟨_, _, _, _, f17, Does.fieldAddr' 0 Try.underlying60 rfl ty58 rfl rfl, hv15, Stp.refl _ _, rfl⟩
   ·refine law_val rfl (by decide) fun lab19 w20 a21 hv22 s23 f24 d25 => ?_
    obtain ⟨v26, e27, q28⟩ := d25 0 rfl 7 rfl
    replace q28 : (Is (.pointer (some ⟨b6, 0, none⟩))) lab19 w20 v26 := q28
    replace q28 := Is.out q28; subst q28
    have f29 := f24.ext e27
    have o30 := o7.lift (z0.trans s23) (by decide)
    have q32 := (NatV.pers _).step (z0.trans s23) q11
    have q31 := NatV.words q32
    exact ⟨_, _, _, _, f29, Does.load_own1 o30 ty58 rfl rfl, hv22, Stp.refl _ _, q31⟩
   ·refine law_val rfl (by decide) fun lab33 w34 a35 hv36 s37 f38 d39 => ?_
    obtain ⟨v40, e41, q42⟩ := d39 1 rfl 8 rfl
    replace q42 : (WordsV (limbs a)) lab33 w34 v40 := q42
    obtain ⟨A43, c44, rfl⟩ := WordsV.shapeN q42 (n := nw a) (by rfl)
    have z45 := WordsV.cap q42
    have f46 := f38.ext e41
    exact ⟨_, _, _, _, f46, Does.len Try.underlying58 rfl, hv36, Stp.refl _ _, rfl⟩
   ·refine law_val rfl (by decide) fun lab47 w48 a49 hv50 s51 f52 d53 => ?_
    obtain ⟨v54, e55, q56⟩ := d53 2 rfl 9 rfl
    replace q56 : (Is (i64 ((nw a : Nat) : Int))) lab47 w48 v54 := q56
    replace q56 := Is.out q56; subst q56
    have f57 := f52.ext e55
    exact ⟨_, _, _, _, f57, Does.sub rfl rfl (by omega), hv50, Stp.refl _ _, rfl⟩
   ·refine law_val rfl (by decide) fun lab58 w59 a60 hv61 s62 f63 d64 => ?_
    obtain ⟨v65, e66, q67⟩ := d64 3 rfl 10 rfl
    replace q67 : (Is (i64 (((nw a : Nat) : Int) - 1))) lab58 w59 v65 := q67
    replace q67 := Is.out q67; subst q67
    have f68 := f63.ext e66
    exact ⟨_, _, _, _, f68, Does.mul rfl rfl (by omega), hv61, Stp.refl _ _, rfl⟩
   ·refine law_val rfl (by decide) fun lab69 w70 a71 hv72 s73 f74 d75 => ?_
    exact ⟨_, _, _, _, f74, Does.fieldAddr' 0 Try.underlying60 rfl ty58 rfl rfl, hv72, Stp.refl _ _, rfl⟩
   ·refine law_val rfl (by decide) fun lab76 w77 a78 hv79 s80 f81 d82 => ?_
    obtain ⟨v83, e84, q85⟩ := d82 5 rfl 12 rfl
    replace q85 : (Is (.pointer (some ⟨b6, 0, none⟩))) lab76 w77 v83 := q85
    replace q85 := Is.out q85; subst q85
    have f86 := f81.ext e84
    have o87 := o7.lift (z0.trans s80) (by decide)
    have q89 := (NatV.pers _).step (z0.trans s80) q11
    have q88 := NatV.words q89
    exact ⟨_, _, _, _, f86, Does.load_own1 o87 ty58 rfl rfl, hv79, Stp.refl _ _, q88⟩
   ·refine law_val rfl (by decide) fun lab90 w91 a92 hv93 s94 f95 d96 => ?_
    exact ⟨_, _, _, _, f95, Does.fieldAddr' 0 Try.underlying60 rfl ty58 rfl rfl, hv93, Stp.refl _ _, rfl⟩
   ·refine law_val rfl (by decide) fun lab97 w98 a99 hv100 s101 f102 d103 => ?_
    obtain ⟨v104, e105, q106⟩ := d103 7 rfl 14 rfl
    replace q106 : (Is (.pointer (some ⟨b6, 0, none⟩))) lab97 w98 v104 := q106
    replace q106 := Is.out q106; subst q106
    have f107 := f102.ext e105
    have o108 := o7.lift (z0.trans s101) (by decide)
    have q110 := (NatV.pers _).step (z0.trans s101) q11
    have q109 := NatV.words q110
    exact ⟨_, _, _, _, f107, Does.load_own1 o108 ty58 rfl rfl, hv100, Stp.refl _ _, q109⟩
   ·refine law_val rfl (by decide) fun lab111 w112 a113 hv114 s115 f116 d117 => ?_
    obtain ⟨v118, e119, q120⟩ := d117 8 rfl 15 rfl
    replace q120 : (WordsV (limbs a)) lab111 w112 v118 := q120
    obtain ⟨A121, c122, rfl⟩ := WordsV.shapeN q120 (n := nw a) (by rfl)
    have z123 := WordsV.cap q120
    have f124 := f116.ext e119
    exact ⟨_, _, _, _, f124, Does.len Try.underlying58 rfl, hv114, Stp.refl _ _, rfl⟩
   ·refine law_val rfl (by decide) fun lab125 w126 a127 hv128 s129 f130 d131 => ?_
    obtain ⟨v132, e133, q134⟩ := d131 9 rfl 16 rfl
    replace q134 : (Is (i64 ((nw a : Nat) : Int))) lab125 w126 v132 := q134
    replace q134 := Is.out q134; subst q134
    have f135 := f130.ext e133
    exact ⟨_, _, _, _, f135, Does.sub rfl rfl (by omega), hv128, Stp.refl _ _, rfl⟩
   ·refine law_val rfl (by decide) fun lab136 w137 a138 hv139 s140 f141 d142 => ?_
    obtain ⟨v143, e144, q145⟩ := d142 6 rfl 13 rfl
    replace q145 : (WordsV (limbs a)) lab136 w137 v143 := q145
    obtain ⟨A146, c147, rfl⟩ := WordsV.shapeN q145 (n := nw a) (by rfl)
    have z148 := WordsV.cap q145
    have f149 := f141.ext e144
    obtain ⟨v150, e151, q152⟩ := d142 10 rfl 17 rfl
    replace q152 : (Is (i64 (((nw a : Nat) : Int) - 1))) lab136 w137 v150 := q152
    replace q152 := Is.out q152; subst q152
    have f153 := f149.ext e151
    exact ⟨_, _, _, _, f153, Does.index_row ((((nw a : Nat) : Int) - 1).toNat) Try.underlying58 ty167 rfl rfl (WordsV.row q145) (by simp [nw]) (by omega) (by omega), hv139, Stp.refl _ _, ⟨_, rfl, (WordsV.row q145)⟩⟩
   ·refine law_val rfl (by decide) fun lab154 w155 a156 hv157 s158 f159 d160 => ?_
    obtain ⟨v161, e162, q163⟩ := d160 11 rfl 18 rfl
    replace q163 : (ElV (List.map u32 (limbs a)) ((((nw a : Nat) : Int) - 1).toNat)) lab154 w155 v161 := q163
    obtain ⟨A164, rfl, r165⟩ := q163
    have f166 := f159.ext e162
    exact ⟨_, _, _, _, f166, Does.load_row ty167 rfl r165 (map_get u32 _ (0 : UInt32) (by (have h1 := bits_nz hp1; have h2 := nw_pos_of h1; have h3 : (limbs a).length = nw a := rfl; omega))), hv157, Stp.refl _ _, rfl⟩
   ·refine law_call rfl (by decide) cal161 fun lab167 w168 a169 hv170 s171 f172 d173 => ?_
    obtain ⟨v174, e175, q176⟩ := d173 12 rfl 19 rfl
    replace q176 : (Is (u32 (List.getD (limbs a) ((((nw a : Nat) : Int) - 1).toNat) (0 : UInt32)))) lab167 w168 v174 := q176
    replace q176 := Is.out q176; subst q176
    have f177 := f172.ext e175
    exact ⟨_, _, f177, rfl, (bits_Len32 hv170 (x := List.getD (limbs a) ((((nw a : Nat) : Int) - 1).toNat) (0 : UInt32)))⟩
   ·refine law_val rfl (by decide) fun lab178 w179 a180 hv181 s182 f183 d184 => ?_
    obtain ⟨v185, e186, q187⟩ := d184 4 rfl 11 rfl
    replace q187 : (Is (i64 (32 * (((nw a : Nat) : Int) - 1)))) lab178 w179 v185 := q187
    replace q187 := Is.out q187; subst q187
    have f188 := f183.ext e186
    obtain ⟨v189, e190, q191⟩ := d184 13 rfl 20 rfl
    replace q191 : (Is (i64 ((blen (List.getD (limbs a) ((((nw a : Nat) : Int) - 1).toNat) (0 : UInt32)).toNat : Nat) : Int))) lab178 w179 v189 := q191
    have q191 := Is.out q191; subst q191
    have f192 := f188.ext e190
    exact ⟨_, _, _, _, f192, Does.add rfl rfl (by (have h1 := bits_pos hp1; omega)), hv181, Stp.refl _ _, rfl⟩
  ·skip
   intro lab193 w194 a195 hv196 s197 f198 hl199
   obtain ⟨v200, e201, q202⟩ := hl199 14 (by decide) 21 rfl
   replace q202 : (Is (i64 ((32 * (((nw a : Nat) : Int) - 1)) + ((blen (List.getD (limbs a) ((((nw a : Nat) : Int) - 1).toNat) (0 : UInt32)).toNat : Nat) : Int)))) lab193 w194 v200 := q202
   replace q202 := Is.out q202; subst q202
   have f203 := f198.ext e201
   refine Seq.start (m := 15) f203 ?_
   refine Seq.val (Does.assign rfl) (by decide) ?_
   refine Seq.go (fun _ _ h => h) ?_
   have c204 := s8.trans s197
   obtain ⟨zU, zo⟩ := c204.out (by decide) hv
   refine Run.ret ?_
   exact post_one Try.results113 rfl ⟨_, rfl, (isI64 (show (((32 * (((nw a : Nat) : Int) - 1)) + ((blen (List.getD (limbs a) ((((nw a : Nat) : Int) - 1).toNat) (0 : UInt32)).toNat : Nat) : Int)) : Int) = ((blen a : Nat) : Int) from by exact bits_pos hp1) _ _), c204.leave (by decide)⟩
end Go.Proofs.Ytgfomedobfaidaa
end
section
set_option linter.unusedVariables false
set_option linter.unusedSimpArgs false
set_option maxRecDepth 100000
namespace Go.Proofs.Ytgfomedobfaidaa
open Go.RowKit
theorem nat_trim {lab : Lab} {w : World} (hv : Valid lab w) {ws : List UInt32} {v0 : Value} (h0 : WordsV ws lab w v0) :
  Calls Try.prog 105 #[v0] w (fun e w' => ∃ v, e = .returned v ∧ (NatV (wv ws)) lab w' v ∧ Below w.heap.size w w') := by
 have hv0 := hv.ent
 obtain ⟨zU0, z00⟩ := ent_step lab w
 replace h0 := (WordsV.pers _).step z00 h0
 obtain ⟨A1, c2, rfl⟩ := WordsV.shape h0
 have z3 := WordsV.cap h0
 refine calls_run Try.func105 rfl Try.ntmps105 (Nat.le_of_ble_eq_true rfl) ?_
 refine Run.seq ?_
 refine Run.region ?_
 refine Seq.alloc (k := 3) [.slice none 0 0] hv0 ty60 rfl (by decide) ?_
 intro lab4 w5 b6 o7 s8 hv9
 refine Seq.go (fun _ _ h => h) ?_
 refine Run.seq ?_
 refine Run.block ?_
 have q10 := (WordsV.pers _).step s8 h0
 refine Run.loop (fun m' l' w' => ∃ (k : Nat) (lab' : Lab) (ur0 : Value), m' = k ∧ l' = [(0, ur0), (2, .pointer (some ⟨b6, 0, none⟩))] ∧ Valid lab' w' ∧ Stp [] lab4 w5 lab' w' ∧ (WordsV (List.take k ws)) lab' w' ur0 ∧ (k ≤ List.length ws) ∧ (wv (List.take k ws) = wv ws)) ((List.length ws)) (l0 := [(0, .slice A1 (List.length ws) c2), (2, .pointer (some ⟨b6, 0, none⟩))]) ⟨rfl, rfl, trivial⟩ ⟨List.length ws, lab4, (.slice A1 (List.length ws) c2), rfl, rfl, hv9, ((Stp.refl _ _).more (by simp)), (WordsV.cast (show ws = (List.take (List.length ws) ws) from by simp) q10), (by omega), (by simp)⟩ ?_
 intro m11 l12 w13 H14
 obtain ⟨k, lab15, v18, hzm, rfl, hv16, s17, q19, hk, hw⟩ := H14
 replace hzm := hzm.symm; subst hzm
 obtain ⟨A20, c21, rfl⟩ := WordsV.shapeN q19 (n := k) (by rw [List.length_take]; omega)
 have z22 := WordsV.cap q19
 refine Run.seq ?_
 refine Run.seq ?_
 refine Run.region ?_
 refine Seq.val (Does.move rfl) (by decide) ?_
 refine Seq.val (Does.len Try.underlying58 rfl) (by decide) ?_
 refine Seq.val (Does.gtr rfl rfl) (by decide) ?_
 refine Seq.val (Does.move rfl) (by decide) ?_
 rcases bdich (decide ((0 : Int) < (((k : Nat) : Int) : Int))) with hc1 | hc1
 ·skip
  have hp1 := of_decide_eq_true hc1
  refine Seq.guard_on' rfl rfl hc1 ?_
  refine Seq.val (Does.move rfl) (by decide) ?_
  refine Seq.guard_on' rfl rfl hc1 ?_
  refine Seq.val (Does.move rfl) (by decide) ?_
  refine Seq.guard_on' rfl rfl hc1 ?_
  refine Seq.val (Does.len Try.underlying58 rfl) (by decide) ?_
  refine Seq.guard_on' rfl rfl hc1 ?_
  refine Seq.val (Does.sub rfl rfl (by omega)) (by decide) ?_
  refine Seq.guard_on' rfl rfl hc1 ?_
  refine Seq.val (Does.index_row ((((k : Nat) : Int) - 1).toNat) Try.underlying58 ty167 rfl rfl (WordsV.row q19) (by (simp; omega)) (by omega) (by omega)) (by decide) ?_
  refine Seq.guard_on' rfl rfl hc1 ?_
  refine Seq.val (Does.load_row ty167 rfl (WordsV.row q19) (map_get u32 _ (0 : UInt32) (by omega))) (by decide) ?_
  refine Seq.guard_on' rfl rfl hc1 ?_
  refine Seq.val (Does.eql rfl rfl) (by decide) ?_
  refine Seq.val (Does.pick_b rfl hc1 rfl) (by decide) ?_
  refine Seq.go (fun _ _ h => h) ?_
  rcases bdich (decide (((List.getD (List.take k ws) ((((k : Nat) : Int) - 1).toNat) (0 : UInt32)).toNat : Int) = (0 : Int))) with hc2 | hc2
  ·skip
   have hp2 := of_decide_eq_true hc2
   refine Run.cond_b rfl hc2 ?_
   refine Run.skip_go (fun _ _ h => h) ?_
   refine Run.block ?_
   refine Run.region ?_
   refine Seq.val (Does.move rfl) (by decide) ?_
   refine Seq.val (Does.move rfl) (by decide) ?_
   refine Seq.val (Does.len Try.underlying58 rfl) (by decide) ?_
   refine Seq.val (Does.sub rfl rfl (by omega)) (by decide) ?_
   have q23 := WordsV.takeN q19 ((((k : Nat) : Int) - 1).toNat) (by omega)
   refine Seq.val (Does.slice_hi ((((k : Nat) : Int) - 1).toNat) Try.underlying58 ty167 rfl rfl (by omega) (by have := (WordsV.cap q19).2; omega)) (by decide) ?_
   refine Seq.val (Does.assign rfl) (by decide) ?_
   exact Seq.nil (fun a24 h25 => ⟨_, by omega, _, h25.weaken (subs_lk (l' := [(0, .slice A20 ((((k : Nat) : Int) - 1).toNat) c21), (2, .pointer (some ⟨b6, 0, none⟩))]) ⟨rfl, rfl, trivial⟩), ⟨k - 1, lab15, (.slice A20 ((((k : Nat) : Int) - 1).toNat) c21), rfl, rfl, hv16, (s17.more (by decide)), (WordsV.cast (show (List.take ((((k : Nat) : Int) - 1).toNat) (List.take k ws)) = (List.take (k - 1) ws) from by (rw [List.take_take]; congr 1; omega)) q23), (by omega), (by (have e := wv_take_zero (ws := ws) (k := k - 1) (by omega) (by simpa [List.getD, List.getElem?_take_of_lt, show k - 1 < k by omega, ← UInt32.toNat_inj] using hp2); rw [show k - 1 + 1 = k by omega] at e; rw [← e]; exact hw))⟩⟩)
  ·skip
   have hp2 := of_decide_eq_false hc2
   refine Run.cond_b rfl hc2 ?_
   refine Run.exit_go (fun _ _ h => h) ?_
   refine Run.seq ?_
   refine Run.region ?_
   refine Seq.val (Does.move rfl) (by decide) ?_
   refine Seq.val (Does.build [(0, .slice A20 k c21)] [(0, 1)] [.slice A20 k c21] Try.underlying60 ty60 (by kernel_rfl) rfl (by kernel_rfl)) (by decide) ?_
   have o26 := o7.lift s17 (by decide)
   refine Seq.store [.slice A20 k c21] hv16 o26 ty60 rfl rfl rfl (Nat.le_of_ble_eq_true rfl) rfl rfl ?_
   intro w27 o28 s29 hv30
   refine Seq.go (fun _ _ h => h) ?_
   have c31 := s17.trans s29
   have c32 := s8.trans c31
   obtain ⟨zU, zo⟩ := c32.out (by decide) hv
   have q33 := (WordsV.pers _).step s29 q19
   refine Run.ret ?_
   exact post_one Try.results105 ⟨_, rfl, Own.loadN [.slice A20 k c21] o28 ty60 rfl⟩ ⟨_, rfl, (NatV.ofWords ((WordsV.pers _).step zo q33) (show List.take k ws = limbs (wv ws) from by (rw [← hw]; exact take_limbs hk (by first | (left; omega) | (right; simpa [List.getD, List.getElem?_take_of_lt, show k - 1 < k by omega, ← UInt32.toNat_inj] using hp2))))), c32.leave (by decide)⟩
 ·skip
  have hp1 := of_decide_eq_false hc1
  refine Seq.guard_off' rfl rfl hc1 rfl (by decide) ?_
  refine Seq.guard_off' rfl rfl hc1 rfl (by decide) ?_
  refine Seq.guard_off' rfl rfl hc1 rfl (by decide) ?_
  refine Seq.guard_off' rfl rfl hc1 rfl (by decide) ?_
  refine Seq.guard_off' rfl rfl hc1 rfl (by decide) ?_
  refine Seq.guard_off' rfl rfl hc1 rfl (by decide) ?_
  refine Seq.guard_off' rfl rfl hc1 rfl (by decide) ?_
  refine Seq.val (Does.pick_b rfl hc1 rfl) (by decide) ?_
  refine Seq.go (fun _ _ h => h) ?_
  refine Run.cond_b rfl rfl ?_
  refine Run.exit_go (fun _ _ h => h) ?_
  refine Run.seq ?_
  refine Run.region ?_
  refine Seq.val (Does.move rfl) (by decide) ?_
  refine Seq.val (Does.build [(0, .slice A20 k c21)] [(0, 1)] [.slice A20 k c21] Try.underlying60 ty60 (by kernel_rfl) rfl (by kernel_rfl)) (by decide) ?_
  have o34 := o7.lift s17 (by decide)
  refine Seq.store [.slice A20 k c21] hv16 o34 ty60 rfl rfl rfl (Nat.le_of_ble_eq_true rfl) rfl rfl ?_
  intro w35 o36 s37 hv38
  refine Seq.go (fun _ _ h => h) ?_
  have c39 := s17.trans s37
  have c40 := s8.trans c39
  obtain ⟨zU, zo⟩ := c40.out (by decide) hv
  have q41 := (WordsV.pers _).step s37 q19
  refine Run.ret ?_
  exact post_one Try.results105 ⟨_, rfl, Own.loadN [.slice A20 k c21] o36 ty60 rfl⟩ ⟨_, rfl, (NatV.ofWords ((WordsV.pers _).step zo q41) (show List.take k ws = limbs (wv ws) from by (rw [← hw]; exact take_limbs hk (by first | (left; omega) | (right; simpa [List.getD, List.getElem?_take_of_lt, show k - 1 < k by omega, ← UInt32.toNat_inj] using hp2))))), c40.leave (by decide)⟩
theorem nat_FromBytes {lab : Lab} {w : World} (hv : Valid lab w) {b : List UInt8} {v0 : Value} (h0 : BytesV b lab w v0) (hl : List.length b ≤ 1000000000) :
  Calls Try.prog 93 #[v0] w (fun e w' => ∃ v, e = .returned v ∧ (And2 (NatV (if 128 < List.length b then 0 else nv b)) (Is (i64 (if 128 < List.length b then 4 else 0)))) lab w' v ∧ Below w.heap.size w w') := by
 have hv0 := hv.ent
 obtain ⟨zU0, z00⟩ := ent_step lab w
 replace h0 := (BytesV.pers _).step z00 h0
 obtain ⟨A1, c2, rfl⟩ := BytesV.shape h0
 have z3 := BytesV.cap h0
 refine calls_run Try.func93 rfl Try.ntmps93 (Nat.le_of_ble_eq_true rfl) ?_
 refine Run.seq ?_
 refine Run.region ?_
 refine Seq.alloc (k := 3) [.slice none 0 0] hv0 ty60 rfl (by decide) ?_
 intro lab4 w5 b6 o7 s8 hv9
 refine Seq.val (Does.assign rfl) (by decide) ?_
 refine Seq.go (fun _ _ h => h) ?_
 refine Run.seq ?_
 refine Run.seq ?_
 refine Run.region ?_
 refine Seq.val (Does.move rfl) (by decide) ?_
 refine Seq.val (Does.len Try.underlying22 rfl) (by decide) ?_
 refine Seq.val (Does.gtr rfl rfl) (by decide) ?_
 refine Seq.go (fun _ _ h => h) ?_
 rcases bdich (decide ((128 : Int) < (((List.length b : Nat) : Int) : Int))) with hc1 | hc1
 ·skip
  have hp1 := of_decide_eq_true hc1
  refine Run.cond_b rfl hc1 ?_
  refine Run.seq ?_
  refine Run.region ?_
  refine Seq.val (Does.build [] [(0, 1)] [.slice none 0 0] Try.underlying60 ty60 (by kernel_rfl) rfl (by kernel_rfl)) (by decide) ?_
  refine Seq.store [.slice none 0 0] hv9 o7 ty60 rfl rfl rfl (Nat.le_of_ble_eq_true rfl) rfl rfl ?_
  intro w10 o11 s12 hv13
  refine Seq.val (Does.assign rfl) (by decide) ?_
  refine Seq.go (fun _ _ h => h) ?_
  have c14 := s8.trans s12
  obtain ⟨zU, zo⟩ := c14.out (by decide) hv
  have q15 := (NatV.pers _).step s12 (NatV.zero lab4 w5)
  refine Run.ret (ret_then ?_)
  exact post_two Try.results93 ⟨_, rfl, Own.loadN [.slice none 0 0] o11 ty60 rfl⟩ rfl ⟨_, rfl, ⟨_, _, rfl, (NatV.cast (show 0 = (if 128 < List.length b then 0 else nv b) from by rw [if_pos (by omega)]) ((NatV.pers _).step zo q15)), (isI64 (show (4 : Int) = (if 128 < List.length b then 4 else 0) from by rw [if_pos (by omega)]) _ _)⟩, c14.leave (by decide)⟩
 ·skip
  have hp1 := of_decide_eq_false hc1
  refine Run.cond_b rfl hc1 ?_
  refine Run.skip_go (fun _ _ h => h) ?_
  refine Run.seq ?_
  refine Run.region ?_
  refine Seq.val (Does.move rfl) (by decide) ?_
  refine Seq.val (Does.len Try.underlying22 rfl) (by decide) ?_
  refine Seq.val (Does.add rfl rfl (by omega)) (by decide) ?_
  refine Seq.val (Does.quo rfl rfl (by omega) (by omega) (by omega)) (by decide) ?_
  refine Seq.make_row (k := 16) u32 (0 : UInt32) (((((List.length b : Nat) : Int) + 3) / 4).toNat) hv9 Try.underlying58 ty167 rfl rfl rfl (by omega) (by omega) (by omega) (by omega) (by decide) ?_
  intro lab16 w17 b18 o19 s20 hv21
  refine Seq.val (Does.assign rfl) (by decide) ?_
  refine Seq.go (fun _ _ h => h) ?_
  refine Run.seq ?_
  refine Run.seq ?_
  refine Run.region ?_
  refine Seq.val (Does.move rfl) (by decide) ?_
  refine Seq.val (Does.len Try.underlying22 rfl) (by decide) ?_
  refine Seq.val (Does.move rfl) (by decide) ?_
  refine Seq.go (fun _ _ h => h) ?_
  refine Run.block ?_
  refine Run.loop (fun m' l' w' => ∃ (k : Nat) (lab' : Lab), m' = List.length b - k ∧ l' = [(18, i64 ((k : Nat) : Int)), (0, .slice A1 (List.length b) c2), (2, .pointer (some ⟨b6, 0, none⟩)), (3, .int .i64 0), (7, .slice A1 (List.length b) c2), (8, i64 ((List.length b : Nat) : Int)), (9, .bool (decide ((128 : Int) < (((List.length b : Nat) : Int) : Int)))), (11, .slice A1 (List.length b) c2), (12, i64 ((List.length b : Nat) : Int)), (13, i64 (((List.length b : Nat) : Int) + 3)), (14, i64 ((((List.length b : Nat) : Int) + 3) / 4)), (15, .slice (some ⟨b18, 0, none⟩) (((((List.length b : Nat) : Int) + 3) / 4).toNat) (((((List.length b : Nat) : Int) + 3) / 4).toNat)), (4, .slice (some ⟨b18, 0, none⟩) (((((List.length b : Nat) : Int) + 3) / 4).toNat) (((((List.length b : Nat) : Int) + 3) / 4).toNat)), (16, .slice A1 (List.length b) c2), (17, i64 ((List.length b : Nat) : Int))] ∧ Valid lab' w' ∧ Stp [16] lab16 w17 lab' w' ∧ Own lab' w' 16 b18 167 (List.map u32 (nvUp b k)).toArray ∧ (k ≤ List.length b)) (List.length b - 0) (l0 := [(18, i64 ((0 : Nat) : Int)), (0, .slice A1 (List.length b) c2), (2, .pointer (some ⟨b6, 0, none⟩)), (3, .int .i64 0), (7, .slice A1 (List.length b) c2), (8, i64 ((List.length b : Nat) : Int)), (9, .bool (decide ((128 : Int) < (((List.length b : Nat) : Int) : Int)))), (11, .slice A1 (List.length b) c2), (12, i64 ((List.length b : Nat) : Int)), (13, i64 (((List.length b : Nat) : Int) + 3)), (14, i64 ((((List.length b : Nat) : Int) + 3) / 4)), (15, .slice (some ⟨b18, 0, none⟩) (((((List.length b : Nat) : Int) + 3) / 4).toNat) (((((List.length b : Nat) : Int) + 3) / 4).toNat)), (4, .slice (some ⟨b18, 0, none⟩) (((((List.length b : Nat) : Int) + 3) / 4).toNat) (((((List.length b : Nat) : Int) + 3) / 4).toNat)), (16, .slice A1 (List.length b) c2), (17, i64 ((List.length b : Nat) : Int))]) ⟨(congrArg (fun z => some (i64 z)) (show (0 : Int) = ((0 : Nat) : Int) from by rfl)), rfl, rfl, rfl, rfl, rfl, rfl, rfl, rfl, rfl, rfl, rfl, rfl, rfl, rfl, trivial⟩ ⟨0, lab16, rfl, rfl, hv21, ((Stp.refl _ _).more (by simp)), ((show List.replicate (((((List.length b : Nat) : Int) + 3) / 4).toNat) (0 : UInt32) = nvUp b 0 from by (exact nvUp_zero b)) ▸ o19), (by omega)⟩ ?_
  intro m22 l23 w24 H25
  obtain ⟨k, lab26, hzm, rfl, hv27, s28, o29, hk⟩ := H25
  replace hzm := hzm.symm; subst hzm
  have hL := nvUp_length b k
  refine Run.seq ?_
  refine Run.region ?_
  refine Seq.val (Does.lss rfl rfl) (by decide) ?_
  refine Seq.go (fun _ _ h => h) ?_
  refine Run.seq ?_
  rcases bdich (decide ((((k : Nat) : Int) : Int) < (((List.length b : Nat) : Int) : Int))) with hc2 | hc2
  ·skip
   have hp2 := of_decide_eq_true hc2
   refine Run.cond_b rfl hc2 ?_
   refine Run.skip_go (fun _ _ h => h) ?_
   refine Run.seq ?_
   refine Run.block ?_
   refine Run.seq ?_
   refine Run.region ?_
   refine Seq.val (Does.move rfl) (by decide) ?_
   refine Seq.val (Does.assign rfl) (by decide) ?_
   refine Seq.go (fun _ _ h => h) ?_
   refine Run.seq ?_
   refine Run.region ?_
   refine Seq.val (Does.move rfl) (by decide) ?_
   refine Seq.val (Does.move rfl) (by decide) ?_
   refine Seq.val (Does.len Try.underlying22 rfl) (by decide) ?_
   refine Seq.val (Does.sub rfl rfl (by omega)) (by decide) ?_
   refine Seq.val (Does.move rfl) (by decide) ?_
   refine Seq.val (Does.sub rfl rfl (by omega)) (by decide) ?_
   have c31 := s20.trans s28
   have c32 := s8.trans c31
   have q30 := (BytesV.pers _).step c32 h0
   refine Seq.val (Does.index_row (((((List.length b : Nat) : Int) - 1) - ((k : Nat) : Int)).toNat) Try.underlying22 ty5 rfl rfl (BytesV.row q30) (by simp [nw]) (by omega) (by omega)) (by decide) ?_
   refine Seq.val (Does.load_row ty5 rfl (BytesV.row q30) (map_get u8 _ (0 : UInt8) (by omega))) (by decide) ?_
   refine Seq.val (Does.assign rfl) (by decide) ?_
   refine Seq.go (fun _ _ h => h) ?_
   refine Run.any (m := 12) mixed (by kernel_rfl) hv27 (phi [Is (.slice (some ⟨b18, 0, none⟩) (((((List.length b : Nat) : Int) + 3) / 4).toNat) (((((List.length b : Nat) : Int) + 3) / 4).toNat)), Is (i64 ((k : Nat) : Int)), Is (i64 (((k : Nat) : Int) / 4)), Is (.pointer (some ⟨b18, ((((k : Nat) : Int) / 4).toNat) * 1, none⟩)), Is (u32 (List.getD (nvUp b k) ((((k : Nat) : Int) / 4).toNat) (0 : UInt32))), Is (u8 (List.getD b (((((List.length b : Nat) : Int) - 1) - ((k : Nat) : Int)).toNat) (0 : UInt8))), Is (u32 ((List.getD b (((((List.length b : Nat) : Int) - 1) - ((k : Nat) : Int)).toNat) (0 : UInt8)).toUInt32)), Is (i64 ((k : Nat) : Int)), Is (i64 (((k : Nat) : Int) % 4)), Is (i64 (8 * (((k : Nat) : Int) % 4))), Is (u32 (((List.getD b (((((List.length b : Nat) : Int) - 1) - ((k : Nat) : Int)).toNat) (0 : UInt8)).toUInt32) <<< UInt32.ofNat (8 * (((k : Nat) : Int) % 4)).toNat)), Is (u32 ((List.getD (nvUp b k) ((((k : Nat) : Int) / 4).toNat) (0 : UInt32)) ||| (((List.getD b (((((List.length b : Nat) : Int) - 1) - ((k : Nat) : Int)).toNat) (0 : UInt8)).toUInt32) <<< UInt32.ofNat (8 * (((k : Nat) : Int) % 4)).toNat)))]) (phi_pers (L := [Is (.slice (some ⟨b18, 0, none⟩) (((((List.length b : Nat) : Int) + 3) / 4).toNat) (((((List.length b : Nat) : Int) + 3) / 4).toNat)), Is (i64 ((k : Nat) : Int)), Is (i64 (((k : Nat) : Int) / 4)), Is (.pointer (some ⟨b18, ((((k : Nat) : Int) / 4).toNat) * 1, none⟩)), Is (u32 (List.getD (nvUp b k) ((((k : Nat) : Int) / 4).toNat) (0 : UInt32))), Is (u8 (List.getD b (((((List.length b : Nat) : Int) - 1) - ((k : Nat) : Int)).toNat) (0 : UInt8))), Is (u32 ((List.getD b (((((List.length b : Nat) : Int) - 1) - ((k : Nat) : Int)).toNat) (0 : UInt8)).toUInt32)), Is (i64 ((k : Nat) : Int)), Is (i64 (((k : Nat) : Int) % 4)), Is (i64 (8 * (((k : Nat) : Int) % 4))), Is (u32 (((List.getD b (((((List.length b : Nat) : Int) - 1) - ((k : Nat) : Int)).toNat) (0 : UInt8)).toUInt32) <<< UInt32.ofNat (8 * (((k : Nat) : Int) % 4)).toNat)), Is (u32 ((List.getD (nvUp b k) ((((k : Nat) : Int) / 4).toNat) (0 : UInt32)) ||| (((List.getD b (((((List.length b : Nat) : Int) - 1) - ((k : Nat) : Int)).toNat) (0 : UInt8)).toUInt32) <<< UInt32.ofNat (8 * (((k : Nat) : Int) % 4)).toNat)))]) ⟨Pers.z (Is.pers _), Pers.z (Is.pers _), Pers.z (Is.pers _), Pers.z (Is.pers _), Pers.z (Is.pers _), Pers.z (Is.pers _), Pers.z (Is.pers _), Pers.z (Is.pers _), Pers.z (Is.pers _), Pers.z (Is.pers _), Pers.z (Is.pers _), Pers.z (Is.pers _), trivial⟩) ?_ ?_
   ·intro wz z0
    refine laws (n := 12) ⟨?_, ?_, ?_, ?_, ?_, ?_, ?_, ?_, ?_, ?_, ?_, ?_, trivial⟩
    ·refine law_val rfl (by decide) fun lab33 w34 a35 hv36 s37 f38 d39 => ?_
     exact ⟨_, _, _, _, f38, Does.move rfl, hv36, Stp.refl _ _, rfl⟩
    ·refine law_val rfl (by decide) fun lab40 w41 a42 hv43 s44 f45 d46 => ?_
     exact ⟨_, _, _, _, f45, Does.move rfl, hv43, Stp.refl _ _, rfl⟩
    ·refine law_val rfl (by decide) fun lab47 w48 a49 hv50 s51 f52 d53 => ?_
     obtain ⟨v54, e55, q56⟩ := d53 1 rfl 30 rfl
     replace q56 : (Is (i64 ((k : Nat) : Int))) lab47 w48 v54 := q56
     replace q56 := Is.out q56; subst q56
     have f57 := f52.ext e55
     exact ⟨_, _, _, _, f57, Does.quo rfl rfl (by omega) (by omega) (by omega), hv50, Stp.refl _ _, rfl⟩
    ·refine law_val rfl (by decide) fun lab58 w59 a60 hv61 s62 f63 d64 => ?_
     obtain ⟨v65, e66, q67⟩ := d64 0 rfl 29 rfl
     replace q67 : (Is (.slice (some ⟨b18, 0, none⟩) (((((List.length b : Nat) : Int) + 3) / 4).toNat) (((((List.length b : Nat) : Int) + 3) / 4).toNat))) lab58 w59 v65 := q67
     replace q67 := Is.out q67; subst q67
     have f68 := f63.ext e66
     obtain ⟨v69, e70, q71⟩ := d64 2 rfl 31 rfl
     replace q71 : (Is (i64 (((k : Nat) : Int) / 4))) lab58 w59 v69 := q71
     replace q71 := Is.out q71; subst q71
     have f72 := f68.ext e70
     exact ⟨_, _, _, _, f72, Does.index_own ((((k : Nat) : Int) / 4).toNat) Try.underlying58 ty167 rfl rfl (by omega) (by omega), hv61, Stp.refl _ _, rfl⟩
    ·refine law_val rfl (by decide) fun lab73 w74 a75 hv76 s77 f78 d79 => ?_
     obtain ⟨v80, e81, q82⟩ := d79 3 rfl 32 rfl
     replace q82 : (Is (.pointer (some ⟨b18, ((((k : Nat) : Int) / 4).toNat) * 1, none⟩))) lab73 w74 v80 := q82
     replace q82 := Is.out q82; subst q82
     have f83 := f78.ext e81
     have o84 := o29.lift (z0.trans s77) (by decide)
     exact ⟨_, _, _, _, f83, Does.load_own1 o84 ty167 rfl (by rw [Nat.mul_one]; exact row_get u32 _ (0 : UInt32) (by omega)), hv76, Stp.refl _ _, rfl⟩
    ·refine law_val rfl (by decide) fun lab85 w86 a87 hv88 s89 f90 d91 => ?_
     exact ⟨_, _, _, _, f90, Does.move rfl, hv88, Stp.refl _ _, rfl⟩
    ·refine law_val rfl (by decide) fun lab92 w93 a94 hv95 s96 f97 d98 => ?_
     obtain ⟨v99, e100, q101⟩ := d98 5 rfl 34 rfl
     replace q101 : (Is (u8 (List.getD b (((((List.length b : Nat) : Int) - 1) - ((k : Nat) : Int)).toNat) (0 : UInt8)))) lab92 w93 v99 := q101
     replace q101 := Is.out q101; subst q101
     have f102 := f97.ext e100
     exact ⟨_, _, _, _, f102, Does.conv_int Try.underlying5 Try.underlying167 rfl (wrap_u8_u32 _), hv95, Stp.refl _ _, rfl⟩
    ·refine law_val rfl (by decide) fun lab103 w104 a105 hv106 s107 f108 d109 => ?_
     exact ⟨_, _, _, _, f108, Does.move rfl, hv106, Stp.refl _ _, rfl⟩
    ·refine law_val rfl (by decide) fun lab110 w111 a112 hv113 s114 f115 d116 => ?_
     obtain ⟨v117, e118, q119⟩ := d116 7 rfl 36 rfl
     replace q119 : (Is (i64 ((k : Nat) : Int))) lab110 w111 v117 := q119
     replace q119 := Is.out q119; subst q119
     have f120 := f115.ext e118
     exact ⟨_, _, _, _, f120, Does.rem rfl rfl (by omega) (by omega), hv113, Stp.refl _ _, rfl⟩
    ·refine law_val rfl (by decide) fun lab121 w122 a123 hv124 s125 f126 d127 => ?_
     obtain ⟨v128, e129, q130⟩ := d127 8 rfl 37 rfl
     replace q130 : (Is (i64 (((k : Nat) : Int) % 4))) lab121 w122 v128 := q130
     replace q130 := Is.out q130; subst q130
     have f131 := f126.ext e129
     exact ⟨_, _, _, _, f131, Does.mul rfl rfl (by omega), hv124, Stp.refl _ _, rfl⟩
    ·refine law_val rfl (by decide) fun lab132 w133 a134 hv135 s136 f137 d138 => ?_
     obtain ⟨v139, e140, q141⟩ := d138 6 rfl 35 rfl
     replace q141 : (Is (u32 ((List.getD b (((((List.length b : Nat) : Int) - 1) - ((k : Nat) : Int)).toNat) (0 : UInt8)).toUInt32))) lab132 w133 v139 := q141
     replace q141 := Is.out q141; subst q141
     have f142 := f137.ext e140
     obtain ⟨v143, e144, q145⟩ := d138 9 rfl 38 rfl
     replace q145 : (Is (i64 (8 * (((k : Nat) : Int) % 4)))) lab132 w133 v143 := q145
     replace q145 := Is.out q145; subst q145
     have f146 := f142.ext e144
     exact ⟨_, _, _, _, f146, Does.u32_shl rfl rfl (by omega) (by omega), hv135, Stp.refl _ _, rfl⟩
    ·refine law_val rfl (by decide) fun lab147 w148 a149 hv150 s151 f152 d153 => ?_
     obtain ⟨v154, e155, q156⟩ := d153 4 rfl 33 rfl
     replace q156 : (Is (u32 (List.getD (nvUp b k) ((((k : Nat) : Int) / 4).toNat) (0 : UInt32)))) lab147 w148 v154 := q156
     replace q156 := Is.out q156; subst q156
     have f157 := f152.ext e155
     obtain ⟨v158, e159, q160⟩ := d153 10 rfl 39 rfl
     replace q160 : (Is (u32 (((List.getD b (((((List.length b : Nat) : Int) - 1) - ((k : Nat) : Int)).toNat) (0 : UInt8)).toUInt32) <<< UInt32.ofNat (8 * (((k : Nat) : Int) % 4)).toNat))) lab147 w148 v158 := q160
     replace q160 := Is.out q160; subst q160
     have f161 := f157.ext e159
     exact ⟨_, _, _, _, f161, Does.u32_or rfl rfl, hv150, Stp.refl _ _, rfl⟩
   ·skip
    intro lab162 w163 a164 hv165 s166 f167 hl168
    obtain ⟨v169, e170, q171⟩ := hl168 0 (by decide) 29 rfl
    replace q171 : (Is (.slice (some ⟨b18, 0, none⟩) (((((List.length b : Nat) : Int) + 3) / 4).toNat) (((((List.length b : Nat) : Int) + 3) / 4).toNat))) lab162 w163 v169 := q171
    replace q171 := Is.out q171; subst q171
    have f172 := f167.ext e170
    obtain ⟨v173, e174, q175⟩ := hl168 2 (by decide) 31 rfl
    replace q175 : (Is (i64 (((k : Nat) : Int) / 4))) lab162 w163 v173 := q175
    replace q175 := Is.out q175; subst q175
    have f176 := f172.ext e174
    obtain ⟨v177, e178, q179⟩ := hl168 11 (by decide) 40 rfl
    replace q179 : (Is (u32 ((List.getD (nvUp b k) ((((k : Nat) : Int) / 4).toNat) (0 : UInt32)) ||| (((List.getD b (((((List.length b : Nat) : Int) - 1) - ((k : Nat) : Int)).toNat) (0 : UInt8)).toUInt32) <<< UInt32.ofNat (8 * (((k : Nat) : Int) % 4)).toNat)))) lab162 w163 v177 := q179
    replace q179 := Is.out q179; subst q179
    have f180 := f176.ext e178
    refine Seq.start (m := 12) f180 ?_
    refine Seq.val (Does.index_own ((((k : Nat) : Int) / 4).toNat) Try.underlying58 ty167 rfl rfl (by omega) (by omega)) (by decide) ?_
    have o181 := o29.lift s166 (by decide)
    refine Seq.store_row (k := 16) (j := ((((k : Nat) : Int) / 4).toNat)) (v := ((List.getD (nvUp b k) ((((k : Nat) : Int) / 4).toNat) (0 : UInt32)) ||| (((List.getD b (((((List.length b : Nat) : Int) - 1) - ((k : Nat) : Int)).toNat) (0 : UInt8)).toUInt32) <<< UInt32.ofNat (8 * (((k : Nat) : Int) % 4)).toNat))) u32 hv165 o181 ty167 (congrArg (fun o => some (Value.pointer (some ⟨b18, o, none⟩))) (Nat.mul_one ((((k : Nat) : Int) / 4).toNat))) rfl (by omega) rfl rfl ?_
    intro w182 o183 s184 hv185
    refine Seq.go (fun _ _ h => h) ?_
    refine Run.region ?_
    refine Seq.val (Does.add rfl rfl (by omega)) (by decide) ?_
    refine Seq.val (Does.move rfl) (by decide) ?_
    have c186 := s166.trans s184
    have c187 := s28.trans c186
    exact Seq.nil (fun a188 h189 => ⟨_, by omega, _, h189.weaken (subs_lk (l' := [(18, i64 (((k + 1) : Nat) : Int)), (0, .slice A1 (List.length b) c2), (2, .pointer (some ⟨b6, 0, none⟩)), (3, .int .i64 0), (7, .slice A1 (List.length b) c2), (8, i64 ((List.length b : Nat) : Int)), (9, .bool (decide ((128 : Int) < (((List.length b : Nat) : Int) : Int)))), (11, .slice A1 (List.length b) c2), (12, i64 ((List.length b : Nat) : Int)), (13, i64 (((List.length b : Nat) : Int) + 3)), (14, i64 ((((List.length b : Nat) : Int) + 3) / 4)), (15, .slice (some ⟨b18, 0, none⟩) (((((List.length b : Nat) : Int) + 3) / 4).toNat) (((((List.length b : Nat) : Int) + 3) / 4).toNat)), (4, .slice (some ⟨b18, 0, none⟩) (((((List.length b : Nat) : Int) + 3) / 4).toNat) (((((List.length b : Nat) : Int) + 3) / 4).toNat)), (16, .slice A1 (List.length b) c2), (17, i64 ((List.length b : Nat) : Int))]) ⟨(congrArg (fun z => some (i64 z)) (show (((k : Nat) : Int) + 1 : Int) = (((k + 1) : Nat) : Int) from by rfl)), rfl, rfl, rfl, rfl, rfl, rfl, rfl, rfl, rfl, rfl, rfl, rfl, rfl, rfl, trivial⟩), ⟨k + 1, lab162, rfl, rfl, hv185, (c187.more (by decide)), ((show List.set (nvUp b k) ((((k : Nat) : Int) / 4).toNat) ((List.getD (nvUp b k) ((((k : Nat) : Int) / 4).toNat) (0 : UInt32)) ||| (((List.getD b (((((List.length b : Nat) : Int) - 1) - ((k : Nat) : Int)).toNat) (0 : UInt8)).toUInt32) <<< UInt32.ofNat (8 * (((k : Nat) : Int) % 4)).toNat)) = nvUp b (k + 1) from by (exact nvUp_step (by omega))) ▸ o183), (by omega)⟩⟩)
  ·skip
   have hp2 := of_decide_eq_false hc2
   refine Run.cond_b rfl hc2 ?_
   refine Run.exit_go (fun _ _ h => h) ?_
   refine Run.seq ?_
   refine Run.region ?_
   refine Seq.val (Does.move rfl) (by decide) ?_
   have hv190 := Valid.release hv27 16
   have q191 : WordsV (nvUp b k) (labFree lab26 16) w24 (.slice (some ⟨b18, 0, none⟩) (((((List.length b : Nat) : Int) + 3) / 4).toNat) (((((List.length b : Nat) : Int) + 3) / 4).toNat)) := WordsV.release o29 (by assumption) (by omega)
   refine Seq.callS (V := NatV (wv (nvUp b k))) cal105 hv190 rfl (by decide) (nat_trim hv190 q191) ?_
   intro v192 w193 q194 s195 hv196
   obtain ⟨A197, c198, rfl⟩ := NatV.shape q194
   have z199 := NatV.cap q194
   have c201 := (Stp.release (lab := lab26) (w := w24) 16).trans s195
   have c202 := s28.trans c201
   have c203 := s20.trans c202
   have o200 := o7.lift c203 (by decide)
   refine Seq.store [.slice A197 (nw (wv (nvUp b k))) c198] hv196 o200 ty60 rfl rfl rfl (Nat.le_of_ble_eq_true rfl) rfl rfl ?_
   intro w204 o205 s206 hv207
   refine Seq.val (Does.assign rfl) (by decide) ?_
   refine Seq.go (fun _ _ h => h) ?_
   have c208 := c203.trans s206
   have c209 := s8.trans c208
   obtain ⟨zU, zo⟩ := c209.out (by decide) hv
   have q210 := (NatV.pers _).step s206 q194
   refine Run.ret ?_
   exact post_two Try.results93 ⟨_, rfl, Own.loadN [.slice A197 (nw (wv (nvUp b k))) c198] o205 ty60 rfl⟩ rfl ⟨_, rfl, ⟨_, _, rfl, (NatV.cast (show (wv (nvUp b k)) = (if 128 < List.length b then 0 else nv b) from by rw [if_neg (by omega), nvUp_full (by omega)]) ((NatV.pers _).step zo q210)), (isI64 (show (0 : Int) = (if 128 < List.length b then 4 else 0) from by rw [if_neg (by omega)]) _ _)⟩, c209.leave (by decide)⟩
end Go.Proofs.Ytgfomedobfaidaa
end
section
set_option linter.unusedVariables false
set_option linter.unusedSimpArgs false
set_option maxRecDepth 100000
namespace Go.Proofs.Ytgfomedobfaidaa
open Go.RowKit
theorem nat_New {lab : Lab} {w : World} (hv : Valid lab w) {x : Nat} (hx : x < 18446744073709551616) :
  Calls Try.prog 32 #[n64 x] w (fun e w' => ∃ v, e = .returned v ∧ (NatV x) lab w' v ∧ Below w.heap.size w w') := by
 obtain ⟨L0, h0L, ⟨zU0, z00⟩, hX⟩ := enter0 hv
 refine calls_run Try.func32 rfl Try.ntmps32 (Nat.le_of_ble_eq_true rfl) ?_
 refine rsr ?_
 refine salloc 3 [.slice none 0 0] h0L ty60 rfl fun b3 L1 w2 o4 s5 h6 => ?_
 refine nsr ?_
 refine sv (Does.move rfl) ?_
 refine sv (Does.n64_u32 Try.underlying62 Try.underlying167 rfl) ?_
 refine sv (Does.move rfl) ?_
 refine sv (Does.n64_shr32 rfl rfl) ?_
 refine sv (Does.n64_u32 Try.underlying62 Try.underlying167 rfl) ?_
 refine Seq.build_row [(0, u32 (UInt32.ofNat x)), (1, u32 (UInt32.ofNat (x / 4294967296)))] (List.map u32 [UInt32.ofNat x, UInt32.ofNat (x / 4294967296)]) h6 Try.underlying58 ty167 (by decide) (by decide) rfl (by kernel_rfl) (by decide) ?_
 intro w7 b8 r9 s10 hv11
 have q12 : WordsV [UInt32.ofNat x, UInt32.ofNat (x / 4294967296)] L1 w7 (.slice (some ⟨b8, 0, none⟩) 2 2) := ⟨_, _, rfl, Nat.le_refl _, Nat.le_of_ble_eq_true rfl, r9⟩
 refine scall (V := NatV (wv ([UInt32.ofNat x, UInt32.ofNat (x / 4294967296)]))) cal105 hv11 rfl (nat_trim hv11 q12) fun v13 w14 q15 s16 h17 => ?_
 obtain ⟨A18, c19, rfl⟩ := NatV.shape q15
 have z20 := NatV.cap q15
 have c22 := s10.trans s16
 have o21 := o4.up c22
 refine sstore [.slice A18 (nw (wv ([UInt32.ofNat x, UInt32.ofNat (x / 4294967296)]))) c19] h17 o21 ty60 rfl rfl rfl (Nat.le_of_ble_eq_true rfl) rfl rfl fun w23 o24 s25 h26 => ?_
 refine Seq.next ?_
 have c27 := c22.trans s25
 have c28 := s5.trans c27
 obtain ⟨⟨zU, zo⟩, zb⟩ := hX c28 (by decide)
 have q29 := up s25 q15
 refine Run.ret ?_
 exact post_one Try.results32 ⟨_, rfl, Own.loadN [.slice A18 (nw (wv ([UInt32.ofNat x, UInt32.ofNat (x / 4294967296)]))) c19] o24 ty60 rfl⟩ ⟨_, rfl, (NatV.cast (by (simp only [wv, UInt32.toNat_ofNat']; omega)) (up zo q29)), zb⟩
theorem nat_Uint {lab : Lab} {w : World} (hv : Valid lab w) {a : Nat} {v0 : Value} (h0 : NatV a lab w v0) :
  Calls Try.prog 141 #[v0] w (fun e w' => ∃ v, e = .returned v ∧ (And2 (Is (n64 (if nw a ≤ 2 then a else 0))) (Is (.bool (decide (nw a ≤ 2))))) lab w' v ∧ Below w.heap.size w w') := by
 obtain ⟨L0, h0L, ⟨zU0, z00⟩, hX⟩ := enter0 hv
 replace h0 := up z00 h0
 obtain ⟨A1, c2, rfl⟩ := NatV.shape h0
 have z3 := NatV.cap h0
 refine calls_run Try.func141 rfl Try.ntmps141 (Nat.le_of_ble_eq_true rfl) ?_
 refine rsr ?_
 refine sbox 2 [.slice A1 (nw a) c2] h0L rfl rfl fun b6 L4 w5 o7 s8 h9 => ?_
 refine sv (Does.assign rfl) ?_
 refine sv (Does.assign rfl) ?_
 refine nsr ?_
 refine sv (Does.assign rfl) ?_
 refine Seq.next ?_
 refine Run.seq ?_
 refine rsr ?_
 refine sv (Does.fieldAddr' 0 Try.underlying60 rfl ty58 rfl rfl) ?_
 have q11 := up s8 h0
 have q10 := NatV.words q11
 refine sv (Does.load_own1 o7 ty58 rfl rfl) ?_
 refine sv (Does.len Try.underlying58 rfl) ?_
 refine sv (Does.gtr rfl rfl) ?_
 refine Seq.next ?_
 rcases Decidable.em ((2 : Int) < (((nw a : Nat) : Int) : Int)) with hp1 | hp1
 ·refine Run.cond_b rfl (decide_eq_true hp1) ?_
  refine rsr ?_
  refine sv (Does.assign rfl) ?_
  refine sv (Does.assign rfl) ?_
  refine Seq.next ?_
  obtain ⟨⟨zU, zo⟩, zb⟩ := hX s8 (by decide)
  refine Run.ret (ret_then ?_)
  exact post_two Try.results141 rfl rfl ⟨_, rfl, ⟨_, _, rfl, (isN64 (by rw [if_neg (by omega)]) _ _), (isBool (by (simp; omega)) _ _)⟩, zb⟩
 refine Run.cond_b rfl (decide_eq_false hp1) ?_
 refine Run.skip_go (fun _ _ h => h) ?_
 refine Run.seq ?_
 refine rsr ?_
 refine sv (Does.fieldAddr' 0 Try.underlying60 rfl ty58 rfl rfl) ?_
 have q12 := NatV.words q11
 refine sv (Does.load_own1 o7 ty58 rfl rfl) ?_
 refine sv (Does.len Try.underlying58 rfl) ?_
 refine sv (Does.move rfl) ?_
 refine Seq.next ?_
 refine Run.block ?_
 refine Run.loop (fun m' l' w' => ∃ (k : Nat) (lab' : Lab), m' = nw a - k ∧ l' = [(14, i64 ((k : Nat) : Int)), (4, n64 (wv (List.take k (limbs a)))), (2, .int .u64 0), (3, .bool false), (12, .slice A1 (nw a) c2), (13, i64 ((nw a : Nat) : Int))] ∧ Valid lab' w' ∧ Stp [] L4 w5 lab' w' ∧ (k ≤ nw a)) (nw a - 0) (l0 := [(14, i64 ((0 : Nat) : Int)), (4, n64 (wv (List.take 0 (limbs a)))), (2, .int .u64 0), (3, .bool false), (12, .slice A1 (nw a) c2), (13, i64 ((nw a : Nat) : Int))]) ⟨(congrArg (fun z => some (i64 z)) (show (0 : Int) = ((0 : Nat) : Int) from by rfl)), (congrArg (fun z => some (n64 z)) (show (0 : Nat) = wv (List.take 0 (limbs a)) from by rfl)), rfl, rfl, rfl, rfl, trivial⟩ ⟨0, L4, rfl, rfl, h9, ((Stp.refl _ _).more (by simp)), (by omega)⟩ ?_
 intro m13 l14 w15 H16
 obtain ⟨k, lab17, hzm, rfl, hv18, s19, hk⟩ := H16
 replace hzm := hzm.symm; subst hzm
 refine rsr ?_
 refine sv (Does.lss rfl rfl) ?_
 refine Seq.next ?_
 refine Run.seq ?_
 rcases Decidable.em ((((k : Nat) : Int) : Int) < (((nw a : Nat) : Int) : Int)) with hp2 | hp2
 rotate_left
 ·refine Run.cond_b rfl (decide_eq_false hp2) ?_
  refine Run.exit_go (fun _ _ h => h) ?_
  refine rsr ?_
  refine sv (Does.move rfl) ?_
  refine sv (Does.assign rfl) ?_
  refine sv (Does.assign rfl) ?_
  refine Seq.next ?_
  have c24 := s8.trans s19
  obtain ⟨⟨zU, zo⟩, zb⟩ := hX c24 (by decide)
  refine Run.ret ?_
  exact post_two Try.results141 rfl rfl ⟨_, rfl, ⟨_, _, rfl, (isN64 (by (rw [if_pos (by omega), List.take_of_length_le (by show nw a ≤ _; omega), wv_limbs])) _ _), (isBool (by (simp; omega)) _ _)⟩, zb⟩
 refine Run.cond_b rfl (decide_eq_true hp2) ?_
 refine Run.skip_go (fun _ _ h => h) ?_
 refine Run.seq ?_
 refine Run.block ?_
 refine rsr ?_
 refine sv (Does.move rfl) ?_
 have q20 := up s19 q12
 refine sv (Does.index_row k Try.underlying58 ty167 rfl rfl (WordsV.row q20) (by simp [nw]) (by omega) (by omega)) ?_
 have t21 := UInt32.toNat_lt (List.getD (limbs a) k (0 : UInt32))
 refine sv (Does.load_row ty167 rfl (WordsV.row q20) (map_get u32 _ (0 : UInt32) (by (simp [nw] at *; omega)))) ?_
 refine sv (Does.assign rfl) ?_
 refine sv (Does.assign rfl) ?_
 refine Seq.next ?_
 refine Run.region ?_
 refine sv (Does.move rfl) ?_
 refine sv (Does.move rfl) ?_
 refine sv (Does.u32_n64 Try.underlying167 Try.underlying62 rfl) ?_
 refine sv (Does.move rfl) ?_
 refine sv (Does.mul rfl rfl (by omega)) ?_
 refine sv (Does.n64_shl rfl rfl (by omega) (by omega) (by exact uint_sh (by omega))) ?_
 refine sv (Does.n64_or rfl rfl (by exact uint_lt (by omega)) (by exact uint_sh (by omega))) ?_
 refine sv (Does.assign rfl) ?_
 refine Seq.go (fun _ _ h => h) ?_
 refine Run.region ?_
 refine sv (Does.add rfl rfl (by omega)) ?_
 refine sv (Does.move rfl) ?_
 exact Seq.nil (fun a22 h23 => ⟨_, by omega, _, h23.weaken (subs_lk (l' := [(14, i64 (((k + 1) : Nat) : Int)), (4, n64 (wv (List.take (k + 1) (limbs a)))), (2, .int .u64 0), (3, .bool false), (12, .slice A1 (nw a) c2), (13, i64 ((nw a : Nat) : Int))]) ⟨(congrArg (fun z => some (i64 z)) (show (((k : Nat) : Int) + 1 : Int) = (((k + 1) : Nat) : Int) from by rfl)), (congrArg (fun z => some (n64 z)) (show ((wv (List.take k (limbs a))) ||| (((List.getD (limbs a) k (0 : UInt32)).toNat) * 2 ^ (32 * ((k : Nat) : Int)).toNat) : Nat) = wv (List.take (k + 1) (limbs a)) from by exact uint_step (by show _ < nw a; omega) (by omega))), rfl, rfl, rfl, rfl, trivial⟩), ⟨k + 1, lab17, rfl, rfl, hv18, (s19.more (by decide)), (by omega)⟩⟩)
theorem nat_Bit {lab : Lab} {w : World} (hv : Valid lab w) {a : Nat} {v0 : Value} (h0 : NatV a lab w v0) {i : Int} (hi : i < 9223372036854775808) :
  Calls Try.prog 126 #[v0, i64 i] w (fun e w' => ∃ v, e = .returned v ∧ (Is (i64 (if 0 ≤ i then ((a / 2 ^ i.toNat % 2 : Nat) : Int) else 0))) lab w' v ∧ Below w.heap.size w w') := by
 obtain ⟨L0, h0L, ⟨zU0, z00⟩, hX⟩ := enter0 hv
 replace h0 := up z00 h0
 obtain ⟨A1, c2, rfl⟩ := NatV.shape h0
 have z3 := NatV.cap h0
 refine calls_run Try.func126 rfl Try.ntmps126 (Nat.le_of_ble_eq_true rfl) ?_
 refine rsr ?_
 refine sbox 3 [.slice A1 (nw a) c2] h0L rfl rfl fun b6 L4 w5 o7 s8 h9 => ?_
 refine sv (Does.assign rfl) ?_
 refine Seq.next ?_
 refine Run.seq ?_
 refine rsr ?_
 refine sv (Does.move rfl) ?_
 refine sv (Does.lss rfl rfl) ?_
 refine sv (Does.move rfl) ?_
 rcases Decidable.em ((i : Int) < (0 : Int)) with hp1 | hp1
 ·refine Seq.guard_off' rfl rfl (decide_eq_true hp1) rfl (by decide) ?_
  refine Seq.guard_off' rfl rfl (decide_eq_true hp1) rfl (by decide) ?_
  refine Seq.guard_off' rfl rfl (decide_eq_true hp1) rfl (by decide) ?_
  refine Seq.guard_off' rfl rfl (decide_eq_true hp1) rfl (by decide) ?_
  refine Seq.guard_off' rfl rfl (decide_eq_true hp1) rfl (by decide) ?_
  refine Seq.guard_off' rfl rfl (decide_eq_true hp1) rfl (by decide) ?_
  refine sv (Does.pick_b rfl (decide_eq_true hp1) rfl) ?_
  refine Seq.next ?_
  refine Run.cond_b rfl rfl ?_
  refine rsr ?_
  refine sv (Does.assign rfl) ?_
  refine Seq.next ?_
  obtain ⟨⟨zU, zo⟩, zb⟩ := hX s8 (by decide)
  refine Run.ret (ret_then ?_)
  exact post_one Try.results126 rfl ⟨_, rfl, (isI64 (by rw [if_neg (by omega)]) _ _), zb⟩
 refine Seq.guard_on' rfl rfl (decide_eq_false hp1) ?_
 refine sv (Does.move rfl) ?_
 refine Seq.guard_on' rfl rfl (decide_eq_false hp1) ?_
 refine sv (Does.quo rfl rfl (by omega) (by omega) (by omega)) ?_
 refine Seq.guard_on' rfl rfl (decide_eq_false hp1) ?_
 refine sv (Does.fieldAddr' 0 Try.underlying60 rfl ty58 rfl rfl) ?_
 refine Seq.guard_on' rfl rfl (decide_eq_false hp1) ?_
 have q11 := up s8 h0
 have q10 := NatV.words q11
 refine sv (Does.load_own1 o7 ty58 rfl rfl) ?_
 refine Seq.guard_on' rfl rfl (decide_eq_false hp1) ?_
 refine sv (Does.len Try.underlying58 rfl) ?_
 refine Seq.guard_on' rfl rfl (decide_eq_false hp1) ?_
 refine sv (Does.geq rfl rfl) ?_
 refine sv (Does.pick_b rfl (decide_eq_false hp1) rfl) ?_
 refine Seq.next ?_
 rcases Decidable.em ((((nw a : Nat) : Int) : Int) ≤ (i / 32 : Int)) with hp2 | hp2
 ·refine Run.cond_b rfl (decide_eq_true hp2) ?_
  refine rsr ?_
  refine sv (Does.assign rfl) ?_
  refine Seq.next ?_
  obtain ⟨⟨zU, zo⟩, zb⟩ := hX s8 (by decide)
  refine Run.ret (ret_then ?_)
  exact post_one Try.results126 rfl ⟨_, rfl, (isI64 (by rw [if_pos (by omega), bit_out (by omega)]) _ _), zb⟩
 refine Run.cond_b rfl (decide_eq_false hp2) ?_
 refine Run.skip_go (fun _ _ h => h) ?_
 refine rsr ?_
 refine sv (Does.fieldAddr' 0 Try.underlying60 rfl ty58 rfl rfl) ?_
 have q12 := NatV.words q11
 refine sv (Does.load_own1 o7 ty58 rfl rfl) ?_
 refine sv (Does.move rfl) ?_
 refine sv (Does.quo rfl rfl (by omega) (by omega) (by omega)) ?_
 refine sv (Does.index_row ((i / 32).toNat) Try.underlying58 ty167 rfl rfl (WordsV.row q12) (by simp [nw]) (by omega) (by omega)) ?_
 refine sv (Does.load_row ty167 rfl (WordsV.row q12) (map_get u32 _ (0 : UInt32) (by (simp [nw] at *; omega)))) ?_
 refine sv (Does.move rfl) ?_
 refine sv (Does.rem rfl rfl (by omega) (by omega)) ?_
 refine sv (Does.u32_shr rfl rfl (by omega) (by omega)) ?_
 refine sv (Does.u32_and (b := (1 : UInt32)) rfl rfl) ?_
 refine sv (Does.conv_int Try.underlying167 Try.underlying3 rfl (wrap_u32_i64 _)) ?_
 refine sv (Does.assign rfl) ?_
 refine Seq.next ?_
 obtain ⟨⟨zU, zo⟩, zb⟩ := hX s8 (by decide)
 refine Run.ret ?_
 exact post_one Try.results126 rfl ⟨_, rfl, (isI64 (by rw [if_pos (by omega), bit_at (by omega)]) _ _), zb⟩
end Go.Proofs.Ytgfomedobfaidaa
end
section
set_option linter.unusedVariables false
set_option linter.unusedSimpArgs false
set_option maxRecDepth 100000
namespace Go.Proofs.Ytgfomedobfaidaa
open Go.RowKit
theorem nat_Add {lab : Lab} {w : World} (hv : Valid lab w) {a : Nat} {v0 : Value} (h0 : NatV a lab w v0) {b : Nat} {v1 : Value} (h1 : NatV b lab w v1) (ha : nw a ≤ 1000000) (hb : nw b ≤ 1000000) :
  Calls Try.prog 117 #[v0, v1] w (fun e w' => ∃ v, e = .returned v ∧ (NatV (a + b)) lab w' v ∧ Below w.heap.size w w') := by
 obtain ⟨L0, h0L, ⟨zU0, z00⟩, hX⟩ := enter0 hv
 replace h0 := up z00 h0
 obtain ⟨A1, c2, rfl⟩ := NatV.shape h0
 have z3 := NatV.cap h0
 replace h1 := up z00 h1
 obtain ⟨A4, c5, rfl⟩ := NatV.shape h1
 have z6 := NatV.cap h1
 have hLa : (limbs a).length = nw a := rfl
 have hLb : (limbs b).length = nw b := rfl
 refine calls_run Try.func117 rfl Try.ntmps117 (Nat.le_of_ble_eq_true rfl) ?_
 refine rsr ?_
 refine sbox 3 [.slice A1 (nw a) c2] h0L rfl rfl fun b9 L7 w8 o10 s11 h12 => ?_
 refine sbox 4 [.slice A4 (nw b) c5] h12 rfl rfl fun b15 L13 w14 o16 s17 h18 => ?_
 refine salloc 5 [.slice none 0 0] h18 ty60 rfl fun b21 L19 w20 o22 s23 h24 => ?_
 refine Seq.next ?_
 refine Run.seq ?_
 refine rsr ?_
 refine sv (Does.fieldAddr' 0 Try.underlying60 rfl ty58 rfl rfl) ?_
 have c26 := s17.trans s23
 have o25 := o10.up c26
 have c28 := s11.trans c26
 have q29 := up c28 h0
 have q27 := NatV.words q29
 refine sv (Does.load_own1 o25 ty58 rfl rfl) ?_
 refine sv (Does.len Try.underlying58 rfl) ?_
 refine sv (Does.fieldAddr' 0 Try.underlying60 rfl ty58 rfl rfl) ?_
 have o30 := o16.up s23
 have q32 := up c28 h1
 have q31 := NatV.words q32
 refine sv (Does.load_own1 o30 ty58 rfl rfl) ?_
 refine sv (Does.len Try.underlying58 rfl) ?_
 refine sv (Does.lss rfl rfl) ?_
 refine Seq.next ?_
 rcases Decidable.em ((((nw a : Nat) : Int) : Int) < (((nw b : Nat) : Int) : Int)) with hp1 | hp1
 rotate_left
 ·refine Run.cond_b rfl (decide_eq_false hp1) ?_
  refine Run.skip_go (fun _ _ h => h) ?_
  refine rsr ?_
  refine sv (Does.fieldAddr' 0 Try.underlying60 rfl ty58 rfl rfl) ?_
  have q165 := NatV.words q29
  refine sv (Does.load_own1 o25 ty58 rfl rfl) ?_
  refine sv (Does.len Try.underlying58 rfl) ?_
  refine sv (Does.add rfl rfl (by omega)) ?_
  refine Seq.make_app (k := 23) ((((nw a : Nat) : Int) + 1).toNat) h24 Try.underlying58 ty167 rfl rfl rfl (by omega) (by omega) (by omega) (by omega) (by decide) ?_
  intro lab166 w167 b168 o169 s170 hv171
  obtain ⟨A172, c173, rfl⟩ := App.shape o169
  have z175 := (App.row o169).2
  refine sv (Does.assign rfl) ?_
  refine nsr ?_
  refine sv (Does.assign rfl) ?_
  refine Seq.next ?_
  refine Run.seq ?_
  refine rsr ?_
  refine sv (Does.fieldAddr' 0 Try.underlying60 rfl ty58 rfl rfl) ?_
  have o176 := o25.up s170
  have q178 := up s170 q29
  have q177 := NatV.words q178
  refine sv (Does.load_own1 o176 ty58 rfl rfl) ?_
  refine sv (Does.len Try.underlying58 rfl) ?_
  refine sv (Does.move rfl) ?_
  refine Seq.next ?_
  refine Run.block ?_
  refine Run.loop (fun m' l' w' => ∃ (k : Nat) (lab' : Lab) (ux23 : Value), m' = nw a - k ∧ l' = [(26, i64 ((k : Nat) : Int)), (6, n64 (cA a b k)), (5, ux23), (3, .pointer (some ⟨b15, 0, none⟩)), (4, .pointer (some ⟨b21, 0, none⟩)), (24, .slice A1 (nw a) c2), (25, i64 ((nw a : Nat) : Int))] ∧ Valid lab' w' ∧ Stp [23] lab166 w167 lab' w' ∧ App lab' w' 23 167 ux23 k (List.map u32 (wsN (a + b) k)) ∧ (k ≤ nw a)) (nw a - 0) (l0 := [(26, i64 ((0 : Nat) : Int)), (6, n64 (cA a b 0)), (5, .slice A172 (0) c173), (3, .pointer (some ⟨b15, 0, none⟩)), (4, .pointer (some ⟨b21, 0, none⟩)), (24, .slice A1 (nw a) c2), (25, i64 ((nw a : Nat) : Int))]) ⟨(congrArg (fun z => some (i64 z)) (show (0 : Int) = ((0 : Nat) : Int) from by rfl)), (congrArg (fun z => some (n64 z)) (show (0 : Nat) = cA a b 0 from by exact (cA_zero _ _).symm)), rfl, rfl, rfl, rfl, rfl, trivial⟩ ⟨0, lab166, (.slice A172 (0) c173), rfl, rfl, hv171, ((Stp.refl _ _).more (by simp)), (appCast (show [] = wsN (a + b) 0 from by rfl) (show 0 = 0 from by rfl) o169), (by omega)⟩ ?_
  intro m179 l180 w181 H182
  obtain ⟨k_186, lab183, v187, hzm, rfl, hv184, s185, o188, hk⟩ := H182
  replace hzm := hzm.symm; subst hzm
  obtain ⟨A189, c190, rfl⟩ := App.shape o188
  have m191 : List.length (wsN (a + b) k_186) = k_186 := App.lenMap o188
  have z192 := (App.row o188).2
  have hc := cA_le a b k_186
  refine rsr ?_
  refine sv (Does.lss rfl rfl) ?_
  refine Seq.next ?_
  refine Run.seq ?_
  rcases Decidable.em ((((k_186 : Nat) : Int) : Int) < (((nw a : Nat) : Int) : Int)) with hp2 | hp2
  rotate_left
  ·refine Run.cond_b rfl (decide_eq_false hp2) ?_
   refine Run.exit_go (fun _ _ h => h) ?_
   refine rsr ?_
   refine sv (Does.move rfl) ?_
   refine sv (Does.move rfl) ?_
   refine sv (Does.n64_u32 Try.underlying62 Try.underlying167 rfl) ?_
   refine Seq.build_row [(0, u32 (UInt32.ofNat (cA a b k_186)))] (List.map u32 [UInt32.ofNat (cA a b k_186)]) hv184 Try.underlying58 ty167 (by decide) (by decide) rfl (by kernel_rfl) (by decide) ?_
   intro w243 b244 r245 s246 hv247
   have q248 : WordsV [UInt32.ofNat (cA a b k_186)] lab183 w243 (.slice (some ⟨b244, 0, none⟩) 1 1) := ⟨_, _, rfl, Nat.le_refl _, Nat.le_of_ble_eq_true rfl, r245⟩
   have o249 := o188.up s246
   refine Seq.append (k := 23) (List.map u32 ([UInt32.ofNat (cA a b k_186)])) hv247 o249 Try.underlying58 ty167 rfl rfl rfl (by simp) (WordsV.row q248) oneCell_u32 (by omega) (by omega) (by decide) ?_
   intro lab250 w251 v252 o253 s254 hv255
   rw [← List.map_append] at o253
   obtain ⟨A256, c257, rfl⟩ := App.shape o253
   have m258 : List.length (wsN (a + b) k_186 ++ ([UInt32.ofNat (cA a b k_186)])) = k_186 + 1 := App.lenMap o253
   have z259 := (App.row o253).2
   have hv260 := Valid.release hv255 23
   have m262 : List.length (wsN (a + b) k_186 ++ ([UInt32.ofNat (cA a b k_186)])) = k_186 + 1 := App.lenMap o253
   have q261 : WordsV (wsN (a + b) k_186 ++ ([UInt32.ofNat (cA a b k_186)])) (labFree lab250 23) w251 (.slice A256 (k_186 + 1) c257) := ⟨_, _, (by rw [m262]), (by have h9 := (App.row o253).2.1; (rw [m262]; exact h9)), (App.row o253).2.2, (App.row o253).1⟩
   refine scall (V := NatV (wv (wsN (a + b) k_186 ++ ([UInt32.ofNat (cA a b k_186)])))) cal105 hv260 rfl (nat_trim hv260 q261) fun v263 w264 q265 s266 h267 => ?_
   obtain ⟨A268, c269, rfl⟩ := NatV.shape q265
   have z270 := NatV.cap q265
   have c272 := (Stp.release (lab := lab250) (w := w251) 23).trans s266
   have c273 := s254.trans c272
   have c274 := s246.trans c273
   have c275 := s185.trans c274
   have c276 := s170.trans c275
   have o271 := o22.up c276
   refine sstore [.slice A268 (nw (wv (wsN (a + b) k_186 ++ ([UInt32.ofNat (cA a b k_186)])))) c269] h267 o271 ty60 rfl rfl rfl (Nat.le_of_ble_eq_true rfl) rfl rfl fun w277 o278 s279 h280 => ?_
   refine Seq.next ?_
   have c281 := c276.trans s279
   have c282 := c28.trans c281
   obtain ⟨⟨zU, zo⟩, zb⟩ := hX c282 (by decide)
   have q283 := up s279 q265
   refine Run.ret ?_
   exact post_one Try.results117 ⟨_, rfl, Own.loadN [.slice A268 (nw (wv (wsN (a + b) k_186 ++ ([UInt32.ofNat (cA a b k_186)])))) c269] o278 ty60 rfl⟩ ⟨_, rfl, (NatV.cast (by rw [add_end (by omega) (by omega)]) (up zo q283)), zb⟩
  refine Run.cond_b rfl (decide_eq_true hp2) ?_
  refine Run.skip_go (fun _ _ h => h) ?_
  refine Run.seq ?_
  refine Run.block ?_
  refine rsr ?_
  refine sv (Does.move rfl) ?_
  have q193 := up s185 q177
  refine sv (Does.index_row k_186 Try.underlying58 ty167 rfl rfl (WordsV.row q193) (by simp [nw]) (by omega) (by omega)) ?_
  have t194 := UInt32.toNat_lt (List.getD (limbs a) k_186 (0 : UInt32))
  refine sv (Does.load_row ty167 rfl (WordsV.row q193) (map_get u32 _ (0 : UInt32) (by omega))) ?_
  refine sv (Does.assign rfl) ?_
  refine sv (Does.assign rfl) ?_
  refine nsr ?_
  refine sv (Does.move rfl) ?_
  refine sv (Does.move rfl) ?_
  refine sv (Does.u32_n64 Try.underlying167 Try.underlying62 rfl) ?_
  refine sv (Does.n64_add rfl rfl (by omega)) ?_
  refine sv (Does.assign rfl) ?_
  refine Seq.next ?_
  refine Run.seq ?_
  refine rsr ?_
  refine sv (Does.move rfl) ?_
  refine sv (Does.fieldAddr' 0 Try.underlying60 rfl ty58 rfl rfl) ?_
  have c196 := s170.trans s185
  have o195 := o30.up c196
  have q198 := up c196 q32
  have q197 := NatV.words q198
  refine sv (Does.load_own1 o195 ty58 rfl rfl) ?_
  refine sv (Does.len Try.underlying58 rfl) ?_
  refine sv (Does.lss rfl rfl) ?_
  refine Seq.next ?_
  rcases Decidable.em ((((k_186 : Nat) : Int) : Int) < (((nw b : Nat) : Int) : Int)) with hp3 | hp3
  rotate_left
  ·refine Run.cond_b rfl (decide_eq_false hp3) ?_
   refine Run.skip_go (fun _ _ h => h) ?_
   refine rsr ?_
   refine sv (Does.move rfl) ?_
   refine sv (Does.move rfl) ?_
   refine sv (Does.n64_u32 Try.underlying62 Try.underlying167 rfl) ?_
   refine Seq.build_row [(0, u32 (UInt32.ofNat ((cA a b k_186) + ((List.getD (limbs a) k_186 (0 : UInt32)).toNat))))] (List.map u32 [UInt32.ofNat ((cA a b k_186) + ((List.getD (limbs a) k_186 (0 : UInt32)).toNat))]) hv184 Try.underlying58 ty167 (by decide) (by decide) rfl (by kernel_rfl) (by decide) ?_
   intro w222 b223 r224 s225 hv226
   have q227 : WordsV [UInt32.ofNat ((cA a b k_186) + ((List.getD (limbs a) k_186 (0 : UInt32)).toNat))] lab183 w222 (.slice (some ⟨b223, 0, none⟩) 1 1) := ⟨_, _, rfl, Nat.le_refl _, Nat.le_of_ble_eq_true rfl, r224⟩
   have o228 := o188.up s225
   refine Seq.append (k := 23) (List.map u32 ([UInt32.ofNat ((cA a b k_186) + ((List.getD (limbs a) k_186 (0 : UInt32)).toNat))])) hv226 o228 Try.underlying58 ty167 rfl rfl rfl (by simp) (WordsV.row q227) oneCell_u32 (by omega) (by omega) (by decide) ?_
   intro lab229 w230 v231 o232 s233 hv234
   rw [← List.map_append] at o232
   obtain ⟨A235, c236, rfl⟩ := App.shape o232
   have m237 : List.length (wsN (a + b) k_186 ++ ([UInt32.ofNat ((cA a b k_186) + ((List.getD (limbs a) k_186 (0 : UInt32)).toNat))])) = k_186 + 1 := App.lenMap o232
   have z238 := (App.row o232).2
   refine sv (Does.assign rfl) ?_
   refine Seq.next ?_
   refine Run.region ?_
   refine sv (Does.move rfl) ?_
   refine sv (Does.n64_shr32 rfl rfl) ?_
   refine sv (Does.assign rfl) ?_
   refine Seq.go (fun _ _ h => h) ?_
   refine Run.region ?_
   refine sv (Does.add rfl rfl (by omega)) ?_
   refine sv (Does.move rfl) ?_
   have c239 := s225.trans s233
   have c240 := s185.trans c239
   exact Seq.nil (fun a241 h242 => ⟨_, by omega, _, h242.weaken (subs_lk (l' := [(26, i64 (((k_186 + 1) : Nat) : Int)), (6, n64 (cA a b (k_186 + 1))), (5, .slice A235 (k_186 + 1) c236), (3, .pointer (some ⟨b15, 0, none⟩)), (4, .pointer (some ⟨b21, 0, none⟩)), (24, .slice A1 (nw a) c2), (25, i64 ((nw a : Nat) : Int))]) ⟨(congrArg (fun z => some (i64 z)) (show (((k_186 : Nat) : Int) + 1 : Int) = (((k_186 + 1) : Nat) : Int) from by rfl)), (congrArg (fun z => some (n64 z)) (show (((cA a b k_186) + ((List.getD (limbs a) k_186 (0 : UInt32)).toNat)) / 4294967296 : Nat) = cA a b (k_186 + 1) from by exact add_carry (by rw [limb_zero (b := b) (by omega)]; rfl))), rfl, rfl, rfl, rfl, rfl, trivial⟩), ⟨k_186 + 1, lab229, (.slice A235 (k_186 + 1) c236), rfl, rfl, hv234, (c240.more (by decide)), (appCast (show wsN (a + b) k_186 ++ ([UInt32.ofNat ((cA a b k_186) + ((List.getD (limbs a) k_186 (0 : UInt32)).toNat))]) = wsN (a + b) (k_186 + 1) from by exact add_step (by rw [limb_zero (b := b) (by omega)]; rfl)) (show k_186 + 1 = (k_186 + 1) from by rfl) o232), (by omega)⟩⟩)
  refine Run.cond_b rfl (decide_eq_true hp3) ?_
  refine Run.region ?_
  refine sv (Does.move rfl) ?_
  refine sv (Does.fieldAddr' 0 Try.underlying60 rfl ty58 rfl rfl) ?_
  have q199 := NatV.words q198
  refine sv (Does.load_own1 o195 ty58 rfl rfl) ?_
  refine sv (Does.move rfl) ?_
  refine sv (Does.index_row k_186 Try.underlying58 ty167 rfl rfl (WordsV.row q199) (by simp [nw]) (by omega) (by omega)) ?_
  have t200 := UInt32.toNat_lt (List.getD (limbs b) k_186 (0 : UInt32))
  refine sv (Does.load_row ty167 rfl (WordsV.row q199) (map_get u32 _ (0 : UInt32) (by omega))) ?_
  refine sv (Does.u32_n64 Try.underlying167 Try.underlying62 rfl) ?_
  refine sv (Does.n64_add rfl rfl (by omega)) ?_
  refine sv (Does.assign rfl) ?_
  refine nsr ?_
  refine sv (Does.move rfl) ?_
  refine sv (Does.move rfl) ?_
  refine sv (Does.n64_u32 Try.underlying62 Try.underlying167 rfl) ?_
  refine Seq.build_row [(0, u32 (UInt32.ofNat (((cA a b k_186) + ((List.getD (limbs a) k_186 (0 : UInt32)).toNat)) + ((List.getD (limbs b) k_186 (0 : UInt32)).toNat))))] (List.map u32 [UInt32.ofNat (((cA a b k_186) + ((List.getD (limbs a) k_186 (0 : UInt32)).toNat)) + ((List.getD (limbs b) k_186 (0 : UInt32)).toNat))]) hv184 Try.underlying58 ty167 (by decide) (by decide) rfl (by kernel_rfl) (by decide) ?_
  intro w201 b202 r203 s204 hv205
  have q206 : WordsV [UInt32.ofNat (((cA a b k_186) + ((List.getD (limbs a) k_186 (0 : UInt32)).toNat)) + ((List.getD (limbs b) k_186 (0 : UInt32)).toNat))] lab183 w201 (.slice (some ⟨b202, 0, none⟩) 1 1) := ⟨_, _, rfl, Nat.le_refl _, Nat.le_of_ble_eq_true rfl, r203⟩
  have o207 := o188.up s204
  refine Seq.append (k := 23) (List.map u32 ([UInt32.ofNat (((cA a b k_186) + ((List.getD (limbs a) k_186 (0 : UInt32)).toNat)) + ((List.getD (limbs b) k_186 (0 : UInt32)).toNat))])) hv205 o207 Try.underlying58 ty167 rfl rfl rfl (by simp) (WordsV.row q206) oneCell_u32 (by omega) (by omega) (by decide) ?_
  intro lab208 w209 v210 o211 s212 hv213
  rw [← List.map_append] at o211
  obtain ⟨A214, c215, rfl⟩ := App.shape o211
  have m216 : List.length (wsN (a + b) k_186 ++ ([UInt32.ofNat (((cA a b k_186) + ((List.getD (limbs a) k_186 (0 : UInt32)).toNat)) + ((List.getD (limbs b) k_186 (0 : UInt32)).toNat))])) = k_186 + 1 := App.lenMap o211
  have z217 := (App.row o211).2
  refine sv (Does.assign rfl) ?_
  refine Seq.next ?_
  refine Run.region ?_
  refine sv (Does.move rfl) ?_
  refine sv (Does.n64_shr32 rfl rfl) ?_
  refine sv (Does.assign rfl) ?_
  refine Seq.go (fun _ _ h => h) ?_
  refine Run.region ?_
  refine sv (Does.add rfl rfl (by omega)) ?_
  refine sv (Does.move rfl) ?_
  have c218 := s204.trans s212
  have c219 := s185.trans c218
  exact Seq.nil (fun a220 h221 => ⟨_, by omega, _, h221.weaken (subs_lk (l' := [(26, i64 (((k_186 + 1) : Nat) : Int)), (6, n64 (cA a b (k_186 + 1))), (5, .slice A214 (k_186 + 1) c215), (3, .pointer (some ⟨b15, 0, none⟩)), (4, .pointer (some ⟨b21, 0, none⟩)), (24, .slice A1 (nw a) c2), (25, i64 ((nw a : Nat) : Int))]) ⟨(congrArg (fun z => some (i64 z)) (show (((k_186 : Nat) : Int) + 1 : Int) = (((k_186 + 1) : Nat) : Int) from by rfl)), (congrArg (fun z => some (n64 z)) (show ((((cA a b k_186) + ((List.getD (limbs a) k_186 (0 : UInt32)).toNat)) + ((List.getD (limbs b) k_186 (0 : UInt32)).toNat)) / 4294967296 : Nat) = cA a b (k_186 + 1) from by exact add_carry rfl)), rfl, rfl, rfl, rfl, rfl, trivial⟩), ⟨k_186 + 1, lab208, (.slice A214 (k_186 + 1) c215), rfl, rfl, hv213, (c219.more (by decide)), (appCast (show wsN (a + b) k_186 ++ ([UInt32.ofNat (((cA a b k_186) + ((List.getD (limbs a) k_186 (0 : UInt32)).toNat)) + ((List.getD (limbs b) k_186 (0 : UInt32)).toNat))]) = wsN (a + b) (k_186 + 1) from by exact add_step rfl) (show k_186 + 1 = (k_186 + 1) from by rfl) o211), (by omega)⟩⟩)
 refine Run.cond_b rfl (decide_eq_true hp1) ?_
 refine Run.region ?_
 refine sv (Does.load_ownN [.slice A4 (nw b) c5] o30 ty60 rfl rfl) ?_
 refine sv (Does.load_ownN [.slice A1 (nw a) c2] o25 ty60 rfl rfl) ?_
 refine sstore [.slice A4 (nw b) c5] h24 o25 ty60 rfl rfl rfl (Nat.le_of_ble_eq_true rfl) rfl rfl fun w33 o34 s35 h36 => ?_
 have o37 := o30.up s35
 refine sstore [.slice A1 (nw a) c2] h36 o37 ty60 rfl rfl rfl (Nat.le_of_ble_eq_true rfl) rfl rfl fun w38 o39 s40 h41 => ?_
 refine nsr ?_
 refine sv (Does.fieldAddr' 0 Try.underlying60 rfl ty58 rfl rfl) ?_
 have o42 := o34.up s40
 have c44 := s35.trans s40
 have q45 := up c44 q32
 have q43 := NatV.words q45
 refine sv (Does.load_own1 o42 ty58 rfl rfl) ?_
 refine sv (Does.len Try.underlying58 rfl) ?_
 refine sv (Does.add rfl rfl (by omega)) ?_
 refine Seq.make_app (k := 23) ((((nw b : Nat) : Int) + 1).toNat) h41 Try.underlying58 ty167 rfl rfl rfl (by omega) (by omega) (by omega) (by omega) (by decide) ?_
 intro lab46 w47 b48 o49 s50 hv51
 obtain ⟨A52, c53, rfl⟩ := App.shape o49
 have z55 := (App.row o49).2
 refine sv (Does.assign rfl) ?_
 refine nsr ?_
 refine sv (Does.assign rfl) ?_
 refine Seq.next ?_
 refine Run.seq ?_
 refine rsr ?_
 refine sv (Does.fieldAddr' 0 Try.underlying60 rfl ty58 rfl rfl) ?_
 have o56 := o42.up s50
 have q58 := up s50 q45
 have q57 := NatV.words q58
 refine sv (Does.load_own1 o56 ty58 rfl rfl) ?_
 refine sv (Does.len Try.underlying58 rfl) ?_
 refine sv (Does.move rfl) ?_
 refine Seq.next ?_
 refine Run.block ?_
 refine Run.loop (fun m' l' w' => ∃ (k : Nat) (lab' : Lab) (ux23 : Value), m' = nw b - k ∧ l' = [(26, i64 ((k : Nat) : Int)), (6, n64 (cA b a k)), (5, ux23), (3, .pointer (some ⟨b15, 0, none⟩)), (4, .pointer (some ⟨b21, 0, none⟩)), (24, .slice A4 (nw b) c5), (25, i64 ((nw b : Nat) : Int))] ∧ Valid lab' w' ∧ Stp [23] lab46 w47 lab' w' ∧ App lab' w' 23 167 ux23 k (List.map u32 (wsN (b + a) k)) ∧ (k ≤ nw b)) (nw b - 0) (l0 := [(26, i64 ((0 : Nat) : Int)), (6, n64 (cA b a 0)), (5, .slice A52 (0) c53), (3, .pointer (some ⟨b15, 0, none⟩)), (4, .pointer (some ⟨b21, 0, none⟩)), (24, .slice A4 (nw b) c5), (25, i64 ((nw b : Nat) : Int))]) ⟨(congrArg (fun z => some (i64 z)) (show (0 : Int) = ((0 : Nat) : Int) from by rfl)), (congrArg (fun z => some (n64 z)) (show (0 : Nat) = cA b a 0 from by exact (cA_zero _ _).symm)), rfl, rfl, rfl, rfl, rfl, trivial⟩ ⟨0, lab46, (.slice A52 (0) c53), rfl, rfl, hv51, ((Stp.refl _ _).more (by simp)), (appCast (show [] = wsN (b + a) 0 from by rfl) (show 0 = 0 from by rfl) o49), (by omega)⟩ ?_
 intro m59 l60 w61 H62
 obtain ⟨k, lab63, v66, hzm, rfl, hv64, s65, o67, hk⟩ := H62
 replace hzm := hzm.symm; subst hzm
 obtain ⟨A68, c69, rfl⟩ := App.shape o67
 have m70 : List.length (wsN (b + a) k) = k := App.lenMap o67
 have z71 := (App.row o67).2
 have hc := cA_le b a k
 refine rsr ?_
 refine sv (Does.lss rfl rfl) ?_
 refine Seq.next ?_
 refine Run.seq ?_
 rcases Decidable.em ((((k : Nat) : Int) : Int) < (((nw b : Nat) : Int) : Int)) with hp2 | hp2
 rotate_left
 ·refine Run.cond_b rfl (decide_eq_false hp2) ?_
  refine Run.exit_go (fun _ _ h => h) ?_
  refine rsr ?_
  refine sv (Does.move rfl) ?_
  refine sv (Does.move rfl) ?_
  refine sv (Does.n64_u32 Try.underlying62 Try.underlying167 rfl) ?_
  refine Seq.build_row [(0, u32 (UInt32.ofNat (cA b a k)))] (List.map u32 [UInt32.ofNat (cA b a k)]) hv64 Try.underlying58 ty167 (by decide) (by decide) rfl (by kernel_rfl) (by decide) ?_
  intro w123 b124 r125 s126 hv127
  have q128 : WordsV [UInt32.ofNat (cA b a k)] lab63 w123 (.slice (some ⟨b124, 0, none⟩) 1 1) := ⟨_, _, rfl, Nat.le_refl _, Nat.le_of_ble_eq_true rfl, r125⟩
  have o129 := o67.up s126
  refine Seq.append (k := 23) (List.map u32 ([UInt32.ofNat (cA b a k)])) hv127 o129 Try.underlying58 ty167 rfl rfl rfl (by simp) (WordsV.row q128) oneCell_u32 (by omega) (by omega) (by decide) ?_
  intro lab130 w131 v132 o133 s134 hv135
  rw [← List.map_append] at o133
  obtain ⟨A136, c137, rfl⟩ := App.shape o133
  have m138 : List.length (wsN (b + a) k ++ ([UInt32.ofNat (cA b a k)])) = k + 1 := App.lenMap o133
  have z139 := (App.row o133).2
  have hv140 := Valid.release hv135 23
  have m142 : List.length (wsN (b + a) k ++ ([UInt32.ofNat (cA b a k)])) = k + 1 := App.lenMap o133
  have q141 : WordsV (wsN (b + a) k ++ ([UInt32.ofNat (cA b a k)])) (labFree lab130 23) w131 (.slice A136 (k + 1) c137) := ⟨_, _, (by rw [m142]), (by have h9 := (App.row o133).2.1; (rw [m142]; exact h9)), (App.row o133).2.2, (App.row o133).1⟩
  refine scall (V := NatV (wv (wsN (b + a) k ++ ([UInt32.ofNat (cA b a k)])))) cal105 hv140 rfl (nat_trim hv140 q141) fun v143 w144 q145 s146 h147 => ?_
  obtain ⟨A148, c149, rfl⟩ := NatV.shape q145
  have z150 := NatV.cap q145
  have c152 := (Stp.release (lab := lab130) (w := w131) 23).trans s146
  have c153 := s134.trans c152
  have c154 := s126.trans c153
  have c155 := s65.trans c154
  have c156 := s50.trans c155
  have c157 := c44.trans c156
  have o151 := o22.up c157
  refine sstore [.slice A148 (nw (wv (wsN (b + a) k ++ ([UInt32.ofNat (cA b a k)])))) c149] h147 o151 ty60 rfl rfl rfl (Nat.le_of_ble_eq_true rfl) rfl rfl fun w158 o159 s160 h161 => ?_
  refine Seq.next ?_
  have c162 := c157.trans s160
  have c163 := c28.trans c162
  obtain ⟨⟨zU, zo⟩, zb⟩ := hX c163 (by decide)
  have q164 := up s160 q145
  refine Run.ret ?_
  exact post_one Try.results117 ⟨_, rfl, Own.loadN [.slice A148 (nw (wv (wsN (b + a) k ++ ([UInt32.ofNat (cA b a k)])))) c149] o159 ty60 rfl⟩ ⟨_, rfl, (NatV.cast (by rw [add_end (by omega) (by omega), Nat.add_comm]) (up zo q164)), zb⟩
 refine Run.cond_b rfl (decide_eq_true hp2) ?_
 refine Run.skip_go (fun _ _ h => h) ?_
 refine Run.seq ?_
 refine Run.block ?_
 refine rsr ?_
 refine sv (Does.move rfl) ?_
 have q72 := up s65 q57
 refine sv (Does.index_row k Try.underlying58 ty167 rfl rfl (WordsV.row q72) (by simp [nw]) (by omega) (by omega)) ?_
 have t73 := UInt32.toNat_lt (List.getD (limbs b) k (0 : UInt32))
 refine sv (Does.load_row ty167 rfl (WordsV.row q72) (map_get u32 _ (0 : UInt32) (by omega))) ?_
 refine sv (Does.assign rfl) ?_
 refine sv (Does.assign rfl) ?_
 refine nsr ?_
 refine sv (Does.move rfl) ?_
 refine sv (Does.move rfl) ?_
 refine sv (Does.u32_n64 Try.underlying167 Try.underlying62 rfl) ?_
 refine sv (Does.n64_add rfl rfl (by omega)) ?_
 refine sv (Does.assign rfl) ?_
 refine Seq.next ?_
 refine Run.seq ?_
 refine rsr ?_
 refine sv (Does.move rfl) ?_
 refine sv (Does.fieldAddr' 0 Try.underlying60 rfl ty58 rfl rfl) ?_
 have c75 := s50.trans s65
 have o74 := o39.up c75
 have c77 := c44.trans c75
 have q78 := up c77 q29
 have q76 := NatV.words q78
 refine sv (Does.load_own1 o74 ty58 rfl rfl) ?_
 refine sv (Does.len Try.underlying58 rfl) ?_
 refine sv (Does.lss rfl rfl) ?_
 refine Seq.next ?_
 rcases Decidable.em ((((k : Nat) : Int) : Int) < (((nw a : Nat) : Int) : Int)) with hp3 | hp3
 rotate_left
 ·refine Run.cond_b rfl (decide_eq_false hp3) ?_
  refine Run.skip_go (fun _ _ h => h) ?_
  refine rsr ?_
  refine sv (Does.move rfl) ?_
  refine sv (Does.move rfl) ?_
  refine sv (Does.n64_u32 Try.underlying62 Try.underlying167 rfl) ?_
  refine Seq.build_row [(0, u32 (UInt32.ofNat ((cA b a k) + ((List.getD (limbs b) k (0 : UInt32)).toNat))))] (List.map u32 [UInt32.ofNat ((cA b a k) + ((List.getD (limbs b) k (0 : UInt32)).toNat))]) hv64 Try.underlying58 ty167 (by decide) (by decide) rfl (by kernel_rfl) (by decide) ?_
  intro w102 b103 r104 s105 hv106
  have q107 : WordsV [UInt32.ofNat ((cA b a k) + ((List.getD (limbs b) k (0 : UInt32)).toNat))] lab63 w102 (.slice (some ⟨b103, 0, none⟩) 1 1) := ⟨_, _, rfl, Nat.le_refl _, Nat.le_of_ble_eq_true rfl, r104⟩
  have o108 := o67.up s105
  refine Seq.append (k := 23) (List.map u32 ([UInt32.ofNat ((cA b a k) + ((List.getD (limbs b) k (0 : UInt32)).toNat))])) hv106 o108 Try.underlying58 ty167 rfl rfl rfl (by simp) (WordsV.row q107) oneCell_u32 (by omega) (by omega) (by decide) ?_
  intro lab109 w110 v111 o112 s113 hv114
  rw [← List.map_append] at o112
  obtain ⟨A115, c116, rfl⟩ := App.shape o112
  have m117 : List.length (wsN (b + a) k ++ ([UInt32.ofNat ((cA b a k) + ((List.getD (limbs b) k (0 : UInt32)).toNat))])) = k + 1 := App.lenMap o112
  have z118 := (App.row o112).2
  refine sv (Does.assign rfl) ?_
  refine Seq.next ?_
  refine Run.region ?_
  refine sv (Does.move rfl) ?_
  refine sv (Does.n64_shr32 rfl rfl) ?_
  refine sv (Does.assign rfl) ?_
  refine Seq.go (fun _ _ h => h) ?_
  refine Run.region ?_
  refine sv (Does.add rfl rfl (by omega)) ?_
  refine sv (Does.move rfl) ?_
  have c119 := s105.trans s113
  have c120 := s65.trans c119
  exact Seq.nil (fun a121 h122 => ⟨_, by omega, _, h122.weaken (subs_lk (l' := [(26, i64 (((k + 1) : Nat) : Int)), (6, n64 (cA b a (k + 1))), (5, .slice A115 (k + 1) c116), (3, .pointer (some ⟨b15, 0, none⟩)), (4, .pointer (some ⟨b21, 0, none⟩)), (24, .slice A4 (nw b) c5), (25, i64 ((nw b : Nat) : Int))]) ⟨(congrArg (fun z => some (i64 z)) (show (((k : Nat) : Int) + 1 : Int) = (((k + 1) : Nat) : Int) from by rfl)), (congrArg (fun z => some (n64 z)) (show (((cA b a k) + ((List.getD (limbs b) k (0 : UInt32)).toNat)) / 4294967296 : Nat) = cA b a (k + 1) from by exact add_carry (by rw [limb_zero (b := a) (by omega)]; rfl))), rfl, rfl, rfl, rfl, rfl, trivial⟩), ⟨k + 1, lab109, (.slice A115 (k + 1) c116), rfl, rfl, hv114, (c120.more (by decide)), (appCast (show wsN (b + a) k ++ ([UInt32.ofNat ((cA b a k) + ((List.getD (limbs b) k (0 : UInt32)).toNat))]) = wsN (b + a) (k + 1) from by exact add_step (by rw [limb_zero (b := a) (by omega)]; rfl)) (show k + 1 = (k + 1) from by rfl) o112), (by omega)⟩⟩)
 refine Run.cond_b rfl (decide_eq_true hp3) ?_
 refine Run.region ?_
 refine sv (Does.move rfl) ?_
 refine sv (Does.fieldAddr' 0 Try.underlying60 rfl ty58 rfl rfl) ?_
 have q79 := NatV.words q78
 refine sv (Does.load_own1 o74 ty58 rfl rfl) ?_
 refine sv (Does.move rfl) ?_
 refine sv (Does.index_row k Try.underlying58 ty167 rfl rfl (WordsV.row q79) (by simp [nw]) (by omega) (by omega)) ?_
 have t80 := UInt32.toNat_lt (List.getD (limbs a) k (0 : UInt32))
 refine sv (Does.load_row ty167 rfl (WordsV.row q79) (map_get u32 _ (0 : UInt32) (by omega))) ?_
 refine sv (Does.u32_n64 Try.underlying167 Try.underlying62 rfl) ?_
 refine sv (Does.n64_add rfl rfl (by omega)) ?_
 refine sv (Does.assign rfl) ?_
 refine nsr ?_
 refine sv (Does.move rfl) ?_
 refine sv (Does.move rfl) ?_
 refine sv (Does.n64_u32 Try.underlying62 Try.underlying167 rfl) ?_
 refine Seq.build_row [(0, u32 (UInt32.ofNat (((cA b a k) + ((List.getD (limbs b) k (0 : UInt32)).toNat)) + ((List.getD (limbs a) k (0 : UInt32)).toNat))))] (List.map u32 [UInt32.ofNat (((cA b a k) + ((List.getD (limbs b) k (0 : UInt32)).toNat)) + ((List.getD (limbs a) k (0 : UInt32)).toNat))]) hv64 Try.underlying58 ty167 (by decide) (by decide) rfl (by kernel_rfl) (by decide) ?_
 intro w81 b82 r83 s84 hv85
 have q86 : WordsV [UInt32.ofNat (((cA b a k) + ((List.getD (limbs b) k (0 : UInt32)).toNat)) + ((List.getD (limbs a) k (0 : UInt32)).toNat))] lab63 w81 (.slice (some ⟨b82, 0, none⟩) 1 1) := ⟨_, _, rfl, Nat.le_refl _, Nat.le_of_ble_eq_true rfl, r83⟩
 have o87 := o67.up s84
 refine Seq.append (k := 23) (List.map u32 ([UInt32.ofNat (((cA b a k) + ((List.getD (limbs b) k (0 : UInt32)).toNat)) + ((List.getD (limbs a) k (0 : UInt32)).toNat))])) hv85 o87 Try.underlying58 ty167 rfl rfl rfl (by simp) (WordsV.row q86) oneCell_u32 (by omega) (by omega) (by decide) ?_
 intro lab88 w89 v90 o91 s92 hv93
 rw [← List.map_append] at o91
 obtain ⟨A94, c95, rfl⟩ := App.shape o91
 have m96 : List.length (wsN (b + a) k ++ ([UInt32.ofNat (((cA b a k) + ((List.getD (limbs b) k (0 : UInt32)).toNat)) + ((List.getD (limbs a) k (0 : UInt32)).toNat))])) = k + 1 := App.lenMap o91
 have z97 := (App.row o91).2
 refine sv (Does.assign rfl) ?_
 refine Seq.next ?_
 refine Run.region ?_
 refine sv (Does.move rfl) ?_
 refine sv (Does.n64_shr32 rfl rfl) ?_
 refine sv (Does.assign rfl) ?_
 refine Seq.go (fun _ _ h => h) ?_
 refine Run.region ?_
 refine sv (Does.add rfl rfl (by omega)) ?_
 refine sv (Does.move rfl) ?_
 have c98 := s84.trans s92
 have c99 := s65.trans c98
 exact Seq.nil (fun a100 h101 => ⟨_, by omega, _, h101.weaken (subs_lk (l' := [(26, i64 (((k + 1) : Nat) : Int)), (6, n64 (cA b a (k + 1))), (5, .slice A94 (k + 1) c95), (3, .pointer (some ⟨b15, 0, none⟩)), (4, .pointer (some ⟨b21, 0, none⟩)), (24, .slice A4 (nw b) c5), (25, i64 ((nw b : Nat) : Int))]) ⟨(congrArg (fun z => some (i64 z)) (show (((k : Nat) : Int) + 1 : Int) = (((k + 1) : Nat) : Int) from by rfl)), (congrArg (fun z => some (n64 z)) (show ((((cA b a k) + ((List.getD (limbs b) k (0 : UInt32)).toNat)) + ((List.getD (limbs a) k (0 : UInt32)).toNat)) / 4294967296 : Nat) = cA b a (k + 1) from by exact add_carry rfl)), rfl, rfl, rfl, rfl, rfl, trivial⟩), ⟨k + 1, lab88, (.slice A94 (k + 1) c95), rfl, rfl, hv93, (c99.more (by decide)), (appCast (show wsN (b + a) k ++ ([UInt32.ofNat (((cA b a k) + ((List.getD (limbs b) k (0 : UInt32)).toNat)) + ((List.getD (limbs a) k (0 : UInt32)).toNat))]) = wsN (b + a) (k + 1) from by exact add_step rfl) (show k + 1 = (k + 1) from by rfl) o91), (by omega)⟩⟩)
theorem nat_Mul {lab : Lab} {w : World} (hv : Valid lab w) {a : Nat} {v0 : Value} (h0 : NatV a lab w v0) {b : Nat} {v1 : Value} (h1 : NatV b lab w v1) (ha : nw a ≤ 1000000) (hb : nw b ≤ 1000000) :
  Calls Try.prog 116 #[v0, v1] w (fun e w' => ∃ v, e = .returned v ∧ (NatV (a * b)) lab w' v ∧ Below w.heap.size w w') := by
 obtain ⟨L0, h0L, ⟨zU0, z00⟩, hX⟩ := enter0 hv
 replace h0 := up z00 h0
 obtain ⟨A1, c2, rfl⟩ := NatV.shape h0
 have z3 := NatV.cap h0
 replace h1 := up z00 h1
 obtain ⟨A4, c5, rfl⟩ := NatV.shape h1
 have z6 := NatV.cap h1
 have hLa : (limbs a).length = nw a := rfl
 have hLb : (limbs b).length = nw b := rfl
 refine calls_run Try.func116 rfl Try.ntmps116 (Nat.le_of_ble_eq_true rfl) ?_
 refine rsr ?_
 refine sbox 3 [.slice A1 (nw a) c2] h0L rfl rfl fun b9 L7 w8 o10 s11 h12 => ?_
 refine sbox 4 [.slice A4 (nw b) c5] h12 rfl rfl fun b15 L13 w14 o16 s17 h18 => ?_
 refine salloc 5 [.slice none 0 0] h18 ty60 rfl fun b21 L19 w20 o22 s23 h24 => ?_
 refine nsr ?_
 refine sv (Does.fieldAddr' 0 Try.underlying60 rfl ty58 rfl rfl) ?_
 have c26 := s17.trans s23
 have o25 := o10.up c26
 have c28 := s11.trans c26
 have q29 := up c28 h0
 have q27 := NatV.words q29
 refine sv (Does.load_own1 o25 ty58 rfl rfl) ?_
 refine sv (Does.len Try.underlying58 rfl) ?_
 refine sv (Does.fieldAddr' 0 Try.underlying60 rfl ty58 rfl rfl) ?_
 have o30 := o16.up s23
 have q32 := up c28 h1
 have q31 := NatV.words q32
 refine sv (Does.load_own1 o30 ty58 rfl rfl) ?_
 refine sv (Does.len Try.underlying58 rfl) ?_
 refine sv (Does.add rfl rfl (by omega)) ?_
 refine Seq.make_row (k := 19) u32 (0 : UInt32) ((((nw a : Nat) : Int) + ((nw b : Nat) : Int)).toNat) h24 Try.underlying58 ty167 rfl rfl rfl (by omega) (by omega) (by omega) (by omega) (by decide) ?_
 intro lab33 w34 b35 o36 s37 hv38
 refine sv (Does.assign rfl) ?_
 refine Seq.next ?_
 refine Run.seq ?_
 refine rsr ?_
 refine sv (Does.fieldAddr' 0 Try.underlying60 rfl ty58 rfl rfl) ?_
 have o39 := o25.up s37
 have q41 := up s37 q29
 have q40 := NatV.words q41
 refine sv (Does.load_own1 o39 ty58 rfl rfl) ?_
 refine sv (Does.len Try.underlying58 rfl) ?_
 refine sv (Does.move rfl) ?_
 refine Seq.next ?_
 refine Run.block ?_
 refine Run.loop (fun m' l' w' => ∃ (i : Nat) (lab' : Lab), m' = nw a - i ∧ l' = [(22, i64 ((i : Nat) : Int)), (3, .pointer (some ⟨b15, 0, none⟩)), (4, .pointer (some ⟨b21, 0, none⟩)), (5, .slice (some ⟨b35, 0, none⟩) ((((nw a : Nat) : Int) + ((nw b : Nat) : Int)).toNat) ((((nw a : Nat) : Int) + ((nw b : Nat) : Int)).toNat)), (20, .slice A1 (nw a) c2), (21, i64 ((nw a : Nat) : Int))] ∧ Valid lab' w' ∧ Stp [19] lab33 w34 lab' w' ∧ Own lab' w' 19 b35 167 (List.map u32 (wsN (a % 4294967296 ^ i * b) (nw a + nw b))).toArray ∧ (i ≤ nw a)) (nw a - 0) (l0 := [(22, i64 ((0 : Nat) : Int)), (3, .pointer (some ⟨b15, 0, none⟩)), (4, .pointer (some ⟨b21, 0, none⟩)), (5, .slice (some ⟨b35, 0, none⟩) ((((nw a : Nat) : Int) + ((nw b : Nat) : Int)).toNat) ((((nw a : Nat) : Int) + ((nw b : Nat) : Int)).toNat)), (20, .slice A1 (nw a) c2), (21, i64 ((nw a : Nat) : Int))]) ⟨(congrArg (fun z => some (i64 z)) (show (0 : Int) = ((0 : Nat) : Int) from by rfl)), rfl, rfl, rfl, rfl, rfl, trivial⟩ ⟨0, lab33, rfl, rfl, hv38, ((Stp.refl _ _).more (by simp)), ((show List.replicate ((((nw a : Nat) : Int) + ((nw b : Nat) : Int)).toNat) (0 : UInt32) = wsN (a % 4294967296 ^ 0 * b) (nw a + nw b) from by exact mul_start) ▸ o36), (by omega)⟩ ?_
 intro m42 l43 w44 H45
 obtain ⟨i, lab46, hzm, rfl, hv47, s48, o49, hi⟩ := H45
 replace hzm := hzm.symm; subst hzm
 refine rsr ?_
 refine sv (Does.lss rfl rfl) ?_
 refine Seq.next ?_
 refine Run.seq ?_
 rcases Decidable.em ((((i : Nat) : Int) : Int) < (((nw a : Nat) : Int) : Int)) with hp1 | hp1
 rotate_left
 ·refine Run.cond_b rfl (decide_eq_false hp1) ?_
  refine Run.exit_go (fun _ _ h => h) ?_
  refine rsr ?_
  refine sv (Does.move rfl) ?_
  have hv85 := Valid.release hv47 19
  have q86 : WordsV (wsN (a % 4294967296 ^ i * b) (nw a + nw b)) (labFree lab46 19) w44 (.slice (some ⟨b35, 0, none⟩) ((((nw a : Nat) : Int) + ((nw b : Nat) : Int)).toNat) ((((nw a : Nat) : Int) + ((nw b : Nat) : Int)).toNat)) := WordsV.release o49 (by exact wsN_length _ _) (by omega)
  refine scall (V := NatV (wv (wsN (a % 4294967296 ^ i * b) (nw a + nw b)))) cal105 hv85 rfl (nat_trim hv85 q86) fun v87 w88 q89 s90 h91 => ?_
  obtain ⟨A92, c93, rfl⟩ := NatV.shape q89
  have z94 := NatV.cap q89
  have c96 := (Stp.release (lab := lab46) (w := w44) 19).trans s90
  have c97 := s48.trans c96
  have c98 := s37.trans c97
  have o95 := o22.up c98
  refine sstore [.slice A92 (nw (wv (wsN (a % 4294967296 ^ i * b) (nw a + nw b)))) c93] h91 o95 ty60 rfl rfl rfl (Nat.le_of_ble_eq_true rfl) rfl rfl fun w99 o100 s101 h102 => ?_
  refine Seq.next ?_
  have c103 := c98.trans s101
  have c104 := c28.trans c103
  obtain ⟨⟨zU, zo⟩, zb⟩ := hX c104 (by decide)
  have q105 := up s101 q89
  refine Run.ret ?_
  exact post_one Try.results116 ⟨_, rfl, Own.loadN [.slice A92 (nw (wv (wsN (a % 4294967296 ^ i * b) (nw a + nw b)))) c93] o100 ty60 rfl⟩ ⟨_, rfl, (NatV.cast (by exact mul_fin (by omega) rfl) (up zo q105)), zb⟩
 refine Run.cond_b rfl (decide_eq_true hp1) ?_
 refine Run.skip_go (fun _ _ h => h) ?_
 refine Run.seq ?_
 refine Run.block ?_
 refine rsr ?_
 refine sv (Does.move rfl) ?_
 have q50 := up s48 q40
 refine sv (Does.index_row i Try.underlying58 ty167 rfl rfl (WordsV.row q50) (by simp [nw]) (by omega) (by omega)) ?_
 have t51 := UInt32.toNat_lt (List.getD (limbs a) i (0 : UInt32))
 refine sv (Does.load_row ty167 rfl (WordsV.row q50) (map_get u32 _ (0 : UInt32) (by omega))) ?_
 refine sv (Does.assign rfl) ?_
 refine sv (Does.assign rfl) ?_
 refine nsr ?_
 refine sv (Does.assign rfl) ?_
 refine Seq.next ?_
 refine Run.seq ?_
 refine rsr ?_
 refine sv (Does.fieldAddr' 0 Try.underlying60 rfl ty58 rfl rfl) ?_
 have c53 := s37.trans s48
 have o52 := o30.up c53
 have q55 := up c53 q32
 have q54 := NatV.words q55
 refine sv (Does.load_own1 o52 ty58 rfl rfl) ?_
 refine sv (Does.len Try.underlying58 rfl) ?_
 refine sv (Does.move rfl) ?_
 refine Seq.next ?_
 refine Run.block ?_
 refine Run.loop (fun m' l' w' => ∃ (k : Nat) (out : List UInt32) (cy : Nat) (lab' : Lab), m' = nw b - k ∧ l' = [(30, i64 ((k : Nat) : Int)), (8, n64 cy), (3, .pointer (some ⟨b15, 0, none⟩)), (4, .pointer (some ⟨b21, 0, none⟩)), (5, .slice (some ⟨b35, 0, none⟩) ((((nw a : Nat) : Int) + ((nw b : Nat) : Int)).toNat) ((((nw a : Nat) : Int) + ((nw b : Nat) : Int)).toNat)), (20, .slice A1 (nw a) c2), (21, i64 ((nw a : Nat) : Int)), (22, i64 ((i : Nat) : Int)), (6, i64 ((i : Nat) : Int)), (7, u32 (List.getD (limbs a) i (0 : UInt32))), (28, .slice A4 (nw b) c5), (29, i64 ((nw b : Nat) : Int))] ∧ Valid lab' w' ∧ Stp [19] lab46 w44 lab' w' ∧ Own lab' w' 19 b35 167 (List.map u32 out).toArray ∧ (k ≤ nw b) ∧ (List.length out = nw a + nw b) ∧ (cy < 4294967296) ∧ (wv out + cy * 4294967296 ^ (i + k) = a % 4294967296 ^ i * b + (List.getD (limbs a) i 0).toNat * 4294967296 ^ i * (b % 4294967296 ^ k)) ∧ (∀ j, i + k ≤ j → List.getD out j 0 = List.getD (wsN (a % 4294967296 ^ i * b) (nw a + nw b)) j 0)) (nw b - 0) (l0 := [(30, i64 ((0 : Nat) : Int)), (8, n64 0), (3, .pointer (some ⟨b15, 0, none⟩)), (4, .pointer (some ⟨b21, 0, none⟩)), (5, .slice (some ⟨b35, 0, none⟩) ((((nw a : Nat) : Int) + ((nw b : Nat) : Int)).toNat) ((((nw a : Nat) : Int) + ((nw b : Nat) : Int)).toNat)), (20, .slice A1 (nw a) c2), (21, i64 ((nw a : Nat) : Int)), (22, i64 ((i : Nat) : Int)), (6, i64 ((i : Nat) : Int)), (7, u32 (List.getD (limbs a) i (0 : UInt32))), (28, .slice A4 (nw b) c5), (29, i64 ((nw b : Nat) : Int))]) ⟨(congrArg (fun z => some (i64 z)) (show (0 : Int) = ((0 : Nat) : Int) from by rfl)), rfl, rfl, rfl, rfl, rfl, rfl, rfl, rfl, rfl, rfl, rfl, trivial⟩ ⟨0, wsN (a % 4294967296 ^ i * b) (nw a + nw b), 0, lab46, rfl, rfl, hv47, ((Stp.refl _ _).more (by simp)), ((show wsN (a % 4294967296 ^ i * b) (nw a + nw b) = (wsN (a % 4294967296 ^ i * b) (nw a + nw b)) from by rfl) ▸ o49), (by omega), (by (rw [wsN_length])), (by omega), (by (rw [wsN_nil_iff (Nat.lt_of_lt_of_le (Nat.mul_lt_mul'' (Nat.mod_lt _ (Nat.pow_pos (by omega) : 0 < 4294967296 ^ i)) (lt_nw b)) (by rw [← Nat.pow_add]; exact Nat.pow_le_pow_right (by omega) (by omega)))]; simp [Nat.mod_one])), (by (intro j hj; rfl))⟩ ?_
 intro m56 l57 w58 H59
 obtain ⟨k, out, cy, lab60, hzm, rfl, hv61, s62, o63, hk, hlen, hcb, hval, htop⟩ := H59
 replace hzm := hzm.symm; subst hzm
 have hm := mul_le32 (List.getD (limbs a) i 0) (List.getD (limbs b) k 0)
 refine rsr ?_
 refine sv (Does.lss rfl rfl) ?_
 refine Seq.next ?_
 refine Run.seq ?_
 rcases Decidable.em ((((k : Nat) : Int) : Int) < (((nw b : Nat) : Int) : Int)) with hp2 | hp2
 rotate_left
 ·refine Run.cond_b rfl (decide_eq_false hp2) ?_
  refine Run.exit_go (fun _ _ h => h) ?_
  refine Run.region ?_
  refine sv (Does.move rfl) ?_
  refine sv (Does.move rfl) ?_
  refine sv (Does.fieldAddr' 0 Try.underlying60 rfl ty58 rfl rfl) ?_
  have o74 := o52.up s62
  have q76 := up s62 q55
  have q75 := NatV.words q76
  refine sv (Does.load_own1 o74 ty58 rfl rfl) ?_
  refine sv (Does.len Try.underlying58 rfl) ?_
  refine sv (Does.add rfl rfl (by omega)) ?_
  refine sv (Does.move rfl) ?_
  refine sv (Does.n64_u32 Try.underlying62 Try.underlying167 rfl) ?_
  refine sv (Does.index_own ((((i : Nat) : Int) + ((nw b : Nat) : Int)).toNat) Try.underlying58 ty167 rfl rfl (by omega) (by omega)) ?_
  refine Seq.store_row (k := 19) (j := ((((i : Nat) : Int) + ((nw b : Nat) : Int)).toNat)) (v := (UInt32.ofNat cy)) u32 hv61 o63 ty167 (congrArg (fun o => some (Value.pointer (some ⟨b35, o, none⟩))) (Nat.mul_one ((((i : Nat) : Int) + ((nw b : Nat) : Int)).toNat))) rfl (by omega) rfl rfl fun w77 o78 s79 h80 => ?_
  refine Seq.go (fun _ _ h => h) ?_
  refine Run.region ?_
  refine sv (Does.add rfl rfl (by omega)) ?_
  refine sv (Does.move rfl) ?_
  have c81 := s62.trans s79
  have c82 := s48.trans c81
  exact Seq.nil (fun a83 h84 => ⟨_, by omega, _, h84.weaken (subs_lk (l' := [(22, i64 (((i + 1) : Nat) : Int)), (3, .pointer (some ⟨b15, 0, none⟩)), (4, .pointer (some ⟨b21, 0, none⟩)), (5, .slice (some ⟨b35, 0, none⟩) ((((nw a : Nat) : Int) + ((nw b : Nat) : Int)).toNat) ((((nw a : Nat) : Int) + ((nw b : Nat) : Int)).toNat)), (20, .slice A1 (nw a) c2), (21, i64 ((nw a : Nat) : Int))]) ⟨(congrArg (fun z => some (i64 z)) (show (((i : Nat) : Int) + 1 : Int) = (((i + 1) : Nat) : Int) from by rfl)), rfl, rfl, rfl, rfl, rfl, trivial⟩), ⟨i + 1, lab60, rfl, rfl, h80, (c82.more (by decide)), ((show List.set out ((((i : Nat) : Int) + ((nw b : Nat) : Int)).toNat) (UInt32.ofNat cy) = wsN (a % 4294967296 ^ (i + 1) * b) (nw a + nw b) from by (have hkb : k = nw b := (by omega); subst hkb; exact mul_end rfl rfl (by omega) rfl hlen hcb hval htop)) ▸ o78), (by omega)⟩⟩)
 refine Run.cond_b rfl (decide_eq_true hp2) ?_
 refine Run.skip_go (fun _ _ h => h) ?_
 refine Run.seq ?_
 refine Run.block ?_
 refine rsr ?_
 refine sv (Does.move rfl) ?_
 have q64 := up s62 q54
 refine sv (Does.index_row k Try.underlying58 ty167 rfl rfl (WordsV.row q64) (by simp [nw]) (by omega) (by omega)) ?_
 have t65 := UInt32.toNat_lt (List.getD (limbs b) k (0 : UInt32))
 refine sv (Does.load_row ty167 rfl (WordsV.row q64) (map_get u32 _ (0 : UInt32) (by omega))) ?_
 refine sv (Does.assign rfl) ?_
 refine sv (Does.assign rfl) ?_
 refine nsr ?_
 refine sv (Does.move rfl) ?_
 refine sv (Does.move rfl) ?_
 refine sv (Does.u32_n64 Try.underlying167 Try.underlying62 rfl) ?_
 refine sv (Does.move rfl) ?_
 refine sv (Does.u32_n64 Try.underlying167 Try.underlying62 rfl) ?_
 refine sv (Does.n64_mul rfl rfl (by omega)) ?_
 refine sv (Does.move rfl) ?_
 refine sv (Does.move rfl) ?_
 refine sv (Does.move rfl) ?_
 refine sv (Does.add rfl rfl (by omega)) ?_
 refine sv (Does.index_own ((((i : Nat) : Int) + ((k : Nat) : Int)).toNat) Try.underlying58 ty167 rfl rfl (by omega) (by omega)) ?_
 have t66 := UInt32.toNat_lt (List.getD out ((((i : Nat) : Int) + ((k : Nat) : Int)).toNat) (0 : UInt32))
 refine sv (Does.load_own1 o63 ty167 rfl (by rw [Nat.mul_one]; exact row_get u32 _ (0 : UInt32) (by omega))) ?_
 refine sv (Does.u32_n64 Try.underlying167 Try.underlying62 rfl) ?_
 refine sv (Does.n64_add rfl rfl (by omega)) ?_
 refine sv (Does.n64_add rfl rfl (by omega)) ?_
 refine sv (Does.assign rfl) ?_
 refine nsr ?_
 refine sv (Does.move rfl) ?_
 refine sv (Does.move rfl) ?_
 refine sv (Does.move rfl) ?_
 refine sv (Does.add rfl rfl (by omega)) ?_
 refine sv (Does.move rfl) ?_
 refine sv (Does.n64_u32 Try.underlying62 Try.underlying167 rfl) ?_
 refine sv (Does.index_own ((((i : Nat) : Int) + ((k : Nat) : Int)).toNat) Try.underlying58 ty167 rfl rfl (by omega) (by omega)) ?_
 refine Seq.store_row (k := 19) (j := ((((i : Nat) : Int) + ((k : Nat) : Int)).toNat)) (v := (UInt32.ofNat (cy + ((((List.getD (limbs a) i (0 : UInt32)).toNat) * ((List.getD (limbs b) k (0 : UInt32)).toNat)) + ((List.getD out ((((i : Nat) : Int) + ((k : Nat) : Int)).toNat) (0 : UInt32)).toNat))))) u32 hv61 o63 ty167 (congrArg (fun o => some (Value.pointer (some ⟨b35, o, none⟩))) (Nat.mul_one ((((i : Nat) : Int) + ((k : Nat) : Int)).toNat))) rfl (by omega) rfl rfl fun w67 o68 s69 h70 => ?_
 refine Seq.next ?_
 refine Run.region ?_
 refine sv (Does.move rfl) ?_
 refine sv (Does.n64_shr32 rfl rfl) ?_
 refine sv (Does.assign rfl) ?_
 refine Seq.go (fun _ _ h => h) ?_
 refine Run.region ?_
 refine sv (Does.add rfl rfl (by omega)) ?_
 refine sv (Does.move rfl) ?_
 have c71 := s62.trans s69
 exact Seq.nil (fun a72 h73 => ⟨_, by omega, _, h73.weaken (subs_lk (l' := [(30, i64 (((k + 1) : Nat) : Int)), (8, n64 ((cy + ((((List.getD (limbs a) i (0 : UInt32)).toNat) * ((List.getD (limbs b) k (0 : UInt32)).toNat)) + ((List.getD out ((((i : Nat) : Int) + ((k : Nat) : Int)).toNat) (0 : UInt32)).toNat))) / 4294967296)), (3, .pointer (some ⟨b15, 0, none⟩)), (4, .pointer (some ⟨b21, 0, none⟩)), (5, .slice (some ⟨b35, 0, none⟩) ((((nw a : Nat) : Int) + ((nw b : Nat) : Int)).toNat) ((((nw a : Nat) : Int) + ((nw b : Nat) : Int)).toNat)), (20, .slice A1 (nw a) c2), (21, i64 ((nw a : Nat) : Int)), (22, i64 ((i : Nat) : Int)), (6, i64 ((i : Nat) : Int)), (7, u32 (List.getD (limbs a) i (0 : UInt32))), (28, .slice A4 (nw b) c5), (29, i64 ((nw b : Nat) : Int))]) ⟨(congrArg (fun z => some (i64 z)) (show (((k : Nat) : Int) + 1 : Int) = (((k + 1) : Nat) : Int) from by rfl)), (congrArg (fun z => some (n64 z)) (show ((cy + ((((List.getD (limbs a) i (0 : UInt32)).toNat) * ((List.getD (limbs b) k (0 : UInt32)).toNat)) + ((List.getD out ((((i : Nat) : Int) + ((k : Nat) : Int)).toNat) (0 : UInt32)).toNat))) / 4294967296 : Nat) = ((cy + ((((List.getD (limbs a) i (0 : UInt32)).toNat) * ((List.getD (limbs b) k (0 : UInt32)).toNat)) + ((List.getD out ((((i : Nat) : Int) + ((k : Nat) : Int)).toNat) (0 : UInt32)).toNat))) / 4294967296) from by rfl)), rfl, rfl, rfl, rfl, rfl, rfl, rfl, rfl, rfl, rfl, trivial⟩), ⟨k + 1, (List.set out ((((i : Nat) : Int) + ((k : Nat) : Int)).toNat) (UInt32.ofNat (cy + ((((List.getD (limbs a) i (0 : UInt32)).toNat) * ((List.getD (limbs b) k (0 : UInt32)).toNat)) + ((List.getD out ((((i : Nat) : Int) + ((k : Nat) : Int)).toNat) (0 : UInt32)).toNat))))), ((cy + ((((List.getD (limbs a) i (0 : UInt32)).toNat) * ((List.getD (limbs b) k (0 : UInt32)).toNat)) + ((List.getD out ((((i : Nat) : Int) + ((k : Nat) : Int)).toNat) (0 : UInt32)).toNat))) / 4294967296), lab60, rfl, rfl, h70, (c71.more (by decide)), ((show List.set out ((((i : Nat) : Int) + ((k : Nat) : Int)).toNat) (UInt32.ofNat (cy + ((((List.getD (limbs a) i (0 : UInt32)).toNat) * ((List.getD (limbs b) k (0 : UInt32)).toNat)) + ((List.getD out ((((i : Nat) : Int) + ((k : Nat) : Int)).toNat) (0 : UInt32)).toNat)))) = (List.set out ((((i : Nat) : Int) + ((k : Nat) : Int)).toNat) (UInt32.ofNat (cy + ((((List.getD (limbs a) i (0 : UInt32)).toNat) * ((List.getD (limbs b) k (0 : UInt32)).toNat)) + ((List.getD out ((((i : Nat) : Int) + ((k : Nat) : Int)).toNat) (0 : UInt32)).toNat))))) from by rfl) ▸ o68), (by omega), (by (rw [List.length_set]; omega)), (by omega), (by exact mul_step rfl rfl (by omega) hval), (by exact mul_top htop)⟩⟩)
end Go.Proofs.Ytgfomedobfaidaa
end
