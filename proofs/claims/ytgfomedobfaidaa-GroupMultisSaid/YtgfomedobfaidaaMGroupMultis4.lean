/-
  The row of GroupMultis: that the law answers true of every input; part 4 of 9: what the proof needs, in order.
-/
import Derived.Test.YtgfomedobfaidaaMGroupMultis3
section
set_option linter.unusedVariables false
set_option linter.unusedSimpArgs false
namespace Go.Proofs.Ytgfomedobfaidaa
open Go.RowKit
structure RG where
 s : Nat
 p : PV
 U : List Nat
 c : Option Nat
def rg : List RG → Nat → Option RG
 | [], _ => none
 | x :: _, 0 => some x
 | _ :: r, n + 1 => rg r n
def rgU (R : List RG) (i : Nat) : List Nat := match rg R i with
 | some x => x.U
 | none => []
def rgC (R : List RG) (i : Nat) : Option Nat := match rg R i with
 | some x => x.c
 | none => none
def rgS (R : List RG) (i : Nat) : Nat := match rg R i with
 | some x => x.s
 | none => 0
def rgP (R : List RG) (i : Nat) : VP := match rg R i with
 | some x => x.p.vp
 | none => fun _ _ _ => True
def rgAll (R : List RG) : List Nat := R.flatMap (·.U)
theorem rgU_all : ∀ {R : List RG} {j : Nat}, ∀ d ∈ rgU R j, d ∈ rgAll R
 | [], j, d, hd => by simp [rgU, rg] at hd
 | x :: r, 0, d, hd => by simp [rgU, rg] at hd; simp [rgAll, hd]
 | x :: r, j + 1, d, hd => by
  have := rgU_all (R := r) (j := j) d (by simpa [rgU, rg] using hd)
  simp only [rgAll, List.flatMap_cons, List.mem_append] at this ⊢
  exact .inr this
def oth : List (List Nat) → Nat → List Nat
 | [], _ => []
 | x :: _, 0 => x
 | _ :: r, n + 1 => oth r n
def othOk (ops : Array Oper) (R : List RG) (O : List (List Nat)) : Bool := (List.range R.length).all fun i => (List.range R.length).all fun j => Nat.beq i j || waits ops i j || (rgU R i).all (fun d => (oth O j).contains d)
theorem othOk_spec {ops : Array Oper} {R : List RG} {O : List (List Nat)} (h : othOk ops R O = true) {i j : Nat} (hi : i < R.length) (hj : j < R.length) (hne : i ≠ j) (hw : ¬ waits ops i j = true) : ∀ d ∈ rgU R i, d ∈ oth O j := by
 intro d hd
 have h1 := List.all_eq_true.1 (List.all_eq_true.1 h i (List.mem_range.2 hi)) j (List.mem_range.2 hj)
 rw [Bool.or_eq_true, Bool.or_eq_true] at h1
 rcases h1 with (h1 | h1) | h1
 ·exact absurd (Nat.eq_of_beq_eq_true h1) hne
 ·exact absurd h1 hw
 ·simpa using List.all_eq_true.1 h1 d hd
def closF (ops : Array Oper) : Nat → (Nat → Bool) → Nat → Bool
 | 0, S => S
 | j + 1, S => closF ops j (if S j then fun k => S k || waits ops j k else S)
theorem closF_sound {ops : Array Oper} {L : Nat → Prop} (hd : ∀ j, L j → ∀ k, waits ops j k = true → L k) : ∀ (n : Nat) (S : Nat → Bool), (∀ k, S k = true → L k) → ∀ k, closF ops n S k = true → L k
 | 0, S, h, k, hk => h k hk
 | n + 1, S, h, k, hk => by
  refine closF_sound hd n _ ?_ k hk
  intro k hk
  split at hk
  ·rename_i hn
   rw [Bool.or_eq_true] at hk
   rcases hk with hk | hk
   ·exact h k hk
   ·exact hd n (h n hn) k hk
  ·exact h k hk
def manyOk (ops : Array Oper) (l : List (Nat × Value)) (R : List RG) : Bool :=
  Nat.ble R.length ops.size &&
  ((List.range ops.size).all fun j => match ops[j]? with
    | some o => (o.after.all fun e => !Region.binds .any e || Nat.blt e.on j) &&
      (if j < R.length then (match o.dst with
          | some d => (lk l d).isNone && Nat.beq (rgS R j) d && ((List.range R.length).all fun k => Nat.beq k j || (!(Nat.beq (rgS R k) d) || waits ops k j))
          | none => true)
       else if j = R.length then (List.range R.length).all fun k => closF ops R.length (waits ops j) k
       else waits ops j (j - 1))
    | none => false)
structure ManyOk (ops : Array Oper) (l : List (Nat × Value)) (R : List RG) : Prop where
 le : R.length ≤ ops.size
 back : ∀ (j : Nat) (o : Oper), ops[j]? = some o → ∀ e ∈ o.after, Region.binds .any e = true → e.on < j
 fresh : ∀ (j : Nat) (o : Oper) (d : Nat), j < R.length → ops[j]? = some o → o.dst = some d → lk l d = none
 slot : ∀ (j : Nat) (o : Oper) (d : Nat), j < R.length → ops[j]? = some o → o.dst = some d → rgS R j = d
 once : ∀ (j k : Nat) (o : Oper) (d : Nat), j < R.length → k < R.length → k ≠ j → ops[j]? = some o → o.dst = some d → rgS R k = d → waits ops k j = true
 atM : ∀ o, ops[R.length]? = some o → ∀ k, k < R.length → closF ops R.length (waits ops R.length) k = true
 chain : ∀ (j : Nat) (o : Oper), R.length < j → ops[j]? = some o → waits ops j (j - 1) = true
theorem manyOk_spec {ops : Array Oper} {l : List (Nat × Value)} {R : List RG} (h : manyOk ops l R = true) : ManyOk ops l R := by
  unfold manyOk at h
  rw [Bool.and_eq_true, List.all_eq_true] at h
  obtain ⟨hm, h⟩ := h
  have key : ∀ (j : Nat) (o : Oper), ops[j]? = some o → (o.after.all fun e => !Region.binds .any e || Nat.blt e.on j) = true ∧
      (if j < R.length then (match o.dst with
          | some d => (lk l d).isNone && Nat.beq (rgS R j) d && ((List.range R.length).all fun k => Nat.beq k j || (!(Nat.beq (rgS R k) d) || waits ops k j))
          | none => true)
       else if j = R.length then (List.range R.length).all fun k => closF ops R.length (waits ops j) k
       else waits ops j (j - 1)) = true := by
    intro j o ho
    have hj : j < ops.size := (Array.getElem?_eq_some_iff.1 ho).1
    have := h j (List.mem_range.2 hj)
    simp only [ho, Bool.and_eq_true] at this
    exact this
  refine ⟨Nat.le_of_ble_eq_true hm, ?_, ?_, ?_, ?_, ?_, ?_⟩
  · intro j o ho e he hb
    have := (Array.all_eq_true_iff_forall_mem.1 (key j o ho).1) e he
    simp only [hb, Bool.not_true, Bool.false_or] at this
    exact Nat.lt_of_not_le fun hle => by simp [Nat.blt] at this; omega
  · intro j o d hj ho hd
    have := (key j o ho).2
    rw [if_pos hj] at this
    simp only [hd, Bool.and_eq_true] at this
    simpa using this.1.1
  · intro j o d hj ho hd
    have := (key j o ho).2
    rw [if_pos hj] at this
    simp only [hd, Bool.and_eq_true] at this
    exact Nat.eq_of_beq_eq_true this.1.2
  · intro j k o d hj hk hne ho hd hs
    have := (key j o ho).2
    rw [if_pos hj] at this
    simp only [hd, Bool.and_eq_true, List.all_eq_true] at this
    have := this.2 k (List.mem_range.2 hk)
    rw [Bool.or_eq_true, Bool.or_eq_true] at this
    rcases this with h1 | h1 | h1
    · exact absurd (Nat.eq_of_beq_eq_true h1) hne
    · rw [hs] at h1; simp at h1
    · exact h1
  · intro o ho k hk
    have := (key _ o ho).2
    rw [if_neg (by omega), if_pos rfl, List.all_eq_true] at this
    exact this k (List.mem_range.2 hk)
  · intro j o hj ho
    have := (key j o ho).2
    rwa [if_neg (by omega), if_neg (by omega)] at this
section
variable {ds : List Deferred} {P : Program} {N : Nat} {ops : Array Oper} {Q : Exit → Act → World → Prop} {l : List (Nat × Value)} {w : World} {lab : Lab}
def LeftR (R : List RG) (j : Nat) (lab : Lab) (w : World) (a : Act) : Prop := ∃ v, a.tmps[rgS R j]? = some v ∧ rgP R j lab w v
def ManyLaw (ds : List Deferred) (P : Program) (N : Nat) (ops : Array Oper) (Q : Exit → Act → World → Prop) (l : List (Nat × Value)) (lab0 : Lab) (w0 : World) (R : List RG) (O : List (List Nat)) (i : Nat) : Prop :=
 ∀ lab w a, Valid lab w → Stp (oth O i) lab0 w0 lab w → Fr ds N l a → (∀ j, waits ops i j = true → (∀ c, rgC R j = some c → c = i ∨ waits ops c i = true) → LeftR R j lab w a) →
  wpOp P ops Q i (fun a' w' => ∃ lab' v, (∀ o, ops[i]? = some o → a' = a.put o.dst v) ∧ (∀ d, dstOf ops i = some d → d < N) ∧ Valid lab' w' ∧ Stp (rgU R i) lab w lab' w' ∧ LeftR R i lab' w' a') a w
theorem waits_edge {ops : Array Oper} {i j : Nat} {o : Oper} (ho : ops[i]? = some o) : waits ops i j = true ↔ ∃ e ∈ o.after, Region.binds .any e = true ∧ e.on = j := by
 unfold waits
 simp only [ho, List.any_eq_true, Bool.and_eq_true]
 constructor
 ·rintro ⟨e, he, h1, h2⟩
  exact ⟨e, Array.mem_toList_iff.1 he, h1, Nat.eq_of_beq_eq_true h2⟩
 ·rintro ⟨e, he, h1, rfl⟩
  exact ⟨e, Array.mem_toList_iff.2 he, h1, by simp⟩
theorem many_tail {R : List RG} (hok : ManyOk ops l R) : ∀ (fuel p : Nat) (listed : Array Bool) (a : Act) (w : World), R.length ≤ p → p ≤ ops.size → fuel + p = ops.size → listed.size = ops.size →
  (∀ k, listed.getD k false = true ↔ k < p) → wpList P ops Q (ops.toList.drop p) a w → wpAny P .any ops Q fuel listed a w
 | 0, p, listed, a, w, hm, hp, hf, hs, hl, h => by
  have hpn : p = ops.size := by omega
  subst hpn
  have hr : Region.ready .any ops listed = [] := List.eq_nil_iff_forall_not_mem.2 fun j hj => by
   obtain ⟨h0, o, ho, _⟩ := mem_ready.1 hj
   have hj' : j < ops.size := (Array.getElem?_eq_some_iff.1 ho).1
   have h1 := (hl j).2 hj'
   simp [show j < listed.size by omega] at h0 h1
   rw [h0] at h1; cases h1
  refine ⟨hr, ?_⟩
  rw [List.drop_of_length_le (by simp)] at h
  exact h
 | fuel + 1, p, listed, a, w, hm, hp, hf, hs, hl, h => by
  have hpn : p < ops.size := by omega
  have hop : ops[p]? = some ops[p] := Array.getElem?_eq_getElem hpn
  have hready : p ∈ Region.ready .any ops listed := by
   rw [mem_ready]
   refine ⟨?_, ops[p], hop, fun e he hb => (hl _).2 (hok.back p _ hop e he hb)⟩
   have h1 : ¬ listed.getD p false = true := fun e => Nat.lt_irrefl p ((hl p).1 e)
   simpa [show p < listed.size by omega] using h1
  refine ⟨fun h0 => (by rw [h0] at hready; cases hready), fun i hi => ?_⟩
  obtain ⟨hi0, o, ho, hall⟩ := mem_ready.1 hi
  have hip : i = p := by
   have h1 : ¬ i < p := fun h => by
    have := (hl i).2 h
    have hilt : i < ops.size := (Array.getElem?_eq_some_iff.1 ho).1
    simp [show i < listed.size by omega] at hi0 this
    rw [hi0] at this; cases this
   by_cases h2 : i = p
   ·exact h2
   ·exfalso
    obtain ⟨e, he, hb, hon⟩ := (waits_edge ho).1 (hok.chain i o (by omega) ho)
    have := (hl _).1 (hall e he hb)
    omega
  subst hip
  have hoe : o = ops[i] := by rw [hop] at ho; exact (Option.some.inj ho).symm
  have hdrop : ops.toList.drop i = ops[i] :: ops.toList.drop (i + 1) := by
   rw [List.drop_eq_getElem_cons (by simpa using hpn)]; simp
  rw [hdrop] at h
  unfold wpOp
  rw [hop]
  unfold wpList at h
  have next : ∀ a w, wpList P ops Q (ops.toList.drop (i + 1)) a w → wpAny P .any ops Q fuel (listed.setIfInBounds i true) a w := fun a w h' =>
   many_tail hok fuel (i + 1) _ a w (by omega) (by omega) (by omega) (by simp [hs]) (fun k => by rw [getD_set_iff (by omega), hl]; omega) h'
  dsimp only
  split
  ·rename_i hw
   rw [if_pos hw] at h
   exact h.imp (Oper.wp_mono next) id
  ·rename_i hw
   rw [if_neg hw] at h
   exact next _ _ h
theorem many_body {R : List RG} {O : List (List Nat)} (hok : ManyOk ops l R) (hO : othOk ops R O = true) {lab0 : Lab} {w0 : World}
  (hper : ∀ j i, j < R.length → i ≠ j → rgC R j ≠ some i → ∀ {lab w lab' w' v}, Stp (rgU R i) lab w lab' w' → rgP R j lab w v → rgP R j lab' w' v)
  (hlaw : ∀ i, i < R.length → ManyLaw ds P N ops Q l lab0 w0 R O i)
  (htail : ∀ lab w a, Valid lab w → Stp (rgAll R) lab0 w0 lab w → Fr ds N l a → (∀ i, i < R.length → (∀ c, rgC R i = some c → R.length ≤ c) → LeftR R i lab w a) → wpList P ops Q (ops.toList.drop R.length) a w) :
  ∀ (fuel c : Nat) (listed : Array Bool) (lab : Lab) (a : Act) (w : World), listed.size = ops.size → c ≤ R.length → c + fuel = ops.size → ((List.range R.length).filter fun k => listed.getD k false).length = c → (∀ k, listed.getD k false = true → k < R.length) →
   (∀ j, listed.getD j false = true → ∀ k, waits ops j k = true → listed.getD k false = true) →
   Valid lab w → Stp (rgAll R) lab0 w0 lab w → (∀ i, i < R.length → listed.getD i false = false → Stp (oth O i) lab0 w0 lab w) → Fr ds N l a →
   (∀ i, i < R.length → listed.getD i false = true → (∀ c, rgC R i = some c → listed.getD c false = false) → LeftR R i lab w a) → wpAny P .any ops Q fuel listed a w := by
 have hfalse : ∀ {listed : Array Bool} {k : Nat}, ¬ listed.getD k false = true → listed.getD k false = false := fun {listed k} h => by
  cases hq : listed.getD k false with
  | false => rfl
  | true => exact absurd hq h
 intro fuel
 induction fuel with
 | zero =>
  intro c listed lab a w hs hc hf hcnt hlm hdn hv hst hsts hfr hleft
  have hmn : R.length = ops.size := by have := hok.le; omega
  have hall : ∀ k, k < R.length → listed.getD k false = true := by
   intro k hk
   have hlen : ((List.range R.length).filter fun k => listed.getD k false).length = (List.range R.length).length := by simp; simp at hcnt; omega
   have := List.length_filter_eq_length_iff.1 hlen k (List.mem_range.2 hk)
   simpa using this
  exact many_tail hok 0 R.length listed a w (Nat.le_refl _) hok.le (by omega) hs (fun k => ⟨hlm k, hall k⟩) (htail lab w a hv hst hfr (fun i hi hcs => hleft i hi (hall i hi) fun c hc => hfalse fun e => by have := hlm c e; have := hcs c hc; omega))
 | succ fuel ih =>
  intro c listed lab a w hs hc hf hcnt hlm hdn hv hst hsts hfr hleft
  by_cases hall : ∀ k, k < R.length → listed.getD k false = true
  ·have hcm : c = R.length := by
    rw [← hcnt, List.filter_eq_self.2 (fun k hk => by simpa using hall k (List.mem_range.1 hk))]; simp
   exact many_tail hok (fuel + 1) R.length listed a w (Nat.le_refl _) hok.le (by omega) hs (fun k => ⟨hlm k, hall k⟩) (htail lab w a hv hst hfr (fun i hi hcs => hleft i hi (hall i hi) fun c hc => hfalse fun e => by have := hlm c e; have := hcs c hc; omega))
  ·have hex : ∃ k, k < R.length ∧ ¬ listed.getD k false = true := by
    refine Classical.byContradiction fun hno => hall fun k hk => Classical.byContradiction fun hk' => hno ⟨k, hk, hk'⟩
   obtain ⟨k0, ⟨hk0, hk0'⟩, hmin⟩ := exists_least hex
   have hk0s : k0 < ops.size := Nat.lt_of_lt_of_le hk0 hok.le
   have hready : k0 ∈ Region.ready .any ops listed := by
    rw [mem_ready]
    refine ⟨by simpa [show k0 < listed.size by omega] using hk0', ops[k0], Array.getElem?_eq_getElem hk0s, fun e he hb => ?_⟩
    have hlt := hok.back k0 _ (Array.getElem?_eq_getElem hk0s) e he hb
    refine Classical.byContradiction fun hno => ?_
    have := hmin e.on ⟨by omega, hno⟩
    omega
   refine ⟨fun h0 => (by rw [h0] at hready; cases hready), fun i hi => ?_⟩
   obtain ⟨hi0, o, ho, hwait⟩ := mem_ready.1 hi
   have his : i < ops.size := (Array.getElem?_eq_some_iff.1 ho).1
   have him : i < R.length := by
    refine Classical.byContradiction fun hge => ?_
    by_cases hie : i = R.length
    ·subst hie
     have h1 := hok.atM o ho k0 hk0
     refine hk0' (closF_sound (L := fun k => listed.getD k false = true) hdn R.length _ (fun k hk => ?_) k0 h1)
     obtain ⟨e, he, hb, hon⟩ := (waits_edge ho).1 hk
     rw [← hon]; exact hwait e he hb
    ·obtain ⟨e, he, hb, hon⟩ := (waits_edge ho).1 (hok.chain i o (by omega) ho)
     have h1 := hlm _ (hwait e he hb)
     omega
   have hi0' : listed.getD i false = false := by simpa [show i < listed.size by omega] using hi0
   have hwi : ∀ j, waits ops i j = true → listed.getD j false = true := fun j hj => by
    obtain ⟨e, he, hb, hon⟩ := (waits_edge ho).1 hj
    rw [← hon]; exact hwait e he hb
   have hwaits : ∀ j, waits ops i j = true → (∀ c, rgC R j = some c → c = i ∨ waits ops c i = true) → LeftR R j lab w a := fun j hj hcs => by
    have hjl := hwi j hj
    refine hleft j (hlm j hjl) hjl fun c hc => ?_
    rcases hcs c hc with rfl | hci
    ·exact hi0'
    ·exact hfalse fun e => by have := hdn c e i hci; rw [hi0'] at this; cases this
   refine wpOp_mono ?_ (hlaw i him lab w a hv (hsts i him hi0') hfr hwaits)
   rintro a' w' ⟨lab', v, hput, hdN, hv', hst', hphi⟩
   obtain rfl := hput o ho
   replace hdN : ∀ d, o.dst = some d → d < N := fun d hd => hdN d (by simp [dstOf, ho, hd])
   have hfr' : Fr ds N l (a.put o.dst v) := by
    cases hd : o.dst with
    | none => exact hfr
    | some d =>
     refine ⟨hfr.defers, by simp [Act.put, hfr.size], fun t u hu => ?_⟩
     have hne : d ≠ t := fun e => by subst e; rw [hok.fresh i o d him ho hd] at hu; cases hu
     simp only [Act.put, Array.getElem?_setIfInBounds_ne hne]
     exact hfr.at_ t u hu
   refine ih (c + 1) _ lab' _ w' (by simp [hs]) ?_ (by omega) ?_ (fun k hk => by rw [getD_set_iff (by omega)] at hk; rcases hk with rfl | hk; exact him; exact hlm k hk) (fun j hj k hk => ?_) hv' ((hst.trans hst').more (fun d hd => by rcases List.mem_append.1 hd with h | h; exact h; exact rgU_all d h)) (fun j hj hjl => ?_) hfr' ?_
   ·have : ((List.range R.length).filter fun k => listed.getD k false).length < (List.range R.length).length := by
     refine Nat.lt_of_le_of_ne (List.length_filter_le _ _) fun e => ?_
     have := List.length_filter_eq_length_iff.1 e k0 (List.mem_range.2 hk0)
     exact hk0' (by simpa using this)
    rw [hcnt] at this; simp at this; omega
   ·have hcount : ∀ n, n ≤ R.length → ((List.range n).filter fun k => (listed.setIfInBounds i true).getD k false).length = ((List.range n).filter fun k => listed.getD k false).length + (if i < n then 1 else 0) := by
     intro n
     induction n with
     | zero => intro _; simp
     | succ n ihn =>
      intro hn
      rw [List.range_succ, List.filter_append, List.filter_append, List.length_append, List.length_append, ihn (by omega)]
      have h1 : (listed.setIfInBounds i true).getD n false = (if n = i then true else listed.getD n false) := by
       rw [Bool.eq_iff_iff, getD_set_iff (by omega)]
       split <;> simp_all
      by_cases hni : n = i
      ·subst hni
       simp only [List.filter_cons, h1, if_true, hi0', List.filter_nil, Bool.false_eq_true, if_false, List.length_cons, List.length_nil]
       rw [if_neg (by omega), if_pos (by omega)]
      ·rw [List.filter_cons, List.filter_cons, h1, if_neg hni]
       have h2 : (if i < n + 1 then 1 else 0) = (if i < n then 1 else 0) := by split <;> split <;> omega
       rw [h2]
       split <;> simp <;> omega
    rw [hcount R.length (Nat.le_refl _), if_pos him, hcnt]
   ·rw [getD_set_iff (by omega)] at hj ⊢
    rcases hj with rfl | hj
    ·exact .inr (hwi k hk)
    ·exact .inr (hdn j hj k hk)
   ·have hne : j ≠ i := fun e => by
     have := (getD_set_iff (l := listed) (i := i) (j := j) (by omega)).2 (.inl e)
     rw [hjl] at this; cases this
    have hj0 : listed.getD j false = false := hfalse fun e => by
     have := (getD_set_iff (l := listed) (i := i) (j := j) (by omega)).2 (.inr e)
     rw [hjl] at this; cases this
    exact ((hsts j hj hj0).trans hst').more (fun d hd => by rcases List.mem_append.1 hd with h | h; exact h; exact othOk_spec hO him hj hne.symm (fun hw => by have := hwi j hw; rw [hj0] at this; cases this) d h)
   ·intro j hj hlj hcs
    rw [getD_set_iff (by omega)] at hlj
    by_cases hji : j = i
    ·subst hji; exact hphi
    ·have hjl := hlj.resolve_left hji
     obtain ⟨u, hu, hpj⟩ := hleft j hj hjl fun c hc => hfalse fun e => by
      have := (getD_set_iff (l := listed) (i := i) (j := c) (by omega)).2 (.inr e)
      rw [hcs c hc] at this; cases this
     have hci : rgC R j ≠ some i := fun e => by
      have := hcs i e
      rw [(getD_set_iff (l := listed) (i := i) (j := i) (by omega)).2 (.inl rfl)] at this; cases this
     refine ⟨u, ?_, hper j i hj (fun e => hji e.symm) hci hst' hpj⟩
     cases hdi : o.dst with
     | none => exact hu
     | some di =>
      have hne : di ≠ rgS R j := fun e => by
       have := hdn j hjl i (hok.once i j o di him hj hji ho hdi e.symm)
       rw [hi0'] at this; cases this
      simp only [Act.put, Array.getElem?_setIfInBounds_ne hne]
      exact hu
theorem manyCore {R : List RG} {O : List (List Nat)} (hok : manyOk ops l R = true) (hO : othOk ops R O = true) (hv : Valid lab w)
  (hper : ∀ j i, j < R.length → i ≠ j → rgC R j ≠ some i → ∀ {lab w lab' w' v}, Stp (rgU R i) lab w lab' w' → rgP R j lab w v → rgP R j lab' w' v)
  (hlaw : ∀ w0, Stp [] lab w lab w0 → ∀ i, i < R.length → ManyLaw ds P N ops Q l lab w0 R O i)
  (htail : ∀ lab' w' a, Valid lab' w' → Stp (rgAll R) lab w lab' w' → Fr ds N l a → (∀ i, i < R.length → (∀ c, rgC R i = some c → R.length ≤ c) → LeftR R i lab' w' a) → wpList P ops Q (ops.toList.drop R.length) a w') :
  ∀ a, Fr ds N l a → wpAny P .any ops Q ops.size (Array.replicate ops.size false) a { w with drawn := w.drawn + 1 } := by
 intro a ha
 have h0 : ∀ k, (Array.replicate ops.size false).getD k false = false := fun k => by
  simp [Array.getElem?_replicate]
  split <;> simp
 have hst : Stp [] lab w lab { w with drawn := w.drawn + 1 } := Stp.drew lab w
 refine many_body (manyOk_spec hok) hO hper (hlaw _ hst) (fun lab' w' a hv' hs' hf' hl' => htail lab' w' a hv' (hst.trans hs') hf' hl') ops.size 0 _ lab a _ (by simp) (Nat.zero_le _) (by omega) ?_ (fun k hk => by rw [h0] at hk; cases hk) (fun k hk => by rw [h0] at hk; cases hk) (hv.below (Nat.le_refl _)) ((Stp.refl _ _).more (by simp)) (fun _ _ _ => (Stp.refl _ _).more (by simp)) ha (fun i _ hi => by rw [h0] at hi; cases hi)
 simp [h0]
def AskR (R : List RG) (lab : Lab) (w : World) (K : List (Nat × Value) → Prop) : List Nat → List (Nat × Value) → Prop
 | [], l => K l
 | j :: r, l => match rg R j with
  | some ⟨s, .ex u, _, _⟩ => AskR R lab w K r ((s, u) :: l)
  | some ⟨s, .v V, _, _⟩ => ∀ v, V lab w v → AskR R lab w K r ((s, v) :: l)
  | none => ∀ v, AskR R lab w K r ((0, v) :: l)
theorem AskR.elim {R : List RG} {lab : Lab} {w : World} {K : List (Nat × Value) → Prop} {a : Act} : ∀ {us : List Nat} {l : List (Nat × Value)}, AskR R lab w K us l → Fr ds N l a → (∀ j, j ∈ us → LeftR R j lab w a) → ∃ l', Fr ds N l' a ∧ K l'
 | [], l, h, hf, _ => ⟨l, hf, h⟩
 | j :: r, l, h, hf, hl => by
  obtain ⟨v, hv, hp⟩ := hl j (by simp)
  have hr : ∀ j, j ∈ r → LeftR R j lab w a := fun j hm => hl j (List.mem_cons_of_mem _ hm)
  unfold AskR at h
  unfold rgP at hp
  unfold rgS at hv
  split at h
  ·rename_i s u U c hn
   rw [hn] at hp hv
   have : v = u := hp
   subst this
   exact AskR.elim h (hf.ext hv) hr
  ·rename_i s V U c hn
   rw [hn] at hp hv
   exact AskR.elim (h v hp) (hf.ext hv) hr
  ·rename_i hn
   rw [hn] at hv
   exact AskR.elim (h v) (hf.ext hv) hr
def depOkR (ops : Array Oper) (R : List RG) (i : Nat) (deps : List Nat) : Bool := deps.all fun j => waits ops i j && (match rgC R j with | none => true | some c => Nat.beq c i || waits ops c i)
def usOkR (R : List RG) (us : List Nat) : Bool := us.all fun j => Nat.blt j R.length && (match rgC R j with | none => true | some c => Nat.ble R.length c)
theorem depR {R : List RG} {i : Nat} {deps : List Nat} (hdep : depOkR ops R i deps = true) {lab : Lab} {w : World} {a : Act} (hl : ∀ j, waits ops i j = true → (∀ c, rgC R j = some c → c = i ∨ waits ops c i = true) → LeftR R j lab w a) : ∀ j, j ∈ deps → LeftR R j lab w a := fun j hm => by
 have h1 := List.all_eq_true.1 hdep _ hm
 simp only [Bool.and_eq_true] at h1
 refine hl j h1.1 fun c hc => ?_
 have h2 := h1.2
 rw [hc] at h2
 simp only [Bool.or_eq_true] at h2
 exact h2.imp Nat.eq_of_beq_eq_true id
def OpR (ds : List Deferred) (P : Program) (N : Nat) (ops : Array Oper) (Q : Exit → Act → World → Prop) (l : List (Nat × Value)) (lab : Lab) (w : World) (R : List RG) (O : List (List Nat)) (i : Nat) : Prop := ∀ w0, Stp [] lab w lab w0 → ManyLaw ds P N ops Q l lab w0 R O i
def StayR (R : List RG) : Nat → List RG → Prop
 | _, [] => True
 | j, x :: r => (∀ i, i ≠ j → x.c ≠ some i → ∀ {lab : Lab} {w : World} {lab' : Lab} {w' : World} {v : Value}, Stp (rgU R i) lab w lab' w' → x.p.vp lab w v → x.p.vp lab' w' v) ∧ StayR R (j + 1) r
theorem stayR {R : List RG} : ∀ {R' : List RG} {k : Nat}, StayR R k R' → ∀ j i, j < R'.length → i ≠ k + j → rgC R' j ≠ some i → ∀ {lab w lab' w' v}, Stp (rgU R i) lab w lab' w' → rgP R' j lab w v → rgP R' j lab' w' v
 | [], k, _, j, i, hj, _, _, _, _, _, _, _, _, _ => absurd hj (by simp)
 | x :: r, k, h, 0, i, _, hi, hc, _, _, _, _, _, s, q => h.1 i hi hc s q
 | x :: r, k, h, j + 1, i, hj, hi, hc, _, _, _, _, _, s, q => stayR (R' := r) (k := k + 1) h.2 j i (by simpa using hj) (by omega) hc s q
theorem stay_ex {R : List RG} {j s : Nat} {u : Value} {U : List Nat} {c : Option Nat} : ∀ i, i ≠ j → (RG.mk s (.ex u) U c).c ≠ some i → ∀ {lab : Lab} {w : World} {lab' : Lab} {w' : World} {v : Value}, Stp (rgU R i) lab w lab' w' → (RG.mk s (.ex u) U c).p.vp lab w v → (RG.mk s (.ex u) U c).p.vp lab' w' v := fun _ _ _ _ _ _ _ _ _ q => q
theorem stay_v {R : List RG} {j s : Nat} {V : VP} [h : Per V] {U : List Nat} {c : Option Nat} : ∀ i, i ≠ j → (RG.mk s (.v V) U c).c ≠ some i → ∀ {lab : Lab} {w : World} {lab' : Lab} {w' : World} {v : Value}, Stp (rgU R i) lab w lab' w' → (RG.mk s (.v V) U c).p.vp lab w v → (RG.mk s (.v V) U c).p.vp lab' w' v := fun _ _ _ _ _ _ _ _ st q => h.p.step st q
def BoxV (k : Nat) (t : TypeId) (V : VP) : VP := fun lab w v => ∃ b u, v = .pointer (some ⟨b, 0, none⟩) ∧ Own lab w k b t (Value.cells u) ∧ V lab w u
def noneOf (R : List RG) (j : Nat) (c : Option Nat) (k : Nat) : Bool := (List.range R.length).all fun i => Nat.beq i j || (match c with | some c => Nat.beq c i | none => false) || !((rgU R i).contains k)
theorem noneOf_spec {R : List RG} {j : Nat} {c : Option Nat} {k : Nat} (h : noneOf R j c k = true) (i : Nat) (hi : i ≠ j) (hc : c ≠ some i) : k ∉ rgU R i := by
 intro hk
 have hil : i < R.length := by
  refine Classical.byContradiction fun hge => ?_
  have : ∀ {R : List RG} {i : Nat}, R.length ≤ i → rg R i = none := by
   intro R
   induction R with
   | nil => intro i _; rfl
   | cons x r ih =>
    intro i h
    cases i with
    | zero => simp at h
    | succ i => simp only [rg]; exact ih (by simpa using h)
  unfold rgU at hk
  rw [this (by omega)] at hk
  cases hk
 have := List.all_eq_true.1 h i (List.mem_range.2 hil)
 rw [Bool.or_eq_true, Bool.or_eq_true] at this
 rcases this with (h1 | h1) | h1
 ·exact hi (Nat.eq_of_beq_eq_true h1)
 ·cases c with
  | none => cases h1
  | some c => exact hc (by rw [Nat.eq_of_beq_eq_true h1])
 ·simp at h1; exact h1 hk
theorem stay_box {R : List RG} {j s k : Nat} {t : TypeId} {V : VP} [h : Per V] {U : List Nat} {c : Option Nat} (hn : noneOf R j c k = true) : ∀ i, i ≠ j → (RG.mk s (.v (BoxV k t V)) U c).c ≠ some i → ∀ {lab : Lab} {w : World} {lab' : Lab} {w' : World} {v : Value}, Stp (rgU R i) lab w lab' w' → (RG.mk s (.v (BoxV k t V)) U c).p.vp lab w v → (RG.mk s (.v (BoxV k t V)) U c).p.vp lab' w' v :=
 fun i hi hc _ _ _ _ _ st ⟨b, u, h1, h2, h3⟩ => ⟨b, u, h1, h2.lift st (noneOf_spec hn i hi hc), h.p.step st h3⟩
theorem stay_app {R : List RG} {j s k n : Nat} {t : TypeId} {cs : List Value} {U : List Nat} {c : Option Nat} (hn : noneOf R j c k = true) : ∀ i, i ≠ j → (RG.mk s (.v (AppF k t n cs)) U c).c ≠ some i → ∀ {lab : Lab} {w : World} {lab' : Lab} {w' : World} {v : Value}, Stp (rgU R i) lab w lab' w' → (RG.mk s (.v (AppF k t n cs)) U c).p.vp lab w v → (RG.mk s (.v (AppF k t n cs)) U c).p.vp lab' w' v :=
 fun i hi hc _ _ _ _ _ st h => App.lift h st (noneOf_spec hn i hi hc)
theorem runManyCore (R : List RG) (us : List Nat) (O : List (List Nat)) (hok : manyOk ops l R = true) (hO : othOk ops R O = true) (hus : usOkR R us = true) (hv : Valid lab w) (hper : StayR R 0 R)
  (hlaw : LawsFrom (fun i => OpR ds P N ops Q l lab w R O i) 0 R.length)
  (htail : ∀ lab' w', Valid lab' w' → Stp (rgAll R) lab w lab' w' → AskR R lab' w' (fun l' => Seq ds P N ops Q l' (ops.toList.drop R.length) w') us l) : ∀ a, Fr ds N l a → wpAny P .any ops Q ops.size (Array.replicate ops.size false) a { w with drawn := w.drawn + 1 } := fun a ha =>
 manyCore hok hO hv (fun j i hj hi hc {_ _ _ _ _} st q => stayR hper j i hj (by omega) hc st q) (fun w0 s0 i hi => laws hlaw i hi w0 s0) (fun lab' w' a hv' s hf hl => by
  obtain ⟨l', hf', hK⟩ := AskR.elim (htail lab' w' hv' s) hf fun j hm => by
   have h1 := List.all_eq_true.1 hus _ hm
   simp only [Bool.and_eq_true] at h1
   refine hl j (Nat.le_of_ble_eq_true h1.1) fun c hc => ?_
   have h2 := h1.2
   rw [hc] at h2
   exact Nat.le_of_ble_eq_true h2
  exact hK a hf') a ha
theorem Run.many {id : Nat} (R : List RG) (us : List Nat) (O : List (List Nat)) (hm : P.follows .mixedOrders = true) (hok : manyOk ops l R = true) (hO : othOk ops R O = true) (hus : usOkR R us = true) (hv : Valid lab w) (hper : StayR R 0 R)
  (hlaw : LawsFrom (fun i => OpR ds P N ops Q l lab w R O i) 0 R.length)
  (htail : ∀ lab' w', Valid lab' w' → Stp (rgAll R) lab w lab' w' → AskR R lab' w' (fun l' => Seq ds P N ops Q l' (ops.toList.drop R.length) w') us l) : Run ds P N Q (.region id ops true) l w := fun a ha => wp_region_any hm (runManyCore R us O hok hO hus hv hper hlaw htail a ha)
variable {R : List RG} {O : List (List Nat)} {i d : Nat} {op : Op} {ty : TypeId} {pos : String} {af : Array Edge}
theorem leftR_put {x : RG} (hx : rg R i = some x) {lab' : Lab} {w' : World} {a : Act} {v : Value} (hs : x.s = d) (hd : d < N) (ha : Fr ds N l a) (hp : x.p.vp lab' w' v) : LeftR R i lab' w' (a.put (some d) v) :=
 ⟨v, by unfold rgS; rw [hx]; show (a.tmps.setIfInBounds d v)[x.s]? = _; rw [hs]; have := ha.size; simp [this, hd], by unfold rgP; rw [hx]; exact hp⟩
theorem rN (deps : List Nat) {x : RG} (ho : ops[i]? = some ⟨some d, op, ty, pos, af, none⟩) (hdep : depOkR ops R i deps = true) (hx : rg R i = some x) (hs : x.s = d)
  (h : ∀ lab' w', Valid lab' w' → Stp (oth O i) lab w lab' w' → AskR R lab' w' (fun l' => ∃ v lab2 w2, Does P l' op ty w' v w2 ∧ Valid lab2 w2 ∧ Stp x.U lab' w' lab2 w2 ∧ x.p.vp lab2 w2 v) deps l) (hd : d < N := by decide) : OpR ds P N ops Q l lab w R O i := fun w0 s0 lab' w' a hv st hf hl => by
 obtain ⟨l', hf', v, lab2, w2, h1, h2, h3, h4⟩ := AskR.elim (h lab' w' hv ((s0.trans st).more (by simp))) hf (depR hdep hl)
 unfold wpOp
 simp only [ho]
 rw [if_pos (by simp [Region.wanted])]
 refine .inl ?_
 unfold Oper.wp
 rw [h1 a.eval (fun x u hu => hf'.eval hu)]
 exact ⟨lab2, v, fun o h => by cases h; rfl, fun d' h => by simp [dstOf, ho] at h; subst h; exact hd, h2, by unfold rgU; rw [hx]; exact h3, leftR_put hx hs hd hf h4⟩
theorem rP (deps : List Nat) {x : RG} (ho : ops[i]? = some ⟨some d, op, ty, pos, af, none⟩) (hdep : depOkR ops R i deps = true) (hx : rg R i = some x) (hs : x.s = d)
  (h : ∀ lab' w', Valid lab' w' → Stp (oth O i) lab w lab' w' → AskR R lab' w' (fun l' => ∃ v, Does P l' op ty w' v w' ∧ x.p.vp lab' w' v) deps l) (hd : d < N := by decide) : OpR ds P N ops Q l lab w R O i := fun w0 s0 lab' w' a hv st hf hl => by
 obtain ⟨l', hf', v, h1, h4⟩ := AskR.elim (h lab' w' hv ((s0.trans st).more (by simp))) hf (depR hdep hl)
 unfold wpOp
 simp only [ho]
 rw [if_pos (by simp [Region.wanted])]
 refine .inl ?_
 unfold Oper.wp
 rw [h1 a.eval (fun x u hu => hf'.eval hu)]
 exact ⟨lab', v, fun o h => by cases h; rfl, fun d' h => by simp [dstOf, ho] at h; subst h; exact hd, hv, (Stp.refl _ _).more (by simp), leftR_put hx hs hd hf h4⟩
theorem rX (deps : List Nat) {s : Nat} {u : Value} {U : List Nat} {c : Option Nat} (ho : ops[i]? = some ⟨some d, op, ty, pos, af, none⟩) (hdep : depOkR ops R i deps = true) (hx : rg R i = some ⟨s, .ex u, U, c⟩) (hs : s = d)
  (h : ∀ lab' w', AskR R lab' w' (fun l' => Does P l' op ty w' u w') deps l) (hd : d < N := by decide) : OpR ds P N ops Q l lab w R O i := fun w0 s0 lab' w' a hv st hf hl => by
 obtain ⟨l', hf', h1⟩ := AskR.elim (h lab' w') hf (depR hdep hl)
 unfold wpOp
 simp only [ho]
 rw [if_pos (by simp [Region.wanted])]
 refine .inl ?_
 unfold Oper.wp
 rw [h1 a.eval (fun x u hu => hf'.eval hu)]
 exact ⟨lab', u, fun o h => by cases h; rfl, fun d' h => by simp [dstOf, ho] at h; subst h; exact hd, hv, (Stp.refl _ _).more (by simp), leftR_put (x := ⟨s, .ex u, U, c⟩) hx hs hd hf rfl⟩
theorem rC {f : Nat} {xs : List Operand} {tys : Array TypeId} (deps : List Nat) {x : RG} (ho : ops[i]? = some ⟨some d, .call ⟨.value (.func f), xs.toArray, tys⟩, ty, pos, af, none⟩) (hdep : depOkR ops R i deps = true) (hx : rg R i = some x) (hs : x.s = d) (hfc : Callable P f)
  (h : ∀ lab' w', Valid lab' w' → Stp (oth O i) lab w lab' w' → AskR R lab' w' (fun l' => ∃ vs, evs l' xs = some vs ∧ Calls P f vs.toArray w' (fun e w2 => ∃ v, e = .returned v ∧ x.p.vp lab' w2 v ∧ Below w'.heap.size w' w2)) deps l) (hd : d < N := by decide) : OpR ds P N ops Q l lab w R O i := fun w0 s0 lab' w' a hv st hf hl => by
 obtain ⟨l', hf', vs, h1, h4⟩ := AskR.elim (h lab' w' hv ((s0.trans st).more (by simp))) hf (depR hdep hl)
 unfold wpOp
 simp only [ho]
 rw [if_pos (by simp [Region.wanted])]
 refine .inl ?_
 unfold Oper.wp
 rw [run_call hfc h1 w' a.eval (fun x u hu => hf'.eval hu)]
 refine Calls.mono h4 ?_
 rintro e w2 ⟨v, rfl, hphi, hb⟩
 exact ⟨lab', v, fun o h => by cases h; rfl, fun d' h => by simp [dstOf, ho] at h; subst h; exact hd, hv.below hb.size, (Stp.below hb).more (by simp), leftR_put hx hs hd hf hphi⟩
theorem rS (deps : List Nat) {x : RG} (ho : ops[i]? = some ⟨none, op, ty, pos, af, none⟩) (hdep : depOkR ops R i deps = true) (hx : rg R i = some x)
  (h : ∀ lab' w', Valid lab' w' → Stp (oth O i) lab w lab' w' → AskR R lab' w' (fun l' => ∃ v w2, DoesU P l' op ty w' w2 ∧ Valid lab' w2 ∧ Stp x.U lab' w' lab' w2 ∧ ev l' (.tmp x.s) = some v ∧ x.p.vp lab' w2 v) deps l) : OpR ds P N ops Q l lab w R O i := fun w0 s0 lab' w' a hv st hf hl => by
 obtain ⟨l', hf', v, w2, h1, h2, h3, h4, h5⟩ := AskR.elim (h lab' w' hv ((s0.trans st).more (by simp))) hf (depR hdep hl)
 unfold wpOp
 simp only [ho]
 rw [if_pos (by simp [Region.wanted])]
 refine .inl ?_
 unfold Oper.wp
 rw [h1 a.eval (fun x u hu => hf'.eval hu)]
 exact ⟨lab', undef, fun o h => by cases h; rfl, fun d' h => by simp [dstOf, ho] at h, h2, by unfold rgU; rw [hx]; exact h3, v, by unfold rgS; rw [hx]; exact hf'.at_ _ _ h4, by unfold rgP; rw [hx]; exact h5⟩
theorem store_lawR {k b o : Nat} {t t' : TypeId} {x y : Operand} {v : Value} {ag : Bool} {n by_ : Nat} {z : Option Value} {arr : Array Value} (arr' : List Value) (hv : Valid lab w) (hO : Own lab w k b t' arr) (ht : tyRow P t = some (ag, n, z, by_)) (hx : ev l x = some (.pointer (some ⟨b, o, none⟩))) (hy : ev l y = some v)
  (hn : v.cells.size = n) (ho : o + n ≤ arr.size) (h1 : v.cells.toList.all (·.oneCell') = true) (ha : (arr.toList.take o ++ v.cells.toList ++ arr.toList.drop (o + n)).toArray = arr'.toArray) : ∃ w2, DoesU P l (.store t x y) ty w w2 ∧ Valid lab w2 ∧ Stp [k] lab w lab w2 ∧ Own lab w2 k b t' arr'.toArray :=
 ⟨_, Does.store arr'.toArray hO ht hx hy hn ho h1 ha, hv.set _ _, Stp.set hO.1 _, hO.set _⟩
theorem store_goR {s k b o : Nat} {t t' : TypeId} {y : Operand} {v : Value} {ag : Bool} {n by_ : Nat} {z : Option Value} {arr : Array Value} {V : VP} (arr' : List Value) (hv : Valid lab w) (hO : Own lab w k b t' arr) (ht : tyRow P t = some (ag, n, z, by_)) (hx : ev l (.tmp s) = some (.pointer (some ⟨b, o, none⟩))) (hy : ev l y = some v)
  (hn : v.cells.size = n) (ho : o + n ≤ arr.size) (h1 : v.cells.toList.all (·.oneCell') = true) (ha : (arr.toList.take o ++ v.cells.toList ++ arr.toList.drop (o + n)).toArray = arr'.toArray)
  (hk : ∀ w2, Stp [k] lab w lab w2 → Own lab w2 k b t' arr'.toArray → V lab w2 (.pointer (some ⟨b, o, none⟩))) : ∃ u w2, DoesU P l (.store t (.tmp s) y) ty w w2 ∧ Valid lab w2 ∧ Stp [k] lab w lab w2 ∧ ev l (.tmp s) = some u ∧ V lab w2 u := by
 obtain ⟨w2, h1', h2', h3', h4'⟩ := store_lawR (P := P) (ty := ty) arr' hv hO ht hx hy hn ho h1 ha
 exact ⟨_, w2, h1', h2', h3', hx, hk w2 h3' h4'⟩
def BoxB (b k : Nat) (t : TypeId) (V : VP) : VP := fun lab w v => ∃ u, v = .pointer (some ⟨b, 0, none⟩) ∧ Own lab w k b t (Value.cells u) ∧ V lab w u
theorem stay_boxB {R : List RG} {j s k b : Nat} {t : TypeId} {V : VP} [h : Per V] {U : List Nat} {c : Option Nat} (hn : noneOf R j c k = true) : ∀ i, i ≠ j → (RG.mk s (.v (BoxB b k t V)) U c).c ≠ some i → ∀ {lab : Lab} {w : World} {lab' : Lab} {w' : World} {v : Value}, Stp (rgU R i) lab w lab' w' → (RG.mk s (.v (BoxB b k t V)) U c).p.vp lab w v → (RG.mk s (.v (BoxB b k t V)) U c).p.vp lab' w' v :=
 fun i hi hc _ _ _ _ _ st ⟨u, h1, h2, h3⟩ => ⟨u, h1, h2.lift st (noneOf_spec hn i hi hc), h.p.step st h3⟩
end
end Go.Proofs.Ytgfomedobfaidaa
end
section
set_option linter.unusedVariables false
set_option linter.unusedSimpArgs false
namespace Go.Proofs.Ytgfomedobfaidaa
open Go.RowKit Go.Shelf
section
variable {l n : Nat} {P : Program} {Q : Exit → Act → World → Prop} {ops : Array Oper}
theorem rows_round {row : String} {args : Array Value} {w : World} {R : Value → World → Prop} (h : Rows P row args w R) : RowsIn (Fence.wide.inRound l) n P row args w R := fun c cs _ =>
 let ⟨v, w', r, s⟩ := h c cs
 ⟨v, w', r, stepsIn_wide.2 s⟩
theorem op_round {o : Oper} {a : Act} {w : World} {K : Act → World → Prop} (hd : ∀ c, o.op ≠ .defer c) (h : o.wp P a w K Q) : o.wpIn (Fence.wide.inRound l) n P a w K Q := by
 refine ⟨fun f _ => trivial, ?_⟩
 show o.uponIn (Fence.wide.inRound l) n P a K Q ((o.semAt (some l) a.eval).run P w)
 rw [Oper.semAt_some l _ _ hd]
 unfold Oper.wp at h
 generalize (execOp a.eval o).run P w = r at h ⊢
 cases r with
 | ok nx w' =>
  cases nx with
  | value v => exact h
  | skip => exact h
  | defer d => exact h
  | enter f args => exact ⟨fun hh => absurd hh (by simp [Fence.wide]), (callsIn_wide (n := n - 1)).2 h⟩
  | row r args => exact ⟨fun hh => absurd hh (by simp [Fence.wide]), rows_round h⟩
  | round _ _ _ _ _ => exact h.elim
  | _ => exact h.elim
 | halt x w' =>
  cases x <;> first | exact h | exact h.elim
def calm (ops : List Oper) : Bool := ops.all fun o => match o.op with
 | .defer _ => false
 | _ => true
theorem calm_op {o : Oper} {os : List Oper} (h : calm os = true) (ho : o ∈ os) : ∀ c, o.op ≠ .defer c := fun c e => by
 have := List.all_eq_true.1 h o ho
 rw [e] at this; cases this
theorem list_round (hlo : ¬ LetsOut Q) : ∀ {rest : List Oper} {a : Act} {w : World}, calm rest = true → wpList P ops Q rest a w → wpListIn (Fence.wide.inRound l) n P ops Q rest a w
 | [], a, w, _, h => h
 | o :: rest, a, w, hc, h => by
  have hc' : calm rest = true := by
   unfold calm at hc ⊢; rw [List.all_cons, Bool.and_eq_true] at hc; exact hc.2
  unfold wpList at h
  unfold wpListIn
  split
  ·rename_i hw
   rw [if_pos hw] at h
   exact op_round (calm_op hc (by simp)) (Oper.wp_mono (fun a w h => list_round hlo hc' h) (h.resolve_right fun e => hlo e.2))
  ·rename_i hw
   rw [if_neg hw] at h
   exact ⟨fun f _ => trivial, list_round hlo hc' h⟩
theorem any_round (hlo : ¬ LetsOut Q) (hc : calm ops.toList = true) : ∀ {fuel : Nat} {listed : Array Bool} {a : Act} {w : World}, wpAny P .any ops Q fuel listed a w → wpAnyIn (Fence.wide.inRound l) n P .any ops Q fuel listed a w
 | 0, listed, a, w, h => h
 | fuel + 1, listed, a, w, h => by
  refine ⟨h.1, fun i hi => ?_⟩
  have := h.2 i hi
  unfold wpOp at this
  unfold wpOpIn
  split
  ·rename_i ho
   rw [ho] at this
   exact any_round hlo hc this
  ·rename_i o ho
   rw [ho] at this
   dsimp only at this
   split
   ·rename_i hw
    rw [if_pos hw] at this
    exact op_round (calm_op hc (by rw [Array.mem_toList_iff]; exact Array.mem_of_getElem? ho)) (Oper.wp_mono (fun a w h => any_round hlo hc h) (this.resolve_right fun e => hlo e.2))
   ·rename_i hw
    rw [if_neg hw] at this
    exact ⟨fun f _ => trivial, any_round hlo hc this⟩
end
def RunR (l : Nat) (P : Program) (N : Nat) (Q : Exit → Act → World → Prop) (c : Code) (lst : List (Nat × Value)) (w : World) : Prop := ∀ a, Fr [] N lst a → c.wpIn (Fence.wide.inRound l) 1 P Q a w
section
variable {l : Nat} {P : Program} {N : Nat} {Q : Exit → Act → World → Prop} {lst : List (Nat × Value)} {w : World} {lab : Lab} {ops : Array Oper}
theorem RunR.seq {x y : Code} (h : RunR l P N (Exit.then (y.wpIn (Fence.wide.inRound l) 1 P Q) Q) x lst w) : RunR l P N Q (.seq x y) lst w := fun a ha => wpIn_seq (h a ha)
theorem RunR.block {id : Nat} {c : Code} (h : RunR l P N (Exit.inBlock id Q) c lst w) : RunR l P N Q (.block id c) lst w := fun a ha => wpIn_block (h a ha)
theorem RunR.region {id : Nat} {os : List Oper} (hlo : ¬ LetsOut Q) (hc : calm os = true) (h : Seq [] P N os.toArray Q lst os w) : RunR l P N Q (.region id os.toArray false) lst w := fun a ha => wpIn_region_lit (list_round hlo hc (h a ha))
theorem RunR.next {y : Code} (h : RunR l P N Q y lst w) : Seq [] P N ops (Exit.then (y.wpIn (Fence.wide.inRound l) 1 P Q) Q) lst [] w := Seq.nil fun a ha => h a ha
theorem RunR.open {id : Nat} (m : Nat) {Φ : List PV} (us : List (Nat × Nat)) (hlo : ¬ LetsOut Q) (hc : calm ops.toList = true) (hm : P.follows .mixedOrders = true) (hok : bodyOk ops m lst = true) (hus : usOk ops m us = true) (hv : Valid lab w) [hper : PerL [] Φ]
  (hlaw : LawsFrom (fun i => OpL [] P N ops Q lst lab w Φ [] [] i) 0 m)
  (htail : ∀ lab' w', Valid lab' w' → Stp [] lab w lab' w' → Ask Φ lab' w' (fun l' => Seq [] P N ops Q l' (ops.toList.drop m) w') us lst) : RunR l P N Q (.region id ops true) lst w := fun a ha =>
 wpIn_region_any hm (any_round hlo hc (openCore m us hok hus hv hlaw htail a ha))
end
theorem RunR.many {l : Nat} {P : Program} {N : Nat} {Q : Exit → Act → World → Prop} {lst : List (Nat × Value)} {w : World} {lab : Lab} {ops : Array Oper} {id : Nat} (R : List RG) (us : List Nat) (O : List (List Nat)) (hlo : ¬ LetsOut Q) (hc : calm ops.toList = true) (hm : P.follows .mixedOrders = true) (hok : manyOk ops lst R = true) (hO : othOk ops R O = true) (hus : usOkR R us = true) (hv : Valid lab w) (hper : StayR R 0 R)
  (hlaw : LawsFrom (fun i => OpR [] P N ops Q lst lab w R O i) 0 R.length)
  (htail : ∀ lab' w', Valid lab' w' → Stp (rgAll R) lab w lab' w' → AskR R lab' w' (fun l' => Seq [] P N ops Q l' (ops.toList.drop R.length) w') us lst) : RunR l P N Q (.region id ops true) lst w := fun a ha =>
 wpIn_region_any hm (any_round hlo hc (runManyCore R us O hok hO hus hv hper hlaw htail a ha))
def markD (D : Nat) : Deferred := { target := .collected D, args := #[] }
def MarkO (lab : Lab) (w : World) (D : Nat) : Prop := lab D = some 998 ∧ w.heap[D]? = some (.deferred (some []))
theorem MarkO.up {T : List Nat} {lab lab' : Lab} {w w' : World} {D : Nat} (h : MarkO lab w D) (s : Stp T lab w lab' w') (hd : (998 : Nat) ∉ T := by decide) : MarkO lab' w' D := by
 obtain ⟨h1, h2⟩ := s.own D 998 (block_lt h.2) h.1 hd
 exact ⟨h1, h2.trans h.2⟩
theorem MarkO.take {P : Program} {lab : Lab} {w : World} {D : Nat} (h : MarkO lab w D) (hv : Valid lab w) : ∃ w', (Instr.takeDeferred D).run P w = .ok [] w' ∧ Stp [998] lab w lab w' ∧ Valid lab w' := by
 refine ⟨_, run_takeDeferred h.2, ⟨rfl, rfl, rfl, by simp, fun k hk e => ⟨e, World.putObj_heap_other (fun e' => by subst e'; rw [h.1] at e; cases e)⟩, fun k d hk e hd => ⟨e, World.putObj_heap_other (fun e' => by subst e'; rw [h.1] at e; cases e; simp at hd)⟩⟩, hv.below (by simp)⟩
theorem calls_run_marks {P : Program} {N : Nat} {f : FuncId} {fn : Func} {c : Code} {args : List Value} {w : World} {R : Ending → World → Prop} (hf : P.funcs[f]? = some fn) (hb : fn.body = some c) (hn : fn.ntmps = N) (ha : args.length ≤ N)
  (h : Run [] P N (bodyPostM Fence.wide 3 P fn R) c (idx 0 args) w) : Calls P f args.toArray w R := by
 refine (callsIn_wide (n := 3)).1 (callsIn_of_wp_marks hf hb trivial (wpIn_wide.2 (h _ ⟨rfl, ?_, fun t v ht => ?_⟩)) rfl)
 ·simp [hn]; omega
 ·obtain ⟨_, h1⟩ := lk_idx args 0 t v ht
  have hlt : t < args.length := (List.getElem?_eq_some_iff.1 h1).1
  show (args.toArray ++ Array.replicate _ undef)[t]? = some v
  rw [Array.getElem?_append_left (by simpa using hlt)]
  simpa using h1
theorem post_two_M {P : Program} {N n : Nat} {fn : Func} {R : Ending → World → Prop} {l : List (Nat × Value)} {w w' : World} {D : Nat} {r s : ResultVar} {v u : Value} (ht : (Instr.takeDeferred D).run P w = .ok [] w') (hr : fn.results = #[r, s]) (h : resAt P l w' r v) (h' : resAt P l w' s u) (hR : R (.returned (.tuple #[v, u])) w') : ∀ a, Fr [markD D] N l a → bodyPostM Fence.wide n P fn R .ret a w := by
 intro a ha
 show LeavesInM _ _ _ _ _ _ a.defers _ _
 rw [ha.defers]
 refine ⟨by simp, .inl ⟨D, w', rfl, ht, ?_⟩⟩
 refine ⟨.tuple #[v, u], ?_, hR⟩
 rw [results_resF, hr]
 simp only [Sem.run_bind, mapM_two (run_resAt ha h) (run_resAt ha h'), Result.andThen_ok]
 rfl
theorem own_grown {lab : Lab} {W W' : World} {row : Option Nat} {d b : Nat} {t : TypeId} {arr : Array Value} (h : Own lab W d b t arr) (hg : W.grownBy W' row) (hr : ∀ r, row = some r → ∃ o : Obj, W.heap[r]? = some o ∧ o.isCells = false) : Own lab W' d b t arr :=
 ⟨h.1, (hg.block b (block_lt h.2) (fun e => by obtain ⟨o, ho, hc⟩ := hr b e.symm; rw [h.2] at ho; cases ho; cases hc)).trans h.2⟩
theorem stp_ownFrom {β : Type} {lab : Lab} {w : World} (hv : Valid lab w) (T : List Nat) : OwnFrom w.heap.size (fun (_ : β) W => Stp T lab w lab W) := fun s W W' row hs hg hr =>
 ⟨hg.os.trans hs.os, hg.tape.trans hs.tape, hg.output.trans hs.output, Nat.le_trans hs.size hg.size, fun k hk e => ⟨e, (hg.block k (Nat.lt_of_lt_of_le hk hs.size) (fun e' => by have := (hr k e'.symm).1; omega)).trans (hs.free k hk e).2⟩,
  fun k d hk e hd => ⟨e, (hg.block k (Nat.lt_of_lt_of_le hk hs.size) (fun e' => by have := (hr k e'.symm).1; omega)).trans (hs.own k d hk e hd).2⟩⟩
theorem Stp.relab {T : List Nat} {lab lab' : Lab} {w w' : World} (s : Stp T lab w lab' w') : Stp T lab w lab w' := ⟨s.os, s.tape, s.output, s.size, fun k hk e => ⟨e, (s.free k hk e).2⟩, fun k d hk e hd => ⟨e, (s.own k d hk e hd).2⟩⟩
theorem getD_set_self {a : Array Value} {i : Nat} {v : Value} (h : i < a.size) : (a.setIfInBounds i v)[i]? = some v := by simp [h]
theorem assign_round {P : Program} {l n : Nat} {a : Act} {w : World} {K : Act → World → Prop} {Q0 : Exit → Act → World → Prop} {q p r : Nat} {ty : TypeId} {pos : String} {v : Value} (hlo : ¬ LetsOut Q0) (hv : a.eval (.tmp p) = v) (h : K (a.put (some q) v) w) :
  (Code.region r #[⟨some q, .assign (.tmp p), ty, pos, #[], none⟩] false).wpIn (Fence.wide.inRound l) n P (Exit.then K Q0) a w := by
 have hlo2 : ¬ LetsOut (Exit.then K Q0) := fun ⟨a, w, h⟩ => hlo ⟨a, w, h⟩
 refine wpIn_region_lit (l := [_]) (list_round hlo2 rfl ?_)
 unfold wpList
 rw [if_pos (by simp [Region.wanted])]
 refine .inl ?_
 unfold Oper.wp
 have d1 : (execOp a.eval ⟨some q, .assign (.tmp p), ty, pos, #[], none⟩).run P w = .ok (.value v) w := by simp [execOp, hv]
 rw [d1]
 exact h
theorem eval_at {a : Act} {p : Nat} {v : Value} (h : a.tmps[p]? = some v) : a.eval (.tmp p) = v := by simp [Act.eval, Array.getD_eq_getD_getElem?, h]
theorem set_ne {a : Array Value} {i j : Nat} {v : Value} (h : i ≠ j) : (a.setIfInBounds i v)[j]? = a[j]? := Array.getElem?_setIfInBounds_ne h
theorem Run.backward {N : Nat} {Q : Exit → Act → World → Prop} {lst : List (Nat × Value)} {w : World} {lab : Lab} (hv : Valid lab w) (T : List Nat) {A : Option Addr} {c : Nat} (zs : List UInt32) (hcz : zs.length ≤ 9223372036854775807) (hzs : RowAt lab w A (zs.map u32))
  {Bs dB : Nat} {tB : TypeId} (hB : Own lab w dB Bs tB #[.slice A zs.length c]) (hdB : dB ∉ T) {tg p1 p2 q1 q2 r1 r2 : Nat} {ty1 ty2 : TypeId} {pos1 pos2 : String} {body : Code}
  (hg : lk lst tg = some (.func (.func 154) #[] #[.pointer (some ⟨Bs, 0, none⟩)])) (hfr : lk lst p1 = none ∧ lk lst p2 = none ∧ lk lst q1 = none ∧ lk lst q2 = none) (hN : p1 < N ∧ p2 < N ∧ q1 < N ∧ q2 < N) (hne : p1 ≠ p2 ∧ p1 ≠ q1 ∧ p1 ≠ q2 ∧ p2 ≠ q1 ∧ p2 ≠ q2 ∧ q1 ≠ q2)
  (J : List (Fin zs.length) → World → Prop) (hJ : OwnFrom w.heap.size J) (h0 : J [] w)
  (hround : ∀ l pre (x : Fin zs.length) W, Valid lab W → Stp T lab w lab W → J pre W → RunR l Try.prog N (fun e a' W' => match e with | .normal => Stp T lab W lab W' ∧ J (pre ++ [x]) W' | _ => False) body ((q2, u32 zs[x.val]) :: (q1, i64 (x.val : Int)) :: lst) W)
  (hdone : ∀ D lab' W, lab' = (fun k => if k = D then some 998 else lab k) → Valid lab' W → Stp T lab w lab' W → J (bk zs.length zs.length) W → w.heap.size ≤ D → MarkO lab' W D → ∀ a, Fr [markD D] N lst a → Q .normal a W) :
  Run [] Try.prog N Q (.rangeFunc (.tmp tg) #[p1, p2] (.seq (.region r1 #[⟨some q1, .assign (.tmp p1), ty1, pos1, #[], none⟩] false) (.region r2 #[⟨some q2, .assign (.tmp p2), ty2, pos2, #[], none⟩] false)) body) lst w := by
 intro a ha
 refine (wpIn_wide (n := 3)).1 ?_
 have hBl : Bs < w.heap.size := block_lt hB.2
 obtain ⟨b, hbW, hbn, hseq⟩ : ∃ b, b < w.heap.size ∧ (zs ≠ [] → lab b = none) ∧ SeqStopsK Fence.wide (3 - 1) Try.prog 154 #[.pointer (some ⟨Bs, 0, none⟩)] (encB zs) (KB Bs b) (fun ys => ys = bk zs.length zs.length) (fun pre => ∃ k, k ≤ zs.length ∧ pre = bk zs.length k) zs.length w := by
  have cN : w.cell? ⟨Bs, 0, none⟩ = some (.slice A zs.length c) := by rw [hB.cell]; rfl
  rcases hzs with h0 | ⟨b, o, arr, t, fr, hA, hl, hh, hcell⟩
  ·have hz : zs = [] := by simpa using h0
   exact ⟨Bs, hBl, fun h => absurd hz h, back_stops0 Fence.wide (3 - 1) trivial rfl _ _ A c zs hz w hBl (by rw [cN, hz]; rfl)⟩
  ·have hbl : b < w.heap.size := block_lt hh
   subst hA
   exact ⟨b, hbl, fun _ => hl, back_stops Fence.wide (3 - 1) trivial rfl (by omega) _ b o c zs hcz w hBl hbl cN fun j hj => by
    rw [cell_of_row w b _ arr t fr hh]
    exact hcell j _ (by simp [hj])⟩
 refine wpIn_rangeFunc_ownG (F := Fence.wide) (n := 3) rfl (by omega) (gf := 154) (lb := #[.pointer (some ⟨Bs, 0, none⟩)]) (ha.eval (x := .tmp tg) hg) trivial (enters_of Try.func154 (by kernel_rfl) rfl)
  hseq KB.trans (KB.put hBl hbW) (Below.refl _ _) (fun _ => rfl)
  (fun pre W => J pre W ∧ Stp T lab w lab W) (fun _ _ _ => False) (OwnFrom.and hJ (stp_ownFrom hv T)) (fun _ _ _ _ _ hs _ _ => hs) ⟨h0, (Stp.refl lab w).more (by simp)⟩
  (fun x => { tmps := (((a.tmps.setIfInBounds p1 (i64 (x.val : Int))).setIfInBounds p2 (u32 zs[x.val])).setIfInBounds q1 (i64 (x.val : Int))).setIfInBounds q2 (u32 zs[x.val]), defers := [] }) ?assign ?body ?done ?stop
 case assign =>
  intro l x W K hK
  have hz : (#[p1, p2].zip (encB zs x)).foldl (fun t (x : Tmp × Value) => match x with | (p, v) => t.setIfInBounds p v) a.tmps = (a.tmps.setIfInBounds p1 (i64 (x.val : Int))).setIfInBounds p2 (u32 zs[x.val]) := by simp [encB]
  rw [hz]
  have hs := ha.size
  obtain ⟨n1, n2, n3, n4, n5, n6⟩ := hne
  obtain ⟨b1, b2, b3, b4⟩ := hN
  have s1 : ∀ (v : Value), (a.tmps.setIfInBounds p1 v).size = N := fun v => by simp [hs]
  have hlo : ¬ LetsOut (fun (_ : Exit) (_ : Act) (_ : World) => False) := fun ⟨_, _, h⟩ => h
  refine wpIn_seq (assign_round (v := i64 (x.val : Int)) hlo (eval_at ?_) (assign_round (v := u32 zs[x.val]) hlo (eval_at ?_) hK))
  ·show ((a.tmps.setIfInBounds p1 _).setIfInBounds p2 _)[p1]? = _
   rw [set_ne (fun e => n1 e.symm)]; exact getD_set_self (by omega)
  ·show (((a.tmps.setIfInBounds p1 _).setIfInBounds p2 _).setIfInBounds q1 _)[p2]? = _
   rw [set_ne (fun e => n4 e.symm)]; exact getD_set_self (by simp; omega)
 case body =>
  rintro l pre x W ⟨hj, hs⟩ hlt
  obtain ⟨n1, n2, n3, n4, n5, n6⟩ := hne
  obtain ⟨b1, b2, b3, b4⟩ := hN
  obtain ⟨f1, f2, f3, f4⟩ := hfr
  have hsz := ha.size
  refine Code.wpIn_mono ?_ (hround l pre x W (hv.below hs.size) hs hj _ ⟨rfl, by simp [hsz], fun t v ht => ?_⟩)
  ·intro e a' W' h
   cases e with
   | normal =>
    obtain ⟨s, hj'⟩ := h
    refine ⟨⟨s.size, fun k o hk ho _ => (s.free k (block_lt ho) (hv k hk)).2.trans ho⟩, ⟨(s.own Bs dB (Nat.lt_of_lt_of_le hBl hs.size) hB.1 hdB).2, (s.free b (Nat.lt_of_lt_of_le hbW hs.size) (hbn (fun e => by have := x.2; simp [e] at this))).2⟩, hj', (hs.trans s).more (by simp)⟩
   | _ => exact h.elim
  ·simp only [lk] at ht
   by_cases h2 : q2 = t
   ·subst h2
    simp at ht
    subst ht
    exact getD_set_self (by simp; omega)
   ·have e2 : Nat.beq q2 t = false := by
     cases hb : Nat.beq q2 t with
     | false => rfl
     | true => exact absurd (Nat.eq_of_beq_eq_true hb) h2
    rw [set_ne h2]
    simp only [e2, cond_false] at ht
    by_cases h1 : q1 = t
    ·subst h1
     simp at ht
     subst ht
     exact getD_set_self (by simp; omega)
    ·have e1 : Nat.beq q1 t = false := by
      cases hb : Nat.beq q1 t with
      | false => rfl
      | true => exact absurd (Nat.eq_of_beq_eq_true hb) h1
     rw [set_ne h1]
     simp only [e1, cond_false] at ht
     rw [set_ne (fun e => by subst e; rw [f2] at ht; cases ht), set_ne (fun e => by subst e; rw [f1] at ht; cases ht)]
     exact ha.at_ t v ht
 case done =>
  rintro D xs W hD rfl ⟨hj, hs⟩ hK
  have hDl : D < W.heap.size := block_lt hK
  refine hdone D _ W rfl (fun k hk => ?_) ⟨hs.os, hs.tape, hs.output, hs.size, fun k hk e => ⟨?_, (hs.free k hk e).2⟩, fun k d hk e hd => ⟨?_, (hs.own k d hk e hd).2⟩⟩ hj hD ⟨by simp, hK⟩ _ ⟨by show _ :: a.defers = _; rw [ha.defers]; rfl, ha.size, ha.at_⟩
  ·show (if _ then _ else _) = _; rw [if_neg (by omega)]; exact (hv.below hs.size) k hk
  ·show (if _ then _ else _) = _; rw [if_neg (by omega)]; exact e
  ·show (if _ then _ else _) = _; rw [if_neg (by omega)]; exact e
 case stop =>
  rintro D c0 pre W _ _ h _
  exact h.elim
theorem scallBack {ds : List Deferred} {N : Nat} {ops : Array Oper} {Q : Exit → Act → World → Prop} {l : List (Nat × Value)} {rest : List Oper} {w : World} {lab : Lab} {ty : TypeId} {pos : String} {af : Array Edge} {d : Nat} {xs : List Operand} {tys : Array TypeId} {a : Option Addr} {len cap : Nat} (hf : Callable Try.prog 106) (hv : Valid lab w) (hx : evs l xs = some [.slice a len cap])
  (h : ∀ b lab' w', Own lab' w' 997 b 58 #[.slice a len cap] → Stp [] lab w lab' w' → Valid lab' w' → Seq ds Try.prog N ops Q ((d, .func (.func 154) #[] #[.pointer (some ⟨b, 0, none⟩)]) :: l) rest w') (hd : d < N := by decide) :
  Seq ds Try.prog N ops Q l (⟨some d, .call ⟨.value (.func 106), xs.toArray, tys⟩, ty, pos, af, none⟩ :: rest) w :=
 Seq.call (R := fun v w' => v = .func (.func 154) #[] #[.pointer (some ⟨w.heap.size, 0, none⟩)] ∧ w' = w.alloc (.cells #[.slice a len cap] 58)) hf hx hd
  ((callsIn_wide (n := 3)).1 ((back_in Fence.wide 3 trivial rfl a len cap w).mono fun e w' ⟨h1, h2⟩ => ⟨_, h1, rfl, h2⟩)) fun v w' ⟨h1, h2⟩ => by
   subst h1; subst h2
   exact h w.heap.size _ _ (Own.alloc lab w _ _ 997) (Stp.alloc _ 997) (hv.alloc _ 997)
end Go.Proofs.Ytgfomedobfaidaa
end
section
set_option linter.unusedVariables false
set_option linter.unusedSimpArgs false
namespace Go.Proofs.Ytgfomedobfaidaa
open Go.RowKit Go.Shelf
def smR (zs : List UInt32) (d : Nat) (pre : List (Fin zs.length)) : Nat := pre.foldl (fun r x => (r * 4294967296 + (zs[x.val]).toNat) % d) 0
def smO (zs : List UInt32) (d : Nat) (pre : List (Fin zs.length)) : List UInt32 := (pre.foldl (fun (s : Nat × List UInt32) x => ((s.1 * 4294967296 + (zs[x.val]).toNat) % d, s.2.set x.val (UInt32.ofNat ((s.1 * 4294967296 + (zs[x.val]).toNat) / d)))) (0, List.replicate zs.length 0)).2
theorem smR_nil (zs : List UInt32) (d : Nat) : smR zs d [] = 0 := by simp [smR]
theorem smO_nil (zs : List UInt32) (d : Nat) : smO zs d [] = List.replicate zs.length 0 := by simp [smO]
theorem smR_snoc (zs : List UInt32) (d : Nat) (pre : List (Fin zs.length)) (x : Fin zs.length) : smR zs d (pre ++ [x]) = (smR zs d pre * 4294967296 + (zs[x.val]).toNat) % d := by unfold smR; rw [List.foldl_append, List.foldl_cons, List.foldl_nil]
theorem smO_fst (zs : List UInt32) (d : Nat) (pre : List (Fin zs.length)) : ∀ (s : Nat × List UInt32), (pre.foldl (fun (s : Nat × List UInt32) x => ((s.1 * 4294967296 + (zs[x.val]).toNat) % d, s.2.set x.val (UInt32.ofNat ((s.1 * 4294967296 + (zs[x.val]).toNat) / d)))) s).1 = pre.foldl (fun r x => (r * 4294967296 + (zs[x.val]).toNat) % d) s.1 := by
 induction pre with
 | nil => intro s; rfl
 | cons x r ih => intro s; simp only [List.foldl_cons]; rw [ih]
theorem smO_snoc (zs : List UInt32) (d : Nat) (pre : List (Fin zs.length)) (x : Fin zs.length) : smO zs d (pre ++ [x]) = (smO zs d pre).set x.val (UInt32.ofNat ((smR zs d pre * 4294967296 + (zs[x.val]).toNat) / d)) := by
 have h := smO_fst zs d pre (0, List.replicate zs.length 0)
 unfold smO smR
 rw [List.foldl_append, List.foldl_cons, List.foldl_nil]
 dsimp only
 rw [h]
theorem smR_lt {zs : List UInt32} {d : Nat} (hd : d ≠ 0) (pre : List (Fin zs.length)) : smR zs d pre < d := by
 rcases List.eq_nil_or_concat pre with rfl | ⟨p, x, rfl⟩
 ·rw [smR_nil]; omega
 ·rw [List.concat_eq_append, smR_snoc]; exact Nat.mod_lt _ (by omega)
theorem smO_length (zs : List UInt32) (d : Nat) (pre : List (Fin zs.length)) : (smO zs d pre).length = zs.length := by
 generalize hn : pre.length = n
 induction n generalizing pre with
 | zero => rw [List.eq_nil_of_length_eq_zero hn, smO_nil]; simp
 | succ n ih =>
  rcases List.eq_nil_or_concat pre with rfl | ⟨p, x, rfl⟩
  ·simp at hn
  ·rw [List.concat_eq_append, smO_snoc, List.length_set]
   exact ih p (by simpa using hn)
theorem wv_drop {zs : List UInt32} {m : Nat} (h : m < zs.length) : wv (zs.drop m) = (zs[m]).toNat + 4294967296 * wv (zs.drop (m + 1)) := by
 rw [List.drop_eq_getElem_cons h]; rfl
theorem small_form {zs : List UInt32} {d : Nat} (hd : d ≠ 0) : ∀ {k : Nat}, k ≤ zs.length → smR zs d (bk zs.length k) = wv (zs.drop (zs.length - k)) % d ∧ smO zs d (bk zs.length k) = List.replicate (zs.length - k) 0 ++ wsN (wv (zs.drop (zs.length - k)) / d) k
 | 0, _ => by
  simp [bk, smR_nil, smO_nil, wsN_zero, wv]
 | k + 1, h => by
  obtain ⟨h1, h2⟩ := small_form (zs := zs) hd (k := k) (by omega)
  have hp : 0 < zs.length := by omega
  have hd' : 0 < d := by omega
  have hm : zs.length - 1 - k < zs.length := by omega
  have e : zs.length - (k + 1) = zs.length - 1 - k := by omega
  have e2 : zs.length - 1 - k + 1 = zs.length - k := by omega
  have hz := (zs[zs.length - 1 - k]).toNat_lt
  rw [bk_succ hp, smR_snoc, smO_snoc, h1, h2, e, wv_drop hm, e2]
  generalize hX : wv (zs.drop (zs.length - k)) = X
  generalize (zs[zs.length - 1 - k]).toNat = z at *
  have hdm := Nat.div_add_mod X d
  have hr := Nat.mod_lt X hd'
  have key : z + 4294967296 * X = (X % d * 4294967296 + z) + d * (4294967296 * (X / d)) := by
   have : 4294967296 * X = 4294967296 * (d * (X / d) + X % d) := by rw [hdm]
   rw [this, Nat.mul_add, Nat.mul_left_comm]; omega
  constructor
  ·rw [key, Nat.add_mul_mod_self_left]
  ·rw [key, Nat.add_mul_div_left _ _ hd']
   have hq : (X % d * 4294967296 + z) / d < 4294967296 := by
    rw [Nat.div_lt_iff_lt_mul hd']
    have : (X % d + 1) * 4294967296 ≤ d * 4294967296 := Nat.mul_le_mul_right _ (by omega)
    rw [Nat.mul_comm 4294967296]
    omega
   generalize (X % d * 4294967296 + z) / d = q at *
   rw [show zs.length - k = (zs.length - 1 - k) + 1 by omega, List.replicate_succ', List.append_assoc]
   rw [List.set_append_right _ _ (by simp)]
   simp only [List.length_replicate, Nat.sub_self]
   congr 1
   show UInt32.ofNat q :: wsN (X / d) k = wsN (q + 4294967296 * (X / d)) (k + 1)
   refine wv_inj (by simp [wsN_length]) ?_
   rw [wv_wsN]
   show (UInt32.ofNat q).toNat + 4294967296 * wv (wsN (X / d) k) = _
   rw [wv_wsN, Nat.pow_succ, Nat.mul_comm (4294967296 ^ k), Nat.mod_mul, UInt32.toNat_ofNat', Nat.mod_eq_of_lt (by omega : q < 2 ^ 32)]
   rw [show (q + 4294967296 * (X / d)) % 4294967296 = q by omega, show (q + 4294967296 * (X / d)) / 4294967296 = X / d by omega]
theorem small_rest {a d : Nat} (hd : d ≠ 0) : smR (limbs a) d (bk (limbs a).length (limbs a).length) = a % d := by
 rw [(small_form hd (Nat.le_refl _)).1, Nat.sub_self, List.drop_zero, wv_limbs]
theorem small_quot {a d : Nat} (hd : d ≠ 0) : wv (smO (limbs a) d (bk (limbs a).length (limbs a).length)) = a / d := by
 rw [(small_form hd (Nat.le_refl _)).2, Nat.sub_self, List.drop_zero, wv_limbs]
 show wv ([] ++ _) = _
 rw [List.nil_append, wsN_nil_iff]
 exact Nat.lt_of_le_of_lt (Nat.div_le_self _ _) (lt_nw a)
theorem afterGo {ds : List Deferred} {P : Program} {N : Nat} {l : List (Nat × Value)} {w : World} {Q Q' : Exit → Act → World → Prop} {y : Code} (hQ : ∀ a w, y.wp P Q' a w → Q .normal a w) (h : Run ds P N Q' y l w) : ∀ a, Fr ds N l a → Q .normal a w := fun a ha => hQ a w (h a ha)
theorem own_mark {lab lab' : Lab} {W : World} {D d b : Nat} {t : TypeId} {arr : Array Value} (e : lab' = fun k => if k = D then some 998 else lab k) (m : MarkO lab' W D) (h : Own lab W d b t arr) : Own lab' W d b t arr := ⟨by
 subst e
 show (if b = D then some 998 else lab b) = some d
 rw [if_neg (fun e => by subst e; have := m.2; rw [h.2] at this; cases this)]; exact h.1, h.2⟩
theorem round_end {P : Program} {N : Nat} {ops : Array Oper} {l : List (Nat × Value)} {w : World} {Q : Exit → Act → World → Prop} (h : ∀ a, Q .normal a w) : Seq [] P N ops Q l [] w := Seq.nil fun a _ => h a
end Go.Proofs.Ytgfomedobfaidaa
end
section
set_option linter.unusedVariables false
set_option linter.unusedSimpArgs false
set_option maxRecDepth 100000
namespace Go.Proofs.Ytgfomedobfaidaa
open Go.RowKit
theorem nat_small {lab : Lab} {w : World} (hv : Valid lab w) {a : Nat} {v0 : Value} (h0 : NatV a lab w v0) {d : UInt32} (hd : d.toNat ≠ 0) (ha : nw a ≤ 1000000) :
  Calls Try.prog 157 #[v0, u32 d] w (fun e w' => ∃ v, e = .returned v ∧ (And2 (NatV (a / d.toNat)) (NatV (a % d.toNat))) lab w' v ∧ Below w.heap.size w w') := by
 obtain ⟨L0, h0L, ⟨zU0, z00⟩, hX⟩ := enter0 hv
 replace h0 := up z00 h0
 obtain ⟨A1, c2, rfl⟩ := NatV.shape h0
 have z3 := NatV.cap h0
 have hdl := UInt32.toNat_lt d
 have hLa : (limbs a).length = nw a := rfl
 refine calls_run_marks Try.func157 rfl Try.ntmps157 (Nat.le_of_ble_eq_true rfl) ?_
 refine rsr ?_
 refine sbox 3 [.slice A1 (nw a) c2] h0L rfl rfl fun b6 L4 w5 o7 s8 h9 => ?_
 refine sbox 4 [u32 d] h9 rfl rfl fun b12 L10 w11 o13 s14 h15 => ?_
 refine salloc 5 [.slice none 0 0] h15 ty60 rfl fun b18 L16 w17 o19 s20 h21 => ?_
 refine salloc 6 [.slice none 0 0] h21 ty60 rfl fun b24 L22 w23 o25 s26 h27 => ?_
 refine nsr ?_
 refine sv (Does.fieldAddr' 0 Try.underlying60 rfl ty58 rfl rfl) ?_
 have c29 := s20.trans s26
 have c30 := s14.trans c29
 have o28 := o7.up c30
 have c32 := s8.trans c30
 have q33 := up c32 h0
 have q31 := NatV.words q33
 refine sv (Does.load_own1 o28 ty58 rfl rfl) ?_
 refine sv (Does.len Try.underlying58 rfl) ?_
 refine Seq.make_row (k := 14) u32 (0 : UInt32) (nw a) h27 Try.underlying58 ty167 rfl rfl rfl (by omega) (by omega) (by omega) (by omega) (by decide) ?_
 intro lab34 w35 b36 o37 s38 hv39
 refine salloc 7 [.slice none 0 0] hv39 ty58 rfl fun b42 L40 w41 o43 s44 h45 => ?_
 refine sstore [.slice (some ⟨b36, 0, none⟩) (nw a) (nw a)] h45 o43 ty58 rfl rfl rfl (Nat.le_of_ble_eq_true rfl) rfl rfl fun w46 o47 s48 h49 => ?_
 refine nsr ?_
 refine salloc 8 [.int .u64 0] h49 ty62 rfl fun b52 L50 w51 o53 s54 h55 => ?_
 refine sstore [.int .u64 0] h55 o53 ty62 rfl rfl rfl (Nat.le_of_ble_eq_true rfl) rfl rfl fun w56 o57 s58 h59 => ?_
 refine Seq.next ?_
 refine Run.seq ?_
 refine rsr ?_
 refine sv (Does.fieldAddr' 0 Try.underlying60 rfl ty58 rfl rfl) ?_
 have c61 := s54.trans s58
 have c62 := s48.trans c61
 have c63 := s44.trans c62
 have c64 := s38.trans c63
 have o60 := o28.up c64
 have q66 := up c64 q33
 have q65 := NatV.words q66
 refine sv (Does.load_own1 o60 ty58 rfl rfl) ?_
 refine scallBack cal106 h59 rfl fun b69 L67 w68 o70 s71 h72 => ?_
 refine Seq.next ?_
 refine Run.block ?_
 have q73 := up s71 q65
 have c75 := c63.trans s71
 have o74 := o37.up c75
 have o76 := o57.up s71
 refine Run.weaken (l' := [(3, .pointer (some ⟨b12, 0, none⟩)), (4, .pointer (some ⟨b18, 0, none⟩)), (5, .pointer (some ⟨b24, 0, none⟩)), (6, .pointer (some ⟨b42, 0, none⟩)), (7, .pointer (some ⟨b52, 0, none⟩)), (16, .func (.func 154) #[] #[.pointer (some ⟨b69, 0, none⟩)])]) ⟨rfl, rfl, rfl, rfl, rfl, rfl, trivial⟩ ?_
 refine Run.backward h72 [8, 14] (limbs a) (by show nw a ≤ _; omega) (WordsV.row q73) o70 (by decide) rfl ⟨rfl, rfl, rfl, rfl⟩ (by decide) (by decide) (fun pre W => Own L67 W 14 b36 167 (List.map u32 (smO (limbs a) d.toNat pre)).toArray ∧ Own L67 W 8 b52 62 #[n64 (smR (limbs a) d.toNat pre)]) (fun _ A B row hs hg hr => ⟨own_grown hs.1 hg (fun r e => (hr r e).2), own_grown hs.2 hg (fun r e => (hr r e).2)⟩) ⟨((show List.replicate (nw a) (0 : UInt32) = smO (limbs a) d.toNat ([]) from by rfl) ▸ o74), ((show (0 : Nat) = smR (limbs a) d.toNat ([]) from by rfl) ▸ o76)⟩ ?_ ?_
 ·intro l77 pre78 x79 w80 h81 s82 ⟨o83, o84⟩
  have hr := smR_lt hd pre78
  have hx := UInt32.toNat_lt (limbs a)[x79.val]
  have hxl := x79.2
  have hol := smO_length (limbs a) d.toNat pre78
  refine RunR.block ?_
  refine RunR.seq ?_
  refine RunR.region (fun ⟨_, _, h⟩ => h) rfl ?_
  refine sv (Does.load_own1 o84 ty62 rfl rfl) ?_
  refine sv (Does.n64_shl32 rfl rfl (by omega)) ?_
  refine sv (Does.move rfl) ?_
  refine sv (Does.u32_n64 Try.underlying167 Try.underlying62 rfl) ?_
  refine sv (Does.n64_or_low rfl rfl (by omega) (by omega)) ?_
  refine sstore [n64 (((smR (limbs a) d.toNat pre78) * 4294967296) + (((limbs a)[x79.val]).toNat))] h81 o84 ty62 rfl rfl rfl (Nat.le_of_ble_eq_true rfl) rfl rfl fun w85 o86 s87 h88 => ?_
  refine RunR.next ?_
  refine RunR.seq ?_
  refine RunR.open 8 (Φ := [.ex (.slice (some ⟨b36, 0, none⟩) (nw a) (nw a)), .ex (i64 ((x79.val : Nat) : Int)), .ex (n64 (((smR (limbs a) d.toNat pre78) * 4294967296) + (((limbs a)[x79.val]).toNat))), .ex (u32 d), .ex (n64 (d.toNat)), .ex (n64 ((((smR (limbs a) d.toNat pre78) * 4294967296) + (((limbs a)[x79.val]).toNat)) / d.toNat)), .ex (u32 (UInt32.ofNat ((((smR (limbs a) d.toNat pre78) * 4294967296) + (((limbs a)[x79.val]).toNat)) / d.toNat))), .ex (.pointer (some ⟨b36, x79.val * 1, none⟩))]) [(6, 30), (7, 31)] (fun ⟨_, _, h⟩ => h) rfl mixed (by kernel_rfl) rfl h88 ⟨?_, (oX [] rfl rfl rfl fun _ _ => Does.move rfl), ?_, ?_, (oX [(3, 27)] rfl rfl rfl fun _ _ => Does.u32_n64 Try.underlying167 Try.underlying62 rfl), (oX [(2, 26), (4, 28)] rfl rfl rfl fun _ _ => Does.n64_quo rfl rfl (by omega) (by omega)), (oX [(5, 29)] rfl rfl rfl fun _ _ => Does.n64_u32 Try.underlying62 Try.underlying167 rfl), (oX [(0, 24), (1, 25)] rfl rfl rfl fun _ _ => Does.index_own x79.val Try.underlying58 ty167 rfl rfl (by omega) (by omega)), trivial⟩ (fun L133 w134 h135 s136 => ?_)
  ·refine oP [] rfl rfl fun L89 w90 h91 s92 => ?_
   have c94 := s87.trans s92
   have c95 := s82.trans c94
   have c96 := s71.trans c95
   have c97 := c61.trans c96
   have o93 := o47.up c97
   exact ⟨_, Does.load_own1 o93 ty58 rfl rfl, rfl⟩
  ·refine oP [] rfl rfl fun L102 w103 h104 s105 => ?_
   have o106 := o86.up s105
   exact ⟨_, Does.load_own1 o106 ty62 rfl rfl, rfl⟩
  ·refine oP [] rfl rfl fun L107 w108 h109 s110 => ?_
   have c112 := s87.trans s110
   have c113 := s82.trans c112
   have c114 := s71.trans c113
   have c115 := c64.trans c114
   have c116 := c29.trans c115
   have o111 := o13.up c116
   exact ⟨_, Does.load_own1 o111 ty167 rfl rfl, rfl⟩
  have c138 := s87.trans s136
  have o137 := o83.up c138
  refine Seq.store_row (k := 14) (j := x79.val) (v := (UInt32.ofNat ((((smR (limbs a) d.toNat pre78) * 4294967296) + (((limbs a)[x79.val]).toNat)) / d.toNat))) u32 h135 o137 ty167 (congrArg (fun o => some (Value.pointer (some ⟨b36, o, none⟩))) (Nat.mul_one x79.val)) rfl (by omega) rfl rfl fun w139 o140 s141 h142 => ?_
  refine RunR.next ?_
  refine RunR.region (fun ⟨_, _, h⟩ => h) rfl ?_
  have c144 := s136.trans s141
  have o143 := o86.up c144
  refine sv (Does.load_own1 o143 ty62 rfl rfl) ?_
  have c146 := c138.trans s141
  have c147 := s82.trans c146
  have c148 := s71.trans c147
  have c149 := c64.trans c148
  have c150 := c29.trans c149
  have o145 := o13.up c150
  refine sv (Does.load_own1 o145 ty167 rfl rfl) ?_
  refine sv (Does.u32_n64 Try.underlying167 Try.underlying62 rfl) ?_
  refine sv (Does.n64_rem rfl rfl (by omega)) ?_
  refine sstore [n64 ((((smR (limbs a) d.toNat pre78) * 4294967296) + (((limbs a)[x79.val]).toNat)) % d.toNat)] h142 o143 ty62 rfl rfl rfl (Nat.le_of_ble_eq_true rfl) rfl rfl fun w151 o152 s153 h154 => ?_
  have o155 := o140.up s153
  have c156 := c146.trans s153
  exact round_end fun _ => ⟨c156.relab.more (by decide), ⟨o83.1, ((show List.set (smO (limbs a) d.toNat pre78) x79.val (UInt32.ofNat ((((smR (limbs a) d.toNat pre78) * 4294967296) + (((limbs a)[x79.val]).toNat)) / d.toNat)) = smO (limbs a) d.toNat (pre78 ++ [x79]) from by exact (smO_snoc _ _ _ _).symm) ▸ o155.2)⟩, ⟨o84.1, ((show ((((smR (limbs a) d.toNat pre78) * 4294967296) + (((limbs a)[x79.val]).toNat)) % d.toNat : Nat) = smR (limbs a) d.toNat (pre78 ++ [x79]) from by exact (smR_snoc _ _ _ _).symm) ▸ o152.2)⟩⟩
 intro D157 L158 w159 e160 h161 s162 ⟨o165, o166⟩ m163 o164
 replace o165 := own_mark e160 o164 o165
 replace o166 := own_mark e160 o164 o166
 refine afterGo (fun _ _ h => h) ?_
 refine Run.seq ?_
 have hv167 := Valid.release h161 14
 have q168 : WordsV (smO (limbs a) d.toNat (bk (List.length (limbs a)) (List.length (limbs a)))) (labFree L158 14) w159 (.slice (some ⟨b36, 0, none⟩) (nw a) (nw a)) := WordsV.release o165 (by (rw [smO_length]; rfl)) (by omega)
 refine Run.many [⟨36, .ex (.slice (some ⟨b36, 0, none⟩) (nw a) (nw a)), [], none⟩, ⟨37, .v (NatV (wv (smO (limbs a) d.toNat (bk (List.length (limbs a)) (List.length (limbs a)))))), [], none⟩, ⟨38, .ex (n64 (smR (limbs a) d.toNat (bk (List.length (limbs a)) (List.length (limbs a))))), [], none⟩] [1, 2] [[], [], []] mixed (by kernel_rfl) (by kernel_rfl) rfl hv167 ⟨stay_ex, stay_v, stay_ex, trivial⟩ ⟨?_, ?_, ?_, trivial⟩ (fun L189 w190 h191 s192 v193 q194 => ?_)
 ·refine rP [] rfl rfl rfl rfl fun L169 w170 h171 s172 => ?_
  replace s172 : Stp [] _ _ _ _ := s172
  have c174 := (Stp.release (lab := L158) (w := w159) 14).trans s172
  have c175 := s162.trans c174
  have c176 := s71.trans c175
  have c177 := c61.trans c176
  have o173 := o47.up c177
  exact ⟨_, Does.load_own1 o173 ty58 rfl rfl, rfl⟩
 ·refine rC [0] rfl rfl rfl rfl cal105 fun L178 w179 h180 s181 => ?_
  replace s181 : Stp [] _ _ _ _ := s181
  have q182 := up s181 q168
  exact ⟨_, rfl, (nat_trim h180 q182)⟩
 ·refine rP [] rfl rfl rfl rfl fun L183 w184 h185 s186 => ?_
  replace s186 : Stp [] _ _ _ _ := s186
  have c188 := (Stp.release (lab := L158) (w := w159) 14).trans s186
  have o187 := o166.up c188
  exact ⟨_, Does.load_own1 o187 ty62 rfl rfl, rfl⟩
 replace s192 : Stp [] _ _ _ _ := s192
 obtain ⟨A195, c196, rfl⟩ := NatV.shape q194
 have z197 := NatV.cap q194
 refine scall (V := NatV (smR (limbs a) d.toNat (bk (List.length (limbs a)) (List.length (limbs a))))) cal32 h191 rfl (nat_New h191 (x := smR (limbs a) d.toNat (bk (List.length (limbs a)) (List.length (limbs a)))) (show (smR (limbs a) d.toNat (bk (List.length (limbs a)) (List.length (limbs a)))) < 18446744073709551616 from by (rw [small_rest hd]; have := Nat.mod_lt a (Nat.pos_of_ne_zero hd); omega))) fun v198 w199 q200 s201 h202 => ?_
 obtain ⟨A203, c204, rfl⟩ := NatV.shape q200
 have z205 := NatV.cap q200
 have c207 := s192.trans s201
 have c208 := (Stp.release (lab := L158) (w := w159) 14).trans c207
 have c209 := s162.trans c208
 have c210 := s71.trans c209
 have c211 := c64.trans c210
 have c212 := s26.trans c211
 have o206 := o19.up c212
 refine sstore [.slice A195 (nw (wv (smO (limbs a) d.toNat (bk (List.length (limbs a)) (List.length (limbs a)))))) c196] h202 o206 ty60 rfl rfl rfl (Nat.le_of_ble_eq_true rfl) rfl rfl fun w213 o214 s215 h216 => ?_
 have c218 := c211.trans s215
 have o217 := o25.up c218
 refine sstore [.slice A203 (nw (smR (limbs a) d.toNat (bk (List.length (limbs a)) (List.length (limbs a))))) c204] h216 o217 ty60 rfl rfl rfl (Nat.le_of_ble_eq_true rfl) rfl rfl fun w219 o220 s221 h222 => ?_
 refine Seq.next ?_
 have c224 := s215.trans s221
 have c225 := c208.trans c224
 have o223 := o164.up c225
 obtain ⟨w226, e227, s228, h229⟩ := MarkO.take (P := Try.prog) o223 h222
 have c231 := s221.trans s228
 have o230 := o214.up c231
 have o232 := o220.up s228
 have c233 := c218.trans c231
 have c234 := c32.trans c233
 obtain ⟨⟨zU, zo⟩, zb⟩ := hX c234 (by decide)
 have c235 := c224.trans s228
 have c236 := s201.trans c235
 have q237 := up c236 q194
 have q238 := up c235 q200
 refine Run.ret ?_
 exact post_two_M e227 Try.results157 ⟨_, rfl, Own.loadN [.slice A195 (nw (wv (smO (limbs a) d.toNat (bk (List.length (limbs a)) (List.length (limbs a)))))) c196] o230 ty60 rfl⟩ ⟨_, rfl, Own.loadN [.slice A203 (nw (smR (limbs a) d.toNat (bk (List.length (limbs a)) (List.length (limbs a))))) c204] o232 ty60 rfl⟩ ⟨_, rfl, ⟨_, _, rfl, (NatV.cast (by rw [small_quot hd]) (up zo q237)), (NatV.cast (by rw [small_rest hd]) (up zo q238))⟩, zb⟩
end Go.Proofs.Ytgfomedobfaidaa
end
section
set_option linter.unusedVariables false
set_option linter.unusedSimpArgs false
namespace Go.Proofs.Ytgfomedobfaidaa
open Go.RowKit
def lz (x : UInt32) : Nat := 32 - blen x.toNat
theorem lz_int (x : UInt32) : (32 : Int) - ((blen x.toNat : Nat) : Int) = ((lz x : Nat) : Int) := by
 have : blen x.toNat ≤ 32 := blen_le.2 (UInt32.toNat_lt _)
 unfold lz; omega
def topw (b : Nat) : UInt32 := (limbs b).getD (nw b - 1) 0
abbrev sh (b : Nat) : Nat := lz ((limbs b).getD (nw b - 1) 0)
theorem sh_eq (b : Nat) : sh b = 32 - blen (topw b).toNat := rfl
theorem topw_eq {b : Nat} (hb : b ≠ 0) : (topw b).toNat = b / 4294967296 ^ (nw b - 1) := top_limb hb
theorem topw_pos {b : Nat} (hb : b ≠ 0) : 1 ≤ (topw b).toNat := by
 rw [topw_eq hb]
 exact (Nat.one_le_div_iff (Nat.pow_pos (by omega))).2 (le_of_nw hb)
theorem blen_top {b : Nat} (hb : b ≠ 0) : 1 ≤ blen (topw b).toNat ∧ blen (topw b).toNat ≤ 32 :=
 ⟨lt_blen.2 (by rw [Nat.pow_zero]; exact topw_pos hb), blen_le.2 (UInt32.toNat_lt _)⟩
theorem sh_lt {b : Nat} (hb : b ≠ 0) : sh b < 32 := by have := blen_top hb; rw [sh_eq]; omega
theorem sh_norm {b : Nat} (hb : b ≠ 0) : 2147483648 ≤ (topw b).toNat * 2 ^ sh b ∧ ((topw b).toNat + 1) * 2 ^ sh b ≤ 4294967296 := by
 have h := blen_top hb
 have h1 : 2 ^ (blen (topw b).toNat - 1) ≤ (topw b).toNat := lt_blen.1 (by omega)
 have h2 : (topw b).toNat < 2 ^ blen (topw b).toNat := blen_le.1 (Nat.le_refl _)
 rw [sh_eq]
 constructor
 ·have := Nat.mul_le_mul_right (2 ^ (32 - blen (topw b).toNat)) h1
  rw [← Nat.pow_add, show blen (topw b).toNat - 1 + (32 - blen (topw b).toNat) = 31 by omega] at this
  exact this
 ·have := Nat.mul_le_mul_right (2 ^ (32 - blen (topw b).toNat)) (Nat.succ_le_of_lt h2)
  rw [← Nat.pow_add, show blen (topw b).toNat + (32 - blen (topw b).toNat) = 32 by omega] at this
  exact this
theorem nw1 {b : Nat} (hb : b ≠ 0) : 4294967296 ^ nw b = 4294967296 * 4294967296 ^ (nw b - 1) := by
 have := nw_pos_of hb
 rw [Nat.mul_comm, ← Nat.pow_succ]; congr 1; omega
theorem shl_lt_pow {b : Nat} (hb : b ≠ 0) : b * 2 ^ sh b < 4294967296 ^ nw b := by
 have hp : 0 < 4294967296 ^ (nw b - 1) := Nat.pow_pos (by omega)
 have h : b < ((topw b).toNat + 1) * 4294967296 ^ (nw b - 1) := by
  rw [topw_eq hb, Nat.mul_comm]; exact Nat.lt_mul_div_succ b hp
 have h2 := Nat.mul_lt_mul_of_pos_right h (show 0 < 2 ^ sh b from Nat.pow_pos (by omega))
 refine Nat.lt_of_lt_of_le h2 ?_
 rw [Nat.mul_right_comm, nw1 hb]
 exact Nat.mul_le_mul_right _ (sh_norm hb).2
theorem shl_top {b : Nat} (hb : b ≠ 0) : 2147483648 * 4294967296 ^ (nw b - 1) ≤ b * 2 ^ sh b := by
 have hp : 0 < 4294967296 ^ (nw b - 1) := Nat.pow_pos (by omega)
 have h : (topw b).toNat * 4294967296 ^ (nw b - 1) ≤ b := by rw [topw_eq hb]; exact Nat.div_mul_le_self _ _
 refine Nat.le_trans (Nat.mul_le_mul_right _ (sh_norm hb).1) ?_
 rw [Nat.mul_right_comm]
 exact Nat.mul_le_mul_right _ h
theorem div_v {b : Nat} (hb : b ≠ 0) : (shl (limbs b) (sh b)).take (nw b) = wsN (b * 2 ^ sh b) (nw b) := by
 have e : shl (limbs b) (sh b) = wsN (b * 2 ^ sh b) (nw b) ++ [UInt32.ofNat (b * 2 ^ sh b / 4294967296 ^ nw b)] := by
  unfold shl; rw [wv_limbs, show (limbs b).length = nw b from rfl, wsN_succ]
 rw [e, List.take_append_of_le_length (by rw [wsN_length]; omega), List.take_of_length_le (by rw [wsN_length]; omega)]
theorem wv_div_v {b : Nat} (hb : b ≠ 0) : wv (wsN (b * 2 ^ sh b) (nw b)) = b * 2 ^ sh b := wsN_nil_iff (shl_lt_pow hb)
theorem div_top {b : Nat} (hb : b ≠ 0) : 2147483648 ≤ ((wsN (b * 2 ^ sh b) (nw b)).getD (nw b - 1) 0).toNat := by
 have h0 := nw_pos_of hb
 rw [wsN_get (by omega), UInt32.toNat_ofNat']
 have h1 := (Nat.le_div_iff_mul_le (show 0 < 4294967296 ^ (nw b - 1) from Nat.pow_pos (by omega))).2 (shl_top hb)
 have h2 : b * 2 ^ sh b / 4294967296 ^ (nw b - 1) < 4294967296 := by
  rw [Nat.div_lt_iff_lt_mul (Nat.pow_pos (by omega)), ← nw1 hb]; exact shl_lt_pow hb
 rw [Nat.mod_eq_of_lt h2]; exact h1
def dvU (A V k : Nat) : Nat := A % 4294967296 ^ k + A / 4294967296 ^ k % V * 4294967296 ^ k
theorem dvU_zero (A V : Nat) : dvU A V 0 = A % V := by simp [dvU, Nat.mod_one]
theorem dvU_start {A V k : Nat} (h : A / 4294967296 ^ k < V) : dvU A V k = A := by
 unfold dvU
 rw [Nat.mod_eq_of_lt h, Nat.mul_comm]
 exact Nat.mod_add_div _ _
theorem div_succ (A j : Nat) : A / 4294967296 ^ (j + 1) = A / 4294967296 ^ j / 4294967296 := by rw [Nat.pow_succ, Nat.div_div_eq_div_mul]
theorem dv_part (A V j : Nat) : dvU A V (j + 1) / 4294967296 ^ j = A / 4294967296 ^ (j + 1) % V * 4294967296 + A / 4294967296 ^ j % 4294967296 := by
 have hp : 0 < 4294967296 ^ j := Nat.pow_pos (by omega)
 unfold dvU
 rw [mod_succ_pow, Nat.pow_succ (n := 4294967296) (m := j), show ∀ x : Nat, x * (4294967296 ^ j * 4294967296) = 4294967296 ^ j * (x * 4294967296) from fun x => by rw [Nat.mul_left_comm],
  Nat.add_assoc, ← Nat.mul_add, Nat.add_mul_div_left _ _ hp, Nat.div_eq_of_lt (Nat.mod_lt _ hp), Nat.zero_add, Nat.add_comm]
theorem dv_low (A V j : Nat) : dvU A V (j + 1) % 4294967296 ^ j = A % 4294967296 ^ j := by
 unfold dvU
 rw [Nat.pow_succ, show ∀ x : Nat, x * (4294967296 ^ j * 4294967296) = 4294967296 ^ j * (x * 4294967296) from fun x => by rw [Nat.mul_left_comm],
  Nat.add_mul_mod_self_left, Nat.mod_mul_right_mod]
theorem dv_lt {A V j : Nat} (hV : 0 < V) : dvU A V (j + 1) / 4294967296 ^ j < V * 4294967296 := by
 rw [dv_part]
 have h1 := Nat.mod_lt (A / 4294967296 ^ (j + 1)) hV
 have h2 := Nat.mod_lt (A / 4294967296 ^ j) (show 0 < 4294967296 by omega)
 have h3 := Nat.mul_le_mul_right 4294967296 (Nat.succ_le_of_lt h1)
 rw [Nat.succ_mul] at h3
 omega
theorem dv_eq (A V j : Nat) : A / 4294967296 ^ j = (A / 4294967296 ^ (j + 1) / V * 4294967296) * V + dvU A V (j + 1) / 4294967296 ^ j := by
 rw [dv_part]
 have h1 := Nat.div_add_mod (A / 4294967296 ^ (j + 1)) V
 have h2 := Nat.div_add_mod (A / 4294967296 ^ j) 4294967296
 rw [← div_succ] at h2
 generalize A / 4294967296 ^ (j + 1) / V = q at *
 generalize A / 4294967296 ^ (j + 1) % V = r at *
 generalize A / 4294967296 ^ j % 4294967296 = d at *
 rw [← h1] at h2
 rw [← h2, Nat.mul_add, ← Nat.add_assoc]
 congr 1
 congr 1
 ·rw [Nat.mul_comm V q, Nat.mul_comm q 4294967296, Nat.mul_assoc]
 ·rw [Nat.mul_comm]
theorem dv_rem {A V j : Nat} (hV : 0 < V) : dvU A V (j + 1) / 4294967296 ^ j % V = A / 4294967296 ^ j % V := by
 conv => rhs; rw [dv_eq A V j]
 exact (Nat.mul_add_mod_self_right _ _ _).symm
theorem dv_quo {A V j : Nat} (hV : 0 < V) : A / V / 4294967296 ^ j = A / V / 4294967296 ^ (j + 1) * 4294967296 + dvU A V (j + 1) / 4294967296 ^ j / V := by
 have c : ∀ k, A / V / 4294967296 ^ k = A / 4294967296 ^ k / V := fun k => by rw [Nat.div_div_eq_div_mul, Nat.div_div_eq_div_mul, Nat.mul_comm]
 rw [c, c]
 conv => lhs; rw [dv_eq A V j]
 rw [Nat.add_comm, Nat.add_mul_div_right _ _ hV, Nat.add_comm]
theorem dv_seg {A V j m N : Nat} (hV : V < 4294967296 ^ m) (hV0 : 0 < V) (h : j + (m + 1) ≤ N) : seg (wsN (dvU A V (j + 1)) N) j (m + 1) = dvU A V (j + 1) / 4294967296 ^ j := by
 have e : ((wsN (dvU A V (j + 1)) N).drop j).take (m + 1) = wsN (dvU A V (j + 1) / 4294967296 ^ j) (m + 1) := by
  refine List.ext_getElem (by simp [wsN_length]; omega) fun i h1 h2 => ?_
  simp only [wsN, List.getElem_take, List.getElem_drop, List.getElem_map, List.getElem_range]
  rw [Nat.pow_add, Nat.div_div_eq_div_mul]
 unfold seg
 rw [e, wsN_nil_iff]
 refine Nat.lt_of_lt_of_le (dv_lt hV0) ?_
 rw [Nat.pow_succ]
 exact Nat.mul_le_mul_right _ (Nat.le_of_lt hV)
theorem dv_row {A V j m N : Nat} (hV : V < 4294967296 ^ m) (hV0 : 0 < V) (h : j + (m + 1) ≤ N) : putAt (wsN (dvU A V (j + 1)) N) j (wsN (A / 4294967296 ^ j % V) (m + 1)) = wsN (dvU A V j) N := by
 have hlow := dv_low A V j
 have hR : A / 4294967296 ^ j % V < 4294967296 ^ (m + 1) := Nat.lt_of_lt_of_le (Nat.mod_lt _ hV0) (Nat.le_trans (Nat.le_of_lt hV) (Nat.pow_le_pow_right (by omega) (by omega)))
 have hp : 0 < 4294967296 ^ j := Nat.pow_pos (by omega)
 have hl2 : dvU A V j % 4294967296 ^ j = A % 4294967296 ^ j := by unfold dvU; rw [Nat.mul_comm, Nat.add_mul_mod_self_left, Nat.mod_mod]
 have hh2 : dvU A V j / 4294967296 ^ j = A / 4294967296 ^ j % V := by unfold dvU; rw [Nat.mul_comm, Nat.add_mul_div_left _ _ hp, Nat.div_eq_of_lt (Nat.mod_lt _ hp), Nat.zero_add]
 have hbig : dvU A V (j + 1) / 4294967296 ^ j < 4294967296 ^ (m + 1) := Nat.lt_of_lt_of_le (dv_lt hV0) (by rw [Nat.pow_succ]; exact Nat.mul_le_mul_right _ (Nat.le_of_lt hV))
 refine List.ext_getElem (by rw [putAt_length (by rw [wsN_length, wsN_length]; omega), wsN_length, wsN_length]) fun i h1 h2 => ?_
 rw [wsN_length] at h2
 have word : ∀ x y i : Nat, x / 4294967296 ^ i % 4294967296 = y / 4294967296 ^ i % 4294967296 → UInt32.ofNat (x / 4294967296 ^ i) = UInt32.ofNat (y / 4294967296 ^ i) := fun x y i e => ofNat32 e
 have low : ∀ x i : Nat, i < j → x / 4294967296 ^ i % 4294967296 = x % 4294967296 ^ j / 4294967296 ^ i % 4294967296 := fun x i hi => by
  obtain ⟨d, rfl⟩ : ∃ d, j = i + (d + 1) := ⟨j - i - 1, by omega⟩
  rw [Nat.pow_add, Nat.mod_mul_right_div_self, Nat.pow_succ, Nat.mod_mul_left_mod]
 have high : ∀ x i : Nat, j ≤ i → x / 4294967296 ^ i = x / 4294967296 ^ j / 4294967296 ^ (i - j) := fun x i hi => by
  rw [Nat.div_div_eq_div_mul, ← Nat.pow_add]; congr 2; omega
 by_cases c1 : i < j
 ·simp only [putAt, wsN, List.getElem_append, List.getElem_take, List.getElem_drop, List.getElem_map, List.getElem_range, List.length_append, List.length_take, List.length_map, List.length_range]
  rw [dif_pos (by omega), dif_pos (by omega)]
  exact ofNat32 (by rw [low _ i c1, hlow, low (dvU A V j) i c1, hl2])
 ·by_cases c2 : i < j + (m + 1)
  ·simp only [putAt, wsN, List.getElem_append, List.getElem_take, List.getElem_drop, List.getElem_map, List.getElem_range, List.length_append, List.length_take, List.length_map, List.length_range]
   rw [dif_pos (by omega), dif_neg (by omega)]
   refine ofNat32 ?_
   rw [high (dvU A V j) i (by omega), hh2, show i - min j N = i - j by omega]
  ·simp only [putAt, wsN, List.getElem_append, List.getElem_take, List.getElem_drop, List.getElem_map, List.getElem_range, List.length_append, List.length_take, List.length_map, List.length_range]
   rw [dif_neg (by omega)]
   refine ofNat32 ?_
   have z : ∀ x : Nat, x / 4294967296 ^ j < 4294967296 ^ (m + 1) → x / 4294967296 ^ i = 0 := fun x hx => by
    rw [high x i (by omega)]
    exact Nat.div_eq_of_lt (Nat.lt_of_lt_of_le hx (Nat.pow_le_pow_right (by omega) (by omega)))
   rw [show j + (m + 1) + (i - (min j N + (m + 1))) = i by omega, z _ hbig, z _ (by rw [hh2]; exact hR)]
def dvQ (A V k n : Nat) : List UInt32 := wsN (A / V / 4294967296 ^ k * 4294967296 ^ k) n
theorem dvQ_start {A V n : Nat} (h : A / 4294967296 ^ n < V) : List.replicate n 0 = dvQ A V n n := by
 unfold dvQ
 rw [Nat.div_div_eq_div_mul, Nat.mul_comm V, ← Nat.div_div_eq_div_mul, Nat.div_eq_of_lt h, Nat.zero_mul, wsN_zeros]
theorem dvQ_zero (A V n : Nat) : dvQ A V 0 n = wsN (A / V) n := by simp [dvQ]
theorem dvQ_step {A V j n : Nat} (hV0 : 0 < V) (hj : j < n) {y : UInt32} (hy : y = UInt32.ofNat (dvU A V (j + 1) / 4294967296 ^ j / V)) : (dvQ A V (j + 1) n).set j y = dvQ A V j n := by
 have hp : 0 < 4294967296 ^ j := Nat.pow_pos (by omega)
 have hq := dv_quo (A := A) (j := j) hV0
 have hd : dvU A V (j + 1) / 4294967296 ^ j / V < 4294967296 := by
  rw [Nat.div_lt_iff_lt_mul hV0, Nat.mul_comm]; exact dv_lt hV0
 unfold dvQ
 refine wsN_set hj ?_ ?_ y ?_
 ·rw [Nat.mul_mod_left, Nat.pow_succ, ← Nat.mul_assoc, Nat.mul_right_comm, Nat.mul_mod_left]
 ·rw [Nat.mul_div_cancel _ hp, hq, Nat.pow_succ, ← Nat.mul_assoc, Nat.mul_right_comm, Nat.mul_div_cancel _ hp, ← Nat.pow_succ]
  generalize A / V / 4294967296 ^ (j + 1) = x
  generalize dvU A V (j + 1) / 4294967296 ^ j / V = z at *
  omega
 ·rw [hy, Nat.mul_div_cancel _ hp, hq]
  exact ofNat32 (by omega)
theorem div_fits {a b : Nat} (hb : b ≠ 0) (hab : nw b ≤ nw a) : a * 2 ^ sh b / 4294967296 ^ (nw a + 1 - nw b) < b * 2 ^ sh b := by
 have h0 := nw_pos_of hb
 rw [Nat.div_lt_iff_lt_mul (Nat.pow_pos (by omega))]
 have h1 := Nat.mul_lt_mul_of_pos_right (lt_nw a) (show 0 < 2 ^ sh b from Nat.pow_pos (by omega))
 refine Nat.lt_of_lt_of_le h1 ?_
 have h2 := Nat.mul_le_mul_right (2 ^ sh b) (Nat.mul_le_mul_right (4294967296 ^ (nw a + 1 - nw b)) (le_of_nw hb))
 rw [← Nat.pow_add, show nw b - 1 + (nw a + 1 - nw b) = nw a by omega, Nat.mul_right_comm b] at h2
 exact h2
theorem div_shl {a : Nat} (s : Nat) : shl (limbs a) s = wsN (a * 2 ^ s) (nw a + 1) := by unfold shl; rw [wv_limbs]; rfl
theorem div_quot {a b n : Nat} (h : a * 2 ^ sh b / 4294967296 ^ n < b * 2 ^ sh b) : wv (wsN (a * 2 ^ sh b / (b * 2 ^ sh b)) n) = a / b := by
 have hp : 0 < 2 ^ sh b := Nat.pow_pos (by omega)
 have e : a * 2 ^ sh b / (b * 2 ^ sh b) = a / b := Nat.mul_div_mul_right _ _ hp
 rw [wsN_nil_iff, e]
 rw [Nat.div_lt_iff_lt_mul (Nat.pow_pos (by omega))] at h
 rw [Nat.div_lt_iff_lt_mul (Nat.pos_of_ne_zero fun e => by rw [e, Nat.zero_mul] at h; omega), Nat.mul_comm (4294967296 ^ n)]
 exact h
theorem div_rest (a b : Nat) : a * 2 ^ sh b % (b * 2 ^ sh b) = (a % b) * 2 ^ sh b := Nat.mul_mod_mul_right _ _ _
theorem rest_word {x s k N : Nat} (hs : s < 32) (hk : k + 1 < N) : UInt32.ofNat (((((wsN (x * 2 ^ s) N).getD (k + 1) 0).toNat * 4294967296) + ((wsN (x * 2 ^ s) N).getD k 0).toNat) / 2 ^ s) = UInt32.ofNat (x / 4294967296 ^ k) := by
 have hp : 0 < 4294967296 ^ k := Nat.pow_pos (by omega)
 have h2 : 0 < 2 ^ s := Nat.pow_pos (by omega)
 rw [wsN_get hk, wsN_get (by omega), UInt32.toNat_ofNat', UInt32.toNat_ofNat', div_succ]
 refine ofNat32 ?_
 generalize hy : x * 2 ^ s / 4294967296 ^ k = y
 have e1 : y / 4294967296 % 2 ^ 32 * 4294967296 + y % 2 ^ 32 = y % (4294967296 * 4294967296) := by
  rw [Nat.mod_mul, Nat.mul_comm, Nat.add_comm]
 rw [e1]
 have e3 : y / 2 ^ s = x / 4294967296 ^ k := by
  rw [← hy, Nat.div_div_eq_div_mul, Nat.mul_comm (4294967296 ^ k), ← Nat.div_div_eq_div_mul, Nat.mul_div_cancel _ h2]
 have e4 : (4294967296 * 4294967296 : Nat) = 2 ^ s * (4294967296 * 2 ^ (32 - s)) := by
  rw [Nat.mul_left_comm, ← Nat.pow_add, show s + (32 - s) = 32 by omega]
 rw [e4, Nat.mod_mul_right_div_self, Nat.mod_mul_right_mod, e3]
theorem rest_fin {a b k : Nat} (hb : b ≠ 0) (h : k = nw b) : wv (upto (a % b) k (nw b)) = a % b := by
 subst h
 rw [upto_full, wsN_nil_iff]
 exact Nat.lt_trans (Nat.mod_lt _ (Nat.pos_of_ne_zero hb)) (lt_nw b)
theorem zero_iff {a : Nat} : (((nw a : Nat) : Int) = 0) ↔ a = 0 := by
 constructor
 ·intro h; by_cases c : a = 0
  ·exact c
  ·have := nw_pos_of c; omega
 ·intro h; subst h; rw [nw_zero]; rfl
theorem one_word {b : Nat} (h : ((nw b : Nat) : Int) = 1) : ((limbs b).getD 0 0).toNat = b := by
 rw [limb_toNat, Nat.pow_zero, Nat.div_one, Nat.mod_eq_of_lt]
 have := lt_nw b
 rwa [show nw b = 1 by omega, Nat.pow_one] at this
theorem nw_ge {a b : Nat} (h : ¬ cmpI a b < 0) : nw b ≤ nw a := nw_mono (cmp_nlt h)
theorem sh_pos {b : Nat} (hb : b ≠ 0) : 0 < b * 2 ^ sh b := Nat.mul_pos (Nat.pos_of_ne_zero hb) (Nat.pow_pos (by omega))
theorem dv_begin {a b : Nat} (hb : b ≠ 0) (hab : nw b ≤ nw a) : shl (limbs a) (sh b) = wsN (dvU (a * 2 ^ sh b) (b * 2 ^ sh b) (nw a + 1 - nw b)) (nw a + 1) := by
 rw [dvU_start (div_fits hb hab), div_shl]
theorem dv_beginQ {a b n : Nat} (hb : b ≠ 0) (hab : nw b ≤ nw a) (hn : n = nw a + 1 - nw b) : List.replicate n 0 = dvQ (a * 2 ^ sh b) (b * 2 ^ sh b) (nw a + 1 - nw b) (nw a + 1 - nw b) := by subst hn; exact dvQ_start (div_fits hb hab)
theorem dvQ_length (A V k n : Nat) : (dvQ A V k n).length = n := wsN_length _ _
theorem dv_rowk {A V k m N : Nat} {vs : List UInt32} (hl : vs.length = m) (hw : wv vs = V) (hV : V < 4294967296 ^ m) (hV0 : 0 < V) (hk : 1 ≤ k) (h : k - 1 + (m + 1) ≤ N) :
  putAt (wsN (dvU A V k) N) (k - 1) (wsN (seg (wsN (dvU A V k) N) (k - 1) (vs.length + 1) % wv vs) (vs.length + 1)) = wsN (dvU A V (k - 1)) N := by
 obtain ⟨j, rfl⟩ : ∃ j, k = j + 1 := ⟨k - 1, by omega⟩
 rw [Nat.add_sub_cancel] at h ⊢
 rw [hl, hw, dv_seg hV hV0 h, dv_rem hV0, dv_row hV hV0 h]
theorem dv_qk {A V k m N n : Nat} {vs : List UInt32} (hl : vs.length = m) (hw : wv vs = V) (hV : V < 4294967296 ^ m) (hV0 : 0 < V) (hk : 1 ≤ k) (h : k - 1 + (m + 1) ≤ N) (hn : k ≤ n) :
  (dvQ A V k n).set (k - 1) (UInt32.ofNat (seg (wsN (dvU A V k) N) (k - 1) (vs.length + 1) / wv vs)) = dvQ A V (k - 1) n := by
 obtain ⟨j, rfl⟩ : ∃ j, k = j + 1 := ⟨k - 1, by omega⟩
 rw [Nat.add_sub_cancel] at h ⊢
 rw [hl, hw, dv_seg hV hV0 h]
 exact dvQ_step hV0 hn rfl
theorem dv_ltk {A V k m N : Nat} {vs : List UInt32} (hl : vs.length = m) (hw : wv vs = V) (hV : V < 4294967296 ^ m) (hV0 : 0 < V) (hk : 1 ≤ k) (h : k - 1 + (m + 1) ≤ N) :
  seg (wsN (dvU A V k) N) (k - 1) (vs.length + 1) < wv vs * 4294967296 := by
 obtain ⟨j, rfl⟩ : ∃ j, k = j + 1 := ⟨k - 1, by omega⟩
 rw [Nat.add_sub_cancel] at h ⊢
 rw [hl, hw, dv_seg hV hV0 h]
 exact dv_lt hV0
theorem dv_topk {b : Nat} {vs : List UInt32} (hb : b ≠ 0) (hl : vs.length = nw b) (hv : vs = wsN (b * 2 ^ sh b) (nw b)) : 2147483648 ≤ (vs.getD (vs.length - 1) 0).toNat := by
 rw [hl, hv]; exact div_top hb
theorem dv_rest0 {a b k : Nat} (hk : k = 0) : dvU (a * 2 ^ sh b) (b * 2 ^ sh b) k = (a % b) * 2 ^ sh b := by rw [hk, dvU_zero, div_rest]
theorem dv_quot0 {a b k : Nat} (hk : k = 0) (hb : b ≠ 0) (hab : nw b ≤ nw a) : wv (dvQ (a * 2 ^ sh b) (b * 2 ^ sh b) k (nw a + 1 - nw b)) = a / b := by rw [hk, dvQ_zero, div_quot (div_fits hb hab)]
end Go.Proofs.Ytgfomedobfaidaa
end
section
set_option linter.unusedVariables false
set_option linter.unusedSimpArgs false
set_option maxRecDepth 100000
namespace Go.Proofs.Ytgfomedobfaidaa
open Go.RowKit
theorem nat_Zero {lab : Lab} {w : World} (hv : Valid lab w) {a : Nat} {v0 : Value} (h0 : NatV a lab w v0) :
  Calls Try.prog 48 #[v0] w (fun e w' => ∃ v, e = .returned v ∧ (Is (.bool (decide (a = 0)))) lab w' v ∧ Below w.heap.size w w') := by
 obtain ⟨L0, h0L, ⟨zU0, z00⟩, hX⟩ := enter0 hv
 replace h0 := up z00 h0
 obtain ⟨A1, c2, rfl⟩ := NatV.shape h0
 have z3 := NatV.cap h0
 refine calls_run Try.func48 rfl Try.ntmps48 (Nat.le_of_ble_eq_true rfl) ?_
 refine rsr ?_
 refine sbox 2 [.slice A1 (nw a) c2] h0L rfl rfl fun b6 L4 w5 o7 s8 h9 => ?_
 refine sv (Does.assign rfl) ?_
 refine nsr ?_
 refine sv (Does.fieldAddr' 0 Try.underlying60 rfl ty58 rfl rfl) ?_
 have q11 := up s8 h0
 have q10 := NatV.words q11
 refine sv (Does.load_own1 o7 ty58 rfl rfl) ?_
 refine sv (Does.len Try.underlying58 rfl) ?_
 refine sv (Does.eql rfl rfl) ?_
 refine sv (Does.assign rfl) ?_
 refine Seq.next ?_
 obtain ⟨⟨zU, zo⟩, zb⟩ := hX s8 (by decide)
 refine Run.ret ?_
 exact post_one Try.results48 rfl ⟨_, rfl, (isBool (by exact decide_eq_decide.2 zero_iff) _ _), zb⟩
theorem bits_LeadingZeros32 {lab : Lab} {w : World} (hv : Valid lab w) {x : UInt32} :
  Calls Try.prog 158 #[u32 x] w (fun e w' => ∃ v, e = .returned v ∧ (Is (i64 ((lz x : Nat) : Int))) lab w' v ∧ Below w.heap.size w w') := by
 obtain ⟨L0, h0L, ⟨zU0, z00⟩, hX⟩ := enter0 hv
 have hz := lz_int x
 have hbl : blen x.toNat ≤ 32 := blen_le.2 (UInt32.toNat_lt _)
 refine calls_run Try.func158 rfl Try.ntmps158 (Nat.le_of_ble_eq_true rfl) ?_
 refine rsr ?_
 refine sv (Does.assign rfl) ?_
 refine nsr ?_
 refine sv (Does.move rfl) ?_
 refine scall (V := Is (i64 ((blen x.toNat : Nat) : Int))) cal161 h0L rfl (bits_Len32 h0L (x := x)) fun v1 w2 q3 s4 h5 => ?_
 have q3 := Is.out q3; subst q3
 refine sv (Does.sub rfl rfl (by omega)) ?_
 refine sv (Does.assign rfl) ?_
 refine Seq.next ?_
 obtain ⟨⟨zU, zo⟩, zb⟩ := hX s4 (by decide)
 refine Run.ret ?_
 exact post_one Try.results158 rfl ⟨_, rfl, (isI64 (by exact hz) _ _), zb⟩
theorem nat_Div {lab : Lab} {w : World} (hv : Valid lab w) {a : Nat} {v0 : Value} (h0 : NatV a lab w v0) {b : Nat} {v1 : Value} (h1 : NatV b lab w v1) (ha : nw a ≤ 999999) (hb : nw b ≤ 1000000) :
  Calls Try.prog 112 #[v0, v1] w (fun e w' => ∃ v, e = .returned v ∧ (And3 (NatV (a / b)) (NatV (if b = 0 then 0 else a % b)) (Is (i64 (if b = 0 then 5 else 0)))) lab w' v ∧ Below w.heap.size w w') := by
 obtain ⟨L0, h0L, ⟨zU0, z00⟩, hX⟩ := enter0 hv
 replace h0 := up z00 h0
 obtain ⟨A1, c2, rfl⟩ := NatV.shape h0
 have z3 := NatV.cap h0
 replace h1 := up z00 h1
 obtain ⟨A4, c5, rfl⟩ := NatV.shape h1
 have z6 := NatV.cap h1
 have hLa : (limbs a).length = nw a := rfl
 have hLb : (limbs b).length = nw b := rfl
 have hnz : b ≠ 0 → 0 < nw b := nw_pos_of
 have hsz : b ≠ 0 → sh b < 32 := sh_lt
 have hlz : b ≠ 0 → List.length (List.take (nw b) (shl (limbs b) (sh b))) = nw b := fun h => (by rw [div_v h, wsN_length])
 have hls : List.length (shl (limbs b) (sh b)) = nw b + 1 := shl_length _ _
 have hge : ¬ cmpI a b < 0 → nw b ≤ nw a := nw_ge
 refine calls_run Try.func112 rfl Try.ntmps112 (Nat.le_of_ble_eq_true rfl) ?_
 refine rsr ?_
 refine sbox 3 [.slice A1 (nw a) c2] h0L rfl rfl fun b9 L7 w8 o10 s11 h12 => ?_
 refine sbox 4 [.slice A4 (nw b) c5] h12 rfl rfl fun b15 L13 w14 o16 s17 h18 => ?_
 refine salloc 5 [.slice none 0 0] h18 ty60 rfl fun b21 L19 w20 o22 s23 h24 => ?_
 refine salloc 6 [.slice none 0 0] h24 ty60 rfl fun b27 L25 w26 o28 s29 h30 => ?_
 refine sv (Does.assign rfl) ?_
 refine Seq.next ?_
 refine Run.seq ?_
 refine Run.block ?_
 refine rsr ?_
 have c32 := s23.trans s29
 have o31 := o16.up c32
 refine sv (Does.load_ownN [.slice A4 (nw b) c5] o31 ty60 rfl rfl) ?_
 have c33 := s17.trans c32
 have c34 := s11.trans c33
 have q35 := up c34 h1
 refine scall (V := Is (.bool (decide (b = 0)))) cal48 h30 rfl (nat_Zero h30 q35) fun v36 w37 q38 s39 h40 => ?_
 have q38 := Is.out q38; subst q38
 refine sv (Does.assign rfl) ?_
 refine Seq.next ?_
 rcases Decidable.em (b = 0) with hp1 | hp1
 ·refine Run.cond_b rfl (decide_eq_true hp1) ?_
  refine rsr ?_
  refine sv (Does.build [] [(0, 1)] [.slice none 0 0] Try.underlying60 ty60 (by kernel_rfl) rfl (by kernel_rfl)) ?_
  refine sv (Does.build [] [(0, 1)] [.slice none 0 0] Try.underlying60 ty60 (by kernel_rfl) rfl (by kernel_rfl)) ?_
  have c42 := s29.trans s39
  have o41 := o22.up c42
  refine sstore [.slice none 0 0] h40 o41 ty60 rfl rfl rfl (Nat.le_of_ble_eq_true rfl) rfl rfl fun w43 o44 s45 h46 => ?_
  have c48 := s39.trans s45
  have o47 := o28.up c48
  refine sstore [.slice none 0 0] h46 o47 ty60 rfl rfl rfl (Nat.le_of_ble_eq_true rfl) rfl rfl fun w49 o50 s51 h52 => ?_
  refine sv (Does.assign rfl) ?_
  refine Seq.next ?_
  have o53 := o44.up s51
  have c54 := c48.trans s51
  have c55 := c34.trans c54
  obtain ⟨⟨zU, zo⟩, zb⟩ := hX c55 (by decide)
  have c56 := s45.trans s51
  have q57 := up c56 (NatV.zero L25 w37)
  have q58 := up c56 (NatV.zero L25 w37)
  refine Run.ret (ret_block (ret_then ?_))
  exact post_three Try.results112 ⟨_, rfl, Own.loadN [.slice none 0 0] o53 ty60 rfl⟩ ⟨_, rfl, Own.loadN [.slice none 0 0] o50 ty60 rfl⟩ rfl ⟨_, rfl, ⟨_, _, _, rfl, (NatV.cast (by rw [hp1, Nat.div_zero]) (up zo q57)), (NatV.cast (by rw [if_pos hp1]) (up zo q58)), (isI64 (by rw [if_pos hp1]) _ _)⟩, zb⟩
 refine Run.cond_b rfl (decide_eq_false hp1) ?_
 refine rsr ?_
 have c60 := c33.trans s39
 have o59 := o10.up c60
 refine sv (Does.load_ownN [.slice A1 (nw a) c2] o59 ty60 rfl rfl) ?_
 have o61 := o31.up s39
 refine sv (Does.load_ownN [.slice A4 (nw b) c5] o61 ty60 rfl rfl) ?_
 have c62 := c34.trans s39
 have q63 := up c62 h0
 have q64 := up s39 q35
 refine scall (V := Is (i64 (cmpI a b))) cal34 h40 rfl (nat_Cmp h40 q63 q64) fun v65 w66 q67 s68 h69 => ?_
 have q67 := Is.out q67; subst q67
 refine sv (Does.lss rfl rfl) ?_
 refine sv (Does.assign rfl) ?_
 refine Seq.next ?_
 rcases Decidable.em ((cmpI a b : Int) < (0 : Int)) with hp2 | hp2
 ·refine Run.cond_b rfl (decide_eq_true hp2) ?_
  refine Run.seq ?_
  refine Run.many [⟨26, .v (NatV 0), [], none⟩, ⟨27, .ex (.agg #[.slice A1 (nw a) c2]), [], none⟩, ⟨4, .v (BoxB b21 5 60 (NatV 0)), [5], none⟩] [1, 2] [[], [5], []] mixed (by kernel_rfl) (by kernel_rfl) rfl h69 ⟨stay_v, stay_ex, stay_boxB rfl, trivial⟩ ⟨?_, ?_, ?_, trivial⟩ (fun L98 w99 h100 s101 v102 q103 => ?_)
  ·refine rP [] rfl rfl rfl rfl fun L70 w71 h72 s73 => ?_
   replace s73 : Stp [] _ _ _ _ := s73
   exact ⟨_, Does.build [] [(0, 1)] [.slice none 0 0] Try.underlying60 ty60 (by kernel_rfl) rfl (by kernel_rfl), (NatV.zero L70 w71)⟩
  ·refine rP [] rfl rfl rfl rfl fun L74 w75 h76 s77 => ?_
   replace s77 : Stp [5] _ _ _ _ := s77
   have c79 := s68.trans s77
   have o78 := o59.up c79
   exact ⟨_, Does.load_ownN [.slice A1 (nw a) c2] o78 ty60 rfl rfl, rfl⟩
  ·refine rS [0] rfl rfl rfl fun L80 w81 h82 s83 v84 q85 => ?_
   replace s83 : Stp [] _ _ _ _ := s83
   obtain ⟨A86, c87, rfl⟩ := NatV.shape q85
   have z88 := NatV.cap q85
   have c90 := s68.trans s83
   have c91 := s39.trans c90
   have c92 := s29.trans c91
   have o89 := o22.up c92
   refine store_goR (v := (.agg #[.slice A86 (nw 0) c87])) [.slice A86 (nw 0) c87] h82 o89 ty60 rfl rfl rfl (Nat.le_of_ble_eq_true rfl) rfl rfl fun w93 s96 o97 => ?_
   exact ⟨(.agg #[.slice A86 (nw 0) c87]), rfl, o97, (up s96 q85)⟩
  replace s101 : Stp [5] _ _ _ _ := s101
  obtain ⟨u105, rfl, o106, q107⟩ := q103
  obtain ⟨A108, c109, rfl⟩ := NatV.shape q107
  have z110 := NatV.cap q107
  replace o106 : Own L98 w99 5 b21 60 #[.slice A108 (nw 0) c109] := o106
  have c112 := s68.trans s101
  have c113 := s39.trans c112
  have o111 := o28.up c113
  refine sstore [.slice A1 (nw a) c2] h100 o111 ty60 rfl rfl rfl (Nat.le_of_ble_eq_true rfl) rfl rfl fun w114 o115 s116 h117 => ?_
  refine sv (Does.assign rfl) ?_
  refine Seq.next ?_
  have o118 := o106.up s116
  have c119 := c112.trans s116
  have c120 := c62.trans c119
  obtain ⟨⟨zU, zo⟩, zb⟩ := hX c120 (by decide)
  have q121 := up s116 q107
  have q122 := up c119 q63
  refine Run.ret (ret_block (ret_then ?_))
  exact post_three Try.results112 ⟨_, rfl, Own.loadN [.slice A108 (nw 0) c109] o118 ty60 rfl⟩ ⟨_, rfl, Own.loadN [.slice A1 (nw a) c2] o115 ty60 rfl⟩ rfl ⟨_, rfl, ⟨_, _, _, rfl, (NatV.cast (by exact (Nat.div_eq_of_lt (cmp_lt hp2)).symm) (up zo q121)), (NatV.cast (by rw [if_neg hp1, Nat.mod_eq_of_lt (cmp_lt hp2)]) (up zo q122)), (isI64 (by rw [if_neg hp1]) _ _)⟩, zb⟩
 refine Run.cond_b rfl (decide_eq_false hp2) ?_
 refine rsr ?_
 refine sv (Does.fieldAddr' 0 Try.underlying60 rfl ty58 rfl rfl) ?_
 have o123 := o61.up s68
 have q125 := up s68 q64
 have q124 := NatV.words q125
 refine sv (Does.load_own1 o123 ty58 rfl rfl) ?_
 refine sv (Does.len Try.underlying58 rfl) ?_
 refine sv (Does.eql rfl rfl) ?_
 refine sv (Does.assign rfl) ?_
 refine Seq.next ?_
 rcases Decidable.em ((((nw b : Nat) : Int) : Int) = (1 : Int)) with hp3 | hp3
 ·refine Run.cond_b rfl (decide_eq_true hp3) ?_
  refine Run.seq ?_
  refine Run.many [⟨34, .ex (.agg #[.slice A1 (nw a) c2]), [], none⟩, ⟨35, .ex (.pointer (some ⟨b15, 0, none⟩)), [], none⟩, ⟨36, .v (WordsV (limbs b)), [], none⟩, ⟨37, .v (ElV (List.map u32 (limbs b)) 0), [], none⟩, ⟨38, .ex (u32 (List.getD (limbs b) 0 (0 : UInt32))), [], none⟩, ⟨39, .v (And2 (NatV (a / (List.getD (limbs b) 0 (0 : UInt32)).toNat)) (NatV (a % (List.getD (limbs b) 0 (0 : UInt32)).toNat))), [], none⟩, ⟨33, .v (And2 (NatV (a / (List.getD (limbs b) 0 (0 : UInt32)).toNat)) (NatV (a % (List.getD (limbs b) 0 (0 : UInt32)).toNat))), [], none⟩, ⟨40, .v (NatV (a / (List.getD (limbs b) 0 (0 : UInt32)).toNat)), [], none⟩, ⟨41, .v (NatV (a % (List.getD (limbs b) 0 (0 : UInt32)).toNat)), [], none⟩, ⟨7, .v (BoxV 8 60 (Is (.agg #[.slice none 0 0]))), [], (some 11)⟩, ⟨8, .v (BoxV 9 60 (Is (.agg #[.slice none 0 0]))), [], none⟩, ⟨7, .v (BoxV 8 60 (NatV (a / (List.getD (limbs b) 0 (0 : UInt32)).toNat))), [8], none⟩] [8, 10, 11] [[], [], [], [], [], [], [], [], [8], [], [], []] mixed (by kernel_rfl) (by kernel_rfl) rfl h69 ⟨stay_ex, stay_ex, stay_v, stay_v, stay_ex, stay_v, stay_v, stay_v, stay_v, stay_box rfl, stay_box rfl, stay_box rfl, trivial⟩ ⟨?_, (rX [] rfl rfl rfl rfl fun _ _ => Does.fieldAddr' 0 Try.underlying60 rfl ty58 rfl rfl), ?_, ?_, ?_, ?_, ?_, ?_, ?_, ?_, ?_, ?_, trivial⟩ (fun L243 w244 h245 s246 v247 q248 v252 q253 v258 q259 => ?_)
  ·refine rP [] rfl rfl rfl rfl fun L126 w127 h128 s129 => ?_
   replace s129 : Stp [] _ _ _ _ := s129
   have c131 := s68.trans s129
   have o130 := o59.up c131
   exact ⟨_, Does.load_ownN [.slice A1 (nw a) c2] o130 ty60 rfl rfl, rfl⟩
  ·refine rP [1] rfl rfl rfl rfl fun L136 w137 h138 s139 => ?_
   replace s139 : Stp [] _ _ _ _ := s139
   have o140 := o123.up s139
   have q142 := up s139 q125
   have q141 := NatV.words q142
   exact ⟨_, Does.load_own1 o140 ty58 rfl rfl, q141⟩
  ·refine rP [2] rfl rfl rfl rfl fun L143 w144 h145 s146 v147 q148 => ?_
   replace s146 : Stp [] _ _ _ _ := s146
   obtain ⟨A149, c150, rfl⟩ := WordsV.shapeN q148 (n := nw b) (by rfl)
   have z151 := WordsV.cap q148
   exact ⟨_, Does.index_row 0 Try.underlying58 ty167 rfl rfl (WordsV.row q148) (by simp [nw]) (by omega) (by omega), ⟨_, rfl, (WordsV.row q148)⟩⟩
  ·refine rP [3] rfl rfl rfl rfl fun L152 w153 h154 s155 v156 q157 => ?_
   replace s155 : Stp [] _ _ _ _ := s155
   obtain ⟨A158, rfl, r159⟩ := q157
   have t160 := UInt32.toNat_lt (List.getD (limbs b) 0 (0 : UInt32))
   exact ⟨_, Does.load_row ty167 rfl r159 (map_get u32 _ (0 : UInt32) (by omega)), rfl⟩
  ·refine rC [0, 4] rfl rfl rfl rfl cal157 fun L161 w162 h163 s164 => ?_
   replace s164 : Stp [] _ _ _ _ := s164
   have c165 := s68.trans s164
   have q166 := up c165 q63
   exact ⟨_, rfl, (nat_small h163 (d := List.getD (limbs b) 0 (0 : UInt32)) q166 (show (List.getD (limbs b) 0 (0 : UInt32)).toNat ≠ 0 from by (rw [one_word hp3]; exact hp1)) (show nw a ≤ 1000000 from by omega))⟩
  ·refine rP [5] rfl rfl rfl rfl fun L167 w168 h169 s170 v171 q172 => ?_
   replace s170 : Stp [] _ _ _ _ := s170
   obtain ⟨v173, v174, rfl, q175, q176⟩ := q172
   obtain ⟨A177, c178, rfl⟩ := NatV.shape q175
   have z179 := NatV.cap q175
   obtain ⟨A180, c181, rfl⟩ := NatV.shape q176
   have z182 := NatV.cap q176
   exact ⟨_, Does.move rfl, ⟨_, _, rfl, q175, q176⟩⟩
  ·refine rP [6] rfl rfl rfl rfl fun L183 w184 h185 s186 v187 q188 => ?_
   replace s186 : Stp [] _ _ _ _ := s186
   obtain ⟨v189, v190, rfl, q191, q192⟩ := q188
   obtain ⟨A193, c194, rfl⟩ := NatV.shape q191
   have z195 := NatV.cap q191
   obtain ⟨A196, c197, rfl⟩ := NatV.shape q192
   have z198 := NatV.cap q192
   exact ⟨_, Does.extract rfl rfl, q191⟩
  ·refine rP [6] rfl rfl rfl rfl fun L199 w200 h201 s202 v203 q204 => ?_
   replace s202 : Stp [8] _ _ _ _ := s202
   obtain ⟨v205, v206, rfl, q207, q208⟩ := q204
   obtain ⟨A209, c210, rfl⟩ := NatV.shape q207
   have z211 := NatV.cap q207
   obtain ⟨A212, c213, rfl⟩ := NatV.shape q208
   have z214 := NatV.cap q208
   exact ⟨_, Does.extract rfl rfl, q208⟩
  ·refine rN [] rfl rfl rfl rfl fun L215 w216 h217 s218 => ?_
   replace s218 : Stp [] _ _ _ _ := s218
   exact ⟨_, _, _, Does.alloc ty60, h217.alloc _ 8, Stp.alloc _ 8, ⟨_, (.agg #[.slice none 0 0]), rfl, Own.alloc _ _ _ _ 8, rfl⟩⟩
  ·refine rN [] rfl rfl rfl rfl fun L219 w220 h221 s222 => ?_
   replace s222 : Stp [] _ _ _ _ := s222
   exact ⟨_, _, _, Does.alloc ty60, h221.alloc _ 9, Stp.alloc _ 9, ⟨_, (.agg #[.slice none 0 0]), rfl, Own.alloc _ _ _ _ 9, rfl⟩⟩
  ·refine rS [7, 9] rfl rfl rfl fun L223 w224 h225 s226 v227 q228 v232 q233 => ?_
   replace s226 : Stp [] _ _ _ _ := s226
   obtain ⟨A229, c230, rfl⟩ := NatV.shape q228
   have z231 := NatV.cap q228
   obtain ⟨b234, u235, rfl, o236, q237⟩ := q233
   replace q237 := Is.out q237; subst q237
   replace o236 : Own L223 w224 8 b234 60 #[.slice none 0 0] := o236
   refine store_goR (v := (.agg #[.slice A229 (nw (a / (List.getD (limbs b) 0 (0 : UInt32)).toNat)) c230])) [.slice A229 (nw (a / (List.getD (limbs b) 0 (0 : UInt32)).toNat)) c230] h225 o236 ty60 rfl rfl rfl (Nat.le_of_ble_eq_true rfl) rfl rfl fun w238 s241 o242 => ?_
   exact ⟨_, (.agg #[.slice A229 (nw (a / (List.getD (limbs b) 0 (0 : UInt32)).toNat)) c230]), rfl, o242, (up s241 q228)⟩
  replace s246 : Stp [8] _ _ _ _ := s246
  obtain ⟨A249, c250, rfl⟩ := NatV.shape q248
  have z251 := NatV.cap q248
  obtain ⟨b254, u255, rfl, o256, q257⟩ := q253
  replace q257 := Is.out q257; subst q257
  replace o256 : Own L243 w244 9 b254 60 #[.slice none 0 0] := o256
  obtain ⟨b260, u261, rfl, o262, q263⟩ := q259
  obtain ⟨A264, c265, rfl⟩ := NatV.shape q263
  have z266 := NatV.cap q263
  replace o262 : Own L243 w244 8 b260 60 #[.slice A264 (nw (a / (List.getD (limbs b) 0 (0 : UInt32)).toNat)) c265] := o262
  refine sstore [.slice A249 (nw (a % (List.getD (limbs b) 0 (0 : UInt32)).toNat)) c250] h245 o256 ty60 rfl rfl rfl (Nat.le_of_ble_eq_true rfl) rfl rfl fun w267 o268 s269 h270 => ?_
  refine Seq.next ?_
  refine Run.seq ?_
  refine Run.many [⟨42, .ex (.agg #[.slice A264 (nw (a / (List.getD (limbs b) 0 (0 : UInt32)).toNat)) c265]), [], none⟩, ⟨43, .ex (.agg #[.slice A249 (nw (a % (List.getD (limbs b) 0 (0 : UInt32)).toNat)) c250]), [], none⟩, ⟨4, .v (BoxB b21 5 60 (Is (.agg #[.slice A264 (nw (a / (List.getD (limbs b) 0 (0 : UInt32)).toNat)) c265]))), [5], none⟩] [1, 2] [[], [5], []] mixed (by kernel_rfl) (by kernel_rfl) rfl h270 ⟨stay_ex, stay_ex, stay_boxB rfl, trivial⟩ ⟨?_, ?_, ?_, trivial⟩ (fun L297 w298 h299 s300 v301 q302 => ?_)
  ·refine rP [] rfl rfl rfl rfl fun L271 w272 h273 s274 => ?_
   replace s274 : Stp [] _ _ _ _ := s274
   have c276 := s269.trans s274
   have o275 := o262.up c276
   exact ⟨_, Does.load_ownN [.slice A264 (nw (a / (List.getD (limbs b) 0 (0 : UInt32)).toNat)) c265] o275 ty60 rfl rfl, rfl⟩
  ·refine rP [] rfl rfl rfl rfl fun L277 w278 h279 s280 => ?_
   replace s280 : Stp [5] _ _ _ _ := s280
   have o281 := o268.up s280
   exact ⟨_, Does.load_ownN [.slice A249 (nw (a % (List.getD (limbs b) 0 (0 : UInt32)).toNat)) c250] o281 ty60 rfl rfl, rfl⟩
  ·refine rS [0] rfl rfl rfl fun L282 w283 h284 s285 => ?_
   replace s285 : Stp [] _ _ _ _ := s285
   have c287 := s269.trans s285
   have c288 := s246.trans c287
   have c289 := s68.trans c288
   have c290 := s39.trans c289
   have c291 := s29.trans c290
   have o286 := o22.up c291
   refine store_goR (v := (.agg #[.slice A264 (nw (a / (List.getD (limbs b) 0 (0 : UInt32)).toNat)) c265])) [.slice A264 (nw (a / (List.getD (limbs b) 0 (0 : UInt32)).toNat)) c265] h284 o286 ty60 rfl rfl rfl (Nat.le_of_ble_eq_true rfl) rfl rfl fun w292 s295 o296 => ?_
   exact ⟨(.agg #[.slice A264 (nw (a / (List.getD (limbs b) 0 (0 : UInt32)).toNat)) c265]), rfl, o296, rfl⟩
  replace s300 : Stp [5] _ _ _ _ := s300
  obtain ⟨u304, rfl, o305, q306⟩ := q302
  replace q306 := Is.out q306; subst q306
  replace o305 : Own L297 w298 5 b21 60 #[.slice A264 (nw (a / (List.getD (limbs b) 0 (0 : UInt32)).toNat)) c265] := o305
  have c308 := s269.trans s300
  have c309 := s246.trans c308
  have c310 := s68.trans c309
  have c311 := s39.trans c310
  have o307 := o28.up c311
  refine sstore [.slice A249 (nw (a % (List.getD (limbs b) 0 (0 : UInt32)).toNat)) c250] h299 o307 ty60 rfl rfl rfl (Nat.le_of_ble_eq_true rfl) rfl rfl fun w312 o313 s314 h315 => ?_
  refine sv (Does.assign rfl) ?_
  refine Seq.next ?_
  have o316 := o305.up s314
  have c317 := c310.trans s314
  have c318 := c62.trans c317
  obtain ⟨⟨zU, zo⟩, zb⟩ := hX c318 (by decide)
  have c319 := c308.trans s314
  have q320 := up c319 q263
  have q321 := up c319 q248
  refine Run.ret (ret_block (ret_then ?_))
  exact post_three Try.results112 ⟨_, rfl, Own.loadN [.slice A264 (nw (a / (List.getD (limbs b) 0 (0 : UInt32)).toNat)) c265] o316 ty60 rfl⟩ ⟨_, rfl, Own.loadN [.slice A249 (nw (a % (List.getD (limbs b) 0 (0 : UInt32)).toNat)) c250] o313 ty60 rfl⟩ rfl ⟨_, rfl, ⟨_, _, _, rfl, (NatV.cast (by rw [one_word hp3]) (up zo q320)), (NatV.cast (by rw [if_neg hp1, one_word hp3]) (up zo q321)), (isI64 (by rw [if_neg hp1]) _ _)⟩, zb⟩
 refine Run.cond_b rfl (decide_eq_false hp3) ?_
 refine Run.skip_go (fun _ _ h => h) ?_
 refine rsr ?_
 refine sv (Does.fieldAddr' 0 Try.underlying60 rfl ty58 rfl rfl) ?_
 have q322 := NatV.words q125
 refine sv (Does.load_own1 o123 ty58 rfl rfl) ?_
 refine sv (Does.fieldAddr' 0 Try.underlying60 rfl ty58 rfl rfl) ?_
 have q323 := NatV.words q125
 refine sv (Does.load_own1 o123 ty58 rfl rfl) ?_
 refine sv (Does.len Try.underlying58 rfl) ?_
 refine sv (Does.sub rfl rfl (by omega)) ?_
 refine sv (Does.index_row ((nw b) - 1) Try.underlying58 ty167 rfl rfl (WordsV.row q322) (by simp [nw]) (by omega) (by omega)) ?_
 have t324 := UInt32.toNat_lt (List.getD (limbs b) ((nw b) - 1) (0 : UInt32))
 refine sv (Does.load_row ty167 rfl (WordsV.row q322) (map_get u32 _ (0 : UInt32) (by omega))) ?_
 refine scall (V := Is (i64 ((lz (List.getD (limbs b) ((nw b) - 1) (0 : UInt32)) : Nat) : Int))) cal158 h69 rfl (bits_LeadingZeros32 h69 (x := List.getD (limbs b) ((nw b) - 1) (0 : UInt32))) fun v325 w326 q327 s328 h329 => ?_
 have q327 := Is.out q327; subst q327
 refine sv (Does.assign rfl) ?_
 refine Seq.next ?_
 refine Run.seq ?_
 refine Run.open 14 (Φ := [.ex (.pointer (some ⟨b9, 0, none⟩)), .v (WordsV (limbs a)), .ex (i64 ((lz (List.getD (limbs b) ((nw b) - 1) (0 : UInt32)) : Nat) : Int)), .v (RowF 57 167 (List.length (limbs a) + 1) (List.map u32 (shl (limbs a) (sh b)))), .ex (.pointer (some ⟨b15, 0, none⟩)), .v (WordsV (limbs b)), .ex (i64 ((lz (List.getD (limbs b) ((nw b) - 1) (0 : UInt32)) : Nat) : Int)), .v (WordsV (shl (limbs b) (sh b))), .ex (.pointer (some ⟨b15, 0, none⟩)), .v (WordsV (limbs b)), .ex (i64 ((nw b : Nat) : Int)), .v (WordsV (List.take (nw b) (shl (limbs b) (sh b)))), .v (RowF 57 167 (List.length (limbs a) + 1) (List.map u32 (shl (limbs a) (sh b)))), .v (WordsV (List.take (nw b) (shl (limbs b) (sh b))))]) [(12, 10), (13, 11)] mixed (by kernel_rfl) rfl h329 ⟨(oX [] rfl rfl rfl fun _ _ => Does.fieldAddr' 0 Try.underlying60 rfl ty58 rfl rfl), ?_, (oX [] rfl rfl rfl fun _ _ => Does.move rfl), ?_, (oX [] rfl rfl rfl fun _ _ => Does.fieldAddr' 0 Try.underlying60 rfl ty58 rfl rfl), ?_, (oX [] rfl rfl rfl fun _ _ => Does.move rfl), ?_, (oX [] rfl rfl rfl fun _ _ => Does.fieldAddr' 0 Try.underlying60 rfl ty58 rfl rfl), ?_, ?_, ?_, (oP [(3, 56)] rfl rfl fun L412 w413 h414 s415 v q => ⟨_, Does.assign rfl, q⟩), ?_, trivial⟩ (fun L430 w431 h432 s433 v434 q435 v439 q440 => ?_)
 ·refine oP [(0, 53)] rfl rfl fun L334 w335 h336 s337 => ?_
  have c339 := s328.trans s337
  have c340 := s68.trans c339
  have o338 := o59.up c340
  have q342 := up c340 q63
  have q341 := NatV.words q342
  exact ⟨_, Does.load_own1 o338 ty58 rfl rfl, q341⟩
 ·refine oE [(1, 54), (2, 55)] rfl rfl cal159 fun L347 w348 h349 s350 v351 q352 => ?_
  obtain ⟨A353, c354, rfl⟩ := WordsV.shapeN q352 (n := nw a) (by rfl)
  have z355 := WordsV.cap q352
  exact ⟨_, rfl, (nat_shiftO h349 (n := (sh b)) q352 (show List.length (limbs a) ≤ 1000000 from by omega) (show (sh b) < 32 from by omega))⟩
 ·refine oP [(4, 57)] rfl rfl fun L360 w361 h362 s363 => ?_
  have c365 := s328.trans s363
  have o364 := o123.up c365
  have q367 := up c365 q125
  have q366 := NatV.words q367
  exact ⟨_, Does.load_own1 o364 ty58 rfl rfl, q366⟩
 ·refine oC [(5, 58), (6, 59)] rfl rfl cal159 fun L372 w373 h374 s375 v376 q377 => ?_
  obtain ⟨A378, c379, rfl⟩ := WordsV.shapeN q377 (n := nw b) (by rfl)
  have z380 := WordsV.cap q377
  exact ⟨_, rfl, (nat_shift h374 (n := (sh b)) q377 (show List.length (limbs b) ≤ 1000000 from by assumption) (show (sh b) < 32 from by omega))⟩
 ·refine oP [(8, 61)] rfl rfl fun L385 w386 h387 s388 => ?_
  have c390 := s328.trans s388
  have o389 := o123.up c390
  have q392 := up c390 q125
  have q391 := NatV.words q392
  exact ⟨_, Does.load_own1 o389 ty58 rfl rfl, q391⟩
 ·refine oP [(9, 62)] rfl rfl fun L393 w394 h395 s396 v397 q398 => ?_
  obtain ⟨A399, c400, rfl⟩ := WordsV.shapeN q398 (n := nw b) (by rfl)
  have z401 := WordsV.cap q398
  exact ⟨_, Does.len Try.underlying58 rfl, rfl⟩
 ·refine oP [(7, 60), (10, 63)] rfl rfl fun L402 w403 h404 s405 v406 q407 => ?_
  obtain ⟨A408, c409, rfl⟩ := WordsV.shape q407
  have z410 := WordsV.cap q407
  have q411 := WordsV.takeN q407 (nw b) (by omega)
  exact ⟨_, Does.slice_hi (nw b) Try.underlying58 ty167 rfl rfl (by omega) (by have := (WordsV.cap q407).2; omega), q411⟩
 ·refine oP [(11, 64)] rfl rfl fun L421 w422 h423 s424 v425 q426 => ?_
  obtain ⟨A427, c428, rfl⟩ := WordsV.shape q426
  have z429 := WordsV.cap q426
  exact ⟨_, Does.assign rfl, q426⟩
 obtain ⟨b436, rfl, m437, o438⟩ := q435
 obtain ⟨A441, c442, rfl⟩ := WordsV.shape q440
 have z443 := WordsV.cap q440
 refine nsr ?_
 refine sv (Does.move rfl) ?_
 refine sv (Does.len Try.underlying58 rfl) ?_
 refine sv (Does.move rfl) ?_
 refine sv (Does.len Try.underlying58 rfl) ?_
 refine sv (Does.sub rfl rfl (by omega)) ?_
 refine Seq.make_row (k := 71) u32 (0 : UInt32) ((((List.length (limbs a) + 1 : Nat) : Int) - ((List.length (List.take (nw b) (shl (limbs b) (sh b))) : Nat) : Int)).toNat) h432 Try.underlying58 ty167 rfl rfl rfl (by omega) (by omega) (by omega) (by omega) (by decide) ?_
 intro lab444 w445 b446 o447 s448 hv449
 refine sv (Does.assign rfl) ?_
 refine Seq.next ?_
 refine Run.seq ?_
 refine rsr ?_
 refine sv (Does.move rfl) ?_
 refine sv (Does.len Try.underlying58 rfl) ?_
 refine sv (Does.sub rfl rfl (by omega)) ?_
 refine sv (Does.assign rfl) ?_
 refine Seq.next ?_
 refine Run.block ?_
 have o450 := o438.up s448
 refine Run.loop (fun m' l' w' => ∃ (k : Nat) (lab' : Lab), m' = k ∧ l' = [(13, i64 (((k : Nat) : Int) - 1)), (4, .pointer (some ⟨b21, 0, none⟩)), (5, .pointer (some ⟨b27, 0, none⟩)), (6, .int .i64 0), (9, i64 ((lz (List.getD (limbs b) ((nw b) - 1) (0 : UInt32)) : Nat) : Int)), (10, .slice (some ⟨b436, 0, none⟩) (List.length (limbs a) + 1) (List.length (limbs a) + 1)), (11, .slice A441 (List.length (List.take (nw b) (shl (limbs b) (sh b)))) c442), (12, .slice (some ⟨b446, 0, none⟩) ((((List.length (limbs a) + 1 : Nat) : Int) - ((List.length (List.take (nw b) (shl (limbs b) (sh b))) : Nat) : Int)).toNat) ((((List.length (limbs a) + 1 : Nat) : Int) - ((List.length (List.take (nw b) (shl (limbs b) (sh b))) : Nat) : Int)).toNat))] ∧ Valid lab' w' ∧ Stp [57, 71] lab444 w445 lab' w' ∧ Own lab' w' 57 b436 167 (List.map u32 (wsN (dvU (a * 2 ^ sh b) (b * 2 ^ sh b) k) (nw a + 1))).toArray ∧ Own lab' w' 71 b446 167 (List.map u32 (dvQ (a * 2 ^ sh b) (b * 2 ^ sh b) k (nw a + 1 - nw b))).toArray ∧ (k ≤ nw a + 1 - nw b)) ((nw a + 1 - nw b)) (l0 := [(13, i64 ((((nw a + 1 - nw b) : Nat) : Int) - 1)), (4, .pointer (some ⟨b21, 0, none⟩)), (5, .pointer (some ⟨b27, 0, none⟩)), (6, .int .i64 0), (9, i64 ((lz (List.getD (limbs b) ((nw b) - 1) (0 : UInt32)) : Nat) : Int)), (10, .slice (some ⟨b436, 0, none⟩) (List.length (limbs a) + 1) (List.length (limbs a) + 1)), (11, .slice A441 (List.length (List.take (nw b) (shl (limbs b) (sh b)))) c442), (12, .slice (some ⟨b446, 0, none⟩) ((((List.length (limbs a) + 1 : Nat) : Int) - ((List.length (List.take (nw b) (shl (limbs b) (sh b))) : Nat) : Int)).toNat) ((((List.length (limbs a) + 1 : Nat) : Int) - ((List.length (List.take (nw b) (shl (limbs b) (sh b))) : Nat) : Int)).toNat))]) ⟨(congrArg (fun z => some (i64 z)) (show ((((((List.length (limbs a) + 1 : Nat) : Int) - ((List.length (List.take (nw b) (shl (limbs b) (sh b))) : Nat) : Int)).toNat : Nat) : Int) - 1 : Int) = (((nw a + 1 - nw b) : Nat) : Int) - 1 from by omega)), rfl, rfl, rfl, rfl, rfl, rfl, rfl, trivial⟩ ⟨nw a + 1 - nw b, lab444, rfl, rfl, hv449, ((Stp.refl _ _).more (by simp)), ((show shl (limbs a) (sh b) = wsN (dvU (a * 2 ^ sh b) (b * 2 ^ sh b) (nw a + 1 - nw b)) (nw a + 1) from by exact dv_begin hp1 (nw_ge hp2)) ▸ o450), ((show List.replicate ((((List.length (limbs a) + 1 : Nat) : Int) - ((List.length (List.take (nw b) (shl (limbs b) (sh b))) : Nat) : Int)).toNat) (0 : UInt32) = dvQ (a * 2 ^ sh b) (b * 2 ^ sh b) (nw a + 1 - nw b) (nw a + 1 - nw b) from by exact dv_beginQ hp1 (nw_ge hp2) (by omega)) ▸ o447), (by omega)⟩ ?_
 intro m451 l452 w453 H454
 obtain ⟨k, lab455, hzm, rfl, hv456, s457, o458, o459, hk⟩ := H454
 replace hzm := hzm.symm; subst hzm
 have hab := nw_ge hp2
 have hlv : List.length (List.take (nw b) (shl (limbs b) (sh b))) = nw b := (by rw [div_v hp1, wsN_length])
 have hwv : wv (List.take (nw b) (shl (limbs b) (sh b))) = b * 2 ^ sh b := (by rw [div_v hp1, wv_div_v hp1])
 have hV0 := sh_pos hp1
 have hVl := shl_lt_pow hp1
 have hnb := nw_pos_of hp1
 have hsh := sh_lt hp1
 refine Run.seq ?_
 refine rsr ?_
 refine sv (Does.move rfl) ?_
 refine sv (Does.geq rfl rfl) ?_
 refine Seq.next ?_
 rcases Decidable.em ((0 : Int) ≤ (((k : Nat) : Int) - 1 : Int)) with hp4 | hp4
 ·refine Run.cond_b rfl (decide_eq_true hp4) ?_
  refine Run.skip_go (fun _ _ h => h) ?_
  refine Run.seq ?_
  refine Run.block ?_
  refine Run.region ?_
  refine sv (Does.move rfl) ?_
  refine sv (Does.move rfl) ?_
  refine sv (Does.move rfl) ?_
  refine sv (Does.move rfl) ?_
  refine sv (Does.move rfl) ?_
  refine sv (Does.move rfl) ?_
  refine sv (Does.len Try.underlying58 rfl) ?_
  refine sv (Does.add rfl rfl (by omega)) ?_
  refine sv (Does.add rfl rfl (by omega)) ?_
  refine sv (Does.slice_own (k - 1) ((((((k : Nat) : Int) - 1) + ((List.length (List.take (nw b) (shl (limbs b) (sh b))) : Nat) : Int)) + 1).toNat) Try.underlying58 ty167 rfl rfl rfl (by omega) (by omega) (by omega) (by omega)) ?_
  refine sv (Does.move rfl) ?_
  have c460 := s448.trans s457
  have q461 := up c460 q440
  refine scallE cal160 rfl (nat_digit hv456  o458 (by (rw [wsN_length]; omega)) q461 (show  (((((((k : Nat) : Int) - 1) + ((List.length (List.take (nw b) (shl (limbs b) (sh b))) : Nat) : Int)) + 1).toNat) - (k - 1)) = List.length (List.take (nw b) (shl (limbs b) (sh b))) + 1 from by omega) (show  2 ≤ List.length (List.take (nw b) (shl (limbs b) (sh b))) from by omega) (show  2147483648 ≤ (List.getD (List.take (nw b) (shl (limbs b) (sh b))) (List.length (List.take (nw b) (shl (limbs b) (sh b))) - 1) 0).toNat from by exact dv_topk hp1 hlv (div_v hp1)) (show  seg (wsN (dvU (a * 2 ^ sh b) (b * 2 ^ sh b) k) (nw a + 1)) (k - 1) (List.length (List.take (nw b) (shl (limbs b) (sh b))) + 1) < wv (List.take (nw b) (shl (limbs b) (sh b))) * 4294967296 from by exact dv_ltk hlv hwv hVl hV0 (by omega) (by omega)) (show  List.length (List.take (nw b) (shl (limbs b) (sh b))) ≤ 1000000 from by omega)) fun v462 L467 w470 r469 s465 h466 => ?_
  obtain ⟨q464, o468⟩ := r469
  have q464 := Is.out q464; subst q464
  refine sv (Does.index_own (k - 1) Try.underlying58 ty167 rfl rfl (by omega) (by omega)) ?_
  have o471 := o459.up s465
  refine Seq.store_row (k := 71) (j := (k - 1)) (v := (UInt32.ofNat (seg (wsN (dvU (a * 2 ^ sh b) (b * 2 ^ sh b) k) (nw a + 1)) (k - 1) (List.length (List.take (nw b) (shl (limbs b) (sh b))) + 1) / wv (List.take (nw b) (shl (limbs b) (sh b)))))) u32 h466 o471 ty167 (congrArg (fun o => some (Value.pointer (some ⟨b446, o, none⟩))) (Nat.mul_one (k - 1))) rfl (by (rw [dvQ_length]; omega)) rfl rfl fun w472 o473 s474 h475 => ?_
  refine Seq.go (fun _ _ h => h) ?_
  refine Run.region ?_
  refine sv (Does.move rfl) ?_
  refine sv (Does.sub rfl rfl (by omega)) ?_
  refine sv (Does.assign rfl) ?_
  have o476 := o468.up s474
  have c477 := s465.trans s474
  have c478 := s457.trans c477
  exact Seq.nil (fun a479 h480 => ⟨_, by omega, _, h480.weaken (subs_lk (l' := [(13, i64 ((((k - 1) : Nat) : Int) - 1)), (4, .pointer (some ⟨b21, 0, none⟩)), (5, .pointer (some ⟨b27, 0, none⟩)), (6, .int .i64 0), (9, i64 ((lz (List.getD (limbs b) ((nw b) - 1) (0 : UInt32)) : Nat) : Int)), (10, .slice (some ⟨b436, 0, none⟩) (List.length (limbs a) + 1) (List.length (limbs a) + 1)), (11, .slice A441 (List.length (List.take (nw b) (shl (limbs b) (sh b)))) c442), (12, .slice (some ⟨b446, 0, none⟩) ((((List.length (limbs a) + 1 : Nat) : Int) - ((List.length (List.take (nw b) (shl (limbs b) (sh b))) : Nat) : Int)).toNat) ((((List.length (limbs a) + 1 : Nat) : Int) - ((List.length (List.take (nw b) (shl (limbs b) (sh b))) : Nat) : Int)).toNat))]) ⟨(congrArg (fun z => some (i64 z)) (show ((((k : Nat) : Int) - 1) - 1 : Int) = (((k - 1) : Nat) : Int) - 1 from by omega)), rfl, rfl, rfl, rfl, rfl, rfl, rfl, trivial⟩), ⟨k - 1, L467, rfl, rfl, h475, (c478.more (by decide)), ((show putAt (wsN (dvU (a * 2 ^ sh b) (b * 2 ^ sh b) k) (nw a + 1)) (k - 1) (wsN (seg (wsN (dvU (a * 2 ^ sh b) (b * 2 ^ sh b) k) (nw a + 1)) (k - 1) (List.length (List.take (nw b) (shl (limbs b) (sh b))) + 1) % wv (List.take (nw b) (shl (limbs b) (sh b)))) (List.length (List.take (nw b) (shl (limbs b) (sh b))) + 1)) = wsN (dvU (a * 2 ^ sh b) (b * 2 ^ sh b) (k - 1)) (nw a + 1) from by exact dv_rowk hlv hwv hVl hV0 (by omega) (by omega)) ▸ o476), ((show List.set (dvQ (a * 2 ^ sh b) (b * 2 ^ sh b) k (nw a + 1 - nw b)) (k - 1) (UInt32.ofNat (seg (wsN (dvU (a * 2 ^ sh b) (b * 2 ^ sh b) k) (nw a + 1)) (k - 1) (List.length (List.take (nw b) (shl (limbs b) (sh b))) + 1) / wv (List.take (nw b) (shl (limbs b) (sh b))))) = dvQ (a * 2 ^ sh b) (b * 2 ^ sh b) (k - 1) (nw a + 1 - nw b) from by exact dv_qk hlv hwv hVl hV0 (by omega) (by omega) (by omega)) ▸ o473), (by omega)⟩⟩)
 refine Run.cond_b rfl (decide_eq_false hp4) ?_
 refine Run.exit_go (fun _ _ h => h) ?_
 refine rsr ?_
 refine sv (Does.move rfl) ?_
 refine sv (Does.len Try.underlying58 rfl) ?_
 refine Seq.make_row (k := 94) u32 (0 : UInt32) (List.length (List.take (nw b) (shl (limbs b) (sh b)))) hv456 Try.underlying58 ty167 rfl rfl rfl (by omega) (by omega) (by omega) (by omega) (by decide) ?_
 intro lab481 w482 b483 o484 s485 hv486
 refine sv (Does.assign rfl) ?_
 refine Seq.next ?_
 refine Run.seq ?_
 refine rsr ?_
 refine sv (Does.move rfl) ?_
 refine sv (Does.len Try.underlying58 rfl) ?_
 refine sv (Does.move rfl) ?_
 refine Seq.next ?_
 refine Run.block ?_
 refine Run.loop (fun m' l' w' => ∃ (i : Nat) (lab' : Lab), m' = nw b - i ∧ l' = [(96, i64 ((i : Nat) : Int)), (4, .pointer (some ⟨b21, 0, none⟩)), (5, .pointer (some ⟨b27, 0, none⟩)), (6, .int .i64 0), (9, i64 ((lz (List.getD (limbs b) ((nw b) - 1) (0 : UInt32)) : Nat) : Int)), (10, .slice (some ⟨b436, 0, none⟩) (List.length (limbs a) + 1) (List.length (limbs a) + 1)), (12, .slice (some ⟨b446, 0, none⟩) ((((List.length (limbs a) + 1 : Nat) : Int) - ((List.length (List.take (nw b) (shl (limbs b) (sh b))) : Nat) : Int)).toNat) ((((List.length (limbs a) + 1 : Nat) : Int) - ((List.length (List.take (nw b) (shl (limbs b) (sh b))) : Nat) : Int)).toNat)), (14, .slice (some ⟨b483, 0, none⟩) (List.length (List.take (nw b) (shl (limbs b) (sh b)))) (List.length (List.take (nw b) (shl (limbs b) (sh b))))), (95, i64 ((List.length (List.take (nw b) (shl (limbs b) (sh b))) : Nat) : Int))] ∧ Valid lab' w' ∧ Stp [94] lab481 w482 lab' w' ∧ Own lab' w' 94 b483 167 (List.map u32 (upto (a % b) i (nw b))).toArray ∧ (i ≤ nw b)) (nw b - 0) (l0 := [(96, i64 ((0 : Nat) : Int)), (4, .pointer (some ⟨b21, 0, none⟩)), (5, .pointer (some ⟨b27, 0, none⟩)), (6, .int .i64 0), (9, i64 ((lz (List.getD (limbs b) ((nw b) - 1) (0 : UInt32)) : Nat) : Int)), (10, .slice (some ⟨b436, 0, none⟩) (List.length (limbs a) + 1) (List.length (limbs a) + 1)), (12, .slice (some ⟨b446, 0, none⟩) ((((List.length (limbs a) + 1 : Nat) : Int) - ((List.length (List.take (nw b) (shl (limbs b) (sh b))) : Nat) : Int)).toNat) ((((List.length (limbs a) + 1 : Nat) : Int) - ((List.length (List.take (nw b) (shl (limbs b) (sh b))) : Nat) : Int)).toNat)), (14, .slice (some ⟨b483, 0, none⟩) (List.length (List.take (nw b) (shl (limbs b) (sh b)))) (List.length (List.take (nw b) (shl (limbs b) (sh b))))), (95, i64 ((List.length (List.take (nw b) (shl (limbs b) (sh b))) : Nat) : Int))]) ⟨(congrArg (fun z => some (i64 z)) (show (0 : Int) = ((0 : Nat) : Int) from by rfl)), rfl, rfl, rfl, rfl, rfl, rfl, rfl, rfl, trivial⟩ ⟨0, lab481, rfl, rfl, hv486, ((Stp.refl _ _).more (by simp)), ((show List.replicate (List.length (List.take (nw b) (shl (limbs b) (sh b)))) (0 : UInt32) = upto (a % b) 0 (nw b) from by rw [upto_zero, hlz hp1]) ▸ o484), (by omega)⟩ ?_
 intro m487 l488 w489 H490
 obtain ⟨i, lab491, hzm, rfl, hv492, s493, o494, hi⟩ := H490
 replace hzm := hzm.symm; subst hzm
 have hk0 : k = 0 := (by omega)
 have hu := dv_rest0 (a := a) (b := b) hk0
 have hw1 := UInt32.toNat_lt (List.getD (wsN (dvU (a * 2 ^ sh b) (b * 2 ^ sh b) k) (nw a + 1)) (i + 1) 0)
 have hw2 := UInt32.toNat_lt (List.getD (wsN (dvU (a * 2 ^ sh b) (b * 2 ^ sh b) k) (nw a + 1)) i 0)
 refine rsr ?_
 refine sv (Does.lss rfl rfl) ?_
 refine Seq.next ?_
 refine Run.seq ?_
 rcases Decidable.em ((((i : Nat) : Int) : Int) < (((List.length (List.take (nw b) (shl (limbs b) (sh b))) : Nat) : Int) : Int)) with hp5 | hp5
 rotate_left
 ·refine Run.cond_b rfl (decide_eq_false hp5) ?_
  refine Run.exit_go (fun _ _ h => h) ?_
  refine rsr ?_
  refine sv (Does.move rfl) ?_
  have c593 := s485.trans s493
  have o592 := o459.up c593
  have hv594 := Valid.release hv492 71
  have q595 : WordsV (dvQ (a * 2 ^ sh b) (b * 2 ^ sh b) k (nw a + 1 - nw b)) (labFree lab491 71) w489 (.slice (some ⟨b446, 0, none⟩) ((((List.length (limbs a) + 1 : Nat) : Int) - ((List.length (List.take (nw b) (shl (limbs b) (sh b))) : Nat) : Int)).toNat) ((((List.length (limbs a) + 1 : Nat) : Int) - ((List.length (List.take (nw b) (shl (limbs b) (sh b))) : Nat) : Int)).toNat)) := WordsV.release o592 (by (rw [dvQ_length]; omega)) (by omega)
  refine scall (V := NatV (wv (dvQ (a * 2 ^ sh b) (b * 2 ^ sh b) k (nw a + 1 - nw b)))) cal105 hv594 rfl (nat_trim hv594 q595) fun v596 w597 q598 s599 h600 => ?_
  obtain ⟨A601, c602, rfl⟩ := NatV.shape q598
  have z603 := NatV.cap q598
  refine sv (Does.move rfl) ?_
  have c605 := (Stp.release (lab := lab491) (w := w489) 71).trans s599
  have o604 := o494.up c605
  have hv606 := Valid.release h600 94
  have q607 : WordsV (upto (a % b) i (nw b)) (labFree (labFree lab491 71) 94) w597 (.slice (some ⟨b483, 0, none⟩) (List.length (List.take (nw b) (shl (limbs b) (sh b)))) (List.length (List.take (nw b) (shl (limbs b) (sh b))))) := WordsV.release o604 (by (rw [upto_length (by omega)]; omega)) (by omega)
  refine scall (V := NatV (wv (upto (a % b) i (nw b)))) cal105 hv606 rfl (nat_trim hv606 q607) fun v608 w609 q610 s611 h612 => ?_
  obtain ⟨A613, c614, rfl⟩ := NatV.shape q610
  have z615 := NatV.cap q610
  have c617 := (Stp.release (lab := (labFree lab491 71)) (w := w597) 94).trans s611
  have c618 := c605.trans c617
  have c619 := c593.trans c618
  have c620 := s457.trans c619
  have c621 := s448.trans c620
  have c622 := s433.trans c621
  have c623 := s328.trans c622
  have c624 := s68.trans c623
  have c625 := s39.trans c624
  have c626 := s29.trans c625
  have o616 := o22.up c626
  refine sstore [.slice A601 (nw (wv (dvQ (a * 2 ^ sh b) (b * 2 ^ sh b) k (nw a + 1 - nw b)))) c602] h612 o616 ty60 rfl rfl rfl (Nat.le_of_ble_eq_true rfl) rfl rfl fun w627 o628 s629 h630 => ?_
  have c632 := c625.trans s629
  have o631 := o28.up c632
  refine sstore [.slice A613 (nw (wv (upto (a % b) i (nw b)))) c614] h630 o631 ty60 rfl rfl rfl (Nat.le_of_ble_eq_true rfl) rfl rfl fun w633 o634 s635 h636 => ?_
  refine sv (Does.assign rfl) ?_
  refine Seq.next ?_
  have o637 := o628.up s635
  have c638 := s629.trans s635
  have c639 := c624.trans c638
  have c640 := c62.trans c639
  obtain ⟨⟨zU, zo⟩, zb⟩ := hX c640 (by decide)
  have c641 := c617.trans c638
  have q642 := up c641 q598
  have q643 := up c638 q610
  refine Run.ret ?_
  exact post_three Try.results112 ⟨_, rfl, Own.loadN [.slice A601 (nw (wv (dvQ (a * 2 ^ sh b) (b * 2 ^ sh b) k (nw a + 1 - nw b)))) c602] o637 ty60 rfl⟩ ⟨_, rfl, Own.loadN [.slice A613 (nw (wv (upto (a % b) i (nw b)))) c614] o634 ty60 rfl⟩ rfl ⟨_, rfl, ⟨_, _, _, rfl, (NatV.cast (by exact dv_quot0 (by omega) hp1 (nw_ge hp2)) (up zo q642)), (NatV.cast (by rw [if_neg hp1, rest_fin hp1 (by omega)]) (up zo q643)), (isI64 (by rw [if_neg hp1]) _ _)⟩, zb⟩
 refine Run.cond_b rfl (decide_eq_true hp5) ?_
 refine Run.skip_go (fun _ _ h => h) ?_
 refine Run.seq ?_
 refine Run.block ?_
 refine rsr ?_
 refine sv (Does.move rfl) ?_
 refine sv (Does.assign rfl) ?_
 refine Seq.next ?_
 refine Run.open 19 (Φ := [.ex (.slice (some ⟨b483, 0, none⟩) (List.length (List.take (nw b) (shl (limbs b) (sh b)))) (List.length (List.take (nw b) (shl (limbs b) (sh b))))), .ex (i64 ((i : Nat) : Int)), .ex (.slice (some ⟨b436, 0, none⟩) (List.length (limbs a) + 1) (List.length (limbs a) + 1)), .ex (i64 ((i : Nat) : Int)), .ex (i64 (((i : Nat) : Int) + 1)), .ex (.pointer (some ⟨b436, (i + 1) * 1, none⟩)), .ex (u32 (List.getD (wsN (dvU (a * 2 ^ sh b) (b * 2 ^ sh b) k) (nw a + 1)) (i + 1) (0 : UInt32))), .ex (n64 ((List.getD (wsN (dvU (a * 2 ^ sh b) (b * 2 ^ sh b) k) (nw a + 1)) (i + 1) (0 : UInt32)).toNat)), .ex (n64 (((List.getD (wsN (dvU (a * 2 ^ sh b) (b * 2 ^ sh b) k) (nw a + 1)) (i + 1) (0 : UInt32)).toNat) * 4294967296)), .ex (.slice (some ⟨b436, 0, none⟩) (List.length (limbs a) + 1) (List.length (limbs a) + 1)), .ex (i64 ((i : Nat) : Int)), .ex (.pointer (some ⟨b436, i * 1, none⟩)), .ex (u32 (List.getD (wsN (dvU (a * 2 ^ sh b) (b * 2 ^ sh b) k) (nw a + 1)) i (0 : UInt32))), .ex (n64 ((List.getD (wsN (dvU (a * 2 ^ sh b) (b * 2 ^ sh b) k) (nw a + 1)) i (0 : UInt32)).toNat)), .ex (n64 ((((List.getD (wsN (dvU (a * 2 ^ sh b) (b * 2 ^ sh b) k) (nw a + 1)) (i + 1) (0 : UInt32)).toNat) * 4294967296) + ((List.getD (wsN (dvU (a * 2 ^ sh b) (b * 2 ^ sh b) k) (nw a + 1)) i (0 : UInt32)).toNat))), .ex (i64 ((lz (List.getD (limbs b) ((nw b) - 1) (0 : UInt32)) : Nat) : Int)), .ex (n64 (((((List.getD (wsN (dvU (a * 2 ^ sh b) (b * 2 ^ sh b) k) (nw a + 1)) (i + 1) (0 : UInt32)).toNat) * 4294967296) + ((List.getD (wsN (dvU (a * 2 ^ sh b) (b * 2 ^ sh b) k) (nw a + 1)) i (0 : UInt32)).toNat)) / 2 ^ (sh b))), .ex (u32 (UInt32.ofNat (((((List.getD (wsN (dvU (a * 2 ^ sh b) (b * 2 ^ sh b) k) (nw a + 1)) (i + 1) (0 : UInt32)).toNat) * 4294967296) + ((List.getD (wsN (dvU (a * 2 ^ sh b) (b * 2 ^ sh b) k) (nw a + 1)) i (0 : UInt32)).toNat)) / 2 ^ (sh b)))), .ex (.pointer (some ⟨b483, i * 1, none⟩))]) [(17, 116), (18, 117)] mixed (by kernel_rfl) rfl hv492 ⟨(oX [] rfl rfl rfl fun _ _ => Does.move rfl), (oX [] rfl rfl rfl fun _ _ => Does.move rfl), (oX [] rfl rfl rfl fun _ _ => Does.move rfl), (oX [] rfl rfl rfl fun _ _ => Does.move rfl), (oX [(3, 102)] rfl rfl rfl fun _ _ => Does.add rfl rfl (by omega)), (oX [(2, 101), (4, 103)] rfl rfl rfl fun _ _ => Does.index_own (i + 1) Try.underlying58 ty167 rfl rfl (by omega) (by omega)), ?_, (oX [(6, 105)] rfl rfl rfl fun _ _ => Does.u32_n64 Try.underlying167 Try.underlying62 rfl), (oX [(7, 106)] rfl rfl rfl fun _ _ => Does.n64_shl32 rfl rfl (by omega)), (oX [] rfl rfl rfl fun _ _ => Does.move rfl), (oX [] rfl rfl rfl fun _ _ => Does.move rfl), (oX [(9, 108), (10, 109)] rfl rfl rfl fun _ _ => Does.index_own i Try.underlying58 ty167 rfl rfl (by omega) (by omega)), ?_, (oX [(12, 111)] rfl rfl rfl fun _ _ => Does.u32_n64 Try.underlying167 Try.underlying62 rfl), (oX [(8, 107), (13, 112)] rfl rfl rfl fun _ _ => Does.n64_or_low rfl rfl (by omega) (by omega)), (oX [] rfl rfl rfl fun _ _ => Does.move rfl), (oX [(14, 113), (15, 114)] rfl rfl rfl fun _ _ => Does.n64_shrN rfl rfl (by omega)), (oX [(16, 115)] rfl rfl rfl fun _ _ => Does.n64_u32 Try.underlying62 Try.underlying167 rfl), (oX [(0, 99), (1, 100)] rfl rfl rfl fun _ _ => Does.index_own i Try.underlying58 ty167 rfl rfl (by omega) (by omega)), trivial⟩ (fun L579 w580 h581 s582 => ?_)
 ·refine oP [(5, 104)] rfl rfl fun L519 w520 h521 s522 => ?_
  have c524 := s493.trans s522
  have c525 := s485.trans c524
  have o523 := o458.up c525
  have t526 := UInt32.toNat_lt (List.getD (wsN (dvU (a * 2 ^ sh b) (b * 2 ^ sh b) k) (nw a + 1)) (i + 1) (0 : UInt32))
  exact ⟨_, Does.load_own1 o523 ty167 rfl (by rw [Nat.mul_one]; exact row_get u32 _ (0 : UInt32) (by (rw [wsN_length]; omega))), rfl⟩
 ·refine oP [(11, 110)] rfl rfl fun L547 w548 h549 s550 => ?_
  have c552 := s493.trans s550
  have c553 := s485.trans c552
  have o551 := o458.up c553
  have t554 := UInt32.toNat_lt (List.getD (wsN (dvU (a * 2 ^ sh b) (b * 2 ^ sh b) k) (nw a + 1)) i (0 : UInt32))
  exact ⟨_, Does.load_own1 o551 ty167 rfl (by rw [Nat.mul_one]; exact row_get u32 _ (0 : UInt32) (by (rw [wsN_length]; omega))), rfl⟩
 have o583 := o494.up s582
 refine Seq.store_row (k := 94) (j := i) (v := (UInt32.ofNat (((((List.getD (wsN (dvU (a * 2 ^ sh b) (b * 2 ^ sh b) k) (nw a + 1)) (i + 1) (0 : UInt32)).toNat) * 4294967296) + ((List.getD (wsN (dvU (a * 2 ^ sh b) (b * 2 ^ sh b) k) (nw a + 1)) i (0 : UInt32)).toNat)) / 2 ^ (sh b)))) u32 h581 o583 ty167 (congrArg (fun o => some (Value.pointer (some ⟨b483, o, none⟩))) (Nat.mul_one i)) rfl (by (rw [upto_length (by omega)]; omega)) rfl rfl fun w584 o585 s586 h587 => ?_
 refine Seq.go (fun _ _ h => h) ?_
 refine Run.region ?_
 refine sv (Does.add rfl rfl (by omega)) ?_
 refine sv (Does.move rfl) ?_
 have c588 := s582.trans s586
 have c589 := s493.trans c588
 exact Seq.nil (fun a590 h591 => ⟨_, by omega, _, h591.weaken (subs_lk (l' := [(96, i64 (((i + 1) : Nat) : Int)), (4, .pointer (some ⟨b21, 0, none⟩)), (5, .pointer (some ⟨b27, 0, none⟩)), (6, .int .i64 0), (9, i64 ((lz (List.getD (limbs b) ((nw b) - 1) (0 : UInt32)) : Nat) : Int)), (10, .slice (some ⟨b436, 0, none⟩) (List.length (limbs a) + 1) (List.length (limbs a) + 1)), (12, .slice (some ⟨b446, 0, none⟩) ((((List.length (limbs a) + 1 : Nat) : Int) - ((List.length (List.take (nw b) (shl (limbs b) (sh b))) : Nat) : Int)).toNat) ((((List.length (limbs a) + 1 : Nat) : Int) - ((List.length (List.take (nw b) (shl (limbs b) (sh b))) : Nat) : Int)).toNat)), (14, .slice (some ⟨b483, 0, none⟩) (List.length (List.take (nw b) (shl (limbs b) (sh b)))) (List.length (List.take (nw b) (shl (limbs b) (sh b))))), (95, i64 ((List.length (List.take (nw b) (shl (limbs b) (sh b))) : Nat) : Int))]) ⟨(congrArg (fun z => some (i64 z)) (show (((i : Nat) : Int) + 1 : Int) = (((i + 1) : Nat) : Int) from by rfl)), rfl, rfl, rfl, rfl, rfl, rfl, rfl, rfl, trivial⟩), ⟨i + 1, L579, rfl, rfl, h587, (c589.more (by decide)), ((show List.set (upto (a % b) i (nw b)) i (UInt32.ofNat (((((List.getD (wsN (dvU (a * 2 ^ sh b) (b * 2 ^ sh b) k) (nw a + 1)) (i + 1) (0 : UInt32)).toNat) * 4294967296) + ((List.getD (wsN (dvU (a * 2 ^ sh b) (b * 2 ^ sh b) k) (nw a + 1)) i (0 : UInt32)).toNat)) / 2 ^ (sh b))) = upto (a % b) (i + 1) (nw b) from by exact upto_set (by omega) _ (by rw [hu]; exact rest_word (sh_lt hp1) (by omega))) ▸ o585), (by omega)⟩⟩)
end Go.Proofs.Ytgfomedobfaidaa
end
section
set_option linter.unusedVariables false
set_option linter.unusedSimpArgs false
set_option maxRecDepth 100000
namespace Go.Proofs.Ytgfomedobfaidaa
open Go.RowKit
theorem nat_Gcd {lab : Lab} {w : World} (hv : Valid lab w) {a : Nat} {v0 : Value} (h0 : NatV a lab w v0) {b : Nat} {v1 : Value} (h1 : NatV b lab w v1) (ha : nw a ≤ 999999) (hb : nw b ≤ 999999) :
  Calls Try.prog 201 #[v0, v1] w (fun e w' => ∃ v, e = .returned v ∧ (NatV (Nat.gcd a b)) lab w' v ∧ Below w.heap.size w w') := by
 obtain ⟨L0, h0L, ⟨zU0, z00⟩, hX⟩ := enter0 hv
 replace h0 := up z00 h0
 obtain ⟨A1, c2, rfl⟩ := NatV.shape h0
 have z3 := NatV.cap h0
 replace h1 := up z00 h1
 obtain ⟨A4, c5, rfl⟩ := NatV.shape h1
 have z6 := NatV.cap h1
 refine calls_run Try.func201 rfl Try.ntmps201 (Nat.le_of_ble_eq_true rfl) ?_
 refine rsr ?_
 refine sbox 3 [.slice A1 (nw a) c2] h0L rfl rfl fun b9 L7 w8 o10 s11 h12 => ?_
 refine sbox 4 [.slice A4 (nw b) c5] h12 rfl rfl fun b15 L13 w14 o16 s17 h18 => ?_
 refine salloc 5 [.slice none 0 0] h18 ty60 rfl fun b21 L19 w20 o22 s23 h24 => ?_
 refine Seq.next ?_
 refine Run.seq ?_
 refine Run.block ?_
 have c26 := s17.trans s23
 have o25 := o10.up c26
 have c27 := s11.trans c26
 have q28 := up c27 h0
 have o29 := o16.up s23
 have q30 := up c27 h1
 refine Run.loop (fun m' l' w' => ∃ (x : Nat) (y : Nat) (lab' : Lab) (ub3 : Value) (ub4 : Value), m' = y ∧ l' = [(2, .pointer (some ⟨b9, 0, none⟩)), (3, .pointer (some ⟨b15, 0, none⟩)), (4, .pointer (some ⟨b21, 0, none⟩))] ∧ Valid lab' w' ∧ Stp [3, 4, 6, 7] L19 w20 lab' w' ∧ Own lab' w' 3 b9 60 #[ub3] ∧ NatV x lab' w' (.agg #[ub3]) ∧ Own lab' w' 4 b15 60 #[ub4] ∧ NatV y lab' w' (.agg #[ub4]) ∧ (nw x ≤ 999999) ∧ (nw y ≤ 999999) ∧ (Nat.gcd x y = Nat.gcd a b)) (b) (l0 := [(2, .pointer (some ⟨b9, 0, none⟩)), (3, .pointer (some ⟨b15, 0, none⟩)), (4, .pointer (some ⟨b21, 0, none⟩))]) ⟨rfl, rfl, rfl, trivial⟩ ⟨a, b, L19, (.slice A1 (nw a) c2), (.slice A4 (nw b) c5), rfl, rfl, h24, ((Stp.refl _ _).more (by simp)), o25, q28, o29, q30, (by omega), (by omega), (by omega)⟩ ?_
 intro m31 l32 w33 H34
 obtain ⟨x, y, lab35, u38, u39, hzm, rfl, hv36, s37, o40, q42, o41, q43, hx, hy, hg⟩ := H34
 replace hzm := hzm.symm; subst hzm
 obtain ⟨A44, c45, hz⟩ := NatV.shape q42; cases hz
 obtain ⟨A46, c47, hz⟩ := NatV.shape q43; cases hz
 refine Run.seq ?_
 refine rsr ?_
 refine sv (Does.load_ownN [.slice A46 (nw y) c47] o41 ty60 rfl rfl) ?_
 refine scall (V := Is (.bool (decide (y = 0)))) cal48 hv36 rfl (nat_Zero hv36 q43) fun v48 w49 q50 s51 h52 => ?_
 have q50 := Is.out q50; subst q50
 refine sv (Does.not rfl) ?_
 refine Seq.next ?_
 rcases bdich (!(decide (y = 0))) with hc1 | hc1
 rotate_left
 ·refine Run.cond_b rfl hc1 ?_
  refine Run.exit_go (fun _ _ h => h) ?_
  refine rsr ?_
  have o155 := o40.up s51
  refine sv (Does.load_ownN [.slice A44 (nw x) c45] o155 ty60 rfl rfl) ?_
  have c157 := s37.trans s51
  have o156 := o22.up c157
  refine sstore [.slice A44 (nw x) c45] h52 o156 ty60 rfl rfl rfl (Nat.le_of_ble_eq_true rfl) rfl rfl fun w158 o159 s160 h161 => ?_
  refine Seq.next ?_
  have c162 := c157.trans s160
  have c163 := c27.trans c162
  obtain ⟨⟨zU, zo⟩, zb⟩ := hX c163 (by decide)
  have c164 := s51.trans s160
  have q165 := up c164 q42
  refine Run.ret ?_
  exact post_one Try.results201 ⟨_, rfl, Own.loadN [.slice A44 (nw x) c45] o159 ty60 rfl⟩ ⟨_, rfl, (NatV.cast (by rw [← hg, show y = 0 by simpa using hc1, Nat.gcd_zero_right]) (up zo q165)), zb⟩
 refine Run.cond_b rfl hc1 ?_
 refine Run.skip_go (fun _ _ h => h) ?_
 refine Run.block ?_
 refine rsr ?_
 have o53 := o40.up s51
 refine sv (Does.load_ownN [.slice A44 (nw x) c45] o53 ty60 rfl rfl) ?_
 have o54 := o41.up s51
 refine sv (Does.load_ownN [.slice A46 (nw y) c47] o54 ty60 rfl rfl) ?_
 have q55 := up s51 q42
 have q56 := up s51 q43
 refine scall (V := And3 (NatV (x / y)) (NatV (if y = 0 then 0 else x % y)) (Is (i64 (if y = 0 then 5 else 0)))) cal112 h52 rfl (nat_Div h52 q55 q56 (show nw x ≤ 999999 from by assumption) (show nw y ≤ 1000000 from by omega)) fun v57 w58 q59 s60 h61 => ?_
 obtain ⟨v62, v63, v64, rfl, q65, q66, q67⟩ := q59
 obtain ⟨A68, c69, rfl⟩ := NatV.shape q65
 have z70 := NatV.cap q65
 obtain ⟨A71, c72, rfl⟩ := NatV.shape q66
 have z73 := NatV.cap q66
 have q67 := Is.out q67; subst q67
 refine sv (Does.move rfl) ?_
 refine sv (Does.extract rfl rfl) ?_
 refine sv (Does.extract rfl rfl) ?_
 refine sv (Does.extract rfl rfl) ?_
 refine salloc 6 [.slice none 0 0] h61 ty60 rfl fun b76 L74 w75 o77 s78 h79 => ?_
 refine salloc 7 [.slice none 0 0] h79 ty60 rfl fun b82 L80 w81 o83 s84 h85 => ?_
 have o86 := o77.up s84
 refine sstore [.slice A68 (nw (x / y)) c69] h85 o86 ty60 rfl rfl rfl (Nat.le_of_ble_eq_true rfl) rfl rfl fun w87 o88 s89 h90 => ?_
 have o91 := o83.up s89
 refine sstore [.slice A71 (nw (if y = 0 then 0 else x % y)) c72] h90 o91 ty60 rfl rfl rfl (Nat.le_of_ble_eq_true rfl) rfl rfl fun w92 o93 s94 h95 => ?_
 refine sv (Does.assign rfl) ?_
 refine Seq.next ?_
 refine Run.many [⟨18, .ex (.agg #[.slice A46 (nw y) c47]), [], none⟩, ⟨19, .ex (.agg #[.slice A71 (nw (if y = 0 then 0 else x % y)) c72]), [], none⟩, ⟨2, .v (BoxB b9 3 60 (Is (.agg #[.slice A46 (nw y) c47]))), [3], none⟩] [1, 2] [[], [3], []] mixed (by kernel_rfl) (by kernel_rfl) rfl h95 ⟨stay_ex, stay_ex, stay_boxB rfl, trivial⟩ ⟨?_, ?_, ?_, trivial⟩ (fun L126 w127 h128 s129 v130 q131 => ?_)
 ·refine rP [] rfl rfl rfl rfl fun L96 w97 h98 s99 => ?_
  replace s99 : Stp [] _ _ _ _ := s99
  have c101 := s94.trans s99
  have c102 := s89.trans c101
  have c103 := s84.trans c102
  have c104 := s78.trans c103
  have c105 := s60.trans c104
  have o100 := o54.up c105
  exact ⟨_, Does.load_ownN [.slice A46 (nw y) c47] o100 ty60 rfl rfl, rfl⟩
 ·refine rP [] rfl rfl rfl rfl fun L106 w107 h108 s109 => ?_
  replace s109 : Stp [3] _ _ _ _ := s109
  have o110 := o93.up s109
  exact ⟨_, Does.load_ownN [.slice A71 (nw (if y = 0 then 0 else x % y)) c72] o110 ty60 rfl rfl, rfl⟩
 ·refine rS [0] rfl rfl rfl fun L111 w112 h113 s114 => ?_
  replace s114 : Stp [] _ _ _ _ := s114
  have c116 := s94.trans s114
  have c117 := s89.trans c116
  have c118 := s84.trans c117
  have c119 := s78.trans c118
  have c120 := s60.trans c119
  have o115 := o53.up c120
  refine store_goR (v := (.agg #[.slice A46 (nw y) c47])) [.slice A46 (nw y) c47] h113 o115 ty60 rfl rfl rfl (Nat.le_of_ble_eq_true rfl) rfl rfl fun w121 s124 o125 => ?_
  exact ⟨(.agg #[.slice A46 (nw y) c47]), rfl, o125, rfl⟩
 replace s129 : Stp [3] _ _ _ _ := s129
 obtain ⟨u133, rfl, o134, q135⟩ := q131
 replace q135 := Is.out q135; subst q135
 replace o134 : Own L126 w127 3 b9 60 #[.slice A46 (nw y) c47] := o134
 have c137 := s94.trans s129
 have c138 := s89.trans c137
 have c139 := s84.trans c138
 have c140 := s78.trans c139
 have c141 := s60.trans c140
 have o136 := o54.up c141
 refine sstore [.slice A71 (nw (if y = 0 then 0 else x % y)) c72] h128 o136 ty60 rfl rfl rfl (Nat.le_of_ble_eq_true rfl) rfl rfl fun w142 o143 s144 h145 => ?_
 have o146 := o134.up s144
 have c147 := c141.trans s144
 have q148 := up c147 q56
 have c149 := c140.trans s144
 have q150 := up c149 q66
 have c151 := s51.trans c147
 have c152 := s37.trans c151
 exact Seq.nil (fun a153 h154 => ⟨_, by exact Nat.mod_lt _ (Nat.pos_of_ne_zero (by simpa using hc1)), _, h154.weaken (subs_lk (l' := [(2, .pointer (some ⟨b9, 0, none⟩)), (3, .pointer (some ⟨b15, 0, none⟩)), (4, .pointer (some ⟨b21, 0, none⟩))]) ⟨rfl, rfl, rfl, trivial⟩), ⟨y, x % y, L126, (.slice A46 (nw y) c47), (.slice A71 (nw (if y = 0 then 0 else x % y)) c72), rfl, rfl, h145, (c152.more (by decide)), o146, q148, o143, (NatV.cast (show (if y = 0 then 0 else x % y) = (x % y) from by exact if_neg (by simpa using hc1)) q150), (by omega), (by exact Nat.le_trans (nw_mono (Nat.mod_le _ _)) hx), (by (rw [Nat.gcd_comm y, ← Nat.gcd_rec, Nat.gcd_comm]; exact hg))⟩⟩)
end Go.Proofs.Ytgfomedobfaidaa
end
section
set_option linter.unusedVariables false
set_option linter.unusedSimpArgs false
namespace Go.Proofs.Ytgfomedobfaidaa
open Go.RowKit
theorem RingV.mk {lab : Lab} {w : World} {L b c m s : Nat} {t : TypeId} {A : Option Addr} (hO : Own lab w L b t #[.slice A (nw m) c, .int .u64 ((s : Nat) : Int)]) (hs : s = ringSmall m) (hn : NatV m (labFree lab L) w (.agg #[.slice A (nw m) c])) : RingV m (labFree lab L) w (.pointer (some ⟨b, 0, none⟩)) := by
 subst hs
 exact ⟨b, t, (0, 0), _, rfl, by unfold labFree; rw [if_pos hO.1], hO.2, A, c, rfl, hn⟩
theorem ringSmall_lt (r : Nat) : ringSmall r < 4294967296 := by unfold ringSmall; split <;> omega
theorem ringSmall_pos {r : Nat} (h : ((0 : Nat) : Int) < ((ringSmall r : Nat) : Int)) : ringSmall r = r := by unfold ringSmall at *; split at h <;> simp_all
theorem small_one' {r : Nat} (h2 : nw r ≤ 2) (h : (if nw r ≤ 2 then r else 0) < 4294967296) : (if nw r ≤ 2 then r else 0) = ringSmall r := by
 rw [if_pos h2] at h ⊢; unfold ringSmall; rw [if_pos h]
theorem small_two {r : Nat} (h : ¬ r < 4294967296) : 0 = ringSmall r := by unfold ringSmall; rw [if_neg h]
theorem nw_two {r : Nat} (h : ¬ nw r ≤ 2) : ¬ r < 4294967296 := fun c => h (by have := nw_le (x := r) (n := 1) (by omega); omega)
theorem mul_small {x y s : Nat} (hs : s < 4294967296) (h0 : 0 < s) : x % s * (y % s) < 18446744073709551616 := by
 have h1 := Nat.mod_lt x h0
 have h2 := Nat.mod_lt y h0
 have := Nat.mul_le_mul (show x % s ≤ 4294967295 by omega) (show y % s ≤ 4294967295 by omega)
 omega
theorem new_two {m : Nat} (h : 1 < m) : ¬ cmpI m 2 < 0 := fun c => by have := cmp_lt c; omega
theorem mul_fast {a b r : Nat} (h : ((0 : Nat) : Int) < ((ringSmall r : Nat) : Int)) (ha : nw a ≤ 2) (hb : nw b ≤ 2) : (if nw a ≤ 2 then a else 0) % ringSmall r * ((if nw b ≤ 2 then b else 0) % ringSmall r) % ringSmall r = a * b % r := by
 rw [if_pos ha, if_pos hb, ringSmall_pos h, ← Nat.mul_mod]
def subM (r a b : Nat) : Nat := (a + (r - b % r)) % r
theorem subM_a {r a b : Nat} (hr : 0 < r) (h : b % r ≤ a % r) : (if a % r < b % r then 0 else a % r - b % r) = subM r a b := by
 unfold subM
 rw [if_neg (by omega), Nat.add_mod]
 have h1 := Nat.mod_lt a hr
 have h2 := Nat.mod_lt b hr
 by_cases c : b % r = 0
 ·rw [c, Nat.sub_zero, Nat.sub_zero, Nat.mod_self, Nat.add_zero, Nat.mod_mod]
 ·rw [Nat.mod_eq_of_lt (show r - b % r < r by omega), show a % r + (r - b % r) = (a % r - b % r) + r by omega, Nat.add_mod_right, Nat.mod_eq_of_lt (show a % r - b % r < r by omega)]
theorem subM_b {r a b : Nat} (hr : 0 < r) (h : ¬ b % r ≤ a % r) : (if a % r + r < b % r then 0 else a % r + r - b % r) = subM r a b := by
 unfold subM
 have h1 := Nat.mod_lt a hr
 have h2 := Nat.mod_lt b hr
 rw [if_neg (by omega), Nat.add_mod, Nat.mod_eq_of_lt (show r - b % r < r by omega), Nat.mod_eq_of_lt (show a % r + (r - b % r) < r by omega)]
 omega
theorem subM_lt {r a b : Nat} (hr : 0 < r) : subM r a b < r := Nat.mod_lt _ hr

end Go.Proofs.Ytgfomedobfaidaa
end
