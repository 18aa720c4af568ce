/-
  A region whose order is open, in which several operations may write variables of the call's own, each its own.
-/
import Derived.Test.YtgfomedobfaidaaGo
set_option linter.unusedVariables false
set_option linter.unusedSimpArgs false
namespace Go.Proofs.Ytgfomedobfaidaa
open Go.RowKit

/-- What is said of an operation: the slot that tells what it has left, what it has left, which labels it writes, which operation takes what it has left away. -/
structure RG where
  s : Nat
  p : PV
  U : List Nat
  c : Option Nat
def rg : List RG → Nat → Option RG
  | [], _ => none
  | x :: _, 0 => some x
  | _ :: r, n + 1 => rg r n
def rgU (R : List RG) (i : Nat) : List Nat := match rg R i with
  | some x => x.U
  | none => []
def rgC (R : List RG) (i : Nat) : Option Nat := match rg R i with
  | some x => x.c
  | none => none
def rgS (R : List RG) (i : Nat) : Nat := match rg R i with
  | some x => x.s
  | none => 0
def rgP (R : List RG) (i : Nat) : VP := match rg R i with
  | some x => x.p.vp
  | none => fun _ _ _ => True
/-- The labels that all write. -/
def rgAll (R : List RG) : List Nat := R.flatMap (·.U)
/-- .. that the others write. -/
def rgOth : List RG → Nat → List Nat
  | [], _ => []
  | _ :: r, 0 => rgAll r
  | x :: r, n + 1 => x.U ++ rgOth r n
theorem rgU_oth : ∀ {R : List RG} {i j : Nat}, i ≠ j → ∀ d ∈ rgU R j, d ∈ rgOth R i
  | [], i, j, h, d, hd => by simp [rgU, rg] at hd
  | x :: r, 0, 0, h, d, hd => absurd rfl h
  | x :: r, 0, j + 1, h, d, hd => by
    have : ∀ {r : List RG} {j : Nat}, d ∈ rgU r j → d ∈ rgAll r := by
      intro r
      induction r with
      | nil => intro j hd; simp [rgU, rg] at hd
      | cons x r ih =>
        intro j hd
        cases j with
        | zero => simp [rgU, rg] at hd; simp [rgAll, hd]
        | succ j =>
          have := ih (j := j) (by simpa [rgU, rg] using hd)
          simp only [rgAll, List.flatMap_cons, List.mem_append] at this ⊢
          exact .inr this
    exact this (j := j) (by simpa [rgU, rg] using hd)
  | x :: r, i + 1, 0, h, d, hd => by simp only [rgOth, List.mem_append]; exact .inl (by simpa [rgU, rg] using hd)
  | x :: r, i + 1, j + 1, h, d, hd => by
    simp only [rgOth, List.mem_append]
    exact .inr (rgU_oth (R := r) (i := i) (j := j) (by omega) d (by simpa [rgU, rg] using hd))
theorem rgU_all : ∀ {R : List RG} {j : Nat}, ∀ d ∈ rgU R j, d ∈ rgAll R
  | [], j, d, hd => by simp [rgU, rg] at hd
  | x :: r, 0, d, hd => by simp [rgU, rg] at hd; simp [rgAll, hd]
  | x :: r, j + 1, d, hd => by
    have := rgU_all (R := r) (j := j) d (by simpa [rgU, rg] using hd)
    simp only [rgAll, List.flatMap_cons, List.mem_append] at this ⊢
    exact .inr this

def bindsTo (ops : Array Oper) (i j : Nat) : Bool := waits ops i j
def closF (ops : Array Oper) : Nat → (Nat → Bool) → Nat → Bool
  | 0, S => S
  | j + 1, S => closF ops j (if S j then fun k => S k || waits ops j k else S)
theorem closF_sound {ops : Array Oper} {L : Nat → Prop} (hd : ∀ j, L j → ∀ k, waits ops j k = true → L k) : ∀ (n : Nat) (S : Nat → Bool), (∀ k, S k = true → L k) → ∀ k, closF ops n S k = true → L k
  | 0, S, h, k, hk => h k hk
  | n + 1, S, h, k, hk => by
    refine closF_sound hd n _ ?_ k hk
    intro k hk
    split at hk
    · rename_i hn
      rw [Bool.or_eq_true] at hk
      rcases hk with hk | hk
      · exact h k hk
      · exact hd n (h n hn) k hk
    · exact h k hk
/-- Checked by the kernel. -/
def manyOk (ops : Array Oper) (l : List (Nat × Value)) (R : List RG) : Bool :=
  Nat.ble R.length ops.size &&
  ((List.range ops.size).all fun j => match ops[j]? with
    | some o => (o.after.all fun e => !Region.binds .any e || Nat.blt e.on j) &&
      (if j < R.length then (match o.dst with
          | some d => (lk l d).isNone && Nat.beq (rgS R j) d && ((List.range R.length).all fun k => Nat.beq k j || (!(Nat.beq (rgS R k) d) || waits ops k j))
          | none => true)
       else if j = R.length then (List.range R.length).all fun k => closF ops R.length (waits ops j) k
       else waits ops j (j - 1))
    | none => false)
structure ManyOk (ops : Array Oper) (l : List (Nat × Value)) (R : List RG) : Prop where
  le : R.length ≤ ops.size
  back : ∀ (j : Nat) (o : Oper), ops[j]? = some o → ∀ e ∈ o.after, Region.binds .any e = true → e.on < j
  fresh : ∀ (j : Nat) (o : Oper) (d : Nat), j < R.length → ops[j]? = some o → o.dst = some d → lk l d = none
  slot : ∀ (j : Nat) (o : Oper) (d : Nat), j < R.length → ops[j]? = some o → o.dst = some d → rgS R j = d
  once : ∀ (j k : Nat) (o : Oper) (d : Nat), j < R.length → k < R.length → k ≠ j → ops[j]? = some o → o.dst = some d → rgS R k = d → waits ops k j = true
  atM : ∀ o, ops[R.length]? = some o → ∀ k, k < R.length → closF ops R.length (waits ops R.length) k = true
  chain : ∀ (j : Nat) (o : Oper), R.length < j → ops[j]? = some o → waits ops j (j - 1) = true
theorem manyOk_spec {ops : Array Oper} {l : List (Nat × Value)} {R : List RG} (h : manyOk ops l R = true) : ManyOk ops l R := by
  unfold manyOk at h
  rw [Bool.and_eq_true, List.all_eq_true] at h
  obtain ⟨hm, h⟩ := h
  have key : ∀ (j : Nat) (o : Oper), ops[j]? = some o → (o.after.all fun e => !Region.binds .any e || Nat.blt e.on j) = true ∧
      (if j < R.length then (match o.dst with
          | some d => (lk l d).isNone && Nat.beq (rgS R j) d && ((List.range R.length).all fun k => Nat.beq k j || (!(Nat.beq (rgS R k) d) || waits ops k j))
          | none => true)
       else if j = R.length then (List.range R.length).all fun k => closF ops R.length (waits ops j) k
       else waits ops j (j - 1)) = true := by
    intro j o ho
    have hj : j < ops.size := (Array.getElem?_eq_some_iff.1 ho).1
    have := h j (List.mem_range.2 hj)
    simp only [ho, Bool.and_eq_true] at this
    exact this
  refine ⟨Nat.le_of_ble_eq_true hm, ?_, ?_, ?_, ?_, ?_, ?_⟩
  · intro j o ho e he hb
    have := (Array.all_eq_true_iff_forall_mem.1 (key j o ho).1) e he
    simp only [hb, Bool.not_true, Bool.false_or] at this
    exact Nat.lt_of_not_le fun hle => by simp [Nat.blt] at this; omega
  · intro j o d hj ho hd
    have := (key j o ho).2
    rw [if_pos hj] at this
    simp only [hd, Bool.and_eq_true] at this
    simpa using this.1.1
  · intro j o d hj ho hd
    have := (key j o ho).2
    rw [if_pos hj] at this
    simp only [hd, Bool.and_eq_true] at this
    exact Nat.eq_of_beq_eq_true this.1.2
  · intro j k o d hj hk hne ho hd hs
    have := (key j o ho).2
    rw [if_pos hj] at this
    simp only [hd, Bool.and_eq_true, List.all_eq_true] at this
    have := this.2 k (List.mem_range.2 hk)
    rw [Bool.or_eq_true, Bool.or_eq_true] at this
    rcases this with h1 | h1 | h1
    · exact absurd (Nat.eq_of_beq_eq_true h1) hne
    · rw [hs] at h1; simp at h1
    · exact h1
  · intro o ho k hk
    have := (key _ o ho).2
    rw [if_neg (by omega), if_pos rfl, List.all_eq_true] at this
    exact this k (List.mem_range.2 hk)
  · intro j o hj ho
    have := (key j o ho).2
    rwa [if_neg (by omega), if_neg (by omega)] at this

section
variable {ds : List Deferred} {P : Program} {N : Nat} {ops : Array Oper} {Q : Exit → Act → World → Prop} {l : List (Nat × Value)} {w : World} {lab : Lab}

def LeftR (R : List RG) (j : Nat) (lab : Lab) (w : World) (a : Act) : Prop := ∃ v, a.tmps[rgS R j]? = some v ∧ rgP R j lab w v
/-- The law of an operation. -/
def ManyLaw (ds : List Deferred) (P : Program) (N : Nat) (ops : Array Oper) (Q : Exit → Act → World → Prop) (l : List (Nat × Value)) (lab0 : Lab) (w0 : World) (R : List RG) (i : Nat) : Prop :=
  ∀ lab w a, Valid lab w → Stp (rgOth R i) lab0 w0 lab w → Fr ds N l a → (∀ j, waits ops i j = true → (∀ c, rgC R j = some c → c = i ∨ waits ops c i = true) → LeftR R j lab w a) →
    wpOp P ops Q i (fun a' w' => ∃ lab' v, (∀ o, ops[i]? = some o → a' = a.put o.dst v) ∧ (∀ d, dstOf ops i = some d → d < N) ∧ Valid lab' w' ∧ Stp (rgU R i) lab w lab' w' ∧ LeftR R i lab' w' a') a w

theorem waits_edge {ops : Array Oper} {i j : Nat} {o : Oper} (ho : ops[i]? = some o) : waits ops i j = true ↔ ∃ e ∈ o.after, Region.binds .any e = true ∧ e.on = j := by
  unfold waits
  simp only [ho, List.any_eq_true, Bool.and_eq_true]
  constructor
  · rintro ⟨e, he, h1, h2⟩
    exact ⟨e, Array.mem_toList_iff.1 he, h1, Nat.eq_of_beq_eq_true h2⟩
  · rintro ⟨e, he, h1, rfl⟩
    exact ⟨e, Array.mem_toList_iff.2 he, h1, by simp⟩

theorem many_tail {R : List RG} (hok : ManyOk ops l R) : ∀ (fuel p : Nat) (listed : Array Bool) (a : Act) (w : World), R.length ≤ p → p ≤ ops.size → fuel + p = ops.size → listed.size = ops.size →
    (∀ k, listed.getD k false = true ↔ k < p) → wpList P ops Q (ops.toList.drop p) a w → wpAny P .any ops Q fuel listed a w
  | 0, p, listed, a, w, hm, hp, hf, hs, hl, h => by
    have hpn : p = ops.size := by omega
    subst hpn
    have hr : Region.ready .any ops listed = [] := List.eq_nil_iff_forall_not_mem.2 fun j hj => by
      obtain ⟨h0, o, ho, _⟩ := mem_ready.1 hj
      have hj' : j < ops.size := (Array.getElem?_eq_some_iff.1 ho).1
      have h1 := (hl j).2 hj'
      simp [show j < listed.size by omega] at h0 h1
      rw [h0] at h1; cases h1
    refine ⟨hr, ?_⟩
    rw [List.drop_of_length_le (by simp)] at h
    exact h
  | fuel + 1, p, listed, a, w, hm, hp, hf, hs, hl, h => by
    have hpn : p < ops.size := by omega
    have hop : ops[p]? = some ops[p] := Array.getElem?_eq_getElem hpn
    have hready : p ∈ Region.ready .any ops listed := by
      rw [mem_ready]
      refine ⟨?_, ops[p], hop, fun e he hb => (hl _).2 (hok.back p _ hop e he hb)⟩
      have h1 : ¬ listed.getD p false = true := fun e => Nat.lt_irrefl p ((hl p).1 e)
      simpa [show p < listed.size by omega] using h1
    refine ⟨fun h0 => (by rw [h0] at hready; cases hready), fun i hi => ?_⟩
    obtain ⟨hi0, o, ho, hall⟩ := mem_ready.1 hi
    have hip : i = p := by
      have h1 : ¬ i < p := fun h => by
        have := (hl i).2 h
        have hilt : i < ops.size := (Array.getElem?_eq_some_iff.1 ho).1
        simp [show i < listed.size by omega] at hi0 this
        rw [hi0] at this; cases this
      by_cases h2 : i = p
      · exact h2
      · exfalso
        obtain ⟨e, he, hb, hon⟩ := (waits_edge ho).1 (hok.chain i o (by omega) ho)
        have := (hl _).1 (hall e he hb)
        omega
    subst hip
    have hoe : o = ops[i] := by rw [hop] at ho; exact (Option.some.inj ho).symm
    have hdrop : ops.toList.drop i = ops[i] :: ops.toList.drop (i + 1) := by
      rw [List.drop_eq_getElem_cons (by simpa using hpn)]; simp
    rw [hdrop] at h
    unfold wpOp
    rw [hop]
    unfold wpList at h
    have next : ∀ a w, wpList P ops Q (ops.toList.drop (i + 1)) a w → wpAny P .any ops Q fuel (listed.setIfInBounds i true) a w := fun a w h' =>
      many_tail hok fuel (i + 1) _ a w (by omega) (by omega) (by omega) (by simp [hs]) (fun k => by rw [getD_set_iff (by omega), hl]; omega) h'
    dsimp only
    split
    · rename_i hw
      rw [if_pos hw] at h
      exact h.imp (Oper.wp_mono next) id
    · rename_i hw
      rw [if_neg hw] at h
      exact next _ _ h

theorem many_body {R : List RG} (hok : ManyOk ops l R) {lab0 : Lab} {w0 : World}
    (hper : ∀ j i, j < R.length → i ≠ j → rgC R j ≠ some i → ∀ {lab w lab' w' v}, Stp (rgU R i) lab w lab' w' → rgP R j lab w v → rgP R j lab' w' v)
    (hlaw : ∀ i, i < R.length → ManyLaw ds P N ops Q l lab0 w0 R i)
    (htail : ∀ lab w a, Valid lab w → Stp (rgAll R) lab0 w0 lab w → Fr ds N l a → (∀ i, i < R.length → (∀ c, rgC R i = some c → R.length ≤ c) → LeftR R i lab w a) → wpList P ops Q (ops.toList.drop R.length) a w) :
    ∀ (fuel c : Nat) (listed : Array Bool) (lab : Lab) (a : Act) (w : World), listed.size = ops.size → c ≤ R.length → c + fuel = ops.size → ((List.range R.length).filter fun k => listed.getD k false).length = c → (∀ k, listed.getD k false = true → k < R.length) →
      (∀ j, listed.getD j false = true → ∀ k, waits ops j k = true → listed.getD k false = true) →
      Valid lab w → Stp (rgAll R) lab0 w0 lab w → (∀ i, i < R.length → listed.getD i false = false → Stp (rgOth R i) lab0 w0 lab w) → Fr ds N l a →
      (∀ i, i < R.length → listed.getD i false = true → (∀ c, rgC R i = some c → listed.getD c false = false) → LeftR R i lab w a) → wpAny P .any ops Q fuel listed a w := by
  have hfalse : ∀ {listed : Array Bool} {k : Nat}, ¬ listed.getD k false = true → listed.getD k false = false := fun {listed k} h => by
    cases hq : listed.getD k false with
    | false => rfl
    | true => exact absurd hq h
  intro fuel
  induction fuel with
  | zero =>
    intro c listed lab a w hs hc hf hcnt hlm hdn hv hst hsts hfr hleft
    have hmn : R.length = ops.size := by have := hok.le; omega
    have hall : ∀ k, k < R.length → listed.getD k false = true := by
      intro k hk
      have hlen : ((List.range R.length).filter fun k => listed.getD k false).length = (List.range R.length).length := by simp; simp at hcnt; omega
      have := List.length_filter_eq_length_iff.1 hlen k (List.mem_range.2 hk)
      simpa using this
    exact many_tail hok 0 R.length listed a w (Nat.le_refl _) hok.le (by omega) hs (fun k => ⟨hlm k, hall k⟩) (htail lab w a hv hst hfr (fun i hi hcs => hleft i hi (hall i hi) fun c hc => hfalse fun e => by have := hlm c e; have := hcs c hc; omega))
  | succ fuel ih =>
    intro c listed lab a w hs hc hf hcnt hlm hdn hv hst hsts hfr hleft
    by_cases hall : ∀ k, k < R.length → listed.getD k false = true
    · have hcm : c = R.length := by
        rw [← hcnt, List.filter_eq_self.2 (fun k hk => by simpa using hall k (List.mem_range.1 hk))]; simp
      exact many_tail hok (fuel + 1) R.length listed a w (Nat.le_refl _) hok.le (by omega) hs (fun k => ⟨hlm k, hall k⟩) (htail lab w a hv hst hfr (fun i hi hcs => hleft i hi (hall i hi) fun c hc => hfalse fun e => by have := hlm c e; have := hcs c hc; omega))
    · have hex : ∃ k, k < R.length ∧ ¬ listed.getD k false = true := by
        refine Classical.byContradiction fun hno => hall fun k hk => Classical.byContradiction fun hk' => hno ⟨k, hk, hk'⟩
      obtain ⟨k0, ⟨hk0, hk0'⟩, hmin⟩ := exists_least hex
      have hk0s : k0 < ops.size := Nat.lt_of_lt_of_le hk0 hok.le
      have hready : k0 ∈ Region.ready .any ops listed := by
        rw [mem_ready]
        refine ⟨by simpa [show k0 < listed.size by omega] using hk0', ops[k0], Array.getElem?_eq_getElem hk0s, fun e he hb => ?_⟩
        have hlt := hok.back k0 _ (Array.getElem?_eq_getElem hk0s) e he hb
        refine Classical.byContradiction fun hno => ?_
        have := hmin e.on ⟨by omega, hno⟩
        omega
      refine ⟨fun h0 => (by rw [h0] at hready; cases hready), fun i hi => ?_⟩
      obtain ⟨hi0, o, ho, hwait⟩ := mem_ready.1 hi
      have his : i < ops.size := (Array.getElem?_eq_some_iff.1 ho).1
      have him : i < R.length := by
        refine Classical.byContradiction fun hge => ?_
        by_cases hie : i = R.length
        · subst hie
          have h1 := hok.atM o ho k0 hk0
          refine hk0' (closF_sound (L := fun k => listed.getD k false = true) hdn R.length _ (fun k hk => ?_) k0 h1)
          obtain ⟨e, he, hb, hon⟩ := (waits_edge ho).1 hk
          rw [← hon]; exact hwait e he hb
        · obtain ⟨e, he, hb, hon⟩ := (waits_edge ho).1 (hok.chain i o (by omega) ho)
          have h1 := hlm _ (hwait e he hb)
          omega
      have hi0' : listed.getD i false = false := by simpa [show i < listed.size by omega] using hi0
      have hwi : ∀ j, waits ops i j = true → listed.getD j false = true := fun j hj => by
        obtain ⟨e, he, hb, hon⟩ := (waits_edge ho).1 hj
        rw [← hon]; exact hwait e he hb
      have hwaits : ∀ j, waits ops i j = true → (∀ c, rgC R j = some c → c = i ∨ waits ops c i = true) → LeftR R j lab w a := fun j hj hcs => by
        have hjl := hwi j hj
        refine hleft j (hlm j hjl) hjl fun c hc => ?_
        rcases hcs c hc with rfl | hci
        · exact hi0'
        · exact hfalse fun e => by have := hdn c e i hci; rw [hi0'] at this; cases this
      refine wpOp_mono ?_ (hlaw i him lab w a hv (hsts i him hi0') hfr hwaits)
      rintro a' w' ⟨lab', v, hput, hdN, hv', hst', hphi⟩
      obtain rfl := hput o ho
      replace hdN : ∀ d, o.dst = some d → d < N := fun d hd => hdN d (by simp [dstOf, ho, hd])
      have hfr' : Fr ds N l (a.put o.dst v) := by
        cases hd : o.dst with
        | none => exact hfr
        | some d =>
          refine ⟨hfr.defers, by simp [Act.put, hfr.size], fun t u hu => ?_⟩
          have hne : d ≠ t := fun e => by subst e; rw [hok.fresh i o d him ho hd] at hu; cases hu
          simp only [Act.put, Array.getElem?_setIfInBounds_ne hne]
          exact hfr.at_ t u hu
      refine ih (c + 1) _ lab' _ w' (by simp [hs]) ?_ (by omega) ?_ (fun k hk => by rw [getD_set_iff (by omega)] at hk; rcases hk with rfl | hk; exact him; exact hlm k hk) (fun j hj k hk => ?_) hv' ((hst.trans hst').more (fun d hd => by rcases List.mem_append.1 hd with h | h; exact h; exact rgU_all d h)) (fun j hj hjl => ?_) hfr' ?_
      · have : ((List.range R.length).filter fun k => listed.getD k false).length < (List.range R.length).length := by
          refine Nat.lt_of_le_of_ne (List.length_filter_le _ _) fun e => ?_
          have := List.length_filter_eq_length_iff.1 e k0 (List.mem_range.2 hk0)
          exact hk0' (by simpa using this)
        rw [hcnt] at this; simp at this; omega
      · have hcount : ∀ n, n ≤ R.length → ((List.range n).filter fun k => (listed.setIfInBounds i true).getD k false).length = ((List.range n).filter fun k => listed.getD k false).length + (if i < n then 1 else 0) := by
          intro n
          induction n with
          | zero => intro _; simp
          | succ n ihn =>
            intro hn
            rw [List.range_succ, List.filter_append, List.filter_append, List.length_append, List.length_append, ihn (by omega)]
            have h1 : (listed.setIfInBounds i true).getD n false = (if n = i then true else listed.getD n false) := by
              rw [Bool.eq_iff_iff, getD_set_iff (by omega)]
              split <;> simp_all
            by_cases hni : n = i
            · subst hni
              simp only [List.filter_cons, h1, if_true, hi0', List.filter_nil, Bool.false_eq_true, if_false, List.length_cons, List.length_nil]
              rw [if_neg (by omega), if_pos (by omega)]
            · rw [List.filter_cons, List.filter_cons, h1, if_neg hni]
              have h2 : (if i < n + 1 then 1 else 0) = (if i < n then 1 else 0) := by split <;> split <;> omega
              rw [h2]
              split <;> simp <;> omega
        rw [hcount R.length (Nat.le_refl _), if_pos him, hcnt]
      · rw [getD_set_iff (by omega)] at hj ⊢
        rcases hj with rfl | hj
        · exact .inr (hwi k hk)
        · exact .inr (hdn j hj k hk)
      · have hne : j ≠ i := fun e => by
          have := (getD_set_iff (l := listed) (i := i) (j := j) (by omega)).2 (.inl e)
          rw [hjl] at this; cases this
        have hj0 : listed.getD j false = false := hfalse fun e => by
          have := (getD_set_iff (l := listed) (i := i) (j := j) (by omega)).2 (.inr e)
          rw [hjl] at this; cases this
        exact ((hsts j hj hj0).trans hst').more (fun d hd => by rcases List.mem_append.1 hd with h | h; exact h; exact rgU_oth hne d h)
      · intro j hj hlj hcs
        rw [getD_set_iff (by omega)] at hlj
        by_cases hji : j = i
        · subst hji; exact hphi
        · have hjl := hlj.resolve_left hji
          obtain ⟨u, hu, hpj⟩ := hleft j hj hjl fun c hc => hfalse fun e => by
            have := (getD_set_iff (l := listed) (i := i) (j := c) (by omega)).2 (.inr e)
            rw [hcs c hc] at this; cases this
          have hci : rgC R j ≠ some i := fun e => by
            have := hcs i e
            rw [(getD_set_iff (l := listed) (i := i) (j := i) (by omega)).2 (.inl rfl)] at this; cases this
          refine ⟨u, ?_, hper j i hj (fun e => hji e.symm) hci hst' hpj⟩
          cases hdi : o.dst with
          | none => exact hu
          | some di =>
            have hne : di ≠ rgS R j := fun e => by
              have := hdn j hjl i (hok.once i j o di him hj hji ho hdi e.symm)
              rw [hi0'] at this; cases this
            simp only [Act.put, Array.getElem?_setIfInBounds_ne hne]
            exact hu
theorem manyCore {R : List RG} (hok : manyOk ops l R = true) (hv : Valid lab w)
    (hper : ∀ j i, j < R.length → i ≠ j → rgC R j ≠ some i → ∀ {lab w lab' w' v}, Stp (rgU R i) lab w lab' w' → rgP R j lab w v → rgP R j lab' w' v)
    (hlaw : ∀ w0, Stp [] lab w lab w0 → ∀ i, i < R.length → ManyLaw ds P N ops Q l lab w0 R i)
    (htail : ∀ lab' w' a, Valid lab' w' → Stp (rgAll R) lab w lab' w' → Fr ds N l a → (∀ i, i < R.length → (∀ c, rgC R i = some c → R.length ≤ c) → LeftR R i lab' w' a) → wpList P ops Q (ops.toList.drop R.length) a w') :
    ∀ a, Fr ds N l a → wpAny P .any ops Q ops.size (Array.replicate ops.size false) a { w with drawn := w.drawn + 1 } := by
  intro a ha
  have h0 : ∀ k, (Array.replicate ops.size false).getD k false = false := fun k => by
    simp [Array.getElem?_replicate]
    split <;> simp
  have hst : Stp [] lab w lab { w with drawn := w.drawn + 1 } := Stp.drew lab w
  refine many_body (manyOk_spec hok) hper (hlaw _ hst) (fun lab' w' a hv' hs' hf' hl' => htail lab' w' a hv' (hst.trans hs') hf' hl') ops.size 0 _ lab a _ (by simp) (Nat.zero_le _) (by omega) ?_ (fun k hk => by rw [h0] at hk; cases hk) (fun k hk => by rw [h0] at hk; cases hk) (hv.below (Nat.le_refl _)) ((Stp.refl _ _).more (by simp)) (fun _ _ _ => (Stp.refl _ _).more (by simp)) ha (fun i _ hi => by rw [h0] at hi; cases hi)
  simp [h0]

/-! ### told shortly -/
def AskR (R : List RG) (lab : Lab) (w : World) (K : List (Nat × Value) → Prop) : List Nat → List (Nat × Value) → Prop
  | [], l => K l
  | j :: r, l => match rg R j with
    | some ⟨s, .ex u, _, _⟩ => AskR R lab w K r ((s, u) :: l)
    | some ⟨s, .v V, _, _⟩ => ∀ v, V lab w v → AskR R lab w K r ((s, v) :: l)
    | none => ∀ v, AskR R lab w K r ((0, v) :: l)
theorem AskR.elim {R : List RG} {lab : Lab} {w : World} {K : List (Nat × Value) → Prop} {a : Act} : ∀ {us : List Nat} {l : List (Nat × Value)}, AskR R lab w K us l → Fr ds N l a → (∀ j, j ∈ us → LeftR R j lab w a) → ∃ l', Fr ds N l' a ∧ K l'
  | [], l, h, hf, _ => ⟨l, hf, h⟩
  | j :: r, l, h, hf, hl => by
    obtain ⟨v, hv, hp⟩ := hl j (by simp)
    have hr : ∀ j, j ∈ r → LeftR R j lab w a := fun j hm => hl j (List.mem_cons_of_mem _ hm)
    unfold AskR at h
    unfold rgP at hp
    unfold rgS at hv
    split at h
    · rename_i s u U c hn
      rw [hn] at hp hv
      have : v = u := hp
      subst this
      exact AskR.elim h (hf.ext hv) hr
    · rename_i s V U c hn
      rw [hn] at hp hv
      exact AskR.elim (h v hp) (hf.ext hv) hr
    · rename_i hn
      rw [hn] at hv
      exact AskR.elim (h v) (hf.ext hv) hr
def depOkR (ops : Array Oper) (R : List RG) (i : Nat) (deps : List Nat) : Bool := deps.all fun j => waits ops i j && (match rgC R j with | none => true | some c => Nat.beq c i || waits ops c i)
def usOkR (R : List RG) (us : List Nat) : Bool := us.all fun j => Nat.blt j R.length && (match rgC R j with | none => true | some c => Nat.ble R.length c)
theorem depR {R : List RG} {i : Nat} {deps : List Nat} (hdep : depOkR ops R i deps = true) {lab : Lab} {w : World} {a : Act} (hl : ∀ j, waits ops i j = true → (∀ c, rgC R j = some c → c = i ∨ waits ops c i = true) → LeftR R j lab w a) : ∀ j, j ∈ deps → LeftR R j lab w a := fun j hm => by
  have h1 := List.all_eq_true.1 hdep _ hm
  simp only [Bool.and_eq_true] at h1
  refine hl j h1.1 fun c hc => ?_
  have h2 := h1.2
  rw [hc] at h2
  simp only [Bool.or_eq_true] at h2
  exact h2.imp Nat.eq_of_beq_eq_true id
/-- The law of an operation, in the state at hand. -/
def OpR (ds : List Deferred) (P : Program) (N : Nat) (ops : Array Oper) (Q : Exit → Act → World → Prop) (l : List (Nat × Value)) (lab : Lab) (w : World) (R : List RG) (i : Nat) : Prop := ∀ w0, Stp [] lab w lab w0 → ManyLaw ds P N ops Q l lab w0 R i
/-- What stays, whatever another operation writes. -/
def StayR (R : List RG) : Nat → List RG → Prop
  | _, [] => True
  | j, x :: r => (∀ i, i ≠ j → x.c ≠ some i → ∀ {lab : Lab} {w : World} {lab' : Lab} {w' : World} {v : Value}, Stp (rgU R i) lab w lab' w' → x.p.vp lab w v → x.p.vp lab' w' v) ∧ StayR R (j + 1) r
theorem stayR {R : List RG} : ∀ {R' : List RG} {k : Nat}, StayR R k R' → ∀ j i, j < R'.length → i ≠ k + j → rgC R' j ≠ some i → ∀ {lab w lab' w' v}, Stp (rgU R i) lab w lab' w' → rgP R' j lab w v → rgP R' j lab' w' v
  | [], k, _, j, i, hj, _, _, _, _, _, _, _, _, _ => absurd hj (by simp)
  | x :: r, k, h, 0, i, _, hi, hc, _, _, _, _, _, s, q => h.1 i hi hc s q
  | x :: r, k, h, j + 1, i, hj, hi, hc, _, _, _, _, _, s, q => stayR (R' := r) (k := k + 1) h.2 j i (by simpa using hj) (by omega) hc s q
theorem stay_ex {R : List RG} {j s : Nat} {u : Value} {U : List Nat} {c : Option Nat} : ∀ i, i ≠ j → (RG.mk s (.ex u) U c).c ≠ some i → ∀ {lab : Lab} {w : World} {lab' : Lab} {w' : World} {v : Value}, Stp (rgU R i) lab w lab' w' → (RG.mk s (.ex u) U c).p.vp lab w v → (RG.mk s (.ex u) U c).p.vp lab' w' v := fun _ _ _ _ _ _ _ _ _ q => q
theorem stay_v {R : List RG} {j s : Nat} {V : VP} [h : Per V] {U : List Nat} {c : Option Nat} : ∀ i, i ≠ j → (RG.mk s (.v V) U c).c ≠ some i → ∀ {lab : Lab} {w : World} {lab' : Lab} {w' : World} {v : Value}, Stp (rgU R i) lab w lab' w' → (RG.mk s (.v V) U c).p.vp lab w v → (RG.mk s (.v V) U c).p.vp lab' w' v := fun _ _ _ _ _ _ _ _ st q => h.p.step st q
/-- A variable of the call's own that holds what V says. -/
def BoxV (k : Nat) (t : TypeId) (V : VP) : VP := fun lab w v => ∃ b u, v = .pointer (some ⟨b, 0, none⟩) ∧ Own lab w k b t (Value.cells u) ∧ V lab w u
def noneOf (R : List RG) (j : Nat) (c : Option Nat) (k : Nat) : Bool := (List.range R.length).all fun i => Nat.beq i j || (match c with | some c => Nat.beq c i | none => false) || !((rgU R i).contains k)
theorem noneOf_spec {R : List RG} {j : Nat} {c : Option Nat} {k : Nat} (h : noneOf R j c k = true) (i : Nat) (hi : i ≠ j) (hc : c ≠ some i) : k ∉ rgU R i := by
  intro hk
  have hil : i < R.length := by
    refine Classical.byContradiction fun hge => ?_
    have : ∀ {R : List RG} {i : Nat}, R.length ≤ i → rg R i = none := by
      intro R
      induction R with
      | nil => intro i _; rfl
      | cons x r ih =>
        intro i h
        cases i with
        | zero => simp at h
        | succ i => simp only [rg]; exact ih (by simpa using h)
    unfold rgU at hk
    rw [this (by omega)] at hk
    cases hk
  have := List.all_eq_true.1 h i (List.mem_range.2 hil)
  rw [Bool.or_eq_true, Bool.or_eq_true] at this
  rcases this with (h1 | h1) | h1
  · exact hi (Nat.eq_of_beq_eq_true h1)
  · cases c with
    | none => cases h1
    | some c => exact hc (by rw [Nat.eq_of_beq_eq_true h1])
  · simp at h1; exact h1 hk
theorem stay_box {R : List RG} {j s k : Nat} {t : TypeId} {V : VP} [h : Per V] {U : List Nat} {c : Option Nat} (hn : noneOf R j c k = true) : ∀ i, i ≠ j → (RG.mk s (.v (BoxV k t V)) U c).c ≠ some i → ∀ {lab : Lab} {w : World} {lab' : Lab} {w' : World} {v : Value}, Stp (rgU R i) lab w lab' w' → (RG.mk s (.v (BoxV k t V)) U c).p.vp lab w v → (RG.mk s (.v (BoxV k t V)) U c).p.vp lab' w' v :=
  fun i hi hc _ _ _ _ _ st ⟨b, u, h1, h2, h3⟩ => ⟨b, u, h1, h2.lift st (noneOf_spec hn i hi hc), h.p.step st h3⟩
theorem stay_app {R : List RG} {j s k n : Nat} {t : TypeId} {cs : List Value} {U : List Nat} {c : Option Nat} (hn : noneOf R j c k = true) : ∀ i, i ≠ j → (RG.mk s (.v (AppF k t n cs)) U c).c ≠ some i → ∀ {lab : Lab} {w : World} {lab' : Lab} {w' : World} {v : Value}, Stp (rgU R i) lab w lab' w' → (RG.mk s (.v (AppF k t n cs)) U c).p.vp lab w v → (RG.mk s (.v (AppF k t n cs)) U c).p.vp lab' w' v :=
  fun i hi hc _ _ _ _ _ st h => App.lift h st (noneOf_spec hn i hi hc)
theorem runManyCore (R : List RG) (us : List Nat) (hok : manyOk ops l R = true) (hus : usOkR R us = true) (hv : Valid lab w) (hper : StayR R 0 R)
    (hlaw : LawsFrom (fun i => OpR ds P N ops Q l lab w R i) 0 R.length)
    (htail : ∀ lab' w', Valid lab' w' → Stp (rgAll R) lab w lab' w' → AskR R lab' w' (fun l' => Seq ds P N ops Q l' (ops.toList.drop R.length) w') us l) : ∀ a, Fr ds N l a → wpAny P .any ops Q ops.size (Array.replicate ops.size false) a { w with drawn := w.drawn + 1 } := fun a ha =>
  manyCore hok hv (fun j i hj hi hc {_ _ _ _ _} st q => stayR hper j i hj (by omega) hc st q) (fun w0 s0 i hi => laws hlaw i hi w0 s0) (fun lab' w' a hv' s hf hl => by
    obtain ⟨l', hf', hK⟩ := AskR.elim (htail lab' w' hv' s) hf fun j hm => by
      have h1 := List.all_eq_true.1 hus _ hm
      simp only [Bool.and_eq_true] at h1
      refine hl j (Nat.le_of_ble_eq_true h1.1) fun c hc => ?_
      have h2 := h1.2
      rw [hc] at h2
      exact Nat.le_of_ble_eq_true h2
    exact hK a hf') a ha

theorem Run.many {id : Nat} (R : List RG) (us : List Nat) (hm : P.follows .mixedOrders = true) (hok : manyOk ops l R = true) (hus : usOkR R us = true) (hv : Valid lab w) (hper : StayR R 0 R)
    (hlaw : LawsFrom (fun i => OpR ds P N ops Q l lab w R i) 0 R.length)
    (htail : ∀ lab' w', Valid lab' w' → Stp (rgAll R) lab w lab' w' → AskR R lab' w' (fun l' => Seq ds P N ops Q l' (ops.toList.drop R.length) w') us l) : Run ds P N Q (.region id ops true) l w := fun a ha => wp_region_any hm (runManyCore R us hok hus hv hper hlaw htail a ha)
variable {R : List RG} {i d : Nat} {op : Op} {ty : TypeId} {pos : String} {af : Array Edge}
theorem leftR_put {x : RG} (hx : rg R i = some x) {lab' : Lab} {w' : World} {a : Act} {v : Value} (hs : x.s = d) (hd : d < N) (ha : Fr ds N l a) (hp : x.p.vp lab' w' v) : LeftR R i lab' w' (a.put (some d) v) :=
  ⟨v, by unfold rgS; rw [hx]; show (a.tmps.setIfInBounds d v)[x.s]? = _; rw [hs]; have := ha.size; simp [this, hd], by unfold rgP; rw [hx]; exact hp⟩
/-- An operation that may lay blocks and write what is its own. -/
theorem rN (deps : List Nat) {x : RG} (ho : ops[i]? = some ⟨some d, op, ty, pos, af, none⟩) (hdep : depOkR ops R i deps = true) (hx : rg R i = some x) (hs : x.s = d)
    (h : ∀ lab' w', Valid lab' w' → Stp (rgOth R i) lab w lab' w' → AskR R lab' w' (fun l' => ∃ v lab2 w2, Does P l' op ty w' v w2 ∧ Valid lab2 w2 ∧ Stp x.U lab' w' lab2 w2 ∧ x.p.vp lab2 w2 v) deps l) (hd : d < N := by decide) : OpR ds P N ops Q l lab w R i := fun w0 s0 lab' w' a hv st hf hl => by
  obtain ⟨l', hf', v, lab2, w2, h1, h2, h3, h4⟩ := AskR.elim (h lab' w' hv ((s0.trans st).more (by simp))) hf (depR hdep hl)
  unfold wpOp
  simp only [ho]
  rw [if_pos (by simp [Region.wanted])]
  refine .inl ?_
  unfold Oper.wp
  rw [h1 a.eval (fun x u hu => hf'.eval hu)]
  exact ⟨lab2, v, fun o h => by cases h; rfl, fun d' h => by simp [dstOf, ho] at h; subst h; exact hd, h2, by unfold rgU; rw [hx]; exact h3, leftR_put hx hs hd hf h4⟩
theorem rP (deps : List Nat) {x : RG} (ho : ops[i]? = some ⟨some d, op, ty, pos, af, none⟩) (hdep : depOkR ops R i deps = true) (hx : rg R i = some x) (hs : x.s = d)
    (h : ∀ lab' w', Valid lab' w' → Stp (rgOth R i) lab w lab' w' → AskR R lab' w' (fun l' => ∃ v, Does P l' op ty w' v w' ∧ x.p.vp lab' w' v) deps l) (hd : d < N := by decide) : OpR ds P N ops Q l lab w R i := fun w0 s0 lab' w' a hv st hf hl => by
  obtain ⟨l', hf', v, h1, h4⟩ := AskR.elim (h lab' w' hv ((s0.trans st).more (by simp))) hf (depR hdep hl)
  unfold wpOp
  simp only [ho]
  rw [if_pos (by simp [Region.wanted])]
  refine .inl ?_
  unfold Oper.wp
  rw [h1 a.eval (fun x u hu => hf'.eval hu)]
  exact ⟨lab', v, fun o h => by cases h; rfl, fun d' h => by simp [dstOf, ho] at h; subst h; exact hd, hv, (Stp.refl _ _).more (by simp), leftR_put hx hs hd hf h4⟩
theorem rX (deps : List Nat) {s : Nat} {u : Value} {U : List Nat} {c : Option Nat} (ho : ops[i]? = some ⟨some d, op, ty, pos, af, none⟩) (hdep : depOkR ops R i deps = true) (hx : rg R i = some ⟨s, .ex u, U, c⟩) (hs : s = d)
    (h : ∀ lab' w', AskR R lab' w' (fun l' => Does P l' op ty w' u w') deps l) (hd : d < N := by decide) : OpR ds P N ops Q l lab w R i := fun w0 s0 lab' w' a hv st hf hl => by
  obtain ⟨l', hf', h1⟩ := AskR.elim (h lab' w') hf (depR hdep hl)
  unfold wpOp
  simp only [ho]
  rw [if_pos (by simp [Region.wanted])]
  refine .inl ?_
  unfold Oper.wp
  rw [h1 a.eval (fun x u hu => hf'.eval hu)]
  exact ⟨lab', u, fun o h => by cases h; rfl, fun d' h => by simp [dstOf, ho] at h; subst h; exact hd, hv, (Stp.refl _ _).more (by simp), leftR_put (x := ⟨s, .ex u, U, c⟩) hx hs hd hf rfl⟩
/-- A call that writes nothing of its caller's. -/
theorem rC {f : Nat} {xs : List Operand} {tys : Array TypeId} (deps : List Nat) {x : RG} (ho : ops[i]? = some ⟨some d, .call ⟨.value (.func f), xs.toArray, tys⟩, ty, pos, af, none⟩) (hdep : depOkR ops R i deps = true) (hx : rg R i = some x) (hs : x.s = d) (hfc : Callable P f)
    (h : ∀ lab' w', Valid lab' w' → Stp (rgOth R i) lab w lab' w' → AskR R lab' w' (fun l' => ∃ vs, evs l' xs = some vs ∧ Calls P f vs.toArray w' (fun e w2 => ∃ v, e = .returned v ∧ x.p.vp lab' w2 v ∧ Below w'.heap.size w' w2)) deps l) (hd : d < N := by decide) : OpR ds P N ops Q l lab w R i := fun w0 s0 lab' w' a hv st hf hl => by
  obtain ⟨l', hf', vs, h1, h4⟩ := AskR.elim (h lab' w' hv ((s0.trans st).more (by simp))) hf (depR hdep hl)
  unfold wpOp
  simp only [ho]
  rw [if_pos (by simp [Region.wanted])]
  refine .inl ?_
  unfold Oper.wp
  rw [run_call hfc h1 w' a.eval (fun x u hu => hf'.eval hu)]
  refine Calls.mono h4 ?_
  rintro e w2 ⟨v, rfl, hphi, hb⟩
  exact ⟨lab', v, fun o h => by cases h; rfl, fun d' h => by simp [dstOf, ho] at h; subst h; exact hd, hv.below hb.size, (Stp.below hb).more (by simp), leftR_put hx hs hd hf hphi⟩
/-- A store. -/
theorem rS (deps : List Nat) {x : RG} (ho : ops[i]? = some ⟨none, op, ty, pos, af, none⟩) (hdep : depOkR ops R i deps = true) (hx : rg R i = some x)
    (h : ∀ lab' w', Valid lab' w' → Stp (rgOth R i) lab w lab' w' → AskR R lab' w' (fun l' => ∃ v w2, DoesU P l' op ty w' w2 ∧ Valid lab' w2 ∧ Stp x.U lab' w' lab' w2 ∧ ev l' (.tmp x.s) = some v ∧ x.p.vp lab' w2 v) deps l) : OpR ds P N ops Q l lab w R i := fun w0 s0 lab' w' a hv st hf hl => by
  obtain ⟨l', hf', v, w2, h1, h2, h3, h4, h5⟩ := AskR.elim (h lab' w' hv ((s0.trans st).more (by simp))) hf (depR hdep hl)
  unfold wpOp
  simp only [ho]
  rw [if_pos (by simp [Region.wanted])]
  refine .inl ?_
  unfold Oper.wp
  rw [h1 a.eval (fun x u hu => hf'.eval hu)]
  exact ⟨lab', undef, fun o h => by cases h; rfl, fun d' h => by simp [dstOf, ho] at h, h2, by unfold rgU; rw [hx]; exact h3, v, by unfold rgS; rw [hx]; exact hf'.at_ _ _ h4, by unfold rgP; rw [hx]; exact h5⟩
/-- A store, as an operation. -/
theorem store_lawR {k b o : Nat} {t t' : TypeId} {x y : Operand} {v : Value} {ag : Bool} {n by_ : Nat} {z : Option Value} {arr : Array Value} (arr' : List Value) (hv : Valid lab w) (hO : Own lab w k b t' arr) (ht : tyRow P t = some (ag, n, z, by_)) (hx : ev l x = some (.pointer (some ⟨b, o, none⟩))) (hy : ev l y = some v)
    (hn : v.cells.size = n) (ho : o + n ≤ arr.size) (h1 : v.cells.toList.all (·.oneCell') = true) (ha : (arr.toList.take o ++ v.cells.toList ++ arr.toList.drop (o + n)).toArray = arr'.toArray) : ∃ w2, DoesU P l (.store t x y) ty w w2 ∧ Valid lab w2 ∧ Stp [k] lab w lab w2 ∧ Own lab w2 k b t' arr'.toArray :=
  ⟨_, Does.store arr'.toArray hO ht hx hy hn ho h1 ha, hv.set _ _, Stp.set hO.1 _, hO.set _⟩
theorem store_goR {s k b o : Nat} {t t' : TypeId} {y : Operand} {v : Value} {ag : Bool} {n by_ : Nat} {z : Option Value} {arr : Array Value} {V : VP} (arr' : List Value) (hv : Valid lab w) (hO : Own lab w k b t' arr) (ht : tyRow P t = some (ag, n, z, by_)) (hx : ev l (.tmp s) = some (.pointer (some ⟨b, o, none⟩))) (hy : ev l y = some v)
    (hn : v.cells.size = n) (ho : o + n ≤ arr.size) (h1 : v.cells.toList.all (·.oneCell') = true) (ha : (arr.toList.take o ++ v.cells.toList ++ arr.toList.drop (o + n)).toArray = arr'.toArray)
    (hk : ∀ w2, Stp [k] lab w lab w2 → Own lab w2 k b t' arr'.toArray → V lab w2 (.pointer (some ⟨b, o, none⟩))) : ∃ u w2, DoesU P l (.store t (.tmp s) y) ty w w2 ∧ Valid lab w2 ∧ Stp [k] lab w lab w2 ∧ ev l (.tmp s) = some u ∧ V lab w2 u := by
  obtain ⟨w2, h1', h2', h3', h4'⟩ := store_lawR (P := P) (ty := ty) arr' hv hO ht hx hy hn ho h1 ha
  exact ⟨_, w2, h1', h2', h3', hx, hk w2 h3' h4'⟩
/-- A variable that was there. -/
def BoxB (b k : Nat) (t : TypeId) (V : VP) : VP := fun lab w v => ∃ u, v = .pointer (some ⟨b, 0, none⟩) ∧ Own lab w k b t (Value.cells u) ∧ V lab w u
theorem stay_boxB {R : List RG} {j s k b : Nat} {t : TypeId} {V : VP} [h : Per V] {U : List Nat} {c : Option Nat} (hn : noneOf R j c k = true) : ∀ i, i ≠ j → (RG.mk s (.v (BoxB b k t V)) U c).c ≠ some i → ∀ {lab : Lab} {w : World} {lab' : Lab} {w' : World} {v : Value}, Stp (rgU R i) lab w lab' w' → (RG.mk s (.v (BoxB b k t V)) U c).p.vp lab w v → (RG.mk s (.v (BoxB b k t V)) U c).p.vp lab' w' v :=
  fun i hi hc _ _ _ _ _ st ⟨u, h1, h2, h3⟩ => ⟨u, h1, h2.lift st (noneOf_spec hn i hi hc), h.p.step st h3⟩
end
end Go.Proofs.Ytgfomedobfaidaa
