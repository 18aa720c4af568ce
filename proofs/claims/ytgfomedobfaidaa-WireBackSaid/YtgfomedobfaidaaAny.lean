/-
  A region whose order is open: each operation of its body has a law that asks only for what it waits for; whatever the order, all hold behind it; then come the operations that wait for all (the tail).
  And the frame of a call.
-/
import Derived.Test.YtgfomedobfaidaaMem
set_option linter.unusedVariables false
set_option linter.unusedSimpArgs false
namespace Go.Proofs.Ytgfomedobfaidaa
open Go.RowKit

section
variable {ds : List Deferred} {P : Program} {N : Nat} {ops : Array Oper} {Q : Exit → Act → World → Prop}

/-- Checked by the kernel: binding edges go back; operation m waits for all ahead of it, each one behind it for the one ahead of it; the body's slots are its own, each written once. -/
def bodyOk (ops : Array Oper) (m : Nat) (l : List (Nat × Value)) : Bool :=
  ((List.range ops.size).all fun j => match ops[j]? with
    | some o => (o.after.all fun e => !Region.binds .any e || Nat.blt e.on j) &&
      (if j < m then (match o.dst with | some d => (lk l d).isNone && ((List.range m).all fun k => Nat.beq k j || (match ops[k]? with | some o' => o'.dst != some d | none => true)) | none => true)
       else if j = m then (List.range m).all fun k => o.after.any fun e => Region.binds .any e && Nat.beq e.on k
       else o.after.any fun e => Region.binds .any e && Nat.beq e.on (j - 1))
    | none => false) && Nat.ble m ops.size

structure BodyOk (ops : Array Oper) (m : Nat) (l : List (Nat × Value)) : Prop where
  le : m ≤ ops.size
  back : ∀ (j : Nat) (o : Oper), ops[j]? = some o → ∀ e ∈ o.after, Region.binds .any e = true → e.on < j
  fresh : ∀ (j : Nat) (o : Oper) (d : Nat), j < m → ops[j]? = some o → o.dst = some d → lk l d = none
  once : ∀ (j k : Nat) (o o' : Oper) (d : Nat), j < m → k < m → j ≠ k → ops[j]? = some o → ops[k]? = some o' → o.dst = some d → o'.dst ≠ some d
  atM : ∀ o, ops[m]? = some o → ∀ k, k < m → ∃ e ∈ o.after, Region.binds .any e = true ∧ e.on = k
  chain : ∀ (j : Nat) (o : Oper), m < j → ops[j]? = some o → ∃ e ∈ o.after, Region.binds .any e = true ∧ e.on = j - 1

theorem bodyOk_spec {m : Nat} {l : List (Nat × Value)} (h : bodyOk ops m l = true) : BodyOk ops m l := by
  unfold bodyOk at h
  rw [Bool.and_eq_true, List.all_eq_true] at h
  obtain ⟨h, hm⟩ := h
  have hle : m ≤ ops.size := Nat.le_of_ble_eq_true hm
  have key : ∀ (j : Nat) (o : Oper), ops[j]? = some o → (o.after.all fun e => !Region.binds .any e || Nat.blt e.on j) = true ∧
      (if j < m then (match o.dst with | some d => (lk l d).isNone && ((List.range m).all fun k => Nat.beq k j || (match ops[k]? with | some o' => o'.dst != some d | none => true)) | none => true)
       else if j = m then (List.range m).all fun k => o.after.any fun e => Region.binds .any e && Nat.beq e.on k
       else o.after.any fun e => Region.binds .any e && Nat.beq e.on (j - 1)) = true := by
    intro j o ho
    have hj : j < ops.size := (Array.getElem?_eq_some_iff.1 ho).1
    have := h j (List.mem_range.2 hj)
    simp only [ho, Bool.and_eq_true] at this
    exact this
  refine ⟨hle, ?_, ?_, ?_, ?_, ?_⟩
  · intro j o ho e he hb
    have := (Array.all_eq_true_iff_forall_mem.1 (key j o ho).1) e he
    simp only [hb, Bool.not_true, Bool.false_or] at this
    exact Nat.lt_of_not_le fun hle => by simp [Nat.blt] at this; omega
  · intro j o d hj ho hd
    have := (key j o ho).2
    rw [if_pos hj] at this
    simp only [hd, Bool.and_eq_true] at this
    simpa using this.1
  · intro j k o o' d hj hk hne ho ho' hd
    have := (key j o ho).2
    rw [if_pos hj] at this
    simp only [hd, Bool.and_eq_true, List.all_eq_true] at this
    have := this.2 k (List.mem_range.2 hk)
    simp only [ho', Bool.or_eq_true] at this
    rcases this with h1 | h1
    · exact absurd (Nat.eq_of_beq_eq_true h1).symm hne
    · simpa using h1
  · intro o ho k hk
    have := (key m o ho).2
    rw [if_neg (by omega), if_pos rfl, List.all_eq_true] at this
    have := this k (List.mem_range.2 hk)
    rw [← Array.any_toList, List.any_eq_true] at this
    obtain ⟨e, he, h1⟩ := this
    replace he := Array.mem_toList_iff.1 he
    rw [Bool.and_eq_true] at h1
    exact ⟨e, he, h1.1, Nat.eq_of_beq_eq_true h1.2⟩
  · intro j o hj ho
    have := (key j o ho).2
    rw [if_neg (by omega), if_neg (by omega)] at this
    rw [← Array.any_toList, List.any_eq_true] at this
    obtain ⟨e, he, h1⟩ := this
    replace he := Array.mem_toList_iff.1 he
    rw [Bool.and_eq_true] at h1
    exact ⟨e, he, h1.1, Nat.eq_of_beq_eq_true h1.2⟩

def dstOf (ops : Array Oper) (i : Nat) : Option Nat := (ops[i]?).bind (·.dst)
def waits (ops : Array Oper) (i j : Nat) : Bool := match ops[i]? with
  | some o => o.after.toList.any fun e => Region.binds .any e && Nat.beq e.on j
  | none => false
/-- What operation i has left: its slot's value, told by Φ i. -/
def Left (ops : Array Oper) (Φ : Nat → VP) (i : Nat) (lab : Lab) (w : World) (a : Act) : Prop :=
  ∀ d, dstOf ops i = some d → ∃ v, a.tmps[d]? = some v ∧ Φ i lab w v

/-- .. of an operation without a slot. -/
def LeftU (ops : Array Oper) (Φ : Nat → VP) (i : Nat) (lab : Lab) (w : World) : Prop := dstOf ops i = none → ∃ v, Φ i lab w v
/-- The law of one operation: it asks for what it waits for. -/
def OpLaw (ds : List Deferred) (P : Program) (N : Nat) (ops : Array Oper) (Q : Exit → Act → World → Prop) (l : List (Nat × Value)) (lab0 : Lab) (w0 : World) (Φ : Nat → VP) (T U : List Nat) (i : Nat) : Prop :=
  ∀ lab w a, Valid lab w → Stp T lab0 w0 lab w → Fr ds N l a → (∀ j, waits ops i j = true → Left ops Φ j lab w a) →
    wpOp P ops Q i (fun a' w' => ∃ lab' v, (∀ o, ops[i]? = some o → a' = a.put o.dst v) ∧ (∀ d, dstOf ops i = some d → d < N) ∧ Valid lab' w' ∧ Stp U lab w lab' w' ∧ Φ i lab' w' v) a w

theorem getD_set_iff {l : Array Bool} {i j : Nat} (hi : i < l.size) : (l.setIfInBounds i true).getD j false = true ↔ (j = i ∨ l.getD j false = true) := by
  by_cases h : i = j
  · subst h; simp [hi]
  · have e : (l.setIfInBounds i true).getD j false = l.getD j false := by simp [Array.getElem?_setIfInBounds_ne h]
    rw [e]
    exact ⟨fun x => .inr x, fun x => x.resolve_left (fun e => h e.symm)⟩

/-- The tail: what stands behind p comes one after the other. -/
theorem wpAny_tail {m : Nat} {l : List (Nat × Value)} (hok : BodyOk ops m l) : ∀ (fuel p : Nat) (listed : Array Bool) (a : Act) (w : World), m ≤ p → p ≤ ops.size → fuel + p = ops.size → listed.size = ops.size →
    (∀ k, listed.getD k false = true ↔ k < p) → wpList P ops Q (ops.toList.drop p) a w → wpAny P .any ops Q fuel listed a w
  | 0, p, listed, a, w, hm, hp, hf, hs, hl, h => by
    have hpn : p = ops.size := by omega
    subst hpn
    have hr : Region.ready .any ops listed = [] := List.eq_nil_iff_forall_not_mem.2 fun j hj => by
      obtain ⟨h0, o, ho, _⟩ := mem_ready.1 hj
      have hj' : j < ops.size := (Array.getElem?_eq_some_iff.1 ho).1
      have h1 := (hl j).2 hj'
      simp [show j < listed.size by omega] at h0 h1
      rw [h0] at h1; cases h1
    refine ⟨hr, ?_⟩
    rw [List.drop_of_length_le (by simp)] at h
    exact h
  | fuel + 1, p, listed, a, w, hm, hp, hf, hs, hl, h => by
    have hpn : p < ops.size := by omega
    have hop : ops[p]? = some ops[p] := Array.getElem?_eq_getElem hpn
    have hready : p ∈ Region.ready .any ops listed := by
      rw [mem_ready]
      refine ⟨?_, ops[p], hop, fun e he hb => (hl _).2 (hok.back p _ hop e he hb)⟩
      have h1 : ¬ listed.getD p false = true := fun e => Nat.lt_irrefl p ((hl p).1 e)
      simpa [show p < listed.size by omega] using h1
    refine ⟨fun h0 => (by rw [h0] at hready; cases hready), fun i hi => ?_⟩
    obtain ⟨hi0, o, ho, hall⟩ := mem_ready.1 hi
    have hilt : i < ops.size := (Array.getElem?_eq_some_iff.1 ho).1
    have hip : i = p := by
      have h1 : ¬ i < p := fun h => by
        have := (hl i).2 h
        simp [show i < listed.size by omega] at hi0 this
        rw [hi0] at this; cases this
      by_cases h2 : i = p
      · exact h2
      · exfalso
        by_cases him : m < i
        · obtain ⟨e, he, hb, hon⟩ := hok.chain i o him ho
          have := (hl _).1 (hall e he hb)
          omega
        · omega
    subst hip
    have hoe : o = ops[i] := by rw [hop] at ho; exact (Option.some.inj ho).symm
    have hdrop : ops.toList.drop i = ops[i] :: ops.toList.drop (i + 1) := by
      rw [List.drop_eq_getElem_cons (by simpa using hpn)]; simp
    rw [hdrop] at h
    unfold wpOp
    rw [hop]
    unfold wpList at h
    have next : ∀ a w, wpList P ops Q (ops.toList.drop (i + 1)) a w → wpAny P .any ops Q fuel (listed.setIfInBounds i true) a w := fun a w h' =>
      wpAny_tail hok fuel (i + 1) _ a w (by omega) (by omega) (by omega) (by simp [hs]) (fun k => by rw [getD_set_iff (by omega), hl]; omega) h'
    dsimp only
    split
    · rename_i hw
      rw [if_pos hw] at h
      exact h.imp (Oper.wp_mono next) id
    · rename_i hw
      rw [if_neg hw] at h
      exact next _ _ h

theorem wpAny_body {m : Nat} {l : List (Nat × Value)} (hok : BodyOk ops m l) {lab0 : Lab} {w0 : World} {Φ : Nat → VP} {T : List Nat} {z : Nat}
    (hΦ : ∀ i, i < m → ∀ {lab w lab' w' v}, Stp [] lab w lab' w' → Φ i lab w v → Φ i lab' w' v) (hΦT : ∀ i, i < m → i ≠ z → ∀ {lab w lab' w' v}, Stp T lab w lab' w' → Φ i lab w v → Φ i lab' w' v)
    (hlaw : ∀ i, i < m → i ≠ z → OpLaw ds P N ops Q l lab0 w0 Φ T [] i) (hlawz : z < m → OpLaw ds P N ops Q l lab0 w0 Φ [] T z)
    (htail : ∀ lab w a, Valid lab w → Stp T lab0 w0 lab w → Fr ds N l a → (∀ i, i < m → Left ops Φ i lab w a) → (∀ i, i < m → LeftU ops Φ i lab w) → wpList P ops Q (ops.toList.drop m) a w) :
    ∀ (fuel c : Nat) (listed : Array Bool) (lab : Lab) (a : Act) (w : World), listed.size = ops.size → c ≤ m → c + fuel = ops.size → ((List.range m).filter fun k => listed.getD k false).length = c → (∀ k, listed.getD k false = true → k < m) →
      Valid lab w → Stp T lab0 w0 lab w → (listed.getD z false = false → Stp [] lab0 w0 lab w) → Fr ds N l a → (∀ i, i < m → listed.getD i false = true → Left ops Φ i lab w a) → (∀ i, i < m → listed.getD i false = true → LeftU ops Φ i lab w) → wpAny P .any ops Q fuel listed a w := by
  intro fuel
  induction fuel with
  | zero =>
    intro c listed lab a w hs hc hf hcnt hlm hv hst hst0 hfr hleft hleftU
    have hmn : m = ops.size := by have := hok.le; omega
    have hall : ∀ k, k < m → listed.getD k false = true := by
      intro k hk
      have hlen : ((List.range m).filter fun k => listed.getD k false).length = (List.range m).length := by simp; simp at hcnt; omega
      have := List.length_filter_eq_length_iff.1 hlen k (List.mem_range.2 hk)
      simpa using this
    exact wpAny_tail hok 0 m listed a w (Nat.le_refl _) hok.le (by omega) hs (fun k => ⟨hlm k, hall k⟩) (htail lab w a hv hst hfr (fun i hi => hleft i hi (hall i hi)) (fun i hi => hleftU i hi (hall i hi)))
  | succ fuel ih =>
    intro c listed lab a w hs hc hf hcnt hlm hv hst hst0 hfr hleft hleftU
    by_cases hall : ∀ k, k < m → listed.getD k false = true
    · have hcm : c = m := by
        rw [← hcnt, List.filter_eq_self.2 (fun k hk => by simpa using hall k (List.mem_range.1 hk))]; simp
      exact wpAny_tail hok (fuel + 1) m listed a w (Nat.le_refl _) hok.le (by omega) hs (fun k => ⟨hlm k, hall k⟩) (htail lab w a hv hst hfr (fun i hi => hleft i hi (hall i hi)) (fun i hi => hleftU i hi (hall i hi)))
    · have hex : ∃ k, k < m ∧ ¬ listed.getD k false = true := by
        refine Classical.byContradiction fun hno => hall fun k hk => Classical.byContradiction fun hk' => hno ⟨k, hk, hk'⟩
      obtain ⟨k0, ⟨hk0, hk0'⟩, hmin⟩ := exists_least hex
      have hk0s : k0 < ops.size := Nat.lt_of_lt_of_le hk0 hok.le
      have hready : k0 ∈ Region.ready .any ops listed := by
        rw [mem_ready]
        refine ⟨by simpa [show k0 < listed.size by omega] using hk0', ops[k0], Array.getElem?_eq_getElem hk0s, fun e he hb => ?_⟩
        have hlt := hok.back k0 _ (Array.getElem?_eq_getElem hk0s) e he hb
        refine Classical.byContradiction fun hno => ?_
        have := hmin e.on ⟨by omega, hno⟩
        omega
      refine ⟨fun h0 => (by rw [h0] at hready; cases hready), fun i hi => ?_⟩
      obtain ⟨hi0, o, ho, hwait⟩ := mem_ready.1 hi
      have his : i < ops.size := (Array.getElem?_eq_some_iff.1 ho).1
      have him : i < m := by
        refine Classical.byContradiction fun hge => ?_
        -- one that stands behind the body waits for all of the body
        have hchain : ∀ d j, j = m + d → ∀ oj, ops[j]? = some oj → (∀ e ∈ oj.after, Region.binds .any e = true → listed.getD e.on false = true) → listed.getD k0 false = true := by
          intro d
          induction d with
          | zero =>
            intro j hj oj hoj hw
            subst hj
            obtain ⟨e, he, hb, hon⟩ := hok.atM oj hoj k0 hk0
            rw [← hon]; exact hw e he hb
          | succ d ihd =>
            intro j hj oj hoj hw
            obtain ⟨e, he, hb, hon⟩ := hok.chain j oj (by omega) hoj
            have h1 := hlm _ (hw e he hb)
            omega
        exact hk0' (hchain (i - m) i (by omega) o ho hwait)
      have hi0' : listed.getD i false = false := by simpa [show i < listed.size by omega] using hi0
      have hwaits : ∀ j, waits ops i j = true → Left ops Φ j lab w a := fun j hj => by
        unfold waits at hj
        simp only [ho] at hj
        rw [List.any_eq_true] at hj
        obtain ⟨e, he, h1⟩ := hj
        rw [Bool.and_eq_true] at h1
        have hej := Nat.eq_of_beq_eq_true h1.2
        subst hej
        replace he := Array.mem_toList_iff.1 he
        exact hleft e.on (Nat.lt_trans (hok.back i o ho e he h1.1) him) (hwait e he h1.1)
      have hthis : wpOp P ops Q i (fun a' w' => ∃ lab' v, (∀ o, ops[i]? = some o → a' = a.put o.dst v) ∧ (∀ d, dstOf ops i = some d → d < N) ∧ Valid lab' w' ∧ (Stp T lab0 w0 lab' w' ∧ (i ≠ z → Stp [] lab w lab' w') ∧ (i = z → Stp T lab w lab' w')) ∧ Φ i lab' w' v) a w := by
        by_cases hiz : i = z
        · subst hiz
          refine wpOp_mono ?_ (hlawz him lab w a hv (hst0 hi0') hfr hwaits)
          rintro a' w' ⟨lab', v, h1, h2, h3, h4, h5⟩
          exact ⟨lab', v, h1, h2, h3, ⟨(hst0 hi0').trans h4, fun e => absurd rfl e, fun _ => h4⟩, h5⟩
        · refine wpOp_mono ?_ (hlaw i him hiz lab w a hv hst hfr hwaits)
          rintro a' w' ⟨lab', v, h1, h2, h3, h4, h5⟩
          exact ⟨lab', v, h1, h2, h3, ⟨(hst.trans h4).more (by simp), fun _ => h4, fun e => absurd e hiz⟩, h5⟩
      refine wpOp_mono ?_ hthis
      rintro a' w' ⟨lab', v, hput, hdN, hv', ⟨hst', hstn, hstz⟩, hphi⟩
      obtain rfl := hput o ho
      replace hdN : ∀ d, o.dst = some d → d < N := fun d hd => hdN d (by simp [dstOf, ho, hd])
      have hfr' : Fr ds N l (a.put o.dst v) := by
        cases hd : o.dst with
        | none => exact hfr
        | some d =>
          refine ⟨hfr.defers, by simp [Act.put, hfr.size], fun t u hu => ?_⟩
          have hne : d ≠ t := fun e => by subst e; rw [hok.fresh i o d him ho hd] at hu; cases hu
          simp only [Act.put, Array.getElem?_setIfInBounds_ne hne]
          exact hfr.at_ t u hu
      refine ih (c + 1) _ lab' _ w' (by simp [hs]) ?_ (by omega) ?_ (fun k hk => by rw [getD_set_iff (by omega)] at hk; rcases hk with rfl | hk; exact him; exact hlm k hk) hv' hst' (fun hz => by
        have hzi : i ≠ z := fun e => by subst e; have := (getD_set_iff (l := listed) (i := i) (j := i) (by omega)).2 (.inl rfl); rw [hz] at this; cases this
        have hz0 : listed.getD z false = false := by
          cases hq : listed.getD z false with
          | false => rfl
          | true => have := (getD_set_iff (l := listed) (i := i) (j := z) (by omega)).2 (.inr hq); rw [hz] at this; cases this
        exact (hst0 hz0).trans (hstn hzi)) hfr' ?_ ?_
      · -- the count
        have : ((List.range m).filter fun k => listed.getD k false).length < (List.range m).length := by
          refine Nat.lt_of_le_of_ne (List.length_filter_le _ _) fun e => ?_
          have := List.length_filter_eq_length_iff.1 e k0 (List.mem_range.2 hk0)
          exact hk0' (by simpa using this)
        rw [hcnt] at this; simp at this; omega
      · have hcount : ∀ n, n ≤ m → ((List.range n).filter fun k => (listed.setIfInBounds i true).getD k false).length = ((List.range n).filter fun k => listed.getD k false).length + (if i < n then 1 else 0) := by
          intro n
          induction n with
          | zero => intro _; simp
          | succ n ihn =>
            intro hn
            rw [List.range_succ, List.filter_append, List.filter_append, List.length_append, List.length_append, ihn (by omega)]
            have h1 : (listed.setIfInBounds i true).getD n false = (if n = i then true else listed.getD n false) := by
              rw [Bool.eq_iff_iff, getD_set_iff (by omega)]
              split <;> simp_all
            by_cases hni : n = i
            · subst hni
              simp only [List.filter_cons, h1, if_true, hi0', List.filter_nil, Bool.false_eq_true, if_false, List.length_cons, List.length_nil]
              rw [if_neg (by omega), if_pos (by omega)]
            · rw [List.filter_cons, List.filter_cons, h1, if_neg hni]
              have h2 : (if i < n + 1 then 1 else 0) = (if i < n then 1 else 0) := by split <;> split <;> omega
              rw [h2]
              split <;> simp <;> omega
        rw [hcount m (Nat.le_refl _), if_pos him, hcnt]
      · intro j hj hlj
        rw [getD_set_iff (by omega)] at hlj
        intro d hjd
        obtain ⟨oj, hoj, hd⟩ : ∃ oj, ops[j]? = some oj ∧ oj.dst = some d := by
          unfold dstOf at hjd
          cases hq : ops[j]? with
          | none => simp [hq] at hjd
          | some oj => exact ⟨oj, rfl, by simpa [hq] using hjd⟩
        by_cases hji : j = i
        · subst hji
          rw [ho] at hoj
          cases hoj
          refine ⟨v, ?_, hphi⟩
          simp [hd, Act.put, hfr.size, hdN d hd]
        · obtain ⟨u, hu, hphij⟩ := hleft j hj (hlj.resolve_left hji) d hjd
          refine ⟨u, ?_, (if hjz : i = z then hΦT j hj (fun e => hji (e.trans hjz.symm)) (hstz hjz) hphij else hΦ j hj (hstn hjz) hphij)⟩
          cases hdi : o.dst with
          | none => exact hu
          | some di =>
            have hne : di ≠ d := fun e => hok.once j i oj o d hj him hji hoj ho hd (by rw [hdi, e])
            simp only [Act.put, Array.getElem?_setIfInBounds_ne hne]
            exact hu
      · intro j hj hlj hjn
        rw [getD_set_iff (by omega)] at hlj
        by_cases hji : j = i
        · subst hji; exact ⟨v, hphi⟩
        · obtain ⟨u, hu⟩ := hleftU j hj (hlj.resolve_left hji) hjn
          exact ⟨u, if hjz : i = z then hΦT j hj (fun e => hji (e.trans hjz.symm)) (hstz hjz) hu else hΦ j hj (hstn hjz) hu⟩

/-- THE REGION WHOSE ORDER IS OPEN. -/
theorem anyCore {m : Nat} {l : List (Nat × Value)} {lab : Lab} {w : World} (hok : bodyOk ops m l = true) (hv : Valid lab w) (Φ : Nat → VP)
    (hΦ : ∀ i, i < m → ∀ {lab w lab' w' v}, Stp [] lab w lab' w' → Φ i lab w v → Φ i lab' w' v)
    (hlaw : ∀ w0, Stp [] lab w lab w0 → ∀ i, i < m → OpLaw ds P N ops Q l lab w0 Φ [] [] i)
    (htail : ∀ lab' w' a, Valid lab' w' → Stp [] lab w lab' w' → Fr ds N l a → (∀ i, i < m → Left ops Φ i lab' w' a) → wpList P ops Q (ops.toList.drop m) a w') : ∀ a, Fr ds N l a → wpAny P .any ops Q ops.size (Array.replicate ops.size false) a { w with drawn := w.drawn + 1 } := by
  intro a ha
  have h0 : ∀ k, (Array.replicate ops.size false).getD k false = false := fun k => by
    simp [Array.getElem?_replicate]
    split <;> simp
  have hst : Stp [] lab w lab { w with drawn := w.drawn + 1 } := Stp.drew lab w
  refine wpAny_body (T := []) (z := ops.size) (bodyOk_spec hok) hΦ (fun i hi _ => hΦ i hi) (fun i hi _ => hlaw _ hst i hi) (fun hz => absurd (bodyOk_spec hok).le (by omega)) (fun lab' w' a hv' hs' hf' hl' _ => htail lab' w' a hv' (hst.trans hs') hf' hl') ops.size 0 _ lab a _ (by simp) (Nat.zero_le _) (by omega) ?_ (fun k hk => by rw [h0] at hk; cases hk) (hv.below (Nat.le_refl _)) (Stp.refl _ _) (fun _ => Stp.refl _ _) ha (fun i _ hi => by rw [h0] at hi; cases hi) (fun i _ hi => by rw [h0] at hi; cases hi)
  simp [h0]

theorem Run.any {id m : Nat} {l : List (Nat × Value)} {lab : Lab} {w : World} (hm : P.follows .mixedOrders = true) (hok : bodyOk ops m l = true) (hv : Valid lab w) (Φ : Nat → VP)
    (hΦ : ∀ i, i < m → ∀ {lab w lab' w' v}, Stp [] lab w lab' w' → Φ i lab w v → Φ i lab' w' v)
    (hlaw : ∀ w0, Stp [] lab w lab w0 → ∀ i, i < m → OpLaw ds P N ops Q l lab w0 Φ [] [] i)
    (htail : ∀ lab' w' a, Valid lab' w' → Stp [] lab w lab' w' → Fr ds N l a → (∀ i, i < m → Left ops Φ i lab' w' a) → wpList P ops Q (ops.toList.drop m) a w') : Run ds P N Q (.region id ops true) l w := fun a ha => wp_region_any hm (anyCore hok hv Φ hΦ hlaw htail a ha)

/-- .. where one operation writes blocks of the call's own. -/
theorem Run.anyOne {id m : Nat} {l : List (Nat × Value)} {lab : Lab} {w : World} (z : Nat) (T : List Nat) (hm : P.follows .mixedOrders = true) (hok : bodyOk ops m l = true) (hv : Valid lab w) (Φ : Nat → VP)
    (hΦ : ∀ i, i < m → ∀ {lab w lab' w' v}, Stp [] lab w lab' w' → Φ i lab w v → Φ i lab' w' v) (hΦT : ∀ i, i < m → i ≠ z → ∀ {lab w lab' w' v}, Stp T lab w lab' w' → Φ i lab w v → Φ i lab' w' v)
    (hlaw : ∀ w0, Stp [] lab w lab w0 → ∀ i, i < m → if i = z then OpLaw ds P N ops Q l lab w0 Φ [] T i else OpLaw ds P N ops Q l lab w0 Φ T [] i)
    (htail : ∀ lab' w' a, Valid lab' w' → Stp T lab w lab' w' → Fr ds N l a → (∀ i, i < m → Left ops Φ i lab' w' a) → wpList P ops Q (ops.toList.drop m) a w') : Run ds P N Q (.region id ops true) l w := by
  intro a ha
  refine wp_region_any hm ?_
  have h0 : ∀ k, (Array.replicate ops.size false).getD k false = false := fun k => by
    simp [Array.getElem?_replicate]
    split <;> simp
  have hst : Stp [] lab w lab { w with drawn := w.drawn + 1 } := Stp.drew lab w
  refine wpAny_body (T := T) (z := z) (bodyOk_spec hok) hΦ hΦT (fun i hi hz => by have := hlaw _ hst i hi; rwa [if_neg hz] at this) (fun hz => by have := hlaw _ hst z hz; rwa [if_pos rfl] at this) (fun lab' w' a hv' hs' hf' hl' _ => htail lab' w' a hv' (hst.trans hs') hf' hl') ops.size 0 _ lab a _ (by simp) (Nat.zero_le _) (by omega) ?_ (fun k hk => by rw [h0] at hk; cases hk) (hv.below (Nat.le_refl _)) ((Stp.refl _ _).more (by simp)) (fun _ => Stp.refl _ _) ha (fun i _ hi => by rw [h0] at hi; cases hi) (fun i _ hi => by rw [h0] at hi; cases hi)
  simp [h0]

/-- .. which may be a store. -/
theorem Run.anyOneU {id m : Nat} {l : List (Nat × Value)} {lab : Lab} {w : World} (z : Nat) (T : List Nat) (hm : P.follows .mixedOrders = true) (hok : bodyOk ops m l = true) (hv : Valid lab w) (Φ : Nat → VP)
    (hΦ : ∀ i, i < m → ∀ {lab w lab' w' v}, Stp [] lab w lab' w' → Φ i lab w v → Φ i lab' w' v) (hΦT : ∀ i, i < m → i ≠ z → ∀ {lab w lab' w' v}, Stp T lab w lab' w' → Φ i lab w v → Φ i lab' w' v)
    (hlaw : ∀ w0, Stp [] lab w lab w0 → ∀ i, i < m → if i = z then OpLaw ds P N ops Q l lab w0 Φ [] T i else OpLaw ds P N ops Q l lab w0 Φ T [] i)
    (htail : ∀ lab' w' a, Valid lab' w' → Stp T lab w lab' w' → Fr ds N l a → (∀ i, i < m → Left ops Φ i lab' w' a) → (∀ i, i < m → LeftU ops Φ i lab' w') → wpList P ops Q (ops.toList.drop m) a w') : Run ds P N Q (.region id ops true) l w := by
  intro a ha
  refine wp_region_any hm ?_
  have h0 : ∀ k, (Array.replicate ops.size false).getD k false = false := fun k => by
    simp [Array.getElem?_replicate]
    split <;> simp
  have hst : Stp [] lab w lab { w with drawn := w.drawn + 1 } := Stp.drew lab w
  refine wpAny_body (T := T) (z := z) (bodyOk_spec hok) hΦ hΦT (fun i hi hz => by have := hlaw _ hst i hi; rwa [if_neg hz] at this) (fun hz => by have := hlaw _ hst z hz; rwa [if_pos rfl] at this) (fun lab' w' a hv' hs' hf' hl' hu' => htail lab' w' a hv' (hst.trans hs') hf' hl' hu') ops.size 0 _ lab a _ (by simp) (Nat.zero_le _) (by omega) ?_ (fun k hk => by rw [h0] at hk; cases hk) (hv.below (Nat.le_refl _)) ((Stp.refl _ _).more (by simp)) (fun _ => Stp.refl _ _) ha (fun i _ hi => by rw [h0] at hi; cases hi) (fun i _ hi => by rw [h0] at hi; cases hi)
  simp [h0]

/-! ### laws of operations, as they are laid -/
/-- A value that is known. -/
def Is (u : Value) : VP := fun _ _ v => v = u
theorem Is.pers (u : Value) : Pers (Is u) := ⟨fun _ h => h⟩
def phi (L : List VP) (i : Nat) : VP := L.getD i (fun _ _ _ => True)
def PersT (T : List Nat) (z : Nat) : Nat → List VP → Prop
  | _, [] => True
  | i, V :: r => (i = z ∨ ∀ {lab : Lab} {w : World} {lab' : Lab} {w' : World} {v : Value}, Stp T lab w lab' w' → V lab w v → V lab' w' v) ∧ PersT T z (i + 1) r
structure Pers0 (V : VP) : Prop where
  step : ∀ {lab : Lab} {w : World} {lab' : Lab} {w' : World} {v : Value}, Stp [] lab w lab' w' → V lab w v → V lab' w' v
theorem Pers.z {V : VP} (h : Pers V) : Pers0 V := ⟨fun s hv => h.step s hv⟩
def PersL : List VP → Prop
  | [] => True
  | V :: r => Pers0 V ∧ PersL r
theorem phi_pers : ∀ {L : List VP}, PersL L → ∀ i, i < L.length → ∀ {lab w lab' w' v}, Stp [] lab w lab' w' → phi L i lab w v → phi L i lab' w' v
  | [], _, i, hi => absurd hi (by simp)
  | V :: r, h, 0, _ => fun s hv => h.1.step s hv
  | V :: r, h, i + 1, hi => fun s hv => phi_pers (L := r) h.2 i (by simpa using hi) s hv
theorem phi_persT {T : List Nat} {z : Nat} : ∀ {L : List VP} (k : Nat), PersT T z k L → ∀ i, i < L.length → i + k ≠ z → ∀ {lab w lab' w' v}, Stp T lab w lab' w' → phi L i lab w v → phi L i lab' w' v
  | [], _, _, i, hi, _ => absurd hi (by simp)
  | V :: r, k, h, 0, _, hz => fun s hv => h.1.resolve_left (by omega) s hv
  | V :: r, k, h, i + 1, hi, hz => fun s hv => phi_persT (L := r) (k + 1) h.2 i (by simpa using hi) (by omega) s hv
theorem Pers.t {V : VP} (h : Pers V) {T : List Nat} {i z : Nat} : i = z ∨ ∀ {lab : Lab} {w : World} {lab' : Lab} {w' : World} {v : Value}, Stp T lab w lab' w' → V lab w v → V lab' w' v := .inr fun s hv => h.step s hv
def LawsFrom (p : Nat → Prop) : Nat → Nat → Prop
  | _, 0 => True
  | i, n + 1 => p i ∧ LawsFrom p (i + 1) n
theorem lawsFrom {p : Nat → Prop} : ∀ (n k : Nat), LawsFrom p k n → ∀ i, k ≤ i → i < k + n → p i
  | 0, k, _, i, h1, h2 => absurd h2 (by omega)
  | n + 1, k, h, i, h1, h2 => by
    by_cases e : i = k
    · subst e; exact h.1
    · exact lawsFrom n (k + 1) h.2 i (by omega) (by omega)
theorem laws {p : Nat → Prop} {n : Nat} (h : LawsFrom p 0 n) : ∀ i, i < n → p i := fun i hi => lawsFrom n 0 h i (Nat.zero_le _) (by omega)

theorem Fr.ext {l : List (Nat × Value)} {a : Act} {d : Nat} {v : Value} (h : Fr ds N l a) (hv : a.tmps[d]? = some v) : Fr ds N ((d, v) :: l) a :=
  ⟨h.defers, h.size, fun t u hu => by
    simp only [lk] at hu
    cases hb : Nat.beq d t with
    | true =>
      have : d = t := Nat.eq_of_beq_eq_true hb
      subst this
      simp [hb] at hu
      subst hu
      exact hv
    | false => simp [hb] at hu; exact h.at_ _ _ hu⟩

/-- An operation that yields a value. -/
theorem law_val {l : List (Nat × Value)} {lab0 : Lab} {w0 : World} {Φ : Nat → VP} {T U : List Nat} {i d : Nat} {op : Op} {ty : TypeId} {pos : String} {af : Array Edge} (ho : ops[i]? = some ⟨some d, op, ty, pos, af, none⟩) (hd : d < N)
    (h : ∀ lab w a, Valid lab w → Stp T lab0 w0 lab w → Fr ds N l a → (∀ j, waits ops i j = true → Left ops Φ j lab w a) → ∃ l' v lab' w', Fr ds N l' a ∧ Does P l' op ty w v w' ∧ Valid lab' w' ∧ Stp U lab w lab' w' ∧ Φ i lab' w' v) : OpLaw ds P N ops Q l lab0 w0 Φ T U i := by
  intro lab w a hv hs hf hl
  obtain ⟨l', v, lab', w', hf', hdo, hv', hs', hphi⟩ := h lab w a hv hs hf hl
  unfold wpOp
  simp only [ho]
  rw [if_pos (by simp [Region.wanted])]
  refine .inl ?_
  unfold Oper.wp
  rw [hdo a.eval (fun x u hu => hf'.eval hu)]
  exact ⟨lab', v, fun o h => by cases h; rfl, fun d' h => by simp [dstOf, ho] at h; subst h; exact hd, hv', hs', hphi⟩
theorem law_val_on {l : List (Nat × Value)} {lab0 : Lab} {w0 : World} {Φ : Nat → VP} {T U : List Nat} {i d : Nat} {op : Op} {ty : TypeId} {pos : String} {af : Array Edge} {g dg : Nat} {b : Bool} (ho : ops[i]? = some ⟨some d, op, ty, pos, af, some (g, b)⟩) (hd : d < N) (hg : dstOf ops g = some dg) (hw : waits ops i g = true) (hb : ∀ lab w v, Φ g lab w v → v = .bool b)
    (h : ∀ lab w a, Valid lab w → Stp T lab0 w0 lab w → Fr ds N l a → (∀ j, waits ops i j = true → Left ops Φ j lab w a) → ∃ l' v lab' w', Fr ds N l' a ∧ Does P l' op ty w v w' ∧ Valid lab' w' ∧ Stp U lab w lab' w' ∧ Φ i lab' w' v) : OpLaw ds P N ops Q l lab0 w0 Φ T U i := by
  intro lab w a hv hs hf hl
  obtain ⟨l', v, lab', w', hf', hdo, hv', hs', hphi⟩ := h lab w a hv hs hf hl
  obtain ⟨vg, hvg, hpg⟩ := hl g hw dg hg
  have hvb := hb _ _ _ hpg
  subst hvb
  have hy : yielded ops a.tmps g = some b := by simp only [yielded]; unfold dstOf at hg; simp [hg, hvg]
  unfold wpOp
  simp only [ho]
  rw [if_pos (by simp [Region.wanted, hy])]
  refine .inl ?_
  unfold Oper.wp
  rw [hdo a.eval (fun x u hu => hf'.eval hu)]
  exact ⟨lab', v, fun o h => by cases h; rfl, fun d' h => by simp [dstOf, ho] at h; subst h; exact hd, hv', hs', hphi⟩
theorem law_off {l : List (Nat × Value)} {lab0 : Lab} {w0 : World} {Φ : Nat → VP} {T : List Nat} {i d : Nat} {op : Op} {ty : TypeId} {pos : String} {af : Array Edge} {g dg : Nat} {b c : Bool} (ho : ops[i]? = some ⟨some d, op, ty, pos, af, some (g, c)⟩) (hd : d < N) (hg : dstOf ops g = some dg) (hw : waits ops i g = true) (hb : ∀ lab w v, Φ g lab w v → v = .bool b) (hne : (b == c) = false) (hphi : ∀ lab w, Φ i lab w undef) : OpLaw ds P N ops Q l lab0 w0 Φ T [] i := by
  intro lab w a hv hs hf hl
  obtain ⟨vg, hvg, hpg⟩ := hl g hw dg hg
  have hvb := hb _ _ _ hpg
  subst hvb
  have hy : yielded ops a.tmps g = some b := by simp only [yielded]; unfold dstOf at hg; simp [hg, hvg]
  unfold wpOp
  simp only [ho]
  rw [if_neg (by simp [Region.wanted, hy]; intro e; subst e; simp at hne)]
  exact ⟨lab, undef, fun o h => by cases h; rfl, fun d' h => by simp [dstOf, ho] at h; subst h; exact hd, hv, Stp.refl _ _, hphi _ _⟩
theorem law_off_undef {l : List (Nat × Value)} {lab0 : Lab} {w0 : World} {Φ : Nat → VP} {T : List Nat} {i d : Nat} {op : Op} {ty : TypeId} {pos : String} {af : Array Edge} {g dg : Nat} {c : Bool} (ho : ops[i]? = some ⟨some d, op, ty, pos, af, some (g, c)⟩) (hd : d < N) (hg : dstOf ops g = some dg) (hw : waits ops i g = true) (hb : ∀ lab w v, Φ g lab w v → v = undef) (hphi : ∀ lab w, Φ i lab w undef) : OpLaw ds P N ops Q l lab0 w0 Φ T [] i := by
  intro lab w a hv hs hf hl
  obtain ⟨vg, hvg, hpg⟩ := hl g hw dg hg
  have hvb := hb _ _ _ hpg
  subst hvb
  have hy : yielded ops a.tmps g = none := by simp only [yielded]; unfold dstOf at hg; simp [hg, hvg, undef]
  unfold wpOp
  simp only [ho]
  rw [if_neg (by simp [Region.wanted, hy])]
  exact ⟨lab, undef, fun o h => by cases h; rfl, fun d' h => by simp [dstOf, ho] at h; subst h; exact hd, hv, Stp.refl _ _, hphi _ _⟩
/-- A store. -/
theorem law_unit {l : List (Nat × Value)} {lab0 : Lab} {w0 : World} {Φ : Nat → VP} {T U : List Nat} {i : Nat} {op : Op} {ty : TypeId} {pos : String} {af : Array Edge} (ho : ops[i]? = some ⟨none, op, ty, pos, af, none⟩)
    (h : ∀ lab w a, Valid lab w → Stp T lab0 w0 lab w → Fr ds N l a → (∀ j, waits ops i j = true → Left ops Φ j lab w a) → ∃ l' lab' w', Fr ds N l' a ∧ DoesU P l' op ty w w' ∧ Valid lab' w' ∧ Stp U lab w lab' w' ∧ Φ i lab' w' undef) : OpLaw ds P N ops Q l lab0 w0 Φ T U i := by
  intro lab w a hv hs hf hl
  obtain ⟨l', lab', w', hf', hdo, hv', hs', hphi⟩ := h lab w a hv hs hf hl
  unfold wpOp
  simp only [ho]
  rw [if_pos (by simp [Region.wanted])]
  refine .inl ?_
  unfold Oper.wp
  rw [hdo a.eval (fun x u hu => hf'.eval hu)]
  exact ⟨lab', undef, fun o h => by cases h; rfl, fun d' h => by simp [dstOf, ho] at h, hv', hs', hphi⟩
/-- A call. -/
theorem law_call {l : List (Nat × Value)} {lab0 : Lab} {w0 : World} {Φ : Nat → VP} {T : List Nat} {i d : Nat} {f : Nat} {xs : List Operand} {tys : Array TypeId} {ty : TypeId} {pos : String} {af : Array Edge} (ho : ops[i]? = some ⟨some d, .call ⟨.value (.func f), xs.toArray, tys⟩, ty, pos, af, none⟩) (hd : d < N) (hfc : Callable P f)
    (h : ∀ lab w a, Valid lab w → Stp T lab0 w0 lab w → Fr ds N l a → (∀ j, waits ops i j = true → Left ops Φ j lab w a) → ∃ l' vs, Fr ds N l' a ∧ evs l' xs = some vs ∧ Calls P f vs.toArray w (fun e w' => ∃ v, e = .returned v ∧ Φ i lab w' v ∧ Below w.heap.size w w')) : OpLaw ds P N ops Q l lab0 w0 Φ T [] i := by
  intro lab w a hv hs hf hl
  obtain ⟨l', vs, hf', hx, hc⟩ := h lab w a hv hs hf hl
  unfold wpOp
  simp only [ho]
  rw [if_pos (by simp [Region.wanted])]
  refine .inl ?_
  unfold Oper.wp
  rw [run_call hfc hx w a.eval (fun x u hu => hf'.eval hu)]
  refine Calls.mono hc ?_
  rintro e w' ⟨v, rfl, hphi, hb⟩
  exact ⟨lab, v, fun o h => by cases h; rfl, fun d' h => by simp [dstOf, ho] at h; subst h; exact hd, hv.below hb.size, Stp.below hb, hphi⟩
theorem law_call_on {l : List (Nat × Value)} {lab0 : Lab} {w0 : World} {Φ : Nat → VP} {T : List Nat} {i d : Nat} {f : Nat} {xs : List Operand} {tys : Array TypeId} {ty : TypeId} {pos : String} {af : Array Edge} {g dg : Nat} {b : Bool} (ho : ops[i]? = some ⟨some d, .call ⟨.value (.func f), xs.toArray, tys⟩, ty, pos, af, some (g, b)⟩) (hd : d < N) (hg : dstOf ops g = some dg) (hw : waits ops i g = true) (hb : ∀ lab w v, Φ g lab w v → v = .bool b) (hfc : Callable P f)
    (h : ∀ lab w a, Valid lab w → Stp T lab0 w0 lab w → Fr ds N l a → (∀ j, waits ops i j = true → Left ops Φ j lab w a) → ∃ l' vs, Fr ds N l' a ∧ evs l' xs = some vs ∧ Calls P f vs.toArray w (fun e w' => ∃ v, e = .returned v ∧ Φ i lab w' v ∧ Below w.heap.size w w')) : OpLaw ds P N ops Q l lab0 w0 Φ T [] i := by
  intro lab w a hv hs hf hl
  obtain ⟨l', vs, hf', hx, hc⟩ := h lab w a hv hs hf hl
  obtain ⟨vg, hvg, hpg⟩ := hl g hw dg hg
  have hvb := hb _ _ _ hpg
  subst hvb
  have hy : yielded ops a.tmps g = some b := by simp only [yielded]; unfold dstOf at hg; simp [hg, hvg]
  unfold wpOp
  simp only [ho]
  rw [if_pos (by simp [Region.wanted, hy])]
  refine .inl ?_
  unfold Oper.wp
  rw [run_call hfc hx w a.eval (fun x u hu => hf'.eval hu)]
  refine Calls.mono hc ?_
  rintro e w' ⟨v, rfl, hphi, hb⟩
  exact ⟨lab, v, fun o h => by cases h; rfl, fun d' h => by simp [dstOf, ho] at h; subst h; exact hd, hv.below hb.size, Stp.below hb, hphi⟩
/-- A variable of the call's own, made in a region of open order. -/
def BoxF (k : Nat) (t : TypeId) (cs : List Value) : VP := fun lab w v => ∃ b, v = .pointer (some ⟨b, 0, none⟩) ∧ Own lab w k b t cs.toArray
theorem BoxF.pers (k : Nat) (t : TypeId) (cs : List Value) : Pers0 (BoxF k t cs) := ⟨fun s ⟨b, h1, h2⟩ => ⟨b, h1, h2.lift s (by simp)⟩⟩
theorem law_alloc {l : List (Nat × Value)} {lab0 : Lab} {w0 : World} {Φ : Nat → VP} {T : List Nat} {i d k : Nat} {t : TypeId} {ag : Bool} {n by_ : Nat} {z : Value} {cs : List Value} {ty : TypeId} {pos : String} {af : Array Edge} (ho : ops[i]? = some ⟨some d, .alloc t, ty, pos, af, none⟩) (hd : d < N) (ht : tyRow P t = some (ag, n, some z, by_)) (hz : z.cells = cs.toArray) (hphi : ∀ lab w v, BoxF k t cs lab w v → Φ i lab w v) : OpLaw ds P N ops Q l lab0 w0 Φ T [] i :=
  law_val ho hd fun lab w a hv hs hf hl => ⟨l, _, _, _, hf, Does.alloc ht, hv.alloc _ k, Stp.alloc _ k, hphi _ _ _ ⟨w.heap.size, rfl, by rw [hz]; exact Own.alloc lab w _ t k⟩⟩

/-! ### the frame of a call -/
def idx (k : Nat) : List Value → List (Nat × Value)
  | [] => []
  | v :: r => (k, v) :: idx (k + 1) r
theorem lk_idx : ∀ (args : List Value) (k t : Nat) (v : Value), lk (idx k args) t = some v → k ≤ t ∧ args[t - k]? = some v
  | [], k, t, v, h => by simp [idx, lk] at h
  | u :: r, k, t, v, h => by
    simp only [idx, lk] at h
    cases hb : Nat.beq k t with
    | true =>
      have : k = t := Nat.eq_of_beq_eq_true hb
      subst this
      simp [hb] at h
      simp [h]
    | false =>
      simp [hb] at h
      have hne := Nat.ne_of_beq_eq_false hb
      obtain ⟨h1, h2⟩ := lk_idx r (k + 1) t v h
      refine ⟨by omega, ?_⟩
      rw [show t - k = (t - (k + 1)) + 1 by omega]
      simpa using h2
theorem calls_run {f : FuncId} {fn : Func} {c : Code} {args : List Value} {w : World} {R : Ending → World → Prop} (hf : P.funcs[f]? = some fn) (hb : fn.body = some c) (hn : fn.ntmps = N) (ha : args.length ≤ N)
    (h : Run [] P N (bodyPost P fn R) c (idx 0 args) w) : Calls P f args.toArray w R := by
  refine calls_of_wp hf hb (h _ ⟨rfl, ?_, fun t v ht => ?_⟩)
  · simp [hn]; omega
  · obtain ⟨_, h1⟩ := lk_idx args 0 t v ht
    have hlt : t < args.length := (List.getElem?_eq_some_iff.1 h1).1
    show (args.toArray ++ Array.replicate _ undef)[t]? = some v
    rw [Array.getElem?_append_left (by simpa using hlt)]
    simpa using h1

/-! results -/
def resAt (P : Program) (l : List (Nat × Value)) (w : World) : ResultVar → Value → Prop
  | .tmp t, v => lk l t = some v
  | .cell t ty, v => ∃ a, lk l t = some (.pointer (some a)) ∧ (loadVar ty a).run P w = .ok v w
def resF (tmps : Array Value) : ResultVar → Sem Value
  | .tmp t => pure (tmps.getD t undef)
  | .cell a t => do loadVar t (← asAddr (tmps.getD a undef))
theorem results_resF (fn : Func) (tmps : Array Value) : results fn tmps = (do let vs ← fn.results.mapM (resF tmps); pure (if h : vs.size = 1 then vs[0] else .tuple vs)) := by
  unfold results
  congr 2
theorem run_resAt {l : List (Nat × Value)} {w : World} {a : Act} (ha : Fr ds N l a) {r : ResultVar} {v : Value} (h : resAt P l w r v) : (resF a.tmps r).run P w = .ok v w := by
  cases r with
  | tmp t => have := ha.at_ _ _ h; simp [resF, this]
  | cell c t =>
    obtain ⟨ad, h1, h2⟩ := h
    have := ha.at_ _ _ h1
    simp [resF, this, asAddr, h2]
theorem mapM_one {F : ResultVar → Sem Value} {w : World} {r : ResultVar} {v : Value} (h : (F r).run P w = .ok v w) : ((#[r] : Array ResultVar).mapM F).run P w = .ok #[v] w := by
  simp [List.mapM_toArray, h]
theorem mapM_two {F : ResultVar → Sem Value} {w : World} {r s : ResultVar} {v u : Value} (h : (F r).run P w = .ok v w) (h' : (F s).run P w = .ok u w) : ((#[r, s] : Array ResultVar).mapM F).run P w = .ok #[v, u] w := by
  simp [List.mapM_toArray, h, h']
theorem mapM_three {F : ResultVar → Sem Value} {w : World} {r s q : ResultVar} {v u x : Value} (h : (F r).run P w = .ok v w) (h' : (F s).run P w = .ok u w) (h'' : (F q).run P w = .ok x w) : ((#[r, s, q] : Array ResultVar).mapM F).run P w = .ok #[v, u, x] w := by
  simp [List.mapM_toArray, h, h', h'']
theorem post_none {fn : Func} {R : Ending → World → Prop} {l : List (Nat × Value)} {w : World} (hr : fn.results = #[]) (hR : R (.returned (.tuple #[])) w) : ∀ a, Fr [] N l a → bodyPost P fn R .ret a w := by
  intro a ha
  exact bodyPost_ret (results_none hr _ _ _) ha.defers hR
theorem post_one {fn : Func} {R : Ending → World → Prop} {l : List (Nat × Value)} {w : World} {r : ResultVar} {v : Value} (hr : fn.results = #[r]) (h : resAt P l w r v) (hR : R (.returned v) w) : ∀ a, Fr [] N l a → bodyPost P fn R .ret a w := by
  intro a ha
  refine bodyPost_ret (v := v) ?_ ha.defers hR
  rw [results_resF, hr]
  simp only [Sem.run_bind, mapM_one (run_resAt ha h), Result.andThen_ok]
  rfl
theorem post_two {fn : Func} {R : Ending → World → Prop} {l : List (Nat × Value)} {w : World} {r s : ResultVar} {v u : Value} (hr : fn.results = #[r, s]) (h : resAt P l w r v) (h' : resAt P l w s u) (hR : R (.returned (.tuple #[v, u])) w) : ∀ a, Fr [] N l a → bodyPost P fn R .ret a w := by
  intro a ha
  refine bodyPost_ret (v := .tuple #[v, u]) ?_ ha.defers hR
  rw [results_resF, hr]
  simp only [Sem.run_bind, mapM_two (run_resAt ha h) (run_resAt ha h'), Result.andThen_ok]
  rfl
theorem post_three {fn : Func} {R : Ending → World → Prop} {l : List (Nat × Value)} {w : World} {r s q : ResultVar} {v u x : Value} (hr : fn.results = #[r, s, q]) (h : resAt P l w r v) (h' : resAt P l w s u) (h'' : resAt P l w q x) (hR : R (.returned (.tuple #[v, u, x])) w) : ∀ a, Fr [] N l a → bodyPost P fn R .ret a w := by
  intro a ha
  refine bodyPost_ret (v := .tuple #[v, u, x]) ?_ ha.defers hR
  rw [results_resF, hr]
  simp only [Sem.run_bind, mapM_three (run_resAt ha h) (run_resAt ha h') (run_resAt ha h''), Result.andThen_ok]
  rfl

/-! ### sequential rules with the state told -/
variable {l : List (Nat × Value)} {rest : List Oper} {w : World} {lab : Lab}
theorem Seq.box {d k : Nat} {t : TypeId} {x : Operand} {v : Value} (cs : List Value) {ty : TypeId} {pos : String} {af : Array Edge} (hv : Valid lab w) (hx : ev l x = some v) (hc : v.cells = cs.toArray) (hd : d < N)
    (h : ∀ lab' w' b, Own lab' w' k b t cs.toArray → Stp [] lab w lab' w' → Valid lab' w' → Seq ds P N ops Q ((d, .pointer (some ⟨b, 0, none⟩)) :: l) rest w') : Seq ds P N ops Q l (⟨some d, .box t x, ty, pos, af, none⟩ :: rest) w :=
  Seq.val (Does.box hx) hd (h _ _ w.heap.size (by rw [hc]; exact Own.alloc lab w _ t k) (Stp.alloc _ k) (hv.alloc _ k))
theorem Seq.alloc {d k : Nat} {t : TypeId} {ag : Bool} {n by_ : Nat} {z : Value} (cs : List Value) {ty : TypeId} {pos : String} {af : Array Edge} (hv : Valid lab w) (ht : tyRow P t = some (ag, n, some z, by_)) (hc : z.cells = cs.toArray) (hd : d < N)
    (h : ∀ lab' w' b, Own lab' w' k b t cs.toArray → Stp [] lab w lab' w' → Valid lab' w' → Seq ds P N ops Q ((d, .pointer (some ⟨b, 0, none⟩)) :: l) rest w') : Seq ds P N ops Q l (⟨some d, .alloc t, ty, pos, af, none⟩ :: rest) w :=
  Seq.val (Does.alloc ht) hd (h _ _ w.heap.size (by rw [hc]; exact Own.alloc lab w _ t k) (Stp.alloc _ k) (hv.alloc _ k))
theorem Seq.store {k b o : Nat} {t t' : TypeId} {x y : Operand} {v : Value} {ag : Bool} {n by_ : Nat} {z : Option Value} {arr : Array Value} (arr' : List Value) {ty : TypeId} {pos : String} {af : Array Edge} (hv : Valid lab w) (hO : Own lab w k b t' arr) (ht : tyRow P t = some (ag, n, z, by_)) (hx : ev l x = some (.pointer (some ⟨b, o, none⟩))) (hy : ev l y = some v)
    (hn : v.cells.size = n) (ho : o + n ≤ arr.size) (h1 : v.cells.toList.all (·.oneCell') = true) (ha : (arr.toList.take o ++ v.cells.toList ++ arr.toList.drop (o + n)).toArray = arr'.toArray)
    (h : ∀ w', Own lab w' k b t' arr'.toArray → Stp [k] lab w lab w' → Valid lab w' → Seq ds P N ops Q l rest w') : Seq ds P N ops Q l (⟨none, .store t x y, ty, pos, af, none⟩ :: rest) w :=
  Seq.unit (Does.store arr'.toArray hO ht hx hy hn ho h1 ha) (h _ (hO.set _) (Stp.set hO.1 _) (hv.set _ _))
theorem Seq.callS {d : Nat} {f : Nat} {xs : List Operand} {tys : Array TypeId} {ty : TypeId} {pos : String} {af : Array Edge} {vs : List Value} {V : VP} (hf : Callable P f) (hv : Valid lab w) (hx : evs l xs = some vs) (hd : d < N)
    (hc : Calls P f vs.toArray w (fun e w' => ∃ v, e = .returned v ∧ V lab w' v ∧ Below w.heap.size w w'))
    (h : ∀ v w', V lab w' v → Stp [] lab w lab w' → Valid lab w' → Seq ds P N ops Q ((d, v) :: l) rest w') : Seq ds P N ops Q l (⟨some d, .call ⟨.value (.func f), xs.toArray, tys⟩, ty, pos, af, none⟩ :: rest) w :=
  Seq.call hf hx hd hc fun v w' ⟨h1, h2⟩ => h v w' h1 (Stp.below h2) (hv.below h2.size)
theorem Seq.go {y : Code} {Q' : Exit → Act → World → Prop} (hQ : ∀ a w, y.wp P Q' a w → Q .normal a w) (h : Run ds P N Q' y l w) : Seq ds P N ops Q l [] w := Seq.nil fun a ha => hQ a w (h a ha)
theorem Run.skip_go {y : Code} {Q' : Exit → Act → World → Prop} (hQ : ∀ a w, y.wp P Q' a w → Q .normal a w) (h : Run ds P N Q' y l w) : Run ds P N Q .skip l w := Run.skip fun a ha => hQ a w (h a ha)
theorem Run.exit_go {id : Nat} {y : Code} {Q' : Exit → Act → World → Prop} (hQ : ∀ a w, y.wp P Q' a w → Q (.exit id) a w) (h : Run ds P N Q' y l w) : Run ds P N Q (.exit id) l w := Run.exit fun a ha => hQ a w (h a ha)
theorem Run.ret_go {fn : Func} {R : Ending → World → Prop} (h : ∀ a, Fr ds N l a → bodyPost P fn R .ret a w) (hQ : ∀ a w, bodyPost P fn R .ret a w → Q .ret a w) : Run ds P N Q .ret l w := Run.ret fun a ha => hQ a w (h a ha)
theorem ret_then {K : Act → World → Prop} (h : ∀ a, Fr ds N l a → Q .ret a w) : ∀ a, Fr ds N l a → Exit.then K Q .ret a w := h
theorem ret_block {id : Nat} (h : ∀ a, Fr ds N l a → Q .ret a w) : ∀ a, Fr ds N l a → Exit.inBlock id Q .ret a w := h
theorem Run.cond_b {c : Operand} {x y : Code} {b b' : Bool} (hc : ev l c = some (.bool b')) (he : b' = b) (h : Run ds P N Q (match b with | true => x | false => y) l w) : Run ds P N Q (.cond c x y) l w := by
  subst he
  cases b'
  · exact Run.cond_false hc h
  · exact Run.cond_true hc h
theorem Seq.guard_on' {d : Option Nat} {op : Op} {ty : TypeId} {pos : String} {af : Array Edge} {g : Nat} {b b' : Bool} {dg : Nat} (hg : (ops[g]?).bind (·.dst) = some dg) (hb : lk l dg = some (.bool b')) (he : b' = b)
    (h : Seq ds P N ops Q l (⟨d, op, ty, pos, af, none⟩ :: rest) w) : Seq ds P N ops Q l (⟨d, op, ty, pos, af, some (g, b)⟩ :: rest) w := by
  subst he; exact Seq.guard_on hg hb h
theorem Seq.guard_off' {d : Nat} {op : Op} {ty : TypeId} {pos : String} {af : Array Edge} {g : Nat} {b b' c : Bool} {dg : Nat} (hg : (ops[g]?).bind (·.dst) = some dg) (hb : lk l dg = some (.bool b')) (he : b' = b) (hne : (b == c) = false) (hd : d < N)
    (h : Seq ds P N ops Q ((d, undef) :: l) rest w) : Seq ds P N ops Q l (⟨some d, op, ty, pos, af, some (g, c)⟩ :: rest) w := by
  subst he; exact Seq.guard_off hg hb hne hd h
theorem Seq.guard_undef {d : Nat} {op : Op} {ty : TypeId} {pos : String} {af : Array Edge} {g : Nat} {c : Bool} {dg : Nat} (hg : (ops[g]?).bind (·.dst) = some dg) (hb : lk l dg = some undef) (hd : d < N)
    (h : Seq ds P N ops Q ((d, undef) :: l) rest w) : Seq ds P N ops Q l (⟨some d, op, ty, pos, af, some (g, c)⟩ :: rest) w := by
  intro a ha
  have hy : yielded ops a.tmps g = none := by simp only [yielded, hg]; have := ha.at_ _ _ hb; simp [this, undef]
  unfold wpList
  rw [if_neg (by simp [Region.wanted, hy])]
  exact h _ (ha.put hd undef)
theorem Does.pick_b {ty : TypeId} {c x y : Operand} {b b' : Bool} {v : Value} (hc : ev l c = some (.bool b')) (he : b' = b) (h : ev l (match b with | true => x | false => y) = some v) : Does P l (.pick c x y) ty w v w := by
  subst he
  cases b'
  · exact Does.pick_f hc h
  · exact Does.pick_t hc h
theorem bdich (b : Bool) : b = true ∨ b = false := by cases b <;> simp
/-- The tail of a region of open order. -/
theorem Seq.start {m : Nat} {a : Act} (hf : Fr ds N l a) (h : Seq ds P N ops Q l (ops.toList.drop m) w) : wpList P ops Q (ops.toList.drop m) a w := h a hf
theorem Own.loadN {t t' : TypeId} {by_ : Nat} {z : Option Value} {d b o : Nat} {arr : Array Value} (cs : List Value) (h : Own lab w d b t' arr) (ht : tyRow P t = some (true, cs.length, z, by_)) (hv : (arr.toList.drop o).take cs.length = cs) : (loadVar t ⟨b, o, none⟩).run P w = .ok (.agg cs.toArray) w :=
  run_loadVar_agg ht (fun j v hj => by
    rw [add_flat, h.cell]
    have hjl : j < cs.length := (List.getElem?_eq_some_iff.1 hj).1
    rw [← hv, List.getElem?_take_of_lt hjl, List.getElem?_drop] at hj
    simpa using hj)
theorem Own.load1 {t t' : TypeId} {n by_ : Nat} {z : Option Value} {d b o : Nat} {arr : Array Value} {v : Value} (h : Own lab w d b t' arr) (ht : tyRow P t = some (false, n, z, by_)) (hv : arr[o]? = some v := by rfl) : (loadVar t ⟨b, o, none⟩).run P w = .ok v w := run_loadVar_one ht (by rw [h.cell]; exact hv)
theorem ent_step (lab : Lab) (w : World) : ∃ U, Stp U lab w (ent lab) w :=
  ⟨(List.range w.heap.size).filterMap lab, rfl, rfl, rfl, Nat.le_refl _, fun k hk e => ⟨ent_none.2 e, rfl⟩, fun k d hk e hd => absurd (List.mem_filterMap.2 ⟨k, by simpa using hk, e⟩) hd⟩
theorem guard_is {b b' : Bool} (he : b' = b) : ∀ (lab : Lab) (w : World) (v : Value), Is (.bool b') lab w v → v = .bool b := fun _ _ _ h => by subst he; exact h
theorem isBool {b b' : Bool} (e : b = b') (lab : Lab) (w : World) : Is (.bool b') lab w (.bool b) := by subst e; rfl
theorem isI64 {b b' : Int} (e : b = b') (lab : Lab) (w : World) : Is (i64 b') lab w (i64 b) := by subst e; rfl
theorem isU64 {b b' : UInt64} (e : b = b') (lab : Lab) (w : World) : Is (u64 b') lab w (u64 b) := by subst e; rfl
theorem isU32 {b b' : UInt32} (e : b = b') (lab : Lab) (w : World) : Is (u32 b') lab w (u32 b) := by subst e; rfl
theorem isU8 {b b' : UInt8} (e : b = b') (lab : Lab) (w : World) : Is (u8 b') lab w (u8 b) := by subst e; rfl
theorem Is.out {u v : Value} {lab : Lab} {w : World} (h : Is u lab w v) : v = u := h
end
end Go.Proofs.Ytgfomedobfaidaa
