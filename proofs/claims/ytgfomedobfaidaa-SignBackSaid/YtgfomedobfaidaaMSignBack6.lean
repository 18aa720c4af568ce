import Derived.Test.YtgfomedobfaidaaMSignBack5
set_option maxHeartbeats 8000000
set_option maxRecDepth 1000000
/-
  The row of SignBack: that the law answers true of every input; part 6 of 10: what the proof needs, in order.
-/
section
set_option linter.unusedVariables false
set_option linter.unusedSimpArgs false
namespace Go.Proofs.Ytgfomedobfaidaa
open Go.RowKit
def ZG (lab : Lab) (w : World) (d : Nat) (t : TypeId) (v : Value) (cs : List Value) : Prop :=
 (v = .slice none 0 0 ∧ cs = []) ∨ ∃ b o c arr, v = .slice (some ⟨b, o, none⟩) cs.length c ∧ Own lab w d b t arr ∧ cs.length ≤ c ∧ c ≤ 9223372036854775807 ∧ o + c ≤ arr.size ∧ (arr.toList.drop o).take cs.length = cs
section
variable {ds : List Deferred} {P : Program} {N : Nat} {ops : Array Oper} {Q : Exit → Act → World → Prop} {l : List (Nat × Value)} {rest : List Oper} {w : World} {lab : Lab} {ty : TypeId} {pos : String} {af : Array Edge}
theorem ZG.nil {d : Nat} {t : TypeId} : ZG lab w d t (.slice none 0 0) [] := .inl ⟨rfl, rfl⟩
theorem ZG.up {T : List Nat} {lab' : Lab} {w' : World} {d : Nat} {t : TypeId} {v : Value} {cs : List Value} (h : ZG lab w d t v cs) (s : Stp T lab w lab' w') (hd : d ∉ T := by decide) : ZG lab' w' d t v cs := by
 rcases h with h | ⟨b, o, c, arr, h1, h2, h3⟩
 ·exact .inl h
 ·exact .inr ⟨b, o, c, arr, h1, h2.lift s hd, h3⟩
theorem ZG.shape {d : Nat} {t : TypeId} {v : Value} {cs : List Value} (h : ZG lab w d t v cs) : ∃ A c, v = .slice A cs.length c := by
 rcases h with ⟨h1, h2⟩ | ⟨b, o, c, arr, h1, _⟩
 ·subst h2; exact ⟨none, 0, h1⟩
 ·exact ⟨_, _, h1⟩
theorem ZG.shapeN {d n : Nat} {t : TypeId} {v : Value} {cs : List Value} (h : ZG lab w d t v cs) (e : cs.length = n) : ∃ A c, v = .slice A n c := e ▸ h.shape
theorem App.toO {d n : Nat} {t : TypeId} {v : Value} {cs : List Value} (h : App lab w d t v n cs) : ZG lab w d t v cs := by
 obtain ⟨⟨h1, h2⟩, h3⟩ := h
 rw [Nat.mul_one] at h1
 rcases h2 with ⟨h2, h0⟩ | ⟨g, cap, cur, h2, hg, hh, hnc, hcap, hsz, htk⟩
 ·subst h0; exact .inl ⟨h2, List.eq_nil_of_length_eq_zero h1⟩
 ·refine .inr ⟨g, 0, cap, cur, by rw [h2, h1], ⟨h3 g (by rw [h2]; rfl), hh⟩, by omega, by unfold maxLen at hcap; exact hcap, by rw [hsz]; omega, ?_⟩
  rw [List.drop_zero, h1]; rw [Nat.mul_one] at htk; exact htk
theorem ZG.cap {d n c : Nat} {t : TypeId} {A : Option Addr} {cs : List Value} (h : ZG lab w d t (.slice A n c) cs) : n = cs.length ∧ cs.length ≤ c ∧ c ≤ 9223372036854775807 := by
 rcases h with ⟨h1, h2⟩ | ⟨b, o, c, arr, h1, h2, h3, h4, _⟩
 ·cases h1; subst h2; exact ⟨rfl, by simp, by omega⟩
 ·cases h1; exact ⟨rfl, h3, h4⟩
theorem ZG.cells {d n c : Nat} {t : TypeId} {a : Addr} {cs : List Value} (h : ZG lab w d t (.slice (some a) n c) cs) : ∀ (j : Nat) (u : Value), cs[j]? = some u → w.cell? (a.add j) = some u := by
 rcases h with ⟨h1, h2⟩ | ⟨b, o, c, arr, h1, h2, h3, h4, h5, h6⟩
 ·cases h1
 ·cases h1
  intro j u hj
  rw [J2, h2.cell]
  have hjl : j < cs.length := (List.getElem?_eq_some_iff.1 hj).1
  rw [← h6, List.getElem?_take_of_lt hjl, List.getElem?_drop] at hj
  simpa using hj
theorem ZG.row {d n c : Nat} {t : TypeId} {A : Option Addr} {cs : List Value} (h : ZG lab w d t (.slice A n c) cs) : Ja (Q5 lab d) w A cs := by
 rcases h with ⟨h1, h2⟩ | ⟨b, o, c, arr, h1, h2, h3, h4, h5, h6⟩
 ·subst h2; exact Ja.nil
 ·cases h1
  refine Ja.release h2 o cs fun j v hj => ?_
  have hjl : j < cs.length := (List.getElem?_eq_some_iff.1 hj).1
  rw [← h6, List.getElem?_take_of_lt hjl, List.getElem?_drop] at hj
  simpa using hj
theorem ZG.bytes {d n c : Nat} {t : TypeId} {A : Option Addr} {bs : List UInt8} (h : ZG lab w d t (.slice A n c) (bs.map u8)) : Qe bs (Q5 lab d) w (.slice A n c) := by
 have h1 := h.cap
 rw [List.length_map] at h1
 exact ⟨A, c, by rw [h1.1], h1.2.1, h1.2.2, h.row⟩
theorem QkN {α : Type} {f : α → Value} {d : Nat} {t : TypeId} {v : Value} {cs cs' : List α} (e : cs = cs') (h : ZG lab w d t v (cs.map f)) : ZG lab w d t v (cs'.map f) := e ▸ h
theorem ZG.drop {d n c : Nat} {t : TypeId} {A : Option Addr} {cs : List Value} (h : ZG lab w d t (.slice A n c) cs) (j : Nat) (hj : j ≤ n) : ZG lab w d t (.slice (if c = j then A else A.map (·.add (j * 1))) (n - j) (c - j)) (cs.drop j) := by
 rcases h with ⟨h1, h2⟩ | ⟨b, o, c, arr, h1, h2, h3, h4, h5, h6⟩
 ·cases h1; subst h2
  obtain rfl : j = 0 := by omega
  exact .inl ⟨by simp, by simp⟩
 ·cases h1
  by_cases hc : c = j
  ·subst hc
   refine .inr ⟨b, o, 0, arr, ?_, h2, ?_, by omega, by omega, ?_⟩
   ·rw [if_pos rfl, List.length_drop]; simp
   ·rw [List.length_drop]; omega
   ·rw [List.length_drop, show cs.length - c = 0 by omega, List.take_zero, List.drop_of_length_le (by omega)]
  ·refine .inr ⟨b, o + j, c - j, arr, ?_, h2, ?_, by omega, by omega, ?_⟩
   ·rw [if_neg hc, List.length_drop]; simp [J2]
   ·rw [List.length_drop]; omega
   ·rw [List.length_drop, ← List.drop_drop, ← List.drop_take]
    rw [h6]
theorem Ja.cells_of {A : Option Addr} {ys : List Value} (hr : Ja lab w A ys) : ∀ a, A = some a → ∀ (j : Nat) (u : Value), ys[j]? = some u → w.cell? (a.add j) = some u := fun a ha j u hu => by
 obtain ⟨b, o, hA, hc⟩ := hr.cell hu
 rw [ha] at hA; cases hA; rw [J2]; exact hc
theorem Ja.none_of {A : Option Addr} {ys : List Value} (hr : Ja lab w A ys) : A = none → ys = [] := fun h => by
 rcases hr with h0 | ⟨b, o, arr, t', fr, hA', _⟩
 ·exact h0
 ·rw [h] at hA'; cases hA'
theorem VN {t ty' e : TypeId} {i : TypeInfo} (ht : P.underlying t = some (.slice e)) (hi : P.info? e = some i) (his : i.size = 1) {g o n cap : Nat} {cur : Array Value} (hg : w.heap[g]? = some (.cells cur e (0, 0))) {a : Addr} {m c : Nat} {news : List Value} (hl : news.length = m) (hnews : ∀ j u, news[j]? = some u → w.cell? (a.add j) = some u) (h1 : ∀ u ∈ news, u.oneCell' = true) (hroom : n + m ≤ cap) (hfit : o + n + m ≤ cur.size) :
  (Builtin.append_ #[t, t] ty' #[.slice (some ⟨g, o, none⟩) n cap, .slice (some a) m c]).run P w = .ok (.slice (some ⟨g, o, none⟩) (n + m) cap) (w.setRow g (cur.toList.take (o + n) ++ news ++ cur.toList.drop (o + n + m)).toArray) := by
 have hf := run_firstCells_some (P := P) w i.size m a m c news (by rw [his, Nat.mul_one]; exact hl) hnews
 have hst := run_storeCells_at P g (o + n) e news 0 cur w hg (by simp; omega) h1
 simp only [Nat.add_zero] at hst
 rw [hl] at hst
 rw [his] at hf
 simp [Builtin.append_, run_underlying ht, sizeOf, typeInfo, hi, Builtin.lenOf, hroom, hf, Addr.add_lit, his, hst]
theorem Kg {t ty' e : TypeId} {ag : Bool} {by_ : Nat} {z : Value} (ht : P.underlying t = some (.slice e)) (he : QT P e = some (ag, 1, some z, by_)) (hz : z.cells.size = 1) {d : Nat} {v : Value} {cs : List Value} (hv : Ql lab w) (h : ZG lab w d e v cs) {A : Option Addr} {m c : Nat} {ys : List Value} (hm : ys.length = m) (hr : ∀ a, A = some a → ∀ (j : Nat) (u : Value), ys[j]? = some u → w.cell? (a.add j) = some u) (hr0 : A = none → ys = []) (h1 : ∀ u ∈ ys, u.oneCell' = true) (hb : (cs.length + m) * by_ ≤ 140737488355328) (h63 : cs.length + m ≤ 9223372036854775807) :
  ∃ v' w' lab', (Builtin.append_ #[t, t] ty' #[v, .slice A m c]).run P w = .ok v' w' ∧ ZG lab' w' d e v' (cs ++ ys) ∧ Stp [d] lab w lab' w' ∧ Ql lab' w' := by
 obtain ⟨i, dd, hi, hu, _, his, hiz, hib⟩ := Zt he
 rcases h with ⟨rfl, rfl⟩ | ⟨g, o, cap, cur, rfl, hO, h3, h4, h5, h6⟩
 ·cases A with
  | none =>
   have := hr0 rfl; subst this; simp at hm; subst hm
   exact ⟨_, w, lab, X2 ht he (App.nil (lab := lab) (w := w) (d := d) (t := e)) c, ZG.nil, (Stp.refl _ _).more (by simp), hv⟩
  | some a =>
   obtain ⟨v', w', hrun, hown, hgr, _, hbl⟩ := run_append_own_at (P := P) w 0 t ty' e i z 1 by_ ht hi hiz his hib hz (by omega) (.slice none 0 0) 0 [] ⟨by simp, .inl ⟨rfl, rfl⟩⟩ a m c ys (by omega) (hr a rfl) h1 (by unfold maxLen; simp at h63; omega) (by simpa using hb) (Nat.zero_le _)
   have hA : App (if v'.ownBlock = none then lab else JT lab w.heap.size d) w' d e v' (0 + m) ([] ++ ys) := by
    refine ⟨hown, fun k hk => ?_⟩
    rw [if_neg (by rw [hk]; simp)]
    rcases hbl with e2 | e2
    ·rw [e2] at hk; cases hk
    ·rw [e2] at hk; cases hk; simp [JT]
   have hst : Stp [d] lab w (if v'.ownBlock = none then lab else JT lab w.heap.size d) w' := by
    have hkeep : ∀ k, k < w.heap.size → w'.heap[k]? = w.heap[k]? := fun k hk => hgr.block k hk fun e1 => by cases e1
    refine ⟨hgr.os, hgr.tape, hgr.output, hgr.size, fun k hk e0 => ⟨?_, hkeep k hk⟩, fun k d' hk e0 hd => ⟨?_, hkeep k hk⟩⟩
    ·split
     ·exact e0
     ·unfold JT; rw [if_neg (by omega)]; exact e0
    ·split
     ·exact e0
     ·unfold JT; rw [if_neg (by omega)]; exact e0
   refine ⟨v', w', _, hrun, hA.toO, hst, fun k hk => ?_⟩
   split
   ·exact hv k (Nat.le_trans hgr.size hk)
   ·rename_i e1
    rcases hbl with e2 | e2
    ·exact absurd e2 e1
    ·have hlt : w.heap.size < w'.heap.size := by
      obtain ⟨_, hx⟩ := hown
      rcases hx with ⟨rfl, _⟩ | ⟨g, cap, cur, rfl, _, hh, _⟩
      ·simp [Value.ownBlock] at e2
      ·simp [Value.ownBlock] at e2; subst e2; exact Zj hh
     unfold JT; rw [if_neg (by omega)]; exact hv k (by omega)
 ·cases A with
  | none =>
   have := hr0 rfl; subst this; simp at hm; subst hm
   refine ⟨.slice (some ⟨g, o, none⟩) cs.length cap, w, lab, ?_, .inr ⟨g, o, cap, cur, by simp, hO, by simpa using h3, h4, h5, by simpa using h6⟩, (Stp.refl _ _).more (by simp), hv⟩
   simp [Builtin.append_, run_underlying ht, QV he, Builtin.lenOf, Builtin.firstCells, h3, storeCells]
  | some a =>
   by_cases hroom : cs.length + m ≤ cap
   ·have hrun := VN (P := P) (ty' := ty') ht hi his hO.2 hm (hr a rfl) h1 hroom (o := o) (c := c) (by omega)
    refine ⟨_, _, lab, hrun, .inr ⟨g, o, cap, _, by rw [List.length_append, hm], hO.set _, by rw [List.length_append, hm]; exact hroom, h4, ?_, ?_⟩, Stp.set hO.1 _, hv.set _ _⟩
    ·simp only [List.size_toArray, List.length_append, List.length_take, List.length_drop, Array.length_toList]; omega
    ·have e1 : (cur.toList.take (o + cs.length)).drop o = cs := by
      rw [List.drop_take]
      have : o + cs.length - o = cs.length := by omega
      rw [this]; exact h6
     have hl1 : (cur.toList.take (o + cs.length)).length = o + cs.length := by rw [List.length_take]; have := Array.length_toList (xs := cur); omega
     rw [List.toList_toArray, List.append_assoc, List.drop_append_of_le_length (by omega), e1, ← List.append_assoc]
     exact List.take_left
   ·have holds : ∀ j u, cs[j]? = some u → w.cell? ((⟨g, o, none⟩ : Addr).add j) = some u := ZG.cells (d := d) (t := e) (n := cs.length) (c := cap) (lab := lab) (.inr ⟨g, o, cap, cur, rfl, hO, h3, h4, h5, h6⟩)
    have hr' := run_append_grow (P := P) w t ty' e i z ht hi hiz ⟨g, o, none⟩ cs.length cap cs (by rw [his]; omega) holds a m c ys (by rw [his]; omega) (hr a rfl) (by omega) (by omega) (growslice_fits (by omega) (by rw [hib]; exact hb))
    have hge := grownCap_ge w (cs.length + m) cap e
    have hcm := grownCap_le_maxLen w (cs.length + m) cap e (by unfold maxLen; omega)
    refine ⟨_, _, JT lab w.heap.size d, hr', .inr ⟨w.heap.size, 0, _, _, by rw [List.length_append, hm], ⟨by simp [JT], JU w.drew _⟩, ?_, by unfold maxLen at hcm; exact hcm, ?_, ?_⟩, ?_, ?_⟩
    ·rw [List.length_append, hm]; exact hge
    ·simp only [Array.size_append, List.size_toArray, size_zeroCells, hz, hm]; omega
    ·simp only [Array.toList_append, List.append_assoc, List.drop_zero]
     rw [← List.append_assoc]
     exact List.take_left
    ·exact (Stp.drew lab w).trans (Stp.alloc (w := w.drew) _ d) |>.more (by simp)
    ·exact (show Ql lab w.drew from hv).alloc _ d
theorem Qg3 {d k : Nat} {t e : TypeId} {x y : Operand} {ag : Bool} {by_ : Nat} {z : Value} {v : Value} {cs : List Value} {A : Option Addr} {m c : Nat} (ys : List Value) (hv : Ql lab w) (h : ZG lab w k e v cs) (ht : P.underlying t = some (.slice e)) (he : QT P e = some (ag, 1, some z, by_)) (hz : z.cells.size = 1) (hx : ev l x = some v) (hy : ev l y = some (.slice A m c)) (hm : ys.length = m) (hr : Ja lab w A ys) (h1 : ∀ u ∈ ys, u.oneCell' = true) (hb : (cs.length + m) * by_ ≤ 140737488355328) (h63 : cs.length + m ≤ 9223372036854775807)
  (hk : ∀ lab' w' v', ZG lab' w' k e v' (cs ++ ys) → Stp [k] lab w lab' w' → Ql lab' w' → Seq ds P N ops Q ((d, v') :: l) rest w') (hd : d < N := by decide) : Seq ds P N ops Q l (⟨some d, .call ⟨.builtin .append, #[x, y], #[t, t]⟩, ty, pos, af, none⟩ :: rest) w := by
 obtain ⟨v', w', lab', hrun, h1', h2', h3'⟩ := Kg (P := P) (ty' := ty) (A := A) (ys := ys) ht he hz hv h hm hr.cells_of hr.none_of h1 hb h63 (c := c)
 refine Seq.val (v := v') (w' := w') ?_ hd (hk lab' w' v' h1' h2' h3')
 intro ρ hρ d pos af g
 simp [execOp, resolve, invoke, builtin, hρ _ _ hx, hρ _ _ hy, hrun]
theorem ZG.cells_of {k2 m c : Nat} {e : TypeId} {A : Option Addr} {ys : List Value} (hr : ZG lab w k2 e (.slice A m c) ys) : ∀ a, A = some a → ∀ (j : Nat) (u : Value), ys[j]? = some u → w.cell? (a.add j) = some u := fun a ha j u hu => by subst ha; exact hr.cells j u hu
theorem ZG.none_of {k2 m c : Nat} {e : TypeId} {A : Option Addr} {ys : List Value} (hr : ZG lab w k2 e (.slice A m c) ys) : A = none → ys = [] := fun hA => by
 subst hA
 rcases hr with ⟨_, h0⟩ | ⟨b, o, c, arr, h0, _⟩
 ·exact h0
 ·cases h0
theorem QbW {k k2 : Nat} {t e : TypeId} {x y : Operand} {ag : Bool} {by_ : Nat} {z : Value} {v : Value} {cs : List Value} {A : Option Addr} {m c : Nat} {Ψ : VP} (ys : List Value) (hv : Ql lab w) (h : ZG lab w k e v cs) (ht : P.underlying t = some (.slice e)) (he : QT P e = some (ag, 1, some z, by_)) (hz : z.cells.size = 1) (hx : ev l x = some v) (hy : ev l y = some (.slice A m c)) (hr : ZG lab w k2 e (.slice A m c) ys) (h1 : ∀ u ∈ ys, u.oneCell' = true) (hb : (cs.length + m) * by_ ≤ 140737488355328) (h63 : cs.length + m ≤ 9223372036854775807)
  (hk : ∀ lab' w' v', ZG lab' w' k e v' (cs ++ ys) → Ψ lab' w' v') :
  ∃ v' lab' w', Qa P l (.call ⟨.builtin .append, #[x, y], #[t, t]⟩) ty w v' w' ∧ Ql lab' w' ∧ Stp [k] lab w lab' w' ∧ Ψ lab' w' v' := by
 obtain ⟨v', w', lab', hrun, h1', h2', h3'⟩ := Kg (P := P) (ty' := ty) (A := A) (ys := ys) ht he hz hv h hr.cap.1.symm hr.cells_of hr.none_of h1 hb h63 (c := c)
 refine ⟨v', lab', w', ?_, h3', h2', hk _ _ _ h1'⟩
 intro ρ hρ d pos af g
 simp [execOp, resolve, invoke, builtin, hρ _ _ hx, hρ _ _ hy, hrun]
def Qhv (d : Nat) (t : TypeId) (cs : List Value) : VP := fun lab w v => ZG lab w d t v cs
theorem Qee {R : List RG} {j s k : Nat} {t : TypeId} {cs : List Value} {U : List Nat} {c : Option Nat} (hn : Qa8 R j c k = true) : ∀ i, i ≠ j → (RG.mk s (.v (Qhv k t cs)) U c).c ≠ some i → ∀ {lab : Lab} {w : World} {lab' : Lab} {w' : World} {v : Value}, Stp (rgU R i) lab w lab' w' → (RG.mk s (.v (Qhv k t cs)) U c).p.vp lab w v → (RG.mk s (.v (Qhv k t cs)) U c).p.vp lab' w' v := fun i hi hc {_ _ _ _ _} st q => ZG.up q st (YQ hn i hi hc)
theorem KS {k : Nat} {t e : TypeId} {ag : Bool} {by_ : Nat} {z : Option Value} (hv : Ql lab w) (ht : P.underlying t = some (.slice e)) (he : QT P e = some (ag, 1, z, by_)) :
  ∃ v lab' w', Qa P l (.buildSlice t 0 #[]) ty w v w' ∧ Ql lab' w' ∧ Stp [] lab w lab' w' ∧ App lab' w' k e v 0 [] := by
 refine ⟨.slice (some ⟨w.heap.size, 0, none⟩) 0 0, JT lab w.heap.size k, w.alloc (.cells #[] e), ?_, hv.alloc _ k, Stp.alloc _ k, ⟨by simp, .inr ⟨w.heap.size, 0, #[], rfl, Nat.zero_le _, JU w _, Nat.le_refl _, by unfold maxLen; omega, by simp, by simp⟩⟩, fun k' hk' => by simp [Value.ownBlock] at hk'; subst hk'; simp [JT]⟩
 intro ρ hρ d pos af g
 simp only [execOp, Instr.buildSlice, Sem.run_bind, run_underlying ht, Result.andThen_ok, QV he]
 simp [Instr.fill, newRow, show Array.range 0 = (#[] : Array Nat) from rfl]
 all_goals rfl
theorem UJ {dT sT ty' e : TypeId} {g o n c c' : Nat} (hu : P.underlying dT = some (.slice e)) (hs : (P.info? e).map (·.size) = some 1) : (Builtin.copy_ #[dT, sT] ty' #[.slice (some ⟨g, o, none⟩) n c, .slice none 0 c']).run P w = .ok (goInt 0) w := by
 cases hq : P.info? e with
 | none => simp [hq] at hs
 | some i =>
  have hi : i.size = 1 := by simpa [hq] using hs
  simp [Builtin.copy_, run_underlying hu, Builtin.lenOf, Builtin.firstCells, sizeOf, typeInfo, hq, hi, storeCells]
theorem Qco {α : Type} (f : α → Value) {d k b m n c c' : Nat} {t1 t2 e t' : TypeId} {x y : Operand} {by_ : Nat} {z : Option Value} {ag : Bool} {A : Option Addr} {xs : List α} (ys : List α) (hv : Ql lab w) (hO : Own lab w k b t' (xs.map f).toArray) (ht : P.underlying t1 = some (.slice e)) (he : QT P e = some (ag, 1, z, by_)) (hx : ev l x = some (.slice (some ⟨b, 0, none⟩) n c)) (hy : ev l y = some (.slice A m c')) (hr : Ja lab w A (ys.map f)) (hm : ys.length = m) (hmn : m ≤ n) (hn : n = xs.length) (h1 : ∀ u ∈ ys.map f, u.oneCell' = true)
  (h : ∀ w', Own lab w' k b t' ((ys ++ xs.drop m).map f).toArray → Stp [k] lab w lab w' → Ql lab w' → Seq ds P N ops Q ((d, i64 (m : Int)) :: l) rest w') (hd : d < N := by decide) : Seq ds P N ops Q l (⟨some d, .call ⟨.builtin .copy, #[x, y], #[t1, t2]⟩, ty, pos, af, none⟩ :: rest) w := by
 have hinfo : (P.info? e).map (·.size) = some 1 := by obtain ⟨i, _, hi, _, _, his, _⟩ := Zt he; rw [hi]; simp [his]
 cases A with
 | none =>
  have h0 := hr.none_of rfl
  have hys : ys = [] := by simpa using h0
  subst hys
  simp at hm; subst hm
  refine sv (w' := w) ?_ (h _ (by simpa using hO) ((Stp.refl _ _).more (by simp)) hv) hd
  intro ρ hρ d pos af g
  simp [execOp, resolve, invoke, builtin, hρ _ _ hx, hρ _ _ hy, UJ ht hinfo, goInt]
 | some a =>
  have hlen : (ys.map f).length = m := by simp [hm]
  have hrun := run_copy_row (P := P) w t1 t2 ty e b 0 n c a m c' (xs.map f).toArray t' (ys.map f) ht hinfo hO.2 (by rw [hlen]; exact (Nat.min_eq_left hmn).symm) (hr.cells_of a rfl) (by rw [hlen]; simp; omega) h1
  have earr : ((xs.map f).toArray.toList.take 0 ++ ys.map f ++ (xs.map f).toArray.toList.drop (0 + (ys.map f).length)).toArray = ((ys ++ xs.drop m).map f).toArray := by
   rw [hlen, List.toList_toArray, List.take_zero, List.nil_append, Nat.zero_add, List.map_append, List.map_drop]
  rw [earr, hlen] at hrun
  refine sv (w' := w.setRow b ((ys ++ xs.drop m).map f).toArray) ?_ (h _ (hO.set _) (Stp.set hO.1 _) (hv.set _ _)) hd
  intro ρ hρ d pos af g
  simp [execOp, resolve, invoke, builtin, hρ _ _ hx, hρ _ _ hy, hrun, goInt]
theorem Qbm {ws : List UInt8} {A : Option Addr} {n c : Nat} (h : Qe ws lab w (.slice A n c)) (j j2 : Nat) (hj : j ≤ n) (hjj : j ≤ j2) (hc : j2 ≤ c) : Qe (ws.take j) lab w (.slice A j j2) := by
 have h1 := h.cap
 have h2 := h.row.take j
 have e : (ws.take j).length = j := by rw [List.length_take]; omega
 exact ⟨A, j2, by rw [e], by rw [e]; omega, by omega, by rw [List.map_take]; exact h2⟩
theorem KV {t e : TypeId} {x y y2 : Operand} {k k2 : IntKind} {i i2 : Int} {A : Option Addr} {n c : Nat} {ag : Bool} {s by_ : Nat} {z : Option Value} (j j2 : Nat) (ht : P.underlying t = some (.slice e)) (he : QT P e = some (ag, s, z, by_)) (hx : ev l x = some (.slice A n c)) (hy : ev l y = some (.int k i)) (hy2 : ev l y2 = some (.int k2 i2)) (hij : i = (j : Int)) (hij2 : i2 = (j2 : Int)) (hj : j ≤ j2) (hj2 : j2 ≤ c) :
  Qa P l (.slice t x none (some y) (some y2)) ty w (.slice A j j2) w := by
 intro ρ hρ d pos af g
 have hA : (if j2 = 0 then A else A.map (·.add (0 * s))) = A := by
  split
  ·rfl
  ·cases A with
   | none => rfl
   | some a => simp [Addr.add]
 simp only [execOp, hρ _ _ hx, Option.map_some, Option.map_none, hρ _ _ hy, hρ _ _ hy2, Instr.sliceAt, Sem.run_bind, run_underlying ht, Result.andThen_ok, Instr.slice, Instr.sliceBounds, Zh j2 hij2 hj2, Zh j hij hj, Sem.run_pure, QV he, if_true, Nat.sub_zero, hA]
def Qdn (lab : Lab) (e sz : Nat) (lab2 : Lab) : Lab := fun k => if k < sz ∧ lab k = some e then some e else lab2 k
theorem QdK {f : Nat} {vs : Array Value} {T : List Nat} {R R' : VP} (e : Nat) (he : e ∉ T) (h : Calls P f vs w (Eff T (Q5 lab e) w R))
  (hR : ∀ lab2 lab3 w' v, (∀ k d, lab2 k = some d → lab3 k = some d) → R lab2 w' v → R' lab3 w' v) : Calls P f vs w (Eff T lab w R') := by
 refine Calls.mono h ?_
 rintro E w' ⟨v, lab2, rfl, hr, s, hv⟩
 refine ⟨v, Qdn lab e w.heap.size lab2, rfl, hR _ _ _ _ (fun k d hk => ?_) hr, ⟨s.os, s.tape, s.output, s.size, fun k hk e0 => ?_, fun k d hk e0 hd => ?_⟩, fun k hk => ?_⟩
 ·unfold Qdn
  split
  ·rename_i hc
   have := (s.free k hc.1 (by unfold Q5; rw [if_pos hc.2])).1
   rw [this] at hk; cases hk
  ·exact hk
 ·have h0 := s.free k hk (by unfold Q5; split <;> simp_all)
  refine ⟨?_, h0.2⟩
  unfold Qdn; rw [if_neg (by rw [e0]; simp)]; exact h0.1
 ·by_cases hde : d = e
  ·subst hde
   have h0 := s.free k hk (by unfold Q5; rw [if_pos e0])
   exact ⟨by unfold Qdn; rw [if_pos ⟨hk, e0⟩], h0.2⟩
  ·have h0 := s.own k d hk (by unfold Q5; rw [if_neg (by rw [e0]; simp; exact hde)]; exact e0) hd
   refine ⟨?_, h0.2⟩
   unfold Qdn; rw [if_neg (by rw [e0]; simp; exact fun _ => hde)]; exact h0.1
 ·unfold Qdn; rw [if_neg (by have := s.size; omega)]; exact hv k hk
theorem Qbl {f : Nat} {vs : Array Value} {T : List Nat} {u : Value} {d b : Nat} {t : TypeId} {arr : Array Value} (e : Nat) (he : e ∉ T) (h : Calls P f vs w (Eff T (Q5 lab e) w (QhQ (Is u) (fun lab' w' => Own lab' w' d b t arr)))) : Calls P f vs w (Eff T lab w (QhQ (Is u) (fun lab' w' => Own lab' w' d b t arr))) :=
 QdK e he h fun lab2 lab3 w' v hl h9 => ⟨h9.1, hl _ _ h9.2.1, h9.2.2⟩
theorem Own.lent {e d b : Nat} {t : TypeId} {arr : Array Value} (h : Own lab w d b t arr) (hd : d ≠ e := by decide) : Own (Q5 lab e) w d b t arr := ⟨by unfold Q5; rw [if_neg (by rw [h.1]; simpa using hd)]; exact h.1, h.2⟩
theorem ZG.lent {e d : Nat} {t : TypeId} {v : Value} {cs : List Value} (h : ZG lab w d t v cs) (hd : d ≠ e := by decide) : ZG (Q5 lab e) w d t v cs := by
 rcases h with h | ⟨b, o, c, arr, h1, h2, h3⟩
 ·exact .inl h
 ·exact .inr ⟨b, o, c, arr, h1, h2.lent hd, h3⟩
theorem X8 {V : VP} [Per V] (e : Nat) {v : Value} (q : V lab w v) : V (Q5 lab e) w v := up (Stp.release e) q
end
def YN (t : List UInt32) (s : List UInt8) : Nat → List UInt32
 | 0 => t
 | n + 1 => Qip (YN t s n) ((s.drop (64 * n)).take 64)
def KL (s : List UInt8) : List UInt32 := YN QjN s (s.length / 64)
def Jb (s : List UInt8) : List UInt8 := s.drop (64 * (s.length / 64))
theorem Xe {t : List UInt32} {s : List UInt8} (h : t.length = 8) : ∀ n, (YN t s n).length = 8
 | 0 => h
 | n + 1 => Kd (Xe h n)
theorem YL (s : List UInt8) : (KL s).length = 8 := Xe rfl _
theorem XU (s : List UInt8) : (Jb s).length = s.length % 64 := by unfold Jb; rw [List.length_drop]; omega
theorem V6 {t : List UInt32} (s b : List UInt8) : ∀ n, 64 * n ≤ s.length → YN t (s ++ b) n = YN t s n
 | 0, _ => rfl
 | n + 1, h => by
  rw [YN, YN, V6 s b n (by omega), List.drop_append_of_le_length (by omega), List.take_append_of_le_length (by rw [List.length_drop]; omega)]
theorem Qa0 {t : List UInt32} {s : List UInt8} (m : Nat) : ∀ n, YN t s (m + n) = YN (YN t s m) (s.drop (64 * m)) n
 | 0 => rfl
 | n + 1 => by
  rw [← Nat.add_assoc, YN, YN, Qa0 m n, List.drop_drop, Nat.mul_add]
theorem Qeo (s b : List UInt8) : YN (KL s) (Jb s ++ b) ((Jb s ++ b).length / 64) = KL (s ++ b) := by
 unfold KL Jb
 have h1 : 64 * (s.length / 64) ≤ s.length := by omega
 rw [← List.drop_append_of_le_length h1, ← V6 s b _ h1, ← Qa0, List.length_drop]
 congr 1
 have := (List.length_append : (s ++ b).length = _)
 omega
theorem Qgu (s b : List UInt8) : (Jb s ++ b).drop (64 * ((Jb s ++ b).length / 64)) = Jb (s ++ b) := by
 unfold Jb
 have h1 : 64 * (s.length / 64) ≤ s.length := by omega
 rw [← List.drop_append_of_le_length h1, List.drop_drop, List.length_drop]
 congr 1
 have := (List.length_append : (s ++ b).length = _)
 omega
theorem Qdg {s b : List UInt8} {k : Nat} (hk : k = (Jb s ++ b).length / 64) : YN (KL s) (Jb s ++ b) k = KL (s ++ b) := by rw [hk]; exact Qeo s b
theorem Qep {s b : List UInt8} {k : Nat} (hk : k = (Jb s ++ b).length / 64) : (Jb s ++ b).drop (64 * k) = Jb (s ++ b) := by rw [hk]; exact Qgu s b
theorem Qdh {t x : List UInt32} {s b : List UInt8} {k : Nat} (hx : YN t s k = x) (hb : b = (s.drop (64 * k)).take 64) : Qip x b = YN t s (k + 1) := by subst hx; subst hb; rfl
def Xf (n : Nat) : List UInt8 := 128 :: List.replicate ((119 - n % 64) % 64) 0 ++ (List.range 8).map fun i => UInt8.ofNat (n * 8 / 256 ^ (7 - i))
def QbG (n k : Nat) : List UInt8 := (List.range k).map fun i => UInt8.ofNat (n * 8 / 256 ^ (7 - i))
theorem QaF {n k : Nat} {j : Int} (h : k < 8) (hj : j = 8 * (7 - (k : Int))) : QbG n k ++ [UInt8.ofNat (n * 8 / 2 ^ j.toNat)] = QbG n (k + 1) := by
 unfold QbG
 rw [List.range_succ, List.map_append]
 congr 2
 subst hj
 rw [show (8 * (7 - (k : Int))).toNat = 8 * (7 - k) by omega, Nat.pow_mul]
theorem QbF (n k : Nat) : (QbG n k).length = k := by simp [QbG]
theorem Qet {n m : Nat} (hm : m = (119 - n % 64) % 64 + 1) : (List.replicate m (0 : UInt8)).set 0 128 ++ QbG n 8 = Xf n := by
 subst hm
 rw [List.replicate_succ, List.set_cons_zero]; rfl
def ZB : List UInt32 → List UInt8
 | [] => []
 | x :: r => (x >>> UInt32.ofNat 24).toUInt8 :: (x >>> UInt32.ofNat 16).toUInt8 :: (x >>> UInt32.ofNat 8).toUInt8 :: x.toUInt8 :: ZB r
theorem XN : ∀ a b : List UInt32, ZB (a ++ b) = ZB a ++ ZB b
 | [], b => rfl
 | x :: a, b => by simp [ZB, XN a b]
theorem Qbr (a : List UInt32) (x : UInt32) : ZB a ++ [(x >>> UInt32.ofNat 24).toUInt8, (x >>> UInt32.ofNat 16).toUInt8, (x >>> UInt32.ofNat 8).toUInt8, x.toUInt8] = ZB (a ++ [x]) := by rw [XN]; rfl
theorem Ka {a : List UInt32} {i : Nat} (h : i < a.length) : ZB (a.take i) ++ [((a.getD i 0) >>> UInt32.ofNat 24).toUInt8, ((a.getD i 0) >>> UInt32.ofNat 16).toUInt8, ((a.getD i 0) >>> UInt32.ofNat 8).toUInt8, (a.getD i 0).toUInt8] = ZB (a.take (i + 1)) := by
 rw [Qbr]; congr 1; rw [List.take_succ_eq_append_getElem h]; simp [List.getD, List.getElem?_eq_getElem h]
theorem XM : ∀ a : List UInt32, (ZB a).length = 4 * a.length
 | [] => rfl
 | x :: a => by simp [ZB, XM a]; omega
def JG (s : List UInt8) : List UInt8 := ZB (KL (s ++ Xf s.length))
theorem JS (s : List UInt8) : (JG s).length = 32 := by rw [JG, XM, YL]
theorem Qh8 {α : Type} {l : List α} (h : l.length = 8) : ∃ a0 a1 a2 a3 a4 a5 a6 a7, l = [a0, a1, a2, a3, a4, a5, a6, a7] := by
 match l, h with
 | [a0, a1, a2, a3, a4, a5, a6, a7], _ => exact ⟨a0, a1, a2, a3, a4, a5, a6, a7, rfl⟩
def XI (lab : Lab) (w : World) (d e b : Nat) (t : List UInt32) (xs : List UInt8) (n : Int) : Prop := ∃ v, Own lab w d b 226 (List.map u32 t ++ [v, i64 n]).toArray ∧ ZG lab w e 5 v (List.map u8 xs)
def JI (lab : Lab) (w : World) (d e b : Nat) (s : List UInt8) : Prop := XI lab w d e b (KL s) (Jb s) ((s.length : Nat) : Int)
section
variable {w : World} {lab : Lab}
theorem XI.up {T : List Nat} {lab' : Lab} {w' : World} {d e b : Nat} {t : List UInt32} {xs : List UInt8} {n : Int} (h : XI lab w d e b t xs n) (st : Stp T lab w lab' w') (hd : d ∉ T := by decide) (he : e ∉ T := by decide) : XI lab' w' d e b t xs n := by
 obtain ⟨v, h1, h2⟩ := h
 exact ⟨v, h1.up st hd, h2.up st he⟩
theorem JI.up {T : List Nat} {lab' : Lab} {w' : World} {d e b : Nat} {s : List UInt8} (h : JI lab w d e b s) (st : Stp T lab w lab' w') (hd : d ∉ T := by decide) (he : e ∉ T := by decide) : JI lab' w' d e b s := XI.up h st hd he
theorem XI.open {d e b : Nat} {t : List UInt32} {xs : List UInt8} {n : Int} (h : XI lab w d e b t xs n) (ht : t.length = 8) : ∃ x0 x1 x2 x3 x4 x5 x6 x7 A c, t = [x0, x1, x2, x3, x4, x5, x6, x7] ∧ Own lab w d b 226 #[u32 x0, u32 x1, u32 x2, u32 x3, u32 x4, u32 x5, u32 x6, u32 x7, .slice A xs.length c, i64 n] ∧ ZG lab w e 5 (.slice A xs.length c) (List.map u8 xs) ∧ xs.length ≤ c ∧ c ≤ 9223372036854775807 := by
 obtain ⟨v, h1, h2⟩ := h
 obtain ⟨A, c, rfl⟩ := h2.shapeN (n := xs.length) (by simp)
 obtain ⟨x0, x1, x2, x3, x4, x5, x6, x7, hx⟩ := Qh8 ht
 rw [hx] at h1
 exact ⟨x0, x1, x2, x3, x4, x5, x6, x7, A, c, hx, h1, h2, by simpa using h2.cap.2.1, h2.cap.2.2⟩
theorem JI.open {d e b : Nat} {s : List UInt8} (h : JI lab w d e b s) : ∃ x0 x1 x2 x3 x4 x5 x6 x7 A c, KL s = [x0, x1, x2, x3, x4, x5, x6, x7] ∧ Own lab w d b 226 #[u32 x0, u32 x1, u32 x2, u32 x3, u32 x4, u32 x5, u32 x6, u32 x7, .slice A (Jb s).length c, i64 ((s.length : Nat) : Int)] ∧ ZG lab w e 5 (.slice A (Jb s).length c) (List.map u8 (Jb s)) ∧ (Jb s).length ≤ c ∧ c ≤ 9223372036854775807 := XI.open h (YL s)
theorem XI.mk {d e b : Nat} {x0 x1 x2 x3 x4 x5 x6 x7 : UInt32} {v : Value} {n n' : Int} {xs xs' : List UInt8} {t : List UInt32} (h1 : Own lab w d b 226 #[u32 x0, u32 x1, u32 x2, u32 x3, u32 x4, u32 x5, u32 x6, u32 x7, v, i64 n]) (h2 : ZG lab w e 5 v (List.map u8 xs)) (hs : [x0, x1, x2, x3, x4, x5, x6, x7] = t) (hx : xs = xs') (hn : n = n') : XI lab w d e b t xs' n' := by
 subst hn; subst hx
 exact ⟨v, by rw [← hs]; exact h1, h2⟩
theorem JI.mk {d e b : Nat} {s : List UInt8} {x0 x1 x2 x3 x4 x5 x6 x7 : UInt32} {v : Value} {n : Int} {xs : List UInt8} (h1 : Own lab w d b 226 #[u32 x0, u32 x1, u32 x2, u32 x3, u32 x4, u32 x5, u32 x6, u32 x7, v, i64 n]) (h2 : ZG lab w e 5 v (List.map u8 xs)) (hs : [x0, x1, x2, x3, x4, x5, x6, x7] = KL s) (hx : xs = Jb s) (hn : n = ((s.length : Nat) : Int)) : JI lab w d e b s := XI.mk h1 h2 hs hx hn
theorem Y1 {d e b : Nat} {s s' : List UInt8} (e0 : s = s') (h : JI lab w d e b s) : JI lab w d e b s' := e0 ▸ h
theorem ZG.relab {lab2 : Lab} {d c : Nat} {t : TypeId} {v : Value} {cs : List Value} (h : ZG lab w d t v cs) (hl : ∀ k, lab k = some d → lab2 k = some c) : ZG lab2 w c t v cs := by
 rcases h with h | ⟨b, o, c', arr, h1, h2, h3⟩
 ·exact .inl h
 ·exact .inr ⟨b, o, c', arr, h1, ⟨hl _ h2.1, h2.2⟩, h3⟩
theorem JI.relab {lab2 : Lab} {d e d2 e2 b : Nat} {s : List UInt8} (h : JI lab w d e b s) (hd : ∀ k, lab k = some d → lab2 k = some d2) (he : ∀ k, lab k = some e → lab2 k = some e2) : JI lab2 w d2 e2 b s := by
 obtain ⟨v, h1, h2⟩ := h
 exact ⟨v, ⟨hd _ h1.1, h1.2⟩, h2.relab he⟩
theorem JI.back {lab2 : Lab} {d e b : Nat} {bk : List (Nat × Nat)} {s : List UInt8} (h : JI lab w d e b s) (B : Back lab w lab2 bk) (d2 e2 : Nat) (hd : Kn d bk = d2) (he : Kn e bk = e2) (h0 : d ≠ 0) (h1 : e ≠ 0) (hk : d ∈ Xa bk) (hk1 : e ∈ Xa bk) : JI lab2 w d2 e2 b s :=
 h.relab (fun k e => hd ▸ B.l d k h0 hk e) (fun k e' => he ▸ B.l e k h1 hk1 e')
theorem QiG {d e a b : Nat} (h : e ≠ d) : Kn e [(d, a), (e, b)] = b := by
 have : Nat.beq d e = false := by
  cases hb : Nat.beq d e with
  | false => rfl
  | true => exact absurd (Nat.eq_of_beq_eq_true hb).symm h
 simp [Kn, this]
theorem KX {d n c : Nat} {t : TypeId} {A : Option Addr} {bs : List UInt8} (h : ZG lab w d t (.slice A n c) (bs.map u8)) (j : Nat) (hj : j ≤ bs.length) : Qe (bs.take j) (Q5 lab d) w (.slice A j c) := by
 have := h.bytes
 have h1 := this.cap
 exact this.takeN j (by omega)
theorem QdM {d n c : Nat} {t : TypeId} {A : Option Addr} {bs : List UInt8} (h : ZG lab w d t (.slice A n c) (bs.map u8)) (j : Nat) (hj : j ≤ n) : ZG lab w d t (.slice (if c = j then A else A.map (·.add (j * 1))) (n - j) (c - j)) ((bs.drop j).map u8) := by
 rw [List.map_drop]; exact h.drop j hj
def Qjs (d e : Nat) (s : List UInt8) : VP := fun lab w v => ∃ b, v = .pointer (some ⟨b, 0, none⟩) ∧ JI lab w d e b s
instance (d e : Nat) (s : List UInt8) : PerT [] (Qjs d e s) := ⟨fun s ⟨b, h1, h2⟩ => ⟨b, h1, h2.up s (by simp) (by simp)⟩⟩
theorem QcG {w : World} {lab : Lab} (ds : List (Nat × Nat)) (hv : Ql lab w) : ∃ L, Ql L w ∧ (∃ U, Stp U lab w L w) ∧ (∀ {d : Nat} (c : Nat), Kn d ds = c → ∀ k, lab k = some d → L k = some c) ∧
  ∀ {T : List Nat} {lab' : Lab} {w' : World} (bk : List (Nat × Nat)), Stp T L w lab' w' → (0 : Nat) ∉ T → Ql lab' w' → ∃ lab2, Stp (Xa ds) lab w lab2 w' ∧ Back lab' w' lab2 bk :=
 ⟨Qf2 ds lab, hv.entM, QaP ds lab w, fun c hc k e => by unfold Qf2; rw [e]; exact congrArg some hc, fun bk s hT hv' => Qh5 bk s hT hv hv'⟩
theorem Qjr {d b n : Nat} {t : TypeId} {cs : List Value} (h : Own lab w d b t cs.toArray) (hn : cs.length = n) (hc : n ≤ 9223372036854775807) : App lab w d t (.slice (some ⟨b, 0, none⟩) n n) n cs :=
 ⟨⟨by omega, .inr ⟨b, n, cs.toArray, rfl, Nat.zero_le _, h.2, Nat.le_refl _, by unfold maxLen; omega, by simp [hn], by simp [← hn]⟩⟩, fun k hk => by simp [Value.ownBlock] at hk; subst hk; exact h.1⟩
end
end Go.Proofs.Ytgfomedobfaidaa
end
section
set_option linter.unusedVariables false
set_option linter.unusedSimpArgs false
namespace Go.Proofs.Ytgfomedobfaidaa
open Go.RowKit
structure StepD where
 n : Nat
 base : Nat
 primes : List Nat
def Z0 (d : StepD) : VP := fun lab w v => ∃ a b c, v = .agg #[a, b, c] ∧ Qi d.n lab w (.agg #[a]) ∧ Qi d.base lab w (.agg #[b]) ∧ Jd d.primes lab w c
theorem V1 (d : StepD) : Pers (Z0 d) := ⟨fun s ⟨a, b, c, h, h1, h2, h3⟩ => ⟨a, b, c, h, (Jq _).step s h1, (Jq _).step s h2, (V3 _).step s h3⟩⟩
instance (d : StepD) : Per (Z0 d) := ⟨V1 d⟩
theorem Z0.open {d : StepD} {lab : Lab} {w : World} {v : Value} (h : Z0 d lab w v) : ∃ A1 c1 A2 c2 A3 c3, v = .agg #[.slice A1 (nw d.n) c1, .slice A2 (nw d.base) c2, .slice A3 d.primes.length c3] ∧ Qi d.n lab w (.agg #[.slice A1 (nw d.n) c1]) ∧ Qi d.base lab w (.agg #[.slice A2 (nw d.base) c2]) ∧ Jd d.primes lab w (.slice A3 d.primes.length c3) := by
 obtain ⟨a, b, c, rfl, h1, h2, h3⟩ := h
 obtain ⟨A1, c1, e1⟩ := Qi.shape h1
 obtain ⟨A2, c2, e2⟩ := Qi.shape h2
 obtain ⟨A3, c3, rfl⟩ := Jd.shape h3
 cases e1; cases e2
 exact ⟨A1, c1, A2, c2, A3, c3, rfl, h1, h2, h3⟩
theorem Z0.mk {n base : Nat} {primes : List Nat} {lab : Lab} {w : World} {a b c : Value} (h1 : Qi n lab w (.agg #[a])) (h2 : Qi base lab w (.agg #[b])) (h3 : Jd primes lab w c) : Z0 ⟨n, base, primes⟩ lab w (.agg #[a, b, c]) := ⟨a, b, c, rfl, h1, h2, h3⟩
theorem Qj0 {x y : StepD} (e : x = y) {lab : Lab} {w : World} {v : Value} (h : Z0 x lab w v) : Z0 y lab w v := e ▸ h
def Jy (L : List StepD) : VP := fun lab w v => ∃ A c vs, v = .slice A L.length c ∧ L.length ≤ c ∧ c ≤ 9223372036854775807 ∧ List.length vs = L.length * 3 ∧ Ja lab w A vs ∧ ∀ (i : Nat) (x : StepD), L[i]? = some x → ∃ a b d, vs[i * 3]? = some a ∧ vs[i * 3 + 1]? = some b ∧ vs[i * 3 + 2]? = some d ∧ Z0 x lab w (.agg #[a, b, d])
theorem QbY (L : List StepD) : Pers (Jy L) := ⟨fun s ⟨A, c, vs, h1, h2, h3, h4, h5, h6⟩ => ⟨A, c, vs, h1, h2, h3, h4, h5.lift s, fun i x hi => by
 obtain ⟨a, b, d, k1, k2, k3, k4⟩ := h6 i x hi
 exact ⟨a, b, d, k1, k2, k3, (V1 _).step s k4⟩⟩⟩
instance (L : List StepD) : Per (Jy L) := ⟨QbY L⟩
theorem Jy.shape {L : List StepD} {lab : Lab} {w : World} {v : Value} (h : Jy L lab w v) : ∃ A c, v = .slice A L.length c := by
 obtain ⟨A, c, _, h1, _⟩ := h
 exact ⟨A, c, h1⟩
theorem Jy.cap {L : List StepD} {lab : Lab} {w : World} {A : Option Addr} {n c : Nat} (h : Jy L lab w (.slice A n c)) : n = L.length ∧ L.length ≤ c ∧ c ≤ 9223372036854775807 := by
 obtain ⟨A', c', _, h1, h2, h3, _⟩ := h
 cases h1
 exact ⟨rfl, h2, h3⟩
theorem Jy.nil (lab : Lab) (w : World) : Jy [] lab w (.slice none 0 0) := ⟨none, 0, [], rfl, by simp, by omega, rfl, Ja.nil, fun i bs h => by simp at h⟩
theorem XH {x y : List StepD} (e : x = y) {lab : Lab} {w : World} {v : Value} (h : Jy x lab w v) : Jy y lab w v := e ▸ h
def QD : StepD := ⟨0, 0, []⟩
theorem Jy.at_ {L : List StepD} {lab : Lab} {w : World} {A : Option Addr} {n c : Nat} (h : Jy L lab w (.slice A n c)) (j : Nat) (hj : j < n) : ∃ vs a b d, List.length vs = n * 3 ∧ Ja lab w A vs ∧ (∀ i u, [a, b, d][i]? = some u → vs[j * 3 + i]? = some u) ∧ Z0 (List.getD L j QD) lab w (.agg #[a, b, d]) := by
 obtain ⟨A', c', vs, h1, _, _, h4, h5, h6⟩ := h
 cases h1
 obtain ⟨a, b, d, k1, k2, k3, k4⟩ := h6 j (L[j]) (List.getElem?_eq_getElem hj)
 refine ⟨vs, a, b, d, h4, h5, ?_, ?_⟩
 ·intro i u hi
  match i, hi with
  | 0, hi => simp at hi; subst hi; exact k1
  | 1, hi => simp at hi; subst hi; exact k2
  | 2, hi => simp at hi; subst hi; exact k3
  | i + 3, hi => simp at hi
 ·simpa [List.getD, List.getElem?_eq_getElem hj] using k4
def VR (lab : Lab) (w : World) : List StepD → List Value → Prop
 | [], [] => True
 | d :: L, a :: b :: c :: vs => Z0 d lab w (.agg #[a, b, c]) ∧ VR lab w L vs
 | _, _ => False
theorem VR.len {lab : Lab} {w : World} : ∀ {L : List StepD} {vs : List Value}, VR lab w L vs → vs.length = L.length * 3
 | [], [], _ => rfl
 | d :: L, a :: b :: c :: vs, h => by have := VR.len h.2; simp only [List.length_cons]; omega
 | [], _ :: _, h => h.elim
 | _ :: _, [], h => h.elim
 | _ :: _, [_], h => h.elim
 | _ :: _, [_, _], h => h.elim
theorem VR.get {lab : Lab} {w : World} : ∀ {L : List StepD} {vs : List Value}, VR lab w L vs → ∀ (i : Nat) (x : StepD), L[i]? = some x → ∃ a b d, vs[i * 3]? = some a ∧ vs[i * 3 + 1]? = some b ∧ vs[i * 3 + 2]? = some d ∧ Z0 x lab w (.agg #[a, b, d])
 | [], [], _, i, x, hi => by simp at hi
 | d :: L, a :: b :: c :: vs, h, 0, x, hi => by simp at hi; subst hi; exact ⟨a, b, c, rfl, rfl, rfl, h.1⟩
 | d :: L, a :: b :: c :: vs, h, i + 1, x, hi => by
  obtain ⟨a', b', d', h1, h2, h3, h4⟩ := VR.get h.2 i x (by simpa using hi)
  refine ⟨a', b', d', ?_, ?_, ?_, h4⟩
  ·rw [show (i + 1) * 3 = i * 3 + 3 by omega]; exact h1
  ·rw [show (i + 1) * 3 + 1 = i * 3 + 1 + 3 by omega]; exact h2
  ·rw [show (i + 1) * 3 + 2 = i * 3 + 2 + 3 by omega]; exact h3
 | [], _ :: _, h, _, _, _ => h.elim
 | _ :: _, [], h, _, _, _ => h.elim
 | _ :: _, [_], h, _, _, _ => h.elim
 | _ :: _, [_, _], h, _, _, _ => h.elim
theorem VR.step {lab : Lab} {w : World} {T : List Nat} {lab' : Lab} {w' : World} (st : Stp T lab w lab' w') : ∀ {L : List StepD} {vs : List Value}, VR lab w L vs → VR lab' w' L vs
 | [], [], _ => trivial
 | d :: L, a :: b :: c :: vs, h => ⟨(V1 _).step st h.1, VR.step st h.2⟩
 | [], _ :: _, h => h.elim
 | _ :: _, [], h => h.elim
 | _ :: _, [_], h => h.elim
 | _ :: _, [_, _], h => h.elim
theorem Jy.mk {lab : Lab} {w : World} {L : List StepD} {A : Option Addr} {c : Nat} {vs : List Value} (n : Nat) (hn : L.length = n) (hc : n ≤ c) (hc' : c ≤ 9223372036854775807) (hr : Ja lab w A vs) (h : VR lab w L vs) : Jy L lab w (.slice A n c) := by
 subst hn
 exact ⟨A, c, vs, rfl, hc, hc', h.len, hr, h.get⟩
theorem Qge {lab : Lab} {w : World} {x : Nat} {v : Value} {b : Nat} (hr : Ja lab w (some ⟨b, 0, none⟩) [v]) (hx : Qi x lab w (.agg #[v])) : Jd [x] lab w (.slice (some ⟨b, 0, none⟩) 1 1) :=
 ⟨_, _, [v], rfl, Nat.le_refl _, by decide, rfl, hr, (show J9 lab w [x] [v] from ⟨hx, trivial⟩).get⟩
section
variable {P : Program} {N : Nat} {l : List (Nat × Value)} {w : World} {lab : Lab} {ty : TypeId}
theorem Y5 {t e : TypeId} {x y : Operand} {k : IntKind} {i : Int} {A : Option Addr} {n c s : Nat} {ag : Bool} {by_ : Nat} {z : Option Value} {cs : List Value} (j : Nat) (ht : P.underlying t = some (.slice e)) (he : QT P e = some (ag, s, z, by_)) (hx : ev l x = some (.slice A n c)) (hy : ev l y = some (.int k i)) (hr : Ja lab w A cs) (hn : cs.length = n * s) (hs : 0 < s) (hij : i = (j : Int)) (hj : j < n) :
  Qa P l (.indexAddr t x y) ty w (.pointer (A.map (·.add (j * s)))) w := by
 intro ρ hρ d pos af g
 have hpos : 0 < cs.length := by rw [hn]; exact Nat.mul_pos (by omega) hs
 obtain ⟨b, o, rfl, _⟩ := hr.cell (j := 0) (v := cs[0]'hpos) (List.getElem?_eq_getElem hpos)
 have h := (Qa.indexAddr (P := P) (l := l) (w := w) (ty := ty) ht he hx hy (by omega) (by omega)) ρ hρ d pos af g
 rw [h]
 subst hij
 simp [J2]
theorem YF {t : TypeId} {x : Operand} {A : Option Addr} {by_ : Nat} {z : Option Value} {cs : List Value} {o : Nat} (us : List Value) (ht : QT P t = some (true, us.length, z, by_)) (hx : ev l x = some (.pointer (A.map (·.add o)))) (hr : Ja lab w A cs) (hu : ∀ i u, us[i]? = some u → cs[o + i]? = some u) (h0 : 0 < us.length) : Qa P l (.load t x) ty w (.agg us.toArray) w := by
 have hA : ∃ b o', A = some ⟨b, o', none⟩ := by
  obtain ⟨b, o', h, _⟩ := hr.cell (hu 0 _ (List.getElem?_eq_getElem h0))
  exact ⟨b, o', h⟩
 obtain ⟨b, o', rfl⟩ := hA
 refine Zl (a := ⟨b, o' + o, none⟩) ht (by simpa [J2] using hx) fun j v hj => ?_
 obtain ⟨b2, o2, h2, hc⟩ := hr.cell (hu j v hj)
 cases h2
 rw [J2, Nat.add_assoc]
 exact hc
end
theorem Jd.takeN {L : List Nat} {A : Option Addr} {n c : Nat} {lab : Lab} {w : World} (h : Jd L lab w (.slice A n c)) (j : Nat) (hj : j ≤ n) : Jd (L.take j) lab w (.slice A j c) := by
 obtain ⟨A', c', vs, h1, h2, h3, h4, h5, h6⟩ := h
 cases h1
 refine Jd.mk j (by rw [List.length_take]; omega) (by omega) h3 (h5.take j) (by rw [List.length_take]; omega) fun i x hi => ?_
 have hij : i < j := by
  have := (List.getElem?_eq_some_iff.1 hi).1
  rw [List.length_take] at this; omega
 rw [List.getElem?_take_of_lt hij] at hi
 obtain ⟨u, hu, hb⟩ := h6 i x hi
 exact ⟨u, by rw [List.getElem?_take_of_lt hij]; exact hu, hb⟩
section
variable {lab : Lab} {w : World}
theorem J9.of : ∀ {L : List Nat} {vs : List Value}, vs.length = L.length → (∀ (i : Nat) (x : Nat), L[i]? = some x → ∃ u, vs[i]? = some u ∧ Qi x lab w (.agg #[u])) → J9 lab w L vs
 | [], [], _, _ => trivial
 | x :: L, v :: vs, h, hh => by
  obtain ⟨u, h1, h2⟩ := hh 0 x rfl
  simp at h1; subst h1
  exact ⟨h2, J9.of (by simpa using h) fun i y hi => by simpa using hh (i + 1) y (by simpa using hi)⟩
 | [], _ :: _, h, _ => by simp at h
 | _ :: _, [], h, _ => by simp at h
theorem Qi.cell1 {x : Nat} {u : Value} (h : Qi x lab w (.agg #[u])) : u.oneCell' = true := by
 obtain ⟨A, c, h1, _⟩ := h
 cases h1; rfl
theorem J9.cell1 : ∀ {L : List Nat} {vs : List Value}, J9 lab w L vs → ∀ u ∈ vs, u.oneCell' = true
 | [], [], _, u, hu => by cases hu
 | _ :: _, _ :: _, h, u, hu => by
  rcases List.mem_cons.1 hu with rfl | hu
  ·exact Qi.cell1 h.1
  ·exact J9.cell1 h.2 u hu
 | [], _ :: _, h, _, _ => h.elim
 | _ :: _, [], h, _, _ => h.elim
theorem J9.append : ∀ {L M : List Nat} {vs us : List Value}, J9 lab w L vs → J9 lab w M us → J9 lab w (L ++ M) (vs ++ us)
 | [], _, [], _, _, k => k
 | _ :: _, _, _ :: _, _, h, k => ⟨h.1, J9.append h.2 k⟩
 | [], _, _ :: _, _, h, _ => h.elim
 | _ :: _, _, [], _, h, _ => h.elim
theorem Jd.cells {L : List Nat} {A : Option Addr} {n c : Nat} (h : Jd L lab w (.slice A n c)) : ∃ vs, List.length vs = n ∧ Ja lab w A vs ∧ J9 lab w L vs ∧ ∀ u ∈ vs, u.oneCell' = true := by
 obtain ⟨A', c', vs, h1, _, _, h4, h5, h6⟩ := h
 cases h1
 have e := J9.of h4 h6
 exact ⟨vs, h4, h5, e, e.cell1⟩
end
def ZJ (n : Nat) : Prop := 2 ≤ n ∧ n < 65536 ∧ ∀ d, d < 256 → 2 ≤ d → d * d ≤ n → n % d ≠ 0
instance (n : Nat) : Decidable (ZJ n) := by unfold ZJ; infer_instance
theorem Qeh {n d : Nat} (h2 : 2 ≤ n) (h16 : n < 65536) (hall : ∀ e, e < d → 2 ≤ e → n % e ≠ 0) (hd : n < d * d) : ZJ n :=
 ⟨h2, h16, fun e _ h2e hee => hall e (by
  rcases Nat.lt_or_ge e d with h | h
  ·exact h
  ·have := Nat.mul_le_mul h h; omega) h2e⟩
theorem Qeg {n d : Nat} (h16 : n < 65536) (h2 : 2 ≤ d) (hd : d * d ≤ n) (h0 : n % d = 0) : ¬ ZJ n := fun h => h.2.2 d (by
 rcases Nat.lt_or_ge d 256 with h | h
 ·exact h
 ·have := Nat.mul_le_mul h h; omega) h2 hd h0
theorem Qld {d n : Nat} (h : d * d ≤ n) (h16 : n < 65536) : d < 256 := by
 rcases Nat.lt_or_ge d 256 with h' | h'
 ·exact h'
 ·have := Nat.mul_le_mul h' h'; omega
theorem Vp {n : Nat} (h1 : (!decide (nw n ≤ 2)) = false) : (if nw n ≤ 2 then n else 0) = n := if_pos (by simpa using h1)
theorem Qim {n : Nat} (h : (!decide (nw n ≤ 2)) = true) : false = decide (ZJ n) := (dF9 fun hs => by
 have h2 : ¬ nw n ≤ 2 := by simpa using h
 have := Xi (x := n) (n := 1) (by have := hs.2.1; omega)
 omega).symm
theorem Qil {n : Nat} (h1 : (!decide (nw n ≤ 2)) = false) (h : (((if nw n ≤ 2 then n else 0) : Nat) : Int) < 2) : false = decide (ZJ n) := (dF9 fun hs => by
 rw [Vp h1] at h; have := hs.1; omega).symm
theorem Qik {n : Nat} (h1 : (!decide (nw n ≤ 2)) = false) (h : (65536 : Int) ≤ (((if nw n ≤ 2 then n else 0) : Nat) : Int)) : false = decide (ZJ n) := (dF9 fun hs => by
 rw [Vp h1] at h; have := hs.2.1; omega).symm
theorem Qij {n d : Nat} (h1 : (!decide (nw n ≤ 2)) = false) (h3 : ¬ (65536 : Int) ≤ (((if nw n ≤ 2 then n else 0) : Nat) : Int)) (h2 : 2 ≤ d) (h4 : ((d * d : Nat) : Int) ≤ (((if nw n ≤ 2 then n else 0) : Nat) : Int)) (h5 : (((if nw n ≤ 2 then n else 0) % d : Nat) : Int) = 0) : false = decide (ZJ n) := (dF9 (by
 rw [Vp h1] at h3 h4 h5
 exact Qeg (by omega) h2 (by omega) (by omega))).symm
theorem Qii {n d : Nat} (h1 : (!decide (nw n ≤ 2)) = false) (h2 : ¬ (((if nw n ≤ 2 then n else 0) : Nat) : Int) < 2) (h3 : ¬ (65536 : Int) ≤ (((if nw n ≤ 2 then n else 0) : Nat) : Int)) (hall : ∀ e, e < d → 2 ≤ e → n % e ≠ 0) (h4 : ¬ ((d * d : Nat) : Int) ≤ (((if nw n ≤ 2 then n else 0) : Nat) : Int)) : true = decide (ZJ n) := (dT9 (by
 rw [Vp h1] at h2 h3 h4
 exact Qeh (by omega) (by omega) hall (by omega))).symm
theorem Qbu {n d : Nat} (h1 : (!decide (nw n ≤ 2)) = false) (h3 : ¬ (65536 : Int) ≤ (((if nw n ≤ 2 then n else 0) : Nat) : Int)) (h4 : ((d * d : Nat) : Int) ≤ (((if nw n ≤ 2 then n else 0) : Nat) : Int)) : d < 256 := by
 rw [Vp h1] at h3 h4
 exact Qld (n := n) (by omega) (by omega)
theorem Qdd {n d : Nat} (h1 : (!decide (nw n ≤ 2)) = false) (hall : ∀ e, e < d → 2 ≤ e → n % e ≠ 0) (h5 : ¬ (((if nw n ≤ 2 then n else 0) % d : Nat) : Int) = 0) : ∀ e, e < d + 1 → 2 ≤ e → n % e ≠ 0 := by
 rw [Vp h1] at h5
 intro e he h2
 rcases Nat.lt_or_ge e d with h | h
 ·exact hall e h h2
 ·obtain rfl : e = d := by omega
  omega
def Yo (behind : List Nat) (n : Nat) : Prop := n ∈ behind ∨ ZJ n
instance (b : List Nat) (n : Nat) : Decidable (Yo b n) := by unfold Yo; infer_instance
theorem Qfl {behind : List Nat} {n k : Nat} (h : ∀ j, j < k → behind.getD j 0 ≠ n) (hk : behind.length ≤ k) : n ∉ behind := fun hm => by
 obtain ⟨i, hi, e⟩ := List.mem_iff_getElem.1 hm
 exact h i (by omega) (by simp [List.getD, List.getElem?_eq_getElem hi, e])
theorem Qfk {behind : List Nat} {n k : Nat} (hk : k < behind.length) (h : behind.getD k 0 = n) : n ∈ behind := by
 subst h; simp [List.getD, List.getElem?_eq_getElem hk]
theorem QiN {behind : List Nat} {n k : Nat} (hk : k < behind.length) (h : Jo (behind.getD k 0) n = 0) : true = decide (Yo behind n) := (dT9 (.inl (Qfk hk (by simpa using h)))).symm
theorem QiO {behind : List Nat} {n k : Nat} (hall : ∀ j, j < k → behind.getD j 0 ≠ n) (hk : behind.length ≤ k) : decide (ZJ n) = decide (Yo behind n) := decide_eq_decide.2 ⟨.inr, fun h => h.resolve_left (Qfl hall hk)⟩
theorem Qd3 {behind : List Nat} {n k : Nat} (hall : ∀ j, j < k → behind.getD j 0 ≠ n) (h : ¬ Jo (behind.getD k 0) n = 0) : ∀ j, j < k + 1 → behind.getD j 0 ≠ n := by
 intro j hj
 rcases Nat.lt_or_ge j k with h' | h'
 ·exact hall j h'
 ·obtain rfl : j = k := by omega
  simpa using h
def pwF : Nat → Nat → Nat → Nat
 | 0, _, _ => 1
 | f + 1, n, p => if n % p = 0 then p * pwF f (n / p) p else 1
def pw (n p : Nat) : Nat := pwF n n p
theorem Qcs {p : Nat} (hp : 2 ≤ p) : ∀ (f g n : Nat), n ≠ 0 → n ≤ f → n ≤ g → pwF f n p = pwF g n p
 | 0, g, n, h0, hf, hg => by omega
 | f + 1, 0, n, h0, hf, hg => by omega
 | f + 1, g + 1, n, h0, hf, hg => by
  simp only [pwF]
  split
  ·rename_i h
   have h1 : n / p ≠ 0 := fun e => by
    have := Nat.div_add_mod n p
    rw [h, e] at this; simp at this; exact h0 this.symm
   have h2 : n / p < n := Nat.div_lt_self (by omega) (by omega)
   rw [Qcs hp f g (n / p) h1 (by omega) (by omega)]
  ·rfl
theorem Qb0 {n p : Nat} (hp : 2 ≤ p) (h0 : n ≠ 0) (h : n % p = 0) : pw n p = p * pw (n / p) p := by
 obtain ⟨m, rfl⟩ : ∃ m, n = m + 1 := ⟨n - 1, by omega⟩
 have h1 : (m + 1) / p ≠ 0 := fun e => by
  have := Nat.div_add_mod (m + 1) p
  rw [h, e] at this; simp at this
 have h2 : (m + 1) / p < m + 1 := Nat.div_lt_self (by omega) (by omega)
 rw [pw, pwF, if_pos h, pw, Qcs hp m ((m + 1) / p) _ h1 (by omega) (Nat.le_refl _)]
theorem UN {n p : Nat} (h0 : n ≠ 0) (h : n % p ≠ 0) : pw n p = 1 := by
 obtain ⟨m, rfl⟩ : ∃ m, n = m + 1 := ⟨n - 1, by omega⟩
 rw [pw, pwF, if_neg h]
theorem QcJ {n p : Nat} (h0 : n ≠ 0) (h : n % p = 0) : n / p ≠ 0 := fun e => by
 have := Nat.div_add_mod n p
 rw [h, e] at this; simp at this; exact h0 this.symm
theorem Qcr {p : Nat} (hp : 2 ≤ p) : ∀ (f n : Nat), n ≤ f → n ≠ 0 → pw n p ∣ n
 | 0, n, h, h0 => by omega
 | f + 1, n, h, h0 => by
  by_cases hd : n % p = 0
  ·rw [Qb0 hp h0 hd]
   have h2 : n / p < n := Nat.div_lt_self (by omega) (by omega)
   have ih := Qcr hp f (n / p) (by omega) (QcJ h0 hd)
   have e : n = p * (n / p) := by have := Nat.div_add_mod n p; omega
   conv => rhs; rw [e]
   exact Nat.mul_dvd_mul_left p ih
  ·rw [UN h0 hd]; exact Nat.one_dvd _
theorem Qlg {n p : Nat} (hp : 2 ≤ p) (h0 : n ≠ 0) : pw n p ≤ n := Nat.le_of_dvd (by omega) (Qcr hp n n (Nat.le_refl _) h0)
theorem QjR {n p : Nat} (hp : 2 ≤ p) (h0 : n ≠ 0) : pw n p = 1 ↔ n % p ≠ 0 := by
 constructor
 ·intro h hd
  rw [Qb0 hp h0 hd] at h
  have h1 : 0 < pw (n / p) p := Nat.pos_of_dvd_of_pos (Qcr hp _ _ (Nat.le_refl _) (QcJ h0 hd)) (Nat.pos_of_ne_zero (QcJ h0 hd))
  have := Nat.mul_le_mul hp h1
  omega
 ·exact UN h0
def Ki (n p : Nat) : Nat := if pw n p = 1 then 0 else pw n p
theorem Qa4 {n p : Nat} (hp : 2 ≤ p) (h0 : n ≠ 0) : Ki n p = 0 ↔ n % p ≠ 0 := by
 have hpos : 0 < pw n p := Nat.pos_of_dvd_of_pos (Qcr hp _ _ (Nat.le_refl _) h0) (Nat.pos_of_ne_zero h0)
 unfold Ki
 rw [← QjR hp h0]
 split <;> omega
theorem QeC {n p : Nat} (hp : 2 ≤ p) (h0 : n ≠ 0) : Ki n p ≤ n := by
 unfold Ki; split
 ·omega
 ·exact Qlg hp h0
theorem QeB {m p : Nat} (hc : (!decide ((if p = 0 then 0 else m % p) = 0)) = false) (h2p : 2 ≤ p) : m % p = 0 := by
 rw [if_neg (by omega)] at hc; simpa using hc
theorem QeA {m p : Nat} (hc : (!decide ((if p = 0 then 0 else m % p) = 0)) = true) (h2p : 2 ≤ p) : m % p ≠ 0 := by
 rw [if_neg (by omega)] at hc; simpa using hc
theorem Qli {n m p o : Nat} (h2p : 2 ≤ p) (hm : m ≠ 0) (hpw : o * pw m p = pw n p) (hc : (!decide ((if p = 0 then 0 else m % p) = 0)) = true) (hp : Jo o 1 = 0) : 0 = Ki n p := by
 rw [UN hm (QeA hc h2p), Nat.mul_one] at hpw
 unfold Ki; rw [if_pos (by rw [← hpw]; simpa using hp)]
theorem Qlh {n m p o : Nat} (h2p : 2 ≤ p) (hm : m ≠ 0) (hpw : o * pw m p = pw n p) (hc : (!decide ((if p = 0 then 0 else m % p) = 0)) = true) (hp : ¬ Jo o 1 = 0) : o = Ki n p := by
 rw [UN hm (QeA hc h2p), Nat.mul_one] at hpw
 unfold Ki; rw [if_neg (by rw [← hpw]; simpa using hp), hpw]
theorem QjU {n m p o : Nat} (hmo : o * m = n) (h : m % p = 0) : o * p * (m / p) = n := by
 have := Nat.div_add_mod m p
 rw [h, Nat.add_zero] at this
 rw [Nat.mul_assoc, this, hmo]
theorem QjT {n m p o : Nat} (h2p : 2 ≤ p) (hm : m ≠ 0) (hpw : o * pw m p = pw n p) (h : m % p = 0) : o * p * pw (m / p) p = pw n p := by
 rw [Nat.mul_assoc, ← Qb0 h2p hm h, hpw]
theorem Qiy {n m o : Nat} (hmo : o * m = n) (hm : m ≠ 0) (h0n : n ≠ 0) : o ≤ n ∧ m ≤ n := by
 have ho : o ≠ 0 := fun e => by subst e; simp at hmo; omega
 subst hmo
 exact ⟨Nat.le_mul_of_pos_right _ (by omega), Nat.le_mul_of_pos_left _ (by omega)⟩
def KR (N B : Nat) (behind ps : List Nat) (i : Nat) : Prop :=
 (∀ j, j < i → ps.getD j 0 ≠ ps.getD i 0) ∧ Yo behind (ps.getD i 0) ∧ 2 ≤ ps.getD i 0 ∧ (N - 1) % ps.getD i 0 = 0 ∧ Nat.gcd (Qbo N (B ^ ((N - 1) / ps.getD i 0) % N) 1) N = 1
def Zu (N : Nat) (ps : List Nat) : Nat → Nat
 | 0 => 1
 | k + 1 => Zu N ps k * Ki (N - 1) (ps.getD k 0)
def Zs (s : StepD) (behind : List Nat) : Prop :=
 2 ≤ s.n ∧ 1 ≤ s.primes.length ∧ s.primes.length ≤ 32 ∧ s.base ^ (s.n - 1) % s.n = 1 ∧ (∀ i, i < s.primes.length → KR s.n s.base behind s.primes i) ∧ s.n < Zu s.n s.primes s.primes.length * Zu s.n s.primes s.primes.length
instance (N B : Nat) (b ps : List Nat) (i : Nat) : Decidable (KR N B b ps i) := by unfold KR; infer_instance
instance (s : StepD) (b : List Nat) : Decidable (Zs s b) := by unfold Zs; infer_instance
theorem QcC {N : Nat} {ps : List Nat} (h1 : 2 ≤ N) : ∀ k, (∀ i, i < k → 2 ≤ ps.getD i 0) → Zu N ps k ≤ N ^ k
 | 0, _ => by simp [Zu]
 | k + 1, h => by
  rw [Zu, Nat.pow_succ]
  exact Nat.mul_le_mul (QcC h1 k fun i hi => h i (by omega)) (Nat.le_trans (QeC (h k (by omega)) (by omega)) (by omega))
theorem QeJ {a b : Nat} : nw (a * b) ≤ nw a + nw b := by
 apply Xi
 rw [Nat.pow_add]
 exact Nat.mul_lt_mul'' (Ym a) (Ym b)
theorem Qh2 (a : Nat) : ∀ k, nw (a ^ k) ≤ nw a * k + 1
 | 0 => by simp [Qc1]
 | k + 1 => by
  rw [Nat.pow_succ]
  have h1 := QeJ (a := a ^ k) (b := a)
  have h2 := Qh2 a k
  rw [Nat.mul_succ]; omega
theorem Qae {N k : Nat} {ps : List Nat} (h1 : 2 ≤ N) (hN : nw N ≤ 32) (hk : k ≤ 32) (h : ∀ i, i < k → 2 ≤ ps.getD i 0) : nw (Zu N ps k) ≤ 1025 := by
 have h1' := QW (QcC h1 k h)
 have h2 := Qh2 N k
 have h3 : nw N * k ≤ 32 * 32 := Nat.mul_le_mul hN hk
 omega
theorem Um {x : Nat} (h : x < 4294967296) : nw x ≤ 1 := Xi (n := 1) (by omega)
theorem YW {n : Nat} (h : ¬ Jo n 2 < 0) : 2 ≤ n := by rw [V0] at h; omega
theorem Qe5 {ps : List Nat} (h : ∀ x ∈ ps, nw x ≤ 32) (i : Nat) : nw (ps.getD i 0) ≤ 32 := by
 rcases Nat.lt_or_ge i ps.length with hi | hi
 ·exact h _ (by simp [List.getD, List.getElem?_eq_getElem hi])
 ·simp [List.getD, List.getElem?_eq_none hi, Yl]
theorem QaK {ps : List Nat} {i k : Nat} (h : k < i) : (ps.take i).getD k 0 = ps.getD k 0 := by simp [List.getD, List.getElem?_take_of_lt h]
section
variable {s : StepD} {b : List Nat} {i k : Nat}
theorem QgR (h : Jo s.n 2 < 0) : false = decide (Zs s b) := (dF9 fun hs => by rw [V0] at h; have := hs.1; omega).symm
theorem QgQ (h : ((s.primes.length : Nat) : Int) < 1) : false = decide (Zs s b) := (dF9 fun hs => by have := hs.2.1; omega).symm
theorem QgP (h : (32 : Int) < ((s.primes.length : Nat) : Int)) : false = decide (Zs s b) := (dF9 fun hs => by have := hs.2.2.1; omega).symm
theorem QgO (h : Jo (s.base ^ (s.n - 1) % s.n) 1 ≠ 0) : false = decide (Zs s b) := (dF9 fun hs => h (by rw [XC]; exact hs.2.2.2.1)).symm
theorem Vb (hi : i < s.primes.length) (h : ¬ KR s.n s.base b s.primes i) : false = decide (Zs s b) := (dF9 fun hs => h (hs.2.2.2.2.1 i hi)).symm
theorem QgN (hi : i < s.primes.length) (hk : k < i) (h : Jo ((s.primes.take i).getD k 0) (s.primes.getD i 0) = 0) : false = decide (Zs s b) := Vb hi fun hg => hg.1 k hk (by rw [QaK hk] at h; simpa using h)
theorem QgM (hi : i < s.primes.length) (h : (!decide (Yo b (s.primes.getD i 0))) = true) : false = decide (Zs s b) := Vb hi fun hg => by rw [dT9 hg.2.1] at h; cases h
theorem QgL (hi : i < s.primes.length) (h : Jo (s.primes.getD i 0) 2 < 0) : false = decide (Zs s b) := Vb hi fun hg => by rw [V0] at h; have := hg.2.2.1; omega
theorem Qfp (h2 : 2 ≤ s.n) (hi : i < s.primes.length) (hp : ¬ Jo (s.primes.getD i 0) 2 < 0) (h : Ki (s.n - 1) (s.primes.getD i 0) = 0) : false = decide (Zs s b) := Vb hi fun hg => (Qa4 (YW hp) (by omega)).1 h hg.2.2.2.1
theorem Qfo (hi : i < s.primes.length) (h : Jo (Nat.gcd (Qbo s.n (s.base ^ ((s.n - 1) / s.primes.getD i 0) % s.n) 1) s.n) 1 ≠ 0) : false = decide (Zs s b) := Vb hi fun hg => h (by rw [XC]; exact hg.2.2.2.2)
theorem QgK (hnd : ∀ j, j < k → s.primes.getD j 0 ≠ s.primes.getD i 0) (hk : k < i) (h : ¬ Jo ((s.primes.take i).getD k 0) (s.primes.getD i 0) = 0) : ∀ j, j < k + 1 → s.primes.getD j 0 ≠ s.primes.getD i 0 := by
 intro j hj
 rcases Nat.lt_or_ge j k with h' | h'
 ·exact hnd j h'
 ·obtain rfl : j = k := by omega
  rw [QaK hk] at h; simpa using h
theorem Qd5 (h2 : 2 ≤ s.n) (hg : ∀ j, j < i → KR s.n s.base b s.primes j) (hnd : ∀ j, j < i → s.primes.getD j 0 ≠ s.primes.getD i 0) (h8 : (!decide (Yo b (s.primes.getD i 0))) = false) (h9 : ¬ Jo (s.primes.getD i 0) 2 < 0) (h10 : ¬ Ki (s.n - 1) (s.primes.getD i 0) = 0) (h11 : ¬ Jo (Nat.gcd (Qbo s.n (s.base ^ ((s.n - 1) / s.primes.getD i 0) % s.n) 1) s.n) 1 ≠ 0) : ∀ j, j < i + 1 → KR s.n s.base b s.primes j := by
 intro j hj
 rcases Nat.lt_or_ge j i with h' | h'
 ·exact hg j h'
 ·obtain rfl : j = i := by omega
  refine ⟨hnd, by simpa using h8, YW h9, ?_, ?_⟩
  ·exact Decidable.byContradiction fun hc => h10 ((Qa4 (YW h9) (by omega)).2 hc)
  ·have := Decidable.not_not.1 h11
   rwa [XC] at this
theorem Qfq (h1 : ¬ Jo s.n 2 < 0) (h2 : ¬ ((s.primes.length : Nat) : Int) < 1) (h3 : ¬ (32 : Int) < ((s.primes.length : Nat) : Int)) (h4 : ¬ Jo (s.base ^ (s.n - 1) % s.n) 1 ≠ 0) (hg : ∀ j, j < i → KR s.n s.base b s.primes j) (hi : i = s.primes.length) : decide ((0 : Int) < Jo (Zu s.n s.primes i * Zu s.n s.primes i) s.n) = decide (Zs s b) := by
 subst hi
 rw [decide_eq_decide, QbS]
 exact ⟨fun h => ⟨YW h1, by omega, by omega, by have := Decidable.not_not.1 h4; rwa [XC] at this, hg, h⟩, fun h => h.2.2.2.2.2⟩
end
def Zd (s : StepD) : List Nat := [s.n, s.base] ++ s.primes
def Zy (n : Nat) : Prop := 1024 < QL n
instance (n : Nat) : Decidable (Zy n) := by unfold Zy; infer_instance
def QbE (chain : List StepD) : Prop := ∃ i, i < chain.length ∧ ∃ j, j < (Zd (chain.getD i QD)).length ∧ Zy ((Zd (chain.getD i QD)).getD j 0)
def ZX (chain : List StepD) (k : Nat) : List Nat := (chain.take k).map (·.n)
def QgS (chain : List StepD) : Prop := ∀ i, i < chain.length → Zs (chain.getD i QD) (ZX chain i)
instance (chain : List StepD) : Decidable (QbE chain) := by
 unfold QbE
 exact decidable_of_iff (∃ i : Fin chain.length, ∃ j : Fin (Zd (chain.getD i.val QD)).length, Zy ((Zd (chain.getD i.val QD)).getD j.val 0)) ⟨fun ⟨i, j, h⟩ => ⟨i.1, i.2, j.1, j.2, h⟩, fun ⟨i, hi, j, hj, h⟩ => ⟨⟨i, hi⟩, ⟨j, hj⟩, h⟩⟩
instance (chain : List StepD) : Decidable (QgS chain) := by unfold QgS; infer_instance
def ZM (chain : List StepD) : Int := if 64 < chain.length ∨ QbE chain then 4 else if QgS chain then 0 else 8
def Zg (n : Nat) (chain : List StepD) : Prop := ZJ n ∨ (ZM chain = 0 ∧ n ∈ chain.map (·.n))
instance (n : Nat) (chain : List StepD) : Decidable (Zg n chain) := by unfold Zg; infer_instance
theorem QcP {p : Prop} [Decidable p] (h : (!decide p) = true) : ¬ p := by simpa using h
theorem ZW {p : Prop} [Decidable p] (h : (!decide p) = false) : p := by simpa using h
theorem Vd {L : List Nat} {j : Nat} (hj : j < L.length) : L.getD j 0 ∈ L := by
 rw [List.getD, List.getElem?_eq_getElem hj]; exact List.getElem_mem hj
theorem Qjg {chain : List StepD} (h : (64 : Int) < ((chain.length : Nat) : Int)) : 4 = ZM chain := by unfold ZM; rw [if_pos (.inl (by omega))]
theorem Qjf {chain : List StepD} {i j : Nat} (hi : i < chain.length) (hj : j < (Zd (chain.getD i QD)).length) (h : Zy ((Zd (chain.getD i QD)).getD j 0)) : 4 = ZM chain := by unfold ZM; rw [if_pos (.inr ⟨i, hi, j, hj, h⟩)]
theorem QcK {chain : List StepD} {i : Nat} (hi : chain.length ≤ i) (hL : ∀ a, a < i → ∀ x ∈ Zd (chain.getD a QD), ¬ Zy x) : ¬ QbE chain := fun ⟨a, ha, j, hj, h⟩ => hL a (by omega) _ (Vd hj) h
theorem Qje {chain : List StepD} {m : Nat} (h1 : ¬ (64 : Int) < ((chain.length : Nat) : Int)) (hl : ¬ QbE chain) (hm : m < chain.length) (h : ¬ Zs (chain.getD m QD) (ZX chain m)) : 8 = ZM chain := by
 unfold ZM; rw [if_neg (by simp only [not_or]; exact ⟨by omega, hl⟩), if_neg fun hc => h (hc m hm)]
theorem Qjd {chain : List StepD} {m : Nat} (h1 : ¬ (64 : Int) < ((chain.length : Nat) : Int)) (hl : ¬ QbE chain) (hm : chain.length ≤ m) (h : ∀ a, a < m → Zs (chain.getD a QD) (ZX chain a)) : 0 = ZM chain := by
 unfold ZM; rw [if_neg (by simp only [not_or]; exact ⟨by omega, hl⟩), if_pos (show QgS chain from fun a ha => h a (by omega))]
theorem QfA {s : StepD} {j : Nat} (hj : (Zd s).length ≤ j) (h : ∀ b, b < j → ¬ Zy ((Zd s).getD b 0)) : ∀ x ∈ Zd s, ¬ Zy x := fun x hx => by
 obtain ⟨b, hb, e⟩ := List.mem_iff_getElem.1 hx
 have := h b (by omega)
 rwa [List.getD, List.getElem?_eq_getElem hb, Option.getD_some, e] at this
theorem Qd9 {chain : List StepD} {i : Nat} (hL : ∀ a, a < i → ∀ x ∈ Zd (chain.getD a QD), ¬ Zy x) (h : ∀ x ∈ Zd (chain.getD i QD), ¬ Zy x) : ∀ a, a < i + 1 → ∀ x ∈ Zd (chain.getD a QD), ¬ Zy x := by
 intro a ha
 rcases Nat.lt_or_ge a i with h' | h'
 ·exact hL a h'
 ·obtain rfl : a = i := by omega
  exact h
theorem Xu {p : Nat → Prop} {j : Nat} (h : ∀ b, b < j → p b) (hj : p j) : ∀ b, b < j + 1 → p b := by
 intro b hb
 rcases Nat.lt_or_ge b j with h' | h'
 ·exact h b h'
 ·obtain rfl : b = j := by omega
  exact hj
theorem Qed {s : StepD} (h1 : nw s.n ≤ 100000) (h2 : nw s.base ≤ 100000) (h3 : ∀ x ∈ s.primes, nw x ≤ 100000) (j : Nat) : nw ((Zd s).getD j 0) ≤ 100000 := by
 rcases Nat.lt_or_ge j (Zd s).length with hj | hj
 ·have hm := Vd hj
  generalize (Zd s).getD j 0 = y at hm ⊢
  unfold Zd at hm
  rcases List.mem_append.1 hm with h | h
  ·simp at h; rcases h with rfl | rfl <;> assumption
  ·exact h3 _ h
 ·simp [List.getD, List.getElem?_eq_none hj, Yl]
theorem QaV {chain : List StepD} {k : Nat} (h : k < chain.length) : ZX chain k ++ [(chain.getD k QD).n] = ZX chain (k + 1) := by
 unfold ZX
 rw [List.take_succ_eq_append_getElem h, List.map_append]
 simp [List.getD, List.getElem?_eq_getElem h]
theorem QbV {n k : Nat} (h : QL n ≤ 32 * k) : nw n ≤ k := Xi (by rw [UP]; exact Zk.1 h)
theorem XE {n : Nat} (h : ¬ Zy n) : nw n ≤ 32 := by
 unfold Zy at h
 have h2 := QbV (n := n) (k := 32) (by omega)
 exact h2
theorem QgD {chain : List StepD} (h : ¬ QbE chain) {i : Nat} (hi : i < chain.length) : ∀ x ∈ Zd (chain.getD i QD), nw x ≤ 32 := fun x hx => by
 obtain ⟨j, hj, e⟩ := List.mem_iff_getElem.1 hx
 refine XE fun hl => h ⟨i, hi, j, hj, ?_⟩
 rw [List.getD, List.getElem?_eq_getElem hj, e]; exact hl
theorem Qix {n : Nat} {chain : List StepD} (h : ZJ n) : true = decide (Zg n chain) := (dT9 (.inl h)).symm
theorem Qiw {n : Nat} {chain : List StepD} (h : ¬ ZJ n) (h2 : ZM chain ≠ 0) : false = decide (Zg n chain) := (dF9 fun hp => hp.elim h fun h' => h2 h'.1).symm
theorem Qiv {n k : Nat} {chain : List StepD} (hk : k < chain.length) (h2 : ¬ ZM chain ≠ 0) (h : Jo (chain.getD k QD).n n = 0) : true = decide (Zg n chain) := (dT9 (.inr ⟨Decidable.not_not.1 h2, List.mem_map.2 ⟨chain.getD k QD, by rw [List.getD, List.getElem?_eq_getElem hk]; exact List.getElem_mem hk, by simpa using h⟩⟩)).symm
theorem Qiu {n k : Nat} {chain : List StepD} (h : ¬ ZJ n) (hk : chain.length ≤ k) (hall : ∀ j, j < k → (chain.getD j QD).n ≠ n) : false = decide (Zg n chain) := (dF9 fun hp => hp.elim h fun h' => by
 obtain ⟨s, hs, e⟩ := List.mem_map.1 h'.2
 obtain ⟨i, hi, e2⟩ := List.mem_iff_getElem.1 hs
 refine hall i (by omega) ?_
 rw [List.getD, List.getElem?_eq_getElem hi, Option.getD_some, e2, e]).symm
end Go.Proofs.Ytgfomedobfaidaa
end
section
set_option linter.unusedVariables false
set_option linter.unusedSimpArgs false
namespace Go.Proofs.Ytgfomedobfaidaa
open Go.RowKit
theorem Uw {lab : Lab} {w : World} (hv : Ql lab w) {n : Nat} {v0 : Value} (h0 : Qi n lab w v0) :
  Calls Try.prog 155 #[v0] w (fun e w' => ∃ v, e = .returned v ∧ (Is (.bool (decide (ZJ n)))) lab w' v ∧ Below w.heap.size w w') := by
 obtain ⟨L0, h0L, ⟨zU0, z00⟩, hX⟩ := QZ hv
 replace h0 := up z00 h0
 obtain ⟨A1, c2, rfl⟩ := Qi.shape h0
 have z3 := Qi.cap h0
 refine Qu Try.func155 rfl Try.ntmps155 (lB9 rfl) ?_
 refine rsr ?_
 refine Yz 2 [.slice A1 (nw n) c2] h0L rfl rfl fun b6 L4 w5 o7 s8 h9 => ?_
 refine sv (Qa.assign rfl) ?_
 refine nsr ?_
 refine sv (Qb [.slice A1 (nw n) c2] o7 Qn rfl rfl) ?_
 have q10 := up s8 h0
 refine Q7 (V := Zo (Is (n64 (if nw n ≤ 2 then n else 0))) (Is (.bool (decide (nw n ≤ 2))))) QcL h9 rfl (VV h9 q10) fun v11 w12 q13 s14 h15 => ?_
 obtain ⟨v16, v17, rfl, q18, q19⟩ := q13
 have q18 := Is.out q18; subst q18
 have q19 := Is.out q19; subst q19
 refine sv (Qa.move rfl) ?_
 refine sv (Qa.extract rfl rfl) ?_
 refine sv (Qa.extract rfl rfl) ?_
 refine sv (Qa.assign rfl) ?_
 refine sv (Qa.assign rfl) ?_
 refine Seq.next ?_
 refine Run.seq ?_
 refine rsr ?_
 refine sv (Qa.move rfl) ?_
 refine sv (Qa.not rfl) ?_
 refine sv (Qa.move rfl) ?_
 rcases ZN (!(decide (nw n ≤ 2))) with hc1 | hc1
 ·refine Qk rfl rfl hc1 rfl (by decide) ?_
  refine Qk rfl rfl hc1 rfl (by decide) ?_
  refine sv (Qp rfl hc1 rfl) ?_
  refine sv (Qa.move rfl) ?_
  refine Qk rfl rfl rfl rfl (by decide) ?_
  refine Qk rfl rfl rfl rfl (by decide) ?_
  refine sv (Jt rfl rfl) ?_
  refine Seq.next ?_
  refine Qc rfl rfl ?_
  refine rsr ?_
  refine sv (Qa.assign rfl) ?_
  refine Seq.next ?_
  have c20 := s8.trans s14
  obtain ⟨⟨zU, zo⟩, zb⟩ := hX c20 (by decide)
  refine Run.ret (Qr ?_)
  exact Qm Try.results155 rfl ⟨_, rfl, (Jj (by exact Qim hc1) _ _), zb⟩
 refine Qh rfl rfl hc1 ?_
 refine sv (Qa.move rfl) ?_
 refine Qh rfl rfl hc1 ?_
 refine sv (Qa.lss rfl rfl) ?_
 refine sv (Qp rfl hc1 rfl) ?_
 refine sv (Qa.move rfl) ?_
 rcases Decidable.em (((if nw n ≤ 2 then n else 0 : Nat) : Int) < (2 : Int)) with hp2 | hp2
 ·refine Qk rfl rfl (dT9 hp2) rfl (by decide) ?_
  refine Qk rfl rfl (dT9 hp2) rfl (by decide) ?_
  refine sv (Qp rfl (dT9 hp2) rfl) ?_
  refine Seq.next ?_
  refine Qc rfl rfl ?_
  refine rsr ?_
  refine sv (Qa.assign rfl) ?_
  refine Seq.next ?_
  have c21 := s8.trans s14
  obtain ⟨⟨zU, zo⟩, zb⟩ := hX c21 (by decide)
  refine Run.ret (Qr ?_)
  exact Qm Try.results155 rfl ⟨_, rfl, (Jj (by exact Qil hc1 hp2) _ _), zb⟩
 refine Qh rfl rfl (dF9 hp2) ?_
 refine sv (Qa.move rfl) ?_
 refine Qh rfl rfl (dF9 hp2) ?_
 refine sv (Qa.geq rfl rfl) ?_
 refine sv (Qp rfl (dF9 hp2) rfl) ?_
 refine Seq.next ?_
 rcases Decidable.em ((65536 : Int) ≤ ((if nw n ≤ 2 then n else 0 : Nat) : Int)) with hp3 | hp3
 ·refine Qc rfl (dT9 hp3) ?_
  refine rsr ?_
  refine sv (Qa.assign rfl) ?_
  refine Seq.next ?_
  have c22 := s8.trans s14
  obtain ⟨⟨zU, zo⟩, zb⟩ := hX c22 (by decide)
  refine Run.ret (Qr ?_)
  exact Qm Try.results155 rfl ⟨_, rfl, (Jj (by exact Qik hc1 hp3) _ _), zb⟩
 refine Qc rfl (dF9 hp3) ?_
 refine Qg (fun _ _ h => h) ?_
 refine Run.seq ?_
 refine rsr ?_
 refine sv (Qa.assign rfl) ?_
 refine Seq.next ?_
 refine Run.block ?_
 refine Run.loop (fun m' l' w' => ∃ (d : Nat) (lab' : Lab), m' = 300 - d ∧ l' = [(5, n64 d), (3, n64 (if nw n ≤ 2 then n else 0))] ∧ Ql lab' w' ∧ Stp [] L4 w12 lab' w' ∧ (2 ≤ d) ∧ (d ≤ 256) ∧ (∀ e, e < d → 2 ≤ e → n % e ≠ 0)) (300 - 2) (l0 := [(5, n64 2), (3, n64 (if nw n ≤ 2 then n else 0))]) ⟨rfl, rfl, trivial⟩ ⟨2, L4, rfl, rfl, h15, ((Stp.refl _ _).more (by simp)), (by omega), (by omega), (by omega)⟩ ?_
 intro m23 l24 w25 H26
 obtain ⟨d, lab27, hzm, rfl, hv28, s29, h2, hd, hall⟩ := H26
 replace hzm := hzm.symm; subst hzm
 refine Run.seq ?_
 refine rsr ?_
 refine sv (Qa.move rfl) ?_
 refine sv (Qa.move rfl) ?_
 refine sv (ZF rfl rfl (by (have h9 := Nat.mul_le_mul hd hd; omega))) ?_
 refine sv (Qa.move rfl) ?_
 refine sv (Qa.leq rfl rfl) ?_
 refine Seq.next ?_
 rcases Decidable.em (((d * d : Nat) : Int) ≤ ((if nw n ≤ 2 then n else 0 : Nat) : Int)) with hp4 | hp4
 rotate_left
 ·refine Qc rfl (dF9 hp4) ?_
  refine Qv (fun _ _ h => h) ?_
  refine rsr ?_
  refine sv (Qa.assign rfl) ?_
  refine Seq.next ?_
  have c34 := s14.trans s29
  have c35 := s8.trans c34
  obtain ⟨⟨zU, zo⟩, zb⟩ := hX c35 (by decide)
  refine Run.ret ?_
  exact Qm Try.results155 rfl ⟨_, rfl, (Jj (by exact Qii hc1 hp2 hp3 hall hp4) _ _), zb⟩
 refine Qc rfl (dT9 hp4) ?_
 refine Qg (fun _ _ h => h) ?_
 refine Run.seq ?_
 refine Run.block ?_
 refine rsr ?_
 refine sv (Qa.move rfl) ?_
 refine sv (Qa.move rfl) ?_
 refine sv (ZE rfl rfl (by omega)) ?_
 refine sv (Qa.eql rfl rfl) ?_
 refine Seq.next ?_
 rcases Decidable.em ((((if nw n ≤ 2 then n else 0) % d : Nat) : Int) = (0 : Int)) with hp5 | hp5
 ·refine Qc rfl (dT9 hp5) ?_
  refine rsr ?_
  refine sv (Qa.assign rfl) ?_
  refine Seq.next ?_
  have c30 := s14.trans s29
  have c31 := s8.trans c30
  obtain ⟨⟨zU, zo⟩, zb⟩ := hX c31 (by decide)
  refine Run.ret (QQ (Qr (Qr (QQ (Qr ?_)))))
  exact Qm Try.results155 rfl ⟨_, rfl, (Jj (by exact Qij hc1 hp3 h2 hp4 hp5) _ _), zb⟩
 refine Qc rfl (dF9 hp5) ?_
 refine Qg (fun _ _ h => h) ?_
 refine Run.region ?_
 refine sv (Qa.move rfl) ?_
 refine sv (Jn (b := 1) rfl rfl (by omega)) ?_
 refine sv (Qa.assign rfl) ?_
 exact Seq.nil (fun a32 h33 => ⟨_, by omega, _, h33.weaken (QG (l' := [(5, n64 (d + 1)), (3, n64 (if nw n ≤ 2 then n else 0))]) ⟨(congrArg (fun z => some (n64 z)) (show (d + 1 : Nat) = (d + 1) from by rfl)), rfl, trivial⟩), ⟨d + 1, lab27, rfl, rfl, hv28, (s29.more (by decide)), (by omega), (by exact Qbu hc1 hp3 hp4), (by exact Qdd hc1 hall hp5)⟩⟩)
theorem Uv {lab : Lab} {w : World} (hv : Ql lab w) {n : Nat} {v0 : Value} (h0 : Qi n lab w v0) {behind : List Nat} {v1 : Value} (h1 : Jd behind lab w v1) :
  Calls Try.prog 199 #[v0, v1] w (fun e w' => ∃ v, e = .returned v ∧ (Is (.bool (decide (Yo behind n)))) lab w' v ∧ Below w.heap.size w w') := by
 obtain ⟨L0, h0L, ⟨zU0, z00⟩, hX⟩ := QZ hv
 replace h0 := up z00 h0
 obtain ⟨A1, c2, rfl⟩ := Qi.shape h0
 have z3 := Qi.cap h0
 replace h1 := up z00 h1
 obtain ⟨A4, c5, rfl⟩ := Jd.shape h1
 have z6 := Jd.cap h1
 refine Qu Try.func199 rfl Try.ntmps199 (lB9 rfl) ?_
 refine rsr ?_
 refine Yz 3 [.slice A1 (nw n) c2] h0L rfl rfl fun b9 L7 w8 o10 s11 h12 => ?_
 refine sv (Qa.assign rfl) ?_
 refine Seq.next ?_
 refine Run.seq ?_
 refine rsr ?_
 refine sv (Qa.move rfl) ?_
 refine sv (Qa.len Try.underlying38 rfl) ?_
 refine sv (Qa.move rfl) ?_
 refine Seq.next ?_
 refine Run.block ?_
 refine Run.loop (fun m' l' w' => ∃ (k : Nat) (lab' : Lab), m' = List.length behind - k ∧ l' = [(9, i64 ((k : Nat) : Int)), (2, .pointer (some ⟨b9, 0, none⟩)), (7, .slice A4 (List.length behind) c5), (8, i64 ((List.length behind : Nat) : Int))] ∧ Ql lab' w' ∧ Stp [7] L7 w8 lab' w' ∧ (k ≤ List.length behind) ∧ (∀ j, j < k → List.getD behind j 0 ≠ n)) (List.length behind - 0) (l0 := [(9, i64 ((0 : Nat) : Int)), (2, .pointer (some ⟨b9, 0, none⟩)), (7, .slice A4 (List.length behind) c5), (8, i64 ((List.length behind : Nat) : Int))]) ⟨(congrArg (fun z => some (i64 z)) (show (0 : Int) = ((0 : Nat) : Int) from by rfl)), rfl, rfl, rfl, trivial⟩ ⟨0, L7, rfl, rfl, h12, ((Stp.refl _ _).more (by simp)), (by omega), (by omega)⟩ ?_
 intro m13 l14 w15 H16
 obtain ⟨k, lab17, hzm, rfl, hv18, s19, hk, hall⟩ := H16
 replace hzm := hzm.symm; subst hzm
 refine rsr ?_
 refine sv (Qa.lss rfl rfl) ?_
 refine Seq.next ?_
 refine Run.seq ?_
 rcases Decidable.em ((((k : Nat) : Int) : Int) < (((List.length behind : Nat) : Int) : Int)) with hp1 | hp1
 rotate_left
 ·refine Qc rfl (dF9 hp1) ?_
  refine Qv (fun _ _ h => h) ?_
  refine rsr ?_
  have o56 := o10.up s19
  refine sv (Qb [.slice A1 (nw n) c2] o56 Qn rfl rfl) ?_
  have c57 := s11.trans s19
  have q58 := up c57 h0
  refine Q7 (V := Is (.bool (decide (ZJ n)))) QhH hv18 rfl (Uw hv18 q58) fun v59 w60 q61 s62 h63 => ?_
  have q61 := Is.out q61; subst q61
  refine sv (Qa.assign rfl) ?_
  refine Seq.next ?_
  have c64 := c57.trans s62
  obtain ⟨⟨zU, zo⟩, zb⟩ := hX c64 (by decide)
  refine Run.ret ?_
  exact Qm Try.results199 rfl ⟨_, rfl, (Jj (by exact QiO hall (by omega)) _ _), zb⟩
 refine Qc rfl (dT9 hp1) ?_
 refine Qg (fun _ _ h => h) ?_
 refine Run.seq ?_
 refine Run.block ?_
 refine rsr ?_
 have c26 := s11.trans s19
 have q27 := up c26 h1
 obtain ⟨vs20, u21, m22, r23, q24, q25⟩ := Jd.at_ q27 k (by omega)
 obtain ⟨A28, c29, hz⟩ := Qi.shape q25; cases hz
 have z30 := Qi.cap q25
 refine sv (Qs k Try.underlying38 Qn rfl rfl r23 m22 (by omega) (by omega)) ?_
 refine sv (JZ Qn rfl r23 q24) ?_
 refine QM 7 [.slice none 0 0] hv18 Qn rfl fun b33 L31 w32 o34 s35 h36 => ?_
 refine Q2 [.slice A28 (nw (List.getD behind k 0)) c29] h36 o34 Qn rfl rfl rfl (lB9 rfl) rfl rfl fun w37 o38 s39 h40 => ?_
 refine nsr ?_
 refine sv (Qb [.slice A28 (nw (List.getD behind k 0)) c29] o38 Qn rfl rfl) ?_
 have c42 := s35.trans s39
 have c43 := s19.trans c42
 have o41 := o10.up c43
 refine sv (Qb [.slice A1 (nw n) c2] o41 Qn rfl rfl) ?_
 have q44 := up c42 q25
 have c45 := c26.trans c42
 have q46 := up c45 h0
 refine Q7 (V := Is (i64 (Jo (List.getD behind k 0) n))) ZP h40 rfl (J8 h40 q44 q46) fun v47 w48 q49 s50 h51 => ?_
 have q49 := Is.out q49; subst q49
 refine sv (Qa.eql rfl rfl) ?_
 refine Seq.next ?_
 rcases Decidable.em ((Jo (List.getD behind k 0) n : Int) = (0 : Int)) with hp2 | hp2
 ·refine Qc rfl (dT9 hp2) ?_
  refine rsr ?_
  refine sv (Qa.assign rfl) ?_
  refine Seq.next ?_
  have c52 := c45.trans s50
  obtain ⟨⟨zU, zo⟩, zb⟩ := hX c52 (by decide)
  refine Run.ret (QQ (Qr (Qr (QQ (Qr ?_)))))
  exact Qm Try.results199 rfl ⟨_, rfl, (Jj (by exact QiN (by omega) hp2) _ _), zb⟩
 refine Qc rfl (dF9 hp2) ?_
 refine Qg (fun _ _ h => h) ?_
 refine Run.region ?_
 refine sv (Qa.add rfl rfl (by omega)) ?_
 refine sv (Qa.move rfl) ?_
 have c53 := c43.trans s50
 exact Seq.nil (fun a54 h55 => ⟨_, by omega, _, h55.weaken (QG (l' := [(9, i64 (((k + 1) : Nat) : Int)), (2, .pointer (some ⟨b9, 0, none⟩)), (7, .slice A4 (List.length behind) c5), (8, i64 ((List.length behind : Nat) : Int))]) ⟨(congrArg (fun z => some (i64 z)) (show (((k : Nat) : Int) + 1 : Int) = (((k + 1) : Nat) : Int) from by rfl)), rfl, rfl, rfl, trivial⟩), ⟨k + 1, L31, rfl, rfl, h51, (c53.more (by decide)), (by omega), (by exact Qd3 hall hp2)⟩⟩)
theorem QdA {lab : Lab} {w : World} (hv : Ql lab w) {n : Nat} {v0 : Value} (h0 : Qi n lab w v0) {p : Nat} {v1 : Value} (h1 : Qi p lab w v1) (h0n : n ≠ 0) (h2p : 2 ≤ p) (hn : nw n ≤ 900000) (hp : nw p ≤ 900000) :
  Calls Try.prog 200 #[v0, v1] w (fun e w' => ∃ v, e = .returned v ∧ (Qi (Ki n p)) lab w' v ∧ Below w.heap.size w w') := by
 obtain ⟨L0, h0L, ⟨zU0, z00⟩, hX⟩ := QZ hv
 replace h0 := up z00 h0
 obtain ⟨A1, c2, rfl⟩ := Qi.shape h0
 have z3 := Qi.cap h0
 replace h1 := up z00 h1
 obtain ⟨A4, c5, rfl⟩ := Qi.shape h1
 have z6 := Qi.cap h1
 refine Qu Try.func200 rfl Try.ntmps200 (lB9 rfl) ?_
 refine rsr ?_
 refine Yz 3 [.slice A1 (nw n) c2] h0L rfl rfl fun b9 L7 w8 o10 s11 h12 => ?_
 refine Yz 4 [.slice A4 (nw p) c5] h12 rfl rfl fun b15 L13 w14 o16 s17 h18 => ?_
 refine QM 5 [.slice none 0 0] h18 Qn rfl fun b21 L19 w20 o22 s23 h24 => ?_
 refine nsr ?_
 refine Q7 (V := Qi 1) JN h24 rfl (QX h24 (x := 1) (show 1 < 18446744073709551616 from by omega)) fun v25 w26 q27 s28 h29 => ?_
 obtain ⟨A30, c31, rfl⟩ := Qi.shape q27
 have z32 := Qi.cap q27
 refine QM 6 [.slice none 0 0] h29 Qn rfl fun b35 L33 w34 o36 s37 h38 => ?_
 refine Q2 [.slice A30 (nw 1) c31] h38 o36 Qn rfl rfl rfl (lB9 rfl) rfl rfl fun w39 o40 s41 h42 => ?_
 refine Seq.next ?_
 refine Run.seq ?_
 refine Run.block ?_
 have c44 := s37.trans s41
 have c45 := s28.trans c44
 have c46 := s23.trans c45
 have c47 := s17.trans c46
 have o43 := o10.up c47
 have c48 := s11.trans c47
 have q49 := up c48 h0
 have q50 := up c44 q27
 refine Run.loop (fun m' l' w' => ∃ (m : Nat) (o : Nat) (lab' : Lab) (ub3 : Value) (ub6 : Value), m' = m ∧ l' = [(2, .pointer (some ⟨b9, 0, none⟩)), (3, .pointer (some ⟨b15, 0, none⟩)), (4, .pointer (some ⟨b21, 0, none⟩)), (5, .pointer (some ⟨b35, 0, none⟩))] ∧ Ql lab' w' ∧ Stp [3, 6, 7, 8] L33 w39 lab' w' ∧ Own lab' w' 3 b9 60 #[ub3] ∧ Qi m lab' w' (.agg #[ub3]) ∧ Own lab' w' 6 b35 60 #[ub6] ∧ Qi o lab' w' (.agg #[ub6]) ∧ (m ≠ 0) ∧ (o * m = n) ∧ (o * pw m p = pw n p)) (n) (l0 := [(2, .pointer (some ⟨b9, 0, none⟩)), (3, .pointer (some ⟨b15, 0, none⟩)), (4, .pointer (some ⟨b21, 0, none⟩)), (5, .pointer (some ⟨b35, 0, none⟩))]) ⟨rfl, rfl, rfl, rfl, trivial⟩ ⟨n, 1, L33, (.slice A1 (nw n) c2), (.slice A30 (nw 1) c31), rfl, rfl, h42, ((Stp.refl _ _).more (by simp)), o43, q49, o40, q50, (by omega), (by omega), (by omega)⟩ ?_
 intro m51 l52 w53 H54
 obtain ⟨m, o, lab55, u58, u59, hzm, rfl, hv56, s57, o60, q62, o61, q63, hm, hmo, hpw⟩ := H54
 replace hzm := hzm.symm; subst hzm
 obtain ⟨A64, c65, hz⟩ := Qi.shape q62; cases hz
 obtain ⟨A66, c67, hz⟩ := Qi.shape q63; cases hz
 have hl := Qiy hmo hm h0n
 have hl1 := QW hl.1
 have hl2 := QW hl.2
 refine Run.block ?_
 refine rsr ?_
 refine sv (Qb [.slice A64 (nw m) c65] o60 Qn rfl rfl) ?_
 have c69 := c46.trans s57
 have o68 := o16.up c69
 refine sv (Qb [.slice A4 (nw p) c5] o68 Qn rfl rfl) ?_
 have c70 := c48.trans s57
 have q71 := up c70 h1
 refine Q7 (V := QdQ (Qi (m / p)) (Qi (if p = 0 then 0 else m % p)) (Is (i64 (if p = 0 then 5 else 0)))) QaS hv56 rfl (UW hv56 q62 q71 (show nw m ≤ 999999 from by omega) (show nw p ≤ 1000000 from by omega)) fun v72 w73 q74 s75 h76 => ?_
 obtain ⟨v77, v78, v79, rfl, q80, q81, q82⟩ := q74
 obtain ⟨A83, c84, rfl⟩ := Qi.shape q80
 have z85 := Qi.cap q80
 obtain ⟨A86, c87, rfl⟩ := Qi.shape q81
 have z88 := Qi.cap q81
 have q82 := Is.out q82; subst q82
 refine sv (Qa.move rfl) ?_
 refine sv (Qa.extract rfl rfl) ?_
 refine sv (Qa.extract rfl rfl) ?_
 refine sv (Qa.extract rfl rfl) ?_
 refine QM 7 [.slice none 0 0] h76 Qn rfl fun b91 L89 w90 o92 s93 h94 => ?_
 refine QM 8 [.slice none 0 0] h94 Qn rfl fun b97 L95 w96 o98 s99 h100 => ?_
 have o101 := o92.up s99
 refine Q2 [.slice A83 (nw (m / p)) c84] h100 o101 Qn rfl rfl rfl (lB9 rfl) rfl rfl fun w102 o103 s104 h105 => ?_
 have o106 := o98.up s104
 refine Q2 [.slice A86 (nw (if p = 0 then 0 else m % p)) c87] h105 o106 Qn rfl rfl rfl (lB9 rfl) rfl rfl fun w107 o108 s109 h110 => ?_
 refine sv (Qa.assign rfl) ?_
 refine Seq.next ?_
 refine Run.seq ?_
 refine rsr ?_
 refine sv (Qb [.slice A86 (nw (if p = 0 then 0 else m % p)) c87] o108 Qn rfl rfl) ?_
 have c111 := s104.trans s109
 have c112 := s99.trans c111
 have c113 := s93.trans c112
 have q114 := up c113 q81
 refine Q7 (V := Is (.bool (decide ((if p = 0 then 0 else m % p) = 0)))) X1 h110 rfl (Zb h110 q114) fun v115 w116 q117 s118 h119 => ?_
 have q117 := Is.out q117; subst q117
 refine sv (Qa.not rfl) ?_
 refine Seq.next ?_
 rcases ZN (!(decide ((if p = 0 then 0 else m % p) = 0))) with hc1 | hc1
 ·refine Qc rfl hc1 ?_
  refine Qv (fun _ _ h => h) ?_
  refine Run.seq ?_
  refine Run.seq ?_
  refine Run.open 4 (Φ := [.ex (.agg #[.slice A66 (nw o) c67]), .v (Qi 1), .v (Is (i64 (Jo o 1))), .ex (.bool (decide ((Jo o 1 : Int) = (0 : Int))))]) [(3, 27)] Je (by kernel_rfl) rfl h119 ⟨?_, ?_, ?_, ?_, trivial⟩ (fun L151 w152 h153 s154 => ?_)
  ·refine oP [] rfl rfl fun L120 w121 h122 s123 => ?_
   have c125 := s118.trans s123
   have c126 := c113.trans c125
   have c127 := s75.trans c126
   have o124 := o61.up c127
   exact ⟨_, Qb [.slice A66 (nw o) c67] o124 Qn rfl rfl, rfl⟩
  ·refine oC [] rfl rfl JN fun L128 w129 h130 s131 => ?_
   exact ⟨_, rfl, (QX h130 (x := 1) (show 1 < 18446744073709551616 from by omega))⟩
  ·refine oC [(0, 24), (1, 25)] rfl rfl ZP fun L132 w133 h134 s135 v136 q137 => ?_
   obtain ⟨A138, c139, rfl⟩ := Qi.shape q137
   have z140 := Qi.cap q137
   have c141 := s118.trans s135
   have c142 := c113.trans c141
   have c143 := s75.trans c142
   have q144 := up c143 q63
   exact ⟨_, rfl, (J8 h134 q144 q137)⟩
  ·refine oP [(2, 26)] rfl rfl fun L145 w146 h147 s148 v149 q150 => ?_
   have q150 := Is.out q150; subst q150
   exact ⟨_, Qa.eql rfl rfl, rfl⟩
  refine Seq.next ?_
  rcases Decidable.em ((Jo o 1 : Int) = (0 : Int)) with hp2 | hp2
  ·refine Qc rfl (dT9 hp2) ?_
   refine rsr ?_
   refine sv (Qa.build [] [(0, 1)] [.slice none 0 0] Try.underlying60 Qn (by kernel_rfl) rfl (by kernel_rfl)) ?_
   have c156 := s118.trans s154
   have c157 := c113.trans c156
   have c158 := s75.trans c157
   have c159 := s57.trans c158
   have c160 := c45.trans c159
   have o155 := o22.up c160
   refine Q2 [.slice none 0 0] h153 o155 Qn rfl rfl rfl (lB9 rfl) rfl rfl fun w161 o162 s163 h164 => ?_
   refine Seq.next ?_
   have c165 := c158.trans s163
   have c166 := c70.trans c165
   obtain ⟨⟨zU, zo⟩, zb⟩ := hX c166 (by decide)
   have q167 := up s163 (Qi.zero L151 w152)
   refine Run.ret (Qr ?_)
   exact Qm Try.results200 ⟨_, rfl, Q6 [.slice none 0 0] o162 Qn rfl⟩ ⟨_, rfl, (Q1 (by exact Qli h2p hm hpw hc1 hp2) (up zo q167)), zb⟩
  refine Qc rfl (dF9 hp2) ?_
  refine Qg (fun _ _ h => h) ?_
  refine rsr ?_
  have c169 := s118.trans s154
  have c170 := c113.trans c169
  have c171 := s75.trans c170
  have o168 := o61.up c171
  refine sv (Qb [.slice A66 (nw o) c67] o168 Qn rfl rfl) ?_
  have c173 := s57.trans c171
  have c174 := c45.trans c173
  have o172 := o22.up c174
  refine Q2 [.slice A66 (nw o) c67] h153 o172 Qn rfl rfl rfl (lB9 rfl) rfl rfl fun w175 o176 s177 h178 => ?_
  refine Seq.next ?_
  have c179 := c171.trans s177
  have c180 := c70.trans c179
  obtain ⟨⟨zU, zo⟩, zb⟩ := hX c180 (by decide)
  have q181 := up c179 q63
  refine Run.ret ?_
  exact Qm Try.results200 ⟨_, rfl, Q6 [.slice A66 (nw o) c67] o176 Qn rfl⟩ ⟨_, rfl, (Q1 (by exact Qlh h2p hm hpw hc1 hp2) (up zo q181)), zb⟩
 refine Qc rfl hc1 ?_
 refine Qg (fun _ _ h => h) ?_
 refine Zw [⟨20, .ex (.agg #[.slice A66 (nw o) c67]), [], none⟩, ⟨21, .ex (.agg #[.slice A4 (nw p) c5]), [], none⟩, ⟨22, .v (Qi (o * p)), [], none⟩, ⟨23, .ex (.agg #[.slice A83 (nw (m / p)) c84]), [], none⟩, ⟨5, .v (QhT b35 6 60 (Qi (o * p))), [6], none⟩] [3, 4] [[], [], [], [6], []] Je (by kernel_rfl) (by kernel_rfl) rfl h119 ⟨QK, QK, J5, QK, Xd rfl, trivial⟩ ⟨?_, ?_, ?_, ?_, ?_, trivial⟩ (fun L232 w233 h234 s235 v236 q237 => ?_)
 ·refine rP [] rfl rfl rfl rfl fun L182 w183 h184 s185 => ?_
  replace s185 : Stp [] _ _ _ _ := s185
  have c187 := s118.trans s185
  have c188 := c113.trans c187
  have c189 := s75.trans c188
  have o186 := o61.up c189
  exact ⟨_, Qb [.slice A66 (nw o) c67] o186 Qn rfl rfl, rfl⟩
 ·refine rP [] rfl rfl rfl rfl fun L190 w191 h192 s193 => ?_
  replace s193 : Stp [] _ _ _ _ := s193
  have c195 := s118.trans s193
  have c196 := c113.trans c195
  have c197 := s75.trans c196
  have o194 := o68.up c197
  exact ⟨_, Qb [.slice A4 (nw p) c5] o194 Qn rfl rfl, rfl⟩
 ·refine rC [0, 1] rfl rfl rfl rfl VD fun L198 w199 h200 s201 => ?_
  replace s201 : Stp [] _ _ _ _ := s201
  have c202 := s118.trans s201
  have c203 := c113.trans c202
  have c204 := s75.trans c203
  have q205 := up c204 q63
  have q206 := up c204 q71
  exact ⟨_, rfl, (Xj h200 q205 q206 (show nw o ≤ 1000000 from by omega) (show nw p ≤ 1000000 from by omega))⟩
 ·refine rP [] rfl rfl rfl rfl fun L207 w208 h209 s210 => ?_
  replace s210 : Stp [6] _ _ _ _ := s210
  have c212 := s118.trans s210
  have c213 := s109.trans c212
  have o211 := o103.up c213
  exact ⟨_, Qb [.slice A83 (nw (m / p)) c84] o211 Qn rfl rfl, rfl⟩
 ·refine rS [2] rfl rfl rfl fun L214 w215 h216 s217 v218 q219 => ?_
  replace s217 : Stp [] _ _ _ _ := s217
  obtain ⟨A220, c221, rfl⟩ := Qi.shape q219
  have z222 := Qi.cap q219
  have c224 := s118.trans s217
  have c225 := c113.trans c224
  have c226 := s75.trans c225
  have o223 := o61.up c226
  refine Z2 (v := (.agg #[.slice A220 (nw (o * p)) c221])) [.slice A220 (nw (o * p)) c221] h216 o223 Qn rfl rfl rfl (lB9 rfl) rfl rfl fun w227 s230 o231 => ?_
  exact ⟨(.agg #[.slice A220 (nw (o * p)) c221]), rfl, o231, (up s230 q219)⟩
 replace s235 : Stp [6] _ _ _ _ := s235
 obtain ⟨u239, rfl, o240, q241⟩ := q237
 obtain ⟨A242, c243, rfl⟩ := Qi.shape q241
 have z244 := Qi.cap q241
 replace o240 : Own L232 w233 6 b35 60 #[.slice A242 (nw (o * p)) c243] := o240
 have c246 := s118.trans s235
 have c247 := c113.trans c246
 have c248 := s75.trans c247
 have o245 := o60.up c248
 refine Q2 [.slice A83 (nw (m / p)) c84] h234 o245 Qn rfl rfl rfl (lB9 rfl) rfl rfl fun w249 o250 s251 h252 => ?_
 have c253 := c247.trans s251
 have q254 := up c253 q80
 have o255 := o240.up s251
 have q256 := up s251 q241
 have c257 := c248.trans s251
 have c258 := s57.trans c257
 exact Seq.nil (fun a259 h260 => ⟨_, by exact Nat.div_lt_self (by omega) (by omega), _, h260.weaken (QG (l' := [(2, .pointer (some ⟨b9, 0, none⟩)), (3, .pointer (some ⟨b15, 0, none⟩)), (4, .pointer (some ⟨b21, 0, none⟩)), (5, .pointer (some ⟨b35, 0, none⟩))]) ⟨rfl, rfl, rfl, rfl, trivial⟩), ⟨m / p, o * p, L232, (.slice A83 (nw (m / p)) c84), (.slice A242 (nw (o * p)) c243), rfl, rfl, h252, (c258.more (by decide)), o250, (Q1 (show (m / p) = (m / p) from by rfl) q254), o255, (Q1 (show (o * p) = (o * p) from by rfl) q256), (by exact QcJ hm (QeB hc1 h2p)), (by exact QjU hmo (QeB hc1 h2p)), (by exact QjT h2p hm hpw (QeB hc1 h2p))⟩⟩)
end Go.Proofs.Ytgfomedobfaidaa
end
section
set_option linter.unusedVariables false
set_option linter.unusedSimpArgs false
namespace Go.Proofs.Ytgfomedobfaidaa
open Go.RowKit
theorem Kk {lab : Lab} {w : World} (hv : Ql lab w) {a : Nat} {v0 : Value} (h0 : Qi a lab w v0) {b : Nat} {v1 : Value} (h1 : Qi b lab w v1) (ha : nw a ≤ 1000000) (hb : nw b ≤ 1000000) (hab : b ≤ a) :
  Calls Try.prog 111 #[v0, v1] w (fun e w' => ∃ v, e = .returned v ∧ (Zo (Qi (a - b)) (Is (.bool (true)))) lab w' v ∧ Below w.heap.size w w') := by
 have h := Qb8 hv h0 h1 ha hb
 rw [if_neg (by omega), dT9 hab] at h
 exact h
theorem QaA {lab : Lab} {w : World} (hv : Ql lab w) {a : Nat} {v0 : Value} (h0 : Qi a lab w v0) {b : Nat} {v1 : Value} (h1 : Qi b lab w v1) (ha : nw a ≤ 999999) (hb : nw b ≤ 1000000) (hb0 : b ≠ 0) :
  Calls Try.prog 112 #[v0, v1] w (fun e w' => ∃ v, e = .returned v ∧ (QdQ (Qi (a / b)) (Qi (a % b)) (Is (i64 0))) lab w' v ∧ Below w.heap.size w w') := by
 have h := UW hv h0 h1 ha hb
 rw [if_neg hb0, if_neg hb0] at h
 exact h
end Go.Proofs.Ytgfomedobfaidaa
end
section
set_option linter.unusedVariables false
set_option linter.unusedSimpArgs false
namespace Go.Proofs.Ytgfomedobfaidaa
open Go.RowKit
theorem QdB {lab : Lab} {w : World} (hv : Ql lab w) {s : StepD} {v0 : Value} (h0 : Z0 s lab w v0) {behind : List Nat} {v1 : Value} (h1 : Jd behind lab w v1) (hn : nw s.n ≤ 32) (hb : nw s.base ≤ 32) (hps : ∀ x ∈ s.primes, nw x ≤ 32) :
  Calls Try.prog 183 #[v0, v1] w (fun e w' => ∃ v, e = .returned v ∧ (Is (.bool (decide (Zs s behind)))) lab w' v ∧ Below w.heap.size w w') := by
 obtain ⟨L0, h0L, ⟨zU0, z00⟩, hX⟩ := QZ hv
 replace h0 := up z00 h0
 obtain ⟨A1, c2, A4, c5, A7, c8, rfl, q3, q6, q9⟩ := Z0.open h0
 have z10 := Qi.cap q3
 have z11 := Qi.cap q6
 have z12 := Jd.cap q9
 replace h1 := up z00 h1
 obtain ⟨A13, c14, rfl⟩ := Jd.shape h1
 have z15 := Jd.cap h1
 have n1 : nw 1 = 1 := Qc1
 refine Qu Try.func183 rfl Try.ntmps183 (lB9 rfl) ?_
 refine rsr ?_
 refine Yz 3 [.slice A1 (nw s.n) c2, .slice A4 (nw s.base) c5, .slice A7 (List.length s.primes) c8] h0L rfl rfl fun b18 L16 w17 o19 s20 h21 => ?_
 refine sv (Qa.assign rfl) ?_
 refine nsr ?_
 refine Q7 (V := Qi 1) JN h21 rfl (QX h21 (x := 1) (show 1 < 18446744073709551616 from by omega)) fun v22 w23 q24 s25 h26 => ?_
 obtain ⟨A27, c28, rfl⟩ := Qi.shape q24
 have z29 := Qi.cap q24
 refine QM 6 [.slice none 0 0] h26 Qn rfl fun b32 L30 w31 o33 s34 h35 => ?_
 refine Q2 [.slice A27 (nw 1) c28] h35 o33 Qn rfl rfl rfl (lB9 rfl) rfl rfl fun w36 o37 s38 h39 => ?_
 refine Seq.next ?_
 refine Run.seq ?_
 refine Run.seq ?_
 rcases Decidable.em ((Jo s.n 2 : Int) < (0 : Int)) with hp1 | hp1
 ·refine Run.open 17 (Φ := [.ex (.pointer (some ⟨b18, 0, none⟩)), .ex (.agg #[.slice A1 (nw s.n) c2]), .v (Qi 2), .v (Is (i64 (Jo s.n 2))), .ex (.bool (decide ((Jo s.n 2 : Int) < (0 : Int)))), .ex (.bool (decide ((Jo s.n 2 : Int) < (0 : Int)))), .ex undef, .ex undef, .ex undef, .ex undef, .ex (.bool true), .ex (.bool true), .ex undef, .ex undef, .ex undef, .ex undef, .ex (.bool true)]) [(16, 36)] Je (by kernel_rfl) rfl h39 ⟨(oX [] rfl rfl rfl fun _ _ => Qd 0 Try.underlying77 rfl Qn rfl rfl), ?_, ?_, ?_, ?_, (oX [(4, 24)] rfl rfl rfl fun _ _ => Qa.move rfl), (Ji rfl rfl rfl rfl (dT9 hp1) rfl rfl), (Ji rfl rfl rfl rfl (dT9 hp1) rfl rfl), (Ji rfl rfl rfl rfl (dT9 hp1) rfl rfl), (Ji rfl rfl rfl rfl (dT9 hp1) rfl rfl), (oX [(5, 25)] rfl rfl rfl fun _ _ => Qp rfl (dT9 hp1) rfl), (oX [(10, 30)] rfl rfl rfl fun _ _ => Qa.move rfl), (Ji rfl rfl rfl rfl rfl rfl rfl), (Ji rfl rfl rfl rfl rfl rfl rfl), (Ji rfl rfl rfl rfl rfl rfl rfl), (Ji rfl rfl rfl rfl rfl rfl rfl), (oX [(11, 31)] rfl rfl rfl fun _ _ => Jt rfl rfl), trivial⟩ (fun L132 w133 h134 s135 => ?_)
  ·refine oP [(0, 20)] rfl rfl fun L84 w85 h86 s87 => ?_
   have c89 := s38.trans s87
   have c90 := s34.trans c89
   have c91 := s25.trans c90
   have o88 := o19.up c91
   exact ⟨_, Qb [.slice A1 (nw s.n) c2] o88 Qn rfl rfl, rfl⟩
  ·refine oC [] rfl rfl JN fun L92 w93 h94 s95 => ?_
   exact ⟨_, rfl, (QX h94 (x := 2) (show 2 < 18446744073709551616 from by omega))⟩
  ·refine oC [(1, 21), (2, 22)] rfl rfl ZP fun L96 w97 h98 s99 v100 q101 => ?_
   obtain ⟨A102, c103, rfl⟩ := Qi.shape q101
   have z104 := Qi.cap q101
   have c105 := s38.trans s99
   have c106 := s34.trans c105
   have c107 := s25.trans c106
   have c108 := s20.trans c107
   have q109 := up c108 q3
   exact ⟨_, rfl, (J8 h98 q109 q101)⟩
  ·refine oP [(3, 23)] rfl rfl fun L110 w111 h112 s113 v114 q115 => ?_
   have q115 := Is.out q115; subst q115
   exact ⟨_, Qa.lss rfl rfl, rfl⟩
  refine Seq.next ?_
  refine Qc rfl rfl ?_
  refine rsr ?_
  refine sv (Qa.assign rfl) ?_
  refine Seq.next ?_
  have c136 := s38.trans s135
  have c137 := s34.trans c136
  have c138 := s25.trans c137
  have c139 := s20.trans c138
  obtain ⟨⟨zU, zo⟩, zb⟩ := hX c139 (by decide)
  refine Run.ret (Qr ?_)
  exact Qm Try.results183 rfl ⟨_, rfl, (Jj (by exact QgR hp1) _ _), zb⟩
 rcases Decidable.em ((((List.length s.primes : Nat) : Int) : Int) < (1 : Int)) with hp2 | hp2
 ·refine Run.open 17 (Φ := [.ex (.pointer (some ⟨b18, 0, none⟩)), .ex (.agg #[.slice A1 (nw s.n) c2]), .v (Qi 2), .v (Is (i64 (Jo s.n 2))), .ex (.bool (decide ((Jo s.n 2 : Int) < (0 : Int)))), .ex (.bool (decide ((Jo s.n 2 : Int) < (0 : Int)))), .ex (.pointer (some ⟨b18, 2, none⟩)), .ex (.slice A7 (List.length s.primes) c8), .ex (i64 ((List.length s.primes : Nat) : Int)), .ex (.bool (decide ((((List.length s.primes : Nat) : Int) : Int) < (1 : Int)))), .ex (.bool (decide ((((List.length s.primes : Nat) : Int) : Int) < (1 : Int)))), .ex (.bool (decide ((((List.length s.primes : Nat) : Int) : Int) < (1 : Int)))), .ex undef, .ex undef, .ex undef, .ex undef, .ex (.bool true)]) [(16, 36)] Je (by kernel_rfl) rfl h39 ⟨(oX [] rfl rfl rfl fun _ _ => Qd 0 Try.underlying77 rfl Qn rfl rfl), ?_, ?_, ?_, ?_, (oX [(4, 24)] rfl rfl rfl fun _ _ => Qa.move rfl), ?_, ?_, ?_, ?_, (oX [(5, 25), (9, 29)] rfl rfl rfl fun _ _ => Qp rfl (dF9 hp1) rfl), (oX [(10, 30)] rfl rfl rfl fun _ _ => Qa.move rfl), (Ji rfl rfl rfl rfl (dT9 hp2) rfl rfl), (Ji rfl rfl rfl rfl (dT9 hp2) rfl rfl), (Ji rfl rfl rfl rfl (dT9 hp2) rfl rfl), (Ji rfl rfl rfl rfl (dT9 hp2) rfl rfl), (oX [(11, 31)] rfl rfl rfl fun _ _ => Qp rfl (dT9 hp2) rfl), trivial⟩ (fun L280 w281 h282 s283 => ?_)
  ·refine oP [(0, 20)] rfl rfl fun L212 w213 h214 s215 => ?_
   have c217 := s38.trans s215
   have c218 := s34.trans c217
   have c219 := s25.trans c218
   have o216 := o19.up c219
   exact ⟨_, Qb [.slice A1 (nw s.n) c2] o216 Qn rfl rfl, rfl⟩
  ·refine oC [] rfl rfl JN fun L220 w221 h222 s223 => ?_
   exact ⟨_, rfl, (QX h222 (x := 2) (show 2 < 18446744073709551616 from by omega))⟩
  ·refine oC [(1, 21), (2, 22)] rfl rfl ZP fun L224 w225 h226 s227 v228 q229 => ?_
   obtain ⟨A230, c231, rfl⟩ := Qi.shape q229
   have z232 := Qi.cap q229
   have c233 := s38.trans s227
   have c234 := s34.trans c233
   have c235 := s25.trans c234
   have c236 := s20.trans c235
   have q237 := up c236 q3
   exact ⟨_, rfl, (J8 h226 q237 q229)⟩
  ·refine oP [(3, 23)] rfl rfl fun L238 w239 h240 s241 v242 q243 => ?_
   have q243 := Is.out q243; subst q243
   exact ⟨_, Qa.lss rfl rfl, rfl⟩
  ·refine Q9 [] rfl rfl rfl rfl (dF9 hp1) rfl fun L248 w249 h250 s251 => ?_
   exact ⟨_, Qd 2 Try.underlying77 rfl QdN rfl rfl, rfl⟩
  ·refine Q9 [(6, 26)] rfl rfl rfl rfl (dF9 hp1) rfl fun L252 w253 h254 s255 => ?_
   have c257 := s38.trans s255
   have c258 := s34.trans c257
   have c259 := s25.trans c258
   have o256 := o19.up c259
   exact ⟨_, Qf o256 QdN rfl rfl, rfl⟩
  ·refine Q9 [(7, 27)] rfl rfl rfl rfl (dF9 hp1) rfl fun L260 w261 h262 s263 => ?_
   exact ⟨_, Qa.len Try.underlying38 rfl, rfl⟩
  ·refine Q9 [(8, 28)] rfl rfl rfl rfl (dF9 hp1) rfl fun L264 w265 h266 s267 => ?_
   exact ⟨_, Qa.lss rfl rfl, rfl⟩
  refine Seq.next ?_
  refine Qc rfl rfl ?_
  refine rsr ?_
  refine sv (Qa.assign rfl) ?_
  refine Seq.next ?_
  have c284 := s38.trans s283
  have c285 := s34.trans c284
  have c286 := s25.trans c285
  have c287 := s20.trans c286
  obtain ⟨⟨zU, zo⟩, zb⟩ := hX c287 (by decide)
  refine Run.ret (Qr ?_)
  exact Qm Try.results183 rfl ⟨_, rfl, (Jj (by exact QgQ hp2) _ _), zb⟩
 refine Run.open 17 (Φ := [.ex (.pointer (some ⟨b18, 0, none⟩)), .ex (.agg #[.slice A1 (nw s.n) c2]), .v (Qi 2), .v (Is (i64 (Jo s.n 2))), .ex (.bool (decide ((Jo s.n 2 : Int) < (0 : Int)))), .ex (.bool (decide ((Jo s.n 2 : Int) < (0 : Int)))), .ex (.pointer (some ⟨b18, 2, none⟩)), .ex (.slice A7 (List.length s.primes) c8), .ex (i64 ((List.length s.primes : Nat) : Int)), .ex (.bool (decide ((((List.length s.primes : Nat) : Int) : Int) < (1 : Int)))), .ex (.bool (decide ((((List.length s.primes : Nat) : Int) : Int) < (1 : Int)))), .ex (.bool (decide ((((List.length s.primes : Nat) : Int) : Int) < (1 : Int)))), .ex (.pointer (some ⟨b18, 2, none⟩)), .ex (.slice A7 (List.length s.primes) c8), .ex (i64 ((List.length s.primes : Nat) : Int)), .ex (.bool (decide ((32 : Int) < (((List.length s.primes : Nat) : Int) : Int)))), .ex (.bool (decide ((32 : Int) < (((List.length s.primes : Nat) : Int) : Int))))]) [(16, 36)] Je (by kernel_rfl) rfl h39 ⟨(oX [] rfl rfl rfl fun _ _ => Qd 0 Try.underlying77 rfl Qn rfl rfl), ?_, ?_, ?_, ?_, (oX [(4, 24)] rfl rfl rfl fun _ _ => Qa.move rfl), ?_, ?_, ?_, ?_, (oX [(5, 25), (9, 29)] rfl rfl rfl fun _ _ => Qp rfl (dF9 hp1) rfl), (oX [(10, 30)] rfl rfl rfl fun _ _ => Qa.move rfl), ?_, ?_, ?_, ?_, (oX [(11, 31), (15, 35)] rfl rfl rfl fun _ _ => Qp rfl (dF9 hp2) rfl), trivial⟩ (fun L380 w381 h382 s383 => ?_)
 ·refine oP [(0, 20)] rfl rfl fun L292 w293 h294 s295 => ?_
  have c297 := s38.trans s295
  have c298 := s34.trans c297
  have c299 := s25.trans c298
  have o296 := o19.up c299
  exact ⟨_, Qb [.slice A1 (nw s.n) c2] o296 Qn rfl rfl, rfl⟩
 ·refine oC [] rfl rfl JN fun L300 w301 h302 s303 => ?_
  exact ⟨_, rfl, (QX h302 (x := 2) (show 2 < 18446744073709551616 from by omega))⟩
 ·refine oC [(1, 21), (2, 22)] rfl rfl ZP fun L304 w305 h306 s307 v308 q309 => ?_
  obtain ⟨A310, c311, rfl⟩ := Qi.shape q309
  have z312 := Qi.cap q309
  have c313 := s38.trans s307
  have c314 := s34.trans c313
  have c315 := s25.trans c314
  have c316 := s20.trans c315
  have q317 := up c316 q3
  exact ⟨_, rfl, (J8 h306 q317 q309)⟩
 ·refine oP [(3, 23)] rfl rfl fun L318 w319 h320 s321 v322 q323 => ?_
  have q323 := Is.out q323; subst q323
  exact ⟨_, Qa.lss rfl rfl, rfl⟩
 ·refine Q9 [] rfl rfl rfl rfl (dF9 hp1) rfl fun L328 w329 h330 s331 => ?_
  exact ⟨_, Qd 2 Try.underlying77 rfl QdN rfl rfl, rfl⟩
 ·refine Q9 [(6, 26)] rfl rfl rfl rfl (dF9 hp1) rfl fun L332 w333 h334 s335 => ?_
  have c337 := s38.trans s335
  have c338 := s34.trans c337
  have c339 := s25.trans c338
  have o336 := o19.up c339
  exact ⟨_, Qf o336 QdN rfl rfl, rfl⟩
 ·refine Q9 [(7, 27)] rfl rfl rfl rfl (dF9 hp1) rfl fun L340 w341 h342 s343 => ?_
  exact ⟨_, Qa.len Try.underlying38 rfl, rfl⟩
 ·refine Q9 [(8, 28)] rfl rfl rfl rfl (dF9 hp1) rfl fun L344 w345 h346 s347 => ?_
  exact ⟨_, Qa.lss rfl rfl, rfl⟩
 ·refine Q9 [] rfl rfl rfl rfl (dF9 hp2) rfl fun L356 w357 h358 s359 => ?_
  exact ⟨_, Qd 2 Try.underlying77 rfl QdN rfl rfl, rfl⟩
 ·refine Q9 [(12, 32)] rfl rfl rfl rfl (dF9 hp2) rfl fun L360 w361 h362 s363 => ?_
  have c365 := s38.trans s363
  have c366 := s34.trans c365
  have c367 := s25.trans c366
  have o364 := o19.up c367
  exact ⟨_, Qf o364 QdN rfl rfl, rfl⟩
 ·refine Q9 [(13, 33)] rfl rfl rfl rfl (dF9 hp2) rfl fun L368 w369 h370 s371 => ?_
  exact ⟨_, Qa.len Try.underlying38 rfl, rfl⟩
 ·refine Q9 [(14, 34)] rfl rfl rfl rfl (dF9 hp2) rfl fun L372 w373 h374 s375 => ?_
  exact ⟨_, Qa.gtr rfl rfl, rfl⟩
 refine Seq.next ?_
 rcases Decidable.em ((32 : Int) < (((List.length s.primes : Nat) : Int) : Int)) with hp3 | hp3
 ·refine Qc rfl (dT9 hp3) ?_
  refine rsr ?_
  refine sv (Qa.assign rfl) ?_
  refine Seq.next ?_
  have c384 := s38.trans s383
  have c385 := s34.trans c384
  have c386 := s25.trans c385
  have c387 := s20.trans c386
  obtain ⟨⟨zU, zo⟩, zb⟩ := hX c387 (by decide)
  refine Run.ret (Qr ?_)
  exact Qm Try.results183 rfl ⟨_, rfl, (Jj (by exact QgP hp3) _ _), zb⟩
 refine Qc rfl (dF9 hp3) ?_
 refine Qg (fun _ _ h => h) ?_
 refine rsr ?_
 refine sv (Qd 0 Try.underlying77 rfl Qn rfl rfl) ?_
 have c389 := s38.trans s383
 have c390 := s34.trans c389
 have c391 := s25.trans c390
 have o388 := o19.up c391
 refine sv (Qb [.slice A1 (nw s.n) c2] o388 Qn rfl rfl) ?_
 have o392 := o37.up s383
 refine sv (Qb [.slice A27 (nw 1) c28] o392 Qn rfl rfl) ?_
 have c393 := s20.trans c391
 have q394 := up c393 q3
 have q395 := up c390 q24
 refine Q7 (V := Zo (Qi (s.n - 1)) (Is (.bool true))) QaT h382 rfl (Kk h382 q394 q395 (show nw s.n ≤ 1000000 from by omega) (show nw 1 ≤ 1000000 from by omega) (show 1 ≤ s.n from by (have h9 := YW hp1; have h8 := QW (Nat.sub_le s.n 1); omega))) fun v396 w397 q398 s399 h400 => ?_
 obtain ⟨v401, v402, rfl, q403, q404⟩ := q398
 obtain ⟨A405, c406, rfl⟩ := Qi.shape q403
 have z407 := Qi.cap q403
 have q404 := Is.out q404; subst q404
 refine sv (Qa.move rfl) ?_
 refine sv (Qa.extract rfl rfl) ?_
 refine sv (Qa.extract rfl rfl) ?_
 refine QM 7 [.slice none 0 0] h400 Qn rfl fun b410 L408 w409 o411 s412 h413 => ?_
 refine Q2 [.slice A405 (nw (s.n - 1)) c406] h413 o411 Qn rfl rfl rfl (lB9 rfl) rfl rfl fun w414 o415 s416 h417 => ?_
 refine sv (Qa.assign rfl) ?_
 refine nsr ?_
 refine sv (Qd 0 Try.underlying77 rfl Qn rfl rfl) ?_
 have c419 := s412.trans s416
 have c420 := s399.trans c419
 have o418 := o388.up c420
 refine sv (Qb [.slice A1 (nw s.n) c2] o418 Qn rfl rfl) ?_
 have q421 := up c420 q394
 refine Q7 (V := Zo (JO s.n) (Is (i64 0))) QfJ h417 rfl (QbA h417 q421 (show 1 < s.n from by (have h9 := YW hp1; have h8 := QW (Nat.sub_le s.n 1); omega)) (show nw s.n ≤ 1000000 from by omega)) fun v422 w423 q424 s425 h426 => ?_
 obtain ⟨v427, v428, rfl, q429, q430⟩ := q424
 obtain ⟨b431, rfl⟩ := YH.shape q429
 have q430 := Is.out q430; subst q430
 refine sv (Qa.move rfl) ?_
 refine sv (Qa.extract rfl rfl) ?_
 refine sv (Qa.extract rfl rfl) ?_
 refine sv (Qa.assign rfl) ?_
 refine sv (Qa.assign rfl) ?_
 refine Seq.next ?_
 refine Run.seq ?_
 refine Run.seq ?_
 obtain ⟨A432, c433, r434, q435⟩ := JO.open q429
 refine Run.open 12 (Φ := [.ex (i64 0), .ex (.bool false), .ex (.bool false), .ex (.pointer (some ⟨b431, 0, none⟩)), .ex (.pointer (some ⟨b18, 1, none⟩)), .ex (.agg #[.slice A4 (nw s.base) c5]), .ex (.agg #[.slice A405 (nw (s.n - 1)) c406]), .v (Qi (s.base ^ (s.n - 1) % s.n)), .ex (.agg #[.slice A27 (nw 1) c28]), .v (Is (i64 (Jo (s.base ^ (s.n - 1) % s.n) 1))), .ex (.bool (decide ((Jo (s.base ^ (s.n - 1) % s.n) 1 : Int) ≠ (0 : Int)))), .ex (.bool (decide ((Jo (s.base ^ (s.n - 1) % s.n) 1 : Int) ≠ (0 : Int))))]) [(11, 61)] Je (by kernel_rfl) rfl h426 ⟨(oX [] rfl rfl rfl fun _ _ => Qa.move rfl), (oX [(0, 50)] rfl rfl rfl fun _ _ => Qa.neq (a := 0) (b := 0) rfl rfl), (oX [(1, 51)] rfl rfl rfl fun _ _ => Qa.move rfl), ?_, ?_, ?_, ?_, ?_, ?_, ?_, ?_, (oX [(2, 52), (10, 60)] rfl rfl rfl fun _ _ => Ju rfl rfl), trivial⟩ (fun L508 w509 h510 s511 => ?_)
 ·refine Q9 [] rfl rfl rfl rfl rfl rfl fun L448 w449 h450 s451 => ?_
  exact ⟨_, Qa.move rfl, rfl⟩
 ·refine Q9 [] rfl rfl rfl rfl rfl rfl fun L452 w453 h454 s455 => ?_
  exact ⟨_, Qd 1 Try.underlying77 rfl Qn rfl rfl, rfl⟩
 ·refine Q9 [(4, 54)] rfl rfl rfl rfl rfl rfl fun L456 w457 h458 s459 => ?_
  have c461 := s425.trans s459
  have o460 := o418.up c461
  exact ⟨_, Qb [.slice A4 (nw s.base) c5] o460 Qn rfl rfl, rfl⟩
 ·refine Q9 [] rfl rfl rfl rfl rfl rfl fun L462 w463 h464 s465 => ?_
  have c467 := s425.trans s465
  have o466 := o415.up c467
  exact ⟨_, Qb [.slice A405 (nw (s.n - 1)) c406] o466 Qn rfl rfl, rfl⟩
 ·refine Zp [(3, 53), (5, 55), (6, 56)] rfl rfl rfl rfl rfl rfl QaU fun L468 w469 h470 s471 => ?_
  have q472 := up s471 q429
  have c473 := s425.trans s471
  have c474 := c420.trans c473
  have c475 := c393.trans c474
  have q476 := up c475 q6
  have c477 := c419.trans c473
  have q478 := up c477 q403
  exact ⟨_, rfl, (XT h470 q472 q476 q478 (show 1 < s.n from by (have h9 := YW hp1; have h8 := QW (Nat.sub_le s.n 1); omega)) (show nw s.base ≤ 1000 from by omega) (show nw (s.n - 1) ≤ 1000 from by (have h9 := YW hp1; have h8 := QW (Nat.sub_le s.n 1); omega)) (show nw s.n ≤ 1000 from by omega))⟩
 ·refine Q9 [] rfl rfl rfl rfl rfl rfl fun L479 w480 h481 s482 => ?_
  have c484 := s425.trans s482
  have c485 := c420.trans c484
  have o483 := o392.up c485
  exact ⟨_, Qb [.slice A27 (nw 1) c28] o483 Qn rfl rfl, rfl⟩
 ·refine Zp [(7, 57), (8, 58)] rfl rfl rfl rfl rfl rfl ZP fun L486 w487 h488 s489 v490 q491 => ?_
  obtain ⟨A492, c493, rfl⟩ := Qi.shape q491
  have z494 := Qi.cap q491
  have c495 := s425.trans s489
  have c496 := c420.trans c495
  have q497 := up c496 q395
  exact ⟨_, rfl, (J8 h488 q491 q497)⟩
 ·refine Q9 [(9, 59)] rfl rfl rfl rfl rfl rfl fun L498 w499 h500 s501 v502 q503 => ?_
  have q503 := Is.out q503; subst q503
  exact ⟨_, Qa.neq rfl rfl, rfl⟩
 refine Seq.next ?_
 rcases Decidable.em ((Jo (s.base ^ (s.n - 1) % s.n) 1 : Int) ≠ (0 : Int)) with hp4 | hp4
 ·refine Qc rfl (dT9 hp4) ?_
  refine rsr ?_
  refine sv (Qa.assign rfl) ?_
  refine Seq.next ?_
  have c512 := s425.trans s511
  have c513 := c420.trans c512
  have c514 := c393.trans c513
  obtain ⟨⟨zU, zo⟩, zb⟩ := hX c514 (by decide)
  refine Run.ret (Qr ?_)
  exact Qm Try.results183 rfl ⟨_, rfl, (Jj (by exact QgO hp4) _ _), zb⟩
 refine Qc rfl (dF9 hp4) ?_
 refine Qg (fun _ _ h => h) ?_
 refine rsr ?_
 have c516 := s425.trans s511
 have c517 := c420.trans c516
 have o515 := o392.up c517
 refine sv (Qb [.slice A27 (nw 1) c28] o515 Qn rfl rfl) ?_
 refine QM 11 [.slice none 0 0] h510 Qn rfl fun b520 L518 w519 o521 s522 h523 => ?_
 refine Q2 [.slice A27 (nw 1) c28] h523 o521 Qn rfl rfl rfl (lB9 rfl) rfl rfl fun w524 o525 s526 h527 => ?_
 refine Seq.next ?_
 refine Run.seq ?_
 refine rsr ?_
 refine sv (Qd 2 Try.underlying77 rfl QdN rfl rfl) ?_
 have c529 := s522.trans s526
 have c530 := c516.trans c529
 have o528 := o418.up c530
 refine sv (Qf o528 QdN rfl rfl) ?_
 refine sv (Qa.len Try.underlying38 rfl) ?_
 refine sv (Qa.move rfl) ?_
 refine Seq.next ?_
 refine Run.block ?_
 have c531 := c517.trans c529
 have q532 := up c531 q395
 refine Run.loop (fun m' l' w' => ∃ (i : Nat) (lab' : Lab) (ub11 : Value), m' = List.length s.primes - i ∧ l' = [(66, i64 ((i : Nat) : Int)), (1, .slice A13 (List.length behind) c14), (2, .pointer (some ⟨b18, 0, none⟩)), (5, .pointer (some ⟨b32, 0, none⟩)), (6, .pointer (some ⟨b410, 0, none⟩)), (8, .pointer (some ⟨b431, 0, none⟩)), (10, .pointer (some ⟨b520, 0, none⟩)), (64, .slice A7 (List.length s.primes) c8), (65, i64 ((List.length s.primes : Nat) : Int))] ∧ Ql lab' w' ∧ Stp [11, 13, 15, 16, 17, 18] L518 w524 lab' w' ∧ Own lab' w' 11 b520 60 #[ub11] ∧ Qi (Zu s.n s.primes i) lab' w' (.agg #[ub11]) ∧ (i ≤ List.length s.primes) ∧ (∀ j, j < i → KR s.n s.base behind s.primes j)) (List.length s.primes - 0) (l0 := [(66, i64 ((0 : Nat) : Int)), (1, .slice A13 (List.length behind) c14), (2, .pointer (some ⟨b18, 0, none⟩)), (5, .pointer (some ⟨b32, 0, none⟩)), (6, .pointer (some ⟨b410, 0, none⟩)), (8, .pointer (some ⟨b431, 0, none⟩)), (10, .pointer (some ⟨b520, 0, none⟩)), (64, .slice A7 (List.length s.primes) c8), (65, i64 ((List.length s.primes : Nat) : Int))]) ⟨(congrArg (fun z => some (i64 z)) (show (0 : Int) = ((0 : Nat) : Int) from by rfl)), rfl, rfl, rfl, rfl, rfl, rfl, rfl, rfl, trivial⟩ ⟨0, L518, (.slice A27 (nw 1) c28), rfl, rfl, h527, ((Stp.refl _ _).more (by simp)), o525, (Q1 (show 1 = (Zu s.n s.primes 0) from by rfl) q532), (by omega), (by omega)⟩ ?_
 intro m533 l534 w535 H536
 obtain ⟨i, lab537, u540, hzm, rfl, hv538, s539, o541, q542, hi, hg⟩ := H536
 replace hzm := hzm.symm; subst hzm
 obtain ⟨A543, c544, hz⟩ := Qi.shape q542; cases hz
 have h2n := YW hp1
 have hm1 := QW (Nat.sub_le s.n 1)
 have hpi := Qe5 hps i
 have hdv := QW (Nat.div_le_self (s.n - 1) (List.getD s.primes i 0))
 have hpw := fun h => QW (QeC (n := s.n - 1) (p := List.getD s.primes i 0) h (by omega))
 refine rsr ?_
 refine sv (Qa.lss rfl rfl) ?_
 refine Seq.next ?_
 refine Run.seq ?_
 rcases Decidable.em ((((i : Nat) : Int) : Int) < (((List.length s.primes : Nat) : Int) : Int)) with hp5 | hp5
 rotate_left
 ·refine Qc rfl (dF9 hp5) ?_
  refine Qv (fun _ _ h => h) ?_
  refine Run.seq ?_
  refine Run.open 8 (Φ := [.ex (.agg #[.slice A543 (nw (Zu s.n s.primes i)) c544]), .ex (.agg #[.slice A543 (nw (Zu s.n s.primes i)) c544]), .v (Qi ((Zu s.n s.primes i) * (Zu s.n s.primes i))), .ex (.pointer (some ⟨b18, 0, none⟩)), .ex (.agg #[.slice A1 (nw s.n) c2]), .v (Is (i64 (Jo ((Zu s.n s.primes i) * (Zu s.n s.primes i)) s.n))), .ex (.bool (decide ((0 : Int) < (Jo ((Zu s.n s.primes i) * (Zu s.n s.primes i)) s.n : Int)))), .ex (.bool (decide ((0 : Int) < (Jo ((Zu s.n s.primes i) * (Zu s.n s.primes i)) s.n : Int))))]) [(7, 4)] Je (by kernel_rfl) rfl hv538 ⟨?_, ?_, ?_, (oX [] rfl rfl rfl fun _ _ => Qd 0 Try.underlying77 rfl Qn rfl rfl), ?_, ?_, ?_, (oX [(6, 131)] rfl rfl rfl fun _ _ => Qa.assign rfl), trivial⟩ (fun L1077 w1078 h1079 s1080 => ?_)
  ·refine oP [] rfl rfl fun L1030 w1031 h1032 s1033 => ?_
   have o1034 := o541.up s1033
   exact ⟨_, Qb [.slice A543 (nw (Zu s.n s.primes i)) c544] o1034 Qn rfl rfl, rfl⟩
  ·refine oP [] rfl rfl fun L1035 w1036 h1037 s1038 => ?_
   have o1039 := o541.up s1038
   exact ⟨_, Qb [.slice A543 (nw (Zu s.n s.primes i)) c544] o1039 Qn rfl rfl, rfl⟩
  ·refine oC [(0, 125), (1, 126)] rfl rfl VD fun L1040 w1041 h1042 s1043 => ?_
   have q1044 := up s1043 q542
   exact ⟨_, rfl, (Xj h1042 q1044 q1044 (show nw (Zu s.n s.primes i) ≤ 1000000 from by (have h9 := Qae (ps := s.primes) h2n hn (show i ≤ 32 by omega) (fun j hj => (hg j (by omega)).2.2.1); omega)) (show nw (Zu s.n s.primes i) ≤ 1000000 from by (have h9 := Qae (ps := s.primes) h2n hn (show i ≤ 32 by omega) (fun j hj => (hg j (by omega)).2.2.1); omega)))⟩
  ·refine oP [(3, 128)] rfl rfl fun L1049 w1050 h1051 s1052 => ?_
   have c1054 := s539.trans s1052
   have o1053 := o528.up c1054
   exact ⟨_, Qb [.slice A1 (nw s.n) c2] o1053 Qn rfl rfl, rfl⟩
  ·refine oC [(2, 127), (4, 129)] rfl rfl ZP fun L1055 w1056 h1057 s1058 v1059 q1060 => ?_
   obtain ⟨A1061, c1062, rfl⟩ := Qi.shape q1060
   have z1063 := Qi.cap q1060
   have c1064 := s539.trans s1058
   have c1065 := c530.trans c1064
   have q1066 := up c1065 q421
   exact ⟨_, rfl, (J8 h1057 q1060 q1066)⟩
  ·refine oP [(5, 130)] rfl rfl fun L1067 w1068 h1069 s1070 v1071 q1072 => ?_
   have q1072 := Is.out q1072; subst q1072
   exact ⟨_, Qa.gtr rfl rfl, rfl⟩
  refine Seq.next ?_
  have c1081 := s539.trans s1080
  have c1082 := c531.trans c1081
  have c1083 := c393.trans c1082
  obtain ⟨⟨zU, zo⟩, zb⟩ := hX c1083 (by decide)
  refine Run.ret ?_
  exact Qm Try.results183 rfl ⟨_, rfl, (Jj (by exact Qfq hp1 hp2 hp3 hp4 hg (by omega)) _ _), zb⟩
 refine Qc rfl (dT9 hp5) ?_
 refine Qg (fun _ _ h => h) ?_
 refine Run.seq ?_
 refine Run.block ?_
 refine rsr ?_
 refine sv (Qa.move rfl) ?_
 have c551 := c531.trans s539
 have c552 := c393.trans c551
 have q553 := up c552 q9
 obtain ⟨vs545, u546, m547, r548, q549, q550⟩ := Jd.at_ q553 i (by omega)
 obtain ⟨A554, c555, hz⟩ := Qi.shape q550; cases hz
 have z556 := Qi.cap q550
 refine sv (Qs i Try.underlying38 Qn rfl rfl r548 m547 (by omega) (by omega)) ?_
 refine sv (JZ Qn rfl r548 q549) ?_
 refine QM 13 [.slice none 0 0] hv538 Qn rfl fun b559 L557 w558 o560 s561 h562 => ?_
 refine sv (Qa.assign rfl) ?_
 refine Q2 [.slice A554 (nw (List.getD s.primes i 0)) c555] h562 o560 Qn rfl rfl rfl (lB9 rfl) rfl rfl fun w563 o564 s565 h566 => ?_
 refine Seq.next ?_
 refine Run.seq ?_
 refine rsr ?_
 refine sv (Qd 2 Try.underlying77 rfl QdN rfl rfl) ?_
 have c568 := s561.trans s565
 have c569 := s539.trans c568
 have o567 := o528.up c569
 refine sv (Qf o567 QdN rfl rfl) ?_
 refine sv (Qa.move rfl) ?_
 have q570 := up c568 q553
 have q571 := Jd.takeN q570 i (by omega)
 refine sv (JJ i Try.underlying38 Qn rfl rfl (by omega) (by omega)) ?_
 refine sv (Qa.len Try.underlying38 rfl) ?_
 refine sv (Qa.move rfl) ?_
 refine Seq.next ?_
 refine Run.block ?_
 refine Run.loop (fun m' l' w' => ∃ (k : Nat) (lab' : Lab), m' = i - k ∧ l' = [(76, i64 ((k : Nat) : Int)), (1, .slice A13 (List.length behind) c14), (2, .pointer (some ⟨b18, 0, none⟩)), (5, .pointer (some ⟨b32, 0, none⟩)), (6, .pointer (some ⟨b410, 0, none⟩)), (8, .pointer (some ⟨b431, 0, none⟩)), (10, .pointer (some ⟨b520, 0, none⟩)), (64, .slice A7 (List.length s.primes) c8), (65, i64 ((List.length s.primes : Nat) : Int)), (66, i64 ((i : Nat) : Int)), (12, .pointer (some ⟨b559, 0, none⟩)), (74, .slice A7 i c8), (75, i64 ((i : Nat) : Int))] ∧ Ql lab' w' ∧ Stp [15] L557 w563 lab' w' ∧ (k ≤ i) ∧ (∀ j, j < k → List.getD s.primes j 0 ≠ List.getD s.primes i 0)) (i - 0) (l0 := [(76, i64 ((0 : Nat) : Int)), (1, .slice A13 (List.length behind) c14), (2, .pointer (some ⟨b18, 0, none⟩)), (5, .pointer (some ⟨b32, 0, none⟩)), (6, .pointer (some ⟨b410, 0, none⟩)), (8, .pointer (some ⟨b431, 0, none⟩)), (10, .pointer (some ⟨b520, 0, none⟩)), (64, .slice A7 (List.length s.primes) c8), (65, i64 ((List.length s.primes : Nat) : Int)), (66, i64 ((i : Nat) : Int)), (12, .pointer (some ⟨b559, 0, none⟩)), (74, .slice A7 i c8), (75, i64 ((i : Nat) : Int))]) ⟨(congrArg (fun z => some (i64 z)) (show (0 : Int) = ((0 : Nat) : Int) from by rfl)), rfl, rfl, rfl, rfl, rfl, rfl, rfl, rfl, rfl, rfl, rfl, rfl, trivial⟩ ⟨0, L557, rfl, rfl, h566, ((Stp.refl _ _).more (by simp)), (by omega), (by omega)⟩ ?_
 intro m572 l573 w574 H575
 obtain ⟨k, lab576, hzm, rfl, hv577, s578, hk, hnd⟩ := H575
 replace hzm := hzm.symm; subst hzm
 refine rsr ?_
 refine sv (Qa.lss rfl rfl) ?_
 refine Seq.next ?_
 refine Run.seq ?_
 rcases Decidable.em ((((k : Nat) : Int) : Int) < (((i : Nat) : Int) : Int)) with hp6 | hp6
 ·refine Qc rfl (dT9 hp6) ?_
  refine Qg (fun _ _ h => h) ?_
  refine Run.seq ?_
  refine Run.block ?_
  refine rsr ?_
  have q585 := up s578 q571
  obtain ⟨vs579, u580, m581, r582, q583, q584⟩ := Jd.at_ q585 k (by omega)
  obtain ⟨A586, c587, hz⟩ := Qi.shape q584; cases hz
  have z588 := Qi.cap q584
  refine sv (Qs k Try.underlying38 Qn rfl rfl r582 m581 (by omega) (by omega)) ?_
  refine sv (JZ Qn rfl r582 q583) ?_
  refine QM 15 [.slice none 0 0] hv577 Qn rfl fun b591 L589 w590 o592 s593 h594 => ?_
  refine Q2 [.slice A586 (nw (List.getD (List.take i s.primes) k 0)) c587] h594 o592 Qn rfl rfl rfl (lB9 rfl) rfl rfl fun w595 o596 s597 h598 => ?_
  refine nsr ?_
  refine sv (Qb [.slice A586 (nw (List.getD (List.take i s.primes) k 0)) c587] o596 Qn rfl rfl) ?_
  have c600 := s593.trans s597
  have c601 := s578.trans c600
  have o599 := o564.up c601
  refine sv (Qb [.slice A554 (nw (List.getD s.primes i 0)) c555] o599 Qn rfl rfl) ?_
  have q602 := up c600 q584
  have c603 := c568.trans c601
  have q604 := up c603 q550
  refine Q7 (V := Is (i64 (Jo (List.getD (List.take i s.primes) k 0) (List.getD s.primes i 0)))) ZP h598 rfl (J8 h598 q602 q604) fun v605 w606 q607 s608 h609 => ?_
  have q607 := Is.out q607; subst q607
  refine sv (Qa.eql rfl rfl) ?_
  refine Seq.next ?_
  rcases Decidable.em ((Jo (List.getD (List.take i s.primes) k 0) (List.getD s.primes i 0) : Int) = (0 : Int)) with hp7 | hp7
  ·refine Qc rfl (dT9 hp7) ?_
   refine rsr ?_
   refine sv (Qa.assign rfl) ?_
   refine Seq.next ?_
   have c610 := c603.trans s608
   have c611 := c552.trans c610
   obtain ⟨⟨zU, zo⟩, zb⟩ := hX c611 (by decide)
   refine Run.ret (QQ (Qr (Qr (QQ (Qr (QQ (Qr (Qr (QQ (Qr ?_))))))))))
   exact Qm Try.results183 rfl ⟨_, rfl, (Jj (by exact QgN (by omega) (by omega) hp7) _ _), zb⟩
  refine Qc rfl (dF9 hp7) ?_
  refine Qg (fun _ _ h => h) ?_
  refine Run.region ?_
  refine sv (Qa.add rfl rfl (by omega)) ?_
  refine sv (Qa.move rfl) ?_
  have c612 := c601.trans s608
  exact Seq.nil (fun a613 h614 => ⟨_, by omega, _, h614.weaken (QG (l' := [(76, i64 (((k + 1) : Nat) : Int)), (1, .slice A13 (List.length behind) c14), (2, .pointer (some ⟨b18, 0, none⟩)), (5, .pointer (some ⟨b32, 0, none⟩)), (6, .pointer (some ⟨b410, 0, none⟩)), (8, .pointer (some ⟨b431, 0, none⟩)), (10, .pointer (some ⟨b520, 0, none⟩)), (64, .slice A7 (List.length s.primes) c8), (65, i64 ((List.length s.primes : Nat) : Int)), (66, i64 ((i : Nat) : Int)), (12, .pointer (some ⟨b559, 0, none⟩)), (74, .slice A7 i c8), (75, i64 ((i : Nat) : Int))]) ⟨(congrArg (fun z => some (i64 z)) (show (((k : Nat) : Int) + 1 : Int) = (((k + 1) : Nat) : Int) from by rfl)), rfl, rfl, rfl, rfl, rfl, rfl, rfl, rfl, rfl, rfl, rfl, rfl, trivial⟩), ⟨k + 1, L589, rfl, rfl, h609, (c612.more (by decide)), (by omega), (by exact QgK hnd (by omega) hp7)⟩⟩)
 refine Qc rfl (dF9 hp6) ?_
 refine Qv (fun _ _ h => h) ?_
 refine Run.seq ?_
 refine Run.seq ?_
 rcases ZN (!(decide (Yo behind (List.getD s.primes i 0)))) with hc7 | hc7
 ·refine Run.open 10 (Φ := [.ex (.agg #[.slice A554 (nw (List.getD s.primes i 0)) c555]), .ex (.slice A13 (List.length behind) c14), .v (Is (.bool (decide (Yo behind (List.getD s.primes i 0))))), .ex (.bool (!(decide (Yo behind (List.getD s.primes i 0))))), .ex (.bool (!(decide (Yo behind (List.getD s.primes i 0))))), .ex undef, .ex undef, .ex undef, .ex undef, .ex (.bool true)]) [(9, 94)] Je (by kernel_rfl) rfl hv577 ⟨?_, (oX [] rfl rfl rfl fun _ _ => Qa.move rfl), ?_, ?_, (oX [(3, 88)] rfl rfl rfl fun _ _ => Qa.move rfl), (Ji rfl rfl rfl rfl hc7 rfl rfl), (Ji rfl rfl rfl rfl hc7 rfl rfl), (Ji rfl rfl rfl rfl hc7 rfl rfl), (Ji rfl rfl rfl rfl hc7 rfl rfl), (oX [(4, 89)] rfl rfl rfl fun _ _ => Qp rfl hc7 rfl), trivial⟩ (fun L677 w678 h679 s680 => ?_)
  ·refine oP [] rfl rfl fun L644 w645 h646 s647 => ?_
   have c649 := s578.trans s647
   have o648 := o564.up c649
   exact ⟨_, Qb [.slice A554 (nw (List.getD s.primes i 0)) c555] o648 Qn rfl rfl, rfl⟩
  ·refine oC [(0, 85), (1, 86)] rfl rfl QhB fun L654 w655 h656 s657 => ?_
   have c658 := s578.trans s657
   have c659 := c568.trans c658
   have q660 := up c659 q550
   have c661 := c552.trans c659
   have q662 := up c661 h1
   exact ⟨_, rfl, (Uv h656 q660 q662)⟩
  ·refine oP [(2, 87)] rfl rfl fun L663 w664 h665 s666 v667 q668 => ?_
   have q668 := Is.out q668; subst q668
   exact ⟨_, Qa.not rfl, rfl⟩
  refine Seq.next ?_
  refine Qc rfl rfl ?_
  refine rsr ?_
  refine sv (Qa.assign rfl) ?_
  refine Seq.next ?_
  have c681 := s578.trans s680
  have c682 := c568.trans c681
  have c683 := c552.trans c682
  obtain ⟨⟨zU, zo⟩, zb⟩ := hX c683 (by decide)
  refine Run.ret (Qr (QQ (Qr (Qr (QQ (Qr ?_))))))
  exact Qm Try.results183 rfl ⟨_, rfl, (Jj (by exact QgM (by omega) hc7) _ _), zb⟩
 refine Run.open 10 (Φ := [.ex (.agg #[.slice A554 (nw (List.getD s.primes i 0)) c555]), .ex (.slice A13 (List.length behind) c14), .v (Is (.bool (decide (Yo behind (List.getD s.primes i 0))))), .ex (.bool (!(decide (Yo behind (List.getD s.primes i 0))))), .ex (.bool (!(decide (Yo behind (List.getD s.primes i 0))))), .ex (.agg #[.slice A554 (nw (List.getD s.primes i 0)) c555]), .v (Qi 2), .v (Is (i64 (Jo (List.getD s.primes i 0) 2))), .ex (.bool (decide ((Jo (List.getD s.primes i 0) 2 : Int) < (0 : Int)))), .ex (.bool (decide ((Jo (List.getD s.primes i 0) 2 : Int) < (0 : Int))))]) [(9, 94)] Je (by kernel_rfl) rfl hv577 ⟨?_, (oX [] rfl rfl rfl fun _ _ => Qa.move rfl), ?_, ?_, (oX [(3, 88)] rfl rfl rfl fun _ _ => Qa.move rfl), ?_, ?_, ?_, ?_, (oX [(4, 89), (8, 93)] rfl rfl rfl fun _ _ => Qp rfl hc7 rfl), trivial⟩ (fun L745 w746 h747 s748 => ?_)
 ·refine oP [] rfl rfl fun L684 w685 h686 s687 => ?_
  have c689 := s578.trans s687
  have o688 := o564.up c689
  exact ⟨_, Qb [.slice A554 (nw (List.getD s.primes i 0)) c555] o688 Qn rfl rfl, rfl⟩
 ·refine oC [(0, 85), (1, 86)] rfl rfl QhB fun L694 w695 h696 s697 => ?_
  have c698 := s578.trans s697
  have c699 := c568.trans c698
  have q700 := up c699 q550
  have c701 := c552.trans c699
  have q702 := up c701 h1
  exact ⟨_, rfl, (Uv h696 q700 q702)⟩
 ·refine oP [(2, 87)] rfl rfl fun L703 w704 h705 s706 v707 q708 => ?_
  have q708 := Is.out q708; subst q708
  exact ⟨_, Qa.not rfl, rfl⟩
 ·refine Q9 [] rfl rfl rfl rfl hc7 rfl fun L713 w714 h715 s716 => ?_
  have c718 := s578.trans s716
  have o717 := o564.up c718
  exact ⟨_, Qb [.slice A554 (nw (List.getD s.primes i 0)) c555] o717 Qn rfl rfl, rfl⟩
 ·refine Zp [] rfl rfl rfl rfl hc7 rfl JN fun L719 w720 h721 s722 => ?_
  exact ⟨_, rfl, (QX h721 (x := 2) (show 2 < 18446744073709551616 from by omega))⟩
 ·refine Zp [(5, 90), (6, 91)] rfl rfl rfl rfl hc7 rfl ZP fun L723 w724 h725 s726 v727 q728 => ?_
  obtain ⟨A729, c730, rfl⟩ := Qi.shape q728
  have z731 := Qi.cap q728
  have c732 := s578.trans s726
  have c733 := c568.trans c732
  have q734 := up c733 q550
  exact ⟨_, rfl, (J8 h725 q734 q728)⟩
 ·refine Q9 [(7, 92)] rfl rfl rfl rfl hc7 rfl fun L735 w736 h737 s738 v739 q740 => ?_
  have q740 := Is.out q740; subst q740
  exact ⟨_, Qa.lss rfl rfl, rfl⟩
 refine Seq.next ?_
 rcases Decidable.em ((Jo (List.getD s.primes i 0) 2 : Int) < (0 : Int)) with hp8 | hp8
 ·refine Qc rfl (dT9 hp8) ?_
  refine rsr ?_
  refine sv (Qa.assign rfl) ?_
  refine Seq.next ?_
  have c749 := s578.trans s748
  have c750 := c568.trans c749
  have c751 := c552.trans c750
  obtain ⟨⟨zU, zo⟩, zb⟩ := hX c751 (by decide)
  refine Run.ret (Qr (QQ (Qr (Qr (QQ (Qr ?_))))))
  exact Qm Try.results183 rfl ⟨_, rfl, (Jj (by exact QgL (by omega) hp8) _ _), zb⟩
 refine Qc rfl (dF9 hp8) ?_
 refine Qg (fun _ _ h => h) ?_
 refine rsr ?_
 have c753 := s578.trans s748
 have c754 := c569.trans c753
 have c755 := c530.trans c754
 have o752 := o415.up c755
 refine sv (Qb [.slice A405 (nw (s.n - 1)) c406] o752 Qn rfl rfl) ?_
 have o756 := o564.up c753
 refine sv (Qb [.slice A554 (nw (List.getD s.primes i 0)) c555] o756 Qn rfl rfl) ?_
 have c757 := c419.trans c755
 have q758 := up c757 q403
 have c759 := c568.trans c753
 have q760 := up c759 q550
 refine Q7 (V := Qi (Ki (s.n - 1) (List.getD s.primes i 0))) Qkw h747 rfl (QdA h747 q758 q760 (show (s.n - 1) ≠ 0 from by omega) (show 2 ≤ (List.getD s.primes i 0) from by exact YW hp8) (show nw (s.n - 1) ≤ 900000 from by omega) (show nw (List.getD s.primes i 0) ≤ 900000 from by omega)) fun v761 w762 q763 s764 h765 => ?_
 obtain ⟨A766, c767, rfl⟩ := Qi.shape q763
 have z768 := Qi.cap q763
 refine QM 16 [.slice none 0 0] h765 Qn rfl fun b771 L769 w770 o772 s773 h774 => ?_
 refine Q2 [.slice A766 (nw (Ki (s.n - 1) (List.getD s.primes i 0))) c767] h774 o772 Qn rfl rfl rfl (lB9 rfl) rfl rfl fun w775 o776 s777 h778 => ?_
 refine Seq.next ?_
 refine Run.seq ?_
 refine rsr ?_
 refine sv (Qb [.slice A766 (nw (Ki (s.n - 1) (List.getD s.primes i 0))) c767] o776 Qn rfl rfl) ?_
 have c779 := s773.trans s777
 have q780 := up c779 q763
 refine Q7 (V := Is (.bool (decide ((Ki (s.n - 1) (List.getD s.primes i 0)) = 0)))) X1 h778 rfl (Zb h778 q780) fun v781 w782 q783 s784 h785 => ?_
 have q783 := Is.out q783; subst q783
 refine Seq.next ?_
 rcases Decidable.em ((Ki (s.n - 1) (List.getD s.primes i 0)) = 0) with hp9 | hp9
 ·refine Qc rfl (dT9 hp9) ?_
  refine rsr ?_
  refine sv (Qa.assign rfl) ?_
  refine Seq.next ?_
  have c786 := c779.trans s784
  have c787 := s764.trans c786
  have c788 := c759.trans c787
  have c789 := c552.trans c788
  obtain ⟨⟨zU, zo⟩, zb⟩ := hX c789 (by decide)
  refine Run.ret (Qr (QQ (Qr (Qr (QQ (Qr ?_))))))
  exact Qm Try.results183 rfl ⟨_, rfl, (Jj (by exact Qfp h2n (by omega) hp8 hp9) _ _), zb⟩
 refine Qc rfl (dF9 hp9) ?_
 refine Qg (fun _ _ h => h) ?_
 refine rsr ?_
 have c791 := c779.trans s784
 have c792 := s764.trans c791
 have c793 := c759.trans c792
 have o790 := o541.up c793
 refine sv (Qb [.slice A543 (nw (Zu s.n s.primes i)) c544] o790 Qn rfl rfl) ?_
 have o794 := o776.up s784
 refine sv (Qb [.slice A766 (nw (Ki (s.n - 1) (List.getD s.primes i 0))) c767] o794 Qn rfl rfl) ?_
 have q795 := up c793 q542
 have q796 := up s784 q780
 refine Q7 (V := Qi ((Zu s.n s.primes i) * (Ki (s.n - 1) (List.getD s.primes i 0)))) VD h785 rfl (Xj h785 q795 q796 (show nw (Zu s.n s.primes i) ≤ 1000000 from by (have h9 := Qae (ps := s.primes) h2n hn (show i ≤ 32 by omega) (fun j hj => (hg j (by omega)).2.2.1); omega)) (show nw (Ki (s.n - 1) (List.getD s.primes i 0)) ≤ 1000000 from by (have h7 := hpw (YW hp8); omega))) fun v797 w798 q799 s800 h801 => ?_
 obtain ⟨A802, c803, rfl⟩ := Qi.shape q799
 have z804 := Qi.cap q799
 have o805 := o790.up s800
 refine Q2 [.slice A802 (nw ((Zu s.n s.primes i) * (Ki (s.n - 1) (List.getD s.primes i 0)))) c803] h801 o805 Qn rfl rfl rfl (lB9 rfl) rfl rfl fun w806 o807 s808 h809 => ?_
 refine nsr ?_
 have c811 := s800.trans s808
 have c812 := c792.trans c811
 have o810 := o752.up c812
 refine sv (Qb [.slice A405 (nw (s.n - 1)) c406] o810 Qn rfl rfl) ?_
 have o813 := o756.up c812
 refine sv (Qb [.slice A554 (nw (List.getD s.primes i 0)) c555] o813 Qn rfl rfl) ?_
 have q814 := up c812 q758
 have q815 := up c812 q760
 refine Q7 (V := QdQ (Qi ((s.n - 1) / (List.getD s.primes i 0))) (Qi ((s.n - 1) % (List.getD s.primes i 0))) (Is (i64 0))) QaS h809 rfl (QaA h809 q814 q815 (show nw (s.n - 1) ≤ 999999 from by omega) (show nw (List.getD s.primes i 0) ≤ 1000000 from by omega) (show (List.getD s.primes i 0) ≠ 0 from by (have h9 := YW hp8; omega))) fun v816 w817 q818 s819 h820 => ?_
 obtain ⟨v821, v822, v823, rfl, q824, q825, q826⟩ := q818
 obtain ⟨A827, c828, rfl⟩ := Qi.shape q824
 have z829 := Qi.cap q824
 obtain ⟨A830, c831, rfl⟩ := Qi.shape q825
 have z832 := Qi.cap q825
 have q826 := Is.out q826; subst q826
 refine sv (Qa.move rfl) ?_
 refine sv (Qa.extract rfl rfl) ?_
 refine sv (Qa.extract rfl rfl) ?_
 refine sv (Qa.extract rfl rfl) ?_
 refine QM 17 [.slice none 0 0] h820 Qn rfl fun b835 L833 w834 o836 s837 h838 => ?_
 refine QM 18 [.slice none 0 0] h838 Qn rfl fun b841 L839 w840 o842 s843 h844 => ?_
 have o845 := o836.up s843
 refine Q2 [.slice A827 (nw ((s.n - 1) / (List.getD s.primes i 0))) c828] h844 o845 Qn rfl rfl rfl (lB9 rfl) rfl rfl fun w846 o847 s848 h849 => ?_
 have o850 := o842.up s848
 refine Q2 [.slice A830 (nw ((s.n - 1) % (List.getD s.primes i 0))) c831] h849 o850 Qn rfl rfl rfl (lB9 rfl) rfl rfl fun w851 o852 s853 h854 => ?_
 refine sv (Qa.assign rfl) ?_
 refine Seq.next ?_
 refine Run.seq ?_
 refine Run.open 14 (Φ := [.ex (.pointer (some ⟨b431, 0, none⟩)), .ex (.pointer (some ⟨b431, 0, none⟩)), .ex (.pointer (some ⟨b18, 1, none⟩)), .ex (.agg #[.slice A4 (nw s.base) c5]), .ex (.agg #[.slice A827 (nw ((s.n - 1) / (List.getD s.primes i 0))) c828]), .v (Qi (s.base ^ ((s.n - 1) / (List.getD s.primes i 0)) % s.n)), .ex (.agg #[.slice A27 (nw 1) c28]), .v (Qi (Qbo s.n (s.base ^ ((s.n - 1) / (List.getD s.primes i 0)) % s.n) 1)), .ex (.pointer (some ⟨b18, 0, none⟩)), .ex (.agg #[.slice A1 (nw s.n) c2]), .v (Qi (Nat.gcd (Qbo s.n (s.base ^ ((s.n - 1) / (List.getD s.primes i 0)) % s.n) 1) s.n)), .ex (.agg #[.slice A27 (nw 1) c28]), .v (Is (i64 (Jo (Nat.gcd (Qbo s.n (s.base ^ ((s.n - 1) / (List.getD s.primes i 0)) % s.n) 1) s.n) 1))), .ex (.bool (decide ((Jo (Nat.gcd (Qbo s.n (s.base ^ ((s.n - 1) / (List.getD s.primes i 0)) % s.n) 1) s.n) 1 : Int) ≠ (0 : Int))))]) [(13, 123)] Je (by kernel_rfl) rfl h854 ⟨(oX [] rfl rfl rfl fun _ _ => Qa.move rfl), (oX [] rfl rfl rfl fun _ _ => Qa.move rfl), (oX [] rfl rfl rfl fun _ _ => Qd 1 Try.underlying77 rfl Qn rfl rfl), ?_, ?_, ?_, ?_, ?_, (oX [] rfl rfl rfl fun _ _ => Qd 0 Try.underlying77 rfl Qn rfl rfl), ?_, ?_, ?_, ?_, ?_, trivial⟩ (fun L1006 w1007 h1008 s1009 => ?_)
 ·refine oP [(2, 112)] rfl rfl fun L867 w868 h869 s870 => ?_
  have c872 := s853.trans s870
  have c873 := s848.trans c872
  have c874 := s843.trans c873
  have c875 := s837.trans c874
  have c876 := s819.trans c875
  have c877 := c812.trans c876
  have c878 := c753.trans c877
  have o871 := o567.up c878
  exact ⟨_, Qb [.slice A4 (nw s.base) c5] o871 Qn rfl rfl, rfl⟩
 ·refine oP [] rfl rfl fun L879 w880 h881 s882 => ?_
  have c884 := s853.trans s882
  have o883 := o847.up c884
  exact ⟨_, Qb [.slice A827 (nw ((s.n - 1) / (List.getD s.primes i 0))) c828] o883 Qn rfl rfl, rfl⟩
 ·refine oC [(1, 111), (3, 113), (4, 114)] rfl rfl QaU fun L885 w886 h887 s888 => ?_
  have c889 := s853.trans s888
  have c890 := s848.trans c889
  have c891 := s843.trans c890
  have c892 := s837.trans c891
  have c893 := s819.trans c892
  have c894 := c812.trans c893
  have c895 := c754.trans c894
  have c896 := c529.trans c895
  have c897 := s511.trans c896
  have q898 := up c897 q429
  have c899 := c811.trans c893
  have c900 := c793.trans c899
  have c901 := c552.trans c900
  have q902 := up c901 q6
  have q903 := up c892 q824
  exact ⟨_, rfl, (XT h887 q898 q902 q903 (show 1 < s.n from by omega) (show nw s.base ≤ 1000 from by omega) (show nw ((s.n - 1) / (List.getD s.primes i 0)) ≤ 1000 from by omega) (show nw s.n ≤ 1000 from by omega))⟩
 ·refine oP [] rfl rfl fun L904 w905 h906 s907 => ?_
  have c909 := s853.trans s907
  have c910 := s848.trans c909
  have c911 := s843.trans c910
  have c912 := s837.trans c911
  have c913 := s819.trans c912
  have c914 := c812.trans c913
  have c915 := c754.trans c914
  have c916 := c529.trans c915
  have o908 := o515.up c916
  exact ⟨_, Qb [.slice A27 (nw 1) c28] o908 Qn rfl rfl, rfl⟩
 ·refine oC [(0, 110), (5, 115), (6, 116)] rfl rfl Qlx fun L917 w918 h919 s920 v921 q922 => ?_
  obtain ⟨A923, c924, rfl⟩ := Qi.shape q922
  have z925 := Qi.cap q922
  have c926 := s853.trans s920
  have c927 := s848.trans c926
  have c928 := s843.trans c927
  have c929 := s837.trans c928
  have c930 := s819.trans c929
  have c931 := c812.trans c930
  have c932 := c754.trans c931
  have c933 := c529.trans c932
  have c934 := s511.trans c933
  have q935 := up c934 q429
  have q936 := up c932 q532
  exact ⟨_, rfl, (Qg4 h919 q935 q922 q936 (show 1 < s.n from by omega) (show nw (s.base ^ ((s.n - 1) / (List.getD s.primes i 0)) % s.n) ≤ 1000 from by exact Nat.le_trans (QW (Nat.le_of_lt (Nat.mod_lt _ (by omega)))) (by omega)) (show nw 1 ≤ 1000 from by omega) (show nw s.n ≤ 1000 from by omega))⟩
 ·refine oP [(8, 118)] rfl rfl fun L941 w942 h943 s944 => ?_
  have c946 := s853.trans s944
  have c947 := s848.trans c946
  have c948 := s843.trans c947
  have c949 := s837.trans c948
  have c950 := s819.trans c949
  have c951 := c812.trans c950
  have c952 := c753.trans c951
  have o945 := o567.up c952
  exact ⟨_, Qb [.slice A1 (nw s.n) c2] o945 Qn rfl rfl, rfl⟩
 ·refine oC [(7, 117), (9, 119)] rfl rfl Qkv fun L953 w954 h955 s956 v957 q958 => ?_
  obtain ⟨A959, c960, rfl⟩ := Qi.shape q958
  have z961 := Qi.cap q958
  have c962 := s853.trans s956
  have c963 := s848.trans c962
  have c964 := s843.trans c963
  have c965 := s837.trans c964
  have c966 := s819.trans c965
  have c967 := c812.trans c966
  have c968 := c755.trans c967
  have q969 := up c968 q421
  exact ⟨_, rfl, (Qi5 h955 q958 q969 (show nw (Qbo s.n (s.base ^ ((s.n - 1) / (List.getD s.primes i 0)) % s.n) 1) ≤ 999999 from by exact Nat.le_trans (QW (Nat.le_of_lt (Qif (by omega)))) (by omega)) (show nw s.n ≤ 999999 from by omega))⟩
 ·refine oP [] rfl rfl fun L970 w971 h972 s973 => ?_
  have c975 := s853.trans s973
  have c976 := s848.trans c975
  have c977 := s843.trans c976
  have c978 := s837.trans c977
  have c979 := s819.trans c978
  have c980 := c812.trans c979
  have c981 := c754.trans c980
  have c982 := c529.trans c981
  have o974 := o515.up c982
  exact ⟨_, Qb [.slice A27 (nw 1) c28] o974 Qn rfl rfl, rfl⟩
 ·refine oC [(10, 120), (11, 121)] rfl rfl ZP fun L983 w984 h985 s986 v987 q988 => ?_
  obtain ⟨A989, c990, rfl⟩ := Qi.shape q988
  have z991 := Qi.cap q988
  have c992 := s853.trans s986
  have c993 := s848.trans c992
  have c994 := s843.trans c993
  have c995 := s837.trans c994
  have c996 := s819.trans c995
  have c997 := c812.trans c996
  have c998 := c754.trans c997
  have q999 := up c998 q532
  exact ⟨_, rfl, (J8 h985 q988 q999)⟩
 ·refine oP [(12, 122)] rfl rfl fun L1000 w1001 h1002 s1003 v1004 q1005 => ?_
  have q1005 := Is.out q1005; subst q1005
  exact ⟨_, Qa.neq rfl rfl, rfl⟩
 refine Seq.next ?_
 rcases Decidable.em ((Jo (Nat.gcd (Qbo s.n (s.base ^ ((s.n - 1) / (List.getD s.primes i 0)) % s.n) 1) s.n) 1 : Int) ≠ (0 : Int)) with hp10 | hp10
 ·refine Qc rfl (dT9 hp10) ?_
  refine rsr ?_
  refine sv (Qa.assign rfl) ?_
  refine Seq.next ?_
  have c1010 := s853.trans s1009
  have c1011 := s848.trans c1010
  have c1012 := s843.trans c1011
  have c1013 := s837.trans c1012
  have c1014 := s819.trans c1013
  have c1015 := c811.trans c1014
  have c1016 := c793.trans c1015
  have c1017 := c552.trans c1016
  obtain ⟨⟨zU, zo⟩, zb⟩ := hX c1017 (by decide)
  refine Run.ret (QQ (Qr (Qr (QQ (Qr ?_)))))
  exact Qm Try.results183 rfl ⟨_, rfl, (Jj (by exact Qfo (by omega) hp10) _ _), zb⟩
 refine Qc rfl (dF9 hp10) ?_
 refine Qg (fun _ _ h => h) ?_
 refine Run.region ?_
 refine sv (Qa.add rfl rfl (by omega)) ?_
 refine sv (Qa.move rfl) ?_
 have c1019 := s853.trans s1009
 have c1020 := s848.trans c1019
 have c1021 := s843.trans c1020
 have c1022 := s837.trans c1021
 have c1023 := s819.trans c1022
 have o1018 := o807.up c1023
 have c1024 := s808.trans c1023
 have q1025 := up c1024 q799
 have c1026 := c812.trans c1023
 have c1027 := c754.trans c1026
 exact Seq.nil (fun a1028 h1029 => ⟨_, by omega, _, h1029.weaken (QG (l' := [(66, i64 (((i + 1) : Nat) : Int)), (1, .slice A13 (List.length behind) c14), (2, .pointer (some ⟨b18, 0, none⟩)), (5, .pointer (some ⟨b32, 0, none⟩)), (6, .pointer (some ⟨b410, 0, none⟩)), (8, .pointer (some ⟨b431, 0, none⟩)), (10, .pointer (some ⟨b520, 0, none⟩)), (64, .slice A7 (List.length s.primes) c8), (65, i64 ((List.length s.primes : Nat) : Int))]) ⟨(congrArg (fun z => some (i64 z)) (show (((i : Nat) : Int) + 1 : Int) = (((i + 1) : Nat) : Int) from by rfl)), rfl, rfl, rfl, rfl, rfl, rfl, rfl, rfl, trivial⟩), ⟨i + 1, L1006, (.slice A802 (nw ((Zu s.n s.primes i) * (Ki (s.n - 1) (List.getD s.primes i 0)))) c803), rfl, rfl, h1008, (c1027.more (by decide)), o1018, (Q1 (show ((Zu s.n s.primes i) * (Ki (s.n - 1) (List.getD s.primes i 0))) = (Zu s.n s.primes (i + 1)) from by rfl) q1025), (by omega), (by exact Qd5 h2n hg (fun j hj => hnd j (by omega)) hc7 hp8 hp9 hp10)⟩⟩)
end Go.Proofs.Ytgfomedobfaidaa
end
section
set_option linter.unusedVariables false
set_option linter.unusedSimpArgs false
namespace Go.Proofs.Ytgfomedobfaidaa
open Go.RowKit
theorem QfB {lab : Lab} {w : World} (hv : Ql lab w) {n : Nat} {v0 : Value} (h0 : Qi n lab w v0) (hn : nw n ≤ 1000000) :
  Calls Try.prog 182 #[v0] w (fun e w' => ∃ v, e = .returned v ∧ (Is (.bool (decide (Zy n)))) lab w' v ∧ Below w.heap.size w w') := by
 obtain ⟨L0, h0L, ⟨zU0, z00⟩, hX⟩ := QZ hv
 replace h0 := up z00 h0
 obtain ⟨A1, c2, rfl⟩ := Qi.shape h0
 have z3 := Qi.cap h0
 refine Qu Try.func182 rfl Try.ntmps182 (lB9 rfl) ?_
 refine rsr ?_
 refine Yz 2 [.slice A1 (nw n) c2] h0L rfl rfl fun b6 L4 w5 o7 s8 h9 => ?_
 refine sv (Qa.assign rfl) ?_
 refine nsr ?_
 refine sv (Qb [.slice A1 (nw n) c2] o7 Qn rfl rfl) ?_
 have q10 := up s8 h0
 refine Q7 (V := Is (i64 ((QL n : Nat) : Int))) X4 h9 rfl (ZZ h9 q10 (show nw n ≤ 1000000 from by assumption)) fun v11 w12 q13 s14 h15 => ?_
 have q13 := Is.out q13; subst q13
 refine sv (Qa.gtr rfl rfl) ?_
 refine sv (Qa.assign rfl) ?_
 refine Seq.next ?_
 have c16 := s8.trans s14
 obtain ⟨⟨zU, zo⟩, zb⟩ := hX c16 (by decide)
 refine Run.ret ?_
 exact Qm Try.results182 rfl ⟨_, rfl, (Jj (by (exact decide_eq_decide.2 (by unfold Zy; omega))) _ _), zb⟩
theorem QdC {lab : Lab} {w : World} (hv : Ql lab w) {chain : List StepD} {v0 : Value} (h0 : Jy chain lab w v0) (hc : ∀ i, i < List.length chain → nw (List.getD chain i QD).n ≤ 100000 ∧ nw (List.getD chain i QD).base ≤ 100000 ∧ ∀ x ∈ (List.getD chain i QD).primes, nw x ≤ 100000) (hl : ∀ i, i < List.length chain → List.length (List.getD chain i QD).primes ≤ 100000) :
  Calls Try.prog 156 #[v0] w (fun e w' => ∃ v, e = .returned v ∧ (Is (i64 (ZM chain))) lab w' v ∧ Below w.heap.size w w') := by
 obtain ⟨L0, h0L, ⟨zU0, z00⟩, hX⟩ := QZ hv
 replace h0 := up z00 h0
 obtain ⟨A1, c2, rfl⟩ := Jy.shape h0
 have z3 := Jy.cap h0
 refine Qu Try.func156 rfl Try.ntmps156 (lB9 rfl) ?_
 refine rsr ?_
 refine sv (Qa.assign rfl) ?_
 refine Seq.next ?_
 refine Run.seq ?_
 refine rsr ?_
 refine sv (Qa.move rfl) ?_
 refine sv (Qa.len Try.underlying71 rfl) ?_
 refine sv (Qa.gtr rfl rfl) ?_
 refine Seq.next ?_
 rcases Decidable.em ((64 : Int) < (((List.length chain : Nat) : Int) : Int)) with hp1 | hp1
 ·refine Qc rfl (dT9 hp1) ?_
  refine rsr ?_
  refine sv (Qa.assign rfl) ?_
  refine Seq.next ?_
  have z9 := Stp.refl L0 w
  obtain ⟨⟨zU, zo⟩, zb⟩ := hX z9 (by decide)
  refine Run.ret (Qr ?_)
  exact Qm Try.results156 rfl ⟨_, rfl, (JF (by exact Qjg hp1) _ _), zb⟩
 refine Qc rfl (dF9 hp1) ?_
 refine Qg (fun _ _ h => h) ?_
 refine Run.seq ?_
 refine rsr ?_
 refine sv (Qa.move rfl) ?_
 refine sv (Qa.len Try.underlying71 rfl) ?_
 refine sv (Qa.move rfl) ?_
 refine Seq.next ?_
 refine Run.block ?_
 refine Run.loop (fun m' l' w' => ∃ (i : Nat) (lab' : Lab), m' = List.length chain - i ∧ l' = [(15, i64 ((i : Nat) : Int)), (0, .slice A1 (List.length chain) c2), (13, .slice A1 (List.length chain) c2), (14, i64 ((List.length chain : Nat) : Int))] ∧ Ql lab' w' ∧ Stp [5, 7, 924] L0 w lab' w' ∧ (i ≤ List.length chain) ∧ (∀ a, a < i → ∀ x ∈ Zd (List.getD chain a QD), ¬ Zy x)) (List.length chain - 0) (l0 := [(15, i64 ((0 : Nat) : Int)), (0, .slice A1 (List.length chain) c2), (13, .slice A1 (List.length chain) c2), (14, i64 ((List.length chain : Nat) : Int))]) ⟨(congrArg (fun z => some (i64 z)) (show (0 : Int) = ((0 : Nat) : Int) from by rfl)), rfl, rfl, rfl, trivial⟩ ⟨0, L0, rfl, rfl, h0L, ((Stp.refl _ _).more (by simp)), (by omega), (by omega)⟩ ?_
 intro m4 l5 w6 H7
 obtain ⟨i, lab8, hzm, rfl, hv9, s10, hi, hL⟩ := H7
 replace hzm := hzm.symm; subst hzm
 refine rsr ?_
 refine sv (Qa.lss rfl rfl) ?_
 refine Seq.next ?_
 refine Run.seq ?_
 rcases Decidable.em ((((i : Nat) : Int) : Int) < (((List.length chain : Nat) : Int) : Int)) with hp2 | hp2
 rotate_left
 ·refine Qc rfl (dF9 hp2) ?_
  refine Qv (fun _ _ h => h) ?_
  refine rsr ?_
  refine sv (Qa.assign rfl) ?_
  refine Seq.next ?_
  refine Run.seq ?_
  refine rsr ?_
  refine sv (Qa.move rfl) ?_
  refine sv (Qa.len Try.underlying71 rfl) ?_
  refine sv (Qa.move rfl) ?_
  refine Seq.next ?_
  refine Run.block ?_
  refine Run.loop (fun m' l' w' => ∃ (m : Nat) (lab' : Lab) (ux907 : Value), m' = List.length chain - m ∧ l' = [(38, i64 ((m : Nat) : Int)), (7, ux907), (36, .slice A1 (List.length chain) c2), (37, i64 ((List.length chain : Nat) : Int))] ∧ Ql lab' w' ∧ Stp [10, 907] lab8 w6 lab' w' ∧ QkO lab' w' 907 60 ux907 m (ZX chain m) ∧ (m ≤ List.length chain) ∧ (∀ a, a < m → Zs (List.getD chain a QD) (ZX chain a))) (List.length chain - 0) (l0 := [(38, i64 ((0 : Nat) : Int)), (7, .slice none 0 0), (36, .slice A1 (List.length chain) c2), (37, i64 ((List.length chain : Nat) : Int))]) ⟨(congrArg (fun z => some (i64 z)) (show (0 : Int) = ((0 : Nat) : Int) from by rfl)), rfl, rfl, rfl, trivial⟩ ⟨0, lab8, (.slice none 0 0), rfl, rfl, hv9, ((Stp.refl _ _).more (by simp)), (QkO.mk (show ([]) = (ZX chain 0) from by rfl) (show 0 = 0 from by rfl) (App.nil (lab := lab8) (w := w6) (d := 907) (t := 60)) trivial), (by omega), (by omega)⟩ ?_
  intro m128 l129 w130 H131
  obtain ⟨m, lab132, v135, hzm, rfl, hv133, s134, o136, hm, hH⟩ := H131
  replace hzm := hzm.symm; subst hzm
  obtain ⟨cs137, o138, q139⟩ := o136
  obtain ⟨A140, c141, rfl⟩ := App.shape o138
  have z143 := (App.row o138).2
  have hnl := QcK (by omega) hL
  have hN9 := fun h => QgD hnl (i := m) h
  refine rsr ?_
  refine sv (Qa.lss rfl rfl) ?_
  refine Seq.next ?_
  refine Run.seq ?_
  rcases Decidable.em ((((m : Nat) : Int) : Int) < (((List.length chain : Nat) : Int) : Int)) with hp3 | hp3
  rotate_left
  ·refine Qc rfl (dF9 hp3) ?_
   refine Qv (fun _ _ h => h) ?_
   refine rsr ?_
   refine sv (Qa.assign rfl) ?_
   refine Seq.next ?_
   have c218 := s10.trans s134
   obtain ⟨⟨zU, zo⟩, zb⟩ := hX c218 (by decide)
   refine Run.ret ?_
   exact Qm Try.results156 rfl ⟨_, rfl, (JF (by exact Qjd hp1 (QcK (by omega) hL) (by omega) hH) _ _), zb⟩
  refine Qc rfl (dT9 hp3) ?_
  refine Qg (fun _ _ h => h) ?_
  refine Run.seq ?_
  refine Run.block ?_
  refine rsr ?_
  have c153 := s10.trans s134
  have q154 := up c153 h0
  obtain ⟨vs144, a145, b146, d147, m148, r149, u150, q151⟩ := Jy.at_ q154 m (by omega)
  obtain ⟨A155, c156, A157, c158, A159, c160, z152, q161, q162, q163⟩ := Z0.open q151; cases z152
  have z164 := Qi.cap q161
  have z165 := Qi.cap q162
  have z166 := Jd.cap q163
  refine sv (Y5 m Try.underlying71 Qar rfl rfl r149 m148 (by decide) (by omega) (by omega)) ?_
  refine sv (YF [.slice A155 (nw (List.getD chain m QD).n) c156, .slice A157 (nw (List.getD chain m QD).base) c158, .slice A159 (List.length (List.getD chain m QD).primes) c160] Qar rfl r149 u150 (Nat.succ_pos _)) ?_
  refine QM 10 [.slice none 0 0, .slice none 0 0, .slice none 0 0] hv133 Qar rfl fun b169 L167 w168 o170 s171 h172 => ?_
  refine Q2 [.slice A155 (nw (List.getD chain m QD).n) c156, .slice A157 (nw (List.getD chain m QD).base) c158, .slice A159 (List.length (List.getD chain m QD).primes) c160] h172 o170 Qar rfl rfl rfl (lB9 rfl) rfl rfl fun w173 o174 s175 h176 => ?_
  refine Seq.next ?_
  refine Run.seq ?_
  refine rsr ?_
  refine sv (Qb [.slice A155 (nw (List.getD chain m QD).n) c156, .slice A157 (nw (List.getD chain m QD).base) c158, .slice A159 (List.length (List.getD chain m QD).primes) c160] o174 Qar rfl rfl) ?_
  refine sv (Qa.move rfl) ?_
  have c178 := s171.trans s175
  have o177 := o138.up c178
  have q179 := J9.step c178 q139
  have q180 := QcY o177 (J9.step (Stp.release 907) q179)
  have q182 := up c178 q161
  have q183 := up c178 q162
  have q184 := up c178 q163
  have q181 : Z0 (List.getD chain m QD) (Q5 L167 907) w173 (.agg #[.slice A155 (nw (List.getD chain m QD).n) c156, .slice A157 (nw (List.getD chain m QD).base) c158, .slice A159 (List.length (List.getD chain m QD).primes) c160]) := Z0.mk (X8 907 q182) (X8 907 q183) (X8 907 q184)
  refine Q7 (V := Is (.bool (decide (Zs (List.getD chain m QD) (ZX chain m))))) Qky h176 rfl (QdB (Ql.release h176 907) q181 q180 (show nw (List.getD chain m QD).n ≤ 32 from by exact hN9 (by omega) _ (by simp [Zd]; done)) (show nw (List.getD chain m QD).base ≤ 32 from by exact hN9 (by omega) _ (by simp [Zd]; done)) (show ∀ x ∈ (List.getD chain m QD).primes, nw x ≤ 32 from by exact fun x hx => hN9 (by omega) x (List.mem_append_right _ hx))) fun v185 w186 q187 s188 h189 => ?_
  have q187 := Is.out q187; subst q187
  refine sv (Qa.not rfl) ?_
  refine Seq.next ?_
  rcases ZN (!(decide (Zs (List.getD chain m QD) (ZX chain m)))) with hc4 | hc4
  ·refine Qc rfl hc4 ?_
   refine rsr ?_
   refine sv (Qa.assign rfl) ?_
   refine Seq.next ?_
   have c190 := c178.trans s188
   have c191 := c153.trans c190
   obtain ⟨⟨zU, zo⟩, zb⟩ := hX c191 (by decide)
   refine Run.ret (Qr (QQ (Qr (Qr (QQ (Qr ?_))))))
   exact Qm Try.results156 rfl ⟨_, rfl, (JF (by exact Qje hp1 hnl (by omega) (QcP hc4)) _ _), zb⟩
  refine Qc rfl hc4 ?_
  refine Qg (fun _ _ h => h) ?_
  refine Run.region ?_
  refine sv (Qa.move rfl) ?_
  refine sv (Qd 0 Try.underlying77 rfl Qn rfl rfl) ?_
  have o192 := o174.up s188
  refine sv (Qb [.slice A155 (nw (List.getD chain m QD).n) c156] o192 Qn rfl rfl) ?_
  refine QR [(0, .agg #[.slice A155 (nw (List.getD chain m QD).n) c156])] [.slice A155 (nw (List.getD chain m QD).n) c156] h189 Try.underlying38 Qn (by decide) (by decide) rfl (by kernel_rfl) (by decide) ?_
  intro w193 b194 r195 s196 hv197
  have c199 := s188.trans s196
  have o198 := o177.up c199
  refine Seq.append (k := 907) [.slice A155 (nw (List.getD chain m QD).n) c156] hv197 o198 Try.underlying38 Qn rfl rfl rfl rfl r195 (by intro u hu; rw [List.mem_singleton] at hu; subst hu; rfl) (by omega) (by omega) (by decide) ?_
  intro lab200 w201 v202 o203 s204 hv205
  have c207 := c199.trans s204
  have q208 := up c207 q182
  have q209 := J9.step c207 q179
  have q206 := U6 q208 q209
  obtain ⟨A210, c211, rfl⟩ := App.shape o203
  have z213 := (App.row o203).2
  refine sv (Qa.assign rfl) ?_
  refine QH (fun _ _ h => h) ?_
  refine Run.region ?_
  refine sv (Qa.add rfl rfl (by omega)) ?_
  refine sv (Qa.move rfl) ?_
  have c214 := c178.trans c207
  have c215 := s134.trans c214
  exact Seq.nil (fun a216 h217 => ⟨_, by omega, _, h217.weaken (QG (l' := [(38, i64 (((m + 1) : Nat) : Int)), (7, .slice A210 (m + 1) c211), (36, .slice A1 (List.length chain) c2), (37, i64 ((List.length chain : Nat) : Int))]) ⟨(congrArg (fun z => some (i64 z)) (show (((m : Nat) : Int) + 1 : Int) = (((m + 1) : Nat) : Int) from by rfl)), rfl, rfl, rfl, trivial⟩), ⟨m + 1, lab200, (.slice A210 (m + 1) c211), rfl, rfl, hv205, (c215.more (by decide)), (QkO.mk (show (ZX chain m ++ [(List.getD chain m QD).n]) = (ZX chain (m + 1)) from by exact QaV (by omega)) (show m + 1 = (m + 1) from by rfl) o203 q206), (by omega), (by exact Xu hH (ZW hc4))⟩⟩)
 refine Qc rfl (dT9 hp2) ?_
 refine Qg (fun _ _ h => h) ?_
 refine Run.seq ?_
 refine Run.block ?_
 refine rsr ?_
 have q20 := up s10 h0
 obtain ⟨vs11, a12, b13, d14, m15, r16, u17, q18⟩ := Jy.at_ q20 i (by omega)
 obtain ⟨A21, c22, A23, c24, A25, c26, z19, q27, q28, q29⟩ := Z0.open q18; cases z19
 have z30 := Qi.cap q27
 have z31 := Qi.cap q28
 have z32 := Jd.cap q29
 refine sv (Y5 i Try.underlying71 Qar rfl rfl r16 m15 (by decide) (by omega) (by omega)) ?_
 refine sv (YF [.slice A21 (nw (List.getD chain i QD).n) c22, .slice A23 (nw (List.getD chain i QD).base) c24, .slice A25 (List.length (List.getD chain i QD).primes) c26] Qar rfl r16 u17 (Nat.succ_pos _)) ?_
 refine QM 5 [.slice none 0 0, .slice none 0 0, .slice none 0 0] hv9 Qar rfl fun b35 L33 w34 o36 s37 h38 => ?_
 refine Q2 [.slice A21 (nw (List.getD chain i QD).n) c22, .slice A23 (nw (List.getD chain i QD).base) c24, .slice A25 (List.length (List.getD chain i QD).primes) c26] h38 o36 Qar rfl rfl rfl (lB9 rfl) rfl rfl fun w39 o40 s41 h42 => ?_
 refine nsr ?_
 refine sv (Qd 0 Try.underlying77 rfl Qn rfl rfl) ?_
 refine sv (Qb [.slice A21 (nw (List.getD chain i QD).n) c22] o40 Qn rfl rfl) ?_
 refine sv (Qd 1 Try.underlying77 rfl Qn rfl rfl) ?_
 refine sv (Qb [.slice A23 (nw (List.getD chain i QD).base) c24] o40 Qn rfl rfl) ?_
 have c43 := s37.trans s41
 have q44 := up c43 q27
 have q45 := up c43 q28
 refine Qan (k := 924) [(0, .agg #[.slice A21 (nw (List.getD chain i QD).n) c22]), (1, .agg #[.slice A23 (nw (List.getD chain i QD).base) c24])] [.slice A21 (nw (List.getD chain i QD).n) c22, .slice A23 (nw (List.getD chain i QD).base) c24] h42 Try.underlying38 Qn (by decide) (by decide) rfl rfl (by kernel_rfl) (by decide) ?_
 intro L46 w47 v48 o49 s50 h51
 have q52 : J9 L46 w47 [(List.getD chain i QD).n, (List.getD chain i QD).base] [.slice A21 (nw (List.getD chain i QD).n) c22, .slice A23 (nw (List.getD chain i QD).base) c24] := ⟨up s50 q44, up s50 q45, trivial⟩
 obtain ⟨A53, c54, rfl⟩ := App.shape o49
 have z56 := (App.row o49).2
 refine sv (Qd 2 Try.underlying77 rfl QdN rfl rfl) ?_
 have o57 := o40.up s50
 refine sv (Qf o57 QdN rfl rfl) ?_
 have c70 := c43.trans s50
 have q71 := up c70 q29
 obtain ⟨vs58, m59, r60, e61, m62⟩ := Jd.cells q71
 refine Seq.append (k := 924) vs58 h51 o49 Try.underlying38 Qn rfl rfl rfl m59 r60 m62 (by (have := hl i (by omega); omega)) (by (have := hl i (by omega); omega)) (by decide) ?_
 intro L63 w64 v65 o66 s67 h68
 have q69 := J9.append (J9.step s67 q52) (J9.step s67 e61)
 obtain ⟨A72, c73, rfl⟩ := App.shape o66
 have z75 := (App.row o66).2
 have hv76 := Ql.release h68 924
 have q77 : Jd ([(List.getD chain i QD).n, (List.getD chain i QD).base] ++ ((List.getD chain i QD).primes)) (Q5 L63 924) w64 (.slice A72 (2 + (List.length (List.getD chain i QD).primes)) c73) := QcY o66 (J9.step (Stp.release 924) q69)
 refine sv (Qa.len Try.underlying38 rfl) ?_
 refine sv (Qa.move rfl) ?_
 refine Seq.next ?_
 refine Run.block ?_
 refine Run.loop (fun m' l' w' => ∃ (j : Nat) (lab' : Lab), m' = List.length (Zd (List.getD chain i QD)) - j ∧ l' = [(28, i64 ((j : Nat) : Int)), (0, .slice A1 (List.length chain) c2), (13, .slice A1 (List.length chain) c2), (14, i64 ((List.length chain : Nat) : Int)), (15, i64 ((i : Nat) : Int)), (26, .slice A72 (2 + (List.length (List.getD chain i QD).primes)) c73), (27, i64 ((2 + (List.length (List.getD chain i QD).primes) : Nat) : Int))] ∧ Ql lab' w' ∧ Stp [7] (Q5 L63 924) w64 lab' w' ∧ (j ≤ List.length (Zd (List.getD chain i QD))) ∧ (∀ b, b < j → ¬ Zy (List.getD (Zd (List.getD chain i QD)) b 0))) (List.length (Zd (List.getD chain i QD)) - 0) (l0 := [(28, i64 ((0 : Nat) : Int)), (0, .slice A1 (List.length chain) c2), (13, .slice A1 (List.length chain) c2), (14, i64 ((List.length chain : Nat) : Int)), (15, i64 ((i : Nat) : Int)), (26, .slice A72 (2 + (List.length (List.getD chain i QD).primes)) c73), (27, i64 ((2 + (List.length (List.getD chain i QD).primes) : Nat) : Int))]) ⟨(congrArg (fun z => some (i64 z)) (show (0 : Int) = ((0 : Nat) : Int) from by rfl)), rfl, rfl, rfl, rfl, rfl, rfl, trivial⟩ ⟨0, (Q5 L63 924), rfl, rfl, hv76, ((Stp.refl _ _).more (by simp)), (by omega), (by omega)⟩ ?_
 intro m78 l79 w80 H81
 obtain ⟨j, lab82, hzm, rfl, hv83, s84, hj, hLj⟩ := H81
 replace hzm := hzm.symm; subst hzm
 have hsl : List.length (Zd (List.getD chain i QD)) = 2 + List.length (List.getD chain i QD).primes := by simp [Zd]; omega
 refine rsr ?_
 refine sv (Qa.lss rfl rfl) ?_
 refine Seq.next ?_
 refine Run.seq ?_
 rcases Decidable.em ((((j : Nat) : Int) : Int) < (((2 + (List.length (List.getD chain i QD).primes) : Nat) : Int) : Int)) with hp3 | hp3
 rotate_left
 ·refine Qc rfl (dF9 hp3) ?_
  refine Qv (fun _ _ h => h) ?_
  refine Run.region ?_
  refine sv (Qa.add rfl rfl (by omega)) ?_
  refine sv (Qa.move rfl) ?_
  have c122 := (Stp.release (lab := L63) (w := w64) 924).trans s84
  have c123 := s67.trans c122
  have c124 := c70.trans c123
  have c125 := s10.trans c124
  exact Seq.nil (fun a126 h127 => ⟨_, by omega, _, h127.weaken (QG (l' := [(15, i64 (((i + 1) : Nat) : Int)), (0, .slice A1 (List.length chain) c2), (13, .slice A1 (List.length chain) c2), (14, i64 ((List.length chain : Nat) : Int))]) ⟨(congrArg (fun z => some (i64 z)) (show (((i : Nat) : Int) + 1 : Int) = (((i + 1) : Nat) : Int) from by rfl)), rfl, rfl, rfl, trivial⟩), ⟨i + 1, lab82, rfl, rfl, hv83, (c125.more (by decide)), (by omega), (by exact Qd9 hL (QfA (by omega) hLj))⟩⟩)
 refine Qc rfl (dT9 hp3) ?_
 refine Qg (fun _ _ h => h) ?_
 refine Run.seq ?_
 refine Run.block ?_
 refine rsr ?_
 have q91 := up s84 q77
 obtain ⟨vs85, u86, m87, r88, q89, q90⟩ := Jd.at_ q91 j (by omega)
 obtain ⟨A92, c93, hz⟩ := Qi.shape q90; cases hz
 have z94 := Qi.cap q90
 refine sv (Qs j Try.underlying38 Qn rfl rfl r88 m87 (by omega) (by omega)) ?_
 refine sv (JZ Qn rfl r88 q89) ?_
 refine QM 7 [.slice none 0 0] hv83 Qn rfl fun b97 L95 w96 o98 s99 h100 => ?_
 refine Q2 [.slice A92 (nw (List.getD ([(List.getD chain i QD).n, (List.getD chain i QD).base] ++ ((List.getD chain i QD).primes)) j 0)) c93] h100 o98 Qn rfl rfl rfl (lB9 rfl) rfl rfl fun w101 o102 s103 h104 => ?_
 refine nsr ?_
 refine sv (Qb [.slice A92 (nw (List.getD ([(List.getD chain i QD).n, (List.getD chain i QD).base] ++ ((List.getD chain i QD).primes)) j 0)) c93] o102 Qn rfl rfl) ?_
 have c105 := s99.trans s103
 have q106 := up c105 q90
 refine Q7 (V := Is (.bool (decide (Zy (List.getD ([(List.getD chain i QD).n, (List.getD chain i QD).base] ++ ((List.getD chain i QD).primes)) j 0))))) Qkz h104 rfl (QfB h104 q106 (show nw (List.getD ([(List.getD chain i QD).n, (List.getD chain i QD).base] ++ ((List.getD chain i QD).primes)) j 0) ≤ 1000000 from by (have h9 := hc i (by omega); have h8 := Qed h9.1 h9.2.1 h9.2.2 j; exact Nat.le_trans h8 (by omega)))) fun v107 w108 q109 s110 h111 => ?_
 have q109 := Is.out q109; subst q109
 refine Seq.next ?_
 rcases Decidable.em (Zy (List.getD ([(List.getD chain i QD).n, (List.getD chain i QD).base] ++ ((List.getD chain i QD).primes)) j 0)) with hp4 | hp4
 ·refine Qc rfl (dT9 hp4) ?_
  refine rsr ?_
  refine sv (Qa.assign rfl) ?_
  refine Seq.next ?_
  have c112 := c105.trans s110
  have c113 := s84.trans c112
  have c114 := (Stp.release (lab := L63) (w := w64) 924).trans c113
  have c115 := s67.trans c114
  have c116 := c70.trans c115
  have c117 := s10.trans c116
  obtain ⟨⟨zU, zo⟩, zb⟩ := hX c117 (by decide)
  refine Run.ret (QQ (Qr (Qr (QQ (QQ (Qr (Qr (QQ (Qr ?_)))))))))
  exact Qm Try.results156 rfl ⟨_, rfl, (JF (by (exact Qjf (by omega) (by show j < _; omega) hp4)) _ _), zb⟩
 refine Qc rfl (dF9 hp4) ?_
 refine Qg (fun _ _ h => h) ?_
 refine Run.region ?_
 refine sv (Qa.add rfl rfl (by omega)) ?_
 refine sv (Qa.move rfl) ?_
 have c118 := c105.trans s110
 have c119 := s84.trans c118
 exact Seq.nil (fun a120 h121 => ⟨_, by omega, _, h121.weaken (QG (l' := [(28, i64 (((j + 1) : Nat) : Int)), (0, .slice A1 (List.length chain) c2), (13, .slice A1 (List.length chain) c2), (14, i64 ((List.length chain : Nat) : Int)), (15, i64 ((i : Nat) : Int)), (26, .slice A72 (2 + (List.length (List.getD chain i QD).primes)) c73), (27, i64 ((2 + (List.length (List.getD chain i QD).primes) : Nat) : Int))]) ⟨(congrArg (fun z => some (i64 z)) (show (((j : Nat) : Int) + 1 : Int) = (((j + 1) : Nat) : Int) from by rfl)), rfl, rfl, rfl, rfl, rfl, rfl, trivial⟩), ⟨j + 1, L95, rfl, rfl, h111, (c119.more (by decide)), (by omega), (by exact Xu hLj hp4)⟩⟩)
theorem Ux {lab : Lab} {w : World} (hv : Ql lab w) {n : Nat} {v0 : Value} (h0 : Qi n lab w v0) {chain : List StepD} {v1 : Value} (h1 : Jy chain lab w v1) (hc : ∀ i, i < List.length chain → nw (List.getD chain i QD).n ≤ 100000 ∧ nw (List.getD chain i QD).base ≤ 100000 ∧ ∀ x ∈ (List.getD chain i QD).primes, nw x ≤ 100000) (hl : ∀ i, i < List.length chain → List.length (List.getD chain i QD).primes ≤ 100000) :
  Calls Try.prog 110 #[v0, v1] w (fun e w' => ∃ v, e = .returned v ∧ (Is (.bool (decide (Zg n chain)))) lab w' v ∧ Below w.heap.size w w') := by
 obtain ⟨L0, h0L, ⟨zU0, z00⟩, hX⟩ := QZ hv
 replace h0 := up z00 h0
 obtain ⟨A1, c2, rfl⟩ := Qi.shape h0
 have z3 := Qi.cap h0
 replace h1 := up z00 h1
 obtain ⟨A4, c5, rfl⟩ := Jy.shape h1
 have z6 := Jy.cap h1
 refine Qu Try.func110 rfl Try.ntmps110 (lB9 rfl) ?_
 refine rsr ?_
 refine Yz 3 [.slice A1 (nw n) c2] h0L rfl rfl fun b9 L7 w8 o10 s11 h12 => ?_
 refine sv (Qa.assign rfl) ?_
 refine Seq.next ?_
 refine Run.seq ?_
 refine rsr ?_
 refine sv (Qb [.slice A1 (nw n) c2] o10 Qn rfl rfl) ?_
 have q13 := up s11 h0
 refine Q7 (V := Is (.bool (decide (ZJ n)))) QhH h12 rfl (Uw h12 q13) fun v14 w15 q16 s17 h18 => ?_
 have q16 := Is.out q16; subst q16
 refine Seq.next ?_
 rcases Decidable.em (ZJ n) with hp1 | hp1
 ·refine Qc rfl (dT9 hp1) ?_
  refine rsr ?_
  refine sv (Qa.assign rfl) ?_
  refine Seq.next ?_
  have c19 := s11.trans s17
  obtain ⟨⟨zU, zo⟩, zb⟩ := hX c19 (by decide)
  refine Run.ret (Qr ?_)
  exact Qm Try.results110 rfl ⟨_, rfl, (Jj (by exact Qix hp1) _ _), zb⟩
 refine Qc rfl (dF9 hp1) ?_
 refine Qg (fun _ _ h => h) ?_
 refine Run.seq ?_
 refine rsr ?_
 refine sv (Qa.move rfl) ?_
 have c20 := s11.trans s17
 have q21 := up c20 h1
 refine Q7 (V := Is (i64 (ZM chain))) Qk7 h18 rfl (QdC h18 q21 (show ∀ i, i < List.length chain → nw (List.getD chain i QD).n ≤ 100000 ∧ nw (List.getD chain i QD).base ≤ 100000 ∧ ∀ x ∈ (List.getD chain i QD).primes, nw x ≤ 100000 from by assumption) (show ∀ i, i < List.length chain → List.length (List.getD chain i QD).primes ≤ 100000 from by assumption)) fun v22 w23 q24 s25 h26 => ?_
 have q24 := Is.out q24; subst q24
 refine sv (Qa.neq rfl rfl) ?_
 refine Seq.next ?_
 rcases Decidable.em ((ZM chain : Int) ≠ (0 : Int)) with hp2 | hp2
 ·refine Qc rfl (dT9 hp2) ?_
  refine rsr ?_
  refine sv (Qa.assign rfl) ?_
  refine Seq.next ?_
  have c27 := c20.trans s25
  obtain ⟨⟨zU, zo⟩, zb⟩ := hX c27 (by decide)
  refine Run.ret (Qr ?_)
  exact Qm Try.results110 rfl ⟨_, rfl, (Jj (by exact Qiw hp1 hp2) _ _), zb⟩
 refine Qc rfl (dF9 hp2) ?_
 refine Qg (fun _ _ h => h) ?_
 refine Run.seq ?_
 refine rsr ?_
 refine sv (Qa.move rfl) ?_
 refine sv (Qa.len Try.underlying71 rfl) ?_
 refine sv (Qa.move rfl) ?_
 refine Seq.next ?_
 refine Run.block ?_
 refine Run.loop (fun m' l' w' => ∃ (k : Nat) (lab' : Lab), m' = List.length chain - k ∧ l' = [(14, i64 ((k : Nat) : Int)), (2, .pointer (some ⟨b9, 0, none⟩)), (12, .slice A4 (List.length chain) c5), (13, i64 ((List.length chain : Nat) : Int))] ∧ Ql lab' w' ∧ Stp [7] L7 w23 lab' w' ∧ (k ≤ List.length chain) ∧ (∀ j, j < k → (List.getD chain j QD).n ≠ n)) (List.length chain - 0) (l0 := [(14, i64 ((0 : Nat) : Int)), (2, .pointer (some ⟨b9, 0, none⟩)), (12, .slice A4 (List.length chain) c5), (13, i64 ((List.length chain : Nat) : Int))]) ⟨(congrArg (fun z => some (i64 z)) (show (0 : Int) = ((0 : Nat) : Int) from by rfl)), rfl, rfl, rfl, trivial⟩ ⟨0, L7, rfl, rfl, h26, ((Stp.refl _ _).more (by simp)), (by omega), (by omega)⟩ ?_
 intro m28 l29 w30 H31
 obtain ⟨k, lab32, hzm, rfl, hv33, s34, hk, hall⟩ := H31
 replace hzm := hzm.symm; subst hzm
 refine rsr ?_
 refine sv (Qa.lss rfl rfl) ?_
 refine Seq.next ?_
 refine Run.seq ?_
 rcases Decidable.em ((((k : Nat) : Int) : Int) < (((List.length chain : Nat) : Int) : Int)) with hp3 | hp3
 rotate_left
 ·refine Qc rfl (dF9 hp3) ?_
  refine Qv (fun _ _ h => h) ?_
  refine rsr ?_
  refine sv (Qa.assign rfl) ?_
  refine Seq.next ?_
  have c85 := s25.trans s34
  have c86 := c20.trans c85
  obtain ⟨⟨zU, zo⟩, zb⟩ := hX c86 (by decide)
  refine Run.ret ?_
  exact Qm Try.results110 rfl ⟨_, rfl, (Jj (by exact Qiu hp1 (by omega) hall) _ _), zb⟩
 refine Qc rfl (dT9 hp3) ?_
 refine Qg (fun _ _ h => h) ?_
 refine Run.seq ?_
 refine Run.block ?_
 refine rsr ?_
 have c44 := s25.trans s34
 have q45 := up c44 q21
 obtain ⟨vs35, a36, b37, d38, m39, r40, u41, q42⟩ := Jy.at_ q45 k (by omega)
 obtain ⟨A46, c47, A48, c49, A50, c51, z43, q52, q53, q54⟩ := Z0.open q42; cases z43
 have z55 := Qi.cap q52
 have z56 := Qi.cap q53
 have z57 := Jd.cap q54
 refine sv (Y5 k Try.underlying71 Qar rfl rfl r40 m39 (by decide) (by omega) (by omega)) ?_
 refine sv (YF [.slice A46 (nw (List.getD chain k QD).n) c47, .slice A48 (nw (List.getD chain k QD).base) c49, .slice A50 (List.length (List.getD chain k QD).primes) c51] Qar rfl r40 u41 (Nat.succ_pos _)) ?_
 refine QM 7 [.slice none 0 0, .slice none 0 0, .slice none 0 0] hv33 Qar rfl fun b60 L58 w59 o61 s62 h63 => ?_
 refine Q2 [.slice A46 (nw (List.getD chain k QD).n) c47, .slice A48 (nw (List.getD chain k QD).base) c49, .slice A50 (List.length (List.getD chain k QD).primes) c51] h63 o61 Qar rfl rfl rfl (lB9 rfl) rfl rfl fun w64 o65 s66 h67 => ?_
 refine nsr ?_
 refine sv (Qd 0 Try.underlying77 rfl Qn rfl rfl) ?_
 refine sv (Qb [.slice A46 (nw (List.getD chain k QD).n) c47] o65 Qn rfl rfl) ?_
 have c69 := s62.trans s66
 have c70 := c44.trans c69
 have c71 := s17.trans c70
 have o68 := o10.up c71
 refine sv (Qb [.slice A1 (nw n) c2] o68 Qn rfl rfl) ?_
 have q72 := up c69 q52
 have q73 := up c71 q13
 refine Q7 (V := Is (i64 (Jo ((List.getD chain k QD).n) n))) ZP h67 rfl (J8 h67 q72 q73) fun v74 w75 q76 s77 h78 => ?_
 have q76 := Is.out q76; subst q76
 refine sv (Qa.eql rfl rfl) ?_
 refine Seq.next ?_
 rcases Decidable.em ((Jo ((List.getD chain k QD).n) n : Int) = (0 : Int)) with hp4 | hp4
 ·refine Qc rfl (dT9 hp4) ?_
  refine rsr ?_
  refine sv (Qa.assign rfl) ?_
  refine Seq.next ?_
  have c79 := c70.trans s77
  have c80 := c20.trans c79
  obtain ⟨⟨zU, zo⟩, zb⟩ := hX c80 (by decide)
  refine Run.ret (QQ (Qr (Qr (QQ (Qr ?_)))))
  exact Qm Try.results110 rfl ⟨_, rfl, (Jj (by exact Qiv (by omega) hp2 hp4) _ _), zb⟩
 refine Qc rfl (dF9 hp4) ?_
 refine Qg (fun _ _ h => h) ?_
 refine Run.region ?_
 refine sv (Qa.add rfl rfl (by omega)) ?_
 refine sv (Qa.move rfl) ?_
 have c81 := c69.trans s77
 have c82 := s34.trans c81
 exact Seq.nil (fun a83 h84 => ⟨_, by omega, _, h84.weaken (QG (l' := [(14, i64 (((k + 1) : Nat) : Int)), (2, .pointer (some ⟨b9, 0, none⟩)), (12, .slice A4 (List.length chain) c5), (13, i64 ((List.length chain : Nat) : Int))]) ⟨(congrArg (fun z => some (i64 z)) (show (((k : Nat) : Int) + 1 : Int) = (((k + 1) : Nat) : Int) from by rfl)), rfl, rfl, rfl, trivial⟩), ⟨k + 1, L58, rfl, rfl, h78, (c82.more (by decide)), (by omega), (by exact Xu hall (fun e => hp4 (by rw [XC]; exact e)))⟩⟩)
end Go.Proofs.Ytgfomedobfaidaa
end
