/-
  Arguments of a row, opened: structs of fields of one cell, rows of bytes; and a row's last step.
-/
import Derived.Test.YtgfomedobfaidaaSem
import Derived.ProofKit
import Derived.Deep.Fields
set_option linter.unusedVariables false
set_option linter.unusedSimpArgs false
namespace Go.Proofs.Ytgfomedobfaidaa
open Go.ChangeShapes Go.WideShapes Go.ChangeAt Go.RowKit Go.Deep

abbrev lab0 : Lab := fun _ => none
theorem valid0 (w : World) : Valid lab0 w := fun _ _ => rfl

section
variable {H : Type} {enc : TypeId × Value → H} {P : Program} {w : World} {base : Nat} {spare : Nat → Bool} {held : Bool}

/-- A struct whose fields have one cell each: its cells, each with its field's reading. -/
theorem open_fields {r : Reach} {b0 : Nat} {t : TypeId} {fs : Array Field} {v : Value} {d : DataW H} {p : List MemPlace} (hs : P.underlying t = some (.struct fs)) (hone : oneCellFields P fs = true) (hC : P.cellsOf t = fs.size)
    (hv : Value.okWide P w r b0 t v) (h : DataW.Trod enc P w base spare held t v d p) :
    ∃ cs : List Value, v = .agg cs.toArray ∧ cs.length = fs.size ∧ ∀ (j : Nat) (f : Field) (c : Value), fs[j]? = some f → cs[j]? = some c → ∃ n y, DataW.trod enc P w base spare held n f.type [c] = some y := by
  obtain ⟨cs, rfl, hsz⟩ := okWide_struct hs hv
  obtain ⟨l⟩ := cs
  have hl : l.length = fs.size := by have := hsz.trans hC; simpa using this
  refine ⟨l, rfl, hl, fun j f c hj hc => ?_⟩
  obtain ⟨fuel, hf⟩ := h
  obtain ⟨xs, n, _, hx, _, hlen, hg⟩ := DataW.trod_struct hs hf
  obtain ⟨ho, hk⟩ := hone_of hone j f hj
  have hjl : j < l.length := (List.getElem?_eq_some_iff.1 hc).1
  have h1 := hg j f hj
  rw [ho, hk] at h1
  have e1 : ((Value.agg l.toArray).cells.toList.drop j).take 1 = [c] := by
    show (l.drop j).take 1 = [c]
    rw [List.drop_eq_getElem_cons hjl, List.take_succ_cons, List.take_zero]
    rw [List.getElem?_eq_getElem hjl] at hc
    rw [Option.some.inj hc]
  rw [e1] at h1
  have hys : xs[j]? = some (xs[j]'(by omega)) := List.getElem?_eq_getElem (by omega)
  exact ⟨n, _, h1.trans hys⟩
/-- A row of bytes. -/
theorem open_bytesV {t e : TypeId} {c : Value} {n : Nat} {y : DataW H × List MemPlace} (ht : P.underlying t = some (.slice e)) (he : P.underlying e = some (.int .u8)) (hc : P.cellsOf e = 1)
    (h : DataW.trod enc P w 0 (fun _ => true) true n t [c] = some y) : ∃ bs, BytesV bs lab0 w c := by
  rcases open_ints ht he hc h with ⟨hcs, _⟩ | ⟨a, len, cap, zs, hcs, _, hl, hm, hz, _, hcell, hwf⟩
  · simp at hcs; subst hcs
    exact ⟨[], BytesV.nil _ _⟩
  · simp at hcs; subst hcs
    simp only [if_true] at hz
    refine ⟨(zs.take len).map (fun z => UInt8.ofNat z.toNat), some a, cap, by simp; omega, by simp; omega, by unfold maxLen at hm; omega, ?_⟩
    by_cases h0 : zs.length = 0
    · have : zs = [] := List.eq_nil_of_length_eq_zero h0
      subst this
      simp
      exact RowAt.nil
    · obtain ⟨b, o, s⟩ := a
      obtain rfl : s = none := by simpa [Addr.add] using World.cell?_spot (hcell 0 (by omega))
      have hb : ∃ arr t' fr, w.heap[b]? = some (.cells arr t' fr) := by
        have := hcell 0 (by omega)
        rw [add_flat] at this
        unfold World.cell? at this
        dsimp only at this
        cases hq : w.heap[b]? with
        | none => rw [hq] at this; cases this
        | some ob =>
          cases ob with
          | cells arr t' fr => exact ⟨arr, t', fr, rfl⟩
          | _ => rw [hq] at this; cases this
      obtain ⟨arr, t', fr, hb⟩ := hb
      refine .inr ⟨b, o, arr, t', fr, rfl, rfl, hb, fun j v hj => ?_⟩
      rw [List.map_map, List.getElem?_map, Option.map_eq_some_iff] at hj
      obtain ⟨z, hzj, rfl⟩ := hj
      have hjl : j < len := by
        by_cases hjl : j < len
        · exact hjl
        · rw [List.getElem?_take, if_neg hjl] at hzj; cases hzj
      rw [List.getElem?_take_of_lt hjl] at hzj
      have hjz : j < zs.length := (List.getElem?_eq_some_iff.1 hzj).1
      have hc2 := hcell j hjz
      rw [add_flat, cell_of_row w b _ arr t' fr hb] at hc2
      rw [hc2]
      have e1 : zs.getD j 0 = z := by simp [List.getD, hzj]
      rw [e1]
      have hw := hwf z (List.mem_of_getElem? hzj)
      have h1 : IntKind.u8.min = 0 := rfl
      have h2 : IntKind.u8.max = 255 := rfl
      simp only [Lit.wf, Bool.and_eq_true, decide_eq_true_eq] at hw
      simp only [Function.comp_apply]
      congr 2
      simp
      omega
theorem open_i64 {t : TypeId} {c : Value} {n : Nat} {y : DataW H × List MemPlace} (ht : P.underlying t = some (.int .i64)) (h : DataW.trod enc P w base spare held n t [c] = some y) : ∃ x, c = i64 x ∧ -9223372036854775808 ≤ x ∧ x < 9223372036854775808 := by
  obtain ⟨x, hx, _, hw⟩ := DataW.trod_int ht h
  simp at hx
  have h1 : IntKind.i64.min = -9223372036854775808 := rfl
  have h2 : IntKind.i64.max = 9223372036854775807 := rfl
  simp only [Lit.wf, Bool.and_eq_true, decide_eq_true_eq] at hw
  exact ⟨x, hx, by omega, by omega⟩
/-- The last step of a row: nothing that was there has turned. -/
theorem post_of_below {f : Func} {s : ChangeSpec} {apart fresh handsOn again : Bool} {W W' : World} {args : Array Value} {v : Value} {ds gs : List (DataW H)} {before pa pv : List MemPlace}
    (hW : DataW.Whole enc P f.params.toList s.vars apart W args.toList ds gs before)
    (hres : ∀ (b : Nat) (sp : Nat → Bool) (hd : Bool), DataW.TrodAll enc P W' b sp hd f.resultTypes.toList (v.resultList f.resultTypes.size) (s.fn H (ds ++ gs)).results [])
    (hargs : ∀ sp : Nat → Bool, (∀ p ∈ before, sp p.block = true) → DataW.TrodAll enc P W' 0 sp true f.params.toList args.toList (s.fn H (ds ++ gs)).args pa)
    (hvars : ∀ sp : Nat → Bool, (∀ p ∈ before, sp p.block = true) → DataW.TrodVars enc P W' sp s.vars (s.fn H (ds ++ gs)).vars pv)
    (hps : before = pa ++ pv) (hb : Below W.heap.size W W')
    (hok : ∀ (j : Nat) (t : TypeId) (r : Value), f.resultTypes[j]? = some t → (v.resultList f.resultTypes.size)[j]? = some r → Value.okWide P W' .any 0 t r) :
    s.post enc P f apart fresh handsOn again W args v W' := by
  have hlt : ∀ p ∈ before, p.block < W.heap.size := fun p hp => hW.lt p hp
  have hold : ∀ p ∈ before, (fun b => decide (b < W.heap.size)) p.block = true := fun p hp => by simpa using hlt p hp
  refine ⟨ds, gs, before, [], pa, pv, hW, hres _ _ _, hargs _ hold, hvars _ hold, World.keptBut_mono (fun p hp => ⟨hp, ?_⟩) (hb.frame (· ∈ before)), fun _ => ?_⟩
  · rw [hps, List.mem_append] at hp
    exact Or.inr hp
  · obtain ⟨_, _, _, _, _, hz, hn⟩ := hW
    refine ⟨hok, _, _, ([] ++ pa) ++ pv, ⟨[] ++ pa, pv, trodAll_append (hargs _ (fun _ _ => rfl)) (hres _ _ _), hvars _ (fun _ _ => rfl), rfl, ?_, ?_⟩, ?_⟩
    · intro b off hp
      have hin : MemPlace.cell b off ∈ before := by rw [hps]; simpa using hp
      rw [hb.frozen (hlt _ hin)]
      exact hz b off hin
    · intro ha
      have := hn ha
      rw [hps] at this
      simpa using this
    · intro p hp _
      rw [hps]
      simpa using hp
/-- .. an argument that reads as it did. -/
theorem arg_still {t : TypeId} (hl : laidOutB P = true) (hr : P.readableRec t = true) (hrow : t < P.types.size) {W W' : World} {v : Value} {d : DataW H} {ps : List MemPlace} (h : DataW.Trod enc P W 0 (fun _ => true) true t v d ps) (hb : Below W.heap.size W W') (hlt : ∀ x ∈ ps, x.block < W.heap.size) {sp : Nat → Bool} (hs : ∀ p ∈ ps, sp p.block = true) : DataW.Trod enc P W' 0 sp true t v d ps :=
  WideElems.Trod_stays hl hr hrow h (fun x hx => hb.same (hlt x hx)) hs
end
end Go.Proofs.Ytgfomedobfaidaa
