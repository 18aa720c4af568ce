/-
  The row of WireCuts: an entry's bytes, cut, or with more behind them, are no entry's; so with a vote's.
-/
import Derived.Test.YtgfomedobfaidaaWCut
import Derived.Test.YtgfomedobfaidaaOpenR
import Derived.Test.YtgfomedobfaidaaFWireCuts
import Derived.Test.YtgfomedobfaidaaJoin
import Derived.Carry
set_option linter.constructorNameAsVariable false
namespace Go.Proofs.Ytgfomedobfaidaa
open Go.ChangeShapes Go.WideShapes Go.ChangeAt Go.RowKit

theorem own_knob : ownKnob Try.prog.godebug = none := by kernel_rfl
theorem laid_out : laidOutB Try.prog = true := by kernel_rfl

set_option maxRecDepth 100000 in
theorem open_plain {H : Type} {enc : TypeId × Value → H} {w : World} {r : Reach} {b0 : Nat} {v : Value} {d : DataW H} {p : List MemPlace}
    (hv : Value.okWide Try.prog w r b0 36 v) (h : DataW.Trod enc Try.prog w 0 (fun _ => true) true 36 v d p) : ∃ pl, PlainV pl lab0 w v := by
  obtain ⟨cs, rfl, hl, hf⟩ := open_fields Try.underlying36 (by kernel_rfl) (by kernel_rfl) hv h
  match cs, hl with
  | [c0, c1, c2, c3, c4, c5, c6, c7, c8], _ =>
    obtain ⟨_, _, h0⟩ := hf 0 _ c0 rfl rfl
    obtain ⟨_, _, h1⟩ := hf 1 _ c1 rfl rfl
    obtain ⟨_, _, h2⟩ := hf 2 _ c2 rfl rfl
    obtain ⟨_, _, h3⟩ := hf 3 _ c3 rfl rfl
    obtain ⟨_, _, h4⟩ := hf 4 _ c4 rfl rfl
    obtain ⟨_, _, h5⟩ := hf 5 _ c5 rfl rfl
    obtain ⟨_, _, h6⟩ := hf 6 _ c6 rfl rfl
    obtain ⟨_, _, h7⟩ := hf 7 _ c7 rfl rfl
    obtain ⟨_, _, h8⟩ := hf 8 _ c8 rfl rfl
    obtain ⟨x0, rfl, _⟩ := open_i64 Try.underlying3 h0
    obtain ⟨x1, rfl, _⟩ := open_i64 Try.underlying3 h1
    obtain ⟨x2, rfl, _⟩ := open_i64 Try.underlying3 h2
    obtain ⟨x3, rfl, _⟩ := open_i64 Try.underlying3 h3
    obtain ⟨x4, rfl, _⟩ := open_i64 Try.underlying3 h4
    obtain ⟨x5, rfl, _⟩ := open_i64 Try.underlying3 h5
    obtain ⟨L6, hn⟩ := open_rowsV Try.underlying34 (by kernel_rfl) Try.underlying22 Try.underlying5 (by kernel_rfl) h6
    obtain ⟨L7, ht⟩ := open_rowsV Try.underlying34 (by kernel_rfl) Try.underlying22 Try.underlying5 (by kernel_rfl) h7
    obtain ⟨bs, hb⟩ := open_bytesV Try.underlying22 Try.underlying5 (by kernel_rfl) h8
    obtain ⟨A, c, rfl⟩ := RowsV.shape hn
    obtain ⟨A', c', rfl⟩ := RowsV.shape ht
    obtain ⟨A'', c'', rfl⟩ := BytesV.shape hb
    exact ⟨_, PlainV.mk hn ht hb⟩

set_option maxRecDepth 100000 in
theorem open_vote {H : Type} {enc : TypeId × Value → H} {w : World} {r : Reach} {b0 : Nat} {v : Value} {d : DataW H} {p : List MemPlace}
    (hv : Value.okWide Try.prog w r b0 24 v) (h : DataW.Trod enc Try.prog w 0 (fun _ => true) true 24 v d p) : ∃ vt, VoteV vt lab0 w v := by
  obtain ⟨cs, rfl, hl, hf⟩ := open_fields Try.underlying24 (by kernel_rfl) (by kernel_rfl) hv h
  match cs, hl with
  | [c0, c1, c2, c3, c4, c5], _ =>
    obtain ⟨_, _, h0⟩ := hf 0 _ c0 rfl rfl
    obtain ⟨_, _, h1⟩ := hf 1 _ c1 rfl rfl
    obtain ⟨_, _, h2⟩ := hf 2 _ c2 rfl rfl
    obtain ⟨_, _, h3⟩ := hf 3 _ c3 rfl rfl
    obtain ⟨_, _, h4⟩ := hf 4 _ c4 rfl rfl
    obtain ⟨_, _, h5⟩ := hf 5 _ c5 rfl rfl
    obtain ⟨x0, rfl, _⟩ := open_i64 Try.underlying3 h0
    obtain ⟨x1, rfl, _⟩ := open_i64 Try.underlying3 h1
    obtain ⟨x2, rfl, _⟩ := open_i64 Try.underlying3 h2
    obtain ⟨x3, rfl, _⟩ := open_i64 Try.underlying3 h3
    obtain ⟨x4, rfl, _⟩ := open_i64 Try.underlying3 h4
    obtain ⟨bs, hb⟩ := open_bytesV Try.underlying22 Try.underlying5 (by kernel_rfl) h5
    obtain ⟨A, c, rfl⟩ := BytesV.shape hb
    exact ⟨_, VoteV.mk hb⟩

set_option maxRecDepth 100000 in
theorem wireCuts_lifted (os : Os) (started : os.Started) (H : Type) (enc : TypeId × Value → H) :
    ReturnsInHanded {} Try.checked os 5 .any (Rows.wireCutsSpec.pre6 enc Try.prog Try.f5 Rows.wireCutsRow.domain false) (Rows.wireCutsSpec.post enc Try.prog Try.f5 false true false false) := by
  refine returnsInHanded_of_change (C := Try.checked) own_knob started (by kernel_rfl) Try.func5
    (ChangeSpec.witness6 (enc := enc) (C := Try.checked) false ⟨#[], #[.agg #[.int .i64 0, .int .i64 0, .int .i64 0, .int .i64 0, .int .i64 0, .int .i64 0, .slice none 0 0, .slice none 0 0, .slice none 0 0], .agg #[.int .i64 0, .int .i64 0, .int .i64 0, .int .i64 0, .int .i64 0, .slice none 0 0], .int .i64 0, .slice none 0 0], []⟩ 8 (by kernel_rfl) (by kernel_rfl) (by kernel_rfl) (by kernel_rfl)) ?_
  intro W base args ds gs before hval0 hW hcnd _
  have hval : ∀ (j : Nat) t v, Try.f5.params[j]? = some t → args[j]? = some v → Value.okWide Try.prog W .any base t v := hval0
  have hW' := hW
  obtain ⟨p, q, hA0, hV, rfl, hfz, hnd⟩ := hW
  have hA : DataW.TrodAll enc Try.prog W 0 (fun _ => true) true Try.f5.params.toList args.toList ds p := hA0
  rw [Try.params5] at hA hval
  obtain ⟨v0, v1, v2, v3, d0, d1, d2, d3, p0, p1, p2, p3, rfl, rfl, rfl, h0, h1, h2, h3⟩ := trodAll_four hA
  obtain ⟨rfl, rfl⟩ := trodVars_none hV
  obtain ⟨pl, hvt⟩ := open_plain (hval 0 36 v0 rfl rfl) h0
  obtain ⟨vt, hvt1⟩ := open_vote (hval 1 24 v1 rfl rfl) h1
  obtain ⟨cut, rfl⟩ := okWide_int Try.underlying3 (hval 2 3 v2 rfl rfl)
  obtain ⟨A3, n3, c3, rfl⟩ := okWide_slice Try.underlying22 (hval 3 22 v3 rfl rfl)
  have h3' := h3
  obtain ⟨f3, hf3⟩ := h3'
  obtain ⟨more, hvt3⟩ := open_bytesV Try.underlying22 Try.underlying5 (by kernel_rfl) hf3
  clear hA0 hval0
  simp only [List.append_nil] at hW'
  refine (WireCuts_walk (valid0 W) hvt hvt1 (cut := cut) hvt3).mono fun e W' ⟨v, he, hv, hb⟩ => ?_
  subst he
  have hv2 := Is.out hv
  subst hv2
  have hlt : ∀ x ∈ p0 ++ p1 ++ p2 ++ p3, x.block < W.heap.size := fun x hx => by simpa using hW'.lt x hx
  have l0 : ∀ x ∈ p0, x.block < W.heap.size := fun x hx => hlt x (by simp [hx])
  have l1 : ∀ x ∈ p1, x.block < W.heap.size := fun x hx => hlt x (by simp [hx])
  have l2 : ∀ x ∈ p2, x.block < W.heap.size := fun x hx => hlt x (by simp [hx])
  have l3 : ∀ x ∈ p3, x.block < W.heap.size := fun x hx => hlt x (by simp [hx])
  exact ⟨_, rfl, post_of_below (pa := p0 ++ (p1 ++ (p2 ++ p3))) (pv := []) hW' (fun _ _ _ => trodAll_mk1 (shut_bool Try.underlying4 true))
    (fun sp hsp => trodAll_mk4 (arg_still laid_out (by kernel_rfl) (of_decide_eq_true (by kernel_rfl)) h0 hb l0 (fun x hx => hsp x (by simp [hx]))) (arg_still laid_out (by kernel_rfl) (of_decide_eq_true (by kernel_rfl)) h1 hb l1 (fun x hx => hsp x (by simp [hx])))
      (arg_still laid_out (by kernel_rfl) (of_decide_eq_true (by kernel_rfl)) h2 hb l2 (fun x hx => hsp x (by simp [hx]))) (arg_still laid_out (by kernel_rfl) (of_decide_eq_true (by kernel_rfl)) h3 hb l3 (fun x hx => hsp x (by simp [hx]))))
    (fun _ _ => rfl) (by simp) hb (ok_one (by kernel_rfl) rfl (okWide_bool_mk Try.underlying4 _))⟩

set_option maxRecDepth 1000000 in
theorem wireCuts_closed : joinedFacts Try.prog 5 Try.f5 Rows.wireCutsSpec Rows.wireCutsRow = true :=
  joined_of Try.prog 5 Try.f5 Rows.wireCutsSpec Rows.wireCutsRow wireCuts_fact0 wireCuts_fact1 wireCuts_fact2 wireCuts_fact3 wireCuts_fact4 wireCuts_fact5 wireCuts_fact6 wireCuts_fact7 wireCuts_fact8 wireCuts_fact9 wireCuts_fact10 wireCuts_fact11 wireCuts_fact12 wireCuts_fact13 wireCuts_fact14 wireCuts_fact15 wireCuts_fact16 wireCuts_fact17 wireCuts_fact18 wireCuts_fact19 wireCuts_fact20 wireCuts_fact21 wireCuts_fact22 wireCuts_fact23 wireCuts_fact24 wireCuts_fact25 wireCuts_fact26 wireCuts_fact27 wireCuts_fact28 wireCuts_fact29 wireCuts_fact30 wireCuts_fact31

theorem wireCuts_holds : Rows.WireCutsSaid :=
  OpenClaim.holds_of_wide 5 Try.f5 rfl rfl rfl rfl rfl rfl rfl ⟨rfl, rfl, rfl, rfl, rfl⟩ rfl rfl rfl rfl rfl wireCuts_named Try.func5 wireCuts_closed
    wireCuts_inst wireCuts_wrap (fun os started H enc _ => wireCuts_lifted os started H enc)

#print axioms wireCuts_holds
end Go.Proofs.Ytgfomedobfaidaa
