/-
  The row of WireBack.
-/
import Derived.Test.YtgfomedobfaidaaWBack
import Derived.Test.YtgfomedobfaidaaOpenU
import Derived.Test.YtgfomedobfaidaaFWireBack
import Derived.Test.YtgfomedobfaidaaJoin
import Derived.Carry
set_option linter.constructorNameAsVariable false
set_option linter.unusedVariables false
namespace Go.Proofs.Ytgfomedobfaidaa
open Go.ChangeShapes Go.WideShapes Go.ChangeAt Go.RowKit

theorem own_knob : ownKnob Try.prog.godebug = none := by kernel_rfl
theorem laid_out : laidOutB Try.prog = true := by kernel_rfl

set_option maxRecDepth 100000 in
theorem open_plain {H : Type} {enc : TypeId × Value → H} {w : World} {r : Reach} {b0 : Nat} {v : Value} {d : DataW H} {p : List MemPlace}
    (hv : Value.okWide Try.prog w r b0 36 v) (h : DataW.Trod enc Try.prog w 0 (fun _ => true) true 36 v d p) : ∃ pl, PlainV pl lab0 w v := by
  obtain ⟨cs, rfl, hl, hf⟩ := open_fields Try.underlying36 (by kernel_rfl) (by kernel_rfl) hv h
  match cs, hl with
  | [c0, c1, c2, c3, c4, c5, c6, c7, c8], _ =>
    obtain ⟨_, _, h0⟩ := hf 0 _ c0 rfl rfl
    obtain ⟨_, _, h1⟩ := hf 1 _ c1 rfl rfl
    obtain ⟨_, _, h2⟩ := hf 2 _ c2 rfl rfl
    obtain ⟨_, _, h3⟩ := hf 3 _ c3 rfl rfl
    obtain ⟨_, _, h4⟩ := hf 4 _ c4 rfl rfl
    obtain ⟨_, _, h5⟩ := hf 5 _ c5 rfl rfl
    obtain ⟨_, _, h6⟩ := hf 6 _ c6 rfl rfl
    obtain ⟨_, _, h7⟩ := hf 7 _ c7 rfl rfl
    obtain ⟨_, _, h8⟩ := hf 8 _ c8 rfl rfl
    obtain ⟨x0, rfl, _⟩ := open_i64 Try.underlying3 h0
    obtain ⟨x1, rfl, _⟩ := open_i64 Try.underlying3 h1
    obtain ⟨x2, rfl, _⟩ := open_i64 Try.underlying3 h2
    obtain ⟨x3, rfl, _⟩ := open_i64 Try.underlying3 h3
    obtain ⟨x4, rfl, _⟩ := open_i64 Try.underlying3 h4
    obtain ⟨x5, rfl, _⟩ := open_i64 Try.underlying3 h5
    obtain ⟨L6, g6⟩ := open_rowsV Try.underlying34 (by kernel_rfl) Try.underlying22 Try.underlying5 (by kernel_rfl) h6
    obtain ⟨L7, g7⟩ := open_rowsV Try.underlying34 (by kernel_rfl) Try.underlying22 Try.underlying5 (by kernel_rfl) h7
    obtain ⟨L8, g8⟩ := open_bytesV Try.underlying22 Try.underlying5 (by kernel_rfl) h8
    obtain ⟨A6, e6, rfl⟩ := RowsV.shape g6
    obtain ⟨A7, e7, rfl⟩ := RowsV.shape g7
    obtain ⟨A8, e8, rfl⟩ := BytesV.shape g8
    exact ⟨_, PlainV.mk g6 g7 g8⟩

set_option maxRecDepth 100000 in
theorem open_vote {H : Type} {enc : TypeId × Value → H} {w : World} {r : Reach} {b0 : Nat} {v : Value} {d : DataW H} {p : List MemPlace}
    (hv : Value.okWide Try.prog w r b0 24 v) (h : DataW.Trod enc Try.prog w 0 (fun _ => true) true 24 v d p) : ∃ pl, VoteV pl lab0 w v := by
  obtain ⟨cs, rfl, hl, hf⟩ := open_fields Try.underlying24 (by kernel_rfl) (by kernel_rfl) hv h
  match cs, hl with
  | [c0, c1, c2, c3, c4, c5], _ =>
    obtain ⟨_, _, h0⟩ := hf 0 _ c0 rfl rfl
    obtain ⟨_, _, h1⟩ := hf 1 _ c1 rfl rfl
    obtain ⟨_, _, h2⟩ := hf 2 _ c2 rfl rfl
    obtain ⟨_, _, h3⟩ := hf 3 _ c3 rfl rfl
    obtain ⟨_, _, h4⟩ := hf 4 _ c4 rfl rfl
    obtain ⟨_, _, h5⟩ := hf 5 _ c5 rfl rfl
    obtain ⟨x0, rfl, _⟩ := open_i64 Try.underlying3 h0
    obtain ⟨x1, rfl, _⟩ := open_i64 Try.underlying3 h1
    obtain ⟨x2, rfl, _⟩ := open_i64 Try.underlying3 h2
    obtain ⟨x3, rfl, _⟩ := open_i64 Try.underlying3 h3
    obtain ⟨x4, rfl, _⟩ := open_i64 Try.underlying3 h4
    obtain ⟨L5, g5⟩ := open_bytesV Try.underlying22 Try.underlying5 (by kernel_rfl) h5
    obtain ⟨A5, e5, rfl⟩ := BytesV.shape g5
    exact ⟨_, VoteV.mk g5⟩

section
variable {H : Type} {enc : TypeId × Value → H} {P : Program} {w : World} {base : Nat} {spare : Nat → Bool} {held : Bool}
theorem wireBack_args {t0 t1 t2 t3 : TypeId} {args : Array Value} {ds : List (DataW H)} {ps : List MemPlace} (h : DataW.TrodAll enc P w base spare held [t0, t1, t2, t3] args.toList ds ps) :
    ∃ v0 v1 v2 v3 d0 d1 d2 d3 p0 p1 p2 p3, args = #[v0, v1, v2, v3] ∧ ds = [d0, d1, d2, d3] ∧ ps = p0 ++ (p1 ++ (p2 ++ p3)) ∧ DataW.Trod enc P w base spare held t0 v0 d0 p0 ∧ DataW.Trod enc P w base spare held t1 v1 d1 p1 ∧ DataW.Trod enc P w base spare held t2 v2 d2 p2 ∧ DataW.Trod enc P w base spare held t3 v3 d3 p3 := by
  obtain ⟨v0, vs0, d0, ds0, p0, q0, hargs, rfl, rfl, h0, r0⟩ := trodAll_cons h
  obtain ⟨v1, vs1, d1, ds1, p1, q1, rfl, rfl, rfl, h1, r1⟩ := trodAll_cons r0
  obtain ⟨v2, vs2, d2, ds2, p2, q2, rfl, rfl, rfl, h2, r2⟩ := trodAll_cons r1
  obtain ⟨v3, vs3, d3, ds3, p3, q3, rfl, rfl, rfl, h3, r3⟩ := trodAll_cons r2
  obtain ⟨rfl, rfl, rfl⟩ := trodAll_nil r3
  exact ⟨v0, v1, v2, v3, d0, d1, d2, d3, p0, p1, p2, p3, by cases args; simp_all, rfl, by simp, h0, h1, h2, h3⟩
theorem wireBack_mk {t0 t1 t2 t3 : TypeId} {v0 v1 v2 v3 : Value} {d0 d1 d2 d3 : DataW H} {p0 p1 p2 p3 : List MemPlace} (h0 : DataW.Trod enc P w base spare held t0 v0 d0 p0) (h1 : DataW.Trod enc P w base spare held t1 v1 d1 p1) (h2 : DataW.Trod enc P w base spare held t2 v2 d2 p2) (h3 : DataW.Trod enc P w base spare held t3 v3 d3 p3) : DataW.TrodAll enc P w base spare held [t0, t1, t2, t3] [v0, v1, v2, v3] [d0, d1, d2, d3] (p0 ++ (p1 ++ (p2 ++ p3))) :=
  ⟨_, _, h0, ⟨_, _, h1, ⟨_, _, h2, trodAll_mk1 h3, rfl⟩, rfl⟩, rfl⟩
end

set_option maxRecDepth 100000 in
theorem wireBack_lifted (os : Os) (started : os.Started) (H : Type) (enc : TypeId × Value → H) :
    ReturnsInHanded {} Try.checked os 6 .any (Rows.wireBackSpec.pre6 enc Try.prog Try.f6 Rows.wireBackRow.domain false) (Rows.wireBackSpec.post enc Try.prog Try.f6 false true false false) := by
  refine returnsInHanded_of_change (C := Try.checked) own_knob started (by kernel_rfl) Try.func6
    (ChangeSpec.witness6 (enc := enc) (C := Try.checked) false ⟨#[], #[.agg #[.int .i64 0, .int .i64 0, .int .i64 0, .int .i64 0, .int .i64 0, .int .i64 0, .slice none 0 0, .slice none 0 0, .slice none 0 0], .agg #[.int .i64 0, .int .i64 0, .int .i64 0, .int .i64 0, .int .i64 0, .int .i64 0, .slice none 0 0, .slice none 0 0, .slice none 0 0], .agg #[.int .i64 0, .int .i64 0, .int .i64 0, .int .i64 0, .int .i64 0, .slice none 0 0], .agg #[.int .i64 0, .int .i64 0, .int .i64 0, .int .i64 0, .int .i64 0, .slice none 0 0]], []⟩ 8 (by kernel_rfl) (by kernel_rfl) (by kernel_rfl) (by kernel_rfl)) ?_
  intro W base args ds gs before hval0 hW hcnd _
  have hval : ∀ (j : Nat) t v, Try.f6.params[j]? = some t → args[j]? = some v → Value.okWide Try.prog W .any base t v := hval0
  have hW' := hW
  obtain ⟨p, q, hA0, hV, rfl, hfz, hnd⟩ := hW
  have hA : DataW.TrodAll enc Try.prog W 0 (fun _ => true) true Try.f6.params.toList args.toList ds p := hA0
  rw [Try.params6] at hA hval
  obtain ⟨v0, v1, v2, v3, d0, d1, d2, d3, p0, p1, p2, p3, rfl, rfl, rfl, h0, h1, h2, h3⟩ := wireBack_args hA
  obtain ⟨rfl, rfl⟩ := trodVars_none hV
  obtain ⟨pl, g0⟩ := open_plain (hval 0 36 v0 rfl rfl) h0
  obtain ⟨po, g1⟩ := open_plain (hval 1 36 v1 rfl rfl) h1
  obtain ⟨vt, g2⟩ := open_vote (hval 2 24 v2 rfl rfl) h2
  obtain ⟨vu, g3⟩ := open_vote (hval 3 24 v3 rfl rfl) h3
  clear hA0 hval0
  simp only [List.append_nil] at hW'
  refine (WireBack_walk (valid0 W) g0 g1 g2 g3 ).mono fun e W' ⟨v, he, hv, hb⟩ => ?_
  subst he
  have hv2 := Is.out hv
  subst hv2
  have hlt : ∀ x ∈ p0 ++ (p1 ++ (p2 ++ p3)), x.block < W.heap.size := fun x hx => by simpa using hW'.lt x hx
  have l0 : ∀ x ∈ p0, x.block < W.heap.size := fun x hx => hlt x (by simp [hx])
  have l1 : ∀ x ∈ p1, x.block < W.heap.size := fun x hx => hlt x (by simp [hx])
  have l2 : ∀ x ∈ p2, x.block < W.heap.size := fun x hx => hlt x (by simp [hx])
  have l3 : ∀ x ∈ p3, x.block < W.heap.size := fun x hx => hlt x (by simp [hx])
  exact ⟨_, rfl, post_of_below (pa := p0 ++ (p1 ++ (p2 ++ p3))) (pv := []) hW' (fun _ _ _ => trodAll_mk1 (shut_bool Try.underlying4 true))
    (fun sp hsp => wireBack_mk (arg_still laid_out (by kernel_rfl) (of_decide_eq_true (by kernel_rfl)) h0 hb l0 (fun x hx => hsp x (by simp [hx]))) (arg_still laid_out (by kernel_rfl) (of_decide_eq_true (by kernel_rfl)) h1 hb l1 (fun x hx => hsp x (by simp [hx]))) (arg_still laid_out (by kernel_rfl) (of_decide_eq_true (by kernel_rfl)) h2 hb l2 (fun x hx => hsp x (by simp [hx]))) (arg_still laid_out (by kernel_rfl) (of_decide_eq_true (by kernel_rfl)) h3 hb l3 (fun x hx => hsp x (by simp [hx]))))
    (fun _ _ => rfl) (by simp) hb (ok_one (by kernel_rfl) rfl (okWide_bool_mk Try.underlying4 _))⟩

set_option maxRecDepth 1000000 in
theorem wireBack_closed : joinedFacts Try.prog 6 Try.f6 Rows.wireBackSpec Rows.wireBackRow = true :=
  joined_of Try.prog 6 Try.f6 Rows.wireBackSpec Rows.wireBackRow wireBack_fact0 wireBack_fact1 wireBack_fact2 wireBack_fact3 wireBack_fact4 wireBack_fact5 wireBack_fact6 wireBack_fact7 wireBack_fact8 wireBack_fact9 wireBack_fact10 wireBack_fact11 wireBack_fact12 wireBack_fact13 wireBack_fact14 wireBack_fact15 wireBack_fact16 wireBack_fact17 wireBack_fact18 wireBack_fact19 wireBack_fact20 wireBack_fact21 wireBack_fact22 wireBack_fact23 wireBack_fact24 wireBack_fact25 wireBack_fact26 wireBack_fact27 wireBack_fact28 wireBack_fact29 wireBack_fact30 wireBack_fact31

theorem wireBack_holds : Rows.WireBackSaid :=
  OpenClaim.holds_of_wide 6 Try.f6 rfl rfl rfl rfl rfl rfl rfl ⟨rfl, rfl, rfl, rfl, rfl⟩ rfl rfl rfl rfl rfl wireBack_named Try.func6 wireBack_closed
    wireBack_inst wireBack_wrap (fun os started H enc _ => wireBack_lifted os started H enc)

#print axioms wireBack_holds
end Go.Proofs.Ytgfomedobfaidaa
