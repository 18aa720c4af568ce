/-
  The row of WireVotes: any vote's bytes are the document's.
-/
import Derived.Test.YtgfomedobfaidaaWVotes
import Derived.Test.YtgfomedobfaidaaOpen
import Derived.Test.YtgfomedobfaidaaFWireVotes
import Derived.Test.YtgfomedobfaidaaJoin
set_option linter.constructorNameAsVariable false
namespace Go.Proofs.Ytgfomedobfaidaa
open Go.ChangeShapes Go.WideShapes Go.ChangeAt Go.RowKit

theorem own_knob : ownKnob Try.prog.godebug = none := by kernel_rfl
theorem laid_out : laidOutB Try.prog = true := by kernel_rfl

set_option maxRecDepth 100000 in
theorem open_vote {H : Type} {enc : TypeId × Value → H} {w : World} {r : Reach} {b0 : Nat} {v : Value} {d : DataW H} {p : List MemPlace}
    (hv : Value.okWide Try.prog w r b0 24 v) (h : DataW.Trod enc Try.prog w 0 (fun _ => true) true 24 v d p) : ∃ vt, VoteV vt lab0 w v := by
  obtain ⟨cs, rfl, hl, hf⟩ := open_fields Try.underlying24 (by kernel_rfl) (by kernel_rfl) hv h
  match cs, hl with
  | [c0, c1, c2, c3, c4, c5], _ =>
    obtain ⟨_, _, h0⟩ := hf 0 _ c0 rfl rfl
    obtain ⟨_, _, h1⟩ := hf 1 _ c1 rfl rfl
    obtain ⟨_, _, h2⟩ := hf 2 _ c2 rfl rfl
    obtain ⟨_, _, h3⟩ := hf 3 _ c3 rfl rfl
    obtain ⟨_, _, h4⟩ := hf 4 _ c4 rfl rfl
    obtain ⟨_, _, h5⟩ := hf 5 _ c5 rfl rfl
    obtain ⟨x0, rfl, _⟩ := open_i64 Try.underlying3 h0
    obtain ⟨x1, rfl, _⟩ := open_i64 Try.underlying3 h1
    obtain ⟨x2, rfl, _⟩ := open_i64 Try.underlying3 h2
    obtain ⟨x3, rfl, _⟩ := open_i64 Try.underlying3 h3
    obtain ⟨x4, rfl, _⟩ := open_i64 Try.underlying3 h4
    obtain ⟨bs, hb⟩ := open_bytesV Try.underlying22 Try.underlying5 (by kernel_rfl) h5
    obtain ⟨A, c, rfl⟩ := BytesV.shape hb
    exact ⟨_, VoteV.mk hb⟩

set_option maxRecDepth 100000 in
theorem wireVotes_lifted (os : Os) (started : os.Started) (H : Type) (enc : TypeId × Value → H) :
    ReturnsInHanded {} Try.checked os 3 .any (Rows.wireVotesSpec.pre6 enc Try.prog Try.f3 Rows.wireVotesRow.domain false) (Rows.wireVotesSpec.post enc Try.prog Try.f3 false true false false) := by
  refine returnsInHanded_of_change (C := Try.checked) own_knob started (by kernel_rfl) Try.func3
    (ChangeSpec.witness6 (enc := enc) (C := Try.checked) false ⟨#[], #[.agg #[.int .i64 0, .int .i64 0, .int .i64 0, .int .i64 0, .int .i64 0, .slice none 0 0]], []⟩ 8 (by kernel_rfl) (by kernel_rfl) (by kernel_rfl) (by kernel_rfl)) ?_
  intro W base args ds gs before hval0 hW hcnd _
  have hval : ∀ (j : Nat) t v, Try.f3.params[j]? = some t → args[j]? = some v → Value.okWide Try.prog W .any base t v := hval0
  have hW' := hW
  obtain ⟨p, q, hA0, hV, rfl, hfz, hnd⟩ := hW
  have hA : DataW.TrodAll enc Try.prog W 0 (fun _ => true) true Try.f3.params.toList args.toList ds p := hA0
  rw [Try.params3] at hA hval
  obtain ⟨v0, d0, rfl, rfl, h0⟩ := trodAll_one hA
  obtain ⟨rfl, rfl⟩ := trodVars_none hV
  obtain ⟨vt, hvt⟩ := open_vote (hval 0 24 v0 rfl rfl) h0
  clear hA0 hval0
  simp only [List.append_nil] at hW'
  refine (WireVotes_walk (valid0 W) hvt).mono fun e W' ⟨v, he, hv, hb⟩ => ?_
  subst he
  have hv2 := Is.out hv
  subst hv2
  have hlt : ∀ x ∈ p, x.block < W.heap.size := fun x hx => by simpa using hW'.lt x hx
  exact ⟨_, rfl, post_of_below (pa := p) (pv := []) hW' (fun _ _ _ => trodAll_mk1 (shut_bool Try.underlying4 true)) (fun sp hsp => trodAll_mk1 (arg_still laid_out (by kernel_rfl) (of_decide_eq_true (by kernel_rfl)) h0 hb hlt hsp)) (fun _ _ => rfl) (by simp)
    hb (ok_one (by kernel_rfl) rfl (okWide_bool_mk Try.underlying4 _))⟩

set_option maxRecDepth 1000000 in
theorem wireVotes_closed : joinedFacts Try.prog 3 Try.f3 Rows.wireVotesSpec Rows.wireVotesRow = true :=
  joined_of Try.prog 3 Try.f3 Rows.wireVotesSpec Rows.wireVotesRow wireVotes_fact0 wireVotes_fact1 wireVotes_fact2 wireVotes_fact3 wireVotes_fact4 wireVotes_fact5 wireVotes_fact6 wireVotes_fact7 wireVotes_fact8 wireVotes_fact9 wireVotes_fact10 wireVotes_fact11 wireVotes_fact12 wireVotes_fact13 wireVotes_fact14 wireVotes_fact15 wireVotes_fact16 wireVotes_fact17 wireVotes_fact18 wireVotes_fact19 wireVotes_fact20 wireVotes_fact21 wireVotes_fact22 wireVotes_fact23 wireVotes_fact24 wireVotes_fact25 wireVotes_fact26 wireVotes_fact27 wireVotes_fact28 wireVotes_fact29 wireVotes_fact30 wireVotes_fact31

theorem wireVotes_holds : Rows.WireVotesSaid :=
  OpenClaim.holds_of_wide 3 Try.f3 rfl rfl rfl rfl rfl rfl rfl ⟨rfl, rfl, rfl, rfl, rfl⟩ rfl rfl rfl rfl rfl wireVotes_named Try.func3 wireVotes_closed
    wireVotes_inst wireVotes_wrap (fun os started H enc _ => wireVotes_lifted os started H enc)

#print axioms wireVotes_holds
end Go.Proofs.Ytgfomedobfaidaa
