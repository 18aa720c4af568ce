/-
  The row of WireEntries: any entry's bytes are the document's.
-/
import Derived.Test.YtgfomedobfaidaaWEnt
import Derived.Test.YtgfomedobfaidaaOpenR
import Derived.Test.YtgfomedobfaidaaFWireEntries
import Derived.Test.YtgfomedobfaidaaJoin
set_option linter.constructorNameAsVariable false
namespace Go.Proofs.Ytgfomedobfaidaa
open Go.ChangeShapes Go.WideShapes Go.ChangeAt Go.RowKit

theorem own_knob : ownKnob Try.prog.godebug = none := by kernel_rfl
theorem laid_out : laidOutB Try.prog = true := by kernel_rfl

set_option maxRecDepth 100000 in
theorem open_plain {H : Type} {enc : TypeId × Value → H} {w : World} {r : Reach} {b0 : Nat} {v : Value} {d : DataW H} {p : List MemPlace}
    (hv : Value.okWide Try.prog w r b0 36 v) (h : DataW.Trod enc Try.prog w 0 (fun _ => true) true 36 v d p) : ∃ pl, PlainV pl lab0 w v := by
  obtain ⟨cs, rfl, hl, hf⟩ := open_fields Try.underlying36 (by kernel_rfl) (by kernel_rfl) hv h
  match cs, hl with
  | [c0, c1, c2, c3, c4, c5, c6, c7, c8], _ =>
    obtain ⟨_, _, h0⟩ := hf 0 _ c0 rfl rfl
    obtain ⟨_, _, h1⟩ := hf 1 _ c1 rfl rfl
    obtain ⟨_, _, h2⟩ := hf 2 _ c2 rfl rfl
    obtain ⟨_, _, h3⟩ := hf 3 _ c3 rfl rfl
    obtain ⟨_, _, h4⟩ := hf 4 _ c4 rfl rfl
    obtain ⟨_, _, h5⟩ := hf 5 _ c5 rfl rfl
    obtain ⟨_, _, h6⟩ := hf 6 _ c6 rfl rfl
    obtain ⟨_, _, h7⟩ := hf 7 _ c7 rfl rfl
    obtain ⟨_, _, h8⟩ := hf 8 _ c8 rfl rfl
    obtain ⟨x0, rfl, _⟩ := open_i64 Try.underlying3 h0
    obtain ⟨x1, rfl, _⟩ := open_i64 Try.underlying3 h1
    obtain ⟨x2, rfl, _⟩ := open_i64 Try.underlying3 h2
    obtain ⟨x3, rfl, _⟩ := open_i64 Try.underlying3 h3
    obtain ⟨x4, rfl, _⟩ := open_i64 Try.underlying3 h4
    obtain ⟨x5, rfl, _⟩ := open_i64 Try.underlying3 h5
    obtain ⟨L6, hn⟩ := open_rowsV Try.underlying34 (by kernel_rfl) Try.underlying22 Try.underlying5 (by kernel_rfl) h6
    obtain ⟨L7, ht⟩ := open_rowsV Try.underlying34 (by kernel_rfl) Try.underlying22 Try.underlying5 (by kernel_rfl) h7
    obtain ⟨bs, hb⟩ := open_bytesV Try.underlying22 Try.underlying5 (by kernel_rfl) h8
    obtain ⟨A, c, rfl⟩ := RowsV.shape hn
    obtain ⟨A', c', rfl⟩ := RowsV.shape ht
    obtain ⟨A'', c'', rfl⟩ := BytesV.shape hb
    exact ⟨_, PlainV.mk hn ht hb⟩

set_option maxRecDepth 100000 in
theorem wireEntries_lifted (os : Os) (started : os.Started) (H : Type) (enc : TypeId × Value → H) :
    ReturnsInHanded {} Try.checked os 4 .any (Rows.wireEntriesSpec.pre6 enc Try.prog Try.f4 Rows.wireEntriesRow.domain false) (Rows.wireEntriesSpec.post enc Try.prog Try.f4 false true false false) := by
  refine returnsInHanded_of_change (C := Try.checked) own_knob started (by kernel_rfl) Try.func4
    (ChangeSpec.witness6 (enc := enc) (C := Try.checked) false ⟨#[], #[.agg #[.int .i64 0, .int .i64 0, .int .i64 0, .int .i64 0, .int .i64 0, .int .i64 0, .slice none 0 0, .slice none 0 0, .slice none 0 0]], []⟩ 8 (by kernel_rfl) (by kernel_rfl) (by kernel_rfl) (by kernel_rfl)) ?_
  intro W base args ds gs before hval0 hW hcnd _
  have hval : ∀ (j : Nat) t v, Try.f4.params[j]? = some t → args[j]? = some v → Value.okWide Try.prog W .any base t v := hval0
  have hW' := hW
  obtain ⟨p, q, hA0, hV, rfl, hfz, hnd⟩ := hW
  have hA : DataW.TrodAll enc Try.prog W 0 (fun _ => true) true Try.f4.params.toList args.toList ds p := hA0
  rw [Try.params4] at hA hval
  obtain ⟨v0, d0, rfl, rfl, h0⟩ := trodAll_one hA
  obtain ⟨rfl, rfl⟩ := trodVars_none hV
  obtain ⟨pl, hvt⟩ := open_plain (hval 0 36 v0 rfl rfl) h0
  clear hA0 hval0
  simp only [List.append_nil] at hW'
  refine (WireEntries_walk (valid0 W) hvt).mono fun e W' ⟨v, he, hv, hb⟩ => ?_
  subst he
  have hv2 := Is.out hv
  subst hv2
  have hlt : ∀ x ∈ p, x.block < W.heap.size := fun x hx => by simpa using hW'.lt x hx
  exact ⟨_, rfl, post_of_below (pa := p) (pv := []) hW' (fun _ _ _ => trodAll_mk1 (shut_bool Try.underlying4 true)) (fun sp hsp => trodAll_mk1 (arg_still laid_out (by kernel_rfl) (of_decide_eq_true (by kernel_rfl)) h0 hb hlt hsp)) (fun _ _ => rfl) (by simp)
    hb (ok_one (by kernel_rfl) rfl (okWide_bool_mk Try.underlying4 _))⟩

set_option maxRecDepth 1000000 in
theorem wireEntries_closed : joinedFacts Try.prog 4 Try.f4 Rows.wireEntriesSpec Rows.wireEntriesRow = true :=
  joined_of Try.prog 4 Try.f4 Rows.wireEntriesSpec Rows.wireEntriesRow wireEntries_fact0 wireEntries_fact1 wireEntries_fact2 wireEntries_fact3 wireEntries_fact4 wireEntries_fact5 wireEntries_fact6 wireEntries_fact7 wireEntries_fact8 wireEntries_fact9 wireEntries_fact10 wireEntries_fact11 wireEntries_fact12 wireEntries_fact13 wireEntries_fact14 wireEntries_fact15 wireEntries_fact16 wireEntries_fact17 wireEntries_fact18 wireEntries_fact19 wireEntries_fact20 wireEntries_fact21 wireEntries_fact22 wireEntries_fact23 wireEntries_fact24 wireEntries_fact25 wireEntries_fact26 wireEntries_fact27 wireEntries_fact28 wireEntries_fact29 wireEntries_fact30 wireEntries_fact31

theorem wireEntries_holds : Rows.WireEntriesSaid :=
  OpenClaim.holds_of_wide 4 Try.f4 rfl rfl rfl rfl rfl rfl rfl ⟨rfl, rfl, rfl, rfl, rfl⟩ rfl rfl rfl rfl rfl wireEntries_named Try.func4 wireEntries_closed
    wireEntries_inst wireEntries_wrap (fun os started H enc _ => wireEntries_lifted os started H enc)

#print axioms wireEntries_holds
end Go.Proofs.Ytgfomedobfaidaa
