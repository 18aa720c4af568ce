/-
  The walks of some functions: what each call comes to.
-/
import Derived.Test.YtgfomedobfaidaaEnt1
set_option linter.unusedVariables false
set_option linter.unusedSimpArgs false
set_option maxRecDepth 100000
namespace Go.Proofs.Ytgfomedobfaidaa
open Go.RowKit

theorem law17_lives2 {lab : Lab} {w : World} (hv : Valid lab w) :
    Calls Try.prog 19 #[] w (fun e w' => ∃ v, e = .returned v ∧ (Is (.bool true)) lab w' v ∧ Below w.heap.size w w') := by
  have hv0 := hv.ent
  obtain ⟨zU0, z00⟩ := ent_step lab w
  refine calls_run Try.func19 rfl Try.ntmps19 (Nat.le_of_ble_eq_true rfl) ?_
  refine Run.seq ?_
  refine Run.region ?_
  refine Seq.val (Does.assign rfl) (by decide) ?_
  refine Seq.go (fun _ _ h => h) ?_
  refine Run.seq ?_
  refine Run.region ?_
  refine Seq.val (Does.build [(0, .int .i64 4), (1, .int .i64 2), (2, .int .i64 1), (5, .int .i64 1)] [(0, 1), (1, 1), (2, 1), (3, 1), (4, 1), (5, 1), (6, 1), (7, 1), (8, 1)] [.int .i64 4, .int .i64 2, .int .i64 1, .int .i64 0, .int .i64 0, .int .i64 1, .slice none 0 0, .slice none 0 0, .slice none 0 0] Try.underlying40 ty40 (by kernel_rfl) rfl (by kernel_rfl)) (by decide) ?_
  have q1 : EntryV (⟨4, 2, 1, 0, 0, 1, [], [], []⟩ : EntryD) (ent lab) w (.agg #[.int .i64 4, .int .i64 2, .int .i64 1, .int .i64 0, .int .i64 0, .int .i64 1, .slice none 0 0, .slice none 0 0, .slice none 0 0]) := EntryV.mk (NatsV.nil (ent lab) w) (RowsV.nil (ent lab) w) (BytesV.nil (ent lab) w)
  refine Seq.callS (V := And2 (BytesV (if (⟨4, 2, 1, 0, 0, 1, [], [], []⟩ : EntryD).no then [] else (⟨4, 2, 1, 0, 0, 1, [], [], []⟩ : EntryD).all)) (Is (i64 (if (⟨4, 2, 1, 0, 0, 1, [], [], []⟩ : EntryD).no then 3 else 0)))) cal25 hv0 rfl (by decide) (wire_EncodeEntry hv0 q1 (show ∀ k, k < List.length (⟨4, 2, 1, 0, 0, 1, [], [], []⟩ : EntryD).nums → nw (List.getD (⟨4, 2, 1, 0, 0, 1, [], [], []⟩ : EntryD).nums k 0) ≤ 1000000 from by (intro k hk; simp at hk))) ?_
  intro v2 w3 q4 s5 hv6
  obtain ⟨v7, v8, rfl, q9, q10⟩ := q4
  obtain ⟨A11, c12, rfl⟩ := BytesV.shape q9
  have z13 := BytesV.cap q9
  have q10 := Is.out q10; subst q10
  refine Seq.val (Does.move rfl) (by decide) ?_
  refine Seq.val (Does.extract rfl rfl) (by decide) ?_
  refine Seq.val (Does.extract rfl rfl) (by decide) ?_
  refine Seq.val (Does.assign rfl) (by decide) ?_
  refine Seq.val (Does.assign rfl) (by decide) ?_
  refine Seq.go (fun _ _ h => h) ?_
  refine Run.seq ?_
  refine Run.region ?_
  refine Seq.val (Does.move rfl) (by decide) ?_
  refine Seq.val (Does.eql rfl rfl) (by decide) ?_
  refine Seq.val (Does.move rfl) (by decide) ?_
  rcases bdich (decide ((if (⟨4, 2, 1, 0, 0, 1, [], [], []⟩ : EntryD).no then 3 else 0 : Int) = (0 : Int))) with hc1 | hc1
  · skip
    have hp1 := of_decide_eq_true hc1
    refine Seq.guard_on' rfl rfl hc1 ?_
    refine Seq.val (Does.move rfl) (by decide) ?_
    refine Seq.guard_on' rfl rfl hc1 ?_
    refine Seq.val (Does.conv_str Try.underlying22 Try.underlying5 Try.underlying9 rfl q9) (by decide) ?_
    refine Seq.guard_on' rfl rfl hc1 ?_
    refine Seq.val (Does.str_eql rfl rfl) (by decide) ?_
    refine Seq.val (Does.pick_b rfl hc1 rfl) (by decide) ?_
    refine Seq.val (Does.assign rfl) (by decide) ?_
    refine Seq.go (fun _ _ h => h) ?_
    obtain ⟨zU, zo⟩ := s5.out (by decide) hv
    refine Run.ret ?_
    exact post_one Try.results19 rfl ⟨_, rfl, (isBool (show ((decide ((if (⟨4, 2, 1, 0, 0, 1, [], [], []⟩ : EntryD).no then [] else (⟨4, 2, 1, 0, 0, 1, [], [], []⟩ : EntryD).all) = ([69, 4, 2, 0, 0, 0, 1, 0, 0, 1, 0, 0, 0, 0]))) : Bool) = true from by first | rfl | (exact absurd hc1 (by decide); done) | (exact absurd hc2 (by decide); done) | (simp_all; done) | omega) _ _), s5.leave (by decide)⟩
  · skip
    have hp1 := of_decide_eq_false hc1
    refine Seq.guard_off' rfl rfl hc1 rfl (by decide) ?_
    refine Seq.guard_off' rfl rfl hc1 rfl (by decide) ?_
    refine Seq.guard_off' rfl rfl hc1 rfl (by decide) ?_
    refine Seq.val (Does.pick_b rfl hc1 rfl) (by decide) ?_
    refine Seq.val (Does.assign rfl) (by decide) ?_
    refine Seq.go (fun _ _ h => h) ?_
    obtain ⟨zU, zo⟩ := s5.out (by decide) hv
    refine Run.ret ?_
    exact post_one Try.results19 rfl ⟨_, rfl, (isBool (show (false : Bool) = true from by first | rfl | (exact absurd hc1 (by decide); done) | (exact absurd hc2 (by decide); done) | (simp_all; done) | omega) _ _), s5.leave (by decide)⟩

end Go.Proofs.Ytgfomedobfaidaa
