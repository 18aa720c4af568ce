/-
  The walks of some functions: what each call comes to.
-/
import Derived.Test.YtgfomedobfaidaaVote
import Derived.Test.YtgfomedobfaidaaLives
set_option linter.unusedVariables false
set_option linter.unusedSimpArgs false
set_option maxRecDepth 100000
namespace Go.Proofs.Ytgfomedobfaidaa
open Go.RowKit

theorem WireVotes_walk {lab : Lab} {w : World} (hv : Valid lab w) {vt : VoteD} {v0 : Value} (h0 : VoteV vt lab w v0) :
    Calls Try.prog 3 #[v0] w (fun e w' => ∃ v, e = .returned v ∧ (Is (.bool true)) lab w' v ∧ Below w.heap.size w w') := by
  have hv0 := hv.ent
  obtain ⟨zU0, z00⟩ := ent_step lab w
  replace h0 := (VoteV.pers _).step z00 h0
  obtain ⟨A1, c2, rfl, q3⟩ := VoteV.open h0
  have z4 := BytesV.cap q3
  refine calls_run Try.func3 rfl Try.ntmps3 (Nat.le_of_ble_eq_true rfl) ?_
  refine Run.seq ?_
  refine Run.region ?_
  refine Seq.box (k := 2) [i64 vt.kind, i64 vt.from_, i64 vt.slot, i64 vt.view, i64 vt.valid, .slice A1 (List.length vt.value) c2] hv0 rfl rfl (by decide) ?_
  intro lab5 w6 b7 o8 s9 hv10
  refine Seq.val (Does.assign rfl) (by decide) ?_
  refine Seq.go (fun _ _ h => h) ?_
  refine Run.seq ?_
  refine Run.seq ?_
  refine Run.region ?_
  refine Seq.callS (V := Is (.bool true)) cal19 hv10 rfl (by decide) (law17_lives hv10 ) ?_
  intro v11 w12 q13 s14 hv15
  have q13 := Is.out q13; subst q13
  refine Seq.val (Does.not rfl) (by decide) ?_
  refine Seq.val (Does.move rfl) (by decide) ?_
  refine Seq.guard_on' rfl rfl rfl ?_
  refine Seq.val (Does.fieldAddr' 5 Try.underlying24 rfl ty22 rfl rfl) (by decide) ?_
  refine Seq.guard_on' rfl rfl rfl ?_
  have o16 := o8.lift s14 (by decide)
  refine Seq.val (Does.load_own1 o16 ty22 rfl rfl) (by decide) ?_
  refine Seq.guard_on' rfl rfl rfl ?_
  refine Seq.val (Does.len Try.underlying22 rfl) (by decide) ?_
  refine Seq.guard_on' rfl rfl rfl ?_
  refine Seq.val (Does.gtr rfl rfl) (by decide) ?_
  refine Seq.val (Does.pick_f rfl rfl) (by decide) ?_
  refine Seq.go (fun _ _ h => h) ?_
  rcases bdich (decide ((5000 : Int) < (((List.length vt.value : Nat) : Int) : Int))) with hc1 | hc1
  · skip
    have hp1 := of_decide_eq_true hc1
    refine Run.cond_b rfl hc1 ?_
    refine Run.seq ?_
    refine Run.region ?_
    refine Seq.callS (V := Is (.bool true)) cal19 hv15 rfl (by decide) (law17_lives hv15 ) ?_
    intro v17 w18 q19 s20 hv21
    have q19 := Is.out q19; subst q19
    refine Seq.val (Does.assign rfl) (by decide) ?_
    refine Seq.go (fun _ _ h => h) ?_
    have c22 := s14.trans s20
    have c23 := s9.trans c22
    obtain ⟨zU, zo⟩ := c23.out (by decide) hv
    refine Run.ret (ret_then ?_)
    exact post_one Try.results3 rfl ⟨_, rfl, rfl, c23.leave (by decide)⟩
  · skip
    have hp1 := of_decide_eq_false hc1
    refine Run.cond_b rfl hc1 ?_
    refine Run.skip_go (fun _ _ h => h) ?_
    refine Run.seq ?_
    refine Run.region ?_
    refine Seq.val (Does.load_ownN [i64 vt.kind, i64 vt.from_, i64 vt.slot, i64 vt.view, i64 vt.valid, .slice A1 (List.length vt.value) c2] o16 ty24 rfl rfl) (by decide) ?_
    have c26 := s9.trans s14
    have q25 := (BytesV.pers _).step c26 q3
    have q24 : VoteV vt lab5 w12 (.agg #[i64 vt.kind, i64 vt.from_, i64 vt.slot, i64 vt.view, i64 vt.valid, .slice A1 (List.length vt.value) c2]) := VoteV.mk q25
    refine Seq.callS (V := And2 (BytesV (if vt.bad then [] else vt.bytes)) (Is (i64 (if vt.bad then 3 else 0)))) cal20 hv15 rfl (by decide) (wire_EncodeVote hv15 q24 (show List.length vt.value ≤ 5000 from by first | omega | (simp at *; omega))) ?_
    intro v27 w28 q29 s30 hv31
    obtain ⟨v32, v33, rfl, q34, q35⟩ := q29
    obtain ⟨A36, c37, rfl⟩ := BytesV.shape q34
    have z38 := BytesV.cap q34
    have q35 := Is.out q35; subst q35
    refine Seq.val (Does.move rfl) (by decide) ?_
    refine Seq.val (Does.extract rfl rfl) (by decide) ?_
    refine Seq.val (Does.extract rfl rfl) (by decide) ?_
    refine Seq.val (Does.assign rfl) (by decide) ?_
    refine Seq.val (Does.assign rfl) (by decide) ?_
    refine Seq.go (fun _ _ h => h) ?_
    refine Run.seq ?_
    refine Run.region ?_
    have o39 := o16.lift s30 (by decide)
    refine Seq.val (Does.load_ownN [i64 vt.kind, i64 vt.from_, i64 vt.slot, i64 vt.view, i64 vt.valid, .slice A1 (List.length vt.value) c2] o39 ty24 rfl rfl) (by decide) ?_
    have q41 := (BytesV.pers _).step s30 q25
    have q40 : VoteV vt lab5 w28 (.agg #[i64 vt.kind, i64 vt.from_, i64 vt.slot, i64 vt.view, i64 vt.valid, .slice A1 (List.length vt.value) c2]) := VoteV.mk q41
    refine Seq.callS (V := VoteV vt) cal22 hv31 rfl (by decide) (law17_vote hv31 q40) ?_
    intro v42 w43 q44 s45 hv46
    obtain ⟨A47, c48, rfl, q49⟩ := VoteV.open q44
    have z50 := BytesV.cap q49
    have q51 : VoteV vt lab5 w43 (.agg #[i64 vt.kind, i64 vt.from_, i64 vt.slot, i64 vt.view, i64 vt.valid, .slice A47 (List.length vt.value) c48]) := VoteV.mk q49
    refine Seq.callS (V := And2 (BytesV (if vt.bad then [] else vt.bytes)) (Is (.bool (!vt.bad)))) cal21 hv46 rfl (by decide) (ref17_EncodeVote hv46 q51 (show List.length vt.value ≤ 5000 from by first | omega | (simp at *; omega))) ?_
    intro v52 w53 q54 s55 hv56
    obtain ⟨v57, v58, rfl, q59, q60⟩ := q54
    obtain ⟨A61, c62, rfl⟩ := BytesV.shape q59
    have z63 := BytesV.cap q59
    have q60 := Is.out q60; subst q60
    refine Seq.val (Does.move rfl) (by decide) ?_
    refine Seq.val (Does.extract rfl rfl) (by decide) ?_
    refine Seq.val (Does.extract rfl rfl) (by decide) ?_
    refine Seq.val (Does.assign rfl) (by decide) ?_
    refine Seq.val (Does.assign rfl) (by decide) ?_
    refine Seq.go (fun _ _ h => h) ?_
    refine Run.seq ?_
    refine Run.region ?_
    refine Seq.val (Does.move rfl) (by decide) ?_
    refine Seq.val (Does.move rfl) (by decide) ?_
    rcases bdich (!vt.bad) with hc2 | hc2
    · skip
      refine Seq.guard_on' rfl rfl hc2 ?_
      refine Seq.val (Does.move rfl) (by decide) ?_
      refine Seq.guard_on' rfl rfl hc2 ?_
      refine Seq.val (Does.eql rfl rfl) (by decide) ?_
      refine Seq.val (Does.pick_b rfl hc2 rfl) (by decide) ?_
      refine Seq.val (Does.move rfl) (by decide) ?_
      rcases bdich (decide ((if vt.bad then 3 else 0 : Int) = (0 : Int))) with hc3 | hc3
      · skip
        have hp3 := of_decide_eq_true hc3
        refine Seq.guard_on' rfl rfl hc3 ?_
        refine Seq.val (Does.move rfl) (by decide) ?_
        refine Seq.guard_on' rfl rfl hc3 ?_
        have c65 := s45.trans s55
        have q64 := (BytesV.pers _).step c65 q34
        refine Seq.val (Does.conv_str Try.underlying22 Try.underlying5 Try.underlying9 rfl q64) (by decide) ?_
        refine Seq.guard_on' rfl rfl hc3 ?_
        refine Seq.val (Does.move rfl) (by decide) ?_
        refine Seq.guard_on' rfl rfl hc3 ?_
        refine Seq.val (Does.conv_str Try.underlying22 Try.underlying5 Try.underlying9 rfl q59) (by decide) ?_
        refine Seq.guard_on' rfl rfl hc3 ?_
        refine Seq.val (Does.str_eql rfl rfl) (by decide) ?_
        refine Seq.val (Does.pick_b rfl hc3 rfl) (by decide) ?_
        refine Seq.val (Does.move rfl) (by decide) ?_
        rcases bdich (decide ((if vt.bad then [] else vt.bytes) = (if vt.bad then [] else vt.bytes))) with hc4 | hc4
        · skip
          have hp4 := of_decide_eq_true hc4
          refine Seq.guard_off' rfl rfl hc4 rfl (by decide) ?_
          refine Seq.guard_off' rfl rfl hc4 rfl (by decide) ?_
          refine Seq.guard_off' rfl rfl hc4 rfl (by decide) ?_
          refine Seq.guard_undef rfl rfl (by decide) ?_
          refine Seq.guard_undef rfl rfl (by decide) ?_
          refine Seq.guard_off' rfl rfl hc4 rfl (by decide) ?_
          refine Seq.guard_off' rfl rfl hc4 rfl (by decide) ?_
          refine Seq.guard_undef rfl rfl (by decide) ?_
          refine Seq.guard_undef rfl rfl (by decide) ?_
          refine Seq.guard_undef rfl rfl (by decide) ?_
          refine Seq.guard_off' rfl rfl hc4 rfl (by decide) ?_
          refine Seq.val (Does.pick_b rfl hc4 rfl) (by decide) ?_
          refine Seq.val (Does.assign rfl) (by decide) ?_
          refine Seq.go (fun _ _ h => h) ?_
          have c66 := s30.trans c65
          have c67 := c26.trans c66
          obtain ⟨zU, zo⟩ := c67.out (by decide) hv
          refine Run.ret ?_
          exact post_one Try.results3 rfl ⟨_, rfl, rfl, c67.leave (by decide)⟩
        · skip
          have hp4 := of_decide_eq_false hc4
          refine Seq.guard_on' rfl rfl hc4 ?_
          refine Seq.val (Does.move rfl) (by decide) ?_
          refine Seq.guard_on' rfl rfl hc4 ?_
          refine Seq.val (Does.not rfl) (by decide) ?_
          refine Seq.guard_on' rfl rfl hc4 ?_
          refine Seq.val (Does.move rfl) (by decide) ?_
          rcases bdich (!(!vt.bad)) with hc5 | hc5
          · skip
            refine Seq.guard_on' rfl rfl hc5 ?_
            refine Seq.val (Does.move rfl) (by decide) ?_
            refine Seq.guard_on' rfl rfl hc5 ?_
            refine Seq.val (Does.eql rfl rfl) (by decide) ?_
            refine Seq.guard_on' rfl rfl hc4 ?_
            refine Seq.val (Does.pick_b rfl hc5 rfl) (by decide) ?_
            refine Seq.guard_on' rfl rfl hc4 ?_
            refine Seq.val (Does.move rfl) (by decide) ?_
            rcases bdich (decide ((if vt.bad then 3 else 0 : Int) = (3 : Int))) with hc6 | hc6
            · skip
              have hp6 := of_decide_eq_true hc6
              refine Seq.guard_on' rfl rfl hc6 ?_
              refine Seq.val (Does.move rfl) (by decide) ?_
              refine Seq.guard_on' rfl rfl hc6 ?_
              refine Seq.val (Does.len Try.underlying22 rfl) (by decide) ?_
              refine Seq.guard_on' rfl rfl hc6 ?_
              refine Seq.val (Does.eql rfl rfl) (by decide) ?_
              refine Seq.guard_on' rfl rfl hc4 ?_
              refine Seq.val (Does.pick_b rfl hc6 rfl) (by decide) ?_
              refine Seq.val (Does.pick_b rfl hc4 rfl) (by decide) ?_
              refine Seq.val (Does.assign rfl) (by decide) ?_
              refine Seq.go (fun _ _ h => h) ?_
              have c68 := s30.trans c65
              have c69 := c26.trans c68
              obtain ⟨zU, zo⟩ := c69.out (by decide) hv
              refine Run.ret ?_
              exact post_one Try.results3 rfl ⟨_, rfl, (isBool (show ((decide ((((List.length (if vt.bad then [] else vt.bytes) : Nat) : Int) : Int) = (0 : Int))) : Bool) = true from by first | rfl | (simp_all; done; done) | (split at * <;> simp_all; done) | (simp_all; done) | omega) _ _), c69.leave (by decide)⟩
            · skip
              have hp6 := of_decide_eq_false hc6
              refine Seq.guard_off' rfl rfl hc6 rfl (by decide) ?_
              refine Seq.guard_off' rfl rfl hc6 rfl (by decide) ?_
              refine Seq.guard_off' rfl rfl hc6 rfl (by decide) ?_
              refine Seq.guard_on' rfl rfl hc4 ?_
              refine Seq.val (Does.pick_b rfl hc6 rfl) (by decide) ?_
              refine Seq.val (Does.pick_b rfl hc4 rfl) (by decide) ?_
              refine Seq.val (Does.assign rfl) (by decide) ?_
              refine Seq.go (fun _ _ h => h) ?_
              have c70 := s30.trans c65
              have c71 := c26.trans c70
              obtain ⟨zU, zo⟩ := c71.out (by decide) hv
              refine Run.ret ?_
              exact post_one Try.results3 rfl ⟨_, rfl, (isBool (show (false : Bool) = true from by first | rfl | (simp_all; done; done) | (split at * <;> simp_all; done) | (simp_all; done) | omega) _ _), c71.leave (by decide)⟩
          · skip
            refine Seq.guard_off' rfl rfl hc5 rfl (by decide) ?_
            refine Seq.guard_off' rfl rfl hc5 rfl (by decide) ?_
            refine Seq.guard_on' rfl rfl hc4 ?_
            refine Seq.val (Does.pick_b rfl hc5 rfl) (by decide) ?_
            refine Seq.guard_on' rfl rfl hc4 ?_
            refine Seq.val (Does.move rfl) (by decide) ?_
            refine Seq.guard_off' rfl rfl rfl rfl (by decide) ?_
            refine Seq.guard_off' rfl rfl rfl rfl (by decide) ?_
            refine Seq.guard_off' rfl rfl rfl rfl (by decide) ?_
            refine Seq.guard_on' rfl rfl hc4 ?_
            refine Seq.val (Does.pick_f rfl rfl) (by decide) ?_
            refine Seq.val (Does.pick_b rfl hc4 rfl) (by decide) ?_
            refine Seq.val (Does.assign rfl) (by decide) ?_
            refine Seq.go (fun _ _ h => h) ?_
            have c72 := s30.trans c65
            have c73 := c26.trans c72
            obtain ⟨zU, zo⟩ := c73.out (by decide) hv
            refine Run.ret ?_
            exact post_one Try.results3 rfl ⟨_, rfl, (isBool (show (false : Bool) = true from by first | rfl | (simp_all; done; done) | (split at * <;> simp_all; done) | (simp_all; done) | omega) _ _), c73.leave (by decide)⟩
      · skip
        have hp3 := of_decide_eq_false hc3
        refine Seq.guard_off' rfl rfl hc3 rfl (by decide) ?_
        refine Seq.guard_off' rfl rfl hc3 rfl (by decide) ?_
        refine Seq.guard_off' rfl rfl hc3 rfl (by decide) ?_
        refine Seq.guard_off' rfl rfl hc3 rfl (by decide) ?_
        refine Seq.guard_off' rfl rfl hc3 rfl (by decide) ?_
        refine Seq.val (Does.pick_b rfl hc3 rfl) (by decide) ?_
        refine Seq.val (Does.move rfl) (by decide) ?_
        refine Seq.guard_on' rfl rfl rfl ?_
        refine Seq.val (Does.move rfl) (by decide) ?_
        refine Seq.guard_on' rfl rfl rfl ?_
        refine Seq.val (Does.not rfl) (by decide) ?_
        refine Seq.guard_on' rfl rfl rfl ?_
        refine Seq.val (Does.move rfl) (by decide) ?_
        rcases bdich (!(!vt.bad)) with hc4 | hc4
        · skip
          refine Seq.guard_on' rfl rfl hc4 ?_
          refine Seq.val (Does.move rfl) (by decide) ?_
          refine Seq.guard_on' rfl rfl hc4 ?_
          refine Seq.val (Does.eql rfl rfl) (by decide) ?_
          refine Seq.guard_on' rfl rfl rfl ?_
          refine Seq.val (Does.pick_b rfl hc4 rfl) (by decide) ?_
          refine Seq.guard_on' rfl rfl rfl ?_
          refine Seq.val (Does.move rfl) (by decide) ?_
          rcases bdich (decide ((if vt.bad then 3 else 0 : Int) = (3 : Int))) with hc5 | hc5
          · skip
            have hp5 := of_decide_eq_true hc5
            refine Seq.guard_on' rfl rfl hc5 ?_
            refine Seq.val (Does.move rfl) (by decide) ?_
            refine Seq.guard_on' rfl rfl hc5 ?_
            refine Seq.val (Does.len Try.underlying22 rfl) (by decide) ?_
            refine Seq.guard_on' rfl rfl hc5 ?_
            refine Seq.val (Does.eql rfl rfl) (by decide) ?_
            refine Seq.guard_on' rfl rfl rfl ?_
            refine Seq.val (Does.pick_b rfl hc5 rfl) (by decide) ?_
            refine Seq.val (Does.pick_f rfl rfl) (by decide) ?_
            refine Seq.val (Does.assign rfl) (by decide) ?_
            refine Seq.go (fun _ _ h => h) ?_
            have c74 := s45.trans s55
            have c75 := s30.trans c74
            have c76 := c26.trans c75
            obtain ⟨zU, zo⟩ := c76.out (by decide) hv
            refine Run.ret ?_
            exact post_one Try.results3 rfl ⟨_, rfl, (isBool (show ((decide ((((List.length (if vt.bad then [] else vt.bytes) : Nat) : Int) : Int) = (0 : Int))) : Bool) = true from by first | rfl | (simp_all; done; done) | (split at * <;> simp_all; done) | (simp_all; done) | omega) _ _), c76.leave (by decide)⟩
          · skip
            have hp5 := of_decide_eq_false hc5
            refine Seq.guard_off' rfl rfl hc5 rfl (by decide) ?_
            refine Seq.guard_off' rfl rfl hc5 rfl (by decide) ?_
            refine Seq.guard_off' rfl rfl hc5 rfl (by decide) ?_
            refine Seq.guard_on' rfl rfl rfl ?_
            refine Seq.val (Does.pick_b rfl hc5 rfl) (by decide) ?_
            refine Seq.val (Does.pick_f rfl rfl) (by decide) ?_
            refine Seq.val (Does.assign rfl) (by decide) ?_
            refine Seq.go (fun _ _ h => h) ?_
            have c77 := s45.trans s55
            have c78 := s30.trans c77
            have c79 := c26.trans c78
            obtain ⟨zU, zo⟩ := c79.out (by decide) hv
            refine Run.ret ?_
            exact post_one Try.results3 rfl ⟨_, rfl, (isBool (show (false : Bool) = true from by first | rfl | (simp_all; done; done) | (split at * <;> simp_all; done) | (simp_all; done) | omega) _ _), c79.leave (by decide)⟩
        · skip
          refine Seq.guard_off' rfl rfl hc4 rfl (by decide) ?_
          refine Seq.guard_off' rfl rfl hc4 rfl (by decide) ?_
          refine Seq.guard_on' rfl rfl rfl ?_
          refine Seq.val (Does.pick_b rfl hc4 rfl) (by decide) ?_
          refine Seq.guard_on' rfl rfl rfl ?_
          refine Seq.val (Does.move rfl) (by decide) ?_
          refine Seq.guard_off' rfl rfl rfl rfl (by decide) ?_
          refine Seq.guard_off' rfl rfl rfl rfl (by decide) ?_
          refine Seq.guard_off' rfl rfl rfl rfl (by decide) ?_
          refine Seq.guard_on' rfl rfl rfl ?_
          refine Seq.val (Does.pick_f rfl rfl) (by decide) ?_
          refine Seq.val (Does.pick_f rfl rfl) (by decide) ?_
          refine Seq.val (Does.assign rfl) (by decide) ?_
          refine Seq.go (fun _ _ h => h) ?_
          have c80 := s45.trans s55
          have c81 := s30.trans c80
          have c82 := c26.trans c81
          obtain ⟨zU, zo⟩ := c82.out (by decide) hv
          refine Run.ret ?_
          exact post_one Try.results3 rfl ⟨_, rfl, (isBool (show (false : Bool) = true from by first | rfl | (simp_all; done; done) | (split at * <;> simp_all; done) | (simp_all; done) | omega) _ _), c82.leave (by decide)⟩
    · skip
      refine Seq.guard_off' rfl rfl hc2 rfl (by decide) ?_
      refine Seq.guard_off' rfl rfl hc2 rfl (by decide) ?_
      refine Seq.val (Does.pick_b rfl hc2 rfl) (by decide) ?_
      refine Seq.val (Does.move rfl) (by decide) ?_
      refine Seq.guard_off' rfl rfl rfl rfl (by decide) ?_
      refine Seq.guard_off' rfl rfl rfl rfl (by decide) ?_
      refine Seq.guard_off' rfl rfl rfl rfl (by decide) ?_
      refine Seq.guard_off' rfl rfl rfl rfl (by decide) ?_
      refine Seq.guard_off' rfl rfl rfl rfl (by decide) ?_
      refine Seq.val (Does.pick_f rfl rfl) (by decide) ?_
      refine Seq.val (Does.move rfl) (by decide) ?_
      refine Seq.guard_on' rfl rfl rfl ?_
      refine Seq.val (Does.move rfl) (by decide) ?_
      refine Seq.guard_on' rfl rfl rfl ?_
      refine Seq.val (Does.not rfl) (by decide) ?_
      refine Seq.guard_on' rfl rfl rfl ?_
      refine Seq.val (Does.move rfl) (by decide) ?_
      rcases bdich (!(!vt.bad)) with hc3 | hc3
      · skip
        refine Seq.guard_on' rfl rfl hc3 ?_
        refine Seq.val (Does.move rfl) (by decide) ?_
        refine Seq.guard_on' rfl rfl hc3 ?_
        refine Seq.val (Does.eql rfl rfl) (by decide) ?_
        refine Seq.guard_on' rfl rfl rfl ?_
        refine Seq.val (Does.pick_b rfl hc3 rfl) (by decide) ?_
        refine Seq.guard_on' rfl rfl rfl ?_
        refine Seq.val (Does.move rfl) (by decide) ?_
        rcases bdich (decide ((if vt.bad then 3 else 0 : Int) = (3 : Int))) with hc4 | hc4
        · skip
          have hp4 := of_decide_eq_true hc4
          refine Seq.guard_on' rfl rfl hc4 ?_
          refine Seq.val (Does.move rfl) (by decide) ?_
          refine Seq.guard_on' rfl rfl hc4 ?_
          refine Seq.val (Does.len Try.underlying22 rfl) (by decide) ?_
          refine Seq.guard_on' rfl rfl hc4 ?_
          refine Seq.val (Does.eql rfl rfl) (by decide) ?_
          refine Seq.guard_on' rfl rfl rfl ?_
          refine Seq.val (Does.pick_b rfl hc4 rfl) (by decide) ?_
          refine Seq.val (Does.pick_f rfl rfl) (by decide) ?_
          refine Seq.val (Does.assign rfl) (by decide) ?_
          refine Seq.go (fun _ _ h => h) ?_
          have c83 := s45.trans s55
          have c84 := s30.trans c83
          have c85 := c26.trans c84
          obtain ⟨zU, zo⟩ := c85.out (by decide) hv
          refine Run.ret ?_
          exact post_one Try.results3 rfl ⟨_, rfl, (isBool (show ((decide ((((List.length (if vt.bad then [] else vt.bytes) : Nat) : Int) : Int) = (0 : Int))) : Bool) = true from by first | rfl | (simp_all; done; done) | (split at * <;> simp_all; done) | (simp_all; done) | omega) _ _), c85.leave (by decide)⟩
        · skip
          have hp4 := of_decide_eq_false hc4
          refine Seq.guard_off' rfl rfl hc4 rfl (by decide) ?_
          refine Seq.guard_off' rfl rfl hc4 rfl (by decide) ?_
          refine Seq.guard_off' rfl rfl hc4 rfl (by decide) ?_
          refine Seq.guard_on' rfl rfl rfl ?_
          refine Seq.val (Does.pick_b rfl hc4 rfl) (by decide) ?_
          refine Seq.val (Does.pick_f rfl rfl) (by decide) ?_
          refine Seq.val (Does.assign rfl) (by decide) ?_
          refine Seq.go (fun _ _ h => h) ?_
          have c86 := s45.trans s55
          have c87 := s30.trans c86
          have c88 := c26.trans c87
          obtain ⟨zU, zo⟩ := c88.out (by decide) hv
          refine Run.ret ?_
          exact post_one Try.results3 rfl ⟨_, rfl, (isBool (show (false : Bool) = true from by first | rfl | (simp_all; done; done) | (split at * <;> simp_all; done) | (simp_all; done) | omega) _ _), c88.leave (by decide)⟩
      · skip
        refine Seq.guard_off' rfl rfl hc3 rfl (by decide) ?_
        refine Seq.guard_off' rfl rfl hc3 rfl (by decide) ?_
        refine Seq.guard_on' rfl rfl rfl ?_
        refine Seq.val (Does.pick_b rfl hc3 rfl) (by decide) ?_
        refine Seq.guard_on' rfl rfl rfl ?_
        refine Seq.val (Does.move rfl) (by decide) ?_
        refine Seq.guard_off' rfl rfl rfl rfl (by decide) ?_
        refine Seq.guard_off' rfl rfl rfl rfl (by decide) ?_
        refine Seq.guard_off' rfl rfl rfl rfl (by decide) ?_
        refine Seq.guard_on' rfl rfl rfl ?_
        refine Seq.val (Does.pick_f rfl rfl) (by decide) ?_
        refine Seq.val (Does.pick_f rfl rfl) (by decide) ?_
        refine Seq.val (Does.assign rfl) (by decide) ?_
        refine Seq.go (fun _ _ h => h) ?_
        have c89 := s45.trans s55
        have c90 := s30.trans c89
        have c91 := c26.trans c90
        obtain ⟨zU, zo⟩ := c91.out (by decide) hv
        refine Run.ret ?_
        exact post_one Try.results3 rfl ⟨_, rfl, (isBool (show (false : Bool) = true from by first | rfl | (simp_all; done; done) | (split at * <;> simp_all; done) | (simp_all; done) | omega) _ _), c91.leave (by decide)⟩

end Go.Proofs.Ytgfomedobfaidaa
