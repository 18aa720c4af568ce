/-
  The walks of some functions: what each call comes to.
-/
import Derived.Test.YtgfomedobfaidaaRef17
set_option linter.unusedVariables false
set_option linter.unusedSimpArgs false
set_option maxRecDepth 100000
namespace Go.Proofs.Ytgfomedobfaidaa
open Go.RowKit

theorem ref17_used {lab : Lab} {w : World} (hv : Valid lab w) {kd : Int} :
    Calls Try.prog 97 #[i64 kd] w (fun e w' => ∃ v, e = .returned v ∧ (Is (.agg #[.bool (usedB kd 0), .bool (usedB kd 1), .bool (usedB kd 2), .bool (usedB kd 3), .bool (usedB kd 4), .bool (usedB kd 5)])) lab w' v ∧ Below w.heap.size w w') := by
  have hv0 := hv.ent
  obtain ⟨zU0, z00⟩ := ent_step lab w
  refine calls_run Try.func97 rfl Try.ntmps97 (Nat.le_of_ble_eq_true rfl) ?_
  refine Run.seq ?_
  refine Run.region ?_
  refine Seq.alloc (k := 3) [.bool false, .bool false, .bool false, .bool false, .bool false, .bool false] hv0 ty154 rfl (by decide) ?_
  intro lab1 w2 b3 o4 s5 hv6
  refine Seq.go (fun _ _ h => h) ?_
  refine Run.seq ?_
  refine Run.seq ?_
  refine Run.region ?_
  refine Seq.val (Does.move rfl) (by decide) ?_
  refine Seq.go (fun _ _ h => h) ?_
  refine Run.block ?_
  refine Run.seq ?_
  refine Run.region ?_
  refine Seq.val (Does.eql rfl rfl) (by decide) ?_
  refine Seq.val (Does.assign rfl) (by decide) ?_
  refine Seq.go (fun _ _ h => h) ?_
  rcases bdich (decide ((kd : Int) = (1 : Int))) with hc1 | hc1
  · skip
    have hp1 := of_decide_eq_true hc1
    refine Run.cond_b rfl hc1 ?_
    refine Run.seq ?_
    refine Run.region ?_
    refine Seq.val (Does.build_arr [(0, .bool true), (1, .bool true)] [.bool true, .bool true, .bool false, .bool false, .bool false, .bool false] (n := 6) (by kernel_rfl) ty154 ty4 rfl (by kernel_rfl)) (by decide) ?_
    refine Seq.store [.bool true, .bool true, .bool false, .bool false, .bool false, .bool false] hv6 o4 ty154 rfl rfl rfl (Nat.le_of_ble_eq_true rfl) rfl rfl ?_
    intro w7 o8 s9 hv10
    refine Seq.go (fun _ _ h => h) ?_
    have c11 := s5.trans s9
    obtain ⟨zU, zo⟩ := c11.out (by decide) hv
    refine Run.ret (ret_block (ret_then ?_))
    exact post_one Try.results97 ⟨_, rfl, Own.loadN [.bool true, .bool true, .bool false, .bool false, .bool false, .bool false] o8 ty154 rfl⟩ ⟨_, rfl, (by simp_all [Is, usedB]), c11.leave (by decide)⟩
  · skip
    have hp1 := of_decide_eq_false hc1
    refine Run.cond_b rfl hc1 ?_
    refine Run.seq ?_
    refine Run.seq ?_
    refine Run.region ?_
    refine Seq.val (Does.eql rfl rfl) (by decide) ?_
    refine Seq.val (Does.assign rfl) (by decide) ?_
    refine Seq.go (fun _ _ h => h) ?_
    rcases bdich (decide ((kd : Int) = (2 : Int))) with hc2 | hc2
    · skip
      have hp2 := of_decide_eq_true hc2
      refine Run.cond_b rfl hc2 ?_
      refine Run.skip_go (fun _ _ h => h) ?_
      refine Run.cond_b rfl hc2 ?_
      refine Run.seq ?_
      refine Run.region ?_
      refine Seq.val (Does.build_arr [(3, .bool true), (4, .bool true)] [.bool false, .bool false, .bool false, .bool true, .bool true, .bool false] (n := 6) (by kernel_rfl) ty154 ty4 rfl (by kernel_rfl)) (by decide) ?_
      refine Seq.store [.bool false, .bool false, .bool false, .bool true, .bool true, .bool false] hv6 o4 ty154 rfl rfl rfl (Nat.le_of_ble_eq_true rfl) rfl rfl ?_
      intro w12 o13 s14 hv15
      refine Seq.go (fun _ _ h => h) ?_
      have c16 := s5.trans s14
      obtain ⟨zU, zo⟩ := c16.out (by decide) hv
      refine Run.ret (ret_block (ret_then ?_))
      exact post_one Try.results97 ⟨_, rfl, Own.loadN [.bool false, .bool false, .bool false, .bool true, .bool true, .bool false] o13 ty154 rfl⟩ ⟨_, rfl, (by simp_all [Is, usedB]), c16.leave (by decide)⟩
    · skip
      have hp2 := of_decide_eq_false hc2
      refine Run.cond_b rfl hc2 ?_
      refine Run.region ?_
      refine Seq.val (Does.eql rfl rfl) (by decide) ?_
      refine Seq.val (Does.assign rfl) (by decide) ?_
      refine Seq.go (fun _ _ h => h) ?_
      rcases bdich (decide ((kd : Int) = (7 : Int))) with hc3 | hc3
      · skip
        have hp3 := of_decide_eq_true hc3
        refine Run.cond_b rfl hc3 ?_
        refine Run.seq ?_
        refine Run.region ?_
        refine Seq.val (Does.build_arr [(3, .bool true), (4, .bool true)] [.bool false, .bool false, .bool false, .bool true, .bool true, .bool false] (n := 6) (by kernel_rfl) ty154 ty4 rfl (by kernel_rfl)) (by decide) ?_
        refine Seq.store [.bool false, .bool false, .bool false, .bool true, .bool true, .bool false] hv6 o4 ty154 rfl rfl rfl (Nat.le_of_ble_eq_true rfl) rfl rfl ?_
        intro w17 o18 s19 hv20
        refine Seq.go (fun _ _ h => h) ?_
        have c21 := s5.trans s19
        obtain ⟨zU, zo⟩ := c21.out (by decide) hv
        refine Run.ret (ret_block (ret_then ?_))
        exact post_one Try.results97 ⟨_, rfl, Own.loadN [.bool false, .bool false, .bool false, .bool true, .bool true, .bool false] o18 ty154 rfl⟩ ⟨_, rfl, (by simp_all [Is, usedB]), c21.leave (by decide)⟩
      · skip
        have hp3 := of_decide_eq_false hc3
        refine Run.cond_b rfl hc3 ?_
        refine Run.seq ?_
        refine Run.seq ?_
        refine Run.region ?_
        refine Seq.val (Does.eql rfl rfl) (by decide) ?_
        refine Seq.val (Does.assign rfl) (by decide) ?_
        refine Seq.go (fun _ _ h => h) ?_
        rcases bdich (decide ((kd : Int) = (3 : Int))) with hc4 | hc4
        · skip
          have hp4 := of_decide_eq_true hc4
          refine Run.cond_b rfl hc4 ?_
          refine Run.skip_go (fun _ _ h => h) ?_
          refine Run.cond_b rfl hc4 ?_
          refine Run.seq ?_
          refine Run.region ?_
          refine Seq.val (Does.build_arr [(1, .bool true), (3, .bool true), (5, .bool true)] [.bool false, .bool true, .bool false, .bool true, .bool false, .bool true] (n := 6) (by kernel_rfl) ty154 ty4 rfl (by kernel_rfl)) (by decide) ?_
          refine Seq.store [.bool false, .bool true, .bool false, .bool true, .bool false, .bool true] hv6 o4 ty154 rfl rfl rfl (Nat.le_of_ble_eq_true rfl) rfl rfl ?_
          intro w22 o23 s24 hv25
          refine Seq.go (fun _ _ h => h) ?_
          have c26 := s5.trans s24
          obtain ⟨zU, zo⟩ := c26.out (by decide) hv
          refine Run.ret (ret_block (ret_then ?_))
          exact post_one Try.results97 ⟨_, rfl, Own.loadN [.bool false, .bool true, .bool false, .bool true, .bool false, .bool true] o23 ty154 rfl⟩ ⟨_, rfl, (by simp_all [Is, usedB]), c26.leave (by decide)⟩
        · skip
          have hp4 := of_decide_eq_false hc4
          refine Run.cond_b rfl hc4 ?_
          refine Run.region ?_
          refine Seq.val (Does.eql rfl rfl) (by decide) ?_
          refine Seq.val (Does.assign rfl) (by decide) ?_
          refine Seq.go (fun _ _ h => h) ?_
          rcases bdich (decide ((kd : Int) = (6 : Int))) with hc5 | hc5
          · skip
            have hp5 := of_decide_eq_true hc5
            refine Run.cond_b rfl hc5 ?_
            refine Run.seq ?_
            refine Run.region ?_
            refine Seq.val (Does.build_arr [(1, .bool true), (3, .bool true), (5, .bool true)] [.bool false, .bool true, .bool false, .bool true, .bool false, .bool true] (n := 6) (by kernel_rfl) ty154 ty4 rfl (by kernel_rfl)) (by decide) ?_
            refine Seq.store [.bool false, .bool true, .bool false, .bool true, .bool false, .bool true] hv6 o4 ty154 rfl rfl rfl (Nat.le_of_ble_eq_true rfl) rfl rfl ?_
            intro w27 o28 s29 hv30
            refine Seq.go (fun _ _ h => h) ?_
            have c31 := s5.trans s29
            obtain ⟨zU, zo⟩ := c31.out (by decide) hv
            refine Run.ret (ret_block (ret_then ?_))
            exact post_one Try.results97 ⟨_, rfl, Own.loadN [.bool false, .bool true, .bool false, .bool true, .bool false, .bool true] o28 ty154 rfl⟩ ⟨_, rfl, (by simp_all [Is, usedB]), c31.leave (by decide)⟩
          · skip
            have hp5 := of_decide_eq_false hc5
            refine Run.cond_b rfl hc5 ?_
            refine Run.seq ?_
            refine Run.region ?_
            refine Seq.val (Does.eql rfl rfl) (by decide) ?_
            refine Seq.val (Does.assign rfl) (by decide) ?_
            refine Seq.go (fun _ _ h => h) ?_
            rcases bdich (decide ((kd : Int) = (4 : Int))) with hc6 | hc6
            · skip
              have hp6 := of_decide_eq_true hc6
              refine Run.cond_b rfl hc6 ?_
              refine Run.seq ?_
              refine Run.region ?_
              refine Seq.val (Does.build_arr [(2, .bool true)] [.bool false, .bool false, .bool true, .bool false, .bool false, .bool false] (n := 6) (by kernel_rfl) ty154 ty4 rfl (by kernel_rfl)) (by decide) ?_
              refine Seq.store [.bool false, .bool false, .bool true, .bool false, .bool false, .bool false] hv6 o4 ty154 rfl rfl rfl (Nat.le_of_ble_eq_true rfl) rfl rfl ?_
              intro w32 o33 s34 hv35
              refine Seq.go (fun _ _ h => h) ?_
              have c36 := s5.trans s34
              obtain ⟨zU, zo⟩ := c36.out (by decide) hv
              refine Run.ret (ret_block (ret_then ?_))
              exact post_one Try.results97 ⟨_, rfl, Own.loadN [.bool false, .bool false, .bool true, .bool false, .bool false, .bool false] o33 ty154 rfl⟩ ⟨_, rfl, (by simp_all [Is, usedB]), c36.leave (by decide)⟩
            · skip
              have hp6 := of_decide_eq_false hc6
              refine Run.cond_b rfl hc6 ?_
              refine Run.seq ?_
              refine Run.region ?_
              refine Seq.val (Does.eql rfl rfl) (by decide) ?_
              refine Seq.val (Does.assign rfl) (by decide) ?_
              refine Seq.go (fun _ _ h => h) ?_
              rcases bdich (decide ((kd : Int) = (5 : Int))) with hc7 | hc7
              · skip
                have hp7 := of_decide_eq_true hc7
                refine Run.cond_b rfl hc7 ?_
                refine Run.seq ?_
                refine Run.region ?_
                refine Seq.val (Does.build_arr [(3, .bool true)] [.bool false, .bool false, .bool false, .bool true, .bool false, .bool false] (n := 6) (by kernel_rfl) ty154 ty4 rfl (by kernel_rfl)) (by decide) ?_
                refine Seq.store [.bool false, .bool false, .bool false, .bool true, .bool false, .bool false] hv6 o4 ty154 rfl rfl rfl (Nat.le_of_ble_eq_true rfl) rfl rfl ?_
                intro w37 o38 s39 hv40
                refine Seq.go (fun _ _ h => h) ?_
                have c41 := s5.trans s39
                obtain ⟨zU, zo⟩ := c41.out (by decide) hv
                refine Run.ret (ret_block (ret_then ?_))
                exact post_one Try.results97 ⟨_, rfl, Own.loadN [.bool false, .bool false, .bool false, .bool true, .bool false, .bool false] o38 ty154 rfl⟩ ⟨_, rfl, (by simp_all [Is, usedB]), c41.leave (by decide)⟩
              · skip
                have hp7 := of_decide_eq_false hc7
                refine Run.cond_b rfl hc7 ?_
                refine Run.skip_go (fun _ _ h => h) ?_
                refine Run.seq ?_
                refine Run.region ?_
                refine Seq.val (Does.build_arr [] [.bool false, .bool false, .bool false, .bool false, .bool false, .bool false] (n := 6) (by kernel_rfl) ty154 ty4 rfl (by kernel_rfl)) (by decide) ?_
                refine Seq.store [.bool false, .bool false, .bool false, .bool false, .bool false, .bool false] hv6 o4 ty154 rfl rfl rfl (Nat.le_of_ble_eq_true rfl) rfl rfl ?_
                intro w42 o43 s44 hv45
                refine Seq.go (fun _ _ h => h) ?_
                have c46 := s5.trans s44
                obtain ⟨zU, zo⟩ := c46.out (by decide) hv
                refine Run.ret ?_
                exact post_one Try.results97 ⟨_, rfl, Own.loadN [.bool false, .bool false, .bool false, .bool false, .bool false, .bool false] o43 ty154 rfl⟩ ⟨_, rfl, (by simp_all [Is, usedB]), c46.leave (by decide)⟩

set_option maxHeartbeats 4000000 in
theorem ref17_EncodeEntry {lab : Lab} {w : World} (hv : Valid lab w) {re : RentryD} {v0 : Value} (h0 : RentryV re lab w v0) (hn : ∀ k, k < List.length re.nums → List.length (List.getD re.nums k []) ≤ 100000) :
    Calls Try.prog 26 #[v0] w (fun e w' => ∃ v, e = .returned v ∧ (And2 (BytesV (if re.bad then [] else re.all)) (Is (.bool (!re.bad && decide (((List.length (if re.bad then [] else re.all) : Nat) : Int) ≤ 4096))))) lab w' v ∧ Below w.heap.size w w') := by
  have hv0 := hv.ent
  obtain ⟨zU0, z00⟩ := ent_step lab w
  replace h0 := (RentryV.pers _).step z00 h0
  obtain ⟨A1, c2, A4, c5, A7, c8, rfl, q3, q6, q9⟩ := RentryV.open h0
  have z10 := NumsV.cap q3
  have z11 := RowsV.cap q6
  have z12 := BytesV.cap q9
  have hN := listIf_le (numsB re.nums) (most := 128) (by omega)
  have hT := listIf_le re.texts (most := 1024) (by omega)
  refine calls_run Try.func26 rfl Try.ntmps26 (Nat.le_of_ble_eq_true rfl) ?_
  refine Run.seq ?_
  refine Run.region ?_
  refine Seq.box (k := 2) [i64 re.kind, i64 re.author, i64 re.epoch, i64 re.mode, i64 re.peer, i64 re.phase, .slice A1 (List.length re.nums) c2, .slice A4 (List.length re.texts) c5, .slice A7 (List.length re.proof) c8] hv0 rfl rfl (by decide) ?_
  intro lab13 w14 b15 o16 s17 hv18
  refine Seq.val (Does.assign rfl) (by decide) ?_
  refine Seq.val (Does.assign rfl) (by decide) ?_
  refine Seq.go (fun _ _ h => h) ?_
  refine Run.seq ?_
  refine Run.seq ?_
  refine Run.region ?_
  refine Seq.val (Does.fieldAddr' 0 Try.underlying43 rfl ty3 rfl rfl) (by decide) ?_
  refine Seq.val (Does.load_own1 o16 ty3 rfl rfl) (by decide) ?_
  refine Seq.callS (V := Is (.bool (!(out_ re.kind 1 7)))) cal89 hv18 rfl (by decide) (ref17_in hv18 (n := re.kind) (least := 1) (most := 7)) ?_
  intro v19 w20 q21 s22 hv23
  have q21 := Is.out q21; subst q21
  refine Seq.val (Does.not rfl) (by decide) ?_
  refine Seq.val (Does.move rfl) (by decide) ?_
  rcases bdich (!(!(out_ re.kind 1 7))) with hc1 | hc1
  · skip
    refine Seq.guard_off' rfl rfl hc1 rfl (by decide) ?_
    refine Seq.guard_off' rfl rfl hc1 rfl (by decide) ?_
    refine Seq.guard_off' rfl rfl hc1 rfl (by decide) ?_
    refine Seq.guard_off' rfl rfl hc1 rfl (by decide) ?_
    refine Seq.val (Does.pick_b rfl hc1 rfl) (by decide) ?_
    refine Seq.val (Does.move rfl) (by decide) ?_
    refine Seq.guard_off' rfl rfl rfl rfl (by decide) ?_
    refine Seq.guard_off' rfl rfl rfl rfl (by decide) ?_
    refine Seq.guard_off' rfl rfl rfl rfl (by decide) ?_
    refine Seq.guard_off' rfl rfl rfl rfl (by decide) ?_
    refine Seq.val (Does.pick_t rfl rfl) (by decide) ?_
    refine Seq.val (Does.move rfl) (by decide) ?_
    refine Seq.guard_off' rfl rfl rfl rfl (by decide) ?_
    refine Seq.guard_off' rfl rfl rfl rfl (by decide) ?_
    refine Seq.guard_off' rfl rfl rfl rfl (by decide) ?_
    refine Seq.guard_off' rfl rfl rfl rfl (by decide) ?_
    refine Seq.val (Does.pick_t rfl rfl) (by decide) ?_
    refine Seq.val (Does.move rfl) (by decide) ?_
    refine Seq.guard_off' rfl rfl rfl rfl (by decide) ?_
    refine Seq.guard_off' rfl rfl rfl rfl (by decide) ?_
    refine Seq.guard_off' rfl rfl rfl rfl (by decide) ?_
    refine Seq.guard_off' rfl rfl rfl rfl (by decide) ?_
    refine Seq.val (Does.pick_t rfl rfl) (by decide) ?_
    refine Seq.val (Does.move rfl) (by decide) ?_
    refine Seq.guard_off' rfl rfl rfl rfl (by decide) ?_
    refine Seq.guard_off' rfl rfl rfl rfl (by decide) ?_
    refine Seq.guard_off' rfl rfl rfl rfl (by decide) ?_
    refine Seq.guard_off' rfl rfl rfl rfl (by decide) ?_
    refine Seq.val (Does.pick_t rfl rfl) (by decide) ?_
    refine Seq.val (Does.move rfl) (by decide) ?_
    refine Seq.guard_off' rfl rfl rfl rfl (by decide) ?_
    refine Seq.guard_off' rfl rfl rfl rfl (by decide) ?_
    refine Seq.guard_off' rfl rfl rfl rfl (by decide) ?_
    refine Seq.guard_off' rfl rfl rfl rfl (by decide) ?_
    refine Seq.val (Does.pick_t rfl rfl) (by decide) ?_
    refine Seq.go (fun _ _ h => h) ?_
    refine Run.cond_b rfl rfl ?_
    refine Run.seq ?_
    refine Run.region ?_
    refine Seq.val (Does.assign rfl) (by decide) ?_
    refine Seq.val (Does.assign rfl) (by decide) ?_
    refine Seq.go (fun _ _ h => h) ?_
    have c24 := s17.trans s22
    obtain ⟨zU, zo⟩ := c24.out (by decide) hv
    refine Run.ret (ret_then ?_)
    exact post_two Try.results26 rfl rfl ⟨_, rfl, ⟨_, _, rfl, (BytesV.cast (show ([] : List UInt8) = (if re.bad then [] else re.all) from by first | rfl | (exact RentryD.final (show re.out = false from by (unfold RentryD.out; simp [out_] at hc1 hc2 hc3 hc4 hc5 hc6 ⊢; omega)) (uses_all (k := k) (by omega) hno) hc9 hc10; done) | (rw [RentryD.final (show re.out = false from by (unfold RentryD.out; simp [out_] at hc1 hc2 hc3 hc4 hc5 hc6 ⊢; omega)) (uses_all (k := k) (by omega) hno) hc9 hc10, RentryD.bad_no (show re.out = false from by (unfold RentryD.out; simp [out_] at hc1 hc2 hc3 hc4 hc5 hc6 ⊢; omega)) (uses_all (k := k) (by omega) hno) hc9 hc10]; simp; done) | (rw [if_pos (RentryD.bad_out (show re.out = true from by (unfold RentryD.out; simp [out_] at *; omega)))]; done) | (rw [RentryD.bad_out (show re.out = true from by (unfold RentryD.out; simp [out_] at *; omega))]; rfl; done) | (rw [if_pos (RentryD.bad_uses (uses_at (by omega) hc9 hc10))]; done) | (rw [RentryD.bad_uses (uses_at (by omega) hc9 hc10)]; rfl; done) | (rw [if_pos (RentryD.bad_nums hc9)]; done) | (rw [RentryD.bad_nums hc9]; rfl; done) | (rw [if_pos (RentryD.bad_texts hc10)]; done) | (rw [RentryD.bad_texts hc10]; rfl; done) | (simp_all; done) | omega) (BytesV.nil _ _)), (isBool (show (false : Bool) = (!re.bad && decide (((List.length (if re.bad then [] else re.all) : Nat) : Int) ≤ 4096)) from by first | rfl | (exact RentryD.final (show re.out = false from by (unfold RentryD.out; simp [out_] at hc1 hc2 hc3 hc4 hc5 hc6 ⊢; omega)) (uses_all (k := k) (by omega) hno) hc9 hc10; done) | (rw [RentryD.final (show re.out = false from by (unfold RentryD.out; simp [out_] at hc1 hc2 hc3 hc4 hc5 hc6 ⊢; omega)) (uses_all (k := k) (by omega) hno) hc9 hc10, RentryD.bad_no (show re.out = false from by (unfold RentryD.out; simp [out_] at hc1 hc2 hc3 hc4 hc5 hc6 ⊢; omega)) (uses_all (k := k) (by omega) hno) hc9 hc10]; simp; done) | (rw [if_pos (RentryD.bad_out (show re.out = true from by (unfold RentryD.out; simp [out_] at *; omega)))]; done) | (rw [RentryD.bad_out (show re.out = true from by (unfold RentryD.out; simp [out_] at *; omega))]; rfl; done) | (rw [if_pos (RentryD.bad_uses (uses_at (by omega) hc9 hc10))]; done) | (rw [RentryD.bad_uses (uses_at (by omega) hc9 hc10)]; rfl; done) | (rw [if_pos (RentryD.bad_nums hc9)]; done) | (rw [RentryD.bad_nums hc9]; rfl; done) | (rw [if_pos (RentryD.bad_texts hc10)]; done) | (rw [RentryD.bad_texts hc10]; rfl; done) | (simp_all; done) | omega) _ _)⟩, c24.leave (by decide)⟩
  · skip
    refine Seq.guard_on' rfl rfl hc1 ?_
    refine Seq.val (Does.fieldAddr' 1 Try.underlying43 rfl ty3 rfl rfl) (by decide) ?_
    refine Seq.guard_on' rfl rfl hc1 ?_
    have o25 := o16.lift s22 (by decide)
    refine Seq.val (Does.load_own1 o25 ty3 rfl rfl) (by decide) ?_
    refine Seq.guard_on' rfl rfl hc1 ?_
    refine Seq.callS (V := Is (.bool (!(out_ re.author 1 64)))) cal89 hv23 rfl (by decide) (ref17_in hv23 (n := re.author) (least := 1) (most := 64)) ?_
    intro v26 w27 q28 s29 hv30
    have q28 := Is.out q28; subst q28
    refine Seq.guard_on' rfl rfl hc1 ?_
    refine Seq.val (Does.not rfl) (by decide) ?_
    refine Seq.val (Does.pick_b rfl hc1 rfl) (by decide) ?_
    refine Seq.val (Does.move rfl) (by decide) ?_
    rcases bdich (!(!(out_ re.author 1 64))) with hc2 | hc2
    · skip
      refine Seq.guard_off' rfl rfl hc2 rfl (by decide) ?_
      refine Seq.guard_off' rfl rfl hc2 rfl (by decide) ?_
      refine Seq.guard_off' rfl rfl hc2 rfl (by decide) ?_
      refine Seq.guard_off' rfl rfl hc2 rfl (by decide) ?_
      refine Seq.val (Does.pick_b rfl hc2 rfl) (by decide) ?_
      refine Seq.val (Does.move rfl) (by decide) ?_
      refine Seq.guard_off' rfl rfl rfl rfl (by decide) ?_
      refine Seq.guard_off' rfl rfl rfl rfl (by decide) ?_
      refine Seq.guard_off' rfl rfl rfl rfl (by decide) ?_
      refine Seq.guard_off' rfl rfl rfl rfl (by decide) ?_
      refine Seq.val (Does.pick_t rfl rfl) (by decide) ?_
      refine Seq.val (Does.move rfl) (by decide) ?_
      refine Seq.guard_off' rfl rfl rfl rfl (by decide) ?_
      refine Seq.guard_off' rfl rfl rfl rfl (by decide) ?_
      refine Seq.guard_off' rfl rfl rfl rfl (by decide) ?_
      refine Seq.guard_off' rfl rfl rfl rfl (by decide) ?_
      refine Seq.val (Does.pick_t rfl rfl) (by decide) ?_
      refine Seq.val (Does.move rfl) (by decide) ?_
      refine Seq.guard_off' rfl rfl rfl rfl (by decide) ?_
      refine Seq.guard_off' rfl rfl rfl rfl (by decide) ?_
      refine Seq.guard_off' rfl rfl rfl rfl (by decide) ?_
      refine Seq.guard_off' rfl rfl rfl rfl (by decide) ?_
      refine Seq.val (Does.pick_t rfl rfl) (by decide) ?_
      refine Seq.val (Does.move rfl) (by decide) ?_
      refine Seq.guard_off' rfl rfl rfl rfl (by decide) ?_
      refine Seq.guard_off' rfl rfl rfl rfl (by decide) ?_
      refine Seq.guard_off' rfl rfl rfl rfl (by decide) ?_
      refine Seq.guard_off' rfl rfl rfl rfl (by decide) ?_
      refine Seq.val (Does.pick_t rfl rfl) (by decide) ?_
      refine Seq.go (fun _ _ h => h) ?_
      refine Run.cond_b rfl rfl ?_
      refine Run.seq ?_
      refine Run.region ?_
      refine Seq.val (Does.assign rfl) (by decide) ?_
      refine Seq.val (Does.assign rfl) (by decide) ?_
      refine Seq.go (fun _ _ h => h) ?_
      have c31 := s22.trans s29
      have c32 := s17.trans c31
      obtain ⟨zU, zo⟩ := c32.out (by decide) hv
      refine Run.ret (ret_then ?_)
      exact post_two Try.results26 rfl rfl ⟨_, rfl, ⟨_, _, rfl, (BytesV.cast (show ([] : List UInt8) = (if re.bad then [] else re.all) from by first | rfl | (exact RentryD.final (show re.out = false from by (unfold RentryD.out; simp [out_] at hc1 hc2 hc3 hc4 hc5 hc6 ⊢; omega)) (uses_all (k := k) (by omega) hno) hc9 hc10; done) | (rw [RentryD.final (show re.out = false from by (unfold RentryD.out; simp [out_] at hc1 hc2 hc3 hc4 hc5 hc6 ⊢; omega)) (uses_all (k := k) (by omega) hno) hc9 hc10, RentryD.bad_no (show re.out = false from by (unfold RentryD.out; simp [out_] at hc1 hc2 hc3 hc4 hc5 hc6 ⊢; omega)) (uses_all (k := k) (by omega) hno) hc9 hc10]; simp; done) | (rw [if_pos (RentryD.bad_out (show re.out = true from by (unfold RentryD.out; simp [out_] at *; omega)))]; done) | (rw [RentryD.bad_out (show re.out = true from by (unfold RentryD.out; simp [out_] at *; omega))]; rfl; done) | (rw [if_pos (RentryD.bad_uses (uses_at (by omega) hc9 hc10))]; done) | (rw [RentryD.bad_uses (uses_at (by omega) hc9 hc10)]; rfl; done) | (rw [if_pos (RentryD.bad_nums hc9)]; done) | (rw [RentryD.bad_nums hc9]; rfl; done) | (rw [if_pos (RentryD.bad_texts hc10)]; done) | (rw [RentryD.bad_texts hc10]; rfl; done) | (simp_all; done) | omega) (BytesV.nil _ _)), (isBool (show (false : Bool) = (!re.bad && decide (((List.length (if re.bad then [] else re.all) : Nat) : Int) ≤ 4096)) from by first | rfl | (exact RentryD.final (show re.out = false from by (unfold RentryD.out; simp [out_] at hc1 hc2 hc3 hc4 hc5 hc6 ⊢; omega)) (uses_all (k := k) (by omega) hno) hc9 hc10; done) | (rw [RentryD.final (show re.out = false from by (unfold RentryD.out; simp [out_] at hc1 hc2 hc3 hc4 hc5 hc6 ⊢; omega)) (uses_all (k := k) (by omega) hno) hc9 hc10, RentryD.bad_no (show re.out = false from by (unfold RentryD.out; simp [out_] at hc1 hc2 hc3 hc4 hc5 hc6 ⊢; omega)) (uses_all (k := k) (by omega) hno) hc9 hc10]; simp; done) | (rw [if_pos (RentryD.bad_out (show re.out = true from by (unfold RentryD.out; simp [out_] at *; omega)))]; done) | (rw [RentryD.bad_out (show re.out = true from by (unfold RentryD.out; simp [out_] at *; omega))]; rfl; done) | (rw [if_pos (RentryD.bad_uses (uses_at (by omega) hc9 hc10))]; done) | (rw [RentryD.bad_uses (uses_at (by omega) hc9 hc10)]; rfl; done) | (rw [if_pos (RentryD.bad_nums hc9)]; done) | (rw [RentryD.bad_nums hc9]; rfl; done) | (rw [if_pos (RentryD.bad_texts hc10)]; done) | (rw [RentryD.bad_texts hc10]; rfl; done) | (simp_all; done) | omega) _ _)⟩, c32.leave (by decide)⟩
    · skip
      refine Seq.guard_on' rfl rfl hc2 ?_
      refine Seq.val (Does.fieldAddr' 2 Try.underlying43 rfl ty3 rfl rfl) (by decide) ?_
      refine Seq.guard_on' rfl rfl hc2 ?_
      have o33 := o25.lift s29 (by decide)
      refine Seq.val (Does.load_own1 o33 ty3 rfl rfl) (by decide) ?_
      refine Seq.guard_on' rfl rfl hc2 ?_
      refine Seq.callS (V := Is (.bool (!(out_ re.epoch 0 1048576)))) cal89 hv30 rfl (by decide) (ref17_in hv30 (n := re.epoch) (least := 0) (most := 1048576)) ?_
      intro v34 w35 q36 s37 hv38
      have q36 := Is.out q36; subst q36
      refine Seq.guard_on' rfl rfl hc2 ?_
      refine Seq.val (Does.not rfl) (by decide) ?_
      refine Seq.val (Does.pick_b rfl hc2 rfl) (by decide) ?_
      refine Seq.val (Does.move rfl) (by decide) ?_
      rcases bdich (!(!(out_ re.epoch 0 1048576))) with hc3 | hc3
      · skip
        refine Seq.guard_off' rfl rfl hc3 rfl (by decide) ?_
        refine Seq.guard_off' rfl rfl hc3 rfl (by decide) ?_
        refine Seq.guard_off' rfl rfl hc3 rfl (by decide) ?_
        refine Seq.guard_off' rfl rfl hc3 rfl (by decide) ?_
        refine Seq.val (Does.pick_b rfl hc3 rfl) (by decide) ?_
        refine Seq.val (Does.move rfl) (by decide) ?_
        refine Seq.guard_off' rfl rfl rfl rfl (by decide) ?_
        refine Seq.guard_off' rfl rfl rfl rfl (by decide) ?_
        refine Seq.guard_off' rfl rfl rfl rfl (by decide) ?_
        refine Seq.guard_off' rfl rfl rfl rfl (by decide) ?_
        refine Seq.val (Does.pick_t rfl rfl) (by decide) ?_
        refine Seq.val (Does.move rfl) (by decide) ?_
        refine Seq.guard_off' rfl rfl rfl rfl (by decide) ?_
        refine Seq.guard_off' rfl rfl rfl rfl (by decide) ?_
        refine Seq.guard_off' rfl rfl rfl rfl (by decide) ?_
        refine Seq.guard_off' rfl rfl rfl rfl (by decide) ?_
        refine Seq.val (Does.pick_t rfl rfl) (by decide) ?_
        refine Seq.val (Does.move rfl) (by decide) ?_
        refine Seq.guard_off' rfl rfl rfl rfl (by decide) ?_
        refine Seq.guard_off' rfl rfl rfl rfl (by decide) ?_
        refine Seq.guard_off' rfl rfl rfl rfl (by decide) ?_
        refine Seq.guard_off' rfl rfl rfl rfl (by decide) ?_
        refine Seq.val (Does.pick_t rfl rfl) (by decide) ?_
        refine Seq.go (fun _ _ h => h) ?_
        refine Run.cond_b rfl rfl ?_
        refine Run.seq ?_
        refine Run.region ?_
        refine Seq.val (Does.assign rfl) (by decide) ?_
        refine Seq.val (Does.assign rfl) (by decide) ?_
        refine Seq.go (fun _ _ h => h) ?_
        have c39 := s29.trans s37
        have c40 := s22.trans c39
        have c41 := s17.trans c40
        obtain ⟨zU, zo⟩ := c41.out (by decide) hv
        refine Run.ret (ret_then ?_)
        exact post_two Try.results26 rfl rfl ⟨_, rfl, ⟨_, _, rfl, (BytesV.cast (show ([] : List UInt8) = (if re.bad then [] else re.all) from by first | rfl | (exact RentryD.final (show re.out = false from by (unfold RentryD.out; simp [out_] at hc1 hc2 hc3 hc4 hc5 hc6 ⊢; omega)) (uses_all (k := k) (by omega) hno) hc9 hc10; done) | (rw [RentryD.final (show re.out = false from by (unfold RentryD.out; simp [out_] at hc1 hc2 hc3 hc4 hc5 hc6 ⊢; omega)) (uses_all (k := k) (by omega) hno) hc9 hc10, RentryD.bad_no (show re.out = false from by (unfold RentryD.out; simp [out_] at hc1 hc2 hc3 hc4 hc5 hc6 ⊢; omega)) (uses_all (k := k) (by omega) hno) hc9 hc10]; simp; done) | (rw [if_pos (RentryD.bad_out (show re.out = true from by (unfold RentryD.out; simp [out_] at *; omega)))]; done) | (rw [RentryD.bad_out (show re.out = true from by (unfold RentryD.out; simp [out_] at *; omega))]; rfl; done) | (rw [if_pos (RentryD.bad_uses (uses_at (by omega) hc9 hc10))]; done) | (rw [RentryD.bad_uses (uses_at (by omega) hc9 hc10)]; rfl; done) | (rw [if_pos (RentryD.bad_nums hc9)]; done) | (rw [RentryD.bad_nums hc9]; rfl; done) | (rw [if_pos (RentryD.bad_texts hc10)]; done) | (rw [RentryD.bad_texts hc10]; rfl; done) | (simp_all; done) | omega) (BytesV.nil _ _)), (isBool (show (false : Bool) = (!re.bad && decide (((List.length (if re.bad then [] else re.all) : Nat) : Int) ≤ 4096)) from by first | rfl | (exact RentryD.final (show re.out = false from by (unfold RentryD.out; simp [out_] at hc1 hc2 hc3 hc4 hc5 hc6 ⊢; omega)) (uses_all (k := k) (by omega) hno) hc9 hc10; done) | (rw [RentryD.final (show re.out = false from by (unfold RentryD.out; simp [out_] at hc1 hc2 hc3 hc4 hc5 hc6 ⊢; omega)) (uses_all (k := k) (by omega) hno) hc9 hc10, RentryD.bad_no (show re.out = false from by (unfold RentryD.out; simp [out_] at hc1 hc2 hc3 hc4 hc5 hc6 ⊢; omega)) (uses_all (k := k) (by omega) hno) hc9 hc10]; simp; done) | (rw [if_pos (RentryD.bad_out (show re.out = true from by (unfold RentryD.out; simp [out_] at *; omega)))]; done) | (rw [RentryD.bad_out (show re.out = true from by (unfold RentryD.out; simp [out_] at *; omega))]; rfl; done) | (rw [if_pos (RentryD.bad_uses (uses_at (by omega) hc9 hc10))]; done) | (rw [RentryD.bad_uses (uses_at (by omega) hc9 hc10)]; rfl; done) | (rw [if_pos (RentryD.bad_nums hc9)]; done) | (rw [RentryD.bad_nums hc9]; rfl; done) | (rw [if_pos (RentryD.bad_texts hc10)]; done) | (rw [RentryD.bad_texts hc10]; rfl; done) | (simp_all; done) | omega) _ _)⟩, c41.leave (by decide)⟩
      · skip
        refine Seq.guard_on' rfl rfl hc3 ?_
        refine Seq.val (Does.fieldAddr' 3 Try.underlying43 rfl ty3 rfl rfl) (by decide) ?_
        refine Seq.guard_on' rfl rfl hc3 ?_
        have o42 := o33.lift s37 (by decide)
        refine Seq.val (Does.load_own1 o42 ty3 rfl rfl) (by decide) ?_
        refine Seq.guard_on' rfl rfl hc3 ?_
        refine Seq.callS (V := Is (.bool (!(out_ re.mode 0 255)))) cal89 hv38 rfl (by decide) (ref17_in hv38 (n := re.mode) (least := 0) (most := 255)) ?_
        intro v43 w44 q45 s46 hv47
        have q45 := Is.out q45; subst q45
        refine Seq.guard_on' rfl rfl hc3 ?_
        refine Seq.val (Does.not rfl) (by decide) ?_
        refine Seq.val (Does.pick_b rfl hc3 rfl) (by decide) ?_
        refine Seq.val (Does.move rfl) (by decide) ?_
        rcases bdich (!(!(out_ re.mode 0 255))) with hc4 | hc4
        · skip
          refine Seq.guard_off' rfl rfl hc4 rfl (by decide) ?_
          refine Seq.guard_off' rfl rfl hc4 rfl (by decide) ?_
          refine Seq.guard_off' rfl rfl hc4 rfl (by decide) ?_
          refine Seq.guard_off' rfl rfl hc4 rfl (by decide) ?_
          refine Seq.val (Does.pick_b rfl hc4 rfl) (by decide) ?_
          refine Seq.val (Does.move rfl) (by decide) ?_
          refine Seq.guard_off' rfl rfl rfl rfl (by decide) ?_
          refine Seq.guard_off' rfl rfl rfl rfl (by decide) ?_
          refine Seq.guard_off' rfl rfl rfl rfl (by decide) ?_
          refine Seq.guard_off' rfl rfl rfl rfl (by decide) ?_
          refine Seq.val (Does.pick_t rfl rfl) (by decide) ?_
          refine Seq.val (Does.move rfl) (by decide) ?_
          refine Seq.guard_off' rfl rfl rfl rfl (by decide) ?_
          refine Seq.guard_off' rfl rfl rfl rfl (by decide) ?_
          refine Seq.guard_off' rfl rfl rfl rfl (by decide) ?_
          refine Seq.guard_off' rfl rfl rfl rfl (by decide) ?_
          refine Seq.val (Does.pick_t rfl rfl) (by decide) ?_
          refine Seq.go (fun _ _ h => h) ?_
          refine Run.cond_b rfl rfl ?_
          refine Run.seq ?_
          refine Run.region ?_
          refine Seq.val (Does.assign rfl) (by decide) ?_
          refine Seq.val (Does.assign rfl) (by decide) ?_
          refine Seq.go (fun _ _ h => h) ?_
          have c48 := s37.trans s46
          have c49 := s29.trans c48
          have c50 := s22.trans c49
          have c51 := s17.trans c50
          obtain ⟨zU, zo⟩ := c51.out (by decide) hv
          refine Run.ret (ret_then ?_)
          exact post_two Try.results26 rfl rfl ⟨_, rfl, ⟨_, _, rfl, (BytesV.cast (show ([] : List UInt8) = (if re.bad then [] else re.all) from by first | rfl | (exact RentryD.final (show re.out = false from by (unfold RentryD.out; simp [out_] at hc1 hc2 hc3 hc4 hc5 hc6 ⊢; omega)) (uses_all (k := k) (by omega) hno) hc9 hc10; done) | (rw [RentryD.final (show re.out = false from by (unfold RentryD.out; simp [out_] at hc1 hc2 hc3 hc4 hc5 hc6 ⊢; omega)) (uses_all (k := k) (by omega) hno) hc9 hc10, RentryD.bad_no (show re.out = false from by (unfold RentryD.out; simp [out_] at hc1 hc2 hc3 hc4 hc5 hc6 ⊢; omega)) (uses_all (k := k) (by omega) hno) hc9 hc10]; simp; done) | (rw [if_pos (RentryD.bad_out (show re.out = true from by (unfold RentryD.out; simp [out_] at *; omega)))]; done) | (rw [RentryD.bad_out (show re.out = true from by (unfold RentryD.out; simp [out_] at *; omega))]; rfl; done) | (rw [if_pos (RentryD.bad_uses (uses_at (by omega) hc9 hc10))]; done) | (rw [RentryD.bad_uses (uses_at (by omega) hc9 hc10)]; rfl; done) | (rw [if_pos (RentryD.bad_nums hc9)]; done) | (rw [RentryD.bad_nums hc9]; rfl; done) | (rw [if_pos (RentryD.bad_texts hc10)]; done) | (rw [RentryD.bad_texts hc10]; rfl; done) | (simp_all; done) | omega) (BytesV.nil _ _)), (isBool (show (false : Bool) = (!re.bad && decide (((List.length (if re.bad then [] else re.all) : Nat) : Int) ≤ 4096)) from by first | rfl | (exact RentryD.final (show re.out = false from by (unfold RentryD.out; simp [out_] at hc1 hc2 hc3 hc4 hc5 hc6 ⊢; omega)) (uses_all (k := k) (by omega) hno) hc9 hc10; done) | (rw [RentryD.final (show re.out = false from by (unfold RentryD.out; simp [out_] at hc1 hc2 hc3 hc4 hc5 hc6 ⊢; omega)) (uses_all (k := k) (by omega) hno) hc9 hc10, RentryD.bad_no (show re.out = false from by (unfold RentryD.out; simp [out_] at hc1 hc2 hc3 hc4 hc5 hc6 ⊢; omega)) (uses_all (k := k) (by omega) hno) hc9 hc10]; simp; done) | (rw [if_pos (RentryD.bad_out (show re.out = true from by (unfold RentryD.out; simp [out_] at *; omega)))]; done) | (rw [RentryD.bad_out (show re.out = true from by (unfold RentryD.out; simp [out_] at *; omega))]; rfl; done) | (rw [if_pos (RentryD.bad_uses (uses_at (by omega) hc9 hc10))]; done) | (rw [RentryD.bad_uses (uses_at (by omega) hc9 hc10)]; rfl; done) | (rw [if_pos (RentryD.bad_nums hc9)]; done) | (rw [RentryD.bad_nums hc9]; rfl; done) | (rw [if_pos (RentryD.bad_texts hc10)]; done) | (rw [RentryD.bad_texts hc10]; rfl; done) | (simp_all; done) | omega) _ _)⟩, c51.leave (by decide)⟩
        · skip
          refine Seq.guard_on' rfl rfl hc4 ?_
          refine Seq.val (Does.fieldAddr' 4 Try.underlying43 rfl ty3 rfl rfl) (by decide) ?_
          refine Seq.guard_on' rfl rfl hc4 ?_
          have o52 := o42.lift s46 (by decide)
          refine Seq.val (Does.load_own1 o52 ty3 rfl rfl) (by decide) ?_
          refine Seq.guard_on' rfl rfl hc4 ?_
          refine Seq.callS (V := Is (.bool (!(out_ re.peer 0 255)))) cal89 hv47 rfl (by decide) (ref17_in hv47 (n := re.peer) (least := 0) (most := 255)) ?_
          intro v53 w54 q55 s56 hv57
          have q55 := Is.out q55; subst q55
          refine Seq.guard_on' rfl rfl hc4 ?_
          refine Seq.val (Does.not rfl) (by decide) ?_
          refine Seq.val (Does.pick_b rfl hc4 rfl) (by decide) ?_
          refine Seq.val (Does.move rfl) (by decide) ?_
          rcases bdich (!(!(out_ re.peer 0 255))) with hc5 | hc5
          · skip
            refine Seq.guard_off' rfl rfl hc5 rfl (by decide) ?_
            refine Seq.guard_off' rfl rfl hc5 rfl (by decide) ?_
            refine Seq.guard_off' rfl rfl hc5 rfl (by decide) ?_
            refine Seq.guard_off' rfl rfl hc5 rfl (by decide) ?_
            refine Seq.val (Does.pick_b rfl hc5 rfl) (by decide) ?_
            refine Seq.val (Does.move rfl) (by decide) ?_
            refine Seq.guard_off' rfl rfl rfl rfl (by decide) ?_
            refine Seq.guard_off' rfl rfl rfl rfl (by decide) ?_
            refine Seq.guard_off' rfl rfl rfl rfl (by decide) ?_
            refine Seq.guard_off' rfl rfl rfl rfl (by decide) ?_
            refine Seq.val (Does.pick_t rfl rfl) (by decide) ?_
            refine Seq.go (fun _ _ h => h) ?_
            refine Run.cond_b rfl rfl ?_
            refine Run.seq ?_
            refine Run.region ?_
            refine Seq.val (Does.assign rfl) (by decide) ?_
            refine Seq.val (Does.assign rfl) (by decide) ?_
            refine Seq.go (fun _ _ h => h) ?_
            have c58 := s46.trans s56
            have c59 := s37.trans c58
            have c60 := s29.trans c59
            have c61 := s22.trans c60
            have c62 := s17.trans c61
            obtain ⟨zU, zo⟩ := c62.out (by decide) hv
            refine Run.ret (ret_then ?_)
            exact post_two Try.results26 rfl rfl ⟨_, rfl, ⟨_, _, rfl, (BytesV.cast (show ([] : List UInt8) = (if re.bad then [] else re.all) from by first | rfl | (exact RentryD.final (show re.out = false from by (unfold RentryD.out; simp [out_] at hc1 hc2 hc3 hc4 hc5 hc6 ⊢; omega)) (uses_all (k := k) (by omega) hno) hc9 hc10; done) | (rw [RentryD.final (show re.out = false from by (unfold RentryD.out; simp [out_] at hc1 hc2 hc3 hc4 hc5 hc6 ⊢; omega)) (uses_all (k := k) (by omega) hno) hc9 hc10, RentryD.bad_no (show re.out = false from by (unfold RentryD.out; simp [out_] at hc1 hc2 hc3 hc4 hc5 hc6 ⊢; omega)) (uses_all (k := k) (by omega) hno) hc9 hc10]; simp; done) | (rw [if_pos (RentryD.bad_out (show re.out = true from by (unfold RentryD.out; simp [out_] at *; omega)))]; done) | (rw [RentryD.bad_out (show re.out = true from by (unfold RentryD.out; simp [out_] at *; omega))]; rfl; done) | (rw [if_pos (RentryD.bad_uses (uses_at (by omega) hc9 hc10))]; done) | (rw [RentryD.bad_uses (uses_at (by omega) hc9 hc10)]; rfl; done) | (rw [if_pos (RentryD.bad_nums hc9)]; done) | (rw [RentryD.bad_nums hc9]; rfl; done) | (rw [if_pos (RentryD.bad_texts hc10)]; done) | (rw [RentryD.bad_texts hc10]; rfl; done) | (simp_all; done) | omega) (BytesV.nil _ _)), (isBool (show (false : Bool) = (!re.bad && decide (((List.length (if re.bad then [] else re.all) : Nat) : Int) ≤ 4096)) from by first | rfl | (exact RentryD.final (show re.out = false from by (unfold RentryD.out; simp [out_] at hc1 hc2 hc3 hc4 hc5 hc6 ⊢; omega)) (uses_all (k := k) (by omega) hno) hc9 hc10; done) | (rw [RentryD.final (show re.out = false from by (unfold RentryD.out; simp [out_] at hc1 hc2 hc3 hc4 hc5 hc6 ⊢; omega)) (uses_all (k := k) (by omega) hno) hc9 hc10, RentryD.bad_no (show re.out = false from by (unfold RentryD.out; simp [out_] at hc1 hc2 hc3 hc4 hc5 hc6 ⊢; omega)) (uses_all (k := k) (by omega) hno) hc9 hc10]; simp; done) | (rw [if_pos (RentryD.bad_out (show re.out = true from by (unfold RentryD.out; simp [out_] at *; omega)))]; done) | (rw [RentryD.bad_out (show re.out = true from by (unfold RentryD.out; simp [out_] at *; omega))]; rfl; done) | (rw [if_pos (RentryD.bad_uses (uses_at (by omega) hc9 hc10))]; done) | (rw [RentryD.bad_uses (uses_at (by omega) hc9 hc10)]; rfl; done) | (rw [if_pos (RentryD.bad_nums hc9)]; done) | (rw [RentryD.bad_nums hc9]; rfl; done) | (rw [if_pos (RentryD.bad_texts hc10)]; done) | (rw [RentryD.bad_texts hc10]; rfl; done) | (simp_all; done) | omega) _ _)⟩, c62.leave (by decide)⟩
          · skip
            refine Seq.guard_on' rfl rfl hc5 ?_
            refine Seq.val (Does.fieldAddr' 5 Try.underlying43 rfl ty3 rfl rfl) (by decide) ?_
            refine Seq.guard_on' rfl rfl hc5 ?_
            have o63 := o52.lift s56 (by decide)
            refine Seq.val (Does.load_own1 o63 ty3 rfl rfl) (by decide) ?_
            refine Seq.guard_on' rfl rfl hc5 ?_
            refine Seq.callS (V := Is (.bool (!(out_ re.phase 0 255)))) cal89 hv57 rfl (by decide) (ref17_in hv57 (n := re.phase) (least := 0) (most := 255)) ?_
            intro v64 w65 q66 s67 hv68
            have q66 := Is.out q66; subst q66
            refine Seq.guard_on' rfl rfl hc5 ?_
            refine Seq.val (Does.not rfl) (by decide) ?_
            refine Seq.val (Does.pick_b rfl hc5 rfl) (by decide) ?_
            refine Seq.val (Does.move rfl) (by decide) ?_
            rcases bdich (!(!(out_ re.phase 0 255))) with hc6 | hc6
            · skip
              refine Seq.guard_off' rfl rfl hc6 rfl (by decide) ?_
              refine Seq.guard_off' rfl rfl hc6 rfl (by decide) ?_
              refine Seq.guard_off' rfl rfl hc6 rfl (by decide) ?_
              refine Seq.guard_off' rfl rfl hc6 rfl (by decide) ?_
              refine Seq.val (Does.pick_b rfl hc6 rfl) (by decide) ?_
              refine Seq.go (fun _ _ h => h) ?_
              refine Run.cond_b rfl rfl ?_
              refine Run.seq ?_
              refine Run.region ?_
              refine Seq.val (Does.assign rfl) (by decide) ?_
              refine Seq.val (Does.assign rfl) (by decide) ?_
              refine Seq.go (fun _ _ h => h) ?_
              have c69 := s56.trans s67
              have c70 := s46.trans c69
              have c71 := s37.trans c70
              have c72 := s29.trans c71
              have c73 := s22.trans c72
              have c74 := s17.trans c73
              obtain ⟨zU, zo⟩ := c74.out (by decide) hv
              refine Run.ret (ret_then ?_)
              exact post_two Try.results26 rfl rfl ⟨_, rfl, ⟨_, _, rfl, (BytesV.cast (show ([] : List UInt8) = (if re.bad then [] else re.all) from by first | rfl | (exact RentryD.final (show re.out = false from by (unfold RentryD.out; simp [out_] at hc1 hc2 hc3 hc4 hc5 hc6 ⊢; omega)) (uses_all (k := k) (by omega) hno) hc9 hc10; done) | (rw [RentryD.final (show re.out = false from by (unfold RentryD.out; simp [out_] at hc1 hc2 hc3 hc4 hc5 hc6 ⊢; omega)) (uses_all (k := k) (by omega) hno) hc9 hc10, RentryD.bad_no (show re.out = false from by (unfold RentryD.out; simp [out_] at hc1 hc2 hc3 hc4 hc5 hc6 ⊢; omega)) (uses_all (k := k) (by omega) hno) hc9 hc10]; simp; done) | (rw [if_pos (RentryD.bad_out (show re.out = true from by (unfold RentryD.out; simp [out_] at *; omega)))]; done) | (rw [RentryD.bad_out (show re.out = true from by (unfold RentryD.out; simp [out_] at *; omega))]; rfl; done) | (rw [if_pos (RentryD.bad_uses (uses_at (by omega) hc9 hc10))]; done) | (rw [RentryD.bad_uses (uses_at (by omega) hc9 hc10)]; rfl; done) | (rw [if_pos (RentryD.bad_nums hc9)]; done) | (rw [RentryD.bad_nums hc9]; rfl; done) | (rw [if_pos (RentryD.bad_texts hc10)]; done) | (rw [RentryD.bad_texts hc10]; rfl; done) | (simp_all; done) | omega) (BytesV.nil _ _)), (isBool (show (false : Bool) = (!re.bad && decide (((List.length (if re.bad then [] else re.all) : Nat) : Int) ≤ 4096)) from by first | rfl | (exact RentryD.final (show re.out = false from by (unfold RentryD.out; simp [out_] at hc1 hc2 hc3 hc4 hc5 hc6 ⊢; omega)) (uses_all (k := k) (by omega) hno) hc9 hc10; done) | (rw [RentryD.final (show re.out = false from by (unfold RentryD.out; simp [out_] at hc1 hc2 hc3 hc4 hc5 hc6 ⊢; omega)) (uses_all (k := k) (by omega) hno) hc9 hc10, RentryD.bad_no (show re.out = false from by (unfold RentryD.out; simp [out_] at hc1 hc2 hc3 hc4 hc5 hc6 ⊢; omega)) (uses_all (k := k) (by omega) hno) hc9 hc10]; simp; done) | (rw [if_pos (RentryD.bad_out (show re.out = true from by (unfold RentryD.out; simp [out_] at *; omega)))]; done) | (rw [RentryD.bad_out (show re.out = true from by (unfold RentryD.out; simp [out_] at *; omega))]; rfl; done) | (rw [if_pos (RentryD.bad_uses (uses_at (by omega) hc9 hc10))]; done) | (rw [RentryD.bad_uses (uses_at (by omega) hc9 hc10)]; rfl; done) | (rw [if_pos (RentryD.bad_nums hc9)]; done) | (rw [RentryD.bad_nums hc9]; rfl; done) | (rw [if_pos (RentryD.bad_texts hc10)]; done) | (rw [RentryD.bad_texts hc10]; rfl; done) | (simp_all; done) | omega) _ _)⟩, c74.leave (by decide)⟩
            · skip
              refine Seq.guard_on' rfl rfl hc6 ?_
              refine Seq.val (Does.fieldAddr' 8 Try.underlying43 rfl ty22 rfl rfl) (by decide) ?_
              refine Seq.guard_on' rfl rfl hc6 ?_
              have o75 := o63.lift s67 (by decide)
              refine Seq.val (Does.load_own1 o75 ty22 rfl rfl) (by decide) ?_
              refine Seq.guard_on' rfl rfl hc6 ?_
              refine Seq.val (Does.len Try.underlying22 rfl) (by decide) ?_
              refine Seq.guard_on' rfl rfl hc6 ?_
              refine Seq.val (Does.gtr rfl rfl) (by decide) ?_
              refine Seq.val (Does.pick_b rfl hc6 rfl) (by decide) ?_
              refine Seq.go (fun _ _ h => h) ?_
              rcases bdich (decide ((1024 : Int) < (((List.length re.proof : Nat) : Int) : Int))) with hc7 | hc7
              · skip
                have hp7 := of_decide_eq_true hc7
                refine Run.cond_b rfl hc7 ?_
                refine Run.seq ?_
                refine Run.region ?_
                refine Seq.val (Does.assign rfl) (by decide) ?_
                refine Seq.val (Does.assign rfl) (by decide) ?_
                refine Seq.go (fun _ _ h => h) ?_
                have c76 := s56.trans s67
                have c77 := s46.trans c76
                have c78 := s37.trans c77
                have c79 := s29.trans c78
                have c80 := s22.trans c79
                have c81 := s17.trans c80
                obtain ⟨zU, zo⟩ := c81.out (by decide) hv
                refine Run.ret (ret_then ?_)
                exact post_two Try.results26 rfl rfl ⟨_, rfl, ⟨_, _, rfl, (BytesV.cast (show ([] : List UInt8) = (if re.bad then [] else re.all) from by first | rfl | (exact RentryD.final (show re.out = false from by (unfold RentryD.out; simp [out_] at hc1 hc2 hc3 hc4 hc5 hc6 ⊢; omega)) (uses_all (k := k) (by omega) hno) hc9 hc10; done) | (rw [RentryD.final (show re.out = false from by (unfold RentryD.out; simp [out_] at hc1 hc2 hc3 hc4 hc5 hc6 ⊢; omega)) (uses_all (k := k) (by omega) hno) hc9 hc10, RentryD.bad_no (show re.out = false from by (unfold RentryD.out; simp [out_] at hc1 hc2 hc3 hc4 hc5 hc6 ⊢; omega)) (uses_all (k := k) (by omega) hno) hc9 hc10]; simp; done) | (rw [if_pos (RentryD.bad_out (show re.out = true from by (unfold RentryD.out; simp [out_] at *; omega)))]; done) | (rw [RentryD.bad_out (show re.out = true from by (unfold RentryD.out; simp [out_] at *; omega))]; rfl; done) | (rw [if_pos (RentryD.bad_uses (uses_at (by omega) hc9 hc10))]; done) | (rw [RentryD.bad_uses (uses_at (by omega) hc9 hc10)]; rfl; done) | (rw [if_pos (RentryD.bad_nums hc9)]; done) | (rw [RentryD.bad_nums hc9]; rfl; done) | (rw [if_pos (RentryD.bad_texts hc10)]; done) | (rw [RentryD.bad_texts hc10]; rfl; done) | (simp_all; done) | omega) (BytesV.nil _ _)), (isBool (show (false : Bool) = (!re.bad && decide (((List.length (if re.bad then [] else re.all) : Nat) : Int) ≤ 4096)) from by first | rfl | (exact RentryD.final (show re.out = false from by (unfold RentryD.out; simp [out_] at hc1 hc2 hc3 hc4 hc5 hc6 ⊢; omega)) (uses_all (k := k) (by omega) hno) hc9 hc10; done) | (rw [RentryD.final (show re.out = false from by (unfold RentryD.out; simp [out_] at hc1 hc2 hc3 hc4 hc5 hc6 ⊢; omega)) (uses_all (k := k) (by omega) hno) hc9 hc10, RentryD.bad_no (show re.out = false from by (unfold RentryD.out; simp [out_] at hc1 hc2 hc3 hc4 hc5 hc6 ⊢; omega)) (uses_all (k := k) (by omega) hno) hc9 hc10]; simp; done) | (rw [if_pos (RentryD.bad_out (show re.out = true from by (unfold RentryD.out; simp [out_] at *; omega)))]; done) | (rw [RentryD.bad_out (show re.out = true from by (unfold RentryD.out; simp [out_] at *; omega))]; rfl; done) | (rw [if_pos (RentryD.bad_uses (uses_at (by omega) hc9 hc10))]; done) | (rw [RentryD.bad_uses (uses_at (by omega) hc9 hc10)]; rfl; done) | (rw [if_pos (RentryD.bad_nums hc9)]; done) | (rw [RentryD.bad_nums hc9]; rfl; done) | (rw [if_pos (RentryD.bad_texts hc10)]; done) | (rw [RentryD.bad_texts hc10]; rfl; done) | (simp_all; done) | omega) _ _)⟩, c81.leave (by decide)⟩
              · skip
                have hp7 := of_decide_eq_false hc7
                refine Run.cond_b rfl hc7 ?_
                refine Run.skip_go (fun _ _ h => h) ?_
                refine Run.seq ?_
                refine Run.region ?_
                refine Seq.val (Does.fieldAddr' 3 Try.underlying43 rfl ty3 rfl rfl) (by decide) ?_
                refine Seq.val (Does.load_own1 o75 ty3 rfl rfl) (by decide) ?_
                refine Seq.val (Does.neq rfl rfl) (by decide) ?_
                refine Seq.val (Does.fieldAddr' 4 Try.underlying43 rfl ty3 rfl rfl) (by decide) ?_
                refine Seq.val (Does.load_own1 o75 ty3 rfl rfl) (by decide) ?_
                refine Seq.val (Does.neq rfl rfl) (by decide) ?_
                refine Seq.val (Does.fieldAddr' 5 Try.underlying43 rfl ty3 rfl rfl) (by decide) ?_
                refine Seq.val (Does.load_own1 o75 ty3 rfl rfl) (by decide) ?_
                refine Seq.val (Does.neq rfl rfl) (by decide) ?_
                refine Seq.val (Does.fieldAddr' 6 Try.underlying43 rfl ty41 rfl rfl) (by decide) ?_
                refine Seq.val (Does.load_own1 o75 ty41 rfl rfl) (by decide) ?_
                refine Seq.val (Does.len Try.underlying41 rfl) (by decide) ?_
                refine Seq.val (Does.gtr rfl rfl) (by decide) ?_
                refine Seq.val (Does.fieldAddr' 7 Try.underlying43 rfl ty34 rfl rfl) (by decide) ?_
                refine Seq.val (Does.load_own1 o75 ty34 rfl rfl) (by decide) ?_
                refine Seq.val (Does.len Try.underlying34 rfl) (by decide) ?_
                refine Seq.val (Does.gtr rfl rfl) (by decide) ?_
                refine Seq.val (Does.fieldAddr' 8 Try.underlying43 rfl ty22 rfl rfl) (by decide) ?_
                refine Seq.val (Does.load_own1 o75 ty22 rfl rfl) (by decide) ?_
                refine Seq.val (Does.len Try.underlying22 rfl) (by decide) ?_
                refine Seq.val (Does.gtr rfl rfl) (by decide) ?_
                refine Seq.val (Does.build_arr [(0, .bool (decide ((re.mode : Int) ≠ (0 : Int)))), (1, .bool (decide ((re.peer : Int) ≠ (0 : Int)))), (2, .bool (decide ((re.phase : Int) ≠ (0 : Int)))), (3, .bool (decide ((0 : Int) < (((List.length re.nums : Nat) : Int) : Int)))), (4, .bool (decide ((0 : Int) < (((List.length re.texts : Nat) : Int) : Int)))), (5, .bool (decide ((0 : Int) < (((List.length re.proof : Nat) : Int) : Int))))] [.bool (decide ((re.mode : Int) ≠ (0 : Int))), .bool (decide ((re.peer : Int) ≠ (0 : Int))), .bool (decide ((re.phase : Int) ≠ (0 : Int))), .bool (decide ((0 : Int) < (((List.length re.nums : Nat) : Int) : Int))), .bool (decide ((0 : Int) < (((List.length re.texts : Nat) : Int) : Int))), .bool (decide ((0 : Int) < (((List.length re.proof : Nat) : Int) : Int)))] (n := 6) (by kernel_rfl) ty154 ty4 rfl (by kernel_rfl)) (by decide) ?_
                refine Seq.alloc (k := 5) [.bool false, .bool false, .bool false, .bool false, .bool false, .bool false] hv68 ty154 rfl (by decide) ?_
                intro lab82 w83 b84 o85 s86 hv87
                refine Seq.store [.bool (decide ((re.mode : Int) ≠ (0 : Int))), .bool (decide ((re.peer : Int) ≠ (0 : Int))), .bool (decide ((re.phase : Int) ≠ (0 : Int))), .bool (decide ((0 : Int) < (((List.length re.nums : Nat) : Int) : Int))), .bool (decide ((0 : Int) < (((List.length re.texts : Nat) : Int) : Int))), .bool (decide ((0 : Int) < (((List.length re.proof : Nat) : Int) : Int)))] hv87 o85 ty154 rfl rfl rfl (Nat.le_of_ble_eq_true rfl) rfl rfl ?_
                intro w88 o89 s90 hv91
                refine Seq.go (fun _ _ h => h) ?_
                refine Run.seq ?_
                refine Run.region ?_
                refine Seq.val (Does.fieldAddr' 0 Try.underlying43 rfl ty3 rfl rfl) (by decide) ?_
                have c93 := s86.trans s90
                have o92 := o75.lift c93 (by decide)
                refine Seq.val (Does.load_own1 o92 ty3 rfl rfl) (by decide) ?_
                refine Seq.callS (V := Is (.agg #[.bool (usedB re.kind 0), .bool (usedB re.kind 1), .bool (usedB re.kind 2), .bool (usedB re.kind 3), .bool (usedB re.kind 4), .bool (usedB re.kind 5)])) cal97 hv91 rfl (by decide) (ref17_used hv91 (kd := re.kind)) ?_
                intro v94 w95 q96 s97 hv98
                have q96 := Is.out q96; subst q96
                refine Seq.alloc (k := 6) [.bool false, .bool false, .bool false, .bool false, .bool false, .bool false] hv98 ty154 rfl (by decide) ?_
                intro lab99 w100 b101 o102 s103 hv104
                refine Seq.store [.bool (usedB re.kind 0), .bool (usedB re.kind 1), .bool (usedB re.kind 2), .bool (usedB re.kind 3), .bool (usedB re.kind 4), .bool (usedB re.kind 5)] hv104 o102 ty154 rfl rfl rfl (Nat.le_of_ble_eq_true rfl) rfl rfl ?_
                intro w105 o106 s107 hv108
                refine Seq.go (fun _ _ h => h) ?_
                refine Run.seq ?_
                refine Run.seq ?_
                refine Run.region ?_
                refine Seq.val (Does.move rfl) (by decide) ?_
                refine Seq.go (fun _ _ h => h) ?_
                refine Run.block ?_
                refine Run.loop (fun m' l' w' => ∃ (k : Nat) (lab' : Lab), m' = 6 - k ∧ l' = [(77, i64 ((k : Nat) : Int)), (0, .agg #[i64 re.kind, i64 re.author, i64 re.epoch, i64 re.mode, i64 re.peer, i64 re.phase, .slice A1 (List.length re.nums) c2, .slice A4 (List.length re.texts) c5, .slice A7 (List.length re.proof) c8]), (1, .pointer (some ⟨b15, 0, none⟩)), (12, .pointer (some ⟨b15, 0, none⟩)), (13, i64 re.kind), (14, .bool (!(out_ re.kind 1 7))), (15, .bool (!(!(out_ re.kind 1 7)))), (16, .bool (!(!(out_ re.kind 1 7)))), (17, .pointer (some ⟨b15, 1, none⟩)), (18, i64 re.author), (19, .bool (!(out_ re.author 1 64))), (20, .bool (!(!(out_ re.author 1 64)))), (21, .bool (!(!(out_ re.author 1 64)))), (22, .bool (!(!(out_ re.author 1 64)))), (23, .pointer (some ⟨b15, 2, none⟩)), (24, i64 re.epoch), (25, .bool (!(out_ re.epoch 0 1048576))), (26, .bool (!(!(out_ re.epoch 0 1048576)))), (27, .bool (!(!(out_ re.epoch 0 1048576)))), (28, .bool (!(!(out_ re.epoch 0 1048576)))), (29, .pointer (some ⟨b15, 3, none⟩)), (30, i64 re.mode), (31, .bool (!(out_ re.mode 0 255))), (32, .bool (!(!(out_ re.mode 0 255)))), (33, .bool (!(!(out_ re.mode 0 255)))), (34, .bool (!(!(out_ re.mode 0 255)))), (35, .pointer (some ⟨b15, 4, none⟩)), (36, i64 re.peer), (37, .bool (!(out_ re.peer 0 255))), (38, .bool (!(!(out_ re.peer 0 255)))), (39, .bool (!(!(out_ re.peer 0 255)))), (40, .bool (!(!(out_ re.peer 0 255)))), (41, .pointer (some ⟨b15, 5, none⟩)), (42, i64 re.phase), (43, .bool (!(out_ re.phase 0 255))), (44, .bool (!(!(out_ re.phase 0 255)))), (45, .bool (!(!(out_ re.phase 0 255)))), (46, .bool (!(!(out_ re.phase 0 255)))), (47, .pointer (some ⟨b15, 8, none⟩)), (48, .slice A7 (List.length re.proof) c8), (49, i64 ((List.length re.proof : Nat) : Int)), (50, .bool (decide ((1024 : Int) < (((List.length re.proof : Nat) : Int) : Int)))), (51, .bool (decide ((1024 : Int) < (((List.length re.proof : Nat) : Int) : Int)))), (52, .pointer (some ⟨b15, 3, none⟩)), (53, i64 re.mode), (54, .bool (decide ((re.mode : Int) ≠ (0 : Int)))), (55, .pointer (some ⟨b15, 4, none⟩)), (56, i64 re.peer), (57, .bool (decide ((re.peer : Int) ≠ (0 : Int)))), (58, .pointer (some ⟨b15, 5, none⟩)), (59, i64 re.phase), (60, .bool (decide ((re.phase : Int) ≠ (0 : Int)))), (61, .pointer (some ⟨b15, 6, none⟩)), (62, .slice A1 (List.length re.nums) c2), (63, i64 ((List.length re.nums : Nat) : Int)), (64, .bool (decide ((0 : Int) < (((List.length re.nums : Nat) : Int) : Int)))), (65, .pointer (some ⟨b15, 7, none⟩)), (66, .slice A4 (List.length re.texts) c5), (67, i64 ((List.length re.texts : Nat) : Int)), (68, .bool (decide ((0 : Int) < (((List.length re.texts : Nat) : Int) : Int)))), (69, .pointer (some ⟨b15, 8, none⟩)), (70, .slice A7 (List.length re.proof) c8), (71, i64 ((List.length re.proof : Nat) : Int)), (72, .bool (decide ((0 : Int) < (((List.length re.proof : Nat) : Int) : Int)))), (73, .agg #[.bool (decide ((re.mode : Int) ≠ (0 : Int))), .bool (decide ((re.peer : Int) ≠ (0 : Int))), .bool (decide ((re.phase : Int) ≠ (0 : Int))), .bool (decide ((0 : Int) < (((List.length re.nums : Nat) : Int) : Int))), .bool (decide ((0 : Int) < (((List.length re.texts : Nat) : Int) : Int))), .bool (decide ((0 : Int) < (((List.length re.proof : Nat) : Int) : Int)))]), (4, .pointer (some ⟨b84, 0, none⟩)), (74, .pointer (some ⟨b15, 0, none⟩)), (75, i64 re.kind), (76, .agg #[.bool (usedB re.kind 0), .bool (usedB re.kind 1), .bool (usedB re.kind 2), .bool (usedB re.kind 3), .bool (usedB re.kind 4), .bool (usedB re.kind 5)]), (5, .pointer (some ⟨b101, 0, none⟩))] ∧ Valid lab' w' ∧ Stp [] lab99 w105 lab' w' ∧ (k ≤ 6) ∧ (∀ j, j < k → (List.getD [decide ((re.mode : Int) ≠ (0 : Int)), decide ((re.peer : Int) ≠ (0 : Int)), decide ((re.phase : Int) ≠ (0 : Int)), decide ((0 : Int) < ((List.length re.nums : Nat) : Int)), decide ((0 : Int) < ((List.length re.texts : Nat) : Int)), decide ((0 : Int) < ((List.length re.proof : Nat) : Int))] j false && !(List.getD [usedB re.kind 0, usedB re.kind 1, usedB re.kind 2, usedB re.kind 3, usedB re.kind 4, usedB re.kind 5] j false)) = false)) (6 - 0) (l0 := [(77, i64 ((0 : Nat) : Int)), (0, .agg #[i64 re.kind, i64 re.author, i64 re.epoch, i64 re.mode, i64 re.peer, i64 re.phase, .slice A1 (List.length re.nums) c2, .slice A4 (List.length re.texts) c5, .slice A7 (List.length re.proof) c8]), (1, .pointer (some ⟨b15, 0, none⟩)), (12, .pointer (some ⟨b15, 0, none⟩)), (13, i64 re.kind), (14, .bool (!(out_ re.kind 1 7))), (15, .bool (!(!(out_ re.kind 1 7)))), (16, .bool (!(!(out_ re.kind 1 7)))), (17, .pointer (some ⟨b15, 1, none⟩)), (18, i64 re.author), (19, .bool (!(out_ re.author 1 64))), (20, .bool (!(!(out_ re.author 1 64)))), (21, .bool (!(!(out_ re.author 1 64)))), (22, .bool (!(!(out_ re.author 1 64)))), (23, .pointer (some ⟨b15, 2, none⟩)), (24, i64 re.epoch), (25, .bool (!(out_ re.epoch 0 1048576))), (26, .bool (!(!(out_ re.epoch 0 1048576)))), (27, .bool (!(!(out_ re.epoch 0 1048576)))), (28, .bool (!(!(out_ re.epoch 0 1048576)))), (29, .pointer (some ⟨b15, 3, none⟩)), (30, i64 re.mode), (31, .bool (!(out_ re.mode 0 255))), (32, .bool (!(!(out_ re.mode 0 255)))), (33, .bool (!(!(out_ re.mode 0 255)))), (34, .bool (!(!(out_ re.mode 0 255)))), (35, .pointer (some ⟨b15, 4, none⟩)), (36, i64 re.peer), (37, .bool (!(out_ re.peer 0 255))), (38, .bool (!(!(out_ re.peer 0 255)))), (39, .bool (!(!(out_ re.peer 0 255)))), (40, .bool (!(!(out_ re.peer 0 255)))), (41, .pointer (some ⟨b15, 5, none⟩)), (42, i64 re.phase), (43, .bool (!(out_ re.phase 0 255))), (44, .bool (!(!(out_ re.phase 0 255)))), (45, .bool (!(!(out_ re.phase 0 255)))), (46, .bool (!(!(out_ re.phase 0 255)))), (47, .pointer (some ⟨b15, 8, none⟩)), (48, .slice A7 (List.length re.proof) c8), (49, i64 ((List.length re.proof : Nat) : Int)), (50, .bool (decide ((1024 : Int) < (((List.length re.proof : Nat) : Int) : Int)))), (51, .bool (decide ((1024 : Int) < (((List.length re.proof : Nat) : Int) : Int)))), (52, .pointer (some ⟨b15, 3, none⟩)), (53, i64 re.mode), (54, .bool (decide ((re.mode : Int) ≠ (0 : Int)))), (55, .pointer (some ⟨b15, 4, none⟩)), (56, i64 re.peer), (57, .bool (decide ((re.peer : Int) ≠ (0 : Int)))), (58, .pointer (some ⟨b15, 5, none⟩)), (59, i64 re.phase), (60, .bool (decide ((re.phase : Int) ≠ (0 : Int)))), (61, .pointer (some ⟨b15, 6, none⟩)), (62, .slice A1 (List.length re.nums) c2), (63, i64 ((List.length re.nums : Nat) : Int)), (64, .bool (decide ((0 : Int) < (((List.length re.nums : Nat) : Int) : Int)))), (65, .pointer (some ⟨b15, 7, none⟩)), (66, .slice A4 (List.length re.texts) c5), (67, i64 ((List.length re.texts : Nat) : Int)), (68, .bool (decide ((0 : Int) < (((List.length re.texts : Nat) : Int) : Int)))), (69, .pointer (some ⟨b15, 8, none⟩)), (70, .slice A7 (List.length re.proof) c8), (71, i64 ((List.length re.proof : Nat) : Int)), (72, .bool (decide ((0 : Int) < (((List.length re.proof : Nat) : Int) : Int)))), (73, .agg #[.bool (decide ((re.mode : Int) ≠ (0 : Int))), .bool (decide ((re.peer : Int) ≠ (0 : Int))), .bool (decide ((re.phase : Int) ≠ (0 : Int))), .bool (decide ((0 : Int) < (((List.length re.nums : Nat) : Int) : Int))), .bool (decide ((0 : Int) < (((List.length re.texts : Nat) : Int) : Int))), .bool (decide ((0 : Int) < (((List.length re.proof : Nat) : Int) : Int)))]), (4, .pointer (some ⟨b84, 0, none⟩)), (74, .pointer (some ⟨b15, 0, none⟩)), (75, i64 re.kind), (76, .agg #[.bool (usedB re.kind 0), .bool (usedB re.kind 1), .bool (usedB re.kind 2), .bool (usedB re.kind 3), .bool (usedB re.kind 4), .bool (usedB re.kind 5)]), (5, .pointer (some ⟨b101, 0, none⟩))]) ⟨(congrArg (fun z => some (i64 z)) (show (0 : Int) = ((0 : Nat) : Int) from by first | rfl | omega | (simp; done))), rfl, rfl, rfl, rfl, rfl, rfl, rfl, rfl, rfl, rfl, rfl, rfl, rfl, rfl, rfl, rfl, rfl, rfl, rfl, rfl, rfl, rfl, rfl, rfl, rfl, rfl, rfl, rfl, rfl, rfl, rfl, rfl, rfl, rfl, rfl, rfl, rfl, rfl, rfl, rfl, rfl, rfl, rfl, rfl, rfl, rfl, rfl, rfl, rfl, rfl, rfl, rfl, rfl, rfl, rfl, rfl, rfl, rfl, rfl, rfl, rfl, rfl, rfl, rfl, rfl, rfl, rfl, rfl, rfl, trivial⟩ ⟨0, lab99, rfl, rfl, hv108, ((Stp.refl _ _).more (by simp)), (by first | omega | (intro j hj; omega) | (exact flags_a hno hc9) | (exact flags_b hno hc10) | (simp at *; omega)), (by first | omega | (intro j hj; omega) | (exact flags_a hno hc9) | (exact flags_b hno hc10) | (simp at *; omega))⟩ ?_
                intro m109 l110 w111 H112
                obtain ⟨k, lab113, hzm, rfl, hv114, s115, hk, hno⟩ := H112
                replace hzm := hzm.symm; subst hzm
                refine Run.seq ?_
                refine Run.region ?_
                refine Seq.val (Does.lss rfl rfl) (by decide) ?_
                refine Seq.go (fun _ _ h => h) ?_
                refine Run.seq ?_
                rcases bdich (decide ((((k : Nat) : Int) : Int) < (6 : Int))) with hc8 | hc8
                · skip
                  have hp8 := of_decide_eq_true hc8
                  refine Run.cond_b rfl hc8 ?_
                  refine Run.skip_go (fun _ _ h => h) ?_
                  refine Run.seq ?_
                  refine Run.block ?_
                  refine Run.seq ?_
                  refine Run.region ?_
                  refine Seq.val (Does.move rfl) (by decide) ?_
                  refine Seq.val (Does.assign rfl) (by decide) ?_
                  refine Seq.go (fun _ _ h => h) ?_
                  refine Run.seq ?_
                  refine Run.region ?_
                  refine Seq.val (Does.move rfl) (by decide) ?_
                  refine Seq.val (Does.indexAt_arr k (n := 6) (e := 4) (by kernel_rfl) ty4 rfl rfl (by first | omega | (simp [out_] at hc1 hc2 hc3 hc4 hc5 hc6; omega)) (by first | omega | (simp [out_] at hc1 hc2 hc3 hc4 hc5 hc6; omega))) (by decide) ?_
                  have c117 := s107.trans s115
                  have c118 := s103.trans c117
                  have c119 := s97.trans c118
                  have o116 := o89.lift c119 (by decide)
                  refine Seq.val (Does.load_own1 o116 ty4 rfl (arr_get [decide ((re.mode : Int) ≠ (0 : Int)), decide ((re.peer : Int) ≠ (0 : Int)), decide ((re.phase : Int) ≠ (0 : Int)), decide ((0 : Int) < (((List.length re.nums : Nat) : Int) : Int)), decide ((0 : Int) < (((List.length re.texts : Nat) : Int) : Int)), decide ((0 : Int) < (((List.length re.proof : Nat) : Int) : Int))] _ (by first | omega | (simp; omega)))) (by decide) ?_
                  refine Seq.val (Does.move rfl) (by decide) ?_
                  rcases bdich (List.getD [decide ((re.mode : Int) ≠ (0 : Int)), decide ((re.peer : Int) ≠ (0 : Int)), decide ((re.phase : Int) ≠ (0 : Int)), decide ((0 : Int) < (((List.length re.nums : Nat) : Int) : Int)), decide ((0 : Int) < (((List.length re.texts : Nat) : Int) : Int)), decide ((0 : Int) < (((List.length re.proof : Nat) : Int) : Int))] k false) with hc9 | hc9
                  · skip
                    refine Seq.guard_on' rfl rfl hc9 ?_
                    refine Seq.val (Does.move rfl) (by decide) ?_
                    refine Seq.guard_on' rfl rfl hc9 ?_
                    refine Seq.val (Does.indexAt_arr k (n := 6) (e := 4) (by kernel_rfl) ty4 rfl rfl (by first | omega | (simp [out_] at hc1 hc2 hc3 hc4 hc5 hc6; omega)) (by first | omega | (simp [out_] at hc1 hc2 hc3 hc4 hc5 hc6; omega))) (by decide) ?_
                    refine Seq.guard_on' rfl rfl hc9 ?_
                    have o120 := o106.lift s115 (by decide)
                    refine Seq.val (Does.load_own1 o120 ty4 rfl (arr_get [usedB re.kind 0, usedB re.kind 1, usedB re.kind 2, usedB re.kind 3, usedB re.kind 4, usedB re.kind 5] _ (by first | omega | (simp; omega)))) (by decide) ?_
                    refine Seq.guard_on' rfl rfl hc9 ?_
                    refine Seq.val (Does.not rfl) (by decide) ?_
                    refine Seq.val (Does.pick_b rfl hc9 rfl) (by decide) ?_
                    refine Seq.go (fun _ _ h => h) ?_
                    rcases bdich (!(List.getD [usedB re.kind 0, usedB re.kind 1, usedB re.kind 2, usedB re.kind 3, usedB re.kind 4, usedB re.kind 5] k false)) with hc10 | hc10
                    · skip
                      refine Run.cond_b rfl hc10 ?_
                      refine Run.seq ?_
                      refine Run.region ?_
                      refine Seq.val (Does.assign rfl) (by decide) ?_
                      refine Seq.val (Does.assign rfl) (by decide) ?_
                      refine Seq.go (fun _ _ h => h) ?_
                      have c121 := c93.trans c119
                      have c122 := s67.trans c121
                      have c123 := s56.trans c122
                      have c124 := s46.trans c123
                      have c125 := s37.trans c124
                      have c126 := s29.trans c125
                      have c127 := s22.trans c126
                      have c128 := s17.trans c127
                      obtain ⟨zU, zo⟩ := c128.out (by decide) hv
                      refine Run.ret (ret_block (ret_then (ret_then (ret_block (ret_then ?_)))))
                      exact post_two Try.results26 rfl rfl ⟨_, rfl, ⟨_, _, rfl, (BytesV.cast (show ([] : List UInt8) = (if re.bad then [] else re.all) from by first | rfl | (exact RentryD.final (show re.out = false from by (unfold RentryD.out; simp [out_] at hc1 hc2 hc3 hc4 hc5 hc6 ⊢; omega)) (uses_all (k := k) (by omega) hno) hc9 hc10; done) | (rw [RentryD.final (show re.out = false from by (unfold RentryD.out; simp [out_] at hc1 hc2 hc3 hc4 hc5 hc6 ⊢; omega)) (uses_all (k := k) (by omega) hno) hc9 hc10, RentryD.bad_no (show re.out = false from by (unfold RentryD.out; simp [out_] at hc1 hc2 hc3 hc4 hc5 hc6 ⊢; omega)) (uses_all (k := k) (by omega) hno) hc9 hc10]; simp; done) | (rw [if_pos (RentryD.bad_out (show re.out = true from by (unfold RentryD.out; simp [out_] at *; omega)))]; done) | (rw [RentryD.bad_out (show re.out = true from by (unfold RentryD.out; simp [out_] at *; omega))]; rfl; done) | (rw [if_pos (RentryD.bad_uses (uses_at (by omega) hc9 hc10))]; done) | (rw [RentryD.bad_uses (uses_at (by omega) hc9 hc10)]; rfl; done) | (rw [if_pos (RentryD.bad_nums hc9)]; done) | (rw [RentryD.bad_nums hc9]; rfl; done) | (rw [if_pos (RentryD.bad_texts hc10)]; done) | (rw [RentryD.bad_texts hc10]; rfl; done) | (simp_all; done) | omega) (BytesV.nil _ _)), (isBool (show (false : Bool) = (!re.bad && decide (((List.length (if re.bad then [] else re.all) : Nat) : Int) ≤ 4096)) from by first | rfl | (exact RentryD.final (show re.out = false from by (unfold RentryD.out; simp [out_] at hc1 hc2 hc3 hc4 hc5 hc6 ⊢; omega)) (uses_all (k := k) (by omega) hno) hc9 hc10; done) | (rw [RentryD.final (show re.out = false from by (unfold RentryD.out; simp [out_] at hc1 hc2 hc3 hc4 hc5 hc6 ⊢; omega)) (uses_all (k := k) (by omega) hno) hc9 hc10, RentryD.bad_no (show re.out = false from by (unfold RentryD.out; simp [out_] at hc1 hc2 hc3 hc4 hc5 hc6 ⊢; omega)) (uses_all (k := k) (by omega) hno) hc9 hc10]; simp; done) | (rw [if_pos (RentryD.bad_out (show re.out = true from by (unfold RentryD.out; simp [out_] at *; omega)))]; done) | (rw [RentryD.bad_out (show re.out = true from by (unfold RentryD.out; simp [out_] at *; omega))]; rfl; done) | (rw [if_pos (RentryD.bad_uses (uses_at (by omega) hc9 hc10))]; done) | (rw [RentryD.bad_uses (uses_at (by omega) hc9 hc10)]; rfl; done) | (rw [if_pos (RentryD.bad_nums hc9)]; done) | (rw [RentryD.bad_nums hc9]; rfl; done) | (rw [if_pos (RentryD.bad_texts hc10)]; done) | (rw [RentryD.bad_texts hc10]; rfl; done) | (simp_all; done) | omega) _ _)⟩, c128.leave (by decide)⟩
                    · skip
                      refine Run.cond_b rfl hc10 ?_
                      refine Run.skip_go (fun _ _ h => h) ?_
                      refine Run.region ?_
                      refine Seq.val (Does.add rfl rfl (by first | omega | (simp [out_] at hc1 hc2 hc3 hc4 hc5 hc6; omega))) (by decide) ?_
                      refine Seq.val (Does.move rfl) (by decide) ?_
                      exact Seq.nil (fun a129 h130 => ⟨_, by omega, _, h130.weaken (subs_lk (l' := [(77, i64 (((k + 1) : Nat) : Int)), (0, .agg #[i64 re.kind, i64 re.author, i64 re.epoch, i64 re.mode, i64 re.peer, i64 re.phase, .slice A1 (List.length re.nums) c2, .slice A4 (List.length re.texts) c5, .slice A7 (List.length re.proof) c8]), (1, .pointer (some ⟨b15, 0, none⟩)), (12, .pointer (some ⟨b15, 0, none⟩)), (13, i64 re.kind), (14, .bool (!(out_ re.kind 1 7))), (15, .bool (!(!(out_ re.kind 1 7)))), (16, .bool (!(!(out_ re.kind 1 7)))), (17, .pointer (some ⟨b15, 1, none⟩)), (18, i64 re.author), (19, .bool (!(out_ re.author 1 64))), (20, .bool (!(!(out_ re.author 1 64)))), (21, .bool (!(!(out_ re.author 1 64)))), (22, .bool (!(!(out_ re.author 1 64)))), (23, .pointer (some ⟨b15, 2, none⟩)), (24, i64 re.epoch), (25, .bool (!(out_ re.epoch 0 1048576))), (26, .bool (!(!(out_ re.epoch 0 1048576)))), (27, .bool (!(!(out_ re.epoch 0 1048576)))), (28, .bool (!(!(out_ re.epoch 0 1048576)))), (29, .pointer (some ⟨b15, 3, none⟩)), (30, i64 re.mode), (31, .bool (!(out_ re.mode 0 255))), (32, .bool (!(!(out_ re.mode 0 255)))), (33, .bool (!(!(out_ re.mode 0 255)))), (34, .bool (!(!(out_ re.mode 0 255)))), (35, .pointer (some ⟨b15, 4, none⟩)), (36, i64 re.peer), (37, .bool (!(out_ re.peer 0 255))), (38, .bool (!(!(out_ re.peer 0 255)))), (39, .bool (!(!(out_ re.peer 0 255)))), (40, .bool (!(!(out_ re.peer 0 255)))), (41, .pointer (some ⟨b15, 5, none⟩)), (42, i64 re.phase), (43, .bool (!(out_ re.phase 0 255))), (44, .bool (!(!(out_ re.phase 0 255)))), (45, .bool (!(!(out_ re.phase 0 255)))), (46, .bool (!(!(out_ re.phase 0 255)))), (47, .pointer (some ⟨b15, 8, none⟩)), (48, .slice A7 (List.length re.proof) c8), (49, i64 ((List.length re.proof : Nat) : Int)), (50, .bool (decide ((1024 : Int) < (((List.length re.proof : Nat) : Int) : Int)))), (51, .bool (decide ((1024 : Int) < (((List.length re.proof : Nat) : Int) : Int)))), (52, .pointer (some ⟨b15, 3, none⟩)), (53, i64 re.mode), (54, .bool (decide ((re.mode : Int) ≠ (0 : Int)))), (55, .pointer (some ⟨b15, 4, none⟩)), (56, i64 re.peer), (57, .bool (decide ((re.peer : Int) ≠ (0 : Int)))), (58, .pointer (some ⟨b15, 5, none⟩)), (59, i64 re.phase), (60, .bool (decide ((re.phase : Int) ≠ (0 : Int)))), (61, .pointer (some ⟨b15, 6, none⟩)), (62, .slice A1 (List.length re.nums) c2), (63, i64 ((List.length re.nums : Nat) : Int)), (64, .bool (decide ((0 : Int) < (((List.length re.nums : Nat) : Int) : Int)))), (65, .pointer (some ⟨b15, 7, none⟩)), (66, .slice A4 (List.length re.texts) c5), (67, i64 ((List.length re.texts : Nat) : Int)), (68, .bool (decide ((0 : Int) < (((List.length re.texts : Nat) : Int) : Int)))), (69, .pointer (some ⟨b15, 8, none⟩)), (70, .slice A7 (List.length re.proof) c8), (71, i64 ((List.length re.proof : Nat) : Int)), (72, .bool (decide ((0 : Int) < (((List.length re.proof : Nat) : Int) : Int)))), (73, .agg #[.bool (decide ((re.mode : Int) ≠ (0 : Int))), .bool (decide ((re.peer : Int) ≠ (0 : Int))), .bool (decide ((re.phase : Int) ≠ (0 : Int))), .bool (decide ((0 : Int) < (((List.length re.nums : Nat) : Int) : Int))), .bool (decide ((0 : Int) < (((List.length re.texts : Nat) : Int) : Int))), .bool (decide ((0 : Int) < (((List.length re.proof : Nat) : Int) : Int)))]), (4, .pointer (some ⟨b84, 0, none⟩)), (74, .pointer (some ⟨b15, 0, none⟩)), (75, i64 re.kind), (76, .agg #[.bool (usedB re.kind 0), .bool (usedB re.kind 1), .bool (usedB re.kind 2), .bool (usedB re.kind 3), .bool (usedB re.kind 4), .bool (usedB re.kind 5)]), (5, .pointer (some ⟨b101, 0, none⟩))]) ⟨(congrArg (fun z => some (i64 z)) (show (((k : Nat) : Int) + 1 : Int) = (((k + 1) : Nat) : Int) from by first | rfl | omega | (simp; done))), rfl, rfl, rfl, rfl, rfl, rfl, rfl, rfl, rfl, rfl, rfl, rfl, rfl, rfl, rfl, rfl, rfl, rfl, rfl, rfl, rfl, rfl, rfl, rfl, rfl, rfl, rfl, rfl, rfl, rfl, rfl, rfl, rfl, rfl, rfl, rfl, rfl, rfl, rfl, rfl, rfl, rfl, rfl, rfl, rfl, rfl, rfl, rfl, rfl, rfl, rfl, rfl, rfl, rfl, rfl, rfl, rfl, rfl, rfl, rfl, rfl, rfl, rfl, rfl, rfl, rfl, rfl, rfl, rfl, trivial⟩), ⟨k + 1, lab113, rfl, rfl, hv114, (s115.more (by decide)), (by first | omega | (intro j hj; omega) | (exact flags_a hno hc9) | (exact flags_b hno hc10) | (simp at *; omega)), (by first | omega | (intro j hj; omega) | (exact flags_a hno hc9) | (exact flags_b hno hc10) | (simp at *; omega))⟩⟩)
                  · skip
                    refine Seq.guard_off' rfl rfl hc9 rfl (by decide) ?_
                    refine Seq.guard_off' rfl rfl hc9 rfl (by decide) ?_
                    refine Seq.guard_off' rfl rfl hc9 rfl (by decide) ?_
                    refine Seq.guard_off' rfl rfl hc9 rfl (by decide) ?_
                    refine Seq.val (Does.pick_b rfl hc9 rfl) (by decide) ?_
                    refine Seq.go (fun _ _ h => h) ?_
                    refine Run.cond_b rfl rfl ?_
                    refine Run.skip_go (fun _ _ h => h) ?_
                    refine Run.region ?_
                    refine Seq.val (Does.add rfl rfl (by first | omega | (simp [out_] at hc1 hc2 hc3 hc4 hc5 hc6; omega))) (by decide) ?_
                    refine Seq.val (Does.move rfl) (by decide) ?_
                    exact Seq.nil (fun a131 h132 => ⟨_, by omega, _, h132.weaken (subs_lk (l' := [(77, i64 (((k + 1) : Nat) : Int)), (0, .agg #[i64 re.kind, i64 re.author, i64 re.epoch, i64 re.mode, i64 re.peer, i64 re.phase, .slice A1 (List.length re.nums) c2, .slice A4 (List.length re.texts) c5, .slice A7 (List.length re.proof) c8]), (1, .pointer (some ⟨b15, 0, none⟩)), (12, .pointer (some ⟨b15, 0, none⟩)), (13, i64 re.kind), (14, .bool (!(out_ re.kind 1 7))), (15, .bool (!(!(out_ re.kind 1 7)))), (16, .bool (!(!(out_ re.kind 1 7)))), (17, .pointer (some ⟨b15, 1, none⟩)), (18, i64 re.author), (19, .bool (!(out_ re.author 1 64))), (20, .bool (!(!(out_ re.author 1 64)))), (21, .bool (!(!(out_ re.author 1 64)))), (22, .bool (!(!(out_ re.author 1 64)))), (23, .pointer (some ⟨b15, 2, none⟩)), (24, i64 re.epoch), (25, .bool (!(out_ re.epoch 0 1048576))), (26, .bool (!(!(out_ re.epoch 0 1048576)))), (27, .bool (!(!(out_ re.epoch 0 1048576)))), (28, .bool (!(!(out_ re.epoch 0 1048576)))), (29, .pointer (some ⟨b15, 3, none⟩)), (30, i64 re.mode), (31, .bool (!(out_ re.mode 0 255))), (32, .bool (!(!(out_ re.mode 0 255)))), (33, .bool (!(!(out_ re.mode 0 255)))), (34, .bool (!(!(out_ re.mode 0 255)))), (35, .pointer (some ⟨b15, 4, none⟩)), (36, i64 re.peer), (37, .bool (!(out_ re.peer 0 255))), (38, .bool (!(!(out_ re.peer 0 255)))), (39, .bool (!(!(out_ re.peer 0 255)))), (40, .bool (!(!(out_ re.peer 0 255)))), (41, .pointer (some ⟨b15, 5, none⟩)), (42, i64 re.phase), (43, .bool (!(out_ re.phase 0 255))), (44, .bool (!(!(out_ re.phase 0 255)))), (45, .bool (!(!(out_ re.phase 0 255)))), (46, .bool (!(!(out_ re.phase 0 255)))), (47, .pointer (some ⟨b15, 8, none⟩)), (48, .slice A7 (List.length re.proof) c8), (49, i64 ((List.length re.proof : Nat) : Int)), (50, .bool (decide ((1024 : Int) < (((List.length re.proof : Nat) : Int) : Int)))), (51, .bool (decide ((1024 : Int) < (((List.length re.proof : Nat) : Int) : Int)))), (52, .pointer (some ⟨b15, 3, none⟩)), (53, i64 re.mode), (54, .bool (decide ((re.mode : Int) ≠ (0 : Int)))), (55, .pointer (some ⟨b15, 4, none⟩)), (56, i64 re.peer), (57, .bool (decide ((re.peer : Int) ≠ (0 : Int)))), (58, .pointer (some ⟨b15, 5, none⟩)), (59, i64 re.phase), (60, .bool (decide ((re.phase : Int) ≠ (0 : Int)))), (61, .pointer (some ⟨b15, 6, none⟩)), (62, .slice A1 (List.length re.nums) c2), (63, i64 ((List.length re.nums : Nat) : Int)), (64, .bool (decide ((0 : Int) < (((List.length re.nums : Nat) : Int) : Int)))), (65, .pointer (some ⟨b15, 7, none⟩)), (66, .slice A4 (List.length re.texts) c5), (67, i64 ((List.length re.texts : Nat) : Int)), (68, .bool (decide ((0 : Int) < (((List.length re.texts : Nat) : Int) : Int)))), (69, .pointer (some ⟨b15, 8, none⟩)), (70, .slice A7 (List.length re.proof) c8), (71, i64 ((List.length re.proof : Nat) : Int)), (72, .bool (decide ((0 : Int) < (((List.length re.proof : Nat) : Int) : Int)))), (73, .agg #[.bool (decide ((re.mode : Int) ≠ (0 : Int))), .bool (decide ((re.peer : Int) ≠ (0 : Int))), .bool (decide ((re.phase : Int) ≠ (0 : Int))), .bool (decide ((0 : Int) < (((List.length re.nums : Nat) : Int) : Int))), .bool (decide ((0 : Int) < (((List.length re.texts : Nat) : Int) : Int))), .bool (decide ((0 : Int) < (((List.length re.proof : Nat) : Int) : Int)))]), (4, .pointer (some ⟨b84, 0, none⟩)), (74, .pointer (some ⟨b15, 0, none⟩)), (75, i64 re.kind), (76, .agg #[.bool (usedB re.kind 0), .bool (usedB re.kind 1), .bool (usedB re.kind 2), .bool (usedB re.kind 3), .bool (usedB re.kind 4), .bool (usedB re.kind 5)]), (5, .pointer (some ⟨b101, 0, none⟩))]) ⟨(congrArg (fun z => some (i64 z)) (show (((k : Nat) : Int) + 1 : Int) = (((k + 1) : Nat) : Int) from by first | rfl | omega | (simp; done))), rfl, rfl, rfl, rfl, rfl, rfl, rfl, rfl, rfl, rfl, rfl, rfl, rfl, rfl, rfl, rfl, rfl, rfl, rfl, rfl, rfl, rfl, rfl, rfl, rfl, rfl, rfl, rfl, rfl, rfl, rfl, rfl, rfl, rfl, rfl, rfl, rfl, rfl, rfl, rfl, rfl, rfl, rfl, rfl, rfl, rfl, rfl, rfl, rfl, rfl, rfl, rfl, rfl, rfl, rfl, rfl, rfl, rfl, rfl, rfl, rfl, rfl, rfl, rfl, rfl, rfl, rfl, rfl, rfl, trivial⟩), ⟨k + 1, lab113, rfl, rfl, hv114, (s115.more (by decide)), (by first | omega | (intro j hj; omega) | (exact flags_a hno hc9) | (exact flags_b hno hc10) | (simp at *; omega)), (by first | omega | (intro j hj; omega) | (exact flags_a hno hc9) | (exact flags_b hno hc10) | (simp at *; omega))⟩⟩)
                · skip
                  have hp8 := of_decide_eq_false hc8
                  refine Run.cond_b rfl hc8 ?_
                  refine Run.exit_go (fun _ _ h => h) ?_
                  refine Run.seq ?_
                  refine Run.region ?_
                  refine Seq.val (Does.fieldAddr' 6 Try.underlying43 rfl ty41 rfl rfl) (by decide) ?_
                  have c134 := s107.trans s115
                  have c135 := s103.trans c134
                  have c136 := s97.trans c135
                  have o133 := o92.lift c136 (by decide)
                  refine Seq.val (Does.load_own1 o133 ty41 rfl rfl) (by decide) ?_
                  have c138 := c93.trans c136
                  have c139 := s67.trans c138
                  have c140 := s56.trans c139
                  have c141 := s46.trans c140
                  have c142 := s37.trans c141
                  have c143 := s29.trans c142
                  have c144 := s22.trans c143
                  have c145 := s17.trans c144
                  have q137 := (NumsV.pers _).step c145 q3
                  refine Seq.callS (V := And2 (BytesV (if tooMany (numsB re.nums) 128 then [] else listB (numsB re.nums) 128)) (Is (.bool (!(tooMany (numsB re.nums) 128))))) cal98 hv114 rfl (by decide) (ref17_nats hv114 q137 (show ∀ k, k < List.length re.nums → List.length (List.getD re.nums k []) ≤ 100000 from by first | assumption | omega | (simp [out_] at hc1 hc2 hc3 hc4 hc5 hc6; omega) | (simp only [List.flatten_cons, List.flatten_nil, List.length_append, List.length_cons, List.length_nil, textB_length, four_length]; omega))) ?_
                  intro v146 w147 q148 s149 hv150
                  obtain ⟨v151, v152, rfl, q153, q154⟩ := q148
                  obtain ⟨A155, c156, rfl⟩ := BytesV.shape q153
                  have z157 := BytesV.cap q153
                  have q154 := Is.out q154; subst q154
                  refine Seq.val (Does.move rfl) (by decide) ?_
                  refine Seq.val (Does.extract rfl rfl) (by decide) ?_
                  refine Seq.val (Does.extract rfl rfl) (by decide) ?_
                  refine Seq.val (Does.assign rfl) (by decide) ?_
                  refine Seq.val (Does.assign rfl) (by decide) ?_
                  refine Seq.go (fun _ _ h => h) ?_
                  refine Run.seq ?_
                  refine Run.region ?_
                  refine Seq.val (Does.fieldAddr' 7 Try.underlying43 rfl ty34 rfl rfl) (by decide) ?_
                  have o158 := o133.lift s149 (by decide)
                  refine Seq.val (Does.load_own1 o158 ty34 rfl rfl) (by decide) ?_
                  have c160 := c145.trans s149
                  have q159 := (RowsV.pers _).step c160 q6
                  refine Seq.callS (V := And2 (BytesV (if tooMany re.texts 1024 then [] else listB re.texts 1024)) (Is (.bool (!(tooMany re.texts 1024))))) cal99 hv150 rfl (by decide) (ref17_texts hv150 q159) ?_
                  intro v161 w162 q163 s164 hv165
                  obtain ⟨v166, v167, rfl, q168, q169⟩ := q163
                  obtain ⟨A170, c171, rfl⟩ := BytesV.shape q168
                  have z172 := BytesV.cap q168
                  have q169 := Is.out q169; subst q169
                  refine Seq.val (Does.move rfl) (by decide) ?_
                  refine Seq.val (Does.extract rfl rfl) (by decide) ?_
                  refine Seq.val (Does.extract rfl rfl) (by decide) ?_
                  refine Seq.val (Does.assign rfl) (by decide) ?_
                  refine Seq.val (Does.assign rfl) (by decide) ?_
                  refine Seq.go (fun _ _ h => h) ?_
                  refine Run.seq ?_
                  refine Run.seq ?_
                  refine Run.region ?_
                  refine Seq.val (Does.move rfl) (by decide) ?_
                  refine Seq.val (Does.not rfl) (by decide) ?_
                  refine Seq.val (Does.move rfl) (by decide) ?_
                  rcases bdich (!(!(tooMany (numsB re.nums) 128))) with hc9 | hc9
                  · skip
                    refine Seq.guard_off' rfl rfl hc9 rfl (by decide) ?_
                    refine Seq.guard_off' rfl rfl hc9 rfl (by decide) ?_
                    refine Seq.val (Does.pick_b rfl hc9 rfl) (by decide) ?_
                    refine Seq.go (fun _ _ h => h) ?_
                    refine Run.cond_b rfl rfl ?_
                    refine Run.seq ?_
                    refine Run.region ?_
                    refine Seq.val (Does.assign rfl) (by decide) ?_
                    refine Seq.val (Does.assign rfl) (by decide) ?_
                    refine Seq.go (fun _ _ h => h) ?_
                    have c173 := c160.trans s164
                    obtain ⟨zU, zo⟩ := c173.out (by decide) hv
                    refine Run.ret (ret_then ?_)
                    exact post_two Try.results26 rfl rfl ⟨_, rfl, ⟨_, _, rfl, (BytesV.cast (show ([] : List UInt8) = (if re.bad then [] else re.all) from by first | rfl | (exact RentryD.final (show re.out = false from by (unfold RentryD.out; simp [out_] at hc1 hc2 hc3 hc4 hc5 hc6 ⊢; omega)) (uses_all (k := k) (by omega) hno) hc9 hc10; done) | (rw [RentryD.final (show re.out = false from by (unfold RentryD.out; simp [out_] at hc1 hc2 hc3 hc4 hc5 hc6 ⊢; omega)) (uses_all (k := k) (by omega) hno) hc9 hc10, RentryD.bad_no (show re.out = false from by (unfold RentryD.out; simp [out_] at hc1 hc2 hc3 hc4 hc5 hc6 ⊢; omega)) (uses_all (k := k) (by omega) hno) hc9 hc10]; simp; done) | (rw [if_pos (RentryD.bad_out (show re.out = true from by (unfold RentryD.out; simp [out_] at *; omega)))]; done) | (rw [RentryD.bad_out (show re.out = true from by (unfold RentryD.out; simp [out_] at *; omega))]; rfl; done) | (rw [if_pos (RentryD.bad_uses (uses_at (by omega) hc9 hc10))]; done) | (rw [RentryD.bad_uses (uses_at (by omega) hc9 hc10)]; rfl; done) | (rw [if_pos (RentryD.bad_nums hc9)]; done) | (rw [RentryD.bad_nums hc9]; rfl; done) | (rw [if_pos (RentryD.bad_texts hc10)]; done) | (rw [RentryD.bad_texts hc10]; rfl; done) | (simp_all; done) | omega) (BytesV.nil _ _)), (isBool (show (false : Bool) = (!re.bad && decide (((List.length (if re.bad then [] else re.all) : Nat) : Int) ≤ 4096)) from by first | rfl | (exact RentryD.final (show re.out = false from by (unfold RentryD.out; simp [out_] at hc1 hc2 hc3 hc4 hc5 hc6 ⊢; omega)) (uses_all (k := k) (by omega) hno) hc9 hc10; done) | (rw [RentryD.final (show re.out = false from by (unfold RentryD.out; simp [out_] at hc1 hc2 hc3 hc4 hc5 hc6 ⊢; omega)) (uses_all (k := k) (by omega) hno) hc9 hc10, RentryD.bad_no (show re.out = false from by (unfold RentryD.out; simp [out_] at hc1 hc2 hc3 hc4 hc5 hc6 ⊢; omega)) (uses_all (k := k) (by omega) hno) hc9 hc10]; simp; done) | (rw [if_pos (RentryD.bad_out (show re.out = true from by (unfold RentryD.out; simp [out_] at *; omega)))]; done) | (rw [RentryD.bad_out (show re.out = true from by (unfold RentryD.out; simp [out_] at *; omega))]; rfl; done) | (rw [if_pos (RentryD.bad_uses (uses_at (by omega) hc9 hc10))]; done) | (rw [RentryD.bad_uses (uses_at (by omega) hc9 hc10)]; rfl; done) | (rw [if_pos (RentryD.bad_nums hc9)]; done) | (rw [RentryD.bad_nums hc9]; rfl; done) | (rw [if_pos (RentryD.bad_texts hc10)]; done) | (rw [RentryD.bad_texts hc10]; rfl; done) | (simp_all; done) | omega) _ _)⟩, c173.leave (by decide)⟩
                  · skip
                    refine Seq.guard_on' rfl rfl hc9 ?_
                    refine Seq.val (Does.move rfl) (by decide) ?_
                    refine Seq.guard_on' rfl rfl hc9 ?_
                    refine Seq.val (Does.not rfl) (by decide) ?_
                    refine Seq.val (Does.pick_b rfl hc9 rfl) (by decide) ?_
                    refine Seq.go (fun _ _ h => h) ?_
                    rcases bdich (!(!(tooMany re.texts 1024))) with hc10 | hc10
                    · skip
                      refine Run.cond_b rfl hc10 ?_
                      refine Run.seq ?_
                      refine Run.region ?_
                      refine Seq.val (Does.assign rfl) (by decide) ?_
                      refine Seq.val (Does.assign rfl) (by decide) ?_
                      refine Seq.go (fun _ _ h => h) ?_
                      have c174 := c160.trans s164
                      obtain ⟨zU, zo⟩ := c174.out (by decide) hv
                      refine Run.ret (ret_then ?_)
                      exact post_two Try.results26 rfl rfl ⟨_, rfl, ⟨_, _, rfl, (BytesV.cast (show ([] : List UInt8) = (if re.bad then [] else re.all) from by first | rfl | (exact RentryD.final (show re.out = false from by (unfold RentryD.out; simp [out_] at hc1 hc2 hc3 hc4 hc5 hc6 ⊢; omega)) (uses_all (k := k) (by omega) hno) hc9 hc10; done) | (rw [RentryD.final (show re.out = false from by (unfold RentryD.out; simp [out_] at hc1 hc2 hc3 hc4 hc5 hc6 ⊢; omega)) (uses_all (k := k) (by omega) hno) hc9 hc10, RentryD.bad_no (show re.out = false from by (unfold RentryD.out; simp [out_] at hc1 hc2 hc3 hc4 hc5 hc6 ⊢; omega)) (uses_all (k := k) (by omega) hno) hc9 hc10]; simp; done) | (rw [if_pos (RentryD.bad_out (show re.out = true from by (unfold RentryD.out; simp [out_] at *; omega)))]; done) | (rw [RentryD.bad_out (show re.out = true from by (unfold RentryD.out; simp [out_] at *; omega))]; rfl; done) | (rw [if_pos (RentryD.bad_uses (uses_at (by omega) hc9 hc10))]; done) | (rw [RentryD.bad_uses (uses_at (by omega) hc9 hc10)]; rfl; done) | (rw [if_pos (RentryD.bad_nums hc9)]; done) | (rw [RentryD.bad_nums hc9]; rfl; done) | (rw [if_pos (RentryD.bad_texts hc10)]; done) | (rw [RentryD.bad_texts hc10]; rfl; done) | (simp_all; done) | omega) (BytesV.nil _ _)), (isBool (show (false : Bool) = (!re.bad && decide (((List.length (if re.bad then [] else re.all) : Nat) : Int) ≤ 4096)) from by first | rfl | (exact RentryD.final (show re.out = false from by (unfold RentryD.out; simp [out_] at hc1 hc2 hc3 hc4 hc5 hc6 ⊢; omega)) (uses_all (k := k) (by omega) hno) hc9 hc10; done) | (rw [RentryD.final (show re.out = false from by (unfold RentryD.out; simp [out_] at hc1 hc2 hc3 hc4 hc5 hc6 ⊢; omega)) (uses_all (k := k) (by omega) hno) hc9 hc10, RentryD.bad_no (show re.out = false from by (unfold RentryD.out; simp [out_] at hc1 hc2 hc3 hc4 hc5 hc6 ⊢; omega)) (uses_all (k := k) (by omega) hno) hc9 hc10]; simp; done) | (rw [if_pos (RentryD.bad_out (show re.out = true from by (unfold RentryD.out; simp [out_] at *; omega)))]; done) | (rw [RentryD.bad_out (show re.out = true from by (unfold RentryD.out; simp [out_] at *; omega))]; rfl; done) | (rw [if_pos (RentryD.bad_uses (uses_at (by omega) hc9 hc10))]; done) | (rw [RentryD.bad_uses (uses_at (by omega) hc9 hc10)]; rfl; done) | (rw [if_pos (RentryD.bad_nums hc9)]; done) | (rw [RentryD.bad_nums hc9]; rfl; done) | (rw [if_pos (RentryD.bad_texts hc10)]; done) | (rw [RentryD.bad_texts hc10]; rfl; done) | (simp_all; done) | omega) _ _)⟩, c174.leave (by decide)⟩
                    · skip
                      refine Run.cond_b rfl hc10 ?_
                      refine Run.skip_go (fun _ _ h => h) ?_
                      refine Run.seq ?_
                      refine Run.any (m := 27) mixed (by kernel_rfl) hv165 (phi [Is (.pointer (some ⟨b15, 0, none⟩)), Is (i64 re.kind), Is (u8 (UInt8.ofNat (re.kind).toNat)), Is (.pointer (some ⟨b15, 1, none⟩)), Is (i64 re.author), Is (u8 (UInt8.ofNat (re.author).toNat)), BytesV ([(69 : UInt8), UInt8.ofNat (re.kind).toNat, UInt8.ofNat (re.author).toNat]), Is (.pointer (some ⟨b15, 2, none⟩)), Is (i64 re.epoch), BytesV (four re.epoch), Is (.pointer (some ⟨b15, 3, none⟩)), Is (i64 re.mode), Is (u8 (UInt8.ofNat (re.mode).toNat)), Is (.pointer (some ⟨b15, 4, none⟩)), Is (i64 re.peer), Is (u8 (UInt8.ofNat (re.peer).toNat)), Is (.pointer (some ⟨b15, 5, none⟩)), Is (i64 re.phase), Is (u8 (UInt8.ofNat (re.phase).toNat)), BytesV ([UInt8.ofNat (re.mode).toNat, UInt8.ofNat (re.peer).toNat, UInt8.ofNat (re.phase).toNat]), Is (.slice A155 (List.length (if tooMany (numsB re.nums) 128 then [] else listB (numsB re.nums) 128)) c156), Is (.slice A170 (List.length (if tooMany re.texts 1024 then [] else listB re.texts 1024)) c171), Is (.pointer (some ⟨b15, 8, none⟩)), Is (.slice A7 (List.length re.proof) c8), BytesV (textB re.proof), RowsV ([[(69 : UInt8), UInt8.ofNat (re.kind).toNat, UInt8.ofNat (re.author).toNat], four re.epoch, [UInt8.ofNat (re.mode).toNat, UInt8.ofNat (re.peer).toNat, UInt8.ofNat (re.phase).toNat], if tooMany (numsB re.nums) 128 then [] else listB (numsB re.nums) 128, if tooMany re.texts 1024 then [] else listB re.texts 1024, textB re.proof]), BytesV (List.flatten ([[(69 : UInt8), UInt8.ofNat (re.kind).toNat, UInt8.ofNat (re.author).toNat], four re.epoch, [UInt8.ofNat (re.mode).toNat, UInt8.ofNat (re.peer).toNat, UInt8.ofNat (re.phase).toNat], if tooMany (numsB re.nums) 128 then [] else listB (numsB re.nums) 128, if tooMany re.texts 1024 then [] else listB re.texts 1024, textB re.proof]))]) (phi_pers (L := [Is (.pointer (some ⟨b15, 0, none⟩)), Is (i64 re.kind), Is (u8 (UInt8.ofNat (re.kind).toNat)), Is (.pointer (some ⟨b15, 1, none⟩)), Is (i64 re.author), Is (u8 (UInt8.ofNat (re.author).toNat)), BytesV ([(69 : UInt8), UInt8.ofNat (re.kind).toNat, UInt8.ofNat (re.author).toNat]), Is (.pointer (some ⟨b15, 2, none⟩)), Is (i64 re.epoch), BytesV (four re.epoch), Is (.pointer (some ⟨b15, 3, none⟩)), Is (i64 re.mode), Is (u8 (UInt8.ofNat (re.mode).toNat)), Is (.pointer (some ⟨b15, 4, none⟩)), Is (i64 re.peer), Is (u8 (UInt8.ofNat (re.peer).toNat)), Is (.pointer (some ⟨b15, 5, none⟩)), Is (i64 re.phase), Is (u8 (UInt8.ofNat (re.phase).toNat)), BytesV ([UInt8.ofNat (re.mode).toNat, UInt8.ofNat (re.peer).toNat, UInt8.ofNat (re.phase).toNat]), Is (.slice A155 (List.length (if tooMany (numsB re.nums) 128 then [] else listB (numsB re.nums) 128)) c156), Is (.slice A170 (List.length (if tooMany re.texts 1024 then [] else listB re.texts 1024)) c171), Is (.pointer (some ⟨b15, 8, none⟩)), Is (.slice A7 (List.length re.proof) c8), BytesV (textB re.proof), RowsV ([[(69 : UInt8), UInt8.ofNat (re.kind).toNat, UInt8.ofNat (re.author).toNat], four re.epoch, [UInt8.ofNat (re.mode).toNat, UInt8.ofNat (re.peer).toNat, UInt8.ofNat (re.phase).toNat], if tooMany (numsB re.nums) 128 then [] else listB (numsB re.nums) 128, if tooMany re.texts 1024 then [] else listB re.texts 1024, textB re.proof]), BytesV (List.flatten ([[(69 : UInt8), UInt8.ofNat (re.kind).toNat, UInt8.ofNat (re.author).toNat], four re.epoch, [UInt8.ofNat (re.mode).toNat, UInt8.ofNat (re.peer).toNat, UInt8.ofNat (re.phase).toNat], if tooMany (numsB re.nums) 128 then [] else listB (numsB re.nums) 128, if tooMany re.texts 1024 then [] else listB re.texts 1024, textB re.proof]))]) ⟨Pers.z (Is.pers _), Pers.z (Is.pers _), Pers.z (Is.pers _), Pers.z (Is.pers _), Pers.z (Is.pers _), Pers.z (Is.pers _), Pers.z (BytesV.pers _), Pers.z (Is.pers _), Pers.z (Is.pers _), Pers.z (BytesV.pers _), Pers.z (Is.pers _), Pers.z (Is.pers _), Pers.z (Is.pers _), Pers.z (Is.pers _), Pers.z (Is.pers _), Pers.z (Is.pers _), Pers.z (Is.pers _), Pers.z (Is.pers _), Pers.z (Is.pers _), Pers.z (BytesV.pers _), Pers.z (Is.pers _), Pers.z (Is.pers _), Pers.z (Is.pers _), Pers.z (Is.pers _), Pers.z (BytesV.pers _), Pers.z (RowsV.pers _), Pers.z (BytesV.pers _), trivial⟩) ?_ ?_
                      · intro wz z0
                        refine laws (n := 27) ⟨?_, ?_, ?_, ?_, ?_, ?_, ?_, ?_, ?_, ?_, ?_, ?_, ?_, ?_, ?_, ?_, ?_, ?_, ?_, ?_, ?_, ?_, ?_, ?_, ?_, ?_, ?_, trivial⟩
                        · refine law_val rfl (by decide) fun lab175 w176 a177 hv178 s179 f180 d181 => ?_
                          exact ⟨_, _, _, _, f180, Does.fieldAddr' 0 Try.underlying43 rfl ty3 rfl rfl, hv178, Stp.refl _ _, rfl⟩
                        · refine law_val rfl (by decide) fun lab182 w183 a184 hv185 s186 f187 d188 => ?_
                          obtain ⟨v189, e190, q191⟩ := d188 0 rfl 108 rfl
                          replace q191 : (Is (.pointer (some ⟨b15, 0, none⟩))) lab182 w183 v189 := q191
                          replace q191 := Is.out q191; subst q191
                          have f192 := f187.ext e190
                          have c194 := s164.trans (z0.trans s186)
                          have o193 := o158.lift c194 (by decide)
                          exact ⟨_, _, _, _, f192, Does.load_own1 o193 ty3 rfl rfl, hv185, Stp.refl _ _, rfl⟩
                        · refine law_val rfl (by decide) fun lab195 w196 a197 hv198 s199 f200 d201 => ?_
                          obtain ⟨v202, e203, q204⟩ := d201 1 rfl 109 rfl
                          replace q204 : (Is (i64 re.kind)) lab195 w196 v202 := q204
                          replace q204 := Is.out q204; subst q204
                          have f205 := f200.ext e203
                          exact ⟨_, _, _, _, f205, Does.conv_int Try.underlying3 Try.underlying5 rfl ((wrap_i64_u8 _ (by first | omega | (simp [out_] at hc1 hc2 hc3 hc4 hc5 hc6; omega)))), hv198, Stp.refl _ _, rfl⟩
                        · refine law_val rfl (by decide) fun lab206 w207 a208 hv209 s210 f211 d212 => ?_
                          exact ⟨_, _, _, _, f211, Does.fieldAddr' 1 Try.underlying43 rfl ty3 rfl rfl, hv209, Stp.refl _ _, rfl⟩
                        · refine law_val rfl (by decide) fun lab213 w214 a215 hv216 s217 f218 d219 => ?_
                          obtain ⟨v220, e221, q222⟩ := d219 3 rfl 111 rfl
                          replace q222 : (Is (.pointer (some ⟨b15, 1, none⟩))) lab213 w214 v220 := q222
                          replace q222 := Is.out q222; subst q222
                          have f223 := f218.ext e221
                          have c225 := s164.trans (z0.trans s217)
                          have o224 := o158.lift c225 (by decide)
                          exact ⟨_, _, _, _, f223, Does.load_own1 o224 ty3 rfl rfl, hv216, Stp.refl _ _, rfl⟩
                        · refine law_val rfl (by decide) fun lab226 w227 a228 hv229 s230 f231 d232 => ?_
                          obtain ⟨v233, e234, q235⟩ := d232 4 rfl 112 rfl
                          replace q235 : (Is (i64 re.author)) lab226 w227 v233 := q235
                          replace q235 := Is.out q235; subst q235
                          have f236 := f231.ext e234
                          exact ⟨_, _, _, _, f236, Does.conv_int Try.underlying3 Try.underlying5 rfl ((wrap_i64_u8 _ (by first | omega | (simp [out_] at hc1 hc2 hc3 hc4 hc5 hc6; omega)))), hv229, Stp.refl _ _, rfl⟩
                        · refine law_val rfl (by decide) fun lab237 w238 a239 hv240 s241 f242 d243 => ?_
                          obtain ⟨v244, e245, q246⟩ := d243 2 rfl 110 rfl
                          replace q246 : (Is (u8 (UInt8.ofNat (re.kind).toNat))) lab237 w238 v244 := q246
                          replace q246 := Is.out q246; subst q246
                          have f247 := f242.ext e245
                          obtain ⟨v248, e249, q250⟩ := d243 5 rfl 113 rfl
                          replace q250 : (Is (u8 (UInt8.ofNat (re.author).toNat))) lab237 w238 v248 := q250
                          replace q250 := Is.out q250; subst q250
                          have f251 := f247.ext e249
                          refine build_law [(0, .int .u8 69), (1, u8 (UInt8.ofNat (re.kind).toNat)), (2, u8 (UInt8.ofNat (re.author).toNat))] (List.map u8 [(69 : UInt8), UInt8.ofNat (re.kind).toNat, UInt8.ofNat (re.author).toNat]) hv240 Try.underlying22 ty5 (by decide) (by decide) rfl (by kernel_rfl) f251 ?_
                          intro b252 w253 r255 s256
                          exact ⟨_, _, rfl, Nat.le_refl _, Nat.le_of_ble_eq_true rfl, r255⟩
                        · refine law_val rfl (by decide) fun lab258 w259 a260 hv261 s262 f263 d264 => ?_
                          exact ⟨_, _, _, _, f263, Does.fieldAddr' 2 Try.underlying43 rfl ty3 rfl rfl, hv261, Stp.refl _ _, rfl⟩
                        · refine law_val rfl (by decide) fun lab265 w266 a267 hv268 s269 f270 d271 => ?_
                          obtain ⟨v272, e273, q274⟩ := d271 7 rfl 115 rfl
                          replace q274 : (Is (.pointer (some ⟨b15, 2, none⟩))) lab265 w266 v272 := q274
                          replace q274 := Is.out q274; subst q274
                          have f275 := f270.ext e273
                          have c277 := s164.trans (z0.trans s269)
                          have o276 := o158.lift c277 (by decide)
                          exact ⟨_, _, _, _, f275, Does.load_own1 o276 ty3 rfl rfl, hv268, Stp.refl _ _, rfl⟩
                        · refine law_call rfl (by decide) cal91 fun lab278 w279 a280 hv281 s282 f283 d284 => ?_
                          obtain ⟨v285, e286, q287⟩ := d284 8 rfl 116 rfl
                          replace q287 : (Is (i64 re.epoch)) lab278 w279 v285 := q287
                          replace q287 := Is.out q287; subst q287
                          have f288 := f283.ext e286
                          exact ⟨_, _, f288, rfl, (ref17_four hv281 (n := re.epoch) (show 0 ≤ re.epoch ∧ re.epoch < 4294967296 from by first | assumption | omega | (simp [out_] at hc1 hc2 hc3 hc4 hc5 hc6; omega) | (simp only [List.flatten_cons, List.flatten_nil, List.length_append, List.length_cons, List.length_nil, textB_length, four_length]; omega)))⟩
                        · refine law_val rfl (by decide) fun lab289 w290 a291 hv292 s293 f294 d295 => ?_
                          exact ⟨_, _, _, _, f294, Does.fieldAddr' 3 Try.underlying43 rfl ty3 rfl rfl, hv292, Stp.refl _ _, rfl⟩
                        · refine law_val rfl (by decide) fun lab296 w297 a298 hv299 s300 f301 d302 => ?_
                          obtain ⟨v303, e304, q305⟩ := d302 10 rfl 118 rfl
                          replace q305 : (Is (.pointer (some ⟨b15, 3, none⟩))) lab296 w297 v303 := q305
                          replace q305 := Is.out q305; subst q305
                          have f306 := f301.ext e304
                          have c308 := s164.trans (z0.trans s300)
                          have o307 := o158.lift c308 (by decide)
                          exact ⟨_, _, _, _, f306, Does.load_own1 o307 ty3 rfl rfl, hv299, Stp.refl _ _, rfl⟩
                        · refine law_val rfl (by decide) fun lab309 w310 a311 hv312 s313 f314 d315 => ?_
                          obtain ⟨v316, e317, q318⟩ := d315 11 rfl 119 rfl
                          replace q318 : (Is (i64 re.mode)) lab309 w310 v316 := q318
                          replace q318 := Is.out q318; subst q318
                          have f319 := f314.ext e317
                          exact ⟨_, _, _, _, f319, Does.conv_int Try.underlying3 Try.underlying5 rfl ((wrap_i64_u8 _ (by first | omega | (simp [out_] at hc1 hc2 hc3 hc4 hc5 hc6; omega)))), hv312, Stp.refl _ _, rfl⟩
                        · refine law_val rfl (by decide) fun lab320 w321 a322 hv323 s324 f325 d326 => ?_
                          exact ⟨_, _, _, _, f325, Does.fieldAddr' 4 Try.underlying43 rfl ty3 rfl rfl, hv323, Stp.refl _ _, rfl⟩
                        · refine law_val rfl (by decide) fun lab327 w328 a329 hv330 s331 f332 d333 => ?_
                          obtain ⟨v334, e335, q336⟩ := d333 13 rfl 121 rfl
                          replace q336 : (Is (.pointer (some ⟨b15, 4, none⟩))) lab327 w328 v334 := q336
                          replace q336 := Is.out q336; subst q336
                          have f337 := f332.ext e335
                          have c339 := s164.trans (z0.trans s331)
                          have o338 := o158.lift c339 (by decide)
                          exact ⟨_, _, _, _, f337, Does.load_own1 o338 ty3 rfl rfl, hv330, Stp.refl _ _, rfl⟩
                        · refine law_val rfl (by decide) fun lab340 w341 a342 hv343 s344 f345 d346 => ?_
                          obtain ⟨v347, e348, q349⟩ := d346 14 rfl 122 rfl
                          replace q349 : (Is (i64 re.peer)) lab340 w341 v347 := q349
                          replace q349 := Is.out q349; subst q349
                          have f350 := f345.ext e348
                          exact ⟨_, _, _, _, f350, Does.conv_int Try.underlying3 Try.underlying5 rfl ((wrap_i64_u8 _ (by first | omega | (simp [out_] at hc1 hc2 hc3 hc4 hc5 hc6; omega)))), hv343, Stp.refl _ _, rfl⟩
                        · refine law_val rfl (by decide) fun lab351 w352 a353 hv354 s355 f356 d357 => ?_
                          exact ⟨_, _, _, _, f356, Does.fieldAddr' 5 Try.underlying43 rfl ty3 rfl rfl, hv354, Stp.refl _ _, rfl⟩
                        · refine law_val rfl (by decide) fun lab358 w359 a360 hv361 s362 f363 d364 => ?_
                          obtain ⟨v365, e366, q367⟩ := d364 16 rfl 124 rfl
                          replace q367 : (Is (.pointer (some ⟨b15, 5, none⟩))) lab358 w359 v365 := q367
                          replace q367 := Is.out q367; subst q367
                          have f368 := f363.ext e366
                          have c370 := s164.trans (z0.trans s362)
                          have o369 := o158.lift c370 (by decide)
                          exact ⟨_, _, _, _, f368, Does.load_own1 o369 ty3 rfl rfl, hv361, Stp.refl _ _, rfl⟩
                        · refine law_val rfl (by decide) fun lab371 w372 a373 hv374 s375 f376 d377 => ?_
                          obtain ⟨v378, e379, q380⟩ := d377 17 rfl 125 rfl
                          replace q380 : (Is (i64 re.phase)) lab371 w372 v378 := q380
                          replace q380 := Is.out q380; subst q380
                          have f381 := f376.ext e379
                          exact ⟨_, _, _, _, f381, Does.conv_int Try.underlying3 Try.underlying5 rfl ((wrap_i64_u8 _ (by first | omega | (simp [out_] at hc1 hc2 hc3 hc4 hc5 hc6; omega)))), hv374, Stp.refl _ _, rfl⟩
                        · refine law_val rfl (by decide) fun lab382 w383 a384 hv385 s386 f387 d388 => ?_
                          obtain ⟨v389, e390, q391⟩ := d388 12 rfl 120 rfl
                          replace q391 : (Is (u8 (UInt8.ofNat (re.mode).toNat))) lab382 w383 v389 := q391
                          replace q391 := Is.out q391; subst q391
                          have f392 := f387.ext e390
                          obtain ⟨v393, e394, q395⟩ := d388 15 rfl 123 rfl
                          replace q395 : (Is (u8 (UInt8.ofNat (re.peer).toNat))) lab382 w383 v393 := q395
                          replace q395 := Is.out q395; subst q395
                          have f396 := f392.ext e394
                          obtain ⟨v397, e398, q399⟩ := d388 18 rfl 126 rfl
                          replace q399 : (Is (u8 (UInt8.ofNat (re.phase).toNat))) lab382 w383 v397 := q399
                          replace q399 := Is.out q399; subst q399
                          have f400 := f396.ext e398
                          refine build_law [(0, u8 (UInt8.ofNat (re.mode).toNat)), (1, u8 (UInt8.ofNat (re.peer).toNat)), (2, u8 (UInt8.ofNat (re.phase).toNat))] (List.map u8 [UInt8.ofNat (re.mode).toNat, UInt8.ofNat (re.peer).toNat, UInt8.ofNat (re.phase).toNat]) hv385 Try.underlying22 ty5 (by decide) (by decide) rfl (by kernel_rfl) f400 ?_
                          intro b401 w402 r404 s405
                          exact ⟨_, _, rfl, Nat.le_refl _, Nat.le_of_ble_eq_true rfl, r404⟩
                        · refine law_val rfl (by decide) fun lab407 w408 a409 hv410 s411 f412 d413 => ?_
                          exact ⟨_, _, _, _, f412, Does.move rfl, hv410, Stp.refl _ _, rfl⟩
                        · refine law_val rfl (by decide) fun lab414 w415 a416 hv417 s418 f419 d420 => ?_
                          exact ⟨_, _, _, _, f419, Does.move rfl, hv417, Stp.refl _ _, rfl⟩
                        · refine law_val rfl (by decide) fun lab421 w422 a423 hv424 s425 f426 d427 => ?_
                          exact ⟨_, _, _, _, f426, Does.fieldAddr' 8 Try.underlying43 rfl ty22 rfl rfl, hv424, Stp.refl _ _, rfl⟩
                        · refine law_val rfl (by decide) fun lab428 w429 a430 hv431 s432 f433 d434 => ?_
                          obtain ⟨v435, e436, q437⟩ := d434 22 rfl 130 rfl
                          replace q437 : (Is (.pointer (some ⟨b15, 8, none⟩))) lab428 w429 v435 := q437
                          replace q437 := Is.out q437; subst q437
                          have f438 := f433.ext e436
                          have c440 := s164.trans (z0.trans s432)
                          have o439 := o158.lift c440 (by decide)
                          exact ⟨_, _, _, _, f438, Does.load_own1 o439 ty22 rfl rfl, hv431, Stp.refl _ _, rfl⟩
                        · refine law_call rfl (by decide) cal92 fun lab441 w442 a443 hv444 s445 f446 d447 => ?_
                          obtain ⟨v448, e449, q450⟩ := d447 23 rfl 131 rfl
                          replace q450 : (Is (.slice A7 (List.length re.proof) c8)) lab441 w442 v448 := q450
                          replace q450 := Is.out q450; subst q450
                          have f451 := f446.ext e449
                          have c453 := s164.trans (z0.trans s445)
                          have c454 := c160.trans c453
                          have q452 := (BytesV.pers _).step c454 q9
                          exact ⟨_, _, f451, rfl, (ref17_text hv444 q452 (show List.length re.proof ≤ 60000 from by first | assumption | omega | (simp [out_] at hc1 hc2 hc3 hc4 hc5 hc6; omega) | (simp only [List.flatten_cons, List.flatten_nil, List.length_append, List.length_cons, List.length_nil, textB_length, four_length]; omega)))⟩
                        · refine law_val rfl (by decide) fun lab455 w456 a457 hv458 s459 f460 d461 => ?_
                          obtain ⟨v462, e463, q464⟩ := d461 6 rfl 114 rfl
                          replace q464 : (BytesV ([(69 : UInt8), UInt8.ofNat (re.kind).toNat, UInt8.ofNat (re.author).toNat])) lab455 w456 v462 := q464
                          obtain ⟨A465, c466, rfl⟩ := BytesV.shape q464
                          have z467 := BytesV.cap q464
                          have f468 := f460.ext e463
                          obtain ⟨v469, e470, q471⟩ := d461 9 rfl 117 rfl
                          replace q471 : (BytesV (four re.epoch)) lab455 w456 v469 := q471
                          obtain ⟨A472, c473, rfl⟩ := BytesV.shape q471
                          have z474 := BytesV.cap q471
                          have f475 := f468.ext e470
                          obtain ⟨v476, e477, q478⟩ := d461 19 rfl 127 rfl
                          replace q478 : (BytesV ([UInt8.ofNat (re.mode).toNat, UInt8.ofNat (re.peer).toNat, UInt8.ofNat (re.phase).toNat])) lab455 w456 v476 := q478
                          obtain ⟨A479, c480, rfl⟩ := BytesV.shape q478
                          have z481 := BytesV.cap q478
                          have f482 := f475.ext e477
                          obtain ⟨v483, e484, q485⟩ := d461 20 rfl 128 rfl
                          replace q485 : (Is (.slice A155 (List.length (if tooMany (numsB re.nums) 128 then [] else listB (numsB re.nums) 128)) c156)) lab455 w456 v483 := q485
                          replace q485 := Is.out q485; subst q485
                          have f486 := f482.ext e484
                          obtain ⟨v487, e488, q489⟩ := d461 21 rfl 129 rfl
                          replace q489 : (Is (.slice A170 (List.length (if tooMany re.texts 1024 then [] else listB re.texts 1024)) c171)) lab455 w456 v487 := q489
                          replace q489 := Is.out q489; subst q489
                          have f490 := f486.ext e488
                          obtain ⟨v491, e492, q493⟩ := d461 24 rfl 132 rfl
                          replace q493 : (BytesV (textB re.proof)) lab455 w456 v491 := q493
                          obtain ⟨A494, c495, rfl⟩ := BytesV.shape q493
                          have z496 := BytesV.cap q493
                          have f497 := f490.ext e492
                          have c505 := s164.trans (z0.trans s459)
                          have q504 := (BytesV.pers _).step c505 q153
                          have q506 := (BytesV.pers _).step (z0.trans s459) q168
                          refine build_law [(0, .slice A465 (List.length ([(69 : UInt8), UInt8.ofNat (re.kind).toNat, UInt8.ofNat (re.author).toNat])) c466), (1, .slice A472 (List.length (four re.epoch)) c473), (2, .slice A479 (List.length ([UInt8.ofNat (re.mode).toNat, UInt8.ofNat (re.peer).toNat, UInt8.ofNat (re.phase).toNat])) c480), (3, .slice A155 (List.length (if tooMany (numsB re.nums) 128 then [] else listB (numsB re.nums) 128)) c156), (4, .slice A170 (List.length (if tooMany re.texts 1024 then [] else listB re.texts 1024)) c171), (5, .slice A494 (List.length (textB re.proof)) c495)] [.slice A465 (List.length ([(69 : UInt8), UInt8.ofNat (re.kind).toNat, UInt8.ofNat (re.author).toNat])) c466, .slice A472 (List.length (four re.epoch)) c473, .slice A479 (List.length ([UInt8.ofNat (re.mode).toNat, UInt8.ofNat (re.peer).toNat, UInt8.ofNat (re.phase).toNat])) c480, .slice A155 (List.length (if tooMany (numsB re.nums) 128 then [] else listB (numsB re.nums) 128)) c156, .slice A170 (List.length (if tooMany re.texts 1024 then [] else listB re.texts 1024)) c171, .slice A494 (List.length (textB re.proof)) c495] hv458 Try.underlying34 ty22 (by decide) (by decide) rfl (by kernel_rfl) f497 ?_
                          intro b498 w499 r501 s502
                          have q507 := (BytesV.pers _).step s502 q464
                          have q508 := (BytesV.pers _).step s502 q471
                          have q509 := (BytesV.pers _).step s502 q478
                          have q510 := (BytesV.pers _).step s502 q504
                          have q511 := (BytesV.pers _).step s502 q506
                          have q512 := (BytesV.pers _).step s502 q493
                          exact RowsV.mk 6 rfl (Nat.le_refl _) (by decide) r501 rfl (EachB.get ⟨q507, q508, q509, q510, q511, q512, trivial⟩)
                        · refine law_call rfl (by decide) cal90 fun lab513 w514 a515 hv516 s517 f518 d519 => ?_
                          obtain ⟨v520, e521, q522⟩ := d519 25 rfl 133 rfl
                          replace q522 : (RowsV ([[(69 : UInt8), UInt8.ofNat (re.kind).toNat, UInt8.ofNat (re.author).toNat], four re.epoch, [UInt8.ofNat (re.mode).toNat, UInt8.ofNat (re.peer).toNat, UInt8.ofNat (re.phase).toNat], if tooMany (numsB re.nums) 128 then [] else listB (numsB re.nums) 128, if tooMany re.texts 1024 then [] else listB re.texts 1024, textB re.proof])) lab513 w514 v520 := q522
                          obtain ⟨A523, c524, rfl⟩ := RowsV.shape q522
                          have z525 := RowsV.cap q522
                          have f526 := f518.ext e521
                          exact ⟨_, _, f526, rfl, (ref04_Join hv516 q522 (show List.length (List.flatten ([[(69 : UInt8), UInt8.ofNat (re.kind).toNat, UInt8.ofNat (re.author).toNat], four re.epoch, [UInt8.ofNat (re.mode).toNat, UInt8.ofNat (re.peer).toNat, UInt8.ofNat (re.phase).toNat], if tooMany (numsB re.nums) 128 then [] else listB (numsB re.nums) 128, if tooMany re.texts 1024 then [] else listB re.texts 1024, textB re.proof])) ≤ 1000000 from by first | assumption | omega | (simp [out_] at hc1 hc2 hc3 hc4 hc5 hc6; omega) | (simp only [List.flatten_cons, List.flatten_nil, List.length_append, List.length_cons, List.length_nil, textB_length, four_length]; omega)))⟩
                      · skip
                        intro lab527 w528 a529 hv530 s531 f532 hl533
                        obtain ⟨v534, e535, q536⟩ := hl533 26 (by decide) 134 rfl
                        replace q536 : (BytesV (List.flatten ([[(69 : UInt8), UInt8.ofNat (re.kind).toNat, UInt8.ofNat (re.author).toNat], four re.epoch, [UInt8.ofNat (re.mode).toNat, UInt8.ofNat (re.peer).toNat, UInt8.ofNat (re.phase).toNat], if tooMany (numsB re.nums) 128 then [] else listB (numsB re.nums) 128, if tooMany re.texts 1024 then [] else listB re.texts 1024, textB re.proof]))) lab527 w528 v534 := q536
                        obtain ⟨A537, c538, rfl⟩ := BytesV.shape q536
                        have z539 := BytesV.cap q536
                        have f540 := f532.ext e535
                        refine Seq.start (m := 27) f540 ?_
                        refine Seq.val (Does.assign rfl) (by decide) ?_
                        refine Seq.go (fun _ _ h => h) ?_
                        refine Run.seq ?_
                        refine Run.region ?_
                        refine Seq.val (Does.move rfl) (by decide) ?_
                        refine Seq.val (Does.move rfl) (by decide) ?_
                        refine Seq.val (Does.len Try.underlying22 rfl) (by decide) ?_
                        refine Seq.val (Does.leq rfl rfl) (by decide) ?_
                        refine Seq.val (Does.assign rfl) (by decide) ?_
                        refine Seq.val (Does.assign rfl) (by decide) ?_
                        refine Seq.go (fun _ _ h => h) ?_
                        have c541 := s164.trans s531
                        have c542 := c160.trans c541
                        obtain ⟨zU, zo⟩ := c542.out (by decide) hv
                        refine Run.ret ?_
                        exact post_two Try.results26 rfl rfl ⟨_, rfl, ⟨_, _, rfl, (BytesV.cast (show (List.flatten ([[(69 : UInt8), UInt8.ofNat (re.kind).toNat, UInt8.ofNat (re.author).toNat], four re.epoch, [UInt8.ofNat (re.mode).toNat, UInt8.ofNat (re.peer).toNat, UInt8.ofNat (re.phase).toNat], if tooMany (numsB re.nums) 128 then [] else listB (numsB re.nums) 128, if tooMany re.texts 1024 then [] else listB re.texts 1024, textB re.proof])) = (if re.bad then [] else re.all) from by first | rfl | (exact RentryD.final (show re.out = false from by (unfold RentryD.out; simp [out_] at hc1 hc2 hc3 hc4 hc5 hc6 ⊢; omega)) (uses_all (k := k) (by omega) hno) hc9 hc10; done) | (rw [RentryD.final (show re.out = false from by (unfold RentryD.out; simp [out_] at hc1 hc2 hc3 hc4 hc5 hc6 ⊢; omega)) (uses_all (k := k) (by omega) hno) hc9 hc10, RentryD.bad_no (show re.out = false from by (unfold RentryD.out; simp [out_] at hc1 hc2 hc3 hc4 hc5 hc6 ⊢; omega)) (uses_all (k := k) (by omega) hno) hc9 hc10]; simp; done) | (rw [if_pos (RentryD.bad_out (show re.out = true from by (unfold RentryD.out; simp [out_] at *; omega)))]; done) | (rw [RentryD.bad_out (show re.out = true from by (unfold RentryD.out; simp [out_] at *; omega))]; rfl; done) | (rw [if_pos (RentryD.bad_uses (uses_at (by omega) hc9 hc10))]; done) | (rw [RentryD.bad_uses (uses_at (by omega) hc9 hc10)]; rfl; done) | (rw [if_pos (RentryD.bad_nums hc9)]; done) | (rw [RentryD.bad_nums hc9]; rfl; done) | (rw [if_pos (RentryD.bad_texts hc10)]; done) | (rw [RentryD.bad_texts hc10]; rfl; done) | (simp_all; done) | omega) ((BytesV.pers _).step zo q536)), (isBool (show ((decide ((((List.length (List.flatten ([[(69 : UInt8), UInt8.ofNat (re.kind).toNat, UInt8.ofNat (re.author).toNat], four re.epoch, [UInt8.ofNat (re.mode).toNat, UInt8.ofNat (re.peer).toNat, UInt8.ofNat (re.phase).toNat], if tooMany (numsB re.nums) 128 then [] else listB (numsB re.nums) 128, if tooMany re.texts 1024 then [] else listB re.texts 1024, textB re.proof])) : Nat) : Int) : Int) ≤ (4096 : Int))) : Bool) = (!re.bad && decide (((List.length (if re.bad then [] else re.all) : Nat) : Int) ≤ 4096)) from by first | rfl | (exact RentryD.final (show re.out = false from by (unfold RentryD.out; simp [out_] at hc1 hc2 hc3 hc4 hc5 hc6 ⊢; omega)) (uses_all (k := k) (by omega) hno) hc9 hc10; done) | (rw [RentryD.final (show re.out = false from by (unfold RentryD.out; simp [out_] at hc1 hc2 hc3 hc4 hc5 hc6 ⊢; omega)) (uses_all (k := k) (by omega) hno) hc9 hc10, RentryD.bad_no (show re.out = false from by (unfold RentryD.out; simp [out_] at hc1 hc2 hc3 hc4 hc5 hc6 ⊢; omega)) (uses_all (k := k) (by omega) hno) hc9 hc10]; simp; done) | (rw [if_pos (RentryD.bad_out (show re.out = true from by (unfold RentryD.out; simp [out_] at *; omega)))]; done) | (rw [RentryD.bad_out (show re.out = true from by (unfold RentryD.out; simp [out_] at *; omega))]; rfl; done) | (rw [if_pos (RentryD.bad_uses (uses_at (by omega) hc9 hc10))]; done) | (rw [RentryD.bad_uses (uses_at (by omega) hc9 hc10)]; rfl; done) | (rw [if_pos (RentryD.bad_nums hc9)]; done) | (rw [RentryD.bad_nums hc9]; rfl; done) | (rw [if_pos (RentryD.bad_texts hc10)]; done) | (rw [RentryD.bad_texts hc10]; rfl; done) | (simp_all; done) | omega) _ _)⟩, c542.leave (by decide)⟩

end Go.Proofs.Ytgfomedobfaidaa
