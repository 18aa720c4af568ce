/-
  The walks of some functions: what each call comes to.
-/
import Derived.Test.YtgfomedobfaidaaEntry
import Derived.Test.YtgfomedobfaidaaNum
import Derived.Test.YtgfomedobfaidaaWnum
set_option linter.unusedVariables false
set_option linter.unusedSimpArgs false
set_option maxRecDepth 100000
namespace Go.Proofs.Ytgfomedobfaidaa
open Go.RowKit

theorem law17_few {lab : Lab} {w : World} (hv : Valid lab w) {pl : PlainD} {v0 : Value} (h0 : PlainV pl lab w v0) :
    Calls Try.prog 23 #[v0] w (fun e w' => ∃ v, e = .returned v ∧ (Is (.bool pl.few)) lab w' v ∧ Below w.heap.size w w') := by
  have hv0 := hv.ent
  obtain ⟨zU0, z00⟩ := ent_step lab w
  replace h0 := (PlainV.pers _).step z00 h0
  obtain ⟨A1, c2, A4, c5, A7, c8, rfl, q3, q6, q9⟩ := PlainV.open h0
  have z10 := RowsV.cap q3
  have z11 := RowsV.cap q6
  have z12 := BytesV.cap q9
  refine calls_run Try.func23 rfl Try.ntmps23 (Nat.le_of_ble_eq_true rfl) ?_
  refine Run.seq ?_
  refine Run.region ?_
  refine Seq.box (k := 2) [i64 pl.kind, i64 pl.author, i64 pl.epoch, i64 pl.mode, i64 pl.peer, i64 pl.phase, .slice A1 (List.length pl.nums) c2, .slice A4 (List.length pl.texts) c5, .slice A7 (List.length pl.proof) c8] hv0 rfl rfl (by decide) ?_
  intro lab13 w14 b15 o16 s17 hv18
  refine Seq.val (Does.assign rfl) (by decide) ?_
  refine Seq.go (fun _ _ h => h) ?_
  refine Run.seq ?_
  refine Run.seq ?_
  refine Run.region ?_
  refine Seq.val (Does.fieldAddr' 6 Try.underlying36 rfl ty34 rfl rfl) (by decide) ?_
  refine Seq.val (Does.load_own1 o16 ty34 rfl rfl) (by decide) ?_
  refine Seq.val (Does.len Try.underlying34 rfl) (by decide) ?_
  refine Seq.val (Does.gtr rfl rfl) (by decide) ?_
  refine Seq.val (Does.move rfl) (by decide) ?_
  rcases bdich (decide ((100 : Int) < (((List.length pl.nums : Nat) : Int) : Int))) with hc1 | hc1
  · skip
    have hp1 := of_decide_eq_true hc1
    refine Seq.guard_off' rfl rfl hc1 rfl (by decide) ?_
    refine Seq.guard_off' rfl rfl hc1 rfl (by decide) ?_
    refine Seq.guard_off' rfl rfl hc1 rfl (by decide) ?_
    refine Seq.guard_off' rfl rfl hc1 rfl (by decide) ?_
    refine Seq.val (Does.pick_b rfl hc1 rfl) (by decide) ?_
    refine Seq.val (Does.move rfl) (by decide) ?_
    refine Seq.guard_off' rfl rfl rfl rfl (by decide) ?_
    refine Seq.guard_off' rfl rfl rfl rfl (by decide) ?_
    refine Seq.guard_off' rfl rfl rfl rfl (by decide) ?_
    refine Seq.guard_off' rfl rfl rfl rfl (by decide) ?_
    refine Seq.val (Does.pick_t rfl rfl) (by decide) ?_
    refine Seq.go (fun _ _ h => h) ?_
    refine Run.cond_b rfl rfl ?_
    refine Run.seq ?_
    refine Run.region ?_
    refine Seq.val (Does.assign rfl) (by decide) ?_
    refine Seq.go (fun _ _ h => h) ?_
    obtain ⟨zU, zo⟩ := s17.out (by decide) hv
    refine Run.ret (ret_then ?_)
    exact post_one Try.results23 rfl ⟨_, rfl, (isBool (show (false : Bool) = pl.few from by first | rfl | (exact few_a hp1; done) | (exact few_b hp2; done) | (exact few_c hp3; done) | (exact few_d (k + 1) (by rw [← fewS_succ (by omega)]; exact hp5); done) | (exact few_e hp1 hp2 hp3 (k := k) (by omega) hle; done) | (simp_all; done) | omega) _ _), s17.leave (by decide)⟩
  · skip
    have hp1 := of_decide_eq_false hc1
    refine Seq.guard_on' rfl rfl hc1 ?_
    refine Seq.val (Does.fieldAddr' 7 Try.underlying36 rfl ty34 rfl rfl) (by decide) ?_
    refine Seq.guard_on' rfl rfl hc1 ?_
    refine Seq.val (Does.load_own1 o16 ty34 rfl rfl) (by decide) ?_
    refine Seq.guard_on' rfl rfl hc1 ?_
    refine Seq.val (Does.len Try.underlying34 rfl) (by decide) ?_
    refine Seq.guard_on' rfl rfl hc1 ?_
    refine Seq.val (Does.gtr rfl rfl) (by decide) ?_
    refine Seq.val (Does.pick_b rfl hc1 rfl) (by decide) ?_
    refine Seq.val (Does.move rfl) (by decide) ?_
    rcases bdich (decide ((100 : Int) < (((List.length pl.texts : Nat) : Int) : Int))) with hc2 | hc2
    · skip
      have hp2 := of_decide_eq_true hc2
      refine Seq.guard_off' rfl rfl hc2 rfl (by decide) ?_
      refine Seq.guard_off' rfl rfl hc2 rfl (by decide) ?_
      refine Seq.guard_off' rfl rfl hc2 rfl (by decide) ?_
      refine Seq.guard_off' rfl rfl hc2 rfl (by decide) ?_
      refine Seq.val (Does.pick_b rfl hc2 rfl) (by decide) ?_
      refine Seq.go (fun _ _ h => h) ?_
      refine Run.cond_b rfl rfl ?_
      refine Run.seq ?_
      refine Run.region ?_
      refine Seq.val (Does.assign rfl) (by decide) ?_
      refine Seq.go (fun _ _ h => h) ?_
      obtain ⟨zU, zo⟩ := s17.out (by decide) hv
      refine Run.ret (ret_then ?_)
      exact post_one Try.results23 rfl ⟨_, rfl, (isBool (show (false : Bool) = pl.few from by first | rfl | (exact few_a hp1; done) | (exact few_b hp2; done) | (exact few_c hp3; done) | (exact few_d (k + 1) (by rw [← fewS_succ (by omega)]; exact hp5); done) | (exact few_e hp1 hp2 hp3 (k := k) (by omega) hle; done) | (simp_all; done) | omega) _ _), s17.leave (by decide)⟩
    · skip
      have hp2 := of_decide_eq_false hc2
      refine Seq.guard_on' rfl rfl hc2 ?_
      refine Seq.val (Does.fieldAddr' 8 Try.underlying36 rfl ty22 rfl rfl) (by decide) ?_
      refine Seq.guard_on' rfl rfl hc2 ?_
      refine Seq.val (Does.load_own1 o16 ty22 rfl rfl) (by decide) ?_
      refine Seq.guard_on' rfl rfl hc2 ?_
      refine Seq.val (Does.len Try.underlying22 rfl) (by decide) ?_
      refine Seq.guard_on' rfl rfl hc2 ?_
      refine Seq.val (Does.gtr rfl rfl) (by decide) ?_
      refine Seq.val (Does.pick_b rfl hc2 rfl) (by decide) ?_
      refine Seq.go (fun _ _ h => h) ?_
      rcases bdich (decide ((2000 : Int) < (((List.length pl.proof : Nat) : Int) : Int))) with hc3 | hc3
      · skip
        have hp3 := of_decide_eq_true hc3
        refine Run.cond_b rfl hc3 ?_
        refine Run.seq ?_
        refine Run.region ?_
        refine Seq.val (Does.assign rfl) (by decide) ?_
        refine Seq.go (fun _ _ h => h) ?_
        obtain ⟨zU, zo⟩ := s17.out (by decide) hv
        refine Run.ret (ret_then ?_)
        exact post_one Try.results23 rfl ⟨_, rfl, (isBool (show (false : Bool) = pl.few from by first | rfl | (exact few_a hp1; done) | (exact few_b hp2; done) | (exact few_c hp3; done) | (exact few_d (k + 1) (by rw [← fewS_succ (by omega)]; exact hp5); done) | (exact few_e hp1 hp2 hp3 (k := k) (by omega) hle; done) | (simp_all; done) | omega) _ _), s17.leave (by decide)⟩
      · skip
        have hp3 := of_decide_eq_false hc3
        refine Run.cond_b rfl hc3 ?_
        refine Run.skip_go (fun _ _ h => h) ?_
        refine Run.seq ?_
        refine Run.region ?_
        refine Seq.val (Does.assign rfl) (by decide) ?_
        refine Seq.go (fun _ _ h => h) ?_
        refine Run.seq ?_
        refine Run.seq ?_
        refine Run.region ?_
        refine Seq.val (Does.fieldAddr' 7 Try.underlying36 rfl ty34 rfl rfl) (by decide) ?_
        refine Seq.val (Does.load_own1 o16 ty34 rfl rfl) (by decide) ?_
        refine Seq.val (Does.len Try.underlying34 rfl) (by decide) ?_
        refine Seq.val (Does.move rfl) (by decide) ?_
        refine Seq.go (fun _ _ h => h) ?_
        refine Run.block ?_
        refine Run.loop (fun m' l' w' => ∃ (k : Nat) (lab' : Lab), m' = List.length pl.texts - k ∧ l' = [(25, i64 ((k : Nat) : Int)), (3, i64 (fewS (List.take k pl.texts))), (0, .agg #[i64 pl.kind, i64 pl.author, i64 pl.epoch, i64 pl.mode, i64 pl.peer, i64 pl.phase, .slice A1 (List.length pl.nums) c2, .slice A4 (List.length pl.texts) c5, .slice A7 (List.length pl.proof) c8]), (1, .pointer (some ⟨b15, 0, none⟩)), (6, .pointer (some ⟨b15, 6, none⟩)), (7, .slice A1 (List.length pl.nums) c2), (8, i64 ((List.length pl.nums : Nat) : Int)), (9, .bool (decide ((100 : Int) < (((List.length pl.nums : Nat) : Int) : Int)))), (10, .bool (decide ((100 : Int) < (((List.length pl.nums : Nat) : Int) : Int)))), (11, .pointer (some ⟨b15, 7, none⟩)), (12, .slice A4 (List.length pl.texts) c5), (13, i64 ((List.length pl.texts : Nat) : Int)), (14, .bool (decide ((100 : Int) < (((List.length pl.texts : Nat) : Int) : Int)))), (15, .bool (decide ((100 : Int) < (((List.length pl.texts : Nat) : Int) : Int)))), (16, .bool (decide ((100 : Int) < (((List.length pl.texts : Nat) : Int) : Int)))), (17, .pointer (some ⟨b15, 8, none⟩)), (18, .slice A7 (List.length pl.proof) c8), (19, i64 ((List.length pl.proof : Nat) : Int)), (20, .bool (decide ((2000 : Int) < (((List.length pl.proof : Nat) : Int) : Int)))), (21, .bool (decide ((2000 : Int) < (((List.length pl.proof : Nat) : Int) : Int)))), (22, .pointer (some ⟨b15, 7, none⟩)), (23, .slice A4 (List.length pl.texts) c5), (24, i64 ((List.length pl.texts : Nat) : Int))] ∧ Valid lab' w' ∧ Stp [] lab13 w14 lab' w' ∧ (k ≤ List.length pl.texts) ∧ (fewS (List.take k pl.texts) ≤ 9000)) (List.length pl.texts - 0) (l0 := [(25, i64 ((0 : Nat) : Int)), (3, i64 (fewS (List.take 0 pl.texts))), (0, .agg #[i64 pl.kind, i64 pl.author, i64 pl.epoch, i64 pl.mode, i64 pl.peer, i64 pl.phase, .slice A1 (List.length pl.nums) c2, .slice A4 (List.length pl.texts) c5, .slice A7 (List.length pl.proof) c8]), (1, .pointer (some ⟨b15, 0, none⟩)), (6, .pointer (some ⟨b15, 6, none⟩)), (7, .slice A1 (List.length pl.nums) c2), (8, i64 ((List.length pl.nums : Nat) : Int)), (9, .bool (decide ((100 : Int) < (((List.length pl.nums : Nat) : Int) : Int)))), (10, .bool (decide ((100 : Int) < (((List.length pl.nums : Nat) : Int) : Int)))), (11, .pointer (some ⟨b15, 7, none⟩)), (12, .slice A4 (List.length pl.texts) c5), (13, i64 ((List.length pl.texts : Nat) : Int)), (14, .bool (decide ((100 : Int) < (((List.length pl.texts : Nat) : Int) : Int)))), (15, .bool (decide ((100 : Int) < (((List.length pl.texts : Nat) : Int) : Int)))), (16, .bool (decide ((100 : Int) < (((List.length pl.texts : Nat) : Int) : Int)))), (17, .pointer (some ⟨b15, 8, none⟩)), (18, .slice A7 (List.length pl.proof) c8), (19, i64 ((List.length pl.proof : Nat) : Int)), (20, .bool (decide ((2000 : Int) < (((List.length pl.proof : Nat) : Int) : Int)))), (21, .bool (decide ((2000 : Int) < (((List.length pl.proof : Nat) : Int) : Int)))), (22, .pointer (some ⟨b15, 7, none⟩)), (23, .slice A4 (List.length pl.texts) c5), (24, i64 ((List.length pl.texts : Nat) : Int))]) ⟨(congrArg (fun z => some (i64 z)) (show (0 : Int) = ((0 : Nat) : Int) from by first | rfl | omega | (exact fewS_succ (by omega)) | (simp [fewS]; done))), (congrArg (fun z => some (i64 z)) (show (0 : Int) = fewS (List.take 0 pl.texts) from by first | rfl | omega | (exact fewS_succ (by omega)) | (simp [fewS]; done))), rfl, rfl, rfl, rfl, rfl, rfl, rfl, rfl, rfl, rfl, rfl, rfl, rfl, rfl, rfl, rfl, rfl, rfl, rfl, rfl, rfl, trivial⟩ ⟨0, lab13, rfl, rfl, hv18, ((Stp.refl _ _).more (by simp)), (by first | omega | (rw [← fewS_succ (by omega)]; omega) | (simp [fewS]; done)), (by first | omega | (rw [← fewS_succ (by omega)]; omega) | (simp [fewS]; done))⟩ ?_
        intro m19 l20 w21 H22
        obtain ⟨k, lab23, hzm, rfl, hv24, s25, hk, hle⟩ := H22
        replace hzm := hzm.symm; subst hzm
        have hz0 := fewS_nonneg (List.take k pl.texts)
        refine Run.seq ?_
        refine Run.region ?_
        refine Seq.val (Does.lss rfl rfl) (by decide) ?_
        refine Seq.go (fun _ _ h => h) ?_
        refine Run.seq ?_
        rcases bdich (decide ((((k : Nat) : Int) : Int) < (((List.length pl.texts : Nat) : Int) : Int))) with hc4 | hc4
        · skip
          have hp4 := of_decide_eq_true hc4
          refine Run.cond_b rfl hc4 ?_
          refine Run.skip_go (fun _ _ h => h) ?_
          refine Run.seq ?_
          refine Run.block ?_
          refine Run.seq ?_
          refine Run.region ?_
          have c33 := s17.trans s25
          have q32 := (RowsV.pers _).step c33 q6
          obtain ⟨vs26, u27, m28, r29, q30, q31⟩ := RowsV.at_ q32 k (by first | omega | (simp; omega))
          obtain ⟨A34, c35, rfl⟩ := BytesV.shape q31
          have z36 := BytesV.cap q31
          refine Seq.val (Does.index_row k Try.underlying34 ty22 rfl rfl r29 m28 (by first | omega | (simp; omega)) (by first | omega | (simp; omega))) (by decide) ?_
          refine Seq.val (Does.load_row ty22 rfl r29 q30) (by decide) ?_
          refine Seq.val (Does.assign rfl) (by decide) ?_
          refine Seq.go (fun _ _ h => h) ?_
          refine Run.seq ?_
          refine Run.region ?_
          refine Seq.val (Does.move rfl) (by decide) ?_
          refine Seq.val (Does.move rfl) (by decide) ?_
          refine Seq.val (Does.len Try.underlying22 rfl) (by decide) ?_
          refine Seq.val (Does.min_ rfl rfl) (by decide) ?_
          refine Seq.val (Does.add rfl rfl (by first | omega | (simp; omega))) (by decide) ?_
          refine Seq.val (Does.assign rfl) (by decide) ?_
          refine Seq.go (fun _ _ h => h) ?_
          refine Run.seq ?_
          refine Run.region ?_
          refine Seq.val (Does.move rfl) (by decide) ?_
          refine Seq.val (Does.gtr rfl rfl) (by decide) ?_
          refine Seq.go (fun _ _ h => h) ?_
          rcases bdich (decide ((9000 : Int) < ((fewS (List.take k pl.texts)) + (min ((List.length (List.getD pl.texts k []) : Nat) : Int) (3000 : Int)) : Int))) with hc5 | hc5
          · skip
            have hp5 := of_decide_eq_true hc5
            refine Run.cond_b rfl hc5 ?_
            refine Run.seq ?_
            refine Run.region ?_
            refine Seq.val (Does.assign rfl) (by decide) ?_
            refine Seq.go (fun _ _ h => h) ?_
            obtain ⟨zU, zo⟩ := c33.out (by decide) hv
            refine Run.ret (ret_block (ret_then (ret_then (ret_block (ret_then ?_)))))
            exact post_one Try.results23 rfl ⟨_, rfl, (isBool (show (false : Bool) = pl.few from by first | rfl | (exact few_a hp1; done) | (exact few_b hp2; done) | (exact few_c hp3; done) | (exact few_d (k + 1) (by rw [← fewS_succ (by omega)]; exact hp5); done) | (exact few_e hp1 hp2 hp3 (k := k) (by omega) hle; done) | (simp_all; done) | omega) _ _), c33.leave (by decide)⟩
          · skip
            have hp5 := of_decide_eq_false hc5
            refine Run.cond_b rfl hc5 ?_
            refine Run.skip_go (fun _ _ h => h) ?_
            refine Run.region ?_
            refine Seq.val (Does.add rfl rfl (by first | omega | (simp; omega))) (by decide) ?_
            refine Seq.val (Does.move rfl) (by decide) ?_
            exact Seq.nil (fun a37 h38 => ⟨_, by omega, _, h38.weaken (subs_lk (l' := [(25, i64 (((k + 1) : Nat) : Int)), (3, i64 (fewS (List.take (k + 1) pl.texts))), (0, .agg #[i64 pl.kind, i64 pl.author, i64 pl.epoch, i64 pl.mode, i64 pl.peer, i64 pl.phase, .slice A1 (List.length pl.nums) c2, .slice A4 (List.length pl.texts) c5, .slice A7 (List.length pl.proof) c8]), (1, .pointer (some ⟨b15, 0, none⟩)), (6, .pointer (some ⟨b15, 6, none⟩)), (7, .slice A1 (List.length pl.nums) c2), (8, i64 ((List.length pl.nums : Nat) : Int)), (9, .bool (decide ((100 : Int) < (((List.length pl.nums : Nat) : Int) : Int)))), (10, .bool (decide ((100 : Int) < (((List.length pl.nums : Nat) : Int) : Int)))), (11, .pointer (some ⟨b15, 7, none⟩)), (12, .slice A4 (List.length pl.texts) c5), (13, i64 ((List.length pl.texts : Nat) : Int)), (14, .bool (decide ((100 : Int) < (((List.length pl.texts : Nat) : Int) : Int)))), (15, .bool (decide ((100 : Int) < (((List.length pl.texts : Nat) : Int) : Int)))), (16, .bool (decide ((100 : Int) < (((List.length pl.texts : Nat) : Int) : Int)))), (17, .pointer (some ⟨b15, 8, none⟩)), (18, .slice A7 (List.length pl.proof) c8), (19, i64 ((List.length pl.proof : Nat) : Int)), (20, .bool (decide ((2000 : Int) < (((List.length pl.proof : Nat) : Int) : Int)))), (21, .bool (decide ((2000 : Int) < (((List.length pl.proof : Nat) : Int) : Int)))), (22, .pointer (some ⟨b15, 7, none⟩)), (23, .slice A4 (List.length pl.texts) c5), (24, i64 ((List.length pl.texts : Nat) : Int))]) ⟨(congrArg (fun z => some (i64 z)) (show (((k : Nat) : Int) + 1 : Int) = (((k + 1) : Nat) : Int) from by first | rfl | omega | (exact fewS_succ (by omega)) | (simp [fewS]; done))), (congrArg (fun z => some (i64 z)) (show ((fewS (List.take k pl.texts)) + (min ((List.length (List.getD pl.texts k []) : Nat) : Int) (3000 : Int)) : Int) = fewS (List.take (k + 1) pl.texts) from by first | rfl | omega | (exact fewS_succ (by omega)) | (simp [fewS]; done))), rfl, rfl, rfl, rfl, rfl, rfl, rfl, rfl, rfl, rfl, rfl, rfl, rfl, rfl, rfl, rfl, rfl, rfl, rfl, rfl, rfl, trivial⟩), ⟨k + 1, lab23, rfl, rfl, hv24, (s25.more (by decide)), (by first | omega | (rw [← fewS_succ (by omega)]; omega) | (simp [fewS]; done)), (by first | omega | (rw [← fewS_succ (by omega)]; omega) | (simp [fewS]; done))⟩⟩)
        · skip
          have hp4 := of_decide_eq_false hc4
          refine Run.cond_b rfl hc4 ?_
          refine Run.exit_go (fun _ _ h => h) ?_
          refine Run.seq ?_
          refine Run.region ?_
          refine Seq.val (Does.assign rfl) (by decide) ?_
          refine Seq.go (fun _ _ h => h) ?_
          have c39 := s17.trans s25
          obtain ⟨zU, zo⟩ := c39.out (by decide) hv
          refine Run.ret ?_
          exact post_one Try.results23 rfl ⟨_, rfl, (isBool (show (true : Bool) = pl.few from by first | rfl | (exact few_a hp1; done) | (exact few_b hp2; done) | (exact few_c hp3; done) | (exact few_d (k + 1) (by rw [← fewS_succ (by omega)]; exact hp5); done) | (exact few_e hp1 hp2 hp3 (k := k) (by omega) hle; done) | (simp_all; done) | omega) _ _), c39.leave (by decide)⟩

end Go.Proofs.Ytgfomedobfaidaa
