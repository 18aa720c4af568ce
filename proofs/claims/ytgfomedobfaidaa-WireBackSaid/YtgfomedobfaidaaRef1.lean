/-
  The walks of some functions: what each call comes to.
-/
import Derived.Test.YtgfomedobfaidaaBool
import Derived.Test.YtgfomedobfaidaaTab
set_option linter.unusedVariables false
set_option linter.unusedSimpArgs false
set_option maxRecDepth 100000
namespace Go.Proofs.Ytgfomedobfaidaa
open Go.RowKit

theorem ref01_Trim {lab : Lab} {w : World} (hv : Valid lab w) {n : List Bool} {v0 : Value} (h0 : BitsV n lab w v0) :
    Calls Try.prog 165 #[v0] w (fun e w' => ∃ v, e = .returned v ∧ (BitsV (bitsOf (bval n))) lab w' v ∧ Below w.heap.size w w') := by
  have hv0 := hv.ent
  obtain ⟨zU0, z00⟩ := ent_step lab w
  replace h0 := (BitsV.pers _).step z00 h0
  obtain ⟨A1, c2, rfl⟩ := BitsV.shape h0
  have z3 := BitsV.cap h0
  refine calls_run Try.func165 rfl Try.ntmps165 (Nat.le_of_ble_eq_true rfl) ?_
  refine Run.seq ?_
  refine Run.region ?_
  refine Seq.val (Does.assign rfl) (by decide) ?_
  refine Seq.go (fun _ _ h => h) ?_
  refine Run.seq ?_
  refine Run.block ?_
  refine Run.loop (fun m' l' w' => ∃ (k : Nat) (lab' : Lab) (ur0 : Value), m' = k ∧ l' = [(0, ur0), (2, .slice none 0 0)] ∧ Valid lab' w' ∧ Stp [] (ent lab) w lab' w' ∧ (BitsV (List.take k n)) lab' w' ur0 ∧ (k ≤ List.length n) ∧ (bval (List.take k n) = bval n)) ((List.length n)) (l0 := [(0, .slice A1 (List.length n) c2), (2, .slice none 0 0)]) ⟨rfl, rfl, trivial⟩ ⟨List.length n, (ent lab), (.slice A1 (List.length n) c2), rfl, rfl, hv0, ((Stp.refl _ _).more (by simp)), (BitsV.cast (show n = (List.take (List.length n) n) from by first | rfl | (simp; done) | (rw [List.take_take]; congr 1; omega)) h0), (by first | omega | (simp; done) | (have e := bval_take_false (ws := n) (k := k - 1) (by omega) (by simpa [List.getD, List.getElem?_take_of_lt, show k - 1 < k by omega] using hc2); rw [show k - 1 + 1 = k by omega] at e; rw [← e]; exact hw)), (by first | omega | (simp; done) | (have e := bval_take_false (ws := n) (k := k - 1) (by omega) (by simpa [List.getD, List.getElem?_take_of_lt, show k - 1 < k by omega] using hc2); rw [show k - 1 + 1 = k by omega] at e; rw [← e]; exact hw))⟩ ?_
  intro m4 l5 w6 H7
  obtain ⟨k, lab8, v11, hzm, rfl, hv9, s10, q12, hk, hw⟩ := H7
  replace hzm := hzm.symm; subst hzm
  obtain ⟨A13, c14, rfl⟩ := BitsV.shapeN q12 (n := k) (by rw [List.length_take]; omega)
  have z15 := BitsV.cap q12
  refine Run.seq ?_
  refine Run.seq ?_
  refine Run.region ?_
  refine Seq.val (Does.move rfl) (by decide) ?_
  refine Seq.val (Does.len Try.underlying79 rfl) (by decide) ?_
  refine Seq.val (Does.gtr rfl rfl) (by decide) ?_
  refine Seq.val (Does.move rfl) (by decide) ?_
  rcases bdich (decide ((0 : Int) < (((k : Nat) : Int) : Int))) with hc1 | hc1
  · skip
    have hp1 := of_decide_eq_true hc1
    refine Seq.guard_on' rfl rfl hc1 ?_
    refine Seq.val (Does.move rfl) (by decide) ?_
    refine Seq.guard_on' rfl rfl hc1 ?_
    refine Seq.val (Does.move rfl) (by decide) ?_
    refine Seq.guard_on' rfl rfl hc1 ?_
    refine Seq.val (Does.len Try.underlying79 rfl) (by decide) ?_
    refine Seq.guard_on' rfl rfl hc1 ?_
    refine Seq.val (Does.sub rfl rfl (by first | omega | (simp; omega) | (simp at *; omega))) (by decide) ?_
    refine Seq.guard_on' rfl rfl hc1 ?_
    refine Seq.val (Does.index_row ((((k : Nat) : Int) - 1).toNat) Try.underlying79 ty4 rfl rfl (BitsV.row q12) (by first | (simp [nw]; done) | (simp; omega)) (by first | omega | (simp; omega) | (simp at *; omega)) (by first | omega | (simp; omega) | (simp at *; omega))) (by decide) ?_
    refine Seq.guard_on' rfl rfl hc1 ?_
    refine Seq.val (Does.load_row ty4 rfl (BitsV.row q12) (map_get Value.bool _ false (by first | omega | (simp; omega) | (simp [nw] at *; omega)))) (by decide) ?_
    refine Seq.guard_on' rfl rfl hc1 ?_
    refine Seq.val (Does.not rfl) (by decide) ?_
    refine Seq.val (Does.pick_b rfl hc1 rfl) (by decide) ?_
    refine Seq.go (fun _ _ h => h) ?_
    rcases bdich (!(List.getD (List.take k n) ((((k : Nat) : Int) - 1).toNat) false)) with hc2 | hc2
    · skip
      refine Run.cond_b rfl hc2 ?_
      refine Run.skip_go (fun _ _ h => h) ?_
      refine Run.block ?_
      refine Run.region ?_
      refine Seq.val (Does.move rfl) (by decide) ?_
      refine Seq.val (Does.move rfl) (by decide) ?_
      refine Seq.val (Does.len Try.underlying79 rfl) (by decide) ?_
      refine Seq.val (Does.sub rfl rfl (by first | omega | (simp; omega) | (simp at *; omega))) (by decide) ?_
      have q16 := BitsV.takeN q12 ((((k : Nat) : Int) - 1).toNat) (by first | omega | (simp; omega) | (simp at *; omega))
      refine Seq.val (Does.slice_hi ((((k : Nat) : Int) - 1).toNat) Try.underlying79 ty4 rfl rfl (by first | omega | (simp; omega) | (simp at *; omega)) (by have := (BitsV.cap q12).2; first | omega | (simp; omega) | (simp at *; omega))) (by decide) ?_
      refine Seq.val (Does.assign rfl) (by decide) ?_
      exact Seq.nil (fun a17 h18 => ⟨_, by omega, _, h18.weaken (subs_lk (l' := [(0, .slice A13 ((((k : Nat) : Int) - 1).toNat) c14), (2, .slice none 0 0)]) ⟨rfl, rfl, trivial⟩), ⟨k - 1, lab8, (.slice A13 ((((k : Nat) : Int) - 1).toNat) c14), rfl, rfl, hv9, (s10.more (by decide)), (BitsV.cast (show (List.take ((((k : Nat) : Int) - 1).toNat) (List.take k n)) = (List.take (k - 1) n) from by first | rfl | (simp; done) | (rw [List.take_take]; congr 1; omega)) q16), (by first | omega | (simp; done) | (have e := bval_take_false (ws := n) (k := k - 1) (by omega) (by simpa [List.getD, List.getElem?_take_of_lt, show k - 1 < k by omega] using hc2); rw [show k - 1 + 1 = k by omega] at e; rw [← e]; exact hw)), (by first | omega | (simp; done) | (have e := bval_take_false (ws := n) (k := k - 1) (by omega) (by simpa [List.getD, List.getElem?_take_of_lt, show k - 1 < k by omega] using hc2); rw [show k - 1 + 1 = k by omega] at e; rw [← e]; exact hw))⟩⟩)
    · skip
      refine Run.cond_b rfl hc2 ?_
      refine Run.exit_go (fun _ _ h => h) ?_
      refine Run.seq ?_
      refine Run.region ?_
      refine Seq.val (Does.move rfl) (by decide) ?_
      refine Seq.val (Does.assign rfl) (by decide) ?_
      refine Seq.go (fun _ _ h => h) ?_
      obtain ⟨zU, zo⟩ := s10.out (by decide) hv
      refine Run.ret ?_
      exact post_one Try.results165 rfl ⟨_, rfl, (BitsV.cast (show (List.take k n) = (bitsOf (bval n)) from by first | rfl | (rw [← hw]; exact take_bits hk (by first | (left; omega) | (right; simpa [List.getD, List.getElem?_take_of_lt, show k - 1 < k by omega] using hc2)); done) | (simp_all; done) | omega) ((BitsV.pers _).step zo q12)), s10.leave (by decide)⟩
  · skip
    have hp1 := of_decide_eq_false hc1
    refine Seq.guard_off' rfl rfl hc1 rfl (by decide) ?_
    refine Seq.guard_off' rfl rfl hc1 rfl (by decide) ?_
    refine Seq.guard_off' rfl rfl hc1 rfl (by decide) ?_
    refine Seq.guard_off' rfl rfl hc1 rfl (by decide) ?_
    refine Seq.guard_off' rfl rfl hc1 rfl (by decide) ?_
    refine Seq.guard_off' rfl rfl hc1 rfl (by decide) ?_
    refine Seq.guard_off' rfl rfl hc1 rfl (by decide) ?_
    refine Seq.val (Does.pick_b rfl hc1 rfl) (by decide) ?_
    refine Seq.go (fun _ _ h => h) ?_
    refine Run.cond_b rfl rfl ?_
    refine Run.exit_go (fun _ _ h => h) ?_
    refine Run.seq ?_
    refine Run.region ?_
    refine Seq.val (Does.move rfl) (by decide) ?_
    refine Seq.val (Does.assign rfl) (by decide) ?_
    refine Seq.go (fun _ _ h => h) ?_
    obtain ⟨zU, zo⟩ := s10.out (by decide) hv
    refine Run.ret ?_
    exact post_one Try.results165 rfl ⟨_, rfl, (BitsV.cast (show (List.take k n) = (bitsOf (bval n)) from by first | rfl | (rw [← hw]; exact take_bits hk (by first | (left; omega) | (right; simpa [List.getD, List.getElem?_take_of_lt, show k - 1 < k by omega] using hc2)); done) | (simp_all; done) | omega) ((BitsV.pers _).step zo q12)), s10.leave (by decide)⟩

theorem ref01_Of {lab : Lab} {w : World} (hv : Valid lab w) {b : List UInt8} {v0 : Value} (h0 : BytesV b lab w v0) (hl : List.length b ≤ 1000000) :
    Calls Try.prog 123 #[v0] w (fun e w' => ∃ v, e = .returned v ∧ (BitsV (bitsOf (nv b))) lab w' v ∧ Below w.heap.size w w') := by
  have hv0 := hv.ent
  obtain ⟨zU0, z00⟩ := ent_step lab w
  replace h0 := (BytesV.pers _).step z00 h0
  obtain ⟨A1, c2, rfl⟩ := BytesV.shape h0
  have z3 := BytesV.cap h0
  refine calls_run Try.func123 rfl Try.ntmps123 (Nat.le_of_ble_eq_true rfl) ?_
  refine Run.seq ?_
  refine Run.region ?_
  refine Seq.val (Does.assign rfl) (by decide) ?_
  refine Seq.go (fun _ _ h => h) ?_
  refine Run.seq ?_
  refine Run.region ?_
  refine Seq.build_empty (k := 7) hv0 Try.underlying79 ty4 (by decide) ?_
  intro lab4 w5 v6 o7 s8 hv9
  obtain ⟨A10, c11, rfl⟩ := App.shape o7
  have z13 := (App.row o7).2
  refine Seq.val (Does.assign rfl) (by decide) ?_
  refine Seq.go (fun _ _ h => h) ?_
  refine Run.seq ?_
  refine Run.seq ?_
  refine Run.region ?_
  refine Seq.val (Does.move rfl) (by decide) ?_
  refine Seq.val (Does.len Try.underlying22 rfl) (by decide) ?_
  refine Seq.val (Does.sub rfl rfl (by first | omega | (simp; done) | (simp; omega))) (by decide) ?_
  refine Seq.val (Does.assign rfl) (by decide) ?_
  refine Seq.go (fun _ _ h => h) ?_
  refine Run.block ?_
  refine Run.loop (fun m' l' w' => ∃ (k : Nat) (lab' : Lab) (ux7 : Value), m' = List.length b - k ∧ l' = [(4, i64 (((List.length b : Nat) : Int) - 1 - ((k : Nat) : Int))), (3, ux7), (0, .slice A1 (List.length b) c2), (2, .slice none 0 0), (7, .slice A1 (List.length b) c2), (8, i64 ((List.length b : Nat) : Int)), (9, i64 (((List.length b : Nat) : Int) - 1))] ∧ Valid lab' w' ∧ Stp [7] lab4 w5 lab' w' ∧ App lab' w' 7 4 ux7 (8 * k) (List.map Value.bool (ob (nv b) (8 * k))) ∧ (k ≤ List.length b)) (List.length b - 0) (l0 := [(4, i64 (((List.length b : Nat) : Int) - 1 - ((0 : Nat) : Int))), (3, .slice A10 (0) c11), (0, .slice A1 (List.length b) c2), (2, .slice none 0 0), (7, .slice A1 (List.length b) c2), (8, i64 ((List.length b : Nat) : Int)), (9, i64 (((List.length b : Nat) : Int) - 1))]) ⟨(congrArg (fun z => some (i64 z)) (show (((List.length b : Nat) : Int) - 1 : Int) = ((List.length b : Nat) : Int) - 1 - ((0 : Nat) : Int) from by first | rfl | omega | (simp; done))), rfl, rfl, rfl, rfl, rfl, rfl, trivial⟩ ⟨0, lab4, (.slice A10 (0) c11), rfl, rfl, hv9, ((Stp.refl _ _).more (by simp)), (appCast (show [] = ob (nv b) (8 * 0) from by first | rfl | (rw [show 8 * k + j = 8 * (k + 1) by omega])) (show 0 = 8 * 0 from by first | rfl | omega | (simp; done)) o7), (by first | omega | (simp at *; omega))⟩ ?_
  intro m14 l15 w16 H17
  obtain ⟨k, lab18, v21, hzm, rfl, hv19, s20, o22, hk⟩ := H17
  replace hzm := hzm.symm; subst hzm
  obtain ⟨A23, c24, rfl⟩ := App.shape o22
  have m25 : List.length (ob (nv b) (8 * k)) = 8 * k := App.lenMap o22
  have z26 := (App.row o22).2
  refine Run.seq ?_
  refine Run.seq ?_
  refine Run.region ?_
  refine Seq.val (Does.move rfl) (by decide) ?_
  refine Seq.val (Does.geq rfl rfl) (by decide) ?_
  refine Seq.go (fun _ _ h => h) ?_
  rcases bdich (decide ((0 : Int) ≤ (((List.length b : Nat) : Int) - 1 - ((k : Nat) : Int) : Int))) with hc1 | hc1
  · skip
    have hp1 := of_decide_eq_true hc1
    refine Run.cond_b rfl hc1 ?_
    refine Run.skip_go (fun _ _ h => h) ?_
    refine Run.seq ?_
    refine Run.block ?_
    refine Run.seq ?_
    refine Run.region ?_
    refine Seq.val (Does.assign rfl) (by decide) ?_
    refine Seq.go (fun _ _ h => h) ?_
    refine Run.block ?_
    refine Run.loop (fun m' l' w' => ∃ (j : Nat) (lab' : Lab) (ux7 : Value), m' = 8 - j ∧ l' = [(5, i64 ((j : Nat) : Int)), (3, ux7), (0, .slice A1 (List.length b) c2), (2, .slice none 0 0), (7, .slice A1 (List.length b) c2), (8, i64 ((List.length b : Nat) : Int)), (9, i64 (((List.length b : Nat) : Int) - 1)), (4, i64 (((List.length b : Nat) : Int) - 1 - ((k : Nat) : Int))), (10, i64 (((List.length b : Nat) : Int) - 1 - ((k : Nat) : Int))), (11, .bool (decide ((0 : Int) ≤ (((List.length b : Nat) : Int) - 1 - ((k : Nat) : Int) : Int))))] ∧ Valid lab' w' ∧ Stp [7] lab18 w16 lab' w' ∧ App lab' w' 7 4 ux7 (8 * k + j) (List.map Value.bool (ob (nv b) (8 * k + j))) ∧ (j ≤ 8)) (8 - 0) (l0 := [(5, i64 ((0 : Nat) : Int)), (3, .slice A23 (8 * k) c24), (0, .slice A1 (List.length b) c2), (2, .slice none 0 0), (7, .slice A1 (List.length b) c2), (8, i64 ((List.length b : Nat) : Int)), (9, i64 (((List.length b : Nat) : Int) - 1)), (4, i64 (((List.length b : Nat) : Int) - 1 - ((k : Nat) : Int))), (10, i64 (((List.length b : Nat) : Int) - 1 - ((k : Nat) : Int))), (11, .bool (decide ((0 : Int) ≤ (((List.length b : Nat) : Int) - 1 - ((k : Nat) : Int) : Int))))]) ⟨(congrArg (fun z => some (i64 z)) (show (0 : Int) = ((0 : Nat) : Int) from by first | rfl | omega | (simp; done))), rfl, rfl, rfl, rfl, rfl, rfl, rfl, rfl, rfl, trivial⟩ ⟨0, lab18, (.slice A23 (8 * k) c24), rfl, rfl, hv19, ((Stp.refl _ _).more (by simp)), (appCast (show ob (nv b) (8 * k) = ob (nv b) (8 * k + 0) from by first | rfl | (rw [of_bit b (by omega) (by omega)]; exact ob_succ _ _) | (simp; done)) (show 8 * k = 8 * k + 0 from by first | rfl | omega | (simp; done)) o22), (by first | omega | (simp at *; omega))⟩ ?_
    intro m27 l28 w29 H30
    obtain ⟨j, lab31, v34, hzm, rfl, hv32, s33, o35, hj⟩ := H30
    replace hzm := hzm.symm; subst hzm
    obtain ⟨A36, c37, rfl⟩ := App.shape o35
    have m38 : List.length (ob (nv b) (8 * k + j)) = 8 * k + j := App.lenMap o35
    have z39 := (App.row o35).2
    refine Run.seq ?_
    refine Run.seq ?_
    refine Run.region ?_
    refine Seq.val (Does.move rfl) (by decide) ?_
    refine Seq.val (Does.lss rfl rfl) (by decide) ?_
    refine Seq.go (fun _ _ h => h) ?_
    rcases bdich (decide ((((j : Nat) : Int) : Int) < (8 : Int))) with hc2 | hc2
    · skip
      have hp2 := of_decide_eq_true hc2
      refine Run.cond_b rfl hc2 ?_
      refine Run.skip_go (fun _ _ h => h) ?_
      refine Run.seq ?_
      refine Run.block ?_
      refine Run.region ?_
      refine Seq.val (Does.move rfl) (by decide) ?_
      refine Seq.val (Does.move rfl) (by decide) ?_
      refine Seq.val (Does.move rfl) (by decide) ?_
      have c41 := s20.trans s33
      have c42 := s8.trans c41
      have q40 := (BytesV.pers _).step c42 h0
      refine Seq.val (Does.index_row ((((List.length b : Nat) : Int) - 1 - ((k : Nat) : Int)).toNat) Try.underlying22 ty5 rfl rfl (BytesV.row q40) (by first | (simp [nw]; done) | (simp; omega)) (by first | omega | (simp; done) | (simp; omega)) (by first | omega | (simp; done) | (simp; omega))) (by decide) ?_
      refine Seq.val (Does.load_row ty5 rfl (BytesV.row q40) (map_get u8 _ (0 : UInt8) (by first | omega | (simp at *; omega)))) (by decide) ?_
      refine Seq.val (Does.move rfl) (by decide) ?_
      refine Seq.val (Does.u8_shr rfl rfl (by first | omega | (simp; done) | (simp; omega)) (by first | omega | (simp; done) | (simp; omega))) (by decide) ?_
      refine Seq.val (Does.u8_rem (b := (2 : UInt8)) rfl rfl (by first | omega | (simp; done) | (simp; omega))) (by decide) ?_
      refine Seq.val (Does.eql rfl rfl) (by decide) ?_
      refine Seq.build_row [(0, .bool (decide (((((List.getD b ((((List.length b : Nat) : Int) - 1 - ((k : Nat) : Int)).toNat) (0 : UInt8)) >>> UInt8.ofNat j) % (2 : UInt8)).toNat : Int) = (1 : Int))))] (List.map Value.bool [decide (((((List.getD b ((((List.length b : Nat) : Int) - 1 - ((k : Nat) : Int)).toNat) (0 : UInt8)) >>> UInt8.ofNat j) % (2 : UInt8)).toNat : Int) = (1 : Int))]) hv32 Try.underlying79 ty4 (by decide) (by decide) rfl (by kernel_rfl) (by decide) ?_
      intro w43 b44 r45 s46 hv47
      have q48 : BitsV [decide (((((List.getD b ((((List.length b : Nat) : Int) - 1 - ((k : Nat) : Int)).toNat) (0 : UInt8)) >>> UInt8.ofNat j) % (2 : UInt8)).toNat : Int) = (1 : Int))] lab31 w43 (.slice (some ⟨b44, 0, none⟩) 1 1) := ⟨_, _, rfl, Nat.le_refl _, Nat.le_of_ble_eq_true rfl, r45⟩
      have o49 := o35.lift s46 (by decide)
      refine Seq.append (k := 7) (List.map Value.bool ([decide (((((List.getD b ((((List.length b : Nat) : Int) - 1 - ((k : Nat) : Int)).toNat) (0 : UInt8)) >>> UInt8.ofNat j) % (2 : UInt8)).toNat : Int) = (1 : Int))])) hv47 o49 Try.underlying79 ty4 rfl rfl rfl (by simp) (BitsV.row q48) oneCell_bl (by first | omega | (simp; done) | (simp; omega)) (by first | omega | (simp; done) | (simp; omega)) (by decide) ?_
      intro lab50 w51 v52 o53 s54 hv55
      rw [← List.map_append] at o53
      obtain ⟨A56, c57, rfl⟩ := App.shape o53
      have m58 : List.length (ob (nv b) (8 * k + j) ++ ([decide (((((List.getD b ((((List.length b : Nat) : Int) - 1 - ((k : Nat) : Int)).toNat) (0 : UInt8)) >>> UInt8.ofNat j) % (2 : UInt8)).toNat : Int) = (1 : Int))])) = 8 * k + j + 1 := App.lenMap o53
      have z59 := (App.row o53).2
      refine Seq.val (Does.assign rfl) (by decide) ?_
      refine Seq.go (fun _ _ h => h) ?_
      refine Run.region ?_
      refine Seq.val (Does.move rfl) (by decide) ?_
      refine Seq.val (Does.add rfl rfl (by first | omega | (simp; done) | (simp; omega))) (by decide) ?_
      refine Seq.val (Does.assign rfl) (by decide) ?_
      have c60 := s46.trans s54
      have c61 := s33.trans c60
      exact Seq.nil (fun a62 h63 => ⟨_, by omega, _, h63.weaken (subs_lk (l' := [(5, i64 (((j + 1) : Nat) : Int)), (3, .slice A56 (8 * k + j + 1) c57), (0, .slice A1 (List.length b) c2), (2, .slice none 0 0), (7, .slice A1 (List.length b) c2), (8, i64 ((List.length b : Nat) : Int)), (9, i64 (((List.length b : Nat) : Int) - 1)), (4, i64 (((List.length b : Nat) : Int) - 1 - ((k : Nat) : Int))), (10, i64 (((List.length b : Nat) : Int) - 1 - ((k : Nat) : Int))), (11, .bool (decide ((0 : Int) ≤ (((List.length b : Nat) : Int) - 1 - ((k : Nat) : Int) : Int))))]) ⟨(congrArg (fun z => some (i64 z)) (show (((j : Nat) : Int) + 1 : Int) = (((j + 1) : Nat) : Int) from by first | rfl | omega | (simp; done))), rfl, rfl, rfl, rfl, rfl, rfl, rfl, rfl, rfl, trivial⟩), ⟨j + 1, lab50, (.slice A56 (8 * k + j + 1) c57), rfl, rfl, hv55, (c61.more (by decide)), (appCast (show ob (nv b) (8 * k + j) ++ ([decide (((((List.getD b ((((List.length b : Nat) : Int) - 1 - ((k : Nat) : Int)).toNat) (0 : UInt8)) >>> UInt8.ofNat j) % (2 : UInt8)).toNat : Int) = (1 : Int))]) = ob (nv b) (8 * k + (j + 1)) from by first | rfl | (rw [of_bit b (by omega) (by omega)]; exact ob_succ _ _) | (simp; done)) (show 8 * k + j + 1 = 8 * k + (j + 1) from by first | rfl | omega | (simp; done)) o53), (by first | omega | (simp at *; omega))⟩⟩)
    · skip
      have hp2 := of_decide_eq_false hc2
      refine Run.cond_b rfl hc2 ?_
      refine Run.exit_go (fun _ _ h => h) ?_
      refine Run.region ?_
      refine Seq.val (Does.move rfl) (by decide) ?_
      refine Seq.val (Does.sub rfl rfl (by first | omega | (simp; done) | (simp; omega))) (by decide) ?_
      refine Seq.val (Does.assign rfl) (by decide) ?_
      have c64 := s20.trans s33
      exact Seq.nil (fun a65 h66 => ⟨_, by omega, _, h66.weaken (subs_lk (l' := [(4, i64 (((List.length b : Nat) : Int) - 1 - (((k + 1) : Nat) : Int))), (3, .slice A36 (8 * k + j) c37), (0, .slice A1 (List.length b) c2), (2, .slice none 0 0), (7, .slice A1 (List.length b) c2), (8, i64 ((List.length b : Nat) : Int)), (9, i64 (((List.length b : Nat) : Int) - 1))]) ⟨(congrArg (fun z => some (i64 z)) (show ((((List.length b : Nat) : Int) - 1 - ((k : Nat) : Int)) - 1 : Int) = ((List.length b : Nat) : Int) - 1 - (((k + 1) : Nat) : Int) from by first | rfl | omega | (simp; done))), rfl, rfl, rfl, rfl, rfl, rfl, trivial⟩), ⟨k + 1, lab31, (.slice A36 (8 * k + j) c37), rfl, rfl, hv32, (c64.more (by decide)), (appCast (show ob (nv b) (8 * k + j) = ob (nv b) (8 * (k + 1)) from by first | rfl | (rw [show 8 * k + j = 8 * (k + 1) by omega])) (show 8 * k + j = 8 * (k + 1) from by first | rfl | omega | (simp; done)) o35), (by first | omega | (simp at *; omega))⟩⟩)
  · skip
    have hp1 := of_decide_eq_false hc1
    refine Run.cond_b rfl hc1 ?_
    refine Run.exit_go (fun _ _ h => h) ?_
    refine Run.seq ?_
    refine Run.region ?_
    refine Seq.val (Does.move rfl) (by decide) ?_
    have hv67 := Valid.release hv19 7
    have m69 : List.length (ob (nv b) (8 * k)) = 8 * k := App.lenMap o22
    have q68 : BitsV (ob (nv b) (8 * k)) (labFree lab18 7) w16 (.slice A23 (8 * k) c24) := ⟨_, _, (by first | (rw [m69]; done) | rw [← m69]), (by have h9 := (App.row o22).2.1; first | (rw [m69]; exact h9) | (rw [← m69] at h9; exact h9)), (App.row o22).2.2, (App.row o22).1⟩
    refine Seq.callS (V := BitsV (bitsOf (bval (ob (nv b) (8 * k))))) cal165 hv67 rfl (by decide) (ref01_Trim hv67 q68) ?_
    intro v70 w71 q72 s73 hv74
    obtain ⟨A75, c76, rfl⟩ := BitsV.shape q72
    have z77 := BitsV.cap q72
    refine Seq.val (Does.assign rfl) (by decide) ?_
    refine Seq.go (fun _ _ h => h) ?_
    have c78 := (Stp.release (lab := lab18) (w := w16) 7).trans s73
    have c79 := s20.trans c78
    have c80 := s8.trans c79
    obtain ⟨zU, zo⟩ := c80.out (by decide) hv
    refine Run.ret ?_
    exact post_one Try.results123 rfl ⟨_, rfl, (BitsV.cast (show (bitsOf (bval (ob (nv b) (8 * k)))) = (bitsOf (nv b)) from by first | rfl | (rw [bval_ob, Nat.mod_eq_of_lt]; refine Nat.lt_of_lt_of_le (nv_lt b) ?_; rw [show 256 = 2 ^ 8 from rfl, ← Nat.pow_mul]; exact Nat.pow_le_pow_right (by omega) (by omega); done) | (simp_all; done) | omega) ((BitsV.pers _).step zo q72)), c80.leave (by decide)⟩

theorem ref01_Bytes {lab : Lab} {w : World} (hv : Valid lab w) {n : List Bool} {v0 : Value} (h0 : BitsV n lab w v0) {size : Int} (hl : List.length n ≤ 1000000000) (h0s : 0 ≤ size ∧ size ≤ 10000000) :
    Calls Try.prog 124 #[v0, i64 size] w (fun e w' => ∃ v, e = .returned v ∧ (And2 (BytesV (if size < (((List.length n + 7) / 8 : Nat) : Int) then [] else beN (bval n) (Int.toNat size))) (Is (.bool (!(decide (size < (((List.length n + 7) / 8 : Nat) : Int))))))) lab w' v ∧ Below w.heap.size w w') := by
  have hv0 := hv.ent
  obtain ⟨zU0, z00⟩ := ent_step lab w
  replace h0 := (BitsV.pers _).step z00 h0
  obtain ⟨A1, c2, rfl⟩ := BitsV.shape h0
  have z3 := BitsV.cap h0
  refine calls_run Try.func124 rfl Try.ntmps124 (Nat.le_of_ble_eq_true rfl) ?_
  refine Run.seq ?_
  refine Run.region ?_
  refine Seq.val (Does.assign rfl) (by decide) ?_
  refine Seq.val (Does.assign rfl) (by decide) ?_
  refine Seq.go (fun _ _ h => h) ?_
  refine Run.seq ?_
  refine Run.seq ?_
  refine Run.region ?_
  refine Seq.val (Does.move rfl) (by decide) ?_
  refine Seq.val (Does.len Try.underlying79 rfl) (by decide) ?_
  refine Seq.val (Does.add rfl rfl (by first | omega | (simp; omega) | (simp at *; omega))) (by decide) ?_
  refine Seq.val (Does.quo rfl rfl (by first | omega | (simp; omega) | (simp at *; omega)) (by first | omega | (simp; omega) | (simp at *; omega)) (by first | omega | (simp; omega) | (simp at *; omega))) (by decide) ?_
  refine Seq.val (Does.move rfl) (by decide) ?_
  refine Seq.val (Does.gtr rfl rfl) (by decide) ?_
  refine Seq.go (fun _ _ h => h) ?_
  rcases bdich (decide ((size : Int) < ((((List.length n : Nat) : Int) + 7) / 8 : Int))) with hc1 | hc1
  · skip
    have hp1 := of_decide_eq_true hc1
    refine Run.cond_b rfl hc1 ?_
    refine Run.seq ?_
    refine Run.region ?_
    refine Seq.val (Does.assign rfl) (by decide) ?_
    refine Seq.val (Does.assign rfl) (by decide) ?_
    refine Seq.go (fun _ _ h => h) ?_
    have z9 := Stp.refl (ent lab) w
    obtain ⟨zU, zo⟩ := z9.out (by decide) hv
    refine Run.ret (ret_then ?_)
    exact post_two Try.results124 rfl rfl ⟨_, rfl, ⟨_, _, rfl, (BytesV.cast (show ([] : List UInt8) = (if size < (((List.length n + 7) / 8 : Nat) : Int) then [] else beN (bval n) (Int.toNat size)) from by first | rfl | (rw [if_pos (by omega)]; done) | (rw [if_neg (by omega)]; done) | (rw [if_neg (by omega), List.take_of_length_le (by omega)]; done) | (rw [decide_eq_true (by omega)]; rfl; done) | (rw [decide_eq_false (by omega)]; rfl; done) | (simp_all; done) | omega) (BytesV.nil _ _)), (isBool (show (false : Bool) = (!(decide (size < (((List.length n + 7) / 8 : Nat) : Int)))) from by first | rfl | (rw [if_pos (by omega)]; done) | (rw [if_neg (by omega)]; done) | (rw [if_neg (by omega), List.take_of_length_le (by omega)]; done) | (rw [decide_eq_true (by omega)]; rfl; done) | (rw [decide_eq_false (by omega)]; rfl; done) | (simp_all; done) | omega) _ _)⟩, z9.leave (by decide)⟩
  · skip
    have hp1 := of_decide_eq_false hc1
    refine Run.cond_b rfl hc1 ?_
    refine Run.skip_go (fun _ _ h => h) ?_
    refine Run.seq ?_
    refine Run.region ?_
    refine Seq.val (Does.move rfl) (by decide) ?_
    refine Seq.make_row (k := 17) u8 (0 : UInt8) ((size).toNat) hv0 Try.underlying22 ty5 rfl rfl rfl (by first | omega | (simp; omega) | (simp at *; omega)) (by first | omega | (simp; omega) | (simp at *; omega)) (by first | omega | (simp; omega) | (simp at *; omega)) (by first | omega | (simp; omega) | (simp at *; omega)) (by decide) ?_
    intro lab4 w5 b6 o7 s8 hv9
    refine Seq.val (Does.assign rfl) (by decide) ?_
    refine Seq.go (fun _ _ h => h) ?_
    refine Run.seq ?_
    refine Run.seq ?_
    refine Run.region ?_
    refine Seq.val (Does.move rfl) (by decide) ?_
    refine Seq.val (Does.len Try.underlying79 rfl) (by decide) ?_
    refine Seq.val (Does.move rfl) (by decide) ?_
    refine Seq.go (fun _ _ h => h) ?_
    refine Run.block ?_
    refine Run.loop (fun m' l' w' => ∃ (k : Nat) (lab' : Lab), m' = List.length n - k ∧ l' = [(19, i64 ((k : Nat) : Int)), (0, .slice A1 (List.length n) c2), (1, i64 size), (4, .slice none 0 0), (5, .bool false), (9, .slice A1 (List.length n) c2), (10, i64 ((List.length n : Nat) : Int)), (11, i64 (((List.length n : Nat) : Int) + 7)), (12, i64 ((((List.length n : Nat) : Int) + 7) / 8)), (13, i64 size), (14, .bool (decide ((size : Int) < ((((List.length n : Nat) : Int) + 7) / 8 : Int)))), (15, i64 size), (16, .slice (some ⟨b6, 0, none⟩) ((size).toNat) ((size).toNat)), (6, .slice (some ⟨b6, 0, none⟩) ((size).toNat) ((size).toNat)), (17, .slice A1 (List.length n) c2), (18, i64 ((List.length n : Nat) : Int))] ∧ Valid lab' w' ∧ Stp [17] lab4 w5 lab' w' ∧ Own lab' w' 17 b6 5 (List.map u8 (beN (bval (List.take k n)) (Int.toNat size))).toArray ∧ (k ≤ List.length n)) (List.length n - 0) (l0 := [(19, i64 ((0 : Nat) : Int)), (0, .slice A1 (List.length n) c2), (1, i64 size), (4, .slice none 0 0), (5, .bool false), (9, .slice A1 (List.length n) c2), (10, i64 ((List.length n : Nat) : Int)), (11, i64 (((List.length n : Nat) : Int) + 7)), (12, i64 ((((List.length n : Nat) : Int) + 7) / 8)), (13, i64 size), (14, .bool (decide ((size : Int) < ((((List.length n : Nat) : Int) + 7) / 8 : Int)))), (15, i64 size), (16, .slice (some ⟨b6, 0, none⟩) ((size).toNat) ((size).toNat)), (6, .slice (some ⟨b6, 0, none⟩) ((size).toNat) ((size).toNat)), (17, .slice A1 (List.length n) c2), (18, i64 ((List.length n : Nat) : Int))]) ⟨(congrArg (fun z => some (i64 z)) (show (0 : Int) = ((0 : Nat) : Int) from by first | rfl | omega | (simp; done) | (simp <;> omega))), rfl, rfl, rfl, rfl, rfl, rfl, rfl, rfl, rfl, rfl, rfl, rfl, rfl, rfl, rfl, trivial⟩ ⟨0, lab4, rfl, rfl, hv9, ((Stp.refl _ _).more (by simp)), ((show List.replicate ((size).toNat) (0 : UInt8) = beN (bval (List.take 0 n)) (Int.toNat size) from by first | rfl | (exact (beN_zero _).symm) | (exact (refbytes_skip (by omega) hc3).symm) | (exact refbytes_step h0s.1 (by omega) (by omega) hc3)) ▸ o7), (by first | omega | (simp at *; omega))⟩ ?_
    intro m10 l11 w12 H13
    obtain ⟨k, lab14, hzm, rfl, hv15, s16, o17, hk⟩ := H13
    replace hzm := hzm.symm; subst hzm
    have hL := beN_length (bval (List.take k n)) (Int.toNat size)
    refine Run.seq ?_
    refine Run.region ?_
    refine Seq.val (Does.lss rfl rfl) (by decide) ?_
    refine Seq.go (fun _ _ h => h) ?_
    refine Run.seq ?_
    rcases bdich (decide ((((k : Nat) : Int) : Int) < (((List.length n : Nat) : Int) : Int))) with hc2 | hc2
    · skip
      have hp2 := of_decide_eq_true hc2
      refine Run.cond_b rfl hc2 ?_
      refine Run.skip_go (fun _ _ h => h) ?_
      refine Run.seq ?_
      refine Run.block ?_
      refine Run.seq ?_
      refine Run.region ?_
      refine Seq.val (Does.move rfl) (by decide) ?_
      have c19 := s8.trans s16
      have q18 := (BitsV.pers _).step c19 h0
      refine Seq.val (Does.index_row k Try.underlying79 ty4 rfl rfl (BitsV.row q18) (by first | (simp [nw]; done) | (simp; omega)) (by first | omega | (simp; omega) | (simp at *; omega)) (by first | omega | (simp; omega) | (simp at *; omega))) (by decide) ?_
      refine Seq.val (Does.load_row ty4 rfl (BitsV.row q18) (map_get Value.bool _ false (by first | omega | (simp [beN_length]; omega) | (simp at *; omega)))) (by decide) ?_
      refine Seq.val (Does.assign rfl) (by decide) ?_
      refine Seq.val (Does.assign rfl) (by decide) ?_
      refine Seq.go (fun _ _ h => h) ?_
      refine Run.seq ?_
      refine Run.region ?_
      refine Seq.val (Does.move rfl) (by decide) ?_
      refine Seq.go (fun _ _ h => h) ?_
      rcases bdich (List.getD n k false) with hc3 | hc3
      · skip
        refine Run.cond_b rfl hc3 ?_
        refine Run.any (m := 12) mixed (by kernel_rfl) hv15 (phi [Is (.slice (some ⟨b6, 0, none⟩) ((size).toNat) ((size).toNat)), Is (i64 size), Is (i64 (size - 1)), Is (i64 ((k : Nat) : Int)), Is (i64 (((k : Nat) : Int) / 8)), Is (i64 ((size - 1) - (((k : Nat) : Int) / 8))), Is (.pointer (some ⟨b6, (((size - 1) - (((k : Nat) : Int) / 8)).toNat) * 1, none⟩)), Is (u8 (List.getD (beN (bval (List.take k n)) (Int.toNat size)) (((size - 1) - (((k : Nat) : Int) / 8)).toNat) (0 : UInt8))), Is (i64 ((k : Nat) : Int)), Is (i64 (((k : Nat) : Int) % 8)), Is (u8 ((1 : UInt8) <<< UInt8.ofNat (((k : Nat) : Int) % 8).toNat)), Is (u8 ((List.getD (beN (bval (List.take k n)) (Int.toNat size)) (((size - 1) - (((k : Nat) : Int) / 8)).toNat) (0 : UInt8)) + ((1 : UInt8) <<< UInt8.ofNat (((k : Nat) : Int) % 8).toNat)))]) (phi_pers (L := [Is (.slice (some ⟨b6, 0, none⟩) ((size).toNat) ((size).toNat)), Is (i64 size), Is (i64 (size - 1)), Is (i64 ((k : Nat) : Int)), Is (i64 (((k : Nat) : Int) / 8)), Is (i64 ((size - 1) - (((k : Nat) : Int) / 8))), Is (.pointer (some ⟨b6, (((size - 1) - (((k : Nat) : Int) / 8)).toNat) * 1, none⟩)), Is (u8 (List.getD (beN (bval (List.take k n)) (Int.toNat size)) (((size - 1) - (((k : Nat) : Int) / 8)).toNat) (0 : UInt8))), Is (i64 ((k : Nat) : Int)), Is (i64 (((k : Nat) : Int) % 8)), Is (u8 ((1 : UInt8) <<< UInt8.ofNat (((k : Nat) : Int) % 8).toNat)), Is (u8 ((List.getD (beN (bval (List.take k n)) (Int.toNat size)) (((size - 1) - (((k : Nat) : Int) / 8)).toNat) (0 : UInt8)) + ((1 : UInt8) <<< UInt8.ofNat (((k : Nat) : Int) % 8).toNat)))]) ⟨Pers.z (Is.pers _), Pers.z (Is.pers _), Pers.z (Is.pers _), Pers.z (Is.pers _), Pers.z (Is.pers _), Pers.z (Is.pers _), Pers.z (Is.pers _), Pers.z (Is.pers _), Pers.z (Is.pers _), Pers.z (Is.pers _), Pers.z (Is.pers _), Pers.z (Is.pers _), trivial⟩) ?_ ?_
        · intro wz z0
          refine laws (n := 12) ⟨?_, ?_, ?_, ?_, ?_, ?_, ?_, ?_, ?_, ?_, ?_, ?_, trivial⟩
          · refine law_val rfl (by decide) fun lab20 w21 a22 hv23 s24 f25 d26 => ?_
            exact ⟨_, _, _, _, f25, Does.move rfl, hv23, Stp.refl _ _, rfl⟩
          · refine law_val rfl (by decide) fun lab27 w28 a29 hv30 s31 f32 d33 => ?_
            exact ⟨_, _, _, _, f32, Does.move rfl, hv30, Stp.refl _ _, rfl⟩
          · refine law_val rfl (by decide) fun lab34 w35 a36 hv37 s38 f39 d40 => ?_
            obtain ⟨v41, e42, q43⟩ := d40 1 rfl 26 rfl
            replace q43 : (Is (i64 size)) lab34 w35 v41 := q43
            replace q43 := Is.out q43; subst q43
            have f44 := f39.ext e42
            exact ⟨_, _, _, _, f44, Does.sub rfl rfl (by first | omega | (simp; omega) | (simp at *; omega)), hv37, Stp.refl _ _, rfl⟩
          · refine law_val rfl (by decide) fun lab45 w46 a47 hv48 s49 f50 d51 => ?_
            exact ⟨_, _, _, _, f50, Does.move rfl, hv48, Stp.refl _ _, rfl⟩
          · refine law_val rfl (by decide) fun lab52 w53 a54 hv55 s56 f57 d58 => ?_
            obtain ⟨v59, e60, q61⟩ := d58 3 rfl 28 rfl
            replace q61 : (Is (i64 ((k : Nat) : Int))) lab52 w53 v59 := q61
            replace q61 := Is.out q61; subst q61
            have f62 := f57.ext e60
            exact ⟨_, _, _, _, f62, Does.quo rfl rfl (by first | omega | (simp; omega) | (simp at *; omega)) (by first | omega | (simp; omega) | (simp at *; omega)) (by first | omega | (simp; omega) | (simp at *; omega)), hv55, Stp.refl _ _, rfl⟩
          · refine law_val rfl (by decide) fun lab63 w64 a65 hv66 s67 f68 d69 => ?_
            obtain ⟨v70, e71, q72⟩ := d69 2 rfl 27 rfl
            replace q72 : (Is (i64 (size - 1))) lab63 w64 v70 := q72
            replace q72 := Is.out q72; subst q72
            have f73 := f68.ext e71
            obtain ⟨v74, e75, q76⟩ := d69 4 rfl 29 rfl
            replace q76 : (Is (i64 (((k : Nat) : Int) / 8))) lab63 w64 v74 := q76
            replace q76 := Is.out q76; subst q76
            have f77 := f73.ext e75
            exact ⟨_, _, _, _, f77, Does.sub rfl rfl (by first | omega | (simp; omega) | (simp at *; omega)), hv66, Stp.refl _ _, rfl⟩
          · refine law_val rfl (by decide) fun lab78 w79 a80 hv81 s82 f83 d84 => ?_
            obtain ⟨v85, e86, q87⟩ := d84 0 rfl 25 rfl
            replace q87 : (Is (.slice (some ⟨b6, 0, none⟩) ((size).toNat) ((size).toNat))) lab78 w79 v85 := q87
            replace q87 := Is.out q87; subst q87
            have f88 := f83.ext e86
            obtain ⟨v89, e90, q91⟩ := d84 5 rfl 30 rfl
            replace q91 : (Is (i64 ((size - 1) - (((k : Nat) : Int) / 8)))) lab78 w79 v89 := q91
            replace q91 := Is.out q91; subst q91
            have f92 := f88.ext e90
            exact ⟨_, _, _, _, f92, Does.index_own (((size - 1) - (((k : Nat) : Int) / 8)).toNat) Try.underlying22 ty5 rfl rfl (by first | omega | (simp; omega) | (simp at *; omega)) (by first | omega | (simp; omega) | (simp at *; omega)), hv81, Stp.refl _ _, rfl⟩
          · refine law_val rfl (by decide) fun lab93 w94 a95 hv96 s97 f98 d99 => ?_
            obtain ⟨v100, e101, q102⟩ := d99 6 rfl 31 rfl
            replace q102 : (Is (.pointer (some ⟨b6, (((size - 1) - (((k : Nat) : Int) / 8)).toNat) * 1, none⟩))) lab93 w94 v100 := q102
            replace q102 := Is.out q102; subst q102
            have f103 := f98.ext e101
            have o104 := o17.lift (z0.trans s97) (by decide)
            exact ⟨_, _, _, _, f103, Does.load_own1 o104 ty5 rfl (by rw [Nat.mul_one]; exact row_get u8 _ (0 : UInt8) (by first | omega | (simp [beN_length]; omega) | (simp at *; omega))), hv96, Stp.refl _ _, rfl⟩
          · refine law_val rfl (by decide) fun lab105 w106 a107 hv108 s109 f110 d111 => ?_
            exact ⟨_, _, _, _, f110, Does.move rfl, hv108, Stp.refl _ _, rfl⟩
          · refine law_val rfl (by decide) fun lab112 w113 a114 hv115 s116 f117 d118 => ?_
            obtain ⟨v119, e120, q121⟩ := d118 8 rfl 33 rfl
            replace q121 : (Is (i64 ((k : Nat) : Int))) lab112 w113 v119 := q121
            replace q121 := Is.out q121; subst q121
            have f122 := f117.ext e120
            exact ⟨_, _, _, _, f122, Does.rem rfl rfl (by first | omega | (simp; omega) | (simp at *; omega)) (by first | omega | (simp; omega) | (simp at *; omega)), hv115, Stp.refl _ _, rfl⟩
          · refine law_val rfl (by decide) fun lab123 w124 a125 hv126 s127 f128 d129 => ?_
            obtain ⟨v130, e131, q132⟩ := d129 9 rfl 34 rfl
            replace q132 : (Is (i64 (((k : Nat) : Int) % 8))) lab123 w124 v130 := q132
            replace q132 := Is.out q132; subst q132
            have f133 := f128.ext e131
            exact ⟨_, _, _, _, f133, Does.u8_shl (a := (1 : UInt8)) rfl rfl (by first | omega | (simp; omega) | (simp at *; omega)) (by first | omega | (simp; omega) | (simp at *; omega)), hv126, Stp.refl _ _, rfl⟩
          · refine law_val rfl (by decide) fun lab134 w135 a136 hv137 s138 f139 d140 => ?_
            obtain ⟨v141, e142, q143⟩ := d140 7 rfl 32 rfl
            replace q143 : (Is (u8 (List.getD (beN (bval (List.take k n)) (Int.toNat size)) (((size - 1) - (((k : Nat) : Int) / 8)).toNat) (0 : UInt8)))) lab134 w135 v141 := q143
            replace q143 := Is.out q143; subst q143
            have f144 := f139.ext e142
            obtain ⟨v145, e146, q147⟩ := d140 10 rfl 35 rfl
            replace q147 : (Is (u8 ((1 : UInt8) <<< UInt8.ofNat (((k : Nat) : Int) % 8).toNat))) lab134 w135 v145 := q147
            replace q147 := Is.out q147; subst q147
            have f148 := f144.ext e146
            exact ⟨_, _, _, _, f148, Does.u8_add rfl rfl, hv137, Stp.refl _ _, rfl⟩
        · skip
          intro lab149 w150 a151 hv152 s153 f154 hl155
          obtain ⟨v156, e157, q158⟩ := hl155 0 (by decide) 25 rfl
          replace q158 : (Is (.slice (some ⟨b6, 0, none⟩) ((size).toNat) ((size).toNat))) lab149 w150 v156 := q158
          replace q158 := Is.out q158; subst q158
          have f159 := f154.ext e157
          obtain ⟨v160, e161, q162⟩ := hl155 5 (by decide) 30 rfl
          replace q162 : (Is (i64 ((size - 1) - (((k : Nat) : Int) / 8)))) lab149 w150 v160 := q162
          replace q162 := Is.out q162; subst q162
          have f163 := f159.ext e161
          obtain ⟨v164, e165, q166⟩ := hl155 11 (by decide) 36 rfl
          replace q166 : (Is (u8 ((List.getD (beN (bval (List.take k n)) (Int.toNat size)) (((size - 1) - (((k : Nat) : Int) / 8)).toNat) (0 : UInt8)) + ((1 : UInt8) <<< UInt8.ofNat (((k : Nat) : Int) % 8).toNat)))) lab149 w150 v164 := q166
          replace q166 := Is.out q166; subst q166
          have f167 := f163.ext e165
          refine Seq.start (m := 12) f167 ?_
          refine Seq.val (Does.index_own (((size - 1) - (((k : Nat) : Int) / 8)).toNat) Try.underlying22 ty5 rfl rfl (by first | omega | (simp; omega) | (simp at *; omega)) (by first | omega | (simp; omega) | (simp at *; omega))) (by decide) ?_
          have o168 := o17.lift s153 (by decide)
          refine Seq.store_row (k := 17) (j := (((size - 1) - (((k : Nat) : Int) / 8)).toNat)) (v := ((List.getD (beN (bval (List.take k n)) (Int.toNat size)) (((size - 1) - (((k : Nat) : Int) / 8)).toNat) (0 : UInt8)) + ((1 : UInt8) <<< UInt8.ofNat (((k : Nat) : Int) % 8).toNat))) u8 hv152 o168 ty5 (congrArg (fun o => some (Value.pointer (some ⟨b6, o, none⟩))) (Nat.mul_one (((size - 1) - (((k : Nat) : Int) / 8)).toNat))) rfl (by first | omega | (simp [beN_length]; omega) | (simp at *; omega)) rfl rfl ?_
          intro w169 o170 s171 hv172
          refine Seq.go (fun _ _ h => h) ?_
          refine Run.region ?_
          refine Seq.val (Does.add rfl rfl (by first | omega | (simp; omega) | (simp at *; omega))) (by decide) ?_
          refine Seq.val (Does.move rfl) (by decide) ?_
          have c173 := s153.trans s171
          have c174 := s16.trans c173
          exact Seq.nil (fun a175 h176 => ⟨_, by omega, _, h176.weaken (subs_lk (l' := [(19, i64 (((k + 1) : Nat) : Int)), (0, .slice A1 (List.length n) c2), (1, i64 size), (4, .slice none 0 0), (5, .bool false), (9, .slice A1 (List.length n) c2), (10, i64 ((List.length n : Nat) : Int)), (11, i64 (((List.length n : Nat) : Int) + 7)), (12, i64 ((((List.length n : Nat) : Int) + 7) / 8)), (13, i64 size), (14, .bool (decide ((size : Int) < ((((List.length n : Nat) : Int) + 7) / 8 : Int)))), (15, i64 size), (16, .slice (some ⟨b6, 0, none⟩) ((size).toNat) ((size).toNat)), (6, .slice (some ⟨b6, 0, none⟩) ((size).toNat) ((size).toNat)), (17, .slice A1 (List.length n) c2), (18, i64 ((List.length n : Nat) : Int))]) ⟨(congrArg (fun z => some (i64 z)) (show (((k : Nat) : Int) + 1 : Int) = (((k + 1) : Nat) : Int) from by first | rfl | omega | (simp; done) | (simp <;> omega))), rfl, rfl, rfl, rfl, rfl, rfl, rfl, rfl, rfl, rfl, rfl, rfl, rfl, rfl, rfl, trivial⟩), ⟨k + 1, lab149, rfl, rfl, hv172, (c174.more (by decide)), ((show List.set (beN (bval (List.take k n)) (Int.toNat size)) (((size - 1) - (((k : Nat) : Int) / 8)).toNat) ((List.getD (beN (bval (List.take k n)) (Int.toNat size)) (((size - 1) - (((k : Nat) : Int) / 8)).toNat) (0 : UInt8)) + ((1 : UInt8) <<< UInt8.ofNat (((k : Nat) : Int) % 8).toNat)) = beN (bval (List.take (k + 1) n)) (Int.toNat size) from by first | rfl | (exact (beN_zero _).symm) | (exact (refbytes_skip (by omega) hc3).symm) | (exact refbytes_step h0s.1 (by omega) (by omega) hc3)) ▸ o170), (by first | omega | (simp at *; omega))⟩⟩)
      · skip
        refine Run.cond_b rfl hc3 ?_
        refine Run.skip_go (fun _ _ h => h) ?_
        refine Run.region ?_
        refine Seq.val (Does.add rfl rfl (by first | omega | (simp; omega) | (simp at *; omega))) (by decide) ?_
        refine Seq.val (Does.move rfl) (by decide) ?_
        exact Seq.nil (fun a177 h178 => ⟨_, by omega, _, h178.weaken (subs_lk (l' := [(19, i64 (((k + 1) : Nat) : Int)), (0, .slice A1 (List.length n) c2), (1, i64 size), (4, .slice none 0 0), (5, .bool false), (9, .slice A1 (List.length n) c2), (10, i64 ((List.length n : Nat) : Int)), (11, i64 (((List.length n : Nat) : Int) + 7)), (12, i64 ((((List.length n : Nat) : Int) + 7) / 8)), (13, i64 size), (14, .bool (decide ((size : Int) < ((((List.length n : Nat) : Int) + 7) / 8 : Int)))), (15, i64 size), (16, .slice (some ⟨b6, 0, none⟩) ((size).toNat) ((size).toNat)), (6, .slice (some ⟨b6, 0, none⟩) ((size).toNat) ((size).toNat)), (17, .slice A1 (List.length n) c2), (18, i64 ((List.length n : Nat) : Int))]) ⟨(congrArg (fun z => some (i64 z)) (show (((k : Nat) : Int) + 1 : Int) = (((k + 1) : Nat) : Int) from by first | rfl | omega | (simp; done) | (simp <;> omega))), rfl, rfl, rfl, rfl, rfl, rfl, rfl, rfl, rfl, rfl, rfl, rfl, rfl, rfl, rfl, trivial⟩), ⟨k + 1, lab14, rfl, rfl, hv15, (s16.more (by decide)), ((show beN (bval (List.take k n)) (Int.toNat size) = beN (bval (List.take (k + 1) n)) (Int.toNat size) from by first | rfl | (exact (beN_zero _).symm) | (exact (refbytes_skip (by omega) hc3).symm) | (exact refbytes_step h0s.1 (by omega) (by omega) hc3)) ▸ o17), (by first | omega | (simp at *; omega))⟩⟩)
    · skip
      have hp2 := of_decide_eq_false hc2
      refine Run.cond_b rfl hc2 ?_
      refine Run.exit_go (fun _ _ h => h) ?_
      refine Run.seq ?_
      refine Run.region ?_
      refine Seq.val (Does.move rfl) (by decide) ?_
      refine Seq.val (Does.assign rfl) (by decide) ?_
      refine Seq.val (Does.assign rfl) (by decide) ?_
      refine Seq.go (fun _ _ h => h) ?_
      have c179 := s8.trans s16
      obtain ⟨zU, zo⟩ := c179.out (by decide) hv
      have hv180 := Valid.release hv15 17
      have q181 : BytesV (beN (bval (List.take k n)) (Int.toNat size)) (labFree lab14 17) w12 (.slice (some ⟨b6, 0, none⟩) ((size).toNat) ((size).toNat)) := BytesV.release o17 (by first | rfl | (simp; done) | assumption | omega | (simp; omega)) (by first | omega | (simp; omega) | (simp at *; omega))
      have c182 := c179.trans (Stp.release (lab := lab14) (w := w12) 17)
      obtain ⟨zU, zo⟩ := c182.out (by decide) hv
      refine Run.ret ?_
      exact post_two Try.results124 rfl rfl ⟨_, rfl, ⟨_, _, rfl, (BytesV.cast (show (beN (bval (List.take k n)) (Int.toNat size)) = (if size < (((List.length n + 7) / 8 : Nat) : Int) then [] else beN (bval n) (Int.toNat size)) from by first | rfl | (rw [if_pos (by omega)]; done) | (rw [if_neg (by omega)]; done) | (rw [if_neg (by omega), List.take_of_length_le (by omega)]; done) | (rw [decide_eq_true (by omega)]; rfl; done) | (rw [decide_eq_false (by omega)]; rfl; done) | (simp_all; done) | omega) ((BytesV.pers _).step zo q181)), (isBool (show (true : Bool) = (!(decide (size < (((List.length n + 7) / 8 : Nat) : Int)))) from by first | rfl | (rw [if_pos (by omega)]; done) | (rw [if_neg (by omega)]; done) | (rw [if_neg (by omega), List.take_of_length_le (by omega)]; done) | (rw [decide_eq_true (by omega)]; rfl; done) | (rw [decide_eq_false (by omega)]; rfl; done) | (simp_all; done) | omega) _ _)⟩, c182.leave (by decide)⟩

end Go.Proofs.Ytgfomedobfaidaa
