/-
  The walks of some functions: what each call comes to.
-/
import Derived.Test.YtgfomedobfaidaaNat1
import Derived.Test.YtgfomedobfaidaaVal
set_option linter.unusedVariables false
set_option linter.unusedSimpArgs false
set_option maxRecDepth 100000
namespace Go.Proofs.Ytgfomedobfaidaa
open Go.RowKit

theorem nat_trim {lab : Lab} {w : World} (hv : Valid lab w) {ws : List UInt32} {v0 : Value} (h0 : WordsV ws lab w v0) :
    Calls Try.prog 105 #[v0] w (fun e w' => ∃ v, e = .returned v ∧ (NatV (wv ws)) lab w' v ∧ Below w.heap.size w w') := by
  have hv0 := hv.ent
  obtain ⟨zU0, z00⟩ := ent_step lab w
  replace h0 := (WordsV.pers _).step z00 h0
  obtain ⟨A1, c2, rfl⟩ := WordsV.shape h0
  have z3 := WordsV.cap h0
  refine calls_run Try.func105 rfl Try.ntmps105 (Nat.le_of_ble_eq_true rfl) ?_
  refine Run.seq ?_
  refine Run.region ?_
  refine Seq.alloc (k := 3) [.slice none 0 0] hv0 ty60 rfl (by decide) ?_
  intro lab4 w5 b6 o7 s8 hv9
  refine Seq.go (fun _ _ h => h) ?_
  refine Run.seq ?_
  refine Run.block ?_
  have q10 := (WordsV.pers _).step s8 h0
  refine Run.loop (fun m' l' w' => ∃ (k : Nat) (lab' : Lab) (ur0 : Value), m' = k ∧ l' = [(0, ur0), (2, .pointer (some ⟨b6, 0, none⟩))] ∧ Valid lab' w' ∧ Stp [] lab4 w5 lab' w' ∧ (WordsV (List.take k ws)) lab' w' ur0 ∧ (k ≤ List.length ws) ∧ (wv (List.take k ws) = wv ws)) ((List.length ws)) (l0 := [(0, .slice A1 (List.length ws) c2), (2, .pointer (some ⟨b6, 0, none⟩))]) ⟨rfl, rfl, trivial⟩ ⟨List.length ws, lab4, (.slice A1 (List.length ws) c2), rfl, rfl, hv9, ((Stp.refl _ _).more (by simp)), (WordsV.cast (show ws = (List.take (List.length ws) ws) from by first | rfl | (simp; done) | (rw [List.take_take]; congr 1; omega)) q10), (by first | omega | (simp; done) | (have e := wv_take_zero (ws := ws) (k := k - 1) (by omega) (by simpa [List.getD, List.getElem?_take_of_lt, show k - 1 < k by omega, ← UInt32.toNat_inj] using hp2); rw [show k - 1 + 1 = k by omega] at e; rw [← e]; exact hw)), (by first | omega | (simp; done) | (have e := wv_take_zero (ws := ws) (k := k - 1) (by omega) (by simpa [List.getD, List.getElem?_take_of_lt, show k - 1 < k by omega, ← UInt32.toNat_inj] using hp2); rw [show k - 1 + 1 = k by omega] at e; rw [← e]; exact hw))⟩ ?_
  intro m11 l12 w13 H14
  obtain ⟨k, lab15, v18, hzm, rfl, hv16, s17, q19, hk, hw⟩ := H14
  replace hzm := hzm.symm; subst hzm
  obtain ⟨A20, c21, rfl⟩ := WordsV.shapeN q19 (n := k) (by rw [List.length_take]; omega)
  have z22 := WordsV.cap q19
  refine Run.seq ?_
  refine Run.seq ?_
  refine Run.region ?_
  refine Seq.val (Does.move rfl) (by decide) ?_
  refine Seq.val (Does.len Try.underlying58 rfl) (by decide) ?_
  refine Seq.val (Does.gtr rfl rfl) (by decide) ?_
  refine Seq.val (Does.move rfl) (by decide) ?_
  rcases bdich (decide ((0 : Int) < (((k : Nat) : Int) : Int))) with hc1 | hc1
  · skip
    have hp1 := of_decide_eq_true hc1
    refine Seq.guard_on' rfl rfl hc1 ?_
    refine Seq.val (Does.move rfl) (by decide) ?_
    refine Seq.guard_on' rfl rfl hc1 ?_
    refine Seq.val (Does.move rfl) (by decide) ?_
    refine Seq.guard_on' rfl rfl hc1 ?_
    refine Seq.val (Does.len Try.underlying58 rfl) (by decide) ?_
    refine Seq.guard_on' rfl rfl hc1 ?_
    refine Seq.val (Does.sub rfl rfl (by first | omega | (simp; omega) | (simp at *; omega))) (by decide) ?_
    refine Seq.guard_on' rfl rfl hc1 ?_
    refine Seq.val (Does.index_row ((((k : Nat) : Int) - 1).toNat) Try.underlying58 ty167 rfl rfl (WordsV.row q19) (by first | (simp [nw]; done) | (simp; omega)) (by first | omega | (simp; omega) | (simp at *; omega)) (by first | omega | (simp; omega) | (simp at *; omega))) (by decide) ?_
    refine Seq.guard_on' rfl rfl hc1 ?_
    refine Seq.val (Does.load_row ty167 rfl (WordsV.row q19) (map_get u32 _ (0 : UInt32) (by first | omega | (simp; omega) | (simp [nw] at *; omega)))) (by decide) ?_
    refine Seq.guard_on' rfl rfl hc1 ?_
    refine Seq.val (Does.eql rfl rfl) (by decide) ?_
    refine Seq.val (Does.pick_b rfl hc1 rfl) (by decide) ?_
    refine Seq.go (fun _ _ h => h) ?_
    rcases bdich (decide (((List.getD (List.take k ws) ((((k : Nat) : Int) - 1).toNat) (0 : UInt32)).toNat : Int) = (0 : Int))) with hc2 | hc2
    · skip
      have hp2 := of_decide_eq_true hc2
      refine Run.cond_b rfl hc2 ?_
      refine Run.skip_go (fun _ _ h => h) ?_
      refine Run.block ?_
      refine Run.region ?_
      refine Seq.val (Does.move rfl) (by decide) ?_
      refine Seq.val (Does.move rfl) (by decide) ?_
      refine Seq.val (Does.len Try.underlying58 rfl) (by decide) ?_
      refine Seq.val (Does.sub rfl rfl (by first | omega | (simp; omega) | (simp at *; omega))) (by decide) ?_
      have q23 := WordsV.takeN q19 ((((k : Nat) : Int) - 1).toNat) (by first | omega | (simp; omega) | (simp at *; omega))
      refine Seq.val (Does.slice_hi ((((k : Nat) : Int) - 1).toNat) Try.underlying58 ty167 rfl rfl (by first | omega | (simp; omega) | (simp at *; omega)) (by have := (WordsV.cap q19).2; first | omega | (simp; omega) | (simp at *; omega))) (by decide) ?_
      refine Seq.val (Does.assign rfl) (by decide) ?_
      exact Seq.nil (fun a24 h25 => ⟨_, by omega, _, h25.weaken (subs_lk (l' := [(0, .slice A20 ((((k : Nat) : Int) - 1).toNat) c21), (2, .pointer (some ⟨b6, 0, none⟩))]) ⟨rfl, rfl, trivial⟩), ⟨k - 1, lab15, (.slice A20 ((((k : Nat) : Int) - 1).toNat) c21), rfl, rfl, hv16, (s17.more (by decide)), (WordsV.cast (show (List.take ((((k : Nat) : Int) - 1).toNat) (List.take k ws)) = (List.take (k - 1) ws) from by first | rfl | (simp; done) | (rw [List.take_take]; congr 1; omega)) q23), (by first | omega | (simp; done) | (have e := wv_take_zero (ws := ws) (k := k - 1) (by omega) (by simpa [List.getD, List.getElem?_take_of_lt, show k - 1 < k by omega, ← UInt32.toNat_inj] using hp2); rw [show k - 1 + 1 = k by omega] at e; rw [← e]; exact hw)), (by first | omega | (simp; done) | (have e := wv_take_zero (ws := ws) (k := k - 1) (by omega) (by simpa [List.getD, List.getElem?_take_of_lt, show k - 1 < k by omega, ← UInt32.toNat_inj] using hp2); rw [show k - 1 + 1 = k by omega] at e; rw [← e]; exact hw))⟩⟩)
    · skip
      have hp2 := of_decide_eq_false hc2
      refine Run.cond_b rfl hc2 ?_
      refine Run.exit_go (fun _ _ h => h) ?_
      refine Run.seq ?_
      refine Run.region ?_
      refine Seq.val (Does.move rfl) (by decide) ?_
      refine Seq.val (Does.build [(0, .slice A20 k c21)] [(0, 1)] [.slice A20 k c21] Try.underlying60 ty60 (by kernel_rfl) rfl (by kernel_rfl)) (by decide) ?_
      have o26 := o7.lift s17 (by decide)
      refine Seq.store [.slice A20 k c21] hv16 o26 ty60 rfl rfl rfl (Nat.le_of_ble_eq_true rfl) rfl rfl ?_
      intro w27 o28 s29 hv30
      refine Seq.go (fun _ _ h => h) ?_
      have c31 := s17.trans s29
      have c32 := s8.trans c31
      obtain ⟨zU, zo⟩ := c32.out (by decide) hv
      have q33 := (WordsV.pers _).step s29 q19
      refine Run.ret ?_
      exact post_one Try.results105 ⟨_, rfl, Own.loadN [.slice A20 k c21] o28 ty60 rfl⟩ ⟨_, rfl, (NatV.ofWords ((WordsV.pers _).step zo q33) (show List.take k ws = limbs (wv ws) from by first | rfl | (rw [← hw]; exact take_limbs hk (by first | (left; omega) | (right; simpa [List.getD, List.getElem?_take_of_lt, show k - 1 < k by omega, ← UInt32.toNat_inj] using hp2)); done) | (simp_all; done) | omega)), c32.leave (by decide)⟩
  · skip
    have hp1 := of_decide_eq_false hc1
    refine Seq.guard_off' rfl rfl hc1 rfl (by decide) ?_
    refine Seq.guard_off' rfl rfl hc1 rfl (by decide) ?_
    refine Seq.guard_off' rfl rfl hc1 rfl (by decide) ?_
    refine Seq.guard_off' rfl rfl hc1 rfl (by decide) ?_
    refine Seq.guard_off' rfl rfl hc1 rfl (by decide) ?_
    refine Seq.guard_off' rfl rfl hc1 rfl (by decide) ?_
    refine Seq.guard_off' rfl rfl hc1 rfl (by decide) ?_
    refine Seq.val (Does.pick_b rfl hc1 rfl) (by decide) ?_
    refine Seq.go (fun _ _ h => h) ?_
    refine Run.cond_b rfl rfl ?_
    refine Run.exit_go (fun _ _ h => h) ?_
    refine Run.seq ?_
    refine Run.region ?_
    refine Seq.val (Does.move rfl) (by decide) ?_
    refine Seq.val (Does.build [(0, .slice A20 k c21)] [(0, 1)] [.slice A20 k c21] Try.underlying60 ty60 (by kernel_rfl) rfl (by kernel_rfl)) (by decide) ?_
    have o34 := o7.lift s17 (by decide)
    refine Seq.store [.slice A20 k c21] hv16 o34 ty60 rfl rfl rfl (Nat.le_of_ble_eq_true rfl) rfl rfl ?_
    intro w35 o36 s37 hv38
    refine Seq.go (fun _ _ h => h) ?_
    have c39 := s17.trans s37
    have c40 := s8.trans c39
    obtain ⟨zU, zo⟩ := c40.out (by decide) hv
    have q41 := (WordsV.pers _).step s37 q19
    refine Run.ret ?_
    exact post_one Try.results105 ⟨_, rfl, Own.loadN [.slice A20 k c21] o36 ty60 rfl⟩ ⟨_, rfl, (NatV.ofWords ((WordsV.pers _).step zo q41) (show List.take k ws = limbs (wv ws) from by first | rfl | (rw [← hw]; exact take_limbs hk (by first | (left; omega) | (right; simpa [List.getD, List.getElem?_take_of_lt, show k - 1 < k by omega, ← UInt32.toNat_inj] using hp2)); done) | (simp_all; done) | omega)), c40.leave (by decide)⟩

theorem nat_FromBytes {lab : Lab} {w : World} (hv : Valid lab w) {b : List UInt8} {v0 : Value} (h0 : BytesV b lab w v0) (hl : List.length b ≤ 1000000000) :
    Calls Try.prog 93 #[v0] w (fun e w' => ∃ v, e = .returned v ∧ (And2 (NatV (if 128 < List.length b then 0 else nv b)) (Is (i64 (if 128 < List.length b then 4 else 0)))) lab w' v ∧ Below w.heap.size w w') := by
  have hv0 := hv.ent
  obtain ⟨zU0, z00⟩ := ent_step lab w
  replace h0 := (BytesV.pers _).step z00 h0
  obtain ⟨A1, c2, rfl⟩ := BytesV.shape h0
  have z3 := BytesV.cap h0
  refine calls_run Try.func93 rfl Try.ntmps93 (Nat.le_of_ble_eq_true rfl) ?_
  refine Run.seq ?_
  refine Run.region ?_
  refine Seq.alloc (k := 3) [.slice none 0 0] hv0 ty60 rfl (by decide) ?_
  intro lab4 w5 b6 o7 s8 hv9
  refine Seq.val (Does.assign rfl) (by decide) ?_
  refine Seq.go (fun _ _ h => h) ?_
  refine Run.seq ?_
  refine Run.seq ?_
  refine Run.region ?_
  refine Seq.val (Does.move rfl) (by decide) ?_
  refine Seq.val (Does.len Try.underlying22 rfl) (by decide) ?_
  refine Seq.val (Does.gtr rfl rfl) (by decide) ?_
  refine Seq.go (fun _ _ h => h) ?_
  rcases bdich (decide ((128 : Int) < (((List.length b : Nat) : Int) : Int))) with hc1 | hc1
  · skip
    have hp1 := of_decide_eq_true hc1
    refine Run.cond_b rfl hc1 ?_
    refine Run.seq ?_
    refine Run.region ?_
    refine Seq.val (Does.build [] [(0, 1)] [.slice none 0 0] Try.underlying60 ty60 (by kernel_rfl) rfl (by kernel_rfl)) (by decide) ?_
    refine Seq.store [.slice none 0 0] hv9 o7 ty60 rfl rfl rfl (Nat.le_of_ble_eq_true rfl) rfl rfl ?_
    intro w10 o11 s12 hv13
    refine Seq.val (Does.assign rfl) (by decide) ?_
    refine Seq.go (fun _ _ h => h) ?_
    have c14 := s8.trans s12
    obtain ⟨zU, zo⟩ := c14.out (by decide) hv
    have q15 := (NatV.pers _).step s12 (NatV.zero lab4 w5)
    refine Run.ret (ret_then ?_)
    exact post_two Try.results93 ⟨_, rfl, Own.loadN [.slice none 0 0] o11 ty60 rfl⟩ rfl ⟨_, rfl, ⟨_, _, rfl, (NatV.cast (show 0 = (if 128 < List.length b then 0 else nv b) from by first | rfl | (rw [if_pos (by omega)]; done) | (rw [if_neg (by omega)]; done) | (rw [if_neg (by omega), nvUp_full (by omega)]; done) | (simp_all; done) | omega) ((NatV.pers _).step zo q15)), (isI64 (show (4 : Int) = (if 128 < List.length b then 4 else 0) from by first | rfl | (rw [if_pos (by omega)]; done) | (rw [if_neg (by omega)]; done) | (rw [if_neg (by omega), nvUp_full (by omega)]; done) | (simp_all; done) | omega) _ _)⟩, c14.leave (by decide)⟩
  · skip
    have hp1 := of_decide_eq_false hc1
    refine Run.cond_b rfl hc1 ?_
    refine Run.skip_go (fun _ _ h => h) ?_
    refine Run.seq ?_
    refine Run.region ?_
    refine Seq.val (Does.move rfl) (by decide) ?_
    refine Seq.val (Does.len Try.underlying22 rfl) (by decide) ?_
    refine Seq.val (Does.add rfl rfl (by first | omega | (simp; omega) | (simp at *; omega))) (by decide) ?_
    refine Seq.val (Does.quo rfl rfl (by first | omega | (simp; omega) | (simp at *; omega)) (by first | omega | (simp; omega) | (simp at *; omega)) (by first | omega | (simp; omega) | (simp at *; omega))) (by decide) ?_
    refine Seq.make_row (k := 16) u32 (0 : UInt32) (((((List.length b : Nat) : Int) + 3) / 4).toNat) hv9 Try.underlying58 ty167 rfl rfl rfl (by first | omega | (simp; omega) | (simp at *; omega)) (by first | omega | (simp; omega) | (simp at *; omega)) (by first | omega | (simp; omega) | (simp at *; omega)) (by first | omega | (simp; omega) | (simp at *; omega)) (by decide) ?_
    intro lab16 w17 b18 o19 s20 hv21
    refine Seq.val (Does.assign rfl) (by decide) ?_
    refine Seq.go (fun _ _ h => h) ?_
    refine Run.seq ?_
    refine Run.seq ?_
    refine Run.region ?_
    refine Seq.val (Does.move rfl) (by decide) ?_
    refine Seq.val (Does.len Try.underlying22 rfl) (by decide) ?_
    refine Seq.val (Does.move rfl) (by decide) ?_
    refine Seq.go (fun _ _ h => h) ?_
    refine Run.block ?_
    refine Run.loop (fun m' l' w' => ∃ (k : Nat) (lab' : Lab), m' = List.length b - k ∧ l' = [(18, i64 ((k : Nat) : Int)), (0, .slice A1 (List.length b) c2), (2, .pointer (some ⟨b6, 0, none⟩)), (3, .int .i64 0), (7, .slice A1 (List.length b) c2), (8, i64 ((List.length b : Nat) : Int)), (9, .bool (decide ((128 : Int) < (((List.length b : Nat) : Int) : Int)))), (11, .slice A1 (List.length b) c2), (12, i64 ((List.length b : Nat) : Int)), (13, i64 (((List.length b : Nat) : Int) + 3)), (14, i64 ((((List.length b : Nat) : Int) + 3) / 4)), (15, .slice (some ⟨b18, 0, none⟩) (((((List.length b : Nat) : Int) + 3) / 4).toNat) (((((List.length b : Nat) : Int) + 3) / 4).toNat)), (4, .slice (some ⟨b18, 0, none⟩) (((((List.length b : Nat) : Int) + 3) / 4).toNat) (((((List.length b : Nat) : Int) + 3) / 4).toNat)), (16, .slice A1 (List.length b) c2), (17, i64 ((List.length b : Nat) : Int))] ∧ Valid lab' w' ∧ Stp [16] lab16 w17 lab' w' ∧ Own lab' w' 16 b18 167 (List.map u32 (nvUp b k)).toArray ∧ (k ≤ List.length b)) (List.length b - 0) (l0 := [(18, i64 ((0 : Nat) : Int)), (0, .slice A1 (List.length b) c2), (2, .pointer (some ⟨b6, 0, none⟩)), (3, .int .i64 0), (7, .slice A1 (List.length b) c2), (8, i64 ((List.length b : Nat) : Int)), (9, .bool (decide ((128 : Int) < (((List.length b : Nat) : Int) : Int)))), (11, .slice A1 (List.length b) c2), (12, i64 ((List.length b : Nat) : Int)), (13, i64 (((List.length b : Nat) : Int) + 3)), (14, i64 ((((List.length b : Nat) : Int) + 3) / 4)), (15, .slice (some ⟨b18, 0, none⟩) (((((List.length b : Nat) : Int) + 3) / 4).toNat) (((((List.length b : Nat) : Int) + 3) / 4).toNat)), (4, .slice (some ⟨b18, 0, none⟩) (((((List.length b : Nat) : Int) + 3) / 4).toNat) (((((List.length b : Nat) : Int) + 3) / 4).toNat)), (16, .slice A1 (List.length b) c2), (17, i64 ((List.length b : Nat) : Int))]) ⟨(congrArg (fun z => some (i64 z)) (show (0 : Int) = ((0 : Nat) : Int) from by first | rfl | omega | (simp; done) | (simp <;> omega))), rfl, rfl, rfl, rfl, rfl, rfl, rfl, rfl, rfl, rfl, rfl, rfl, rfl, rfl, trivial⟩ ⟨0, lab16, rfl, rfl, hv21, ((Stp.refl _ _).more (by simp)), ((show List.replicate (((((List.length b : Nat) : Int) + 3) / 4).toNat) (0 : UInt32) = nvUp b 0 from by first | rfl | (exact nvUp_zero b) | (exact nvUp_step (by omega))) ▸ o19), (by first | omega | (simp at *; omega))⟩ ?_
    intro m22 l23 w24 H25
    obtain ⟨k, lab26, hzm, rfl, hv27, s28, o29, hk⟩ := H25
    replace hzm := hzm.symm; subst hzm
    have hL := nvUp_length b k
    refine Run.seq ?_
    refine Run.region ?_
    refine Seq.val (Does.lss rfl rfl) (by decide) ?_
    refine Seq.go (fun _ _ h => h) ?_
    refine Run.seq ?_
    rcases bdich (decide ((((k : Nat) : Int) : Int) < (((List.length b : Nat) : Int) : Int))) with hc2 | hc2
    · skip
      have hp2 := of_decide_eq_true hc2
      refine Run.cond_b rfl hc2 ?_
      refine Run.skip_go (fun _ _ h => h) ?_
      refine Run.seq ?_
      refine Run.block ?_
      refine Run.seq ?_
      refine Run.region ?_
      refine Seq.val (Does.move rfl) (by decide) ?_
      refine Seq.val (Does.assign rfl) (by decide) ?_
      refine Seq.go (fun _ _ h => h) ?_
      refine Run.seq ?_
      refine Run.region ?_
      refine Seq.val (Does.move rfl) (by decide) ?_
      refine Seq.val (Does.move rfl) (by decide) ?_
      refine Seq.val (Does.len Try.underlying22 rfl) (by decide) ?_
      refine Seq.val (Does.sub rfl rfl (by first | omega | (simp; omega) | (simp at *; omega))) (by decide) ?_
      refine Seq.val (Does.move rfl) (by decide) ?_
      refine Seq.val (Does.sub rfl rfl (by first | omega | (simp; omega) | (simp at *; omega))) (by decide) ?_
      have c31 := s20.trans s28
      have c32 := s8.trans c31
      have q30 := (BytesV.pers _).step c32 h0
      refine Seq.val (Does.index_row (((((List.length b : Nat) : Int) - 1) - ((k : Nat) : Int)).toNat) Try.underlying22 ty5 rfl rfl (BytesV.row q30) (by first | (simp [nw]; done) | (simp; omega)) (by first | omega | (simp; omega) | (simp at *; omega)) (by first | omega | (simp; omega) | (simp at *; omega))) (by decide) ?_
      refine Seq.val (Does.load_row ty5 rfl (BytesV.row q30) (map_get u8 _ (0 : UInt8) (by first | omega | (simp at *; omega)))) (by decide) ?_
      refine Seq.val (Does.assign rfl) (by decide) ?_
      refine Seq.go (fun _ _ h => h) ?_
      refine Run.any (m := 12) mixed (by kernel_rfl) hv27 (phi [Is (.slice (some ⟨b18, 0, none⟩) (((((List.length b : Nat) : Int) + 3) / 4).toNat) (((((List.length b : Nat) : Int) + 3) / 4).toNat)), Is (i64 ((k : Nat) : Int)), Is (i64 (((k : Nat) : Int) / 4)), Is (.pointer (some ⟨b18, ((((k : Nat) : Int) / 4).toNat) * 1, none⟩)), Is (u32 (List.getD (nvUp b k) ((((k : Nat) : Int) / 4).toNat) (0 : UInt32))), Is (u8 (List.getD b (((((List.length b : Nat) : Int) - 1) - ((k : Nat) : Int)).toNat) (0 : UInt8))), Is (u32 ((List.getD b (((((List.length b : Nat) : Int) - 1) - ((k : Nat) : Int)).toNat) (0 : UInt8)).toUInt32)), Is (i64 ((k : Nat) : Int)), Is (i64 (((k : Nat) : Int) % 4)), Is (i64 (8 * (((k : Nat) : Int) % 4))), Is (u32 (((List.getD b (((((List.length b : Nat) : Int) - 1) - ((k : Nat) : Int)).toNat) (0 : UInt8)).toUInt32) <<< UInt32.ofNat (8 * (((k : Nat) : Int) % 4)).toNat)), Is (u32 ((List.getD (nvUp b k) ((((k : Nat) : Int) / 4).toNat) (0 : UInt32)) ||| (((List.getD b (((((List.length b : Nat) : Int) - 1) - ((k : Nat) : Int)).toNat) (0 : UInt8)).toUInt32) <<< UInt32.ofNat (8 * (((k : Nat) : Int) % 4)).toNat)))]) (phi_pers (L := [Is (.slice (some ⟨b18, 0, none⟩) (((((List.length b : Nat) : Int) + 3) / 4).toNat) (((((List.length b : Nat) : Int) + 3) / 4).toNat)), Is (i64 ((k : Nat) : Int)), Is (i64 (((k : Nat) : Int) / 4)), Is (.pointer (some ⟨b18, ((((k : Nat) : Int) / 4).toNat) * 1, none⟩)), Is (u32 (List.getD (nvUp b k) ((((k : Nat) : Int) / 4).toNat) (0 : UInt32))), Is (u8 (List.getD b (((((List.length b : Nat) : Int) - 1) - ((k : Nat) : Int)).toNat) (0 : UInt8))), Is (u32 ((List.getD b (((((List.length b : Nat) : Int) - 1) - ((k : Nat) : Int)).toNat) (0 : UInt8)).toUInt32)), Is (i64 ((k : Nat) : Int)), Is (i64 (((k : Nat) : Int) % 4)), Is (i64 (8 * (((k : Nat) : Int) % 4))), Is (u32 (((List.getD b (((((List.length b : Nat) : Int) - 1) - ((k : Nat) : Int)).toNat) (0 : UInt8)).toUInt32) <<< UInt32.ofNat (8 * (((k : Nat) : Int) % 4)).toNat)), Is (u32 ((List.getD (nvUp b k) ((((k : Nat) : Int) / 4).toNat) (0 : UInt32)) ||| (((List.getD b (((((List.length b : Nat) : Int) - 1) - ((k : Nat) : Int)).toNat) (0 : UInt8)).toUInt32) <<< UInt32.ofNat (8 * (((k : Nat) : Int) % 4)).toNat)))]) ⟨Pers.z (Is.pers _), Pers.z (Is.pers _), Pers.z (Is.pers _), Pers.z (Is.pers _), Pers.z (Is.pers _), Pers.z (Is.pers _), Pers.z (Is.pers _), Pers.z (Is.pers _), Pers.z (Is.pers _), Pers.z (Is.pers _), Pers.z (Is.pers _), Pers.z (Is.pers _), trivial⟩) ?_ ?_
      · intro wz z0
        refine laws (n := 12) ⟨?_, ?_, ?_, ?_, ?_, ?_, ?_, ?_, ?_, ?_, ?_, ?_, trivial⟩
        · refine law_val rfl (by decide) fun lab33 w34 a35 hv36 s37 f38 d39 => ?_
          exact ⟨_, _, _, _, f38, Does.move rfl, hv36, Stp.refl _ _, rfl⟩
        · refine law_val rfl (by decide) fun lab40 w41 a42 hv43 s44 f45 d46 => ?_
          exact ⟨_, _, _, _, f45, Does.move rfl, hv43, Stp.refl _ _, rfl⟩
        · refine law_val rfl (by decide) fun lab47 w48 a49 hv50 s51 f52 d53 => ?_
          obtain ⟨v54, e55, q56⟩ := d53 1 rfl 30 rfl
          replace q56 : (Is (i64 ((k : Nat) : Int))) lab47 w48 v54 := q56
          replace q56 := Is.out q56; subst q56
          have f57 := f52.ext e55
          exact ⟨_, _, _, _, f57, Does.quo rfl rfl (by first | omega | (simp; omega) | (simp at *; omega)) (by first | omega | (simp; omega) | (simp at *; omega)) (by first | omega | (simp; omega) | (simp at *; omega)), hv50, Stp.refl _ _, rfl⟩
        · refine law_val rfl (by decide) fun lab58 w59 a60 hv61 s62 f63 d64 => ?_
          obtain ⟨v65, e66, q67⟩ := d64 0 rfl 29 rfl
          replace q67 : (Is (.slice (some ⟨b18, 0, none⟩) (((((List.length b : Nat) : Int) + 3) / 4).toNat) (((((List.length b : Nat) : Int) + 3) / 4).toNat))) lab58 w59 v65 := q67
          replace q67 := Is.out q67; subst q67
          have f68 := f63.ext e66
          obtain ⟨v69, e70, q71⟩ := d64 2 rfl 31 rfl
          replace q71 : (Is (i64 (((k : Nat) : Int) / 4))) lab58 w59 v69 := q71
          replace q71 := Is.out q71; subst q71
          have f72 := f68.ext e70
          exact ⟨_, _, _, _, f72, Does.index_own ((((k : Nat) : Int) / 4).toNat) Try.underlying58 ty167 rfl rfl (by first | omega | (simp; omega) | (simp at *; omega)) (by first | omega | (simp; omega) | (simp at *; omega)), hv61, Stp.refl _ _, rfl⟩
        · refine law_val rfl (by decide) fun lab73 w74 a75 hv76 s77 f78 d79 => ?_
          obtain ⟨v80, e81, q82⟩ := d79 3 rfl 32 rfl
          replace q82 : (Is (.pointer (some ⟨b18, ((((k : Nat) : Int) / 4).toNat) * 1, none⟩))) lab73 w74 v80 := q82
          replace q82 := Is.out q82; subst q82
          have f83 := f78.ext e81
          have o84 := o29.lift (z0.trans s77) (by decide)
          exact ⟨_, _, _, _, f83, Does.load_own1 o84 ty167 rfl (by rw [Nat.mul_one]; exact row_get u32 _ (0 : UInt32) (by first | omega | (simp at *; omega))), hv76, Stp.refl _ _, rfl⟩
        · refine law_val rfl (by decide) fun lab85 w86 a87 hv88 s89 f90 d91 => ?_
          exact ⟨_, _, _, _, f90, Does.move rfl, hv88, Stp.refl _ _, rfl⟩
        · refine law_val rfl (by decide) fun lab92 w93 a94 hv95 s96 f97 d98 => ?_
          obtain ⟨v99, e100, q101⟩ := d98 5 rfl 34 rfl
          replace q101 : (Is (u8 (List.getD b (((((List.length b : Nat) : Int) - 1) - ((k : Nat) : Int)).toNat) (0 : UInt8)))) lab92 w93 v99 := q101
          replace q101 := Is.out q101; subst q101
          have f102 := f97.ext e100
          exact ⟨_, _, _, _, f102, Does.conv_int Try.underlying5 Try.underlying167 rfl (wrap_u8_u32 _), hv95, Stp.refl _ _, rfl⟩
        · refine law_val rfl (by decide) fun lab103 w104 a105 hv106 s107 f108 d109 => ?_
          exact ⟨_, _, _, _, f108, Does.move rfl, hv106, Stp.refl _ _, rfl⟩
        · refine law_val rfl (by decide) fun lab110 w111 a112 hv113 s114 f115 d116 => ?_
          obtain ⟨v117, e118, q119⟩ := d116 7 rfl 36 rfl
          replace q119 : (Is (i64 ((k : Nat) : Int))) lab110 w111 v117 := q119
          replace q119 := Is.out q119; subst q119
          have f120 := f115.ext e118
          exact ⟨_, _, _, _, f120, Does.rem rfl rfl (by first | omega | (simp; omega) | (simp at *; omega)) (by first | omega | (simp; omega) | (simp at *; omega)), hv113, Stp.refl _ _, rfl⟩
        · refine law_val rfl (by decide) fun lab121 w122 a123 hv124 s125 f126 d127 => ?_
          obtain ⟨v128, e129, q130⟩ := d127 8 rfl 37 rfl
          replace q130 : (Is (i64 (((k : Nat) : Int) % 4))) lab121 w122 v128 := q130
          replace q130 := Is.out q130; subst q130
          have f131 := f126.ext e129
          exact ⟨_, _, _, _, f131, Does.mul rfl rfl (by first | omega | (simp; omega) | (simp at *; omega)), hv124, Stp.refl _ _, rfl⟩
        · refine law_val rfl (by decide) fun lab132 w133 a134 hv135 s136 f137 d138 => ?_
          obtain ⟨v139, e140, q141⟩ := d138 6 rfl 35 rfl
          replace q141 : (Is (u32 ((List.getD b (((((List.length b : Nat) : Int) - 1) - ((k : Nat) : Int)).toNat) (0 : UInt8)).toUInt32))) lab132 w133 v139 := q141
          replace q141 := Is.out q141; subst q141
          have f142 := f137.ext e140
          obtain ⟨v143, e144, q145⟩ := d138 9 rfl 38 rfl
          replace q145 : (Is (i64 (8 * (((k : Nat) : Int) % 4)))) lab132 w133 v143 := q145
          replace q145 := Is.out q145; subst q145
          have f146 := f142.ext e144
          exact ⟨_, _, _, _, f146, Does.u32_shl rfl rfl (by first | omega | (simp; omega) | (simp at *; omega)) (by first | omega | (simp; omega) | (simp at *; omega)), hv135, Stp.refl _ _, rfl⟩
        · refine law_val rfl (by decide) fun lab147 w148 a149 hv150 s151 f152 d153 => ?_
          obtain ⟨v154, e155, q156⟩ := d153 4 rfl 33 rfl
          replace q156 : (Is (u32 (List.getD (nvUp b k) ((((k : Nat) : Int) / 4).toNat) (0 : UInt32)))) lab147 w148 v154 := q156
          replace q156 := Is.out q156; subst q156
          have f157 := f152.ext e155
          obtain ⟨v158, e159, q160⟩ := d153 10 rfl 39 rfl
          replace q160 : (Is (u32 (((List.getD b (((((List.length b : Nat) : Int) - 1) - ((k : Nat) : Int)).toNat) (0 : UInt8)).toUInt32) <<< UInt32.ofNat (8 * (((k : Nat) : Int) % 4)).toNat))) lab147 w148 v158 := q160
          replace q160 := Is.out q160; subst q160
          have f161 := f157.ext e159
          exact ⟨_, _, _, _, f161, Does.u32_or rfl rfl, hv150, Stp.refl _ _, rfl⟩
      · skip
        intro lab162 w163 a164 hv165 s166 f167 hl168
        obtain ⟨v169, e170, q171⟩ := hl168 0 (by decide) 29 rfl
        replace q171 : (Is (.slice (some ⟨b18, 0, none⟩) (((((List.length b : Nat) : Int) + 3) / 4).toNat) (((((List.length b : Nat) : Int) + 3) / 4).toNat))) lab162 w163 v169 := q171
        replace q171 := Is.out q171; subst q171
        have f172 := f167.ext e170
        obtain ⟨v173, e174, q175⟩ := hl168 2 (by decide) 31 rfl
        replace q175 : (Is (i64 (((k : Nat) : Int) / 4))) lab162 w163 v173 := q175
        replace q175 := Is.out q175; subst q175
        have f176 := f172.ext e174
        obtain ⟨v177, e178, q179⟩ := hl168 11 (by decide) 40 rfl
        replace q179 : (Is (u32 ((List.getD (nvUp b k) ((((k : Nat) : Int) / 4).toNat) (0 : UInt32)) ||| (((List.getD b (((((List.length b : Nat) : Int) - 1) - ((k : Nat) : Int)).toNat) (0 : UInt8)).toUInt32) <<< UInt32.ofNat (8 * (((k : Nat) : Int) % 4)).toNat)))) lab162 w163 v177 := q179
        replace q179 := Is.out q179; subst q179
        have f180 := f176.ext e178
        refine Seq.start (m := 12) f180 ?_
        refine Seq.val (Does.index_own ((((k : Nat) : Int) / 4).toNat) Try.underlying58 ty167 rfl rfl (by first | omega | (simp; omega) | (simp at *; omega)) (by first | omega | (simp; omega) | (simp at *; omega))) (by decide) ?_
        have o181 := o29.lift s166 (by decide)
        refine Seq.store_row (k := 16) (j := ((((k : Nat) : Int) / 4).toNat)) (v := ((List.getD (nvUp b k) ((((k : Nat) : Int) / 4).toNat) (0 : UInt32)) ||| (((List.getD b (((((List.length b : Nat) : Int) - 1) - ((k : Nat) : Int)).toNat) (0 : UInt8)).toUInt32) <<< UInt32.ofNat (8 * (((k : Nat) : Int) % 4)).toNat))) u32 hv165 o181 ty167 (congrArg (fun o => some (Value.pointer (some ⟨b18, o, none⟩))) (Nat.mul_one ((((k : Nat) : Int) / 4).toNat))) rfl (by first | omega | (simp at *; omega)) rfl rfl ?_
        intro w182 o183 s184 hv185
        refine Seq.go (fun _ _ h => h) ?_
        refine Run.region ?_
        refine Seq.val (Does.add rfl rfl (by first | omega | (simp; omega) | (simp at *; omega))) (by decide) ?_
        refine Seq.val (Does.move rfl) (by decide) ?_
        have c186 := s166.trans s184
        have c187 := s28.trans c186
        exact Seq.nil (fun a188 h189 => ⟨_, by omega, _, h189.weaken (subs_lk (l' := [(18, i64 (((k + 1) : Nat) : Int)), (0, .slice A1 (List.length b) c2), (2, .pointer (some ⟨b6, 0, none⟩)), (3, .int .i64 0), (7, .slice A1 (List.length b) c2), (8, i64 ((List.length b : Nat) : Int)), (9, .bool (decide ((128 : Int) < (((List.length b : Nat) : Int) : Int)))), (11, .slice A1 (List.length b) c2), (12, i64 ((List.length b : Nat) : Int)), (13, i64 (((List.length b : Nat) : Int) + 3)), (14, i64 ((((List.length b : Nat) : Int) + 3) / 4)), (15, .slice (some ⟨b18, 0, none⟩) (((((List.length b : Nat) : Int) + 3) / 4).toNat) (((((List.length b : Nat) : Int) + 3) / 4).toNat)), (4, .slice (some ⟨b18, 0, none⟩) (((((List.length b : Nat) : Int) + 3) / 4).toNat) (((((List.length b : Nat) : Int) + 3) / 4).toNat)), (16, .slice A1 (List.length b) c2), (17, i64 ((List.length b : Nat) : Int))]) ⟨(congrArg (fun z => some (i64 z)) (show (((k : Nat) : Int) + 1 : Int) = (((k + 1) : Nat) : Int) from by first | rfl | omega | (simp; done) | (simp <;> omega))), rfl, rfl, rfl, rfl, rfl, rfl, rfl, rfl, rfl, rfl, rfl, rfl, rfl, rfl, trivial⟩), ⟨k + 1, lab162, rfl, rfl, hv185, (c187.more (by decide)), ((show List.set (nvUp b k) ((((k : Nat) : Int) / 4).toNat) ((List.getD (nvUp b k) ((((k : Nat) : Int) / 4).toNat) (0 : UInt32)) ||| (((List.getD b (((((List.length b : Nat) : Int) - 1) - ((k : Nat) : Int)).toNat) (0 : UInt8)).toUInt32) <<< UInt32.ofNat (8 * (((k : Nat) : Int) % 4)).toNat)) = nvUp b (k + 1) from by first | rfl | (exact nvUp_zero b) | (exact nvUp_step (by omega))) ▸ o183), (by first | omega | (simp at *; omega))⟩⟩)
    · skip
      have hp2 := of_decide_eq_false hc2
      refine Run.cond_b rfl hc2 ?_
      refine Run.exit_go (fun _ _ h => h) ?_
      refine Run.seq ?_
      refine Run.region ?_
      refine Seq.val (Does.move rfl) (by decide) ?_
      have hv190 := Valid.release hv27 16
      have q191 : WordsV (nvUp b k) (labFree lab26 16) w24 (.slice (some ⟨b18, 0, none⟩) (((((List.length b : Nat) : Int) + 3) / 4).toNat) (((((List.length b : Nat) : Int) + 3) / 4).toNat)) := WordsV.release o29 (by first | rfl | (simp; done) | assumption | omega | (simp; omega)) (by first | omega | (simp; omega) | (simp at *; omega))
      refine Seq.callS (V := NatV (wv (nvUp b k))) cal105 hv190 rfl (by decide) (nat_trim hv190 q191) ?_
      intro v192 w193 q194 s195 hv196
      obtain ⟨A197, c198, rfl⟩ := NatV.shape q194
      have z199 := NatV.cap q194
      have c201 := (Stp.release (lab := lab26) (w := w24) 16).trans s195
      have c202 := s28.trans c201
      have c203 := s20.trans c202
      have o200 := o7.lift c203 (by decide)
      refine Seq.store [.slice A197 (nw (wv (nvUp b k))) c198] hv196 o200 ty60 rfl rfl rfl (Nat.le_of_ble_eq_true rfl) rfl rfl ?_
      intro w204 o205 s206 hv207
      refine Seq.val (Does.assign rfl) (by decide) ?_
      refine Seq.go (fun _ _ h => h) ?_
      have c208 := c203.trans s206
      have c209 := s8.trans c208
      obtain ⟨zU, zo⟩ := c209.out (by decide) hv
      have q210 := (NatV.pers _).step s206 q194
      refine Run.ret ?_
      exact post_two Try.results93 ⟨_, rfl, Own.loadN [.slice A197 (nw (wv (nvUp b k))) c198] o205 ty60 rfl⟩ rfl ⟨_, rfl, ⟨_, _, rfl, (NatV.cast (show (wv (nvUp b k)) = (if 128 < List.length b then 0 else nv b) from by first | rfl | (rw [if_pos (by omega)]; done) | (rw [if_neg (by omega)]; done) | (rw [if_neg (by omega), nvUp_full (by omega)]; done) | (simp_all; done) | omega) ((NatV.pers _).step zo q210)), (isI64 (show (0 : Int) = (if 128 < List.length b then 4 else 0) from by first | rfl | (rw [if_pos (by omega)]; done) | (rw [if_neg (by omega)]; done) | (rw [if_neg (by omega), nvUp_full (by omega)]; done) | (simp_all; done) | omega) _ _)⟩, c209.leave (by decide)⟩

end Go.Proofs.Ytgfomedobfaidaa
