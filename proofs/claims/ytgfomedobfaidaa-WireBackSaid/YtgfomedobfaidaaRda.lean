/-
  The walks of some functions: what each call comes to.
-/
import Derived.Test.YtgfomedobfaidaaRead
import Derived.Test.YtgfomedobfaidaaWnum
set_option linter.unusedVariables false
set_option linter.unusedSimpArgs false
set_option maxRecDepth 100000
namespace Go.Proofs.Ytgfomedobfaidaa
open Go.RowKit

theorem bytes_Equal {lab : Lab} {w : World} (hv : Valid lab w) {a : List UInt8} {v0 : Value} (h0 : BytesV a lab w v0) {b : List UInt8} {v1 : Value} (h1 : BytesV b lab w v1) :
    Calls Try.prog 101 #[v0, v1] w (fun e w' => ∃ v, e = .returned v ∧ (Is (.bool (decide (a = b)))) lab w' v ∧ Below w.heap.size w w') := by
  obtain ⟨L0, h0L, ⟨zU0, z00⟩, hX⟩ := enter0 hv
  replace h0 := up z00 h0
  obtain ⟨A1, c2, rfl⟩ := BytesV.shape h0
  have z3 := BytesV.cap h0
  replace h1 := up z00 h1
  obtain ⟨A4, c5, rfl⟩ := BytesV.shape h1
  have z6 := BytesV.cap h1
  refine calls_run Try.func101 rfl Try.ntmps101 (Nat.le_of_ble_eq_true rfl) ?_
  refine rsr ?_
  refine sv (Does.assign rfl) ?_
  refine nsr ?_
  refine sv (Does.move rfl) ?_
  refine sv (Does.conv_str Try.underlying22 Try.underlying5 Try.underlying9 rfl h0) ?_
  refine sv (Does.move rfl) ?_
  refine sv (Does.conv_str Try.underlying22 Try.underlying5 Try.underlying9 rfl h1) ?_
  refine sv (Does.str_eql rfl rfl) ?_
  refine sv (Does.assign rfl) ?_
  refine Seq.next ?_
  have z9 := Stp.refl L0 w
  obtain ⟨⟨zU, zo⟩, zb⟩ := hX z9 (by decide)
  refine Run.ret ?_
  exact post_one Try.results101 rfl ⟨_, rfl, rfl, zb⟩

theorem slices_Clone {lab : Lab} {w : World} (hv : Valid lab w) {s : List UInt8} {v0 : Value} (h0 : BytesV s lab w v0) (hs : List.length s ≤ 1000000) :
    Calls Try.prog 181 #[v0] w (fun e w' => ∃ v, e = .returned v ∧ (BytesV s) lab w' v ∧ Below w.heap.size w w') := by
  obtain ⟨L0, h0L, ⟨zU0, z00⟩, hX⟩ := enter0 hv
  replace h0 := up z00 h0
  obtain ⟨A1, c2, rfl⟩ := BytesV.shape h0
  have z3 := BytesV.cap h0
  refine calls_run Try.func181 rfl Try.ntmps181 (Nat.le_of_ble_eq_true rfl) ?_
  refine rsr ?_
  refine sv (Does.assign rfl) ?_
  refine Seq.next ?_
  refine Run.seq ?_
  refine rsr ?_
  refine sv (Does.move rfl) ?_
  refine sv (Does.slice_nil Try.underlying22 rfl rfl) ?_
  refine Seq.next ?_
  rcases bdich (Option.isNone A1) with hc1 | hc1
  · refine Run.cond_b rfl hc1 ?_
    refine rsr ?_
    refine sv (Does.assign rfl) ?_
    refine Seq.next ?_
    have z9 := Stp.refl L0 w
    obtain ⟨⟨zU, zo⟩, zb⟩ := hX z9 (by decide)
    refine Run.ret (ret_then ?_)
    exact post_one Try.results181 rfl ⟨_, rfl, (BytesV.cast (by first | (exact clone_nil h0 hc1; done) | (with_reducible rfl; done) | (omega; done) | (simp_all; done)) (BytesV.nil _ _)), zb⟩
  refine Run.cond_b rfl hc1 ?_
  refine Run.skip_go (fun _ _ h => h) ?_
  refine rsr ?_
  refine Seq.build_empty (k := 6) h0L Try.underlying22 ty5 (by decide) ?_
  intro lab4 w5 v6 o7 s8 hv9
  obtain ⟨A10, c11, rfl⟩ := App.shape o7
  have z13 := (App.row o7).2
  refine sv (Does.move rfl) ?_
  have q14 := up s8 h0
  refine Seq.append (k := 6) (List.map u8 s) hv9 o7 Try.underlying22 ty5 rfl rfl rfl (by simp) (BytesV.row q14) oneCell_u8 (by first | omega | (simp; omega) | (simp at *; omega)) (by first | omega | (simp; omega) | (simp at *; omega)) (by decide) ?_
  intro lab15 w16 v17 o18 s19 hv20
  rw [List.nil_append] at o18
  obtain ⟨A21, c22, rfl⟩ := App.shape o18
  have m23 : List.length s = 0 + (List.length s) := App.lenMap o18
  have z24 := (App.row o18).2
  refine sv (Does.assign rfl) ?_
  refine Seq.next ?_
  have hv25 := Valid.release hv20 6
  have m27 : List.length s = 0 + (List.length s) := App.lenMap o18
  have q26 : BytesV s (labFree lab15 6) w16 (.slice A21 (0 + (List.length s)) c22) := ⟨_, _, (by first | (rw [m27]; done) | rw [← m27]), (by have h9 := (App.row o18).2.1; first | (rw [m27]; exact h9) | (rw [← m27] at h9; exact h9)), (App.row o18).2.2, (App.row o18).1⟩
  have c28 := s19.trans (Stp.release (lab := lab15) (w := w16) 6)
  have c29 := s8.trans c28
  obtain ⟨⟨zU, zo⟩, zb⟩ := hX c29 (by decide)
  refine Run.ret ?_
  exact post_one Try.results181 rfl ⟨_, rfl, (up zo q26), zb⟩

theorem rd_take {lab : Lab} {w : World} (hv : Valid lab w) {r_d r_b : Nat} {r : Rd} {rv : Value} (h0 : Own lab w r_d r_b 159 #[rv, .bool r.bad]) (h0v : BytesV r.b lab w rv) {n : Nat} (hn : n ≤ 1000000) (hr : List.length r.b ≤ 1000000) :
    Calls Try.prog 152 #[.pointer (some ⟨r_b, 0, none⟩), i64 ((n : Nat) : Int)] w (Eff [r_d] lab w (With (BytesV ((r.take n).1)) (fun lab' w' => ∃ zv, Own lab' w' r_d r_b 159 #[zv, .bool ((r.take n).2.bad)] ∧ BytesV ((r.take n).2.b) lab' w' zv))) := by
  obtain ⟨L0, h0L, ⟨zU0, z00⟩, hO, hA, hX⟩ := enterM [(r_d, 1)] hv
  replace h0 := hO 1 (by simp [look]) h0
  replace h0v := up z00 h0v
  obtain ⟨A1, c2, rfl⟩ := BytesV.shape h0v
  have z3 := BytesV.cap h0v
  refine calls_run Try.func152 rfl Try.ntmps152 (Nat.le_of_ble_eq_true rfl) ?_
  refine rsr ?_
  refine sv (Does.assign rfl) ?_
  refine Seq.next ?_
  refine Run.seq ?_
  refine rsr ?_
  refine sv (Does.move rfl) ?_
  refine sv (Does.move rfl) ?_
  refine sv (Does.nilCheck rfl) ?_
  refine sv (Does.fieldAddr' 0 Try.underlying159 rfl ty22 rfl rfl) ?_
  refine sv (Does.load_own1 h0 ty22 rfl rfl) ?_
  refine sv (Does.len Try.underlying22 rfl) ?_
  refine sv (Does.gtr rfl rfl) ?_
  refine Seq.next ?_
  rcases Decidable.em ((((List.length r.b : Nat) : Int) : Int) < (((n : Nat) : Int) : Int)) with hp1 | hp1
  · refine Run.cond_b rfl (decide_eq_true hp1) ?_
    refine rsr ?_
    refine sv (Does.move rfl) ?_
    refine sv (Does.nilCheck rfl) ?_
    refine sv (Does.fieldAddr' 1 Try.underlying159 rfl ty4 rfl rfl) ?_
    refine sstore [.slice A1 (List.length r.b) c2, .bool true] h0L h0 ty4 rfl rfl rfl (Nat.le_of_ble_eq_true rfl) rfl rfl fun w4 o5 s6 h7 => ?_
    refine nsr ?_
    refine sv (Does.move rfl) ?_
    refine Seq.make_row (k := 18) u8 (0 : UInt8) n h7 Try.underlying22 ty5 rfl rfl rfl (by omega) (by omega) (by omega) (by omega) (by decide) ?_
    intro lab8 w9 b10 o11 s12 hv13
    refine sv (Does.assign rfl) ?_
    refine Seq.next ?_
    have hv14 := Valid.release hv13 18
    have q15 : BytesV (List.replicate n (0 : UInt8)) (labFree lab8 18) w9 (.slice (some ⟨b10, 0, none⟩) n n) := BytesV.release o11 (by first | assumption | omega | (simp; done) | (simp; omega)) (by omega)
    have c16 := s12.trans (Stp.release (lab := lab8) (w := w9) 18)
    have c17 := s6.trans c16
    obtain ⟨lab9, s9, B9⟩ := hX [(1, r_d)] c17 (by decide) hv14
    obtain ⟨zU, zo⟩ := B9.u
    have o18 := o5.up c16
    have q19 := up c17 h0v
    refine Run.ret (ret_then ?_)
    exact post_one Try.results152 rfl ⟨_, lab9, rfl, ⟨(BytesV.cast (by first | (exact rd_short (by omega); done) | (exact rd_long (by omega); done) | (with_reducible rfl; done) | (omega; done) | (simp_all; done)) (up zo q15)), ⟨_, ((show (true : Bool) = ((r.take n).2.bad) from by first | exact rd_short2 (by omega) | exact rd_short3 (by omega) | exact rd_long2 (by omega) | exact rd_long3 (by omega)) ▸ (Own.back o18 B9 r_d rfl (by decide) (by simp [keys]))), (BytesV.cast (show r.b = ((r.take n).2.b) from by first | exact rd_short2 (by omega) | exact rd_short3 (by omega) | exact rd_long2 (by omega) | exact rd_long3 (by omega)) (up zo q19))⟩⟩, s9, B9.v⟩
  refine Run.cond_b rfl (decide_eq_false hp1) ?_
  refine Run.skip_go (fun _ _ h => h) ?_
  refine rsr ?_
  refine sv (Does.move rfl) ?_
  refine sv (Does.nilCheck rfl) ?_
  refine sv (Does.fieldAddr' 0 Try.underlying159 rfl ty22 rfl rfl) ?_
  refine sv (Does.load_own1 h0 ty22 rfl rfl) ?_
  refine sv (Does.move rfl) ?_
  have q20 := BytesV.takeN h0v n (by omega)
  refine sv (Does.slice_hi n Try.underlying22 ty5 rfl rfl (by omega) (by have := (BytesV.cap h0v).2; omega)) ?_
  refine scall (V := BytesV (List.take n r.b)) cal181 h0L rfl (slices_Clone h0L q20 (show List.length (List.take n r.b) ≤ 1000000 from by first | assumption | omega | simp_all)) fun v21 w22 q23 s24 h25 => ?_
  obtain ⟨A26, c27, rfl⟩ := BytesV.shape q23
  have z28 := BytesV.cap q23
  refine sv (Does.assign rfl) ?_
  refine nsr ?_
  refine sv (Does.move rfl) ?_
  refine sv (Does.move rfl) ?_
  refine sv (Does.nilCheck rfl) ?_
  refine sv (Does.fieldAddr' 0 Try.underlying159 rfl ty22 rfl rfl) ?_
  have o29 := h0.up s24
  refine sv (Does.load_own1 o29 ty22 rfl rfl) ?_
  refine sv (Does.move rfl) ?_
  have q31 := up s24 h0v
  have q30 := BytesV.dropN q31 n (by omega)
  refine sv (Does.slice_lo n Try.underlying22 ty5 rfl rfl (by omega) (by omega)) ?_
  refine sv (Does.nilCheck rfl) ?_
  refine sv (Does.fieldAddr' 0 Try.underlying159 rfl ty22 rfl rfl) ?_
  refine sstore [.slice (if c2 = n then A1 else Option.map (fun zq => Addr.add zq (n * 1)) A1) ((List.length r.b) - n) (c2 - n), .bool r.bad] h25 o29 ty22 rfl rfl rfl (Nat.le_of_ble_eq_true rfl) rfl rfl fun w33 o34 s35 h36 => ?_
  refine nsr ?_
  refine sv (Does.move rfl) ?_
  refine sv (Does.assign rfl) ?_
  refine Seq.next ?_
  have c37 := s24.trans s35
  obtain ⟨lab9, s9, B9⟩ := hX [(1, r_d)] c37 (by decide) h36
  obtain ⟨zU, zo⟩ := B9.u
  have q38 := up s35 q23
  have q39 := up s35 q30
  refine Run.ret ?_
  exact post_one Try.results152 rfl ⟨_, lab9, rfl, ⟨(BytesV.cast (by first | (exact rd_short (by omega); done) | (exact rd_long (by omega); done) | (with_reducible rfl; done) | (omega; done) | (simp_all; done)) (up zo q38)), ⟨_, ((show (r.bad : Bool) = ((r.take n).2.bad) from by first | exact rd_short2 (by omega) | exact rd_short3 (by omega) | exact rd_long2 (by omega) | exact rd_long3 (by omega)) ▸ (Own.back o34 B9 r_d rfl (by decide) (by simp [keys]))), (BytesV.cast (show (List.drop n r.b) = ((r.take n).2.b) from by first | exact rd_short2 (by omega) | exact rd_short3 (by omega) | exact rd_long2 (by omega) | exact rd_long3 (by omega)) (up zo q39))⟩⟩, s9, B9.v⟩

theorem rd_num {lab : Lab} {w : World} (hv : Valid lab w) {r_d r_b : Nat} {r : Rd} {rv : Value} (h0 : Own lab w r_d r_b 159 #[rv, .bool r.bad]) (h0v : BytesV r.b lab w rv) {size : Nat} (hs : size ≤ 4) (hr : List.length r.b ≤ 1000000) :
    Calls Try.prog 102 #[.pointer (some ⟨r_b, 0, none⟩), i64 ((size : Nat) : Int)] w (Eff [r_d] lab w (With (Is (i64 (((r.num size).1 : Nat) : Int))) (fun lab' w' => ∃ zv, Own lab' w' r_d r_b 159 #[zv, .bool ((r.num size).2.bad)] ∧ BytesV ((r.num size).2.b) lab' w' zv))) := by
  obtain ⟨L0, h0L, ⟨zU0, z00⟩, hO, hA, hX⟩ := enterM [(r_d, 1)] hv
  replace h0 := hO 1 (by simp [look]) h0
  replace h0v := up z00 h0v
  obtain ⟨A1, c2, rfl⟩ := BytesV.shape h0v
  have z3 := BytesV.cap h0v
  have hl := Rd.take_len r size
  refine calls_run Try.func102 rfl Try.ntmps102 (Nat.le_of_ble_eq_true rfl) ?_
  refine rsr ?_
  refine sv (Does.assign rfl) ?_
  refine nsr ?_
  refine sv (Does.assign rfl) ?_
  refine Seq.next ?_
  refine Run.seq ?_
  refine rsr ?_
  refine sv (Does.move rfl) ?_
  refine sv (Does.move rfl) ?_
  refine scallE cal152 rfl (rd_take h0L (n := size) (r := r) h0 h0v  (show  size ≤ 1000000 from by first | assumption | omega | simp_all) (show  List.length r.b ≤ 1000000 from by first | assumption | omega | simp_all)) fun v4 L9 w12 r11 s7 h8 => ?_
  obtain ⟨q6, o10⟩ := r11
  obtain ⟨v13, o14, q15⟩ := o10
  obtain ⟨A16, c17, rfl⟩ := BytesV.shape q15
  have z18 := BytesV.cap q15
  obtain ⟨A19, c20, rfl⟩ := BytesV.shape q6
  have z21 := BytesV.cap q6
  refine sv (Does.len Try.underlying22 rfl) ?_
  refine sv (Does.move rfl) ?_
  refine Seq.next ?_
  refine Run.block ?_
  refine Run.loop (fun m' l' w' => ∃ (k : Nat) (lab' : Lab), m' = size - k ∧ l' = [(12, i64 ((k : Nat) : Int)), (5, i64 ((nv (List.take k (r.take size).1) : Nat) : Int)), (4, .int .i64 0), (10, .slice A19 (List.length ((r.take size).1)) c20), (11, i64 ((List.length ((r.take size).1) : Nat) : Int))] ∧ Valid lab' w' ∧ Stp [] L9 w12 lab' w' ∧ (k ≤ size)) (size - 0) (l0 := [(12, i64 ((0 : Nat) : Int)), (5, i64 ((nv (List.take 0 (r.take size).1) : Nat) : Int)), (4, .int .i64 0), (10, .slice A19 (List.length ((r.take size).1)) c20), (11, i64 ((List.length ((r.take size).1) : Nat) : Int))]) ⟨(congrArg (fun z => some (i64 z)) (show (0 : Int) = ((0 : Nat) : Int) from by first | rfl | omega | exact (congrArg Int.ofNat (nv_takeS (by omega))).symm)), (congrArg (fun z => some (i64 z)) (show (0 : Int) = ((nv (List.take 0 (r.take size).1) : Nat) : Int) from by first | rfl | omega | exact (congrArg Int.ofNat (nv_takeS (by omega))).symm)), rfl, rfl, rfl, trivial⟩ ⟨0, L9, rfl, rfl, h8, ((Stp.refl _ _).more (by simp)), (by omega)⟩ ?_
  intro m22 l23 w24 H25
  obtain ⟨k, lab26, hzm, rfl, hv27, s28, hk⟩ := H25
  replace hzm := hzm.symm; subst hzm
  have hb := nv_lt4 (show k ≤ 4 by omega) (r.take size).1
  have hx := UInt8.toNat_lt (List.getD (r.take size).1 k 0)
  refine rsr ?_
  refine sv (Does.lss rfl rfl) ?_
  refine Seq.next ?_
  refine Run.seq ?_
  rcases Decidable.em ((((k : Nat) : Int) : Int) < (((List.length ((r.take size).1) : Nat) : Int) : Int)) with hp1 | hp1
  rotate_left
  · refine Run.cond_b rfl (decide_eq_false hp1) ?_
    refine Run.exit_go (fun _ _ h => h) ?_
    refine rsr ?_
    refine sv (Does.move rfl) ?_
    refine sv (Does.assign rfl) ?_
    refine Seq.next ?_
    have c32 := s7.trans s28
    obtain ⟨lab9, s9, B9⟩ := hX [(1, r_d)] c32 (by decide) hv27
    obtain ⟨zU, zo⟩ := B9.u
    have o33 := o14.up s28
    have q34 := up s28 q15
    refine Run.ret ?_
    exact post_one Try.results102 rfl ⟨_, lab9, rfl, ⟨(isI64 (by first | (exact rd_numEq (by omega); done) | (with_reducible rfl; done) | (omega; done) | (simp_all; done)) _ _), ⟨_, ((show ((r.take size).2.bad : Bool) = ((r.num size).2.bad) from by rw [Rd.num_2]) ▸ (Own.back o33 B9 r_d rfl (by decide) (by simp [keys]))), (BytesV.cast (show ((r.take size).2.b) = ((r.num size).2.b) from by rw [Rd.num_2]) (up zo q34))⟩⟩, s9, B9.v⟩
  refine Run.cond_b rfl (decide_eq_true hp1) ?_
  refine Run.skip_go (fun _ _ h => h) ?_
  refine Run.seq ?_
  refine Run.block ?_
  refine rsr ?_
  have q29 := up s28 q6
  refine sv (Does.index_row k Try.underlying22 ty5 rfl rfl (BytesV.row q29) (by first | (simp [nw]; done) | (simp; omega)) (by omega) (by omega)) ?_
  refine sv (Does.load_row ty5 rfl (BytesV.row q29) (map_get u8 _ (0 : UInt8) (by first | omega | (simp; omega) | (simp [nw] at *; omega)))) ?_
  refine sv (Does.assign rfl) ?_
  refine Seq.next ?_
  refine Run.region ?_
  refine sv (Does.move rfl) ?_
  refine sv (Does.i64_shl8 rfl rfl (by omega)) ?_
  refine sv (Does.move rfl) ?_
  refine sv (Does.conv_int Try.underlying5 Try.underlying3 rfl (wrap_u8_i64 _)) ?_
  refine sv (Does.i64_or_low rfl rfl (by omega) (by omega)) ?_
  refine sv (Does.assign rfl) ?_
  refine Seq.go (fun _ _ h => h) ?_
  refine Run.region ?_
  refine sv (Does.add rfl rfl (by omega)) ?_
  refine sv (Does.move rfl) ?_
  exact Seq.nil (fun a30 h31 => ⟨_, by omega, _, h31.weaken (subs_lk (l' := [(12, i64 (((k + 1) : Nat) : Int)), (5, i64 ((nv (List.take (k + 1) (r.take size).1) : Nat) : Int)), (4, .int .i64 0), (10, .slice A19 (List.length ((r.take size).1)) c20), (11, i64 ((List.length ((r.take size).1) : Nat) : Int))]) ⟨(congrArg (fun z => some (i64 z)) (show (((k : Nat) : Int) + 1 : Int) = (((k + 1) : Nat) : Int) from by first | rfl | omega | exact (congrArg Int.ofNat (nv_takeS (by omega))).symm)), (congrArg (fun z => some (i64 z)) (show ((((nv (List.take k (r.take size).1)) * 256 + ((((List.getD ((r.take size).1) k (0 : UInt8)).toNat : Int)).toNat) : Nat) : Int) : Int) = ((nv (List.take (k + 1) (r.take size).1) : Nat) : Int) from by first | rfl | omega | exact (congrArg Int.ofNat (nv_takeS (by omega))).symm)), rfl, rfl, rfl, trivial⟩), ⟨k + 1, lab26, rfl, rfl, hv27, (s28.more (by decide)), (by omega)⟩⟩)

theorem rd_text {lab : Lab} {w : World} (hv : Valid lab w) {r_d r_b : Nat} {r : Rd} {rv : Value} (h0 : Own lab w r_d r_b 159 #[rv, .bool r.bad]) (h0v : BytesV r.b lab w rv) (hr : List.length r.b ≤ 1000000) :
    Calls Try.prog 103 #[.pointer (some ⟨r_b, 0, none⟩)] w (Eff [r_d] lab w (With (BytesV r.text.1) (fun lab' w' => ∃ zv, Own lab' w' r_d r_b 159 #[zv, .bool ((r.text).2.bad)] ∧ BytesV ((r.text).2.b) lab' w' zv))) := by
  obtain ⟨L0, h0L, ⟨zU0, z00⟩, hO, hA, hX⟩ := enterM [(r_d, 1)] hv
  replace h0 := hO 1 (by simp [look]) h0
  replace h0v := up z00 h0v
  obtain ⟨A1, c2, rfl⟩ := BytesV.shape h0v
  have z3 := BytesV.cap h0v
  have hn := Rd.num_lt r 2
  have hm := Rd.num_le r 2
  refine calls_run Try.func103 rfl Try.ntmps103 (Nat.le_of_ble_eq_true rfl) ?_
  refine rsr ?_
  refine sv (Does.assign rfl) ?_
  refine nsr ?_
  refine sv (Does.move rfl) ?_
  refine scallE cal102 rfl (rd_num h0L (size := 2) (r := r) h0 h0v  (show  2 ≤ 4 from by first | omega | (simp at *; omega)) (show  List.length r.b ≤ 1000000 from by first | omega | (simp at *; omega))) fun v4 L9 w12 r11 s7 h8 => ?_
  obtain ⟨q6, o10⟩ := r11
  obtain ⟨v13, o14, q15⟩ := o10
  obtain ⟨A16, c17, rfl⟩ := BytesV.shape q15
  have z18 := BytesV.cap q15
  have q6 := Is.out q6; subst q6
  refine sv (Does.assign rfl) ?_
  refine Seq.next ?_
  refine Run.seq ?_
  refine rsr ?_
  refine sv (Does.move rfl) ?_
  refine sv (Does.nilCheck rfl) ?_
  refine sv (Does.fieldAddr' 1 Try.underlying159 rfl ty4 rfl rfl) ?_
  refine sv (Does.load_own1 o14 ty4 rfl rfl) ?_
  refine Seq.next ?_
  rcases bdich ((r.num 2).2.bad) with hc1 | hc1
  · refine Run.cond_b rfl hc1 ?_
    refine rsr ?_
    refine sv (Does.assign rfl) ?_
    refine Seq.next ?_
    obtain ⟨lab9, s9, B9⟩ := hX [(1, r_d)] s7 (by decide) h8
    obtain ⟨zU, zo⟩ := B9.u
    refine Run.ret (ret_then ?_)
    exact post_one Try.results103 rfl ⟨_, lab9, rfl, ⟨(BytesV.cast (by first | (exact rd_text1 hc1; done) | (exact rd_text2 hc1; done) | (with_reducible rfl; done) | (omega; done) | (simp_all; done)) (BytesV.nil _ _)), ⟨_, ((show ((r.num 2).2.bad : Bool) = ((r.text).2.bad) from by first | exact rd_text3 hc1 | exact rd_text4 hc1 | exact rd_text5 hc1 | exact rd_text6 hc1) ▸ (Own.back o14 B9 r_d rfl (by decide) (by simp [keys]))), (BytesV.cast (show ((r.num 2).2.b) = ((r.text).2.b) from by first | exact rd_text3 hc1 | exact rd_text4 hc1 | exact rd_text5 hc1 | exact rd_text6 hc1) (up zo q15))⟩⟩, s9, B9.v⟩
  refine Run.cond_b rfl hc1 ?_
  refine Run.skip_go (fun _ _ h => h) ?_
  refine rsr ?_
  refine sv (Does.move rfl) ?_
  refine sv (Does.move rfl) ?_
  refine scallE cal152 rfl (rd_take h8 (n := ((r.num 2).1)) (r := (r.num 2).2) o14 q15  (show  ((r.num 2).1) ≤ 1000000 from by first | omega | (simp at *; omega)) (show  List.length ((r.num 2).2).b ≤ 1000000 from by first | omega | (simp at *; omega))) fun v19 L24 w27 r26 s22 h23 => ?_
  obtain ⟨q21, o25⟩ := r26
  obtain ⟨v28, o29, q30⟩ := o25
  obtain ⟨A31, c32, rfl⟩ := BytesV.shape q30
  have z33 := BytesV.cap q30
  obtain ⟨A34, c35, rfl⟩ := BytesV.shape q21
  have z36 := BytesV.cap q21
  refine sv (Does.assign rfl) ?_
  refine Seq.next ?_
  have c37 := s7.trans s22
  obtain ⟨lab9, s9, B9⟩ := hX [(1, r_d)] c37 (by decide) h23
  obtain ⟨zU, zo⟩ := B9.u
  refine Run.ret ?_
  exact post_one Try.results103 rfl ⟨_, lab9, rfl, ⟨(BytesV.cast (by first | (exact rd_text1 hc1; done) | (exact rd_text2 hc1; done) | (with_reducible rfl; done) | (omega; done) | (simp_all; done)) (up zo q21)), ⟨_, ((show ((((r.num 2).2).take ((r.num 2).1)).2.bad : Bool) = ((r.text).2.bad) from by first | exact rd_text3 hc1 | exact rd_text4 hc1 | exact rd_text5 hc1 | exact rd_text6 hc1) ▸ (Own.back o29 B9 r_d rfl (by decide) (by simp [keys]))), (BytesV.cast (show ((((r.num 2).2).take ((r.num 2).1)).2.b) = ((r.text).2.b) from by first | exact rd_text3 hc1 | exact rd_text4 hc1 | exact rd_text5 hc1 | exact rd_text6 hc1) (up zo q30))⟩⟩, s9, B9.v⟩

end Go.Proofs.Ytgfomedobfaidaa
