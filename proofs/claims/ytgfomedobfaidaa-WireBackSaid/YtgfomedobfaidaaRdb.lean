/-
  The walks of some functions: what each call comes to.
-/
import Derived.Test.YtgfomedobfaidaaRda
import Derived.Test.YtgfomedobfaidaaNat2
set_option linter.unusedVariables false
set_option linter.unusedSimpArgs false
set_option maxRecDepth 100000
namespace Go.Proofs.Ytgfomedobfaidaa
open Go.RowKit

theorem rd_texts {lab : Lab} {w : World} (hv : Valid lab w) {r_d r_b : Nat} {r : Rd} {rv : Value} (h0 : Own lab w r_d r_b 159 #[rv, .bool r.bad]) (h0v : BytesV r.b lab w rv) (hr : List.length r.b ≤ 1000000) :
    Calls Try.prog 151 #[.pointer (some ⟨r_b, 0, none⟩)] w (Eff [r_d] lab w (With (RowsV r.texts.1) (fun lab' w' => ∃ zv, Own lab' w' r_d r_b 159 #[zv, .bool ((r.texts).2.bad)] ∧ BytesV ((r.texts).2.b) lab' w' zv))) := by
  obtain ⟨L0, h0L, ⟨zU0, z00⟩, hO, hA, hX⟩ := enterM [(r_d, 1)] hv
  replace h0 := hO 1 (by simp [look]) h0
  replace h0v := up z00 h0v
  obtain ⟨A1, c2, rfl⟩ := BytesV.shape h0v
  have z3 := BytesV.cap h0v
  have hn := Rd.num_lt r 1
  have hm := Rd.num_le r 1
  refine calls_run Try.func151 rfl Try.ntmps151 (Nat.le_of_ble_eq_true rfl) ?_
  refine rsr ?_
  refine sv (Does.assign rfl) ?_
  refine nsr ?_
  refine sv (Does.assign rfl) ?_
  refine Seq.next ?_
  refine Run.seq ?_
  refine rsr ?_
  refine sv (Does.move rfl) ?_
  refine scallE cal102 rfl (rd_num h0L (size := 1) (r := r) h0 h0v  (show  1 ≤ 4 from by first | omega | (simp at *; omega)) (show  List.length r.b ≤ 1000000 from by first | omega | (simp at *; omega))) fun v4 L9 w12 r11 s7 h8 => ?_
  obtain ⟨q6, o10⟩ := r11
  obtain ⟨v13, o14, q15⟩ := o10
  obtain ⟨A16, c17, rfl⟩ := BytesV.shape q15
  have z18 := BytesV.cap q15
  have q6 := Is.out q6; subst q6
  refine sv (Does.move rfl) ?_
  refine Seq.next ?_
  refine Run.block ?_
  refine Run.loop (fun m' l' w' => ∃ (k : Nat) (o : List (List UInt8)) (q : Rd) (lab' : Lab) (ux907 : Value) (ub1 : Value), m' = (r.num 1).1 - k ∧ l' = [(6, i64 ((k : Nat) : Int)), (3, ux907), (0, .pointer (some ⟨r_b, 0, none⟩)), (2, .slice none 0 0), (5, i64 (((r.num 1).1 : Nat) : Int))] ∧ Valid lab' w' ∧ Stp [1, 907] L9 w12 lab' w' ∧ AppB lab' w' 907 22 ux907 k o ∧ Own lab' w' 1 r_b 159 #[ub1, .bool (q.bad)] ∧ BytesV (q.b) lab' w' ub1 ∧ (k ≤ (r.num 1).1) ∧ (List.length q.b ≤ 1000000) ∧ ((o ++ (Rd.texts1 ((r.num 1).1 - k) q).1, (Rd.texts1 ((r.num 1).1 - k) q).2) = Rd.texts r)) ((r.num 1).1 - 0) (l0 := [(6, i64 ((0 : Nat) : Int)), (3, .slice none 0 0), (0, .pointer (some ⟨r_b, 0, none⟩)), (2, .slice none 0 0), (5, i64 (((r.num 1).1 : Nat) : Int))]) ⟨(congrArg (fun z => some (i64 z)) (show (0 : Int) = ((0 : Nat) : Int) from by first | rfl | omega | (simp_all; done) | exact nx_err | (rw [nx_err]))), rfl, rfl, rfl, rfl, trivial⟩ ⟨0, [], (r.num 1).2, L9, (.slice none 0 0), (.slice A16 (List.length ((r.num 1).2.b)) c17), rfl, rfl, h8, ((Stp.refl _ _).more (by simp)), (AppB.mk (show ([]) = ([]) from by first | rfl) (show 0 = 0 from by first | rfl | omega | (simp_all; done) | exact nx_err | (rw [nx_err])) (App.nil (lab := L9) (w := w12) (d := 907) (t := 22)) trivial), ((show ((r.num 1).2.bad : Bool) = (((r.num 1).2).bad) from by first | rfl | omega | (simp_all; done) | exact nx_err | (rw [nx_err])) ▸ o14), (BytesV.cast (show ((r.num 1).2.b) = (((r.num 1).2).b) from by first | rfl | omega | (simp_all; done) | exact nx_err | (rw [nx_err])) q15), (by first | omega | exact tx_zero (Rd.texts_eq r) | exact tx_step hg (by simpa using hc2) (by omega) | (exact Nat.le_trans ht hb) | exact Nat.le_trans hm hr), (by first | omega | exact tx_zero (Rd.texts_eq r) | exact tx_step hg (by simpa using hc2) (by omega) | (exact Nat.le_trans ht hb) | exact Nat.le_trans hm hr), (by first | omega | exact tx_zero (Rd.texts_eq r) | exact tx_step hg (by simpa using hc2) (by omega) | (exact Nat.le_trans ht hb) | exact Nat.le_trans hm hr)⟩ ?_
  intro m19 l20 w21 H22
  obtain ⟨k, o, q, lab23, v26, u27, hzm, rfl, hv24, s25, o28, o29, q30, hk, hb, hg⟩ := H22
  replace hzm := hzm.symm; subst hzm
  obtain ⟨cs31, o32, q33⟩ := o28
  obtain ⟨A34, c35, rfl⟩ := App.shape o32
  have z37 := (App.row o32).2
  obtain ⟨A38, c39, rfl⟩ := BytesV.shape q30
  have z40 := BytesV.cap q30
  have ht := Rd.text_le q
  refine rsr ?_
  refine sv (Does.lss rfl rfl) ?_
  refine Seq.next ?_
  refine Run.seq ?_
  rcases Decidable.em ((((k : Nat) : Int) : Int) < ((((r.num 1).1 : Nat) : Int) : Int)) with hp1 | hp1
  rotate_left
  · refine Run.cond_b rfl (decide_eq_false hp1) ?_
    refine Run.exit_go (fun _ _ h => h) ?_
    refine rsr ?_
    refine sv (Does.move rfl) ?_
    refine sv (Does.assign rfl) ?_
    refine Seq.next ?_
    have hv98 := Valid.release hv24 907
    have q99 : RowsV o (labFree lab23 907) w21 (.slice A34 (k) c35) := App.rowsB o32 (EachB.step (Stp.release 907) q33)
    have c100 := s25.trans (Stp.release (lab := lab23) (w := w21) 907)
    have c101 := s7.trans c100
    obtain ⟨lab9, s9, B9⟩ := hX [(1, r_d)] c101 (by decide) hv98
    obtain ⟨zU, zo⟩ := B9.u
    have o102 := o29.up (Stp.release (lab := lab23) (w := w21) 907)
    have q103 := up (Stp.release (lab := lab23) (w := w21) 907) q30
    refine Run.ret ?_
    exact post_one Try.results151 rfl ⟨_, lab9, rfl, ⟨(RowsV.cast (by first | (exact (tx_end hg (by omega)).1; done) | (exact (tx_bad hg hc2).1; done) | (with_reducible rfl; done) | (omega; done) | (simp_all; done)) (up zo q99)), ⟨_, ((show (q.bad : Bool) = ((r.texts).2.bad) from by first | exact (tx_end hg (by omega)).2.2 | exact (tx_end hg (by omega)).2.1 | exact (tx_bad hg hc2).2.2 | exact (tx_bad hg hc2).2.1) ▸ (Own.back o102 B9 r_d rfl (by decide) (by simp [keys]))), (BytesV.cast (show q.b = ((r.texts).2.b) from by first | exact (tx_end hg (by omega)).2.2 | exact (tx_end hg (by omega)).2.1 | exact (tx_bad hg hc2).2.2 | exact (tx_bad hg hc2).2.1) (up zo q103))⟩⟩, s9, B9.v⟩
  refine Run.cond_b rfl (decide_eq_true hp1) ?_
  refine Run.skip_go (fun _ _ h => h) ?_
  refine Run.seq ?_
  refine Run.block ?_
  refine Run.seq ?_
  refine rsr ?_
  refine sv (Does.move rfl) ?_
  refine sv (Does.nilCheck rfl) ?_
  refine sv (Does.fieldAddr' 1 Try.underlying159 rfl ty4 rfl rfl) ?_
  refine sv (Does.load_own1 o29 ty4 rfl rfl) ?_
  refine Seq.next ?_
  rcases bdich (q.bad) with hc2 | hc2
  · refine Run.cond_b rfl hc2 ?_
    refine Run.exit_go (fun _ _ h => h) ?_
    refine rsr ?_
    refine sv (Does.move rfl) ?_
    refine sv (Does.assign rfl) ?_
    refine Seq.next ?_
    have hv41 := Valid.release hv24 907
    have q42 : RowsV o (labFree lab23 907) w21 (.slice A34 (k) c35) := App.rowsB o32 (EachB.step (Stp.release 907) q33)
    have c43 := s25.trans (Stp.release (lab := lab23) (w := w21) 907)
    have c44 := s7.trans c43
    obtain ⟨lab9, s9, B9⟩ := hX [(1, r_d)] c44 (by decide) hv41
    obtain ⟨zU, zo⟩ := B9.u
    have o45 := o29.up (Stp.release (lab := lab23) (w := w21) 907)
    have q46 := up (Stp.release (lab := lab23) (w := w21) 907) q30
    refine Run.ret ?_
    exact post_one Try.results151 rfl ⟨_, lab9, rfl, ⟨(RowsV.cast (by first | (exact (tx_end hg (by omega)).1; done) | (exact (tx_bad hg hc2).1; done) | (with_reducible rfl; done) | (omega; done) | (simp_all; done)) (up zo q42)), ⟨_, ((show (q.bad : Bool) = ((r.texts).2.bad) from by first | exact (tx_end hg (by omega)).2.2 | exact (tx_end hg (by omega)).2.1 | exact (tx_bad hg hc2).2.2 | exact (tx_bad hg hc2).2.1) ▸ (Own.back o45 B9 r_d rfl (by decide) (by simp [keys]))), (BytesV.cast (show q.b = ((r.texts).2.b) from by first | exact (tx_end hg (by omega)).2.2 | exact (tx_end hg (by omega)).2.1 | exact (tx_bad hg hc2).2.2 | exact (tx_bad hg hc2).2.1) (up zo q46))⟩⟩, s9, B9.v⟩
  refine Run.cond_b rfl hc2 ?_
  refine Run.skip_go (fun _ _ h => h) ?_
  refine Run.region ?_
  refine sv (Does.move rfl) ?_
  refine sv (Does.move rfl) ?_
  refine scallE cal103 rfl (rd_text hv24  (r := q) o29 q30 (show  List.length q.b ≤ 1000000 from by first | omega | (simp at *; omega))) fun v47 L52 w55 r54 s50 h51 => ?_
  obtain ⟨q49, o53⟩ := r54
  obtain ⟨v56, o57, q58⟩ := o53
  obtain ⟨A59, c60, rfl⟩ := BytesV.shape q58
  have z61 := BytesV.cap q58
  obtain ⟨A62, c63, rfl⟩ := BytesV.shape q49
  have z64 := BytesV.cap q49
  refine Seq.build_row [(0, .slice A62 (List.length q.text.1) c63)] [.slice A62 (List.length q.text.1) c63] h51 Try.underlying34 ty22 (by decide) (by decide) rfl (by kernel_rfl) (by decide) ?_
  intro w65 b66 r67 s68 hv69
  have q71 := up s68 q49
  have q70 : RowsV [q.text.1] L52 w65 (.slice (some ⟨b66, 0, none⟩) 1 1) := RowsV.mk 1 rfl (Nat.le_refl _) (by decide) r67 rfl (EachB.get ⟨q71, trivial⟩)
  have c73 := s50.trans s68
  have o72 := o32.up c73
  obtain ⟨vs74, m75, r76, e77, m78⟩ := RowsV.cells q70
  refine Seq.append (k := 907) vs74 hv69 o72 Try.underlying34 ty22 rfl rfl rfl m75 r76 m78 (by first | omega | (simp; omega)) (by first | omega | (simp; omega)) (by decide) ?_
  intro L79 w80 v81 o82 s83 h84
  have q86 := EachB.step c73 q33
  have q85 := EachB.append (EachB.step s83 q86) (EachB.step s83 e77)
  obtain ⟨A87, c88, rfl⟩ := App.shape o82
  have z90 := (App.row o82).2
  refine sv (Does.assign rfl) ?_
  refine Seq.go (fun _ _ h => h) ?_
  refine Run.region ?_
  refine sv (Does.add rfl rfl (by first | omega | (simp; omega))) ?_
  refine sv (Does.move rfl) ?_
  have c92 := s68.trans s83
  have o91 := o57.up c92
  have q93 := up c92 q58
  have c94 := c73.trans s83
  have c95 := s25.trans c94
  exact Seq.nil (fun a96 h97 => ⟨_, by omega, _, h97.weaken (subs_lk (l' := [(6, i64 (((k + 1) : Nat) : Int)), (3, .slice A87 (k + 1) c88), (0, .pointer (some ⟨r_b, 0, none⟩)), (2, .slice none 0 0), (5, i64 (((r.num 1).1 : Nat) : Int))]) ⟨(congrArg (fun z => some (i64 z)) (show (((k : Nat) : Int) + 1 : Int) = (((k + 1) : Nat) : Int) from by first | rfl | omega | (simp_all; done) | exact nx_err | (rw [nx_err]))), rfl, rfl, rfl, rfl, trivial⟩), ⟨k + 1, o ++ [q.text.1], q.text.2, L79, (.slice A87 (k + 1) c88), (.slice A59 (List.length ((q.text).2.b)) c60), rfl, rfl, h84, (c95.more (by decide)), (AppB.mk (show (o ++ ([q.text.1])) = (o ++ [q.text.1]) from by first | rfl) (show k + 1 = (k + 1) from by first | rfl | omega | (simp_all; done) | exact nx_err | (rw [nx_err])) o82 q85), ((show ((q.text).2.bad : Bool) = q.text.2.bad from by first | rfl | omega | (simp_all; done) | exact nx_err | (rw [nx_err])) ▸ o91), (BytesV.cast (show ((q.text).2.b) = q.text.2.b from by first | rfl | omega | (simp_all; done) | exact nx_err | (rw [nx_err])) q93), (by first | omega | exact tx_zero (Rd.texts_eq r) | exact tx_step hg (by simpa using hc2) (by omega) | (exact Nat.le_trans ht hb) | exact Nat.le_trans hm hr), (by first | omega | exact tx_zero (Rd.texts_eq r) | exact tx_step hg (by simpa using hc2) (by omega) | (exact Nat.le_trans ht hb) | exact Nat.le_trans hm hr), (by first | omega | exact tx_zero (Rd.texts_eq r) | exact tx_step hg (by simpa using hc2) (by omega) | (exact Nat.le_trans ht hb) | exact Nat.le_trans hm hr)⟩⟩)

theorem rd_nats {lab : Lab} {w : World} (hv : Valid lab w) {r_d r_b : Nat} {r : Rd} {rv : Value} (h0 : Own lab w r_d r_b 159 #[rv, .bool r.bad]) (h0v : BytesV r.b lab w rv) (hr : List.length r.b ≤ 1000000) :
    Calls Try.prog 150 #[.pointer (some ⟨r_b, 0, none⟩)] w (Eff [r_d] lab w (With (NatsV r.nats.1) (fun lab' w' => ∃ zv, Own lab' w' r_d r_b 159 #[zv, .bool ((r.nats).2.bad)] ∧ BytesV ((r.nats).2.b) lab' w' zv))) := by
  obtain ⟨L0, h0L, ⟨zU0, z00⟩, hO, hA, hX⟩ := enterM [(r_d, 1)] hv
  replace h0 := hO 1 (by simp [look]) h0
  replace h0v := up z00 h0v
  obtain ⟨A1, c2, rfl⟩ := BytesV.shape h0v
  have z3 := BytesV.cap h0v
  have hn := Rd.num_lt r 1
  have hm := Rd.num_le r 1
  refine calls_run Try.func150 rfl Try.ntmps150 (Nat.le_of_ble_eq_true rfl) ?_
  refine rsr ?_
  refine sv (Does.assign rfl) ?_
  refine nsr ?_
  refine sv (Does.assign rfl) ?_
  refine Seq.next ?_
  refine Run.seq ?_
  refine rsr ?_
  refine sv (Does.move rfl) ?_
  refine scallE cal102 rfl (rd_num h0L (size := 1) (r := r) h0 h0v  (show  1 ≤ 4 from by first | omega | (simp at *; omega)) (show  List.length r.b ≤ 1000000 from by first | omega | (simp at *; omega))) fun v4 L9 w12 r11 s7 h8 => ?_
  obtain ⟨q6, o10⟩ := r11
  obtain ⟨v13, o14, q15⟩ := o10
  obtain ⟨A16, c17, rfl⟩ := BytesV.shape q15
  have z18 := BytesV.cap q15
  have q6 := Is.out q6; subst q6
  refine sv (Does.move rfl) ?_
  refine Seq.next ?_
  refine Run.block ?_
  refine Run.loop (fun m' l' w' => ∃ (k : Nat) (o : List Nat) (q : Rd) (lab' : Lab) (ux908 : Value) (ub1 : Value), m' = (r.num 1).1 - k ∧ l' = [(8, i64 ((k : Nat) : Int)), (3, ux908), (0, .pointer (some ⟨r_b, 0, none⟩)), (2, .slice none 0 0), (7, i64 (((r.num 1).1 : Nat) : Int))] ∧ Valid lab' w' ∧ Stp [1, 5, 908] L9 w12 lab' w' ∧ AppN lab' w' 908 60 ux908 k o ∧ Own lab' w' 1 r_b 159 #[ub1, .bool (q.bad)] ∧ BytesV (q.b) lab' w' ub1 ∧ (k ≤ (r.num 1).1) ∧ (List.length q.b ≤ 1000000) ∧ ((o ++ (Rd.nats1 ((r.num 1).1 - k) q).1, (Rd.nats1 ((r.num 1).1 - k) q).2) = Rd.nats r)) ((r.num 1).1 - 0) (l0 := [(8, i64 ((0 : Nat) : Int)), (3, .slice none 0 0), (0, .pointer (some ⟨r_b, 0, none⟩)), (2, .slice none 0 0), (7, i64 (((r.num 1).1 : Nat) : Int))]) ⟨(congrArg (fun z => some (i64 z)) (show (0 : Int) = ((0 : Nat) : Int) from by first | rfl | omega | (simp_all; done) | exact nx_err | (rw [nx_err]))), rfl, rfl, rfl, rfl, trivial⟩ ⟨0, [], (r.num 1).2, L9, (.slice none 0 0), (.slice A16 (List.length ((r.num 1).2.b)) c17), rfl, rfl, h8, ((Stp.refl _ _).more (by simp)), (AppN.mk (show ([]) = ([]) from by first | rfl) (show 0 = 0 from by first | rfl | omega | (simp_all; done) | exact nx_err | (rw [nx_err])) (App.nil (lab := L9) (w := w12) (d := 908) (t := 60)) trivial), ((show ((r.num 1).2.bad : Bool) = (((r.num 1).2).bad) from by first | rfl | omega | (simp_all; done) | exact nx_err | (rw [nx_err])) ▸ o14), (BytesV.cast (show ((r.num 1).2.b) = (((r.num 1).2).b) from by first | rfl | omega | (simp_all; done) | exact nx_err | (rw [nx_err])) q15), (by first | omega | exact nx_zero (Rd.nats_eq r) | exact nx_step hg (by simpa using hc2) (by omega) | (exact Nat.le_trans ht hb) | exact Nat.le_trans hm hr), (by first | omega | exact nx_zero (Rd.nats_eq r) | exact nx_step hg (by simpa using hc2) (by omega) | (exact Nat.le_trans ht hb) | exact Nat.le_trans hm hr), (by first | omega | exact nx_zero (Rd.nats_eq r) | exact nx_step hg (by simpa using hc2) (by omega) | (exact Nat.le_trans ht hb) | exact Nat.le_trans hm hr)⟩ ?_
  intro m19 l20 w21 H22
  obtain ⟨k, o, q, lab23, v26, u27, hzm, rfl, hv24, s25, o28, o29, q30, hk, hb, hg⟩ := H22
  replace hzm := hzm.symm; subst hzm
  obtain ⟨cs31, o32, q33⟩ := o28
  obtain ⟨A34, c35, rfl⟩ := App.shape o32
  have z37 := (App.row o32).2
  obtain ⟨A38, c39, rfl⟩ := BytesV.shape q30
  have z40 := BytesV.cap q30
  have ht := Rd.text_le q
  refine rsr ?_
  refine sv (Does.lss rfl rfl) ?_
  refine Seq.next ?_
  refine Run.seq ?_
  rcases Decidable.em ((((k : Nat) : Int) : Int) < ((((r.num 1).1 : Nat) : Int) : Int)) with hp1 | hp1
  rotate_left
  · refine Run.cond_b rfl (decide_eq_false hp1) ?_
    refine Run.exit_go (fun _ _ h => h) ?_
    refine rsr ?_
    refine sv (Does.move rfl) ?_
    refine sv (Does.assign rfl) ?_
    refine Seq.next ?_
    have hv164 := Valid.release hv24 908
    have q165 : NatsV o (labFree lab23 908) w21 (.slice A34 (k) c35) := App.nats o32 (EachN.step (Stp.release 908) q33)
    have c166 := s25.trans (Stp.release (lab := lab23) (w := w21) 908)
    have c167 := s7.trans c166
    obtain ⟨lab9, s9, B9⟩ := hX [(1, r_d)] c167 (by decide) hv164
    obtain ⟨zU, zo⟩ := B9.u
    have o168 := o29.up (Stp.release (lab := lab23) (w := w21) 908)
    have q169 := up (Stp.release (lab := lab23) (w := w21) 908) q30
    refine Run.ret ?_
    exact post_one Try.results150 rfl ⟨_, lab9, rfl, ⟨(NatsV.cast (by first | (exact (nx_end hg (by omega)).1; done) | (exact (nx_bad hg hc2).1; done) | (with_reducible rfl; done) | (omega; done) | (simp_all; done)) (up zo q165)), ⟨_, ((show (q.bad : Bool) = ((r.nats).2.bad) from by first | exact (nx_end hg (by omega)).2.2 | exact (nx_end hg (by omega)).2.1 | exact (nx_bad hg hc2).2.2 | exact (nx_bad hg hc2).2.1) ▸ (Own.back o168 B9 r_d rfl (by decide) (by simp [keys]))), (BytesV.cast (show q.b = ((r.nats).2.b) from by first | exact (nx_end hg (by omega)).2.2 | exact (nx_end hg (by omega)).2.1 | exact (nx_bad hg hc2).2.2 | exact (nx_bad hg hc2).2.1) (up zo q169))⟩⟩, s9, B9.v⟩
  refine Run.cond_b rfl (decide_eq_true hp1) ?_
  refine Run.skip_go (fun _ _ h => h) ?_
  refine Run.seq ?_
  refine Run.block ?_
  refine Run.seq ?_
  refine rsr ?_
  refine sv (Does.move rfl) ?_
  refine sv (Does.nilCheck rfl) ?_
  refine sv (Does.fieldAddr' 1 Try.underlying159 rfl ty4 rfl rfl) ?_
  refine sv (Does.load_own1 o29 ty4 rfl rfl) ?_
  refine Seq.next ?_
  rcases bdich (q.bad) with hc2 | hc2
  · refine Run.cond_b rfl hc2 ?_
    refine Run.exit_go (fun _ _ h => h) ?_
    refine rsr ?_
    refine sv (Does.move rfl) ?_
    refine sv (Does.assign rfl) ?_
    refine Seq.next ?_
    have hv41 := Valid.release hv24 908
    have q42 : NatsV o (labFree lab23 908) w21 (.slice A34 (k) c35) := App.nats o32 (EachN.step (Stp.release 908) q33)
    have c43 := s25.trans (Stp.release (lab := lab23) (w := w21) 908)
    have c44 := s7.trans c43
    obtain ⟨lab9, s9, B9⟩ := hX [(1, r_d)] c44 (by decide) hv41
    obtain ⟨zU, zo⟩ := B9.u
    have o45 := o29.up (Stp.release (lab := lab23) (w := w21) 908)
    have q46 := up (Stp.release (lab := lab23) (w := w21) 908) q30
    refine Run.ret ?_
    exact post_one Try.results150 rfl ⟨_, lab9, rfl, ⟨(NatsV.cast (by first | (exact (nx_end hg (by omega)).1; done) | (exact (nx_bad hg hc2).1; done) | (with_reducible rfl; done) | (omega; done) | (simp_all; done)) (up zo q42)), ⟨_, ((show (q.bad : Bool) = ((r.nats).2.bad) from by first | exact (nx_end hg (by omega)).2.2 | exact (nx_end hg (by omega)).2.1 | exact (nx_bad hg hc2).2.2 | exact (nx_bad hg hc2).2.1) ▸ (Own.back o45 B9 r_d rfl (by decide) (by simp [keys]))), (BytesV.cast (show q.b = ((r.nats).2.b) from by first | exact (nx_end hg (by omega)).2.2 | exact (nx_end hg (by omega)).2.1 | exact (nx_bad hg hc2).2.2 | exact (nx_bad hg hc2).2.1) (up zo q46))⟩⟩, s9, B9.v⟩
  refine Run.cond_b rfl hc2 ?_
  refine Run.skip_go (fun _ _ h => h) ?_
  refine rsr ?_
  refine sv (Does.move rfl) ?_
  refine scallE cal103 rfl (rd_text hv24  (r := q) o29 q30 (show  List.length q.b ≤ 1000000 from by first | omega | (simp at *; omega))) fun v47 L52 w55 r54 s50 h51 => ?_
  obtain ⟨q49, o53⟩ := r54
  obtain ⟨v56, o57, q58⟩ := o53
  obtain ⟨A59, c60, rfl⟩ := BytesV.shape q58
  have z61 := BytesV.cap q58
  obtain ⟨A62, c63, rfl⟩ := BytesV.shape q49
  have z64 := BytesV.cap q49
  refine scall (V := And2 (NatV (if 128 < List.length q.text.1 then 0 else nv q.text.1)) (Is (i64 (if 128 < List.length q.text.1 then 4 else 0)))) cal93 h51 rfl (nat_FromBytes h51 q49 (show List.length q.text.1 ≤ 1000000000 from by exact Nat.le_trans (Nat.le_of_lt (Rd.text_len _)) (by omega))) fun v65 w66 q67 s68 h69 => ?_
  obtain ⟨v70, v71, rfl, q72, q73⟩ := q67
  obtain ⟨A74, c75, rfl⟩ := NatV.shape q72
  have z76 := NatV.cap q72
  have q73 := Is.out q73; subst q73
  refine sv (Does.move rfl) ?_
  refine sv (Does.extract rfl rfl) ?_
  refine sv (Does.extract rfl rfl) ?_
  refine salloc 5 [.slice none 0 0] h69 ty60 rfl fun b79 L77 w78 o80 s81 h82 => ?_
  refine sstore [.slice A74 (nw (if 128 < List.length q.text.1 then 0 else nv q.text.1)) c75] h82 o80 ty60 rfl rfl rfl (Nat.le_of_ble_eq_true rfl) rfl rfl fun w83 o84 s85 h86 => ?_
  refine sv (Does.assign rfl) ?_
  refine nsr ?_
  refine sv (Does.move rfl) ?_
  refine sv (Does.move rfl) ?_
  refine sv (Does.nilCheck rfl) ?_
  refine sv (Does.fieldAddr' 1 Try.underlying159 rfl ty4 rfl rfl) ?_
  have c88 := s81.trans s85
  have c89 := s68.trans c88
  have o87 := o57.up c89
  refine sv (Does.load_own1 o87 ty4 rfl rfl) ?_
  refine sv (Does.move rfl) ?_
  rcases bdich ((q.text).2.bad) with hc3 | hc3
  · refine Seq.guard_off' rfl rfl hc3 rfl (by decide) ?_
    refine Seq.guard_off' rfl rfl hc3 rfl (by decide) ?_
    refine sv (Does.pick_b rfl hc3 rfl) ?_
    refine sv (Does.nilCheck rfl) ?_
    refine sv (Does.fieldAddr' 1 Try.underlying159 rfl ty4 rfl rfl) ?_
    refine sstore [.slice A59 (List.length ((q.text).2.b)) c60, .bool true] h86 o87 ty4 rfl rfl rfl (Nat.le_of_ble_eq_true rfl) rfl rfl fun w90 o91 s92 h93 => ?_
    refine Seq.next ?_
    refine Run.region ?_
    refine sv (Does.move rfl) ?_
    have o94 := o84.up s92
    refine sv (Does.load_ownN [.slice A74 (nw (if 128 < List.length q.text.1 then 0 else nv q.text.1)) c75] o94 ty60 rfl rfl) ?_
    refine Seq.build_row [(0, .agg #[.slice A74 (nw (if 128 < List.length q.text.1 then 0 else nv q.text.1)) c75])] [.slice A74 (nw (if 128 < List.length q.text.1 then 0 else nv q.text.1)) c75] h93 Try.underlying38 ty60 (by decide) (by decide) rfl (by kernel_rfl) (by decide) ?_
    intro w95 b96 r97 s98 hv99
    have c101 := s92.trans s98
    have c102 := c89.trans c101
    have c103 := s50.trans c102
    have o100 := o32.up c103
    refine Seq.append (k := 908) [.slice A74 (nw (if 128 < List.length q.text.1 then 0 else nv q.text.1)) c75] hv99 o100 Try.underlying38 ty60 rfl rfl rfl rfl r97 (by intro u hu; rw [List.mem_singleton] at hu; subst hu; rfl) (by first | omega | (simp; omega)) (by first | omega | (simp; omega)) (by decide) ?_
    intro lab104 w105 v106 o107 s108 hv109
    have c111 := c101.trans s108
    have c112 := c88.trans c111
    have q113 := up c112 q72
    have c114 := c103.trans s108
    have q115 := EachN.step c114 q33
    have q110 := EachN.snoc q113 q115
    obtain ⟨A116, c117, rfl⟩ := App.shape o107
    have z119 := (App.row o107).2
    refine sv (Does.assign rfl) ?_
    refine Seq.go (fun _ _ h => h) ?_
    refine Run.region ?_
    refine sv (Does.add rfl rfl (by first | omega | (simp; omega))) ?_
    refine sv (Does.move rfl) ?_
    have c121 := s98.trans s108
    have o120 := o91.up c121
    have c122 := c102.trans s108
    have q123 := up c122 q58
    have c124 := s25.trans c114
    exact Seq.nil (fun a125 h126 => ⟨_, by omega, _, h126.weaken (subs_lk (l' := [(8, i64 (((k + 1) : Nat) : Int)), (3, .slice A116 (k + 1) c117), (0, .pointer (some ⟨r_b, 0, none⟩)), (2, .slice none 0 0), (7, i64 (((r.num 1).1 : Nat) : Int))]) ⟨(congrArg (fun z => some (i64 z)) (show (((k : Nat) : Int) + 1 : Int) = (((k + 1) : Nat) : Int) from by first | rfl | omega | (simp_all; done) | exact nx_err | (rw [nx_err]))), rfl, rfl, rfl, rfl, trivial⟩), ⟨k + 1, o ++ [Rd.natOf q.text.1], (Rd.mk q.text.2.b (q.text.2.bad || decide (128 < List.length q.text.1))), lab104, (.slice A116 (k + 1) c117), (.slice A59 (List.length ((q.text).2.b)) c60), rfl, rfl, hv109, (c124.more (by decide)), (AppN.mk (show (o ++ [if 128 < List.length q.text.1 then 0 else nv q.text.1]) = (o ++ [Rd.natOf q.text.1]) from by first | rfl) (show k + 1 = (k + 1) from by first | rfl | omega | (simp_all; done) | exact nx_err | (rw [nx_err])) o107 q110), ((show (true : Bool) = ((Rd.mk q.text.2.b (q.text.2.bad || decide (128 < List.length q.text.1))).bad) from by first | rfl | omega | (simp_all; done) | exact nx_err | (rw [nx_err])) ▸ o120), (BytesV.cast (show ((q.text).2.b) = ((Rd.mk q.text.2.b (q.text.2.bad || decide (128 < List.length q.text.1))).b) from by first | rfl | omega | (simp_all; done) | exact nx_err | (rw [nx_err])) q123), (by first | omega | exact nx_zero (Rd.nats_eq r) | exact nx_step hg (by simpa using hc2) (by omega) | (exact Nat.le_trans ht hb) | exact Nat.le_trans hm hr), (by first | omega | exact nx_zero (Rd.nats_eq r) | exact nx_step hg (by simpa using hc2) (by omega) | (exact Nat.le_trans ht hb) | exact Nat.le_trans hm hr), (by first | omega | exact nx_zero (Rd.nats_eq r) | exact nx_step hg (by simpa using hc2) (by omega) | (exact Nat.le_trans ht hb) | exact Nat.le_trans hm hr)⟩⟩)
  refine Seq.guard_on' rfl rfl hc3 ?_
  refine sv (Does.move rfl) ?_
  refine Seq.guard_on' rfl rfl hc3 ?_
  refine sv (Does.neq rfl rfl) ?_
  refine sv (Does.pick_b rfl hc3 rfl) ?_
  refine sv (Does.nilCheck rfl) ?_
  refine sv (Does.fieldAddr' 1 Try.underlying159 rfl ty4 rfl rfl) ?_
  refine sstore [.slice A59 (List.length ((q.text).2.b)) c60, .bool (decide ((if 128 < List.length q.text.1 then 4 else 0 : Int) ≠ (0 : Int)))] h86 o87 ty4 rfl rfl rfl (Nat.le_of_ble_eq_true rfl) rfl rfl fun w127 o128 s129 h130 => ?_
  refine Seq.next ?_
  refine Run.region ?_
  refine sv (Does.move rfl) ?_
  have o131 := o84.up s129
  refine sv (Does.load_ownN [.slice A74 (nw (if 128 < List.length q.text.1 then 0 else nv q.text.1)) c75] o131 ty60 rfl rfl) ?_
  refine Seq.build_row [(0, .agg #[.slice A74 (nw (if 128 < List.length q.text.1 then 0 else nv q.text.1)) c75])] [.slice A74 (nw (if 128 < List.length q.text.1 then 0 else nv q.text.1)) c75] h130 Try.underlying38 ty60 (by decide) (by decide) rfl (by kernel_rfl) (by decide) ?_
  intro w132 b133 r134 s135 hv136
  have c138 := s129.trans s135
  have c139 := c89.trans c138
  have c140 := s50.trans c139
  have o137 := o32.up c140
  refine Seq.append (k := 908) [.slice A74 (nw (if 128 < List.length q.text.1 then 0 else nv q.text.1)) c75] hv136 o137 Try.underlying38 ty60 rfl rfl rfl rfl r134 (by intro u hu; rw [List.mem_singleton] at hu; subst hu; rfl) (by first | omega | (simp; omega)) (by first | omega | (simp; omega)) (by decide) ?_
  intro lab141 w142 v143 o144 s145 hv146
  have c148 := c138.trans s145
  have c149 := c88.trans c148
  have q150 := up c149 q72
  have c151 := c140.trans s145
  have q152 := EachN.step c151 q33
  have q147 := EachN.snoc q150 q152
  obtain ⟨A153, c154, rfl⟩ := App.shape o144
  have z156 := (App.row o144).2
  refine sv (Does.assign rfl) ?_
  refine Seq.go (fun _ _ h => h) ?_
  refine Run.region ?_
  refine sv (Does.add rfl rfl (by first | omega | (simp; omega))) ?_
  refine sv (Does.move rfl) ?_
  have c158 := s135.trans s145
  have o157 := o128.up c158
  have c159 := c139.trans s145
  have q160 := up c159 q58
  have c161 := s25.trans c151
  exact Seq.nil (fun a162 h163 => ⟨_, by omega, _, h163.weaken (subs_lk (l' := [(8, i64 (((k + 1) : Nat) : Int)), (3, .slice A153 (k + 1) c154), (0, .pointer (some ⟨r_b, 0, none⟩)), (2, .slice none 0 0), (7, i64 (((r.num 1).1 : Nat) : Int))]) ⟨(congrArg (fun z => some (i64 z)) (show (((k : Nat) : Int) + 1 : Int) = (((k + 1) : Nat) : Int) from by first | rfl | omega | (simp_all; done) | exact nx_err | (rw [nx_err]))), rfl, rfl, rfl, rfl, trivial⟩), ⟨k + 1, o ++ [Rd.natOf q.text.1], (Rd.mk q.text.2.b (q.text.2.bad || decide (128 < List.length q.text.1))), lab141, (.slice A153 (k + 1) c154), (.slice A59 (List.length ((q.text).2.b)) c60), rfl, rfl, hv146, (c161.more (by decide)), (AppN.mk (show (o ++ [if 128 < List.length q.text.1 then 0 else nv q.text.1]) = (o ++ [Rd.natOf q.text.1]) from by first | rfl) (show k + 1 = (k + 1) from by first | rfl | omega | (simp_all; done) | exact nx_err | (rw [nx_err])) o144 q147), ((show (decide ((if 128 < List.length q.text.1 then 4 else 0 : Int) ≠ (0 : Int)) : Bool) = ((Rd.mk q.text.2.b (q.text.2.bad || decide (128 < List.length q.text.1))).bad) from by first | rfl | omega | (simp_all; done) | exact nx_err | (rw [nx_err])) ▸ o157), (BytesV.cast (show ((q.text).2.b) = ((Rd.mk q.text.2.b (q.text.2.bad || decide (128 < List.length q.text.1))).b) from by first | rfl | omega | (simp_all; done) | exact nx_err | (rw [nx_err])) q160), (by first | omega | exact nx_zero (Rd.nats_eq r) | exact nx_step hg (by simpa using hc2) (by omega) | (exact Nat.le_trans ht hb) | exact Nat.le_trans hm hr), (by first | omega | exact nx_zero (Rd.nats_eq r) | exact nx_step hg (by simpa using hc2) (by omega) | (exact Nat.le_trans ht hb) | exact Nat.le_trans hm hr), (by first | omega | exact nx_zero (Rd.nats_eq r) | exact nx_step hg (by simpa using hc2) (by omega) | (exact Nat.le_trans ht hb) | exact Nat.le_trans hm hr)⟩⟩)

end Go.Proofs.Ytgfomedobfaidaa
