/-
  The walks of some functions: what each call comes to.
-/
import Derived.Test.YtgfomedobfaidaaWnum
set_option linter.unusedVariables false
set_option linter.unusedSimpArgs false
set_option maxRecDepth 100000
namespace Go.Proofs.Ytgfomedobfaidaa
open Go.RowKit

theorem wire_nats0 {lab : Lab} {w : World} (hv : Valid lab w) {wrb : Nat} {wr : List UInt8} {wrbad : Bool} (hW : Wr 144 5 lab w wrb wr wrbad) (hw : List.length wr ≤ 900000) :
    Calls Try.prog 94 #[.pointer (some ⟨wrb, 0, none⟩), .slice none 0 0] w (Wrote 144 5 lab w wrb (Is (.tuple #[])) (wr ++ be (u64i 0) (Int.toNat 1)) (wrbad || out_ 0 0 64)) := by
  obtain ⟨vW, oW, aW⟩ := hW
  obtain ⟨A1, c2, rfl⟩ := App.shape aW
  have m3 : List.length wr = List.length wr := App.lenMap aW
  have z4 := (App.row aW).2
  refine calls_run Try.func94 rfl Try.ntmps94 (Nat.le_of_ble_eq_true rfl) ?_
  refine Run.seq ?_
  refine Run.region ?_
  refine Seq.val (Does.move rfl) (by decide) ?_
  refine Seq.val (Does.move rfl) (by decide) ?_
  refine Seq.val (Does.len Try.underlying38 rfl) (by decide) ?_
  refine Seq.callW (V := Is (.tuple #[])) (bs := wr ++ be (u64i 0) (Int.toNat 1)) (bad := wrbad || out_ 0 0 64) cal87 rfl (by decide) (wire_num hv (n := 0) (least := 0) (most := 64) (size := 1) (wr := wr) (wrbad := wrbad) (wrb := wrb) (Wr.mk oW aW) (show 0 ≤ 1 ∧ 1 ≤ 8 from by first | assumption | omega | (simp [be_length, textB, textOr] at * <;> omega) | (simp_all; done)) (show List.length wr ≤ 1000000 from by first | assumption | omega | (simp [be_length, textB, textOr] at * <;> omega) | (simp_all; done))) ?_
  intro lab10 w11 v12 v13 q14 o15 o16 s17 hv18
  obtain ⟨A19, c20, rfl⟩ := App.shape o16
  have m21 : List.length (wr ++ be (u64i 0) (Int.toNat 1)) = List.length (wr ++ be (u64i 0) (Int.toNat 1)) := App.lenMap o16
  have z22 := (App.row o16).2
  have q14 := Is.out q14; subst q14
  refine Seq.go (fun _ _ h => h) ?_
  refine Run.seq ?_
  refine Run.seq ?_
  refine Run.region ?_
  refine Seq.val (Does.move rfl) (by decide) ?_
  refine Seq.val (Does.nilCheck rfl) (by decide) ?_
  refine Seq.val (Does.fieldAddr' 1 Try.underlying144 rfl ty4 rfl rfl) (by decide) ?_
  refine Seq.val (Does.load_own1 o15 ty4 rfl rfl) (by decide) ?_
  refine Seq.go (fun _ _ h => h) ?_
  rcases bdich (wrbad || out_ 0 0 64) with hc1 | hc1
  · skip
    refine Run.cond_b rfl hc1 ?_
    refine Run.ret (ret_then ?_)
    exact post_none Try.results94  ⟨_, rfl, _, rfl, (Wr.cast (show wr ++ be (u64i 0) (Int.toNat 1) = (wr ++ be (u64i 0) (Int.toNat 1)) from by first | rfl | (simp_all; done) | omega | (simp_all; omega)) (show (wrbad || out_ 0 0 64) = (wrbad || out_ 0 0 64) from by first | rfl | (simp_all; done) | omega | (simp_all; omega)) (Wr.mk o15 o16)), s17.more (by decide), hv18⟩
  · skip
    refine Run.cond_b rfl hc1 ?_
    refine Run.skip_go (fun _ _ h => h) ?_
    refine Run.seq ?_
    refine Run.region ?_
    refine Seq.val (Does.move rfl) (by decide) ?_
    refine Seq.val (Does.len Try.underlying38 rfl) (by decide) ?_
    refine Seq.val (Does.move rfl) (by decide) ?_
    refine Seq.go (fun _ _ h => h) ?_
    refine Run.block ?_
    refine Run.loop (fun m' l' w' => ∃ (lab' : Lab), m' = 0 ∧ l' = [(16, i64 0), (0, .pointer (some ⟨wrb, 0, none⟩)), (1, .slice none 0 0), (6, .pointer (some ⟨wrb, 0, none⟩)), (7, .slice none 0 0), (8, i64 0), (9, .tuple #[]), (10, .pointer (some ⟨wrb, 0, none⟩)), (11, .pointer (some ⟨wrb, 0, none⟩)), (12, .pointer (some ⟨wrb, 1, none⟩)), (13, .bool (wrbad || out_ 0 0 64)), (14, .slice none 0 0), (15, i64 0)] ∧ Valid lab' w' ∧ Stp [] lab10 w11 lab' w') (0) (l0 := [(16, i64 0), (0, .pointer (some ⟨wrb, 0, none⟩)), (1, .slice none 0 0), (6, .pointer (some ⟨wrb, 0, none⟩)), (7, .slice none 0 0), (8, i64 0), (9, .tuple #[]), (10, .pointer (some ⟨wrb, 0, none⟩)), (11, .pointer (some ⟨wrb, 0, none⟩)), (12, .pointer (some ⟨wrb, 1, none⟩)), (13, .bool (wrbad || out_ 0 0 64)), (14, .slice none 0 0), (15, i64 0)]) ⟨rfl, rfl, rfl, rfl, rfl, rfl, rfl, rfl, rfl, rfl, rfl, rfl, rfl, trivial⟩ ⟨lab10, rfl, rfl, hv18, ((Stp.refl _ _).more (by simp))⟩ ?_
    intro m23 l24 w25 H26
    obtain ⟨lab27, hzm, rfl, hv28, s29⟩ := H26
    replace hzm := hzm.symm; subst hzm
    refine Run.seq ?_
    refine Run.region ?_
    refine Seq.val (Does.lss rfl rfl) (by decide) ?_
    refine Seq.go (fun _ _ h => h) ?_
    refine Run.seq ?_
    refine Run.cond_b rfl rfl ?_
    have o30 := o15.lift s29 (by decide)
    have o31 := o16.lift s29 (by decide)
    have c32 := s17.trans s29
    refine Run.exit ?_
    exact post_none Try.results94  ⟨_, rfl, _, rfl, (Wr.cast (show wr ++ be (u64i 0) (Int.toNat 1) = (wr ++ be (u64i 0) (Int.toNat 1)) from by first | rfl | (simp_all; done) | omega | (simp_all; omega)) (show (wrbad || out_ 0 0 64) = (wrbad || out_ 0 0 64) from by first | rfl | (simp_all; done) | omega | (simp_all; omega)) (Wr.mk o30 o31)), c32.more (by decide), hv28⟩

theorem wire_texts0 {lab : Lab} {w : World} (hv : Valid lab w) {wrb : Nat} {wr : List UInt8} {wrbad : Bool} (hW : Wr 144 5 lab w wrb wr wrbad) (hw : List.length wr ≤ 900000) :
    Calls Try.prog 95 #[.pointer (some ⟨wrb, 0, none⟩), .slice none 0 0] w (Wrote 144 5 lab w wrb (Is (.tuple #[])) (wr ++ be (u64i 0) (Int.toNat 1)) (wrbad || out_ 0 0 64)) := by
  obtain ⟨vW, oW, aW⟩ := hW
  obtain ⟨A1, c2, rfl⟩ := App.shape aW
  have m3 : List.length wr = List.length wr := App.lenMap aW
  have z4 := (App.row aW).2
  refine calls_run Try.func95 rfl Try.ntmps95 (Nat.le_of_ble_eq_true rfl) ?_
  refine Run.seq ?_
  refine Run.region ?_
  refine Seq.val (Does.move rfl) (by decide) ?_
  refine Seq.val (Does.move rfl) (by decide) ?_
  refine Seq.val (Does.len Try.underlying34 rfl) (by decide) ?_
  refine Seq.callW (V := Is (.tuple #[])) (bs := wr ++ be (u64i 0) (Int.toNat 1)) (bad := wrbad || out_ 0 0 64) cal87 rfl (by decide) (wire_num hv (n := 0) (least := 0) (most := 64) (size := 1) (wr := wr) (wrbad := wrbad) (wrb := wrb) (Wr.mk oW aW) (show 0 ≤ 1 ∧ 1 ≤ 8 from by first | assumption | omega | (simp [be_length, textB, textOr] at * <;> omega) | (simp_all; done)) (show List.length wr ≤ 1000000 from by first | assumption | omega | (simp [be_length, textB, textOr] at * <;> omega) | (simp_all; done))) ?_
  intro lab10 w11 v12 v13 q14 o15 o16 s17 hv18
  obtain ⟨A19, c20, rfl⟩ := App.shape o16
  have m21 : List.length (wr ++ be (u64i 0) (Int.toNat 1)) = List.length (wr ++ be (u64i 0) (Int.toNat 1)) := App.lenMap o16
  have z22 := (App.row o16).2
  have q14 := Is.out q14; subst q14
  refine Seq.go (fun _ _ h => h) ?_
  refine Run.seq ?_
  refine Run.seq ?_
  refine Run.region ?_
  refine Seq.val (Does.move rfl) (by decide) ?_
  refine Seq.val (Does.nilCheck rfl) (by decide) ?_
  refine Seq.val (Does.fieldAddr' 1 Try.underlying144 rfl ty4 rfl rfl) (by decide) ?_
  refine Seq.val (Does.load_own1 o15 ty4 rfl rfl) (by decide) ?_
  refine Seq.go (fun _ _ h => h) ?_
  rcases bdich (wrbad || out_ 0 0 64) with hc1 | hc1
  · skip
    refine Run.cond_b rfl hc1 ?_
    refine Run.ret (ret_then ?_)
    exact post_none Try.results95  ⟨_, rfl, _, rfl, (Wr.cast (show wr ++ be (u64i 0) (Int.toNat 1) = (wr ++ be (u64i 0) (Int.toNat 1)) from by first | rfl | (simp_all; done) | omega | (simp_all; omega)) (show (wrbad || out_ 0 0 64) = (wrbad || out_ 0 0 64) from by first | rfl | (simp_all; done) | omega | (simp_all; omega)) (Wr.mk o15 o16)), s17.more (by decide), hv18⟩
  · skip
    refine Run.cond_b rfl hc1 ?_
    refine Run.skip_go (fun _ _ h => h) ?_
    refine Run.seq ?_
    refine Run.region ?_
    refine Seq.val (Does.move rfl) (by decide) ?_
    refine Seq.val (Does.len Try.underlying34 rfl) (by decide) ?_
    refine Seq.val (Does.move rfl) (by decide) ?_
    refine Seq.go (fun _ _ h => h) ?_
    refine Run.block ?_
    refine Run.loop (fun m' l' w' => ∃ (lab' : Lab), m' = 0 ∧ l' = [(16, i64 0), (0, .pointer (some ⟨wrb, 0, none⟩)), (1, .slice none 0 0), (6, .pointer (some ⟨wrb, 0, none⟩)), (7, .slice none 0 0), (8, i64 0), (9, .tuple #[]), (10, .pointer (some ⟨wrb, 0, none⟩)), (11, .pointer (some ⟨wrb, 0, none⟩)), (12, .pointer (some ⟨wrb, 1, none⟩)), (13, .bool (wrbad || out_ 0 0 64)), (14, .slice none 0 0), (15, i64 0)] ∧ Valid lab' w' ∧ Stp [] lab10 w11 lab' w') (0) (l0 := [(16, i64 0), (0, .pointer (some ⟨wrb, 0, none⟩)), (1, .slice none 0 0), (6, .pointer (some ⟨wrb, 0, none⟩)), (7, .slice none 0 0), (8, i64 0), (9, .tuple #[]), (10, .pointer (some ⟨wrb, 0, none⟩)), (11, .pointer (some ⟨wrb, 0, none⟩)), (12, .pointer (some ⟨wrb, 1, none⟩)), (13, .bool (wrbad || out_ 0 0 64)), (14, .slice none 0 0), (15, i64 0)]) ⟨rfl, rfl, rfl, rfl, rfl, rfl, rfl, rfl, rfl, rfl, rfl, rfl, rfl, trivial⟩ ⟨lab10, rfl, rfl, hv18, ((Stp.refl _ _).more (by simp))⟩ ?_
    intro m23 l24 w25 H26
    obtain ⟨lab27, hzm, rfl, hv28, s29⟩ := H26
    replace hzm := hzm.symm; subst hzm
    refine Run.seq ?_
    refine Run.region ?_
    refine Seq.val (Does.lss rfl rfl) (by decide) ?_
    refine Seq.go (fun _ _ h => h) ?_
    refine Run.seq ?_
    refine Run.cond_b rfl rfl ?_
    have o30 := o15.lift s29 (by decide)
    have o31 := o16.lift s29 (by decide)
    have c32 := s17.trans s29
    refine Run.exit ?_
    exact post_none Try.results95  ⟨_, rfl, _, rfl, (Wr.cast (show wr ++ be (u64i 0) (Int.toNat 1) = (wr ++ be (u64i 0) (Int.toNat 1)) from by first | rfl | (simp_all; done) | omega | (simp_all; omega)) (show (wrbad || out_ 0 0 64) = (wrbad || out_ 0 0 64) from by first | rfl | (simp_all; done) | omega | (simp_all; omega)) (Wr.mk o30 o31)), c32.more (by decide), hv28⟩

theorem wire_uses0 {lab : Lab} {w : World} (hv : Valid lab w) :
    Calls Try.prog 96 #[.agg #[i64 4, i64 2, i64 1, i64 0, i64 0, i64 1, .slice none 0 0, .slice none 0 0, .slice none 0 0]] w (fun e w' => ∃ v, e = .returned v ∧ (Is (.bool true)) lab w' v ∧ Below w.heap.size w w') := by
  have hv0 := hv.ent
  obtain ⟨zU0, z00⟩ := ent_step lab w
  refine calls_run Try.func96 rfl Try.ntmps96 (Nat.le_of_ble_eq_true rfl) ?_
  refine Run.seq ?_
  refine Run.region ?_
  refine Seq.box (k := 2) [i64 4, i64 2, i64 1, i64 0, i64 0, i64 1, .slice none 0 0, .slice none 0 0, .slice none 0 0] hv0 rfl rfl (by decide) ?_
  intro lab1 w2 b3 o4 s5 hv6
  refine Seq.val (Does.assign rfl) (by decide) ?_
  refine Seq.go (fun _ _ h => h) ?_
  refine Run.seq ?_
  refine Run.region ?_
  refine Seq.val (Does.assign rfl) (by decide) ?_
  refine Seq.val (Does.assign rfl) (by decide) ?_
  refine Seq.val (Does.assign rfl) (by decide) ?_
  refine Seq.val (Does.assign rfl) (by decide) ?_
  refine Seq.val (Does.assign rfl) (by decide) ?_
  refine Seq.val (Does.assign rfl) (by decide) ?_
  refine Seq.go (fun _ _ h => h) ?_
  refine Run.seq ?_
  refine Run.seq ?_
  refine Run.region ?_
  refine Seq.val (Does.fieldAddr' 0 Try.underlying40 rfl ty3 rfl rfl) (by decide) ?_
  refine Seq.val (Does.load_own1 o4 ty3 rfl rfl) (by decide) ?_
  refine Seq.go (fun _ _ h => h) ?_
  refine Run.block ?_
  refine Run.seq ?_
  refine Run.region ?_
  refine Seq.val (Does.eql rfl rfl) (by decide) ?_
  refine Seq.val (Does.assign rfl) (by decide) ?_
  refine Seq.go (fun _ _ h => h) ?_
  refine Run.cond_b rfl rfl ?_
  refine Run.seq ?_
  refine Run.seq ?_
  refine Run.region ?_
  refine Seq.val (Does.eql rfl rfl) (by decide) ?_
  refine Seq.val (Does.assign rfl) (by decide) ?_
  refine Seq.go (fun _ _ h => h) ?_
  refine Run.cond_b rfl rfl ?_
  refine Run.region ?_
  refine Seq.val (Does.eql rfl rfl) (by decide) ?_
  refine Seq.val (Does.assign rfl) (by decide) ?_
  refine Seq.go (fun _ _ h => h) ?_
  refine Run.cond_b rfl rfl ?_
  refine Run.seq ?_
  refine Run.seq ?_
  refine Run.region ?_
  refine Seq.val (Does.eql rfl rfl) (by decide) ?_
  refine Seq.val (Does.assign rfl) (by decide) ?_
  refine Seq.go (fun _ _ h => h) ?_
  refine Run.cond_b rfl rfl ?_
  refine Run.region ?_
  refine Seq.val (Does.eql rfl rfl) (by decide) ?_
  refine Seq.val (Does.assign rfl) (by decide) ?_
  refine Seq.go (fun _ _ h => h) ?_
  refine Run.cond_b rfl rfl ?_
  refine Run.seq ?_
  refine Run.region ?_
  refine Seq.val (Does.eql rfl rfl) (by decide) ?_
  refine Seq.val (Does.assign rfl) (by decide) ?_
  refine Seq.go (fun _ _ h => h) ?_
  refine Run.cond_b rfl rfl ?_
  refine Run.region ?_
  refine Seq.val (Does.assign rfl) (by decide) ?_
  refine Seq.go (fun _ _ h => h) ?_
  refine Run.seq ?_
  refine Run.region ?_
  refine Seq.val (Does.move rfl) (by decide) ?_
  refine Seq.val (Does.move rfl) (by decide) ?_
  refine Seq.guard_on' rfl rfl rfl ?_
  refine Seq.val (Does.fieldAddr' 3 Try.underlying40 rfl ty3 rfl rfl) (by decide) ?_
  refine Seq.guard_on' rfl rfl rfl ?_
  refine Seq.val (Does.load_own1 o4 ty3 rfl rfl) (by decide) ?_
  refine Seq.guard_on' rfl rfl rfl ?_
  refine Seq.val (Does.eql rfl rfl) (by decide) ?_
  refine Seq.val (Does.pick_f rfl rfl) (by decide) ?_
  refine Seq.val (Does.move rfl) (by decide) ?_
  refine Seq.guard_on' rfl rfl rfl ?_
  refine Seq.val (Does.move rfl) (by decide) ?_
  refine Seq.guard_on' rfl rfl rfl ?_
  refine Seq.val (Does.move rfl) (by decide) ?_
  refine Seq.guard_on' rfl rfl rfl ?_
  refine Seq.val (Does.fieldAddr' 4 Try.underlying40 rfl ty3 rfl rfl) (by decide) ?_
  refine Seq.guard_on' rfl rfl rfl ?_
  refine Seq.val (Does.load_own1 o4 ty3 rfl rfl) (by decide) ?_
  refine Seq.guard_on' rfl rfl rfl ?_
  refine Seq.val (Does.eql rfl rfl) (by decide) ?_
  refine Seq.guard_on' rfl rfl rfl ?_
  refine Seq.val (Does.pick_f rfl rfl) (by decide) ?_
  refine Seq.val (Does.pick_t rfl rfl) (by decide) ?_
  refine Seq.val (Does.move rfl) (by decide) ?_
  refine Seq.guard_on' rfl rfl rfl ?_
  refine Seq.val (Does.move rfl) (by decide) ?_
  refine Seq.guard_on' rfl rfl rfl ?_
  refine Seq.val (Does.move rfl) (by decide) ?_
  refine Seq.guard_off' rfl rfl rfl rfl (by decide) ?_
  refine Seq.guard_off' rfl rfl rfl rfl (by decide) ?_
  refine Seq.guard_off' rfl rfl rfl rfl (by decide) ?_
  refine Seq.guard_on' rfl rfl rfl ?_
  refine Seq.val (Does.pick_t rfl rfl) (by decide) ?_
  refine Seq.val (Does.pick_t rfl rfl) (by decide) ?_
  refine Seq.val (Does.move rfl) (by decide) ?_
  refine Seq.guard_on' rfl rfl rfl ?_
  refine Seq.val (Does.move rfl) (by decide) ?_
  refine Seq.guard_on' rfl rfl rfl ?_
  refine Seq.val (Does.move rfl) (by decide) ?_
  refine Seq.guard_on' rfl rfl rfl ?_
  refine Seq.val (Does.fieldAddr' 6 Try.underlying40 rfl ty38 rfl rfl) (by decide) ?_
  refine Seq.guard_on' rfl rfl rfl ?_
  refine Seq.val (Does.load_own1 o4 ty38 rfl rfl) (by decide) ?_
  refine Seq.guard_on' rfl rfl rfl ?_
  refine Seq.val (Does.len Try.underlying38 rfl) (by decide) ?_
  refine Seq.guard_on' rfl rfl rfl ?_
  refine Seq.val (Does.eql rfl rfl) (by decide) ?_
  refine Seq.guard_on' rfl rfl rfl ?_
  refine Seq.val (Does.pick_f rfl rfl) (by decide) ?_
  refine Seq.val (Does.pick_t rfl rfl) (by decide) ?_
  refine Seq.val (Does.move rfl) (by decide) ?_
  refine Seq.guard_on' rfl rfl rfl ?_
  refine Seq.val (Does.move rfl) (by decide) ?_
  refine Seq.guard_on' rfl rfl rfl ?_
  refine Seq.val (Does.move rfl) (by decide) ?_
  refine Seq.guard_on' rfl rfl rfl ?_
  refine Seq.val (Does.fieldAddr' 7 Try.underlying40 rfl ty34 rfl rfl) (by decide) ?_
  refine Seq.guard_on' rfl rfl rfl ?_
  refine Seq.val (Does.load_own1 o4 ty34 rfl rfl) (by decide) ?_
  refine Seq.guard_on' rfl rfl rfl ?_
  refine Seq.val (Does.len Try.underlying34 rfl) (by decide) ?_
  refine Seq.guard_on' rfl rfl rfl ?_
  refine Seq.val (Does.eql rfl rfl) (by decide) ?_
  refine Seq.guard_on' rfl rfl rfl ?_
  refine Seq.val (Does.pick_f rfl rfl) (by decide) ?_
  refine Seq.val (Does.pick_t rfl rfl) (by decide) ?_
  refine Seq.val (Does.move rfl) (by decide) ?_
  refine Seq.guard_on' rfl rfl rfl ?_
  refine Seq.val (Does.move rfl) (by decide) ?_
  refine Seq.guard_on' rfl rfl rfl ?_
  refine Seq.val (Does.move rfl) (by decide) ?_
  refine Seq.guard_on' rfl rfl rfl ?_
  refine Seq.val (Does.fieldAddr' 8 Try.underlying40 rfl ty22 rfl rfl) (by decide) ?_
  refine Seq.guard_on' rfl rfl rfl ?_
  refine Seq.val (Does.load_own1 o4 ty22 rfl rfl) (by decide) ?_
  refine Seq.guard_on' rfl rfl rfl ?_
  refine Seq.val (Does.len Try.underlying22 rfl) (by decide) ?_
  refine Seq.guard_on' rfl rfl rfl ?_
  refine Seq.val (Does.eql rfl rfl) (by decide) ?_
  refine Seq.guard_on' rfl rfl rfl ?_
  refine Seq.val (Does.pick_f rfl rfl) (by decide) ?_
  refine Seq.val (Does.pick_t rfl rfl) (by decide) ?_
  refine Seq.val (Does.assign rfl) (by decide) ?_
  refine Seq.go (fun _ _ h => h) ?_
  obtain ⟨zU, zo⟩ := s5.out (by decide) hv
  refine Run.ret ?_
  exact post_one Try.results96 rfl ⟨_, rfl, rfl, s5.leave (by decide)⟩

theorem wire_EncodeEntry0 {lab : Lab} {w : World} (hv : Valid lab w) :
    Calls Try.prog 25 #[.agg #[i64 4, i64 2, i64 1, i64 0, i64 0, i64 1, .slice none 0 0, .slice none 0 0, .slice none 0 0]] w (fun e w' => ∃ v, e = .returned v ∧ (And2 (BytesV ([69, 4, 2, 0, 0, 0, 1, 0, 0, 1, 0, 0, 0, 0])) (Is (i64 0))) lab w' v ∧ Below w.heap.size w w') := by
  have hv0 := hv.ent
  obtain ⟨zU0, z00⟩ := ent_step lab w
  refine calls_run Try.func25 rfl Try.ntmps25 (Nat.le_of_ble_eq_true rfl) ?_
  refine Run.seq ?_
  refine Run.region ?_
  refine Seq.box (k := 2) [i64 4, i64 2, i64 1, i64 0, i64 0, i64 1, .slice none 0 0, .slice none 0 0, .slice none 0 0] hv0 rfl rfl (by decide) ?_
  intro lab1 w2 b3 o4 s5 hv6
  refine Seq.val (Does.assign rfl) (by decide) ?_
  refine Seq.val (Does.assign rfl) (by decide) ?_
  refine Seq.go (fun _ _ h => h) ?_
  refine Run.seq ?_
  refine Run.region ?_
  refine Seq.build_app (k := 902) [(0, .int .u8 69)] (List.map u8 [(69 : UInt8)]) hv6 Try.underlying22 ty5 (by decide) (by decide) rfl rfl (by kernel_rfl) (by decide) ?_
  intro lab7 w8 v9 o10 s11 hv12
  obtain ⟨A13, c14, rfl⟩ := App.shape o10
  have m15 : List.length ([(69 : UInt8)]) = 1 := App.lenMap o10
  have z16 := (App.row o10).2
  refine Seq.val (Does.build [(0, .slice A13 (1) c14)] [(0, 1), (1, 1)] [.slice A13 (1) c14, .bool false] Try.underlying144 ty144 (by kernel_rfl) rfl (by kernel_rfl)) (by decide) ?_
  refine Seq.box (k := 901) [.slice A13 (1) c14, .bool false] hv12 rfl rfl (by decide) ?_
  intro lab17 w18 b19 o20 s21 hv22
  refine Seq.val (Does.assign rfl) (by decide) ?_
  refine Seq.go (fun _ _ h => h) ?_
  refine Run.seq ?_
  refine Run.region ?_
  refine Seq.val (Does.move rfl) (by decide) ?_
  refine Seq.val (Does.fieldAddr' 0 Try.underlying40 rfl ty3 rfl rfl) (by decide) ?_
  have c24 := s11.trans s21
  have o23 := o4.lift c24 (by decide)
  refine Seq.val (Does.load_own1 o23 ty3 rfl rfl) (by decide) ?_
  have o25 := o10.lift s21 (by decide)
  refine Seq.callW (V := Is (.tuple #[])) (bs := ([(69 : UInt8)]) ++ be (u64i 4) (Int.toNat 1)) (bad := false || out_ 4 1 7) cal87 rfl (by decide) (wire_num hv22 (n := 4) (least := 1) (most := 7) (size := 1) (wr := [(69 : UInt8)]) (wrbad := false) (wrb := b19) (Wr.mk o20 o25) (show 0 ≤ 1 ∧ 1 ≤ 8 from by first | (simp [be_length, textB, textOr]; done) | first | assumption | omega | (simp [be_length, textB, textOr] at * <;> omega) | (simp_all; done)) (show List.length ([(69 : UInt8)]) ≤ 1000000 from by first | (simp [be_length, textB, textOr]; done) | first | assumption | omega | (simp [be_length, textB, textOr] at * <;> omega) | (simp_all; done))) ?_
  intro lab31 w32 v33 v34 q35 o36 o37 s38 hv39
  obtain ⟨A40, c41, rfl⟩ := App.shape o37
  have m42 : List.length (([(69 : UInt8)]) ++ be (u64i 4) (Int.toNat 1)) = List.length (([(69 : UInt8)]) ++ be (u64i 4) (Int.toNat 1)) := App.lenMap o37
  have z43 := (App.row o37).2
  have q35 := Is.out q35; subst q35
  refine Seq.go (fun _ _ h => h) ?_
  refine Run.seq ?_
  refine Run.region ?_
  refine Seq.val (Does.move rfl) (by decide) ?_
  refine Seq.val (Does.fieldAddr' 1 Try.underlying40 rfl ty3 rfl rfl) (by decide) ?_
  have o44 := o23.lift s38 (by decide)
  refine Seq.val (Does.load_own1 o44 ty3 rfl rfl) (by decide) ?_
  refine Seq.callW (V := Is (.tuple #[])) (bs := (([(69 : UInt8)]) ++ be (u64i 4) (Int.toNat 1)) ++ be (u64i 2) (Int.toNat 1)) (bad := (false || out_ 4 1 7) || out_ 2 1 64) cal87 rfl (by decide) (wire_num hv39 (n := 2) (least := 1) (most := 64) (size := 1) (wr := ([(69 : UInt8)]) ++ be (u64i 4) (Int.toNat 1)) (wrbad := false || out_ 4 1 7) (wrb := b19) (Wr.mk o36 o37) (show 0 ≤ 1 ∧ 1 ≤ 8 from by first | (simp [be_length, textB, textOr]; done) | first | assumption | omega | (simp [be_length, textB, textOr] at * <;> omega) | (simp_all; done)) (show List.length (([(69 : UInt8)]) ++ be (u64i 4) (Int.toNat 1)) ≤ 1000000 from by first | (simp [be_length, textB, textOr]; done) | first | assumption | omega | (simp [be_length, textB, textOr] at * <;> omega) | (simp_all; done))) ?_
  intro lab50 w51 v52 v53 q54 o55 o56 s57 hv58
  obtain ⟨A59, c60, rfl⟩ := App.shape o56
  have m61 : List.length ((([(69 : UInt8)]) ++ be (u64i 4) (Int.toNat 1)) ++ be (u64i 2) (Int.toNat 1)) = List.length ((([(69 : UInt8)]) ++ be (u64i 4) (Int.toNat 1)) ++ be (u64i 2) (Int.toNat 1)) := App.lenMap o56
  have z62 := (App.row o56).2
  have q54 := Is.out q54; subst q54
  refine Seq.go (fun _ _ h => h) ?_
  refine Run.seq ?_
  refine Run.region ?_
  refine Seq.val (Does.move rfl) (by decide) ?_
  refine Seq.val (Does.fieldAddr' 2 Try.underlying40 rfl ty3 rfl rfl) (by decide) ?_
  have o63 := o44.lift s57 (by decide)
  refine Seq.val (Does.load_own1 o63 ty3 rfl rfl) (by decide) ?_
  refine Seq.callW (V := Is (.tuple #[])) (bs := ((([(69 : UInt8)]) ++ be (u64i 4) (Int.toNat 1)) ++ be (u64i 2) (Int.toNat 1)) ++ be (u64i 1) (Int.toNat 4)) (bad := ((false || out_ 4 1 7) || out_ 2 1 64) || out_ 1 0 1048576) cal87 rfl (by decide) (wire_num hv58 (n := 1) (least := 0) (most := 1048576) (size := 4) (wr := (([(69 : UInt8)]) ++ be (u64i 4) (Int.toNat 1)) ++ be (u64i 2) (Int.toNat 1)) (wrbad := (false || out_ 4 1 7) || out_ 2 1 64) (wrb := b19) (Wr.mk o55 o56) (show 0 ≤ 4 ∧ 4 ≤ 8 from by first | (simp [be_length, textB, textOr]; done) | first | assumption | omega | (simp [be_length, textB, textOr] at * <;> omega) | (simp_all; done)) (show List.length ((([(69 : UInt8)]) ++ be (u64i 4) (Int.toNat 1)) ++ be (u64i 2) (Int.toNat 1)) ≤ 1000000 from by first | (simp [be_length, textB, textOr]; done) | first | assumption | omega | (simp [be_length, textB, textOr] at * <;> omega) | (simp_all; done))) ?_
  intro lab69 w70 v71 v72 q73 o74 o75 s76 hv77
  obtain ⟨A78, c79, rfl⟩ := App.shape o75
  have m80 : List.length (((([(69 : UInt8)]) ++ be (u64i 4) (Int.toNat 1)) ++ be (u64i 2) (Int.toNat 1)) ++ be (u64i 1) (Int.toNat 4)) = List.length (((([(69 : UInt8)]) ++ be (u64i 4) (Int.toNat 1)) ++ be (u64i 2) (Int.toNat 1)) ++ be (u64i 1) (Int.toNat 4)) := App.lenMap o75
  have z81 := (App.row o75).2
  have q73 := Is.out q73; subst q73
  refine Seq.go (fun _ _ h => h) ?_
  refine Run.seq ?_
  refine Run.region ?_
  refine Seq.val (Does.move rfl) (by decide) ?_
  refine Seq.val (Does.fieldAddr' 3 Try.underlying40 rfl ty3 rfl rfl) (by decide) ?_
  have o82 := o63.lift s76 (by decide)
  refine Seq.val (Does.load_own1 o82 ty3 rfl rfl) (by decide) ?_
  refine Seq.callW (V := Is (.tuple #[])) (bs := (((([(69 : UInt8)]) ++ be (u64i 4) (Int.toNat 1)) ++ be (u64i 2) (Int.toNat 1)) ++ be (u64i 1) (Int.toNat 4)) ++ be (u64i 0) (Int.toNat 1)) (bad := (((false || out_ 4 1 7) || out_ 2 1 64) || out_ 1 0 1048576) || out_ 0 0 255) cal87 rfl (by decide) (wire_num hv77 (n := 0) (least := 0) (most := 255) (size := 1) (wr := ((([(69 : UInt8)]) ++ be (u64i 4) (Int.toNat 1)) ++ be (u64i 2) (Int.toNat 1)) ++ be (u64i 1) (Int.toNat 4)) (wrbad := ((false || out_ 4 1 7) || out_ 2 1 64) || out_ 1 0 1048576) (wrb := b19) (Wr.mk o74 o75) (show 0 ≤ 1 ∧ 1 ≤ 8 from by first | (simp [be_length, textB, textOr]; done) | first | assumption | omega | (simp [be_length, textB, textOr] at * <;> omega) | (simp_all; done)) (show List.length (((([(69 : UInt8)]) ++ be (u64i 4) (Int.toNat 1)) ++ be (u64i 2) (Int.toNat 1)) ++ be (u64i 1) (Int.toNat 4)) ≤ 1000000 from by first | (simp [be_length, textB, textOr]; done) | first | assumption | omega | (simp [be_length, textB, textOr] at * <;> omega) | (simp_all; done))) ?_
  intro lab88 w89 v90 v91 q92 o93 o94 s95 hv96
  obtain ⟨A97, c98, rfl⟩ := App.shape o94
  have m99 : List.length ((((([(69 : UInt8)]) ++ be (u64i 4) (Int.toNat 1)) ++ be (u64i 2) (Int.toNat 1)) ++ be (u64i 1) (Int.toNat 4)) ++ be (u64i 0) (Int.toNat 1)) = List.length ((((([(69 : UInt8)]) ++ be (u64i 4) (Int.toNat 1)) ++ be (u64i 2) (Int.toNat 1)) ++ be (u64i 1) (Int.toNat 4)) ++ be (u64i 0) (Int.toNat 1)) := App.lenMap o94
  have z100 := (App.row o94).2
  have q92 := Is.out q92; subst q92
  refine Seq.go (fun _ _ h => h) ?_
  refine Run.seq ?_
  refine Run.region ?_
  refine Seq.val (Does.move rfl) (by decide) ?_
  refine Seq.val (Does.fieldAddr' 4 Try.underlying40 rfl ty3 rfl rfl) (by decide) ?_
  have o101 := o82.lift s95 (by decide)
  refine Seq.val (Does.load_own1 o101 ty3 rfl rfl) (by decide) ?_
  refine Seq.callW (V := Is (.tuple #[])) (bs := ((((([(69 : UInt8)]) ++ be (u64i 4) (Int.toNat 1)) ++ be (u64i 2) (Int.toNat 1)) ++ be (u64i 1) (Int.toNat 4)) ++ be (u64i 0) (Int.toNat 1)) ++ be (u64i 0) (Int.toNat 1)) (bad := ((((false || out_ 4 1 7) || out_ 2 1 64) || out_ 1 0 1048576) || out_ 0 0 255) || out_ 0 0 255) cal87 rfl (by decide) (wire_num hv96 (n := 0) (least := 0) (most := 255) (size := 1) (wr := (((([(69 : UInt8)]) ++ be (u64i 4) (Int.toNat 1)) ++ be (u64i 2) (Int.toNat 1)) ++ be (u64i 1) (Int.toNat 4)) ++ be (u64i 0) (Int.toNat 1)) (wrbad := (((false || out_ 4 1 7) || out_ 2 1 64) || out_ 1 0 1048576) || out_ 0 0 255) (wrb := b19) (Wr.mk o93 o94) (show 0 ≤ 1 ∧ 1 ≤ 8 from by first | (simp [be_length, textB, textOr]; done) | first | assumption | omega | (simp [be_length, textB, textOr] at * <;> omega) | (simp_all; done)) (show List.length ((((([(69 : UInt8)]) ++ be (u64i 4) (Int.toNat 1)) ++ be (u64i 2) (Int.toNat 1)) ++ be (u64i 1) (Int.toNat 4)) ++ be (u64i 0) (Int.toNat 1)) ≤ 1000000 from by first | (simp [be_length, textB, textOr]; done) | first | assumption | omega | (simp [be_length, textB, textOr] at * <;> omega) | (simp_all; done))) ?_
  intro lab107 w108 v109 v110 q111 o112 o113 s114 hv115
  obtain ⟨A116, c117, rfl⟩ := App.shape o113
  have m118 : List.length (((((([(69 : UInt8)]) ++ be (u64i 4) (Int.toNat 1)) ++ be (u64i 2) (Int.toNat 1)) ++ be (u64i 1) (Int.toNat 4)) ++ be (u64i 0) (Int.toNat 1)) ++ be (u64i 0) (Int.toNat 1)) = List.length (((((([(69 : UInt8)]) ++ be (u64i 4) (Int.toNat 1)) ++ be (u64i 2) (Int.toNat 1)) ++ be (u64i 1) (Int.toNat 4)) ++ be (u64i 0) (Int.toNat 1)) ++ be (u64i 0) (Int.toNat 1)) := App.lenMap o113
  have z119 := (App.row o113).2
  have q111 := Is.out q111; subst q111
  refine Seq.go (fun _ _ h => h) ?_
  refine Run.seq ?_
  refine Run.region ?_
  refine Seq.val (Does.move rfl) (by decide) ?_
  refine Seq.val (Does.fieldAddr' 5 Try.underlying40 rfl ty3 rfl rfl) (by decide) ?_
  have o120 := o101.lift s114 (by decide)
  refine Seq.val (Does.load_own1 o120 ty3 rfl rfl) (by decide) ?_
  refine Seq.callW (V := Is (.tuple #[])) (bs := (((((([(69 : UInt8)]) ++ be (u64i 4) (Int.toNat 1)) ++ be (u64i 2) (Int.toNat 1)) ++ be (u64i 1) (Int.toNat 4)) ++ be (u64i 0) (Int.toNat 1)) ++ be (u64i 0) (Int.toNat 1)) ++ be (u64i 1) (Int.toNat 1)) (bad := (((((false || out_ 4 1 7) || out_ 2 1 64) || out_ 1 0 1048576) || out_ 0 0 255) || out_ 0 0 255) || out_ 1 0 255) cal87 rfl (by decide) (wire_num hv115 (n := 1) (least := 0) (most := 255) (size := 1) (wr := ((((([(69 : UInt8)]) ++ be (u64i 4) (Int.toNat 1)) ++ be (u64i 2) (Int.toNat 1)) ++ be (u64i 1) (Int.toNat 4)) ++ be (u64i 0) (Int.toNat 1)) ++ be (u64i 0) (Int.toNat 1)) (wrbad := ((((false || out_ 4 1 7) || out_ 2 1 64) || out_ 1 0 1048576) || out_ 0 0 255) || out_ 0 0 255) (wrb := b19) (Wr.mk o112 o113) (show 0 ≤ 1 ∧ 1 ≤ 8 from by first | (simp [be_length, textB, textOr]; done) | first | assumption | omega | (simp [be_length, textB, textOr] at * <;> omega) | (simp_all; done)) (show List.length (((((([(69 : UInt8)]) ++ be (u64i 4) (Int.toNat 1)) ++ be (u64i 2) (Int.toNat 1)) ++ be (u64i 1) (Int.toNat 4)) ++ be (u64i 0) (Int.toNat 1)) ++ be (u64i 0) (Int.toNat 1)) ≤ 1000000 from by first | (simp [be_length, textB, textOr]; done) | first | assumption | omega | (simp [be_length, textB, textOr] at * <;> omega) | (simp_all; done))) ?_
  intro lab126 w127 v128 v129 q130 o131 o132 s133 hv134
  obtain ⟨A135, c136, rfl⟩ := App.shape o132
  have m137 : List.length ((((((([(69 : UInt8)]) ++ be (u64i 4) (Int.toNat 1)) ++ be (u64i 2) (Int.toNat 1)) ++ be (u64i 1) (Int.toNat 4)) ++ be (u64i 0) (Int.toNat 1)) ++ be (u64i 0) (Int.toNat 1)) ++ be (u64i 1) (Int.toNat 1)) = List.length ((((((([(69 : UInt8)]) ++ be (u64i 4) (Int.toNat 1)) ++ be (u64i 2) (Int.toNat 1)) ++ be (u64i 1) (Int.toNat 4)) ++ be (u64i 0) (Int.toNat 1)) ++ be (u64i 0) (Int.toNat 1)) ++ be (u64i 1) (Int.toNat 1)) := App.lenMap o132
  have z138 := (App.row o132).2
  have q130 := Is.out q130; subst q130
  refine Seq.go (fun _ _ h => h) ?_
  refine Run.seq ?_
  refine Run.region ?_
  refine Seq.val (Does.move rfl) (by decide) ?_
  refine Seq.val (Does.fieldAddr' 6 Try.underlying40 rfl ty38 rfl rfl) (by decide) ?_
  have o139 := o120.lift s133 (by decide)
  refine Seq.val (Does.load_own1 o139 ty38 rfl rfl) (by decide) ?_
  refine Seq.callW (V := Is (.tuple #[])) (bs := ((((((([(69 : UInt8)]) ++ be (u64i 4) (Int.toNat 1)) ++ be (u64i 2) (Int.toNat 1)) ++ be (u64i 1) (Int.toNat 4)) ++ be (u64i 0) (Int.toNat 1)) ++ be (u64i 0) (Int.toNat 1)) ++ be (u64i 1) (Int.toNat 1)) ++ be (u64i 0) (Int.toNat 1)) (bad := ((((((false || out_ 4 1 7) || out_ 2 1 64) || out_ 1 0 1048576) || out_ 0 0 255) || out_ 0 0 255) || out_ 1 0 255) || out_ 0 0 64) cal94 rfl (by decide) (wire_nats0 hv134 (wr := (((((([(69 : UInt8)]) ++ be (u64i 4) (Int.toNat 1)) ++ be (u64i 2) (Int.toNat 1)) ++ be (u64i 1) (Int.toNat 4)) ++ be (u64i 0) (Int.toNat 1)) ++ be (u64i 0) (Int.toNat 1)) ++ be (u64i 1) (Int.toNat 1)) (wrbad := (((((false || out_ 4 1 7) || out_ 2 1 64) || out_ 1 0 1048576) || out_ 0 0 255) || out_ 0 0 255) || out_ 1 0 255) (wrb := b19) (Wr.mk o131 o132) (show List.length ((((((([(69 : UInt8)]) ++ be (u64i 4) (Int.toNat 1)) ++ be (u64i 2) (Int.toNat 1)) ++ be (u64i 1) (Int.toNat 4)) ++ be (u64i 0) (Int.toNat 1)) ++ be (u64i 0) (Int.toNat 1)) ++ be (u64i 1) (Int.toNat 1)) ≤ 900000 from by first | (simp [be_length, textB, textOr]; done) | first | assumption | omega | (simp [be_length, textB, textOr] at * <;> omega) | (simp_all; done))) ?_
  intro lab145 w146 v147 v148 q149 o150 o151 s152 hv153
  obtain ⟨A154, c155, rfl⟩ := App.shape o151
  have m156 : List.length (((((((([(69 : UInt8)]) ++ be (u64i 4) (Int.toNat 1)) ++ be (u64i 2) (Int.toNat 1)) ++ be (u64i 1) (Int.toNat 4)) ++ be (u64i 0) (Int.toNat 1)) ++ be (u64i 0) (Int.toNat 1)) ++ be (u64i 1) (Int.toNat 1)) ++ be (u64i 0) (Int.toNat 1)) = List.length (((((((([(69 : UInt8)]) ++ be (u64i 4) (Int.toNat 1)) ++ be (u64i 2) (Int.toNat 1)) ++ be (u64i 1) (Int.toNat 4)) ++ be (u64i 0) (Int.toNat 1)) ++ be (u64i 0) (Int.toNat 1)) ++ be (u64i 1) (Int.toNat 1)) ++ be (u64i 0) (Int.toNat 1)) := App.lenMap o151
  have z157 := (App.row o151).2
  have q149 := Is.out q149; subst q149
  refine Seq.go (fun _ _ h => h) ?_
  refine Run.seq ?_
  refine Run.region ?_
  refine Seq.val (Does.move rfl) (by decide) ?_
  refine Seq.val (Does.fieldAddr' 7 Try.underlying40 rfl ty34 rfl rfl) (by decide) ?_
  have o158 := o139.lift s152 (by decide)
  refine Seq.val (Does.load_own1 o158 ty34 rfl rfl) (by decide) ?_
  refine Seq.callW (V := Is (.tuple #[])) (bs := (((((((([(69 : UInt8)]) ++ be (u64i 4) (Int.toNat 1)) ++ be (u64i 2) (Int.toNat 1)) ++ be (u64i 1) (Int.toNat 4)) ++ be (u64i 0) (Int.toNat 1)) ++ be (u64i 0) (Int.toNat 1)) ++ be (u64i 1) (Int.toNat 1)) ++ be (u64i 0) (Int.toNat 1)) ++ be (u64i 0) (Int.toNat 1)) (bad := (((((((false || out_ 4 1 7) || out_ 2 1 64) || out_ 1 0 1048576) || out_ 0 0 255) || out_ 0 0 255) || out_ 1 0 255) || out_ 0 0 64) || out_ 0 0 64) cal95 rfl (by decide) (wire_texts0 hv153 (wr := ((((((([(69 : UInt8)]) ++ be (u64i 4) (Int.toNat 1)) ++ be (u64i 2) (Int.toNat 1)) ++ be (u64i 1) (Int.toNat 4)) ++ be (u64i 0) (Int.toNat 1)) ++ be (u64i 0) (Int.toNat 1)) ++ be (u64i 1) (Int.toNat 1)) ++ be (u64i 0) (Int.toNat 1)) (wrbad := ((((((false || out_ 4 1 7) || out_ 2 1 64) || out_ 1 0 1048576) || out_ 0 0 255) || out_ 0 0 255) || out_ 1 0 255) || out_ 0 0 64) (wrb := b19) (Wr.mk o150 o151) (show List.length (((((((([(69 : UInt8)]) ++ be (u64i 4) (Int.toNat 1)) ++ be (u64i 2) (Int.toNat 1)) ++ be (u64i 1) (Int.toNat 4)) ++ be (u64i 0) (Int.toNat 1)) ++ be (u64i 0) (Int.toNat 1)) ++ be (u64i 1) (Int.toNat 1)) ++ be (u64i 0) (Int.toNat 1)) ≤ 900000 from by first | (simp [be_length, textB, textOr]; done) | first | assumption | omega | (simp [be_length, textB, textOr] at * <;> omega) | (simp_all; done))) ?_
  intro lab164 w165 v166 v167 q168 o169 o170 s171 hv172
  obtain ⟨A173, c174, rfl⟩ := App.shape o170
  have m175 : List.length ((((((((([(69 : UInt8)]) ++ be (u64i 4) (Int.toNat 1)) ++ be (u64i 2) (Int.toNat 1)) ++ be (u64i 1) (Int.toNat 4)) ++ be (u64i 0) (Int.toNat 1)) ++ be (u64i 0) (Int.toNat 1)) ++ be (u64i 1) (Int.toNat 1)) ++ be (u64i 0) (Int.toNat 1)) ++ be (u64i 0) (Int.toNat 1)) = List.length ((((((((([(69 : UInt8)]) ++ be (u64i 4) (Int.toNat 1)) ++ be (u64i 2) (Int.toNat 1)) ++ be (u64i 1) (Int.toNat 4)) ++ be (u64i 0) (Int.toNat 1)) ++ be (u64i 0) (Int.toNat 1)) ++ be (u64i 1) (Int.toNat 1)) ++ be (u64i 0) (Int.toNat 1)) ++ be (u64i 0) (Int.toNat 1)) := App.lenMap o170
  have z176 := (App.row o170).2
  have q168 := Is.out q168; subst q168
  refine Seq.go (fun _ _ h => h) ?_
  refine Run.seq ?_
  refine Run.region ?_
  refine Seq.val (Does.move rfl) (by decide) ?_
  refine Seq.val (Does.fieldAddr' 8 Try.underlying40 rfl ty22 rfl rfl) (by decide) ?_
  have o177 := o158.lift s171 (by decide)
  refine Seq.val (Does.load_own1 o177 ty22 rfl rfl) (by decide) ?_
  refine Seq.callW (V := Is (.tuple #[])) (bs := ((((((((([(69 : UInt8)]) ++ be (u64i 4) (Int.toNat 1)) ++ be (u64i 2) (Int.toNat 1)) ++ be (u64i 1) (Int.toNat 4)) ++ be (u64i 0) (Int.toNat 1)) ++ be (u64i 0) (Int.toNat 1)) ++ be (u64i 1) (Int.toNat 1)) ++ be (u64i 0) (Int.toNat 1)) ++ be (u64i 0) (Int.toNat 1)) ++ textOr ([]) 1024) (bad := ((((((((false || out_ 4 1 7) || out_ 2 1 64) || out_ 1 0 1048576) || out_ 0 0 255) || out_ 0 0 255) || out_ 1 0 255) || out_ 0 0 64) || out_ 0 0 64) || decide (1024 < (List.length ([]) : Int))) cal88 rfl (by decide) (wire_text hv172 (most := 1024) (wr := (((((((([(69 : UInt8)]) ++ be (u64i 4) (Int.toNat 1)) ++ be (u64i 2) (Int.toNat 1)) ++ be (u64i 1) (Int.toNat 4)) ++ be (u64i 0) (Int.toNat 1)) ++ be (u64i 0) (Int.toNat 1)) ++ be (u64i 1) (Int.toNat 1)) ++ be (u64i 0) (Int.toNat 1)) ++ be (u64i 0) (Int.toNat 1)) (wrbad := (((((((false || out_ 4 1 7) || out_ 2 1 64) || out_ 1 0 1048576) || out_ 0 0 255) || out_ 0 0 255) || out_ 1 0 255) || out_ 0 0 64) || out_ 0 0 64) (wrb := b19) (Wr.mk o169 o170) (BytesV.nil lab164 w165) (show 0 ≤ 1024 ∧ 1024 ≤ 10000 from by first | (simp [be_length, textB, textOr]; done) | first | assumption | omega | (simp [be_length, textB, textOr] at * <;> omega) | (simp_all; done)) (show List.length ((((((((([(69 : UInt8)]) ++ be (u64i 4) (Int.toNat 1)) ++ be (u64i 2) (Int.toNat 1)) ++ be (u64i 1) (Int.toNat 4)) ++ be (u64i 0) (Int.toNat 1)) ++ be (u64i 0) (Int.toNat 1)) ++ be (u64i 1) (Int.toNat 1)) ++ be (u64i 0) (Int.toNat 1)) ++ be (u64i 0) (Int.toNat 1)) ≤ 900000 from by first | (simp [be_length, textB, textOr]; done) | first | assumption | omega | (simp [be_length, textB, textOr] at * <;> omega) | (simp_all; done))) ?_
  intro lab183 w184 v185 v186 q187 o188 o189 s190 hv191
  obtain ⟨A192, c193, rfl⟩ := App.shape o189
  have m194 : List.length (((((((((([(69 : UInt8)]) ++ be (u64i 4) (Int.toNat 1)) ++ be (u64i 2) (Int.toNat 1)) ++ be (u64i 1) (Int.toNat 4)) ++ be (u64i 0) (Int.toNat 1)) ++ be (u64i 0) (Int.toNat 1)) ++ be (u64i 1) (Int.toNat 1)) ++ be (u64i 0) (Int.toNat 1)) ++ be (u64i 0) (Int.toNat 1)) ++ textOr ([]) 1024) = List.length (((((((((([(69 : UInt8)]) ++ be (u64i 4) (Int.toNat 1)) ++ be (u64i 2) (Int.toNat 1)) ++ be (u64i 1) (Int.toNat 4)) ++ be (u64i 0) (Int.toNat 1)) ++ be (u64i 0) (Int.toNat 1)) ++ be (u64i 1) (Int.toNat 1)) ++ be (u64i 0) (Int.toNat 1)) ++ be (u64i 0) (Int.toNat 1)) ++ textOr ([]) 1024) := App.lenMap o189
  have z195 := (App.row o189).2
  have q187 := Is.out q187; subst q187
  refine Seq.go (fun _ _ h => h) ?_
  refine Run.seq ?_
  refine Run.seq ?_
  refine Run.region ?_
  refine Seq.val (Does.move rfl) (by decide) ?_
  refine Seq.val (Does.nilCheck rfl) (by decide) ?_
  refine Seq.val (Does.fieldAddr' 1 Try.underlying144 rfl ty4 rfl rfl) (by decide) ?_
  refine Seq.val (Does.load_own1 o188 ty4 rfl rfl) (by decide) ?_
  refine Seq.val (Does.move rfl) (by decide) ?_
  rcases bdich (((((((((false || out_ 4 1 7) || out_ 2 1 64) || out_ 1 0 1048576) || out_ 0 0 255) || out_ 0 0 255) || out_ 1 0 255) || out_ 0 0 64) || out_ 0 0 64) || decide (1024 < (List.length ([]) : Int))) with hc1 | hc1
  · skip
    refine Seq.guard_off' rfl rfl hc1 rfl (by decide) ?_
    refine Seq.guard_off' rfl rfl hc1 rfl (by decide) ?_
    refine Seq.guard_off' rfl rfl hc1 rfl (by decide) ?_
    refine Seq.val (Does.pick_b rfl hc1 rfl) (by decide) ?_
    refine Seq.val (Does.move rfl) (by decide) ?_
    refine Seq.guard_off' rfl rfl rfl rfl (by decide) ?_
    refine Seq.guard_off' rfl rfl rfl rfl (by decide) ?_
    refine Seq.guard_off' rfl rfl rfl rfl (by decide) ?_
    refine Seq.guard_off' rfl rfl rfl rfl (by decide) ?_
    refine Seq.guard_off' rfl rfl rfl rfl (by decide) ?_
    refine Seq.guard_off' rfl rfl rfl rfl (by decide) ?_
    refine Seq.val (Does.pick_t rfl rfl) (by decide) ?_
    refine Seq.go (fun _ _ h => h) ?_
    refine Run.cond_b rfl rfl ?_
    refine Run.seq ?_
    refine Run.region ?_
    refine Seq.val (Does.assign rfl) (by decide) ?_
    refine Seq.val (Does.assign rfl) (by decide) ?_
    refine Seq.go (fun _ _ h => h) ?_
    have c196 := s171.trans s190
    have c197 := s152.trans c196
    have c198 := s133.trans c197
    have c199 := s114.trans c198
    have c200 := s95.trans c199
    have c201 := s76.trans c200
    have c202 := s57.trans c201
    have c203 := s38.trans c202
    have c204 := c24.trans c203
    have c205 := s5.trans c204
    obtain ⟨zU, zo⟩ := c205.out (by decide) hv
    refine Run.ret (ret_then ?_)
    exact post_two Try.results25 rfl rfl ⟨_, rfl, ⟨_, _, rfl, (BytesV.cast (show ([] : List UInt8) = [69, 4, 2, 0, 0, 0, 1, 0, 0, 1, 0, 0, 0, 0] from by first | rfl | (exact absurd hc1 (by decide); done) | (exact absurd hc2 (by decide); done) | (decide; done) | (simp_all; done) | omega) (BytesV.nil _ _)), (isI64 (show (3 : Int) = 0 from by first | rfl | (exact absurd hc1 (by decide); done) | (exact absurd hc2 (by decide); done) | (decide; done) | (simp_all; done) | omega) _ _)⟩, c205.leave (by decide)⟩
  · skip
    refine Seq.guard_on' rfl rfl hc1 ?_
    have o206 := o177.lift s190 (by decide)
    refine Seq.val (Does.load_ownN [i64 4, i64 2, i64 1, i64 0, i64 0, i64 1, .slice none 0 0, .slice none 0 0, .slice none 0 0] o206 ty40 rfl rfl) (by decide) ?_
    refine Seq.guard_on' rfl rfl hc1 ?_
    refine Seq.callS (V := Is (.bool true)) cal96 hv191 rfl (by decide) (wire_uses0 hv191 ) ?_
    intro v207 w208 q209 s210 hv211
    have q209 := Is.out q209; subst q209
    refine Seq.guard_on' rfl rfl hc1 ?_
    refine Seq.val (Does.not rfl) (by decide) ?_
    refine Seq.val (Does.pick_b rfl hc1 rfl) (by decide) ?_
    refine Seq.val (Does.move rfl) (by decide) ?_
    refine Seq.guard_on' rfl rfl rfl ?_
    refine Seq.val (Does.move rfl) (by decide) ?_
    refine Seq.guard_on' rfl rfl rfl ?_
    refine Seq.val (Does.nilCheck rfl) (by decide) ?_
    refine Seq.guard_on' rfl rfl rfl ?_
    refine Seq.val (Does.fieldAddr' 0 Try.underlying144 rfl ty22 rfl rfl) (by decide) ?_
    refine Seq.guard_on' rfl rfl rfl ?_
    have o212 := o188.lift s210 (by decide)
    refine Seq.val (Does.load_own1 o212 ty22 rfl rfl) (by decide) ?_
    refine Seq.guard_on' rfl rfl rfl ?_
    refine Seq.val (Does.len Try.underlying22 rfl) (by decide) ?_
    refine Seq.guard_on' rfl rfl rfl ?_
    refine Seq.val (Does.gtr rfl rfl) (by decide) ?_
    refine Seq.val (Does.pick_f rfl rfl) (by decide) ?_
    refine Seq.go (fun _ _ h => h) ?_
    rcases bdich (decide ((4096 : Int) < (((List.length (((((((((([(69 : UInt8)]) ++ be (u64i 4) (Int.toNat 1)) ++ be (u64i 2) (Int.toNat 1)) ++ be (u64i 1) (Int.toNat 4)) ++ be (u64i 0) (Int.toNat 1)) ++ be (u64i 0) (Int.toNat 1)) ++ be (u64i 1) (Int.toNat 1)) ++ be (u64i 0) (Int.toNat 1)) ++ be (u64i 0) (Int.toNat 1)) ++ textOr ([]) 1024) : Nat) : Int) : Int))) with hc2 | hc2
    · skip
      have hp2 := of_decide_eq_true hc2
      refine Run.cond_b rfl hc2 ?_
      refine Run.seq ?_
      refine Run.region ?_
      refine Seq.val (Does.assign rfl) (by decide) ?_
      refine Seq.val (Does.assign rfl) (by decide) ?_
      refine Seq.go (fun _ _ h => h) ?_
      have c213 := s190.trans s210
      have c214 := s171.trans c213
      have c215 := s152.trans c214
      have c216 := s133.trans c215
      have c217 := s114.trans c216
      have c218 := s95.trans c217
      have c219 := s76.trans c218
      have c220 := s57.trans c219
      have c221 := s38.trans c220
      have c222 := c24.trans c221
      have c223 := s5.trans c222
      obtain ⟨zU, zo⟩ := c223.out (by decide) hv
      refine Run.ret (ret_then ?_)
      exact post_two Try.results25 rfl rfl ⟨_, rfl, ⟨_, _, rfl, (BytesV.cast (show ([] : List UInt8) = [69, 4, 2, 0, 0, 0, 1, 0, 0, 1, 0, 0, 0, 0] from by first | rfl | (exact absurd hc1 (by decide); done) | (exact absurd hc2 (by decide); done) | (decide; done) | (simp_all; done) | omega) (BytesV.nil _ _)), (isI64 (show (3 : Int) = 0 from by first | rfl | (exact absurd hc1 (by decide); done) | (exact absurd hc2 (by decide); done) | (decide; done) | (simp_all; done) | omega) _ _)⟩, c223.leave (by decide)⟩
    · skip
      have hp2 := of_decide_eq_false hc2
      refine Run.cond_b rfl hc2 ?_
      refine Run.skip_go (fun _ _ h => h) ?_
      refine Run.seq ?_
      refine Run.region ?_
      refine Seq.val (Does.move rfl) (by decide) ?_
      refine Seq.val (Does.nilCheck rfl) (by decide) ?_
      refine Seq.val (Does.fieldAddr' 0 Try.underlying144 rfl ty22 rfl rfl) (by decide) ?_
      refine Seq.val (Does.load_own1 o212 ty22 rfl rfl) (by decide) ?_
      refine Seq.val (Does.assign rfl) (by decide) ?_
      refine Seq.val (Does.assign rfl) (by decide) ?_
      refine Seq.go (fun _ _ h => h) ?_
      have c224 := s190.trans s210
      have c225 := s171.trans c224
      have c226 := s152.trans c225
      have c227 := s133.trans c226
      have c228 := s114.trans c227
      have c229 := s95.trans c228
      have c230 := s76.trans c229
      have c231 := s57.trans c230
      have c232 := s38.trans c231
      have c233 := c24.trans c232
      have c234 := s5.trans c233
      obtain ⟨zU, zo⟩ := c234.out (by decide) hv
      have o235 := o189.lift s210 (by decide)
      have hv236 := Valid.release hv211 902
      have m238 : List.length (((((((((([(69 : UInt8)]) ++ be (u64i 4) (Int.toNat 1)) ++ be (u64i 2) (Int.toNat 1)) ++ be (u64i 1) (Int.toNat 4)) ++ be (u64i 0) (Int.toNat 1)) ++ be (u64i 0) (Int.toNat 1)) ++ be (u64i 1) (Int.toNat 1)) ++ be (u64i 0) (Int.toNat 1)) ++ be (u64i 0) (Int.toNat 1)) ++ textOr ([]) 1024) = List.length (((((((((([(69 : UInt8)]) ++ be (u64i 4) (Int.toNat 1)) ++ be (u64i 2) (Int.toNat 1)) ++ be (u64i 1) (Int.toNat 4)) ++ be (u64i 0) (Int.toNat 1)) ++ be (u64i 0) (Int.toNat 1)) ++ be (u64i 1) (Int.toNat 1)) ++ be (u64i 0) (Int.toNat 1)) ++ be (u64i 0) (Int.toNat 1)) ++ textOr ([]) 1024) := App.lenMap o235
      have q237 : BytesV (((((((((([(69 : UInt8)]) ++ be (u64i 4) (Int.toNat 1)) ++ be (u64i 2) (Int.toNat 1)) ++ be (u64i 1) (Int.toNat 4)) ++ be (u64i 0) (Int.toNat 1)) ++ be (u64i 0) (Int.toNat 1)) ++ be (u64i 1) (Int.toNat 1)) ++ be (u64i 0) (Int.toNat 1)) ++ be (u64i 0) (Int.toNat 1)) ++ textOr ([]) 1024) (labFree lab183 902) w208 (.slice A192 (List.length (((((((((([(69 : UInt8)]) ++ be (u64i 4) (Int.toNat 1)) ++ be (u64i 2) (Int.toNat 1)) ++ be (u64i 1) (Int.toNat 4)) ++ be (u64i 0) (Int.toNat 1)) ++ be (u64i 0) (Int.toNat 1)) ++ be (u64i 1) (Int.toNat 1)) ++ be (u64i 0) (Int.toNat 1)) ++ be (u64i 0) (Int.toNat 1)) ++ textOr ([]) 1024)) c193) := ⟨_, _, by rw [m238], by rw [m238]; exact (App.row o235).2.1, (App.row o235).2.2, (App.row o235).1⟩
      have c239 := c234.trans (Stp.release 902)
      obtain ⟨zU, zo⟩ := c239.out (by decide) hv
      refine Run.ret ?_
      exact post_two Try.results25 rfl rfl ⟨_, rfl, ⟨_, _, rfl, (BytesV.cast (show ((((((((([(69 : UInt8)]) ++ be (u64i 4) (Int.toNat 1)) ++ be (u64i 2) (Int.toNat 1)) ++ be (u64i 1) (Int.toNat 4)) ++ be (u64i 0) (Int.toNat 1)) ++ be (u64i 0) (Int.toNat 1)) ++ be (u64i 1) (Int.toNat 1)) ++ be (u64i 0) (Int.toNat 1)) ++ be (u64i 0) (Int.toNat 1)) ++ textOr ([]) 1024 = [69, 4, 2, 0, 0, 0, 1, 0, 0, 1, 0, 0, 0, 0] from by first | rfl | (exact absurd hc1 (by decide); done) | (exact absurd hc2 (by decide); done) | (decide; done) | (simp_all; done) | omega) ((BytesV.pers _).step zo q237)), rfl⟩, c239.leave (by decide)⟩

theorem law17_lives {lab : Lab} {w : World} (hv : Valid lab w) :
    Calls Try.prog 19 #[] w (fun e w' => ∃ v, e = .returned v ∧ (Is (.bool true)) lab w' v ∧ Below w.heap.size w w') := by
  have hv0 := hv.ent
  obtain ⟨zU0, z00⟩ := ent_step lab w
  refine calls_run Try.func19 rfl Try.ntmps19 (Nat.le_of_ble_eq_true rfl) ?_
  refine Run.seq ?_
  refine Run.region ?_
  refine Seq.val (Does.assign rfl) (by decide) ?_
  refine Seq.go (fun _ _ h => h) ?_
  refine Run.seq ?_
  refine Run.region ?_
  refine Seq.val (Does.build [(0, .int .i64 4), (1, .int .i64 2), (2, .int .i64 1), (5, .int .i64 1)] [(0, 1), (1, 1), (2, 1), (3, 1), (4, 1), (5, 1), (6, 1), (7, 1), (8, 1)] [.int .i64 4, .int .i64 2, .int .i64 1, .int .i64 0, .int .i64 0, .int .i64 1, .slice none 0 0, .slice none 0 0, .slice none 0 0] Try.underlying40 ty40 (by kernel_rfl) rfl (by kernel_rfl)) (by decide) ?_
  refine Seq.callS (V := And2 (BytesV ([69, 4, 2, 0, 0, 0, 1, 0, 0, 1, 0, 0, 0, 0])) (Is (i64 0))) cal25 hv0 rfl (by decide) (wire_EncodeEntry0 hv0 ) ?_
  intro v1 w2 q3 s4 hv5
  obtain ⟨v6, v7, rfl, q8, q9⟩ := q3
  obtain ⟨A10, c11, rfl⟩ := BytesV.shape q8
  have z12 := BytesV.cap q8
  have q9 := Is.out q9; subst q9
  refine Seq.val (Does.move rfl) (by decide) ?_
  refine Seq.val (Does.extract rfl rfl) (by decide) ?_
  refine Seq.val (Does.extract rfl rfl) (by decide) ?_
  refine Seq.val (Does.assign rfl) (by decide) ?_
  refine Seq.val (Does.assign rfl) (by decide) ?_
  refine Seq.go (fun _ _ h => h) ?_
  refine Run.seq ?_
  refine Run.region ?_
  refine Seq.val (Does.move rfl) (by decide) ?_
  refine Seq.val (Does.eql rfl rfl) (by decide) ?_
  refine Seq.val (Does.move rfl) (by decide) ?_
  refine Seq.guard_on' rfl rfl rfl ?_
  refine Seq.val (Does.move rfl) (by decide) ?_
  refine Seq.guard_on' rfl rfl rfl ?_
  refine Seq.val (Does.conv_str Try.underlying22 Try.underlying5 Try.underlying9 rfl q8) (by decide) ?_
  refine Seq.guard_on' rfl rfl rfl ?_
  refine Seq.val (Does.str_eql rfl rfl) (by decide) ?_
  refine Seq.val (Does.pick_t rfl rfl) (by decide) ?_
  refine Seq.val (Does.assign rfl) (by decide) ?_
  refine Seq.go (fun _ _ h => h) ?_
  obtain ⟨zU, zo⟩ := s4.out (by decide) hv
  refine Run.ret ?_
  exact post_one Try.results19 rfl ⟨_, rfl, (isBool (show ((decide (([69, 4, 2, 0, 0, 0, 1, 0, 0, 1, 0, 0, 0, 0]) = ([69, 4, 2, 0, 0, 0, 1, 0, 0, 1, 0, 0, 0, 0]))) : Bool) = true from by first | rfl | (exact absurd hc1 (by decide); done) | (exact absurd hc1 (by simp); done) | (simp_all; done; done) | (simp_all; done) | omega) _ _), s4.leave (by decide)⟩

end Go.Proofs.Ytgfomedobfaidaa
