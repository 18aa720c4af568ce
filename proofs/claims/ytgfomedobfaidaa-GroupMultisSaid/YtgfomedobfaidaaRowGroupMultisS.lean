/-
  The row of GroupMultis: that the law answers true of every input; part 9 of 9: what the proof needs, in order.
-/
import Derived.Test.YtgfomedobfaidaaMGroupMultis8
import Derived.Carry
import Derived.Deep.Fields
import Derived.Deep.Slices
import Derived.ProofKit
import Derived.Test.YtgfomedobfaidaaRows
section
set_option linter.unusedVariables false
set_option linter.unusedSimpArgs false
set_option maxRecDepth 100000
namespace Go.Proofs.Ytgfomedobfaidaa
open Go.RowKit
theorem law09_lives {lab : Lab} {w : World} (hv : Valid lab w) :
  Calls Try.prog 30 #[] w (fun e w' => ∃ v, e = .returned v ∧ (Is (.bool true)) lab w' v ∧ Below w.heap.size w w') := by
 obtain ⟨L0, h0L, ⟨zU0, z00⟩, hX⟩ := enter0 hv
 refine calls_run Try.func30 rfl Try.ntmps30 (Nat.le_of_ble_eq_true rfl) ?_
 refine rsr ?_
 refine sv (Does.assign rfl) ?_
 refine nsr ?_
 refine scall (V := GroupV (grp 0)) cal31 h0L rfl (law09_GroupN h0L (n := 0)) fun v1 w2 q3 s4 h5 => ?_
 obtain ⟨b6, rfl⟩ := PtrV.shape q3
 refine sv (Does.assign rfl) ?_
 refine nsr ?_
 refine sv (Does.move rfl) ?_
 refine sv (Does.neq_nil Try.underlying56 rfl rfl) ?_
 refine sv (Does.move rfl) ?_
 refine Seq.guard_on' rfl rfl rfl ?_
 refine sv (Does.move rfl) ?_
 refine Seq.guard_on' rfl rfl rfl ?_
 refine scall (V := NatV 64) cal32 h5 rfl (nat_New h5 (x := 64) (show 64 < 18446744073709551616 from by decide +kernel)) fun v7 w8 q9 s10 h11 => ?_
 obtain ⟨A12, c13, rfl⟩ := NatV.shape q9
 have z14 := NatV.cap q9
 refine Seq.guard_on' rfl rfl rfl ?_
 refine scall (V := NatV 101) cal32 h11 rfl (nat_New h11 (x := 101) (show 101 < 18446744073709551616 from by decide +kernel)) fun v15 w16 q17 s18 h19 => ?_
 obtain ⟨A20, c21, rfl⟩ := NatV.shape q17
 have z22 := NatV.cap q17
 refine Seq.guard_on' rfl rfl rfl ?_
 have c23 := s10.trans s18
 have q24 := up c23 q3
 have q25 := up s18 q9
 refine scall (V := NatV (64 ^ 101 % (grp 0).p)) cal37 h19 rfl (group_Exp h19 q24 q25 q17 (show okG (grp 0) from by exact okG_grp _) (show nw 64 ≤ 1000 from by decide +kernel) (show nw 101 ≤ 1000 from by decide +kernel)) fun v26 w27 q28 s29 h30 => ?_
 obtain ⟨A31, c32, rfl⟩ := NatV.shape q28
 have z33 := NatV.cap q28
 refine Seq.guard_on' rfl rfl rfl ?_
 refine scall (V := NatV 1) cal32 h30 rfl (nat_New h30 (x := 1) (show 1 < 18446744073709551616 from by decide +kernel)) fun v34 w35 q36 s37 h38 => ?_
 obtain ⟨A39, c40, rfl⟩ := NatV.shape q36
 have z41 := NatV.cap q36
 refine Seq.guard_on' rfl rfl rfl ?_
 have q42 := up s37 q28
 refine scall (V := Is (i64 (cmpI (64 ^ 101 % (grp 0).p) 1))) cal34 h38 rfl (nat_Cmp h38 q42 q36) fun v43 w44 q45 s46 h47 => ?_
 have q45 := Is.out q45; subst q45
 refine Seq.guard_on' rfl rfl rfl ?_
 refine sv (Does.eql rfl rfl) ?_
 refine sv (Does.pick_t rfl rfl) ?_
 refine sv (Does.move rfl) ?_
 rcases Decidable.em ((cmpI (64 ^ 101 % (grp 0).p) 1 : Int) = (0 : Int)) with hp1 | hp1
 rotate_left
 ·refine Seq.guard_off' rfl rfl (decide_eq_false hp1) rfl (by decide) ?_
  refine Seq.guard_off' rfl rfl (decide_eq_false hp1) rfl (by decide) ?_
  refine Seq.guard_off' rfl rfl (decide_eq_false hp1) rfl (by decide) ?_
  refine Seq.guard_off' rfl rfl (decide_eq_false hp1) rfl (by decide) ?_
  refine sv (Does.pick_b rfl (decide_eq_false hp1) rfl) ?_
  refine sv (Does.move rfl) ?_
  refine Seq.guard_off' rfl rfl rfl rfl (by decide) ?_
  refine Seq.guard_off' rfl rfl rfl rfl (by decide) ?_
  refine sv (Does.pick_f rfl rfl) ?_
  refine sv (Does.assign rfl) ?_
  refine Seq.next ?_
  have c78 := s37.trans s46
  have c79 := s29.trans c78
  have c80 := c23.trans c79
  have c81 := s4.trans c80
  obtain ⟨⟨zU, zo⟩, zb⟩ := hX c81 (by decide)
  refine Run.ret ?_
  exact post_one Try.results30 rfl ⟨_, rfl, (isBool (by exact absurd lv1 hp1) _ _), zb⟩
 refine Seq.guard_on' rfl rfl (decide_eq_true hp1) ?_
 refine sv (Does.move rfl) ?_
 refine Seq.guard_on' rfl rfl (decide_eq_true hp1) ?_
 refine scall (V := NatV 2) cal32 h47 rfl (nat_New h47 (x := 2) (show 2 < 18446744073709551616 from by decide +kernel)) fun v48 w49 q50 s51 h52 => ?_
 obtain ⟨A53, c54, rfl⟩ := NatV.shape q50
 have z55 := NatV.cap q50
 refine Seq.guard_on' rfl rfl (decide_eq_true hp1) ?_
 have c56 := s46.trans s51
 have c57 := s37.trans c56
 have c58 := s29.trans c57
 have q59 := up c58 q24
 refine scall (V := Is (.bool (decide (memP (grp 0) 2)))) cal36 h52 rfl (group_Member h52 q59 q50 (show okG (grp 0) from by exact okG_grp _) (show nw 2 ≤ 1000 from by decide +kernel)) fun v60 w61 q62 s63 h64 => ?_
 have q62 := Is.out q62; subst q62
 refine Seq.guard_on' rfl rfl (decide_eq_true hp1) ?_
 refine sv (Does.not rfl) ?_
 refine sv (Does.pick_b rfl (decide_eq_true hp1) rfl) ?_
 refine sv (Does.move rfl) ?_
 rcases bdich (!(decide (memP (grp 0) 2))) with hc2 | hc2
 rotate_left
 ·refine Seq.guard_off' rfl rfl hc2 rfl (by decide) ?_
  refine Seq.guard_off' rfl rfl hc2 rfl (by decide) ?_
  refine sv (Does.pick_b rfl hc2 rfl) ?_
  refine sv (Does.assign rfl) ?_
  refine Seq.next ?_
  have c75 := c58.trans s63
  have c76 := c23.trans c75
  have c77 := s4.trans c76
  obtain ⟨⟨zU, zo⟩, zb⟩ := hX c77 (by decide)
  refine Run.ret ?_
  exact post_one Try.results30 rfl ⟨_, rfl, (isBool (by (exact absurd hc2 (by rw [decide_eq_false lv2]; decide))) _ _), zb⟩
 refine Seq.guard_on' rfl rfl hc2 ?_
 refine scall (V := GroupV (grp 1)) cal31 h64 rfl (law09_GroupN h64 (n := 1)) fun v65 w66 q67 s68 h69 => ?_
 obtain ⟨b70, rfl⟩ := PtrV.shape q67
 refine Seq.guard_on' rfl rfl hc2 ?_
 refine sv (Does.neq_nil Try.underlying56 rfl rfl) ?_
 refine sv (Does.pick_b rfl hc2 rfl) ?_
 refine sv (Does.assign rfl) ?_
 refine Seq.next ?_
 have c71 := s63.trans s68
 have c72 := c58.trans c71
 have c73 := c23.trans c72
 have c74 := s4.trans c73
 obtain ⟨⟨zU, zo⟩, zb⟩ := hX c74 (by decide)
 refine Run.ret ?_
 exact post_one Try.results30 rfl ⟨_, rfl, rfl, zb⟩
set_option maxHeartbeats 4000000 in
theorem GroupMultis_walk {lab : Lab} {w : World} (hv : Valid lab w) {n : Int} {l : List (List UInt8)} {v1 : Value} (h1 : RowsV l lab w v1) {m : List (List UInt8)} {v2 : Value} (h2 : RowsV m lab w v2) :
  Calls Try.prog 9 #[i64 n, v1, v2] w (fun e w' => ∃ v, e = .returned v ∧ (Is (.bool true)) lab w' v ∧ Below w.heap.size w w') := by
 obtain ⟨L0, h0L, ⟨zU0, z00⟩, hX⟩ := enter0 hv
 replace h1 := up z00 h1
 obtain ⟨A1, c2, rfl⟩ := RowsV.shape h1
 have z3 := RowsV.cap h1
 replace h2 := up z00 h2
 obtain ⟨A4, c5, rfl⟩ := RowsV.shape h2
 have z6 := RowsV.cap h2
 have hG := okG_grp n
 refine calls_run Try.func9 rfl Try.ntmps9 (Nat.le_of_ble_eq_true rfl) ?_
 refine rsr ?_
 refine sv (Does.assign rfl) ?_
 refine Seq.next ?_
 refine Run.seq ?_
 refine rsr ?_
 refine scall (V := Is (.bool true)) cal30 h0L rfl (law09_lives h0L ) fun v7 w8 q9 s10 h11 => ?_
 have q9 := Is.out q9; subst q9
 refine sv (Does.not rfl) ?_
 refine sv (Does.move rfl) ?_
 refine Seq.guard_on' rfl rfl rfl ?_
 refine sv (Does.move rfl) ?_
 refine Seq.guard_on' rfl rfl rfl ?_
 refine sv (Does.len Try.underlying34 rfl) ?_
 refine Seq.guard_on' rfl rfl rfl ?_
 refine sv (Does.gtr rfl rfl) ?_
 refine sv (Does.pick_f rfl rfl) ?_
 refine sv (Does.move rfl) ?_
 rcases Decidable.em ((10 : Int) < (((List.length l : Nat) : Int) : Int)) with hp1 | hp1
 ·refine Seq.guard_off' rfl rfl (decide_eq_true hp1) rfl (by decide) ?_
  refine Seq.guard_off' rfl rfl (decide_eq_true hp1) rfl (by decide) ?_
  refine Seq.guard_off' rfl rfl (decide_eq_true hp1) rfl (by decide) ?_
  refine sv (Does.pick_b rfl (decide_eq_true hp1) rfl) ?_
  refine Seq.next ?_
  refine Run.cond_b rfl rfl ?_
  refine rsr ?_
  refine scall (V := Is (.bool true)) cal30 h11 rfl (law09_lives h11 ) fun v12 w13 q14 s15 h16 => ?_
  have q14 := Is.out q14; subst q14
  refine sv (Does.assign rfl) ?_
  refine Seq.next ?_
  have c17 := s10.trans s15
  obtain ⟨⟨zU, zo⟩, zb⟩ := hX c17 (by decide)
  refine Run.ret (ret_then ?_)
  exact post_one Try.results9 rfl ⟨_, rfl, rfl, zb⟩
 refine Seq.guard_on' rfl rfl (decide_eq_false hp1) ?_
 refine sv (Does.move rfl) ?_
 refine Seq.guard_on' rfl rfl (decide_eq_false hp1) ?_
 refine sv (Does.len Try.underlying34 rfl) ?_
 refine Seq.guard_on' rfl rfl (decide_eq_false hp1) ?_
 refine sv (Does.gtr rfl rfl) ?_
 refine sv (Does.pick_b rfl (decide_eq_false hp1) rfl) ?_
 refine Seq.next ?_
 rcases Decidable.em ((10 : Int) < (((List.length m : Nat) : Int) : Int)) with hp2 | hp2
 ·refine Run.cond_b rfl (decide_eq_true hp2) ?_
  refine rsr ?_
  refine scall (V := Is (.bool true)) cal30 h11 rfl (law09_lives h11 ) fun v18 w19 q20 s21 h22 => ?_
  have q20 := Is.out q20; subst q20
  refine sv (Does.assign rfl) ?_
  refine Seq.next ?_
  have c23 := s10.trans s21
  obtain ⟨⟨zU, zo⟩, zb⟩ := hX c23 (by decide)
  refine Run.ret (ret_then ?_)
  exact post_one Try.results9 rfl ⟨_, rfl, rfl, zb⟩
 refine Run.cond_b rfl (decide_eq_false hp2) ?_
 refine Run.skip_go (fun _ _ h => h) ?_
 refine rsr ?_
 refine sv (Does.move rfl) ?_
 refine scall (V := GroupV (grp n)) cal31 h11 rfl (law09_GroupN h11 (n := n)) fun v24 w25 q26 s27 h28 => ?_
 obtain ⟨b29, rfl⟩ := PtrV.shape q26
 refine sv (Does.assign rfl) ?_
 refine Seq.next ?_
 refine Run.seq ?_
 refine rsr ?_
 refine sv (Does.move rfl) ?_
 refine sv (Does.eql_nil Try.underlying56 rfl rfl) ?_
 refine Seq.next ?_
 refine Run.cond_b rfl rfl ?_
 refine Run.skip_go (fun _ _ h => h) ?_
 refine rsr ?_
 refine sv (Does.assign rfl) ?_
 refine sv (Does.assign rfl) ?_
 refine Seq.next ?_
 refine Run.seq ?_
 refine rsr ?_
 refine sv (Does.move rfl) ?_
 refine sv (Does.len Try.underlying34 rfl) ?_
 refine sv (Does.move rfl) ?_
 refine Seq.next ?_
 refine Run.block ?_
 refine Run.loop (fun m' l' w' => ∃ (k : Nat) (lab' : Lab) (ux908 : Value), m' = List.length l - k ∧ l' = [(37, i64 ((k : Nat) : Int)), (8, ux908), (1, .slice A1 (List.length l) c2), (2, .slice A4 (List.length m) c5), (6, .bool false), (7, .pointer (some ⟨b29, 0, none⟩)), (9, .slice none 0 0), (35, .slice A1 (List.length l) c2), (36, i64 ((List.length l : Nat) : Int))] ∧ Valid lab' w' ∧ Stp [908] L0 w25 lab' w' ∧ AppN lab' w' 908 60 ux908 k (List.map numN (List.take k l)) ∧ (k ≤ List.length l)) (List.length l - 0) (l0 := [(37, i64 ((0 : Nat) : Int)), (8, .slice none 0 0), (1, .slice A1 (List.length l) c2), (2, .slice A4 (List.length m) c5), (6, .bool false), (7, .pointer (some ⟨b29, 0, none⟩)), (9, .slice none 0 0), (35, .slice A1 (List.length l) c2), (36, i64 ((List.length l : Nat) : Int))]) ⟨(congrArg (fun z => some (i64 z)) (show (0 : Int) = ((0 : Nat) : Int) from by rfl)), rfl, rfl, rfl, rfl, rfl, rfl, rfl, rfl, trivial⟩ ⟨0, L0, (.slice none 0 0), rfl, rfl, h28, ((Stp.refl _ _).more (by simp)), (AppN.mk (show ([]) = (List.map numN (List.take 0 l)) from by rfl) (show 0 = 0 from by rfl) (App.nil (lab := L0) (w := w25) (d := 908) (t := 60)) trivial), (by omega)⟩ ?_
 intro m30 l31 w32 H33
 obtain ⟨k, lab34, v37, hzm, rfl, hv35, s36, o38, hk⟩ := H33
 replace hzm := hzm.symm; subst hzm
 obtain ⟨cs39, o40, q41⟩ := o38
 obtain ⟨A42, c43, rfl⟩ := App.shape o40
 have z45 := (App.row o40).2
 refine rsr ?_
 refine sv (Does.lss rfl rfl) ?_
 refine Seq.next ?_
 refine Run.seq ?_
 rcases Decidable.em ((((k : Nat) : Int) : Int) < (((List.length l : Nat) : Int) : Int)) with hp3 | hp3
 ·refine Run.cond_b rfl (decide_eq_true hp3) ?_
  refine Run.skip_go (fun _ _ h => h) ?_
  refine Run.seq ?_
  refine Run.block ?_
  refine rsr ?_
  have c52 := s27.trans s36
  have c53 := s10.trans c52
  have q54 := up c53 h1
  obtain ⟨vs46, u47, m48, r49, q50, q51⟩ := RowsV.at_ q54 k (by omega)
  obtain ⟨A55, c56, rfl⟩ := BytesV.shape q51
  have z57 := BytesV.cap q51
  refine sv (Does.index_row k Try.underlying34 ty22 rfl rfl r49 m48 (by omega) (by omega)) ?_
  refine sv (Does.load_row ty22 rfl r49 q50) ?_
  refine sv (Does.assign rfl) ?_
  refine Seq.next ?_
  refine Run.region ?_
  refine sv (Does.move rfl) ?_
  refine sv (Does.move rfl) ?_
  refine scall (V := NatV (nv (List.take 48 (List.getD l k [])))) cal46 hv35 rfl (law01_Num hv35 q51) fun v58 w59 q60 s61 h62 => ?_
  obtain ⟨A63, c64, rfl⟩ := NatV.shape q60
  have z65 := NatV.cap q60
  refine Seq.build_row [(0, .agg #[.slice A63 (nw (nv (List.take 48 (List.getD l k [])))) c64])] [.slice A63 (nw (nv (List.take 48 (List.getD l k [])))) c64] h62 Try.underlying38 ty60 (by decide) (by decide) rfl (by kernel_rfl) (by decide) ?_
  intro w66 b67 r68 s69 hv70
  have c72 := s61.trans s69
  have o71 := o40.up c72
  refine Seq.append (k := 908) [.slice A63 (nw (nv (List.take 48 (List.getD l k [])))) c64] hv70 o71 Try.underlying38 ty60 rfl rfl rfl rfl r68 (by intro u hu; rw [List.mem_singleton] at hu; subst hu; rfl) (by omega) (by omega) (by decide) ?_
  intro lab73 w74 v75 o76 s77 hv78
  have c80 := s69.trans s77
  have q81 := up c80 q60
  have c82 := c72.trans s77
  have q83 := EachN.step c82 q41
  have q79 := EachN.snoc q81 q83
  obtain ⟨A84, c85, rfl⟩ := App.shape o76
  have z87 := (App.row o76).2
  refine sv (Does.assign rfl) ?_
  refine Seq.go (fun _ _ h => h) ?_
  refine Run.region ?_
  refine sv (Does.add rfl rfl (by omega)) ?_
  refine sv (Does.move rfl) ?_
  have c88 := s36.trans c82
  exact Seq.nil (fun a89 h90 => ⟨_, by omega, _, h90.weaken (subs_lk (l' := [(37, i64 (((k + 1) : Nat) : Int)), (8, .slice A84 (k + 1) c85), (1, .slice A1 (List.length l) c2), (2, .slice A4 (List.length m) c5), (6, .bool false), (7, .pointer (some ⟨b29, 0, none⟩)), (9, .slice none 0 0), (35, .slice A1 (List.length l) c2), (36, i64 ((List.length l : Nat) : Int))]) ⟨(congrArg (fun z => some (i64 z)) (show (((k : Nat) : Int) + 1 : Int) = (((k + 1) : Nat) : Int) from by rfl)), rfl, rfl, rfl, rfl, rfl, rfl, rfl, rfl, trivial⟩), ⟨k + 1, lab73, (.slice A84 (k + 1) c85), rfl, rfl, hv78, (c88.more (by decide)), (AppN.mk (show (List.map numN (List.take k l) ++ [nv (List.take 48 (List.getD l k []))]) = (List.map numN (List.take (k + 1) l)) from by exact map_take_snoc (by omega)) (show k + 1 = (k + 1) from by rfl) o76 q79), (by omega)⟩⟩)
 refine Run.cond_b rfl (decide_eq_false hp3) ?_
 refine Run.exit_go (fun _ _ h => h) ?_
 refine Run.seq ?_
 refine rsr ?_
 refine sv (Does.move rfl) ?_
 refine sv (Does.len Try.underlying34 rfl) ?_
 refine sv (Does.move rfl) ?_
 refine Seq.next ?_
 refine Run.block ?_
 refine Run.loop (fun m' l' w' => ∃ (j : Nat) (lab' : Lab) (ux909 : Value), m' = List.length m - j ∧ l' = [(49, i64 ((j : Nat) : Int)), (9, ux909), (1, .slice A1 (List.length l) c2), (2, .slice A4 (List.length m) c5), (6, .bool false), (7, .pointer (some ⟨b29, 0, none⟩)), (8, .slice A42 (k) c43), (47, .slice A4 (List.length m) c5), (48, i64 ((List.length m : Nat) : Int))] ∧ Valid lab' w' ∧ Stp [909] lab34 w32 lab' w' ∧ AppN lab' w' 909 60 ux909 j (List.map expN (List.take j m)) ∧ (j ≤ List.length m)) (List.length m - 0) (l0 := [(49, i64 ((0 : Nat) : Int)), (9, .slice none 0 0), (1, .slice A1 (List.length l) c2), (2, .slice A4 (List.length m) c5), (6, .bool false), (7, .pointer (some ⟨b29, 0, none⟩)), (8, .slice A42 (k) c43), (47, .slice A4 (List.length m) c5), (48, i64 ((List.length m : Nat) : Int))]) ⟨(congrArg (fun z => some (i64 z)) (show (0 : Int) = ((0 : Nat) : Int) from by rfl)), rfl, rfl, rfl, rfl, rfl, rfl, rfl, rfl, trivial⟩ ⟨0, lab34, (.slice none 0 0), rfl, rfl, hv35, ((Stp.refl _ _).more (by simp)), (AppN.mk (show ([]) = (List.map expN (List.take 0 m)) from by rfl) (show 0 = 0 from by rfl) (App.nil (lab := lab34) (w := w32) (d := 909) (t := 60)) trivial), (by omega)⟩ ?_
 intro m91 l92 w93 H94
 obtain ⟨j, lab95, v98, hzm, rfl, hv96, s97, o99, hj⟩ := H94
 replace hzm := hzm.symm; subst hzm
 obtain ⟨cs100, o101, q102⟩ := o99
 obtain ⟨A103, c104, rfl⟩ := App.shape o101
 have z106 := (App.row o101).2
 refine rsr ?_
 refine sv (Does.lss rfl rfl) ?_
 refine Seq.next ?_
 refine Run.seq ?_
 rcases Decidable.em ((((j : Nat) : Int) : Int) < (((List.length m : Nat) : Int) : Int)) with hp4 | hp4
 ·refine Run.cond_b rfl (decide_eq_true hp4) ?_
  refine Run.skip_go (fun _ _ h => h) ?_
  refine Run.seq ?_
  refine Run.block ?_
  refine rsr ?_
  have c113 := s36.trans s97
  have c114 := s27.trans c113
  have c115 := s10.trans c114
  have q116 := up c115 h2
  obtain ⟨vs107, u108, m109, r110, q111, q112⟩ := RowsV.at_ q116 j (by omega)
  obtain ⟨A117, c118, rfl⟩ := BytesV.shape q112
  have z119 := BytesV.cap q112
  refine sv (Does.index_row j Try.underlying34 ty22 rfl rfl r110 m109 (by omega) (by omega)) ?_
  refine sv (Does.load_row ty22 rfl r110 q111) ?_
  refine sv (Does.assign rfl) ?_
  refine Seq.next ?_
  refine Run.region ?_
  refine sv (Does.move rfl) ?_
  refine sv (Does.move rfl) ?_
  refine sv (Does.move rfl) ?_
  refine sv (Does.len Try.underlying22 rfl) ?_
  refine sv (Does.min_ rfl rfl) ?_
  have q120 := BytesV.takeN q112 ((min ((List.length (List.getD m j []) : Nat) : Int) (12 : Int)).toNat) (by omega)
  refine sv (Does.slice_hi ((min ((List.length (List.getD m j []) : Nat) : Int) (12 : Int)).toNat) Try.underlying22 ty5 rfl rfl (by omega) (by have := (BytesV.cap q112).2; omega)) ?_
  refine scall (V := NatV (nv (List.take 48 (List.take ((min ((List.length (List.getD m j []) : Nat) : Int) (12 : Int)).toNat) (List.getD m j []))))) cal46 hv96 rfl (law01_Num hv96 q120) fun v121 w122 q123 s124 h125 => ?_
  obtain ⟨A126, c127, rfl⟩ := NatV.shape q123
  have z128 := NatV.cap q123
  refine Seq.build_row [(0, .agg #[.slice A126 (nw (nv (List.take 48 (List.take ((min ((List.length (List.getD m j []) : Nat) : Int) (12 : Int)).toNat) (List.getD m j []))))) c127])] [.slice A126 (nw (nv (List.take 48 (List.take ((min ((List.length (List.getD m j []) : Nat) : Int) (12 : Int)).toNat) (List.getD m j []))))) c127] h125 Try.underlying38 ty60 (by decide) (by decide) rfl (by kernel_rfl) (by decide) ?_
  intro w129 b130 r131 s132 hv133
  have c135 := s124.trans s132
  have o134 := o101.up c135
  refine Seq.append (k := 909) [.slice A126 (nw (nv (List.take 48 (List.take ((min ((List.length (List.getD m j []) : Nat) : Int) (12 : Int)).toNat) (List.getD m j []))))) c127] hv133 o134 Try.underlying38 ty60 rfl rfl rfl rfl r131 (by intro u hu; rw [List.mem_singleton] at hu; subst hu; rfl) (by omega) (by omega) (by decide) ?_
  intro lab136 w137 v138 o139 s140 hv141
  have c143 := s132.trans s140
  have q144 := up c143 q123
  have c145 := c135.trans s140
  have q146 := EachN.step c145 q102
  have q142 := EachN.snoc q144 q146
  obtain ⟨A147, c148, rfl⟩ := App.shape o139
  have z150 := (App.row o139).2
  refine sv (Does.assign rfl) ?_
  refine Seq.go (fun _ _ h => h) ?_
  refine Run.region ?_
  refine sv (Does.add rfl rfl (by omega)) ?_
  refine sv (Does.move rfl) ?_
  have c151 := s97.trans c145
  exact Seq.nil (fun a152 h153 => ⟨_, by omega, _, h153.weaken (subs_lk (l' := [(49, i64 (((j + 1) : Nat) : Int)), (9, .slice A147 (j + 1) c148), (1, .slice A1 (List.length l) c2), (2, .slice A4 (List.length m) c5), (6, .bool false), (7, .pointer (some ⟨b29, 0, none⟩)), (8, .slice A42 (k) c43), (47, .slice A4 (List.length m) c5), (48, i64 ((List.length m : Nat) : Int))]) ⟨(congrArg (fun z => some (i64 z)) (show (((j : Nat) : Int) + 1 : Int) = (((j + 1) : Nat) : Int) from by rfl)), rfl, rfl, rfl, rfl, rfl, rfl, rfl, rfl, trivial⟩), ⟨j + 1, lab136, (.slice A147 (j + 1) c148), rfl, rfl, hv141, (c151.more (by decide)), (AppN.mk (show (List.map expN (List.take j m) ++ [nv (List.take 48 (List.take ((min ((List.length (List.getD m j []) : Nat) : Int) (12 : Int)).toNat) (List.getD m j [])))]) = (List.map expN (List.take (j + 1) m)) from by exact map_take_snoc (by omega)) (show j + 1 = (j + 1) from by rfl) o139 q142), (by omega)⟩⟩)
 refine Run.cond_b rfl (decide_eq_false hp4) ?_
 refine Run.exit_go (fun _ _ h => h) ?_
 refine rsr ?_
 refine sv (Does.move rfl) ?_
 refine sv (Does.move rfl) ?_
 refine sv (Does.move rfl) ?_
 have o154 := o40.up s97
 have hv155 := Valid.release hv96 908
 have q157 := EachN.step s97 q41
 have q156 : NatsV (List.map numN (List.take k l)) (labFree lab95 908) w93 (.slice A42 (k) c43) := App.nats o154 (EachN.step (Stp.release 908) q157)
 have o158 := o101.up (Stp.release (lab := lab95) (w := w93) 908)
 have hv159 := Valid.release hv155 909
 have q161 := EachN.step (Stp.release (lab := lab95) (w := w93) 908) q102
 have q160 : NatsV (List.map expN (List.take j m)) (labFree (labFree lab95 908) 909) w93 (.slice A103 (j) c104) := App.nats o158 (EachN.step (Stp.release 909) q161)
 have c162 := (Stp.release (lab := lab95) (w := w93) 908).trans (Stp.release (lab := (labFree lab95 908)) (w := w93) 909)
 have c163 := s97.trans c162
 have c164 := s36.trans c163
 have q165 := up c164 q26
 have q166 := up (Stp.release (lab := (labFree lab95 908)) (w := w93) 909) q156
 refine scall (V := And2 (NatV (if List.length (List.map numN (List.take k l)) = List.length (List.map expN (List.take j m)) then ppAll (List.map numN (List.take k l)) (List.map expN (List.take j m)) % (grp n).p else 0)) (Is (i64 (if List.length (List.map numN (List.take k l)) = List.length (List.map expN (List.take j m)) then 0 else 1)))) cal47 hv159 rfl (group_Multi hv159 q165 q166 q160 (show okG (grp n) from by exact hG) (show ∀ x ∈ (List.map numN (List.take k l)), nw x ≤ 1000 from by exact mapN_nw numN_nw _) (show ∀ e ∈ (List.map expN (List.take j m)), nw e ≤ 1000 from by exact mapN_nw expN_nw _) (show List.length (List.map expN (List.take j m)) ≤ 1000000 from by (rw [List.length_map, List.length_take]; omega))) fun v167 w168 q169 s170 h171 => ?_
 obtain ⟨v172, v173, rfl, q174, q175⟩ := q169
 obtain ⟨A176, c177, rfl⟩ := NatV.shape q174
 have z178 := NatV.cap q174
 have q175 := Is.out q175; subst q175
 refine sv (Does.move rfl) ?_
 refine sv (Does.extract rfl rfl) ?_
 refine sv (Does.extract rfl rfl) ?_
 refine salloc 15 [.slice none 0 0] h171 ty60 rfl fun b181 L179 w180 o182 s183 h184 => ?_
 refine sstore [.slice A176 (nw (if List.length (List.map numN (List.take k l)) = List.length (List.map expN (List.take j m)) then ppAll (List.map numN (List.take k l)) (List.map expN (List.take j m)) % (grp n).p else 0)) c177] h184 o182 ty60 rfl rfl rfl (Nat.le_of_ble_eq_true rfl) rfl rfl fun w185 o186 s187 h188 => ?_
 refine sv (Does.assign rfl) ?_
 refine Seq.next ?_
 refine Run.seq ?_
 refine rsr ?_
 refine sv (Does.move rfl) ?_
 refine sv (Does.len Try.underlying34 rfl) ?_
 refine sv (Does.move rfl) ?_
 refine sv (Does.len Try.underlying34 rfl) ?_
 refine sv (Does.neq rfl rfl) ?_
 refine Seq.next ?_
 rcases Decidable.em ((((List.length l : Nat) : Int) : Int) ≠ (((List.length m : Nat) : Int) : Int)) with hp5 | hp5
 ·refine Run.cond_b rfl (decide_eq_true hp5) ?_
  refine rsr ?_
  refine sv (Does.move rfl) ?_
  refine sv (Does.eql rfl rfl) ?_
  refine sv (Does.move rfl) ?_
  rcases Decidable.em ((if List.length (List.map numN (List.take k l)) = List.length (List.map expN (List.take j m)) then 0 else 1 : Int) = (1 : Int)) with hp6 | hp6
  rotate_left
  ·refine Seq.guard_off' rfl rfl (decide_eq_false hp6) rfl (by decide) ?_
   refine Seq.guard_off' rfl rfl (decide_eq_false hp6) rfl (by decide) ?_
   refine sv (Does.pick_b rfl (decide_eq_false hp6) rfl) ?_
   refine sv (Does.assign rfl) ?_
   refine Seq.next ?_
   have c201 := s183.trans s187
   have c202 := s170.trans c201
   have c203 := c164.trans c202
   have c204 := s27.trans c203
   have c205 := s10.trans c204
   obtain ⟨⟨zU, zo⟩, zb⟩ := hX c205 (by decide)
   refine Run.ret (ret_then ?_)
   exact post_one Try.results9 rfl ⟨_, rfl, (isBool (by exact absurd (if_neg (mul_ne (by omega) (by omega) hp5)) hp6) _ _), zb⟩
  refine Seq.guard_on' rfl rfl (decide_eq_true hp6) ?_
  refine sv (Does.load_ownN [.slice A176 (nw (if List.length (List.map numN (List.take k l)) = List.length (List.map expN (List.take j m)) then ppAll (List.map numN (List.take k l)) (List.map expN (List.take j m)) % (grp n).p else 0)) c177] o186 ty60 rfl rfl) ?_
  refine Seq.guard_on' rfl rfl (decide_eq_true hp6) ?_
  have c189 := s183.trans s187
  have q190 := up c189 q174
  refine scall (V := Is (.bool (decide ((if List.length (List.map numN (List.take k l)) = List.length (List.map expN (List.take j m)) then ppAll (List.map numN (List.take k l)) (List.map expN (List.take j m)) % (grp n).p else 0) = 0)))) cal48 h188 rfl (nat_Zero h188 q190) fun v191 w192 q193 s194 h195 => ?_
  have q193 := Is.out q193; subst q193
  refine sv (Does.pick_b rfl (decide_eq_true hp6) rfl) ?_
  refine sv (Does.assign rfl) ?_
  refine Seq.next ?_
  have c196 := c189.trans s194
  have c197 := s170.trans c196
  have c198 := c164.trans c197
  have c199 := s27.trans c198
  have c200 := s10.trans c199
  obtain ⟨⟨zU, zo⟩, zb⟩ := hX c200 (by decide)
  refine Run.ret (ret_then ?_)
  exact post_one Try.results9 rfl ⟨_, rfl, (isBool (by exact decide_eq_true (if_neg (mul_ne (by omega) (by omega) hp5))) _ _), zb⟩
 refine Run.cond_b rfl (decide_eq_false hp5) ?_
 refine Run.skip_go (fun _ _ h => h) ?_
 refine rsr ?_
 refine scall (V := NatV 1) cal32 h188 rfl (nat_New h188 (x := 1) (show 1 < 18446744073709551616 from by omega)) fun v206 w207 q208 s209 h210 => ?_
 obtain ⟨A211, c212, rfl⟩ := NatV.shape q208
 have z213 := NatV.cap q208
 refine salloc 17 [.slice none 0 0] h210 ty60 rfl fun b216 L214 w215 o217 s218 h219 => ?_
 refine sstore [.slice A211 (nw 1) c212] h219 o217 ty60 rfl rfl rfl (Nat.le_of_ble_eq_true rfl) rfl rfl fun w220 o221 s222 h223 => ?_
 refine Seq.next ?_
 refine Run.seq ?_
 refine rsr ?_
 refine sv (Does.move rfl) ?_
 refine sv (Does.len Try.underlying38 rfl) ?_
 refine sv (Does.move rfl) ?_
 refine Seq.next ?_
 refine Run.block ?_
 have c224 := s218.trans s222
 have q225 := up c224 q208
 refine Run.loop (fun m' l' w' => ∃ (i : Nat) (lab' : Lab) (ub17 : Value), m' = List.length l - i ∧ l' = [(84, i64 ((i : Nat) : Int)), (6, .bool false), (7, .pointer (some ⟨b29, 0, none⟩)), (8, .slice A42 (k) c43), (9, .slice A103 (j) c104), (14, .pointer (some ⟨b181, 0, none⟩)), (15, i64 (if List.length (List.map numN (List.take k l)) = List.length (List.map expN (List.take j m)) then 0 else 1)), (16, .pointer (some ⟨b216, 0, none⟩)), (83, i64 ((k : Nat) : Int))] ∧ Valid lab' w' ∧ Stp [17] L214 w220 lab' w' ∧ Own lab' w' 17 b216 60 #[ub17] ∧ NatV (ppAll (List.take i ((List.map numN (List.take k l)))) (List.take i ((List.map expN (List.take j m)))) % (grp n).p) lab' w' (.agg #[ub17]) ∧ (i ≤ List.length l)) (List.length l - 0) (l0 := [(84, i64 ((0 : Nat) : Int)), (6, .bool false), (7, .pointer (some ⟨b29, 0, none⟩)), (8, .slice A42 (k) c43), (9, .slice A103 (j) c104), (14, .pointer (some ⟨b181, 0, none⟩)), (15, i64 (if List.length (List.map numN (List.take k l)) = List.length (List.map expN (List.take j m)) then 0 else 1)), (16, .pointer (some ⟨b216, 0, none⟩)), (83, i64 ((k : Nat) : Int))]) ⟨(congrArg (fun z => some (i64 z)) (show (0 : Int) = ((0 : Nat) : Int) from by rfl)), rfl, rfl, rfl, rfl, rfl, rfl, rfl, rfl, trivial⟩ ⟨0, L214, (.slice A211 (nw 1) c212), rfl, rfl, h223, ((Stp.refl _ _).more (by simp)), o221, (NatV.cast (show 1 = (ppAll (List.take 0 ((List.map numN (List.take k l)))) (List.take 0 ((List.map expN (List.take j m)))) % (grp n).p) from by exact pp_take_zero hG.1) q225), (by omega)⟩ ?_
 intro m226 l227 w228 H229
 obtain ⟨i, lab230, u233, hzm, rfl, hv231, s232, o234, q235, hi⟩ := H229
 replace hzm := hzm.symm; subst hzm
 obtain ⟨A236, c237, hz⟩ := NatV.shape q235; cases hz
 refine rsr ?_
 refine sv (Does.lss rfl rfl) ?_
 refine Seq.next ?_
 refine Run.seq ?_
 rcases Decidable.em ((((i : Nat) : Int) : Int) < (((k : Nat) : Int) : Int)) with hp6 | hp6
 rotate_left
 ·refine Run.cond_b rfl (decide_eq_false hp6) ?_
  refine Run.exit_go (fun _ _ h => h) ?_
  refine rsr ?_
  refine sv (Does.move rfl) ?_
  refine sv (Does.eql rfl rfl) ?_
  refine sv (Does.move rfl) ?_
  rcases Decidable.em ((if List.length (List.map numN (List.take k l)) = List.length (List.map expN (List.take j m)) then 0 else 1 : Int) = (0 : Int)) with hp7 | hp7
  rotate_left
  ·refine Seq.guard_off' rfl rfl (decide_eq_false hp7) rfl (by decide) ?_
   refine Seq.guard_off' rfl rfl (decide_eq_false hp7) rfl (by decide) ?_
   refine Seq.guard_off' rfl rfl (decide_eq_false hp7) rfl (by decide) ?_
   refine Seq.guard_off' rfl rfl (decide_eq_false hp7) rfl (by decide) ?_
   refine sv (Does.pick_b rfl (decide_eq_false hp7) rfl) ?_
   refine sv (Does.assign rfl) ?_
   refine Seq.next ?_
   have c420 := c224.trans s232
   have c421 := s209.trans c420
   have c422 := s187.trans c421
   have c423 := s183.trans c422
   have c424 := s170.trans c423
   have c425 := c164.trans c424
   have c426 := s27.trans c425
   have c427 := s10.trans c426
   obtain ⟨⟨zU, zo⟩, zb⟩ := hX c427 (by decide)
   refine Run.ret ?_
   exact post_one Try.results9 rfl ⟨_, rfl, (isBool (by exact absurd (if_pos (mul_eq (by omega) (by omega) hp5)) hp7) _ _), zb⟩
  refine Seq.guard_on' rfl rfl (decide_eq_true hp7) ?_
  have c405 := c224.trans s232
  have c406 := s209.trans c405
  have o404 := o186.up c406
  refine sv (Does.load_ownN [.slice A176 (nw (if List.length (List.map numN (List.take k l)) = List.length (List.map expN (List.take j m)) then ppAll (List.map numN (List.take k l)) (List.map expN (List.take j m)) % (grp n).p else 0)) c177] o404 ty60 rfl rfl) ?_
  refine Seq.guard_on' rfl rfl (decide_eq_true hp7) ?_
  refine sv (Does.load_ownN [.slice A236 (nw (ppAll (List.take i ((List.map numN (List.take k l)))) (List.take i ((List.map expN (List.take j m)))) % (grp n).p)) c237] o234 ty60 rfl rfl) ?_
  refine Seq.guard_on' rfl rfl (decide_eq_true hp7) ?_
  have c407 := s187.trans c406
  have c408 := s183.trans c407
  have q409 := up c408 q174
  refine scall (V := Is (i64 (cmpI (if List.length (List.map numN (List.take k l)) = List.length (List.map expN (List.take j m)) then ppAll (List.map numN (List.take k l)) (List.map expN (List.take j m)) % (grp n).p else 0) (ppAll (List.take i ((List.map numN (List.take k l)))) (List.take i ((List.map expN (List.take j m)))) % (grp n).p)))) cal34 hv231 rfl (nat_Cmp hv231 q409 q235) fun v410 w411 q412 s413 h414 => ?_
  have q412 := Is.out q412; subst q412
  refine Seq.guard_on' rfl rfl (decide_eq_true hp7) ?_
  refine sv (Does.eql rfl rfl) ?_
  refine sv (Does.pick_b rfl (decide_eq_true hp7) rfl) ?_
  refine sv (Does.assign rfl) ?_
  refine Seq.next ?_
  have c415 := c408.trans s413
  have c416 := s170.trans c415
  have c417 := c164.trans c416
  have c418 := s27.trans c417
  have c419 := s10.trans c418
  obtain ⟨⟨zU, zo⟩, zb⟩ := hX c419 (by decide)
  refine Run.ret ?_
  exact post_one Try.results9 rfl ⟨_, rfl, (isBool (by (exact decide_eq_true (mul_all (by rw [List.length_map, List.length_take]; omega) (mul_eq (by omega) (by omega) hp5)))) _ _), zb⟩
 refine Run.cond_b rfl (decide_eq_true hp6) ?_
 refine Run.skip_go (fun _ _ h => h) ?_
 refine Run.seq ?_
 refine Run.block ?_
 refine rsr ?_
 refine sv (Does.move rfl) ?_
 refine sv (Does.assign rfl) ?_
 refine Seq.next ?_
 refine Run.open 13 (Φ := [.ex (.pointer (some ⟨b29, 0, none⟩)), .ex (.agg #[.slice A236 (nw (ppAll (List.take i ((List.map numN (List.take k l)))) (List.take i ((List.map expN (List.take j m)))) % (grp n).p)) c237]), .ex (.pointer (some ⟨b29, 0, none⟩)), .ex (.slice A42 (k) c43), .ex (i64 ((i : Nat) : Int)), .ex (.pointer (Option.map (fun zq => Addr.add zq i) A42)), .v (NatV (List.getD (List.map numN (List.take k l)) i 0)), .ex (.slice A103 (j) c104), .ex (i64 ((i : Nat) : Int)), .ex (.pointer (Option.map (fun zq => Addr.add zq i) A103)), .v (NatV (List.getD (List.map expN (List.take j m)) i 0)), .v (NatV ((List.getD (List.map numN (List.take k l)) i 0) ^ (List.getD (List.map expN (List.take j m)) i 0) % (grp n).p)), .v (NatV ((ppAll (List.take i ((List.map numN (List.take k l)))) (List.take i ((List.map expN (List.take j m)))) % (grp n).p) * ((List.getD (List.map numN (List.take k l)) i 0) ^ (List.getD (List.map expN (List.take j m)) i 0) % (grp n).p) % (grp n).p))]) [(12, 99)] mixed (by kernel_rfl) rfl hv231 ⟨(oX [] rfl rfl rfl fun _ _ => Does.move rfl), ?_, (oX [] rfl rfl rfl fun _ _ => Does.move rfl), (oX [] rfl rfl rfl fun _ _ => Does.move rfl), (oX [] rfl rfl rfl fun _ _ => Does.move rfl), ?_, ?_, (oX [] rfl rfl rfl fun _ _ => Does.move rfl), (oX [] rfl rfl rfl fun _ _ => Does.move rfl), ?_, ?_, ?_, ?_, trivial⟩ (fun L385 w386 h387 s388 v389 q390 => ?_)
 ·refine oP [] rfl rfl fun L242 w243 h244 s245 => ?_
  have o246 := o234.up s245
  exact ⟨_, Does.load_ownN [.slice A236 (nw (ppAll (List.take i ((List.map numN (List.take k l)))) (List.take i ((List.map expN (List.take j m)))) % (grp n).p)) c237] o246 ty60 rfl rfl, rfl⟩
 ·refine oP [(3, 90), (4, 91)] rfl rfl fun L259 w260 h261 s262 => ?_
  have c269 := s232.trans s262
  have c270 := c224.trans c269
  have c271 := s209.trans c270
  have c272 := s187.trans c271
  have c273 := s183.trans c272
  have c274 := s170.trans c273
  have q275 := up c274 q166
  obtain ⟨vs263, u264, m265, r266, q267, q268⟩ := NatsV.at_ q275 i (by omega)
  obtain ⟨A276, c277, hz⟩ := NatV.shape q268; cases hz
  have z278 := NatV.cap q268
  exact ⟨_, Does.index_row i Try.underlying38 ty60 rfl rfl r266 m265 (by omega) (by omega), rfl⟩
 ·refine oP [(5, 92)] rfl rfl fun L279 w280 h281 s282 => ?_
  have c289 := s232.trans s282
  have c290 := c224.trans c289
  have c291 := s209.trans c290
  have c292 := s187.trans c291
  have c293 := s183.trans c292
  have c294 := s170.trans c293
  have q295 := up c294 q166
  obtain ⟨vs283, u284, m285, r286, q287, q288⟩ := NatsV.at_ q295 i (by omega)
  obtain ⟨A296, c297, hz⟩ := NatV.shape q288; cases hz
  have z298 := NatV.cap q288
  exact ⟨_, Does.load_rowN ty60 rfl r286 q287, q288⟩
 ·refine oP [(7, 94), (8, 95)] rfl rfl fun L307 w308 h309 s310 => ?_
  have c317 := s232.trans s310
  have c318 := c224.trans c317
  have c319 := s209.trans c318
  have c320 := s187.trans c319
  have c321 := s183.trans c320
  have c322 := s170.trans c321
  have q323 := up c322 q160
  obtain ⟨vs311, u312, m313, r314, q315, q316⟩ := NatsV.at_ q323 i (by omega)
  obtain ⟨A324, c325, hz⟩ := NatV.shape q316; cases hz
  have z326 := NatV.cap q316
  exact ⟨_, Does.index_row i Try.underlying38 ty60 rfl rfl r314 m313 (by omega) (by omega), rfl⟩
 ·refine oP [(9, 96)] rfl rfl fun L327 w328 h329 s330 => ?_
  have c337 := s232.trans s330
  have c338 := c224.trans c337
  have c339 := s209.trans c338
  have c340 := s187.trans c339
  have c341 := s183.trans c340
  have c342 := s170.trans c341
  have q343 := up c342 q160
  obtain ⟨vs331, u332, m333, r334, q335, q336⟩ := NatsV.at_ q343 i (by omega)
  obtain ⟨A344, c345, hz⟩ := NatV.shape q336; cases hz
  have z346 := NatV.cap q336
  exact ⟨_, Does.load_rowN ty60 rfl r334 q335, q336⟩
 ·refine oC [(2, 89), (6, 93), (10, 97)] rfl rfl cal37 fun L347 w348 h349 s350 v351 q352 v356 q357 => ?_
  obtain ⟨A353, c354, rfl⟩ := NatV.shape q352
  have z355 := NatV.cap q352
  obtain ⟨A358, c359, rfl⟩ := NatV.shape q357
  have z360 := NatV.cap q357
  have c361 := s232.trans s350
  have c362 := c224.trans c361
  have c363 := s209.trans c362
  have c364 := s187.trans c363
  have c365 := s183.trans c364
  have c366 := s170.trans c365
  have q367 := up c366 q165
  exact ⟨_, rfl, (group_Exp h349 q367 q352 q357 (show okG (grp n) from by exact hG) (show nw (List.getD (List.map numN (List.take k l)) i 0) ≤ 1000 from by exact nats_nw (mapN_nw numN_nw _) _) (show nw (List.getD (List.map expN (List.take j m)) i 0) ≤ 1000 from by exact nats_nw (mapN_nw expN_nw _) _))⟩
 ·refine oC [(0, 87), (1, 88), (11, 98)] rfl rfl cal49 fun L368 w369 h370 s371 v372 q373 => ?_
  obtain ⟨A374, c375, rfl⟩ := NatV.shape q373
  have z376 := NatV.cap q373
  have c377 := s232.trans s371
  have c378 := c224.trans c377
  have c379 := s209.trans c378
  have c380 := s187.trans c379
  have c381 := s183.trans c380
  have c382 := s170.trans c381
  have q383 := up c382 q165
  have q384 := up s371 q235
  exact ⟨_, rfl, (group_Mul h370 q383 q384 q373 (show okG (grp n) from by exact hG) (show nw (ppAll (List.take i ((List.map numN (List.take k l)))) (List.take i ((List.map expN (List.take j m)))) % (grp n).p) ≤ 1000 from by exact Nat.le_trans (nw_mono (Nat.le_of_lt (Nat.mod_lt _ (by have := hG.1; omega)))) (by have := hG.2.2.1; omega)) (show nw ((List.getD (List.map numN (List.take k l)) i 0) ^ (List.getD (List.map expN (List.take j m)) i 0) % (grp n).p) ≤ 1000 from by exact Nat.le_trans (nw_mono (Nat.le_of_lt (Nat.mod_lt _ (by have := hG.1; omega)))) (by have := hG.2.2.1; omega)))⟩
 obtain ⟨A391, c392, rfl⟩ := NatV.shape q390
 have z393 := NatV.cap q390
 have o394 := o234.up s388
 refine sstore [.slice A391 (nw ((ppAll (List.take i ((List.map numN (List.take k l)))) (List.take i ((List.map expN (List.take j m)))) % (grp n).p) * ((List.getD (List.map numN (List.take k l)) i 0) ^ (List.getD (List.map expN (List.take j m)) i 0) % (grp n).p) % (grp n).p)) c392] h387 o394 ty60 rfl rfl rfl (Nat.le_of_ble_eq_true rfl) rfl rfl fun w395 o396 s397 h398 => ?_
 refine Seq.go (fun _ _ h => h) ?_
 refine Run.region ?_
 refine sv (Does.add rfl rfl (by omega)) ?_
 refine sv (Does.move rfl) ?_
 have q399 := up s397 q390
 have c400 := s388.trans s397
 have c401 := s232.trans c400
 exact Seq.nil (fun a402 h403 => ⟨_, by omega, _, h403.weaken (subs_lk (l' := [(84, i64 (((i + 1) : Nat) : Int)), (6, .bool false), (7, .pointer (some ⟨b29, 0, none⟩)), (8, .slice A42 (k) c43), (9, .slice A103 (j) c104), (14, .pointer (some ⟨b181, 0, none⟩)), (15, i64 (if List.length (List.map numN (List.take k l)) = List.length (List.map expN (List.take j m)) then 0 else 1)), (16, .pointer (some ⟨b216, 0, none⟩)), (83, i64 ((k : Nat) : Int))]) ⟨(congrArg (fun z => some (i64 z)) (show (((i : Nat) : Int) + 1 : Int) = (((i + 1) : Nat) : Int) from by rfl)), rfl, rfl, rfl, rfl, rfl, rfl, rfl, rfl, trivial⟩), ⟨i + 1, L385, (.slice A391 (nw ((ppAll (List.take i ((List.map numN (List.take k l)))) (List.take i ((List.map expN (List.take j m)))) % (grp n).p) * ((List.getD (List.map numN (List.take k l)) i 0) ^ (List.getD (List.map expN (List.take j m)) i 0) % (grp n).p) % (grp n).p)) c392), rfl, rfl, h398, (c401.more (by decide)), o396, (NatV.cast (show ((ppAll (List.take i ((List.map numN (List.take k l)))) (List.take i ((List.map expN (List.take j m)))) % (grp n).p) * ((List.getD (List.map numN (List.take k l)) i 0) ^ (List.getD (List.map expN (List.take j m)) i 0) % (grp n).p) % (grp n).p) = (ppAll (List.take (i + 1) ((List.map numN (List.take k l)))) (List.take (i + 1) ((List.map expN (List.take j m)))) % (grp n).p) from by exact pp_take_step (by simp; omega) (by simp; omega)) q399), (by omega)⟩⟩)
end Go.Proofs.Ytgfomedobfaidaa
end
section
set_option linter.unusedVariables false
set_option linter.unusedSimpArgs false
namespace Go.Proofs.Ytgfomedobfaidaa
open Go.ChangeShapes Go.WideShapes Go.ChangeAt Go.RowKit Go.Deep
abbrev lab0 : Lab := fun _ => none
theorem valid0 (w : World) : Valid lab0 w := fun _ _ => rfl
section
variable {H : Type} {enc : TypeId × Value → H} {P : Program} {w : World} {base : Nat} {spare : Nat → Bool} {held : Bool}
theorem open_bytesV {t e : TypeId} {c : Value} {n : Nat} {y : DataW H × List MemPlace} (ht : P.underlying t = some (.slice e)) (he : P.underlying e = some (.int .u8)) (hc : P.cellsOf e = 1)
  (h : DataW.trod enc P w 0 (fun _ => true) true n t [c] = some y) : ∃ bs, BytesV bs lab0 w c := by
 rcases open_ints ht he hc h with ⟨hcs, _⟩ | ⟨a, len, cap, zs, hcs, _, hl, hm, hz, _, hcell, hwf⟩
 ·simp at hcs; subst hcs
  exact ⟨[], BytesV.nil _ _⟩
 ·simp at hcs; subst hcs
  simp only [if_true] at hz
  refine ⟨(zs.take len).map (fun z => UInt8.ofNat z.toNat), some a, cap, by simp; omega, by simp; omega, by unfold maxLen at hm; omega, ?_⟩
  by_cases h0 : zs.length = 0
  ·have : zs = [] := List.eq_nil_of_length_eq_zero h0
   subst this
   simp
   exact RowAt.nil
  ·obtain ⟨b, o, s⟩ := a
   obtain rfl : s = none := by simpa [Addr.add] using World.cell?_spot (hcell 0 (by omega))
   have hb : ∃ arr t' fr, w.heap[b]? = some (.cells arr t' fr) := by
    have := hcell 0 (by omega)
    rw [add_flat] at this
    unfold World.cell? at this
    dsimp only at this
    cases hq : w.heap[b]? with
    | none => rw [hq] at this; cases this
    | some ob =>
     cases ob with
     | cells arr t' fr => exact ⟨arr, t', fr, rfl⟩
     | _ => rw [hq] at this; cases this
   obtain ⟨arr, t', fr, hb⟩ := hb
   refine .inr ⟨b, o, arr, t', fr, rfl, rfl, hb, fun j v hj => ?_⟩
   rw [List.map_map, List.getElem?_map, Option.map_eq_some_iff] at hj
   obtain ⟨z, hzj, rfl⟩ := hj
   have hjl : j < len := by
    by_cases hjl : j < len
    ·exact hjl
    ·rw [List.getElem?_take, if_neg hjl] at hzj; cases hzj
   rw [List.getElem?_take_of_lt hjl] at hzj
   have hjz : j < zs.length := (List.getElem?_eq_some_iff.1 hzj).1
   have hc2 := hcell j hjz
   rw [add_flat, cell_of_row w b _ arr t' fr hb] at hc2
   rw [hc2]
   have e1 : zs.getD j 0 = z := by simp [List.getD, hzj]
   rw [e1]
   have hw := hwf z (List.mem_of_getElem? hzj)
   have h1 : IntKind.u8.min = 0 := rfl
   have h2 : IntKind.u8.max = 255 := rfl
   simp only [Lit.wf, Bool.and_eq_true, decide_eq_true_eq] at hw
   simp only [Function.comp_apply]
   congr 2
   simp
   omega
theorem open_i64 {t : TypeId} {c : Value} {n : Nat} {y : DataW H × List MemPlace} (ht : P.underlying t = some (.int .i64)) (h : DataW.trod enc P w base spare held n t [c] = some y) : ∃ x, c = i64 x ∧ -9223372036854775808 ≤ x ∧ x < 9223372036854775808 := by
 obtain ⟨x, hx, _, hw⟩ := DataW.trod_int ht h
 simp at hx
 have h1 : IntKind.i64.min = -9223372036854775808 := rfl
 have h2 : IntKind.i64.max = 9223372036854775807 := rfl
 simp only [Lit.wf, Bool.and_eq_true, decide_eq_true_eq] at hw
 exact ⟨x, hx, by omega, by omega⟩
theorem post_of_below {f : Func} {s : ChangeSpec} {apart fresh handsOn again : Bool} {W W' : World} {args : Array Value} {v : Value} {ds gs : List (DataW H)} {before pa pv : List MemPlace}
  (hW : DataW.Whole enc P f.params.toList s.vars apart W args.toList ds gs before)
  (hres : ∀ (b : Nat) (sp : Nat → Bool) (hd : Bool), DataW.TrodAll enc P W' b sp hd f.resultTypes.toList (v.resultList f.resultTypes.size) (s.fn H (ds ++ gs)).results [])
  (hargs : ∀ sp : Nat → Bool, (∀ p ∈ before, sp p.block = true) → DataW.TrodAll enc P W' 0 sp true f.params.toList args.toList (s.fn H (ds ++ gs)).args pa)
  (hvars : ∀ sp : Nat → Bool, (∀ p ∈ before, sp p.block = true) → DataW.TrodVars enc P W' sp s.vars (s.fn H (ds ++ gs)).vars pv)
  (hps : before = pa ++ pv) (hb : Below W.heap.size W W')
  (hok : ∀ (j : Nat) (t : TypeId) (r : Value), f.resultTypes[j]? = some t → (v.resultList f.resultTypes.size)[j]? = some r → Value.okWide P W' .any 0 t r) :
  s.post enc P f apart fresh handsOn again W args v W' := by
 have hlt : ∀ p ∈ before, p.block < W.heap.size := fun p hp => hW.lt p hp
 have hold : ∀ p ∈ before, (fun b => decide (b < W.heap.size)) p.block = true := fun p hp => by simpa using hlt p hp
 refine ⟨ds, gs, before, [], pa, pv, hW, hres _ _ _, hargs _ hold, hvars _ hold, World.keptBut_mono (fun p hp => ⟨hp, ?_⟩) (hb.frame (· ∈ before)), fun _ => ?_⟩
 ·rw [hps, List.mem_append] at hp
  exact Or.inr hp
 ·obtain ⟨_, _, _, _, _, hz, hn⟩ := hW
  refine ⟨hok, _, _, ([] ++ pa) ++ pv, ⟨[] ++ pa, pv, trodAll_append (hargs _ (fun _ _ => rfl)) (hres _ _ _), hvars _ (fun _ _ => rfl), rfl, ?_, ?_⟩, ?_⟩
  ·intro b off hp
   have hin : MemPlace.cell b off ∈ before := by rw [hps]; simpa using hp
   rw [hb.frozen (hlt _ hin)]
   exact hz b off hin
  ·intro ha
   have := hn ha
   rw [hps] at this
   simpa using this
  ·intro p hp _
   rw [hps]
   simpa using hp
theorem arg_still {t : TypeId} (hl : laidOutB P = true) (hr : P.readableRec t = true) (hrow : t < P.types.size) {W W' : World} {v : Value} {d : DataW H} {ps : List MemPlace} (h : DataW.Trod enc P W 0 (fun _ => true) true t v d ps) (hb : Below W.heap.size W W') (hlt : ∀ x ∈ ps, x.block < W.heap.size) {sp : Nat → Bool} (hs : ∀ p ∈ ps, sp p.block = true) : DataW.Trod enc P W' 0 sp true t v d ps :=
 WideElems.Trod_stays hl hr hrow h (fun x hx => hb.same (hlt x hx)) hs
end
end Go.Proofs.Ytgfomedobfaidaa
end
section
set_option linter.unusedVariables false
set_option linter.unusedSimpArgs false
namespace Go.Proofs.Ytgfomedobfaidaa
open Go.ChangeShapes Go.WideShapes Go.ChangeAt Go.RowKit Go.Deep
section
variable {H : Type} {enc : TypeId × Value → H} {P : Program} {w : World}
theorem cells_of_spot {a : Addr} {v : Value} (h : w.cell? a = some v) (hs : a.spot = none) : ∃ arr t fr, w.heap[a.block]? = some (.cells arr t fr) := by
 obtain ⟨b, o, s⟩ := a
 obtain rfl : s = none := hs
 unfold World.cell? at h
 dsimp only at h
 cases hq : w.heap[b]? with
 | none => rw [hq] at h; cases h
 | some ob =>
  cases ob with
  | cells arr t' fr => exact ⟨arr, t', fr, rfl⟩
  | _ => rw [hq] at h; cases h
theorem open_rowsV {t e1 e : TypeId} {c : Value} {n : Nat} {y : DataW H × List MemPlace} (ht : P.underlying t = some (.slice e1)) (hc1 : P.cellsOf e1 = 1) (ht1 : P.underlying e1 = some (.slice e)) (he : P.underlying e = some (.int .u8)) (hc : P.cellsOf e = 1)
  (h : DataW.trod enc P w 0 (fun _ => true) true n t [c] = some y) : ∃ L, RowsV L lab0 w c := by
 rcases open_slice1 ht hc1 h with ⟨hcs, _⟩ | ⟨a, len, cap, m, n', V, D, Pl, hcs, _, hl, hm, hmm, _, hx⟩
 ·simp at hcs; subst hcs
  exact ⟨[], RowsV.nil _ _⟩
 ·simp at hcs; subst hcs
  simp only [if_true] at hmm
  subst hmm
  have hV : ∀ i, ∃ bs, i < len → BytesV bs lab0 w (V i) := fun i => by
   by_cases hi : i < len
   ·obtain ⟨bs, hb⟩ := open_bytesV ht1 he hc (hx i (by omega)).2
    exact ⟨bs, fun _ => hb⟩
   ·exact ⟨[], fun h => absurd h hi⟩
  refine ⟨(List.range len).map fun i => Classical.choose (hV i), some a, m, (List.range len).map V, by simp, by simp; omega, by unfold maxLen at hm; omega, by simp, ?_, fun i bs hi => ?_⟩
  ·by_cases h0 : len = 0
   ·subst h0; simp; exact RowAt.nil
   ·obtain ⟨b, o, s⟩ := a
    obtain rfl : s = none := by simpa [Addr.add] using World.cell?_spot (hx 0 (by omega)).1
    have h1 := (hx 0 (by omega)).1
    rw [add_flat] at h1
    obtain ⟨arr, t', fr, hb⟩ := cells_of_spot h1 rfl
    refine .inr ⟨b, o, arr, t', fr, rfl, rfl, hb, fun j v hj => ?_⟩
    rw [List.getElem?_map, Option.map_eq_some_iff] at hj
    obtain ⟨i, hi, rfl⟩ := hj
    have hjl : j < len := by simpa using (List.getElem?_eq_some_iff.1 hi).1
    have : i = j := by simpa [hjl] using hi.symm
    subst this
    have h2 := (hx i (by omega)).1
    rwa [add_flat, cell_of_row w b _ arr t' fr hb] at h2
  ·rw [List.getElem?_map, Option.map_eq_some_iff] at hi
   obtain ⟨j, hj, rfl⟩ := hi
   have hjl : i < len := by simpa using (List.getElem?_eq_some_iff.1 hj).1
   have : j = i := by simpa [hjl] using hj.symm
   subst this
   exact ⟨V j, by simp [hjl], Classical.choose_spec (hV j) hjl⟩
end
end Go.Proofs.Ytgfomedobfaidaa
end
section
set_option linter.unusedVariables false
namespace Go.Proofs.Ytgfomedobfaidaa
open Go.ChangeShapes Go.WideShapes Go.ChangeAt Go.RowKit
theorem groupMultis_fact0 : (Rows.groupMultisRow.wf (OpenSpec.ofChange Rows.groupMultisSpec)) = true := by kernel_rfl
theorem groupMultis_fact1 : (laidOutB Try.prog) = true := by kernel_rfl
theorem groupMultis_fact2 : (mapsRowed Try.prog) = true := by kernel_rfl
theorem groupMultis_fact3 : (Try.f9.params.all (Try.prog.readableRec ·)) = true := by kernel_rfl
theorem groupMultis_fact4 : (namedTie Try.prog Rows.groupMultisRow.named Rows.groupMultisSpec.vars) = true := by kernel_rfl
theorem groupMultis_fact5 : ((Rows.groupMultisRow.stops == [])) = true := by kernel_rfl
theorem groupMultis_fact6 : ((Try.prog.stops == [])) = true := by kernel_rfl
theorem groupMultis_fact7 : ((Rows.groupMultisRow.knobs == [])) = true := by kernel_rfl
theorem groupMultis_fact8 : ((Try.prog.stopKnobs == [])) = true := by kernel_rfl
theorem groupMultis_fact9 : ((Rows.groupMultisRow.inPlace == Try.prog.inPlace 9)) = true := by kernel_rfl
theorem groupMultis_fact10 : ((Rows.groupMultisRow.unfollowed == Try.prog.unfollowed 9)) = true := by kernel_rfl
theorem groupMultis_fact11 : ((Rows.groupMultisRow.recurses == Try.prog.recurses 9)) = true := by kernel_rfl
theorem groupMultis_fact12 : ((Rows.groupMultisRow.named == Try.prog.varsNamed 9)) = true := by kernel_rfl
theorem groupMultis_fact13 : ((Rows.groupMultisRow.maps == (Try.f9.params.toList ++ Rows.groupMultisSpec.plain.varTypes Try.prog).any (Try.prog.mapsRec ·))) = true := by kernel_rfl
theorem groupMultis_fact14 : ((Rows.groupMultisRow.ifaces == (Try.f9.params.toList ++ Rows.groupMultisSpec.plain.varTypes Try.prog).any (Try.prog.ifacesRec ·))) = true := by kernel_rfl
theorem groupMultis_fact15 : ((Rows.groupMultisRow.mapsOut == Try.prog.mapsAmong Try.f9.resultTypes.toList)) = true := by kernel_rfl
theorem groupMultis_fact16 : ((Rows.groupMultisRow.loops == (Try.f9.params.toList ++ Rows.groupMultisSpec.plain.varTypes Try.prog).any (Try.prog.loopsFrom ·))) = true := by kernel_rfl
theorem groupMultis_fact17 : ((Rows.groupMultisRow.wideKeys == (Try.f9.params.toList ++ Rows.groupMultisSpec.plain.varTypes Try.prog ++ Try.f9.resultTypes.toList).any (Try.prog.wideKeysFrom ·))) = true := by kernel_rfl
theorem groupMultis_fact18 : (Rows.groupMultisSpec.vars.all (Try.prog.varReadable ·)) = true := by kernel_rfl
theorem groupMultis_fact19 : (Try.f9.resultTypes.all (fun t => Try.prog.readableRec t && decide (t < Try.prog.types.size))) = true := by kernel_rfl
theorem groupMultis_fact20 : ((Rows.groupMultisRow.ifacesOut == Try.f9.resultTypes.toList.any (Try.prog.ifacesRec ·))) = true := by kernel_rfl
theorem groupMultis_fact21 : ((Rows.groupMultisRow.loopsOut == Try.f9.resultTypes.toList.any (Try.prog.loopsFrom ·))) = true := by kernel_rfl
theorem groupMultis_fact22 : ((Rows.groupMultisRow.plainKeys == Try.prog.plainKeys)) = true := by kernel_rfl
theorem groupMultis_fact23 : (Rows.groupMultisRow.shortTexts.isNone) = true := by kernel_rfl
theorem groupMultis_fact24 : (Try.prog.stopsHeard) = true := by kernel_rfl
theorem groupMultis_fact25 : (Try.prog.mayEnter) = true := by kernel_rfl
theorem groupMultis_fact26 : ((Rows.groupMultisRow.lifted == Try.prog.liftsFinal)) = true := by kernel_rfl
theorem groupMultis_fact27 : ((Try.prog.make == some Rows.groupMultisRow.make)) = true := by kernel_rfl
theorem groupMultis_fact28 : ((Rows.groupMultisRow.kinds == (if Rows.groupMultisRow.domain.isEmpty then [] else Try.f9.params.toList.map fun t => match Try.prog.underlying t with | some (.int k) => some k | _ => none))) = true := by kernel_rfl
theorem groupMultis_fact29 : ((Rows.groupMultisRow.pinned == Rows.groupMultisRow.pinnedBy)) = true := by kernel_rfl
theorem groupMultis_fact30 : ((Rows.groupMultisRow.veiled == (Try.f9.params.toList ++ Rows.groupMultisSpec.plain.varTypes Try.prog ++ Try.f9.resultTypes.toList).any (Try.prog.veiledRec ·))) = true := by kernel_rfl
theorem groupMultis_fact31 : (Rows.groupMultisRow.veiledFits Try.prog Try.f9.params.toList (Try.f9.params.toList ++ Rows.groupMultisSpec.plain.varTypes Try.prog ++ Try.f9.resultTypes.toList)) = true := by kernel_rfl
theorem groupMultis_named : Try.prog.funcNamed Rows.groupMultisRow.func = some 9 := by kernel_rfl
theorem groupMultis_wrap : Try.f9.isWrapper Try.prog Rows.groupMultisRow.wrapper Rows.groupMultisRow.mainSum := by unfold Func.isWrapper; first | (rw [if_pos (by decide +kernel)]; kernel_rfl) | (rw [if_neg (by decide +kernel)]; exact ⟨rfl, rfl⟩)
theorem groupMultis_inst : Try.f9.isInstance Try.prog Rows.groupMultisRow.origin Rows.groupMultisRow.targs := of_decide_eq_true (by kernel_rfl)
end Go.Proofs.Ytgfomedobfaidaa
end
section
set_option linter.unusedVariables false
namespace Go.Proofs.Ytgfomedobfaidaa
open Go.ChangeShapes Go.WideShapes Go.ChangeAt Go.RowKit
theorem joined_of (P : Program) (f : FuncId) (fn : Func) (s : ChangeSpec) (c : OpenClaim) (h0 : (c.wf (OpenSpec.ofChange s)) = true) (h1 : (laidOutB P) = true) (h2 : (mapsRowed P) = true) (h3 : (fn.params.all (P.readableRec ·)) = true) (h4 : (namedTie P c.named s.vars) = true) (h5 : ((c.stops == [])) = true) (h6 : ((P.stops == [])) = true) (h7 : ((c.knobs == [])) = true) (h8 : ((P.stopKnobs == [])) = true) (h9 : ((c.inPlace == P.inPlace f)) = true) (h10 : ((c.unfollowed == P.unfollowed f)) = true) (h11 : ((c.recurses == P.recurses f)) = true) (h12 : ((c.named == P.varsNamed f)) = true) (h13 : ((c.maps == (fn.params.toList ++ s.plain.varTypes P).any (P.mapsRec ·))) = true) (h14 : ((c.ifaces == (fn.params.toList ++ s.plain.varTypes P).any (P.ifacesRec ·))) = true) (h15 : ((c.mapsOut == P.mapsAmong fn.resultTypes.toList)) = true) (h16 : ((c.loops == (fn.params.toList ++ s.plain.varTypes P).any (P.loopsFrom ·))) = true) (h17 : ((c.wideKeys == (fn.params.toList ++ s.plain.varTypes P ++ fn.resultTypes.toList).any (P.wideKeysFrom ·))) = true) (h18 : (s.vars.all (P.varReadable ·)) = true) (h19 : (fn.resultTypes.all (fun t => P.readableRec t && decide (t < P.types.size))) = true) (h20 : ((c.ifacesOut == fn.resultTypes.toList.any (P.ifacesRec ·))) = true) (h21 : ((c.loopsOut == fn.resultTypes.toList.any (P.loopsFrom ·))) = true) (h22 : ((c.plainKeys == P.plainKeys)) = true) (h23 : (c.shortTexts.isNone) = true) (h24 : (P.stopsHeard) = true) (h25 : (P.mayEnter) = true) (h26 : ((c.lifted == P.liftsFinal)) = true) (h27 : ((P.make == some c.make)) = true) (h28 : ((c.kinds == (if c.domain.isEmpty then [] else fn.params.toList.map fun t => match P.underlying t with | some (.int k) => some k | _ => none))) = true) (h29 : ((c.pinned == c.pinnedBy)) = true) (h30 : ((c.veiled == (fn.params.toList ++ s.plain.varTypes P ++ fn.resultTypes.toList).any (P.veiledRec ·))) = true) (h31 : (c.veiledFits P fn.params.toList (fn.params.toList ++ s.plain.varTypes P ++ fn.resultTypes.toList)) = true) : joinedFacts P f fn s c = true := by
 unfold joinedFacts
 repeat rw [Bool.and_eq_true]
 exact ⟨⟨⟨⟨⟨⟨⟨⟨⟨⟨⟨⟨⟨⟨⟨⟨⟨⟨⟨⟨⟨⟨⟨⟨⟨⟨⟨⟨⟨⟨⟨h0, h1⟩, h2⟩, h3⟩, h4⟩, h5⟩, h6⟩, h7⟩, h8⟩, h9⟩, h10⟩, h11⟩, h12⟩, h13⟩, h14⟩, h15⟩, h16⟩, h17⟩, h18⟩, h19⟩, h20⟩, h21⟩, h22⟩, h23⟩, h24⟩, h25⟩, h26⟩, h27⟩, h28⟩, h29⟩, h30⟩, h31⟩
end Go.Proofs.Ytgfomedobfaidaa
end
section
set_option linter.constructorNameAsVariable false
set_option linter.unusedVariables false
namespace Go.Proofs.Ytgfomedobfaidaa
open Go.ChangeShapes Go.WideShapes Go.ChangeAt Go.RowKit
theorem own_knob : ownKnob Try.prog.godebug = none := by kernel_rfl
theorem laid_out : laidOutB Try.prog = true := by kernel_rfl
section
variable {H : Type} {enc : TypeId × Value → H} {P : Program} {w : World} {base : Nat} {spare : Nat → Bool} {held : Bool}
theorem groupMultis_args {t0 t1 t2 : TypeId} {args : Array Value} {ds : List (DataW H)} {ps : List MemPlace} (h : DataW.TrodAll enc P w base spare held [t0, t1, t2] args.toList ds ps) :
  ∃ v0 v1 v2 d0 d1 d2 p0 p1 p2, args = #[v0, v1, v2] ∧ ds = [d0, d1, d2] ∧ ps = p0 ++ (p1 ++ p2) ∧ DataW.Trod enc P w base spare held t0 v0 d0 p0 ∧ DataW.Trod enc P w base spare held t1 v1 d1 p1 ∧ DataW.Trod enc P w base spare held t2 v2 d2 p2 := by
 obtain ⟨v0, vs0, d0, ds0, p0, q0, hargs, rfl, rfl, h0, r0⟩ := trodAll_cons h
 obtain ⟨v1, vs1, d1, ds1, p1, q1, rfl, rfl, rfl, h1, r1⟩ := trodAll_cons r0
 obtain ⟨v2, vs2, d2, ds2, p2, q2, rfl, rfl, rfl, h2, r2⟩ := trodAll_cons r1
 obtain ⟨rfl, rfl, rfl⟩ := trodAll_nil r2
 exact ⟨v0, v1, v2, d0, d1, d2, p0, p1, p2, by cases args; simp_all, rfl, by simp, h0, h1, h2⟩
theorem groupMultis_mk {t0 t1 t2 : TypeId} {v0 v1 v2 : Value} {d0 d1 d2 : DataW H} {p0 p1 p2 : List MemPlace} (h0 : DataW.Trod enc P w base spare held t0 v0 d0 p0) (h1 : DataW.Trod enc P w base spare held t1 v1 d1 p1) (h2 : DataW.Trod enc P w base spare held t2 v2 d2 p2) : DataW.TrodAll enc P w base spare held [t0, t1, t2] [v0, v1, v2] [d0, d1, d2] (p0 ++ (p1 ++ p2)) :=
 ⟨_, _, h0, ⟨_, _, h1, trodAll_mk1 h2, rfl⟩, rfl⟩
end
set_option maxRecDepth 100000 in
theorem groupMultis_lifted (os : Os) (started : os.Started) (H : Type) (enc : TypeId × Value → H) :
  ReturnsInHanded {} Try.checked os 9 .any (Rows.groupMultisSpec.pre6 enc Try.prog Try.f9 Rows.groupMultisRow.domain false) (Rows.groupMultisSpec.post enc Try.prog Try.f9 false true false false) := by
 refine returnsInHanded_of_change (C := Try.checked) own_knob started (by kernel_rfl) Try.func9
  (ChangeSpec.witness6 (enc := enc) (C := Try.checked) false ⟨#[], #[.int .i64 0, .slice none 0 0, .slice none 0 0], []⟩ 8 (by kernel_rfl) (by kernel_rfl) (by kernel_rfl) (by kernel_rfl)) ?_
 intro W base args ds gs before hval0 hW hcnd _
 have hval : ∀ (j : Nat) t v, Try.f9.params[j]? = some t → args[j]? = some v → Value.okWide Try.prog W .any base t v := hval0
 have hW' := hW
 obtain ⟨p, q, hA0, hV, rfl, hfz, hnd⟩ := hW
 have hA : DataW.TrodAll enc Try.prog W 0 (fun _ => true) true Try.f9.params.toList args.toList ds p := hA0
 rw [Try.params9] at hA hval
 obtain ⟨v0, v1, v2, d0, d1, d2, p0, p1, p2, rfl, rfl, rfl, h0, h1, h2⟩ := groupMultis_args hA
 obtain ⟨rfl, rfl⟩ := trodVars_none hV
 obtain ⟨n, rfl⟩ := okWide_int Try.underlying3 (hval 0 3 v0 rfl rfl)
 have h0' := h0
 obtain ⟨f0, hf0⟩ := h0'
 obtain ⟨_, hx0, lo0, hi0⟩ := open_i64 Try.underlying3 hf0
 cases hx0
 obtain ⟨A1, n1, c1, rfl⟩ := okWide_slice Try.underlying34 (hval 1 34 v1 rfl rfl)
 have h1' := h1
 obtain ⟨f1, hf1⟩ := h1'
 obtain ⟨l, g1⟩ := open_rowsV Try.underlying34 (by kernel_rfl) Try.underlying22 Try.underlying5 (by kernel_rfl) hf1
 obtain ⟨A2, n2, c2, rfl⟩ := okWide_slice Try.underlying34 (hval 2 34 v2 rfl rfl)
 have h2' := h2
 obtain ⟨f2, hf2⟩ := h2'
 obtain ⟨m, g2⟩ := open_rowsV Try.underlying34 (by kernel_rfl) Try.underlying22 Try.underlying5 (by kernel_rfl) hf2
 clear hA0 hval0
 simp only [List.append_nil] at hW'
 refine (GroupMultis_walk (valid0 W) (n := n) g1 g2 ).mono fun e W' ⟨v, he, hv, hb⟩ => ?_
 subst he
 have hv2 := Is.out hv
 subst hv2
 have hlt : ∀ x ∈ p0 ++ (p1 ++ p2), x.block < W.heap.size := fun x hx => by simpa using hW'.lt x hx
 have l0 : ∀ x ∈ p0, x.block < W.heap.size := fun x hx => hlt x (by simp [hx])
 have l1 : ∀ x ∈ p1, x.block < W.heap.size := fun x hx => hlt x (by simp [hx])
 have l2 : ∀ x ∈ p2, x.block < W.heap.size := fun x hx => hlt x (by simp [hx])
 exact ⟨_, rfl, post_of_below (pa := p0 ++ (p1 ++ p2)) (pv := []) hW' (fun _ _ _ => trodAll_mk1 (shut_bool Try.underlying4 true))
  (fun sp hsp => groupMultis_mk (arg_still laid_out (by kernel_rfl) (of_decide_eq_true (by kernel_rfl)) h0 hb l0 (fun x hx => hsp x (by simp [hx]))) (arg_still laid_out (by kernel_rfl) (of_decide_eq_true (by kernel_rfl)) h1 hb l1 (fun x hx => hsp x (by simp [hx]))) (arg_still laid_out (by kernel_rfl) (of_decide_eq_true (by kernel_rfl)) h2 hb l2 (fun x hx => hsp x (by simp [hx]))))
  (fun _ _ => rfl) (by simp) hb (ok_one (by kernel_rfl) rfl (okWide_bool_mk Try.underlying4 _))⟩
set_option maxRecDepth 1000000 in
theorem groupMultis_closed : joinedFacts Try.prog 9 Try.f9 Rows.groupMultisSpec Rows.groupMultisRow = true :=
 joined_of Try.prog 9 Try.f9 Rows.groupMultisSpec Rows.groupMultisRow groupMultis_fact0 groupMultis_fact1 groupMultis_fact2 groupMultis_fact3 groupMultis_fact4 groupMultis_fact5 groupMultis_fact6 groupMultis_fact7 groupMultis_fact8 groupMultis_fact9 groupMultis_fact10 groupMultis_fact11 groupMultis_fact12 groupMultis_fact13 groupMultis_fact14 groupMultis_fact15 groupMultis_fact16 groupMultis_fact17 groupMultis_fact18 groupMultis_fact19 groupMultis_fact20 groupMultis_fact21 groupMultis_fact22 groupMultis_fact23 groupMultis_fact24 groupMultis_fact25 groupMultis_fact26 groupMultis_fact27 groupMultis_fact28 groupMultis_fact29 groupMultis_fact30 groupMultis_fact31
theorem groupMultis_holds : Rows.GroupMultisSaid :=
 OpenClaim.holds_of_wide 9 Try.f9 rfl rfl rfl rfl rfl rfl rfl ⟨rfl, rfl, rfl, rfl, rfl⟩ rfl rfl rfl rfl rfl groupMultis_named Try.func9 groupMultis_closed
  groupMultis_inst groupMultis_wrap (fun os started H enc _ => groupMultis_lifted os started H enc)
end Go.Proofs.Ytgfomedobfaidaa
end
#print axioms Go.Proofs.Ytgfomedobfaidaa.groupMultis_holds
