/-
  The row of GroupMultis: that the law answers true of every input; part 5 of 9: what the proof needs, in order.
-/
import Derived.Test.YtgfomedobfaidaaMGroupMultis4
section
set_option linter.unusedVariables false
set_option linter.unusedSimpArgs false
set_option maxRecDepth 100000
namespace Go.Proofs.Ytgfomedobfaidaa
open Go.RowKit
theorem mod_New {lab : Lab} {w : World} (hv : Valid lab w) {m : Nat} {v0 : Value} (h0 : NatV m lab w v0) (h1 : 1 < m) (hn : nw m ≤ 1000000) :
  Calls Try.prog 114 #[v0] w (fun e w' => ∃ v, e = .returned v ∧ (And2 (RingV m) (Is (i64 0))) lab w' v ∧ Below w.heap.size w w') := by
 obtain ⟨L0, h0L, ⟨zU0, z00⟩, hX⟩ := enter0 hv
 replace h0 := up z00 h0
 obtain ⟨A1, c2, rfl⟩ := NatV.shape h0
 have z3 := NatV.cap h0
 refine calls_run Try.func114 rfl Try.ntmps114 (Nat.le_of_ble_eq_true rfl) ?_
 refine rsr ?_
 refine sbox 2 [.slice A1 (nw m) c2] h0L rfl rfl fun b6 L4 w5 o7 s8 h9 => ?_
 refine sv (Does.assign rfl) ?_
 refine sv (Does.assign rfl) ?_
 refine Seq.next ?_
 refine Run.seq ?_
 refine Run.seq ?_
 refine Run.open 4 (Φ := [.ex (.agg #[.slice A1 (nw m) c2]), .v (NatV 2), .v (Is (i64 (cmpI m 2))), .ex (.bool (decide ((cmpI m 2 : Int) < (0 : Int))))]) [(3, 10)] mixed (by kernel_rfl) rfl h9 ⟨?_, ?_, ?_, ?_, trivial⟩ (fun L36 w37 h38 s39 => ?_)
 ·refine oP [] rfl rfl fun L10 w11 h12 s13 => ?_
  have o14 := o7.up s13
  exact ⟨_, Does.load_ownN [.slice A1 (nw m) c2] o14 ty60 rfl rfl, rfl⟩
 ·refine oC [] rfl rfl cal32 fun L15 w16 h17 s18 => ?_
  exact ⟨_, rfl, (nat_New h17 (x := 2) (show 2 < 18446744073709551616 from by omega))⟩
 ·refine oC [(0, 7), (1, 8)] rfl rfl cal34 fun L19 w20 h21 s22 v23 q24 => ?_
  obtain ⟨A25, c26, rfl⟩ := NatV.shape q24
  have z27 := NatV.cap q24
  have c28 := s8.trans s22
  have q29 := up c28 h0
  exact ⟨_, rfl, (nat_Cmp h21 q29 q24)⟩
 ·refine oP [(2, 9)] rfl rfl fun L30 w31 h32 s33 v34 q35 => ?_
  have q35 := Is.out q35; subst q35
  exact ⟨_, Does.lss rfl rfl, rfl⟩
 refine Seq.next ?_
 refine Run.cond_b rfl (decide_eq_false (new_two h1)) ?_
 refine Run.skip_go (fun _ _ h => h) ?_
 refine rsr ?_
 have o40 := o7.up s39
 refine sv (Does.load_ownN [.slice A1 (nw m) c2] o40 ty60 rfl rfl) ?_
 refine sv (Does.build [(0, .agg #[.slice A1 (nw m) c2])] [(0, 1), (1, 1)] [.slice A1 (nw m) c2, .int .u64 0] Try.underlying174 ty174 (by kernel_rfl) rfl (by kernel_rfl)) ?_
 refine sbox 14 [.slice A1 (nw m) c2, .int .u64 0] h38 rfl rfl fun b43 L41 w42 o44 s45 h46 => ?_
 refine sv (Does.assign rfl) ?_
 refine Seq.next ?_
 refine Run.seq ?_
 refine rsr ?_
 have o47 := o40.up s45
 refine sv (Does.load_ownN [.slice A1 (nw m) c2] o47 ty60 rfl rfl) ?_
 have c48 := s39.trans s45
 have c49 := s8.trans c48
 have q50 := up c49 h0
 refine scall (V := And2 (Is (n64 (if nw m ≤ 2 then m else 0))) (Is (.bool (decide (nw m ≤ 2))))) cal141 h46 rfl (nat_Uint h46 q50) fun v51 w52 q53 s54 h55 => ?_
 obtain ⟨v56, v57, rfl, q58, q59⟩ := q53
 have q58 := Is.out q58; subst q58
 have q59 := Is.out q59; subst q59
 refine sv (Does.move rfl) ?_
 refine sv (Does.extract rfl rfl) ?_
 refine sv (Does.extract rfl rfl) ?_
 refine sv (Does.assign rfl) ?_
 refine sv (Does.assign rfl) ?_
 refine nsr ?_
 refine sv (Does.move rfl) ?_
 refine sv (Does.move rfl) ?_
 rcases Decidable.em (nw m ≤ 2) with hp1 | hp1
 rotate_left
 ·refine Seq.guard_off' rfl rfl (decide_eq_false hp1) rfl (by decide) ?_
  refine Seq.guard_off' rfl rfl (decide_eq_false hp1) rfl (by decide) ?_
  refine sv (Does.pick_b rfl (decide_eq_false hp1) rfl) ?_
  refine Seq.next ?_
  refine Run.cond_b rfl rfl ?_
  refine Run.skip_go (fun _ _ h => h) ?_
  refine rsr ?_
  refine sv (Does.move rfl) ?_
  refine sv (Does.assign rfl) ?_
  refine sv (Does.assign rfl) ?_
  refine Seq.next ?_
  have o77 := o44.up s54
  have h78 := Valid.release h55 14
  have c80 := s54.trans (Stp.release (lab := L41) (w := w52) 14)
  have q81 := up c80 q50
  have q79 := RingV.mk (s := 0) o77 (by exact small_two (nw_two (by assumption))) q81
  have c82 := c49.trans c80
  obtain ⟨⟨zU, zo⟩, zb⟩ := hX c82 (by decide)
  refine Run.ret ?_
  exact post_two Try.results114 rfl rfl ⟨_, rfl, ⟨_, _, rfl, (up zo q79), rfl⟩, zb⟩
 refine Seq.guard_on' rfl rfl (decide_eq_true hp1) ?_
 refine sv (Does.move rfl) ?_
 refine Seq.guard_on' rfl rfl (decide_eq_true hp1) ?_
 refine sv (Does.lss rfl rfl) ?_
 refine sv (Does.pick_b rfl (decide_eq_true hp1) rfl) ?_
 refine Seq.next ?_
 rcases Decidable.em (((if nw m ≤ 2 then m else 0 : Nat) : Int) < (4294967296 : Int)) with hp2 | hp2
 rotate_left
 ·refine Run.cond_b rfl (decide_eq_false hp2) ?_
  refine Run.skip_go (fun _ _ h => h) ?_
  refine rsr ?_
  refine sv (Does.move rfl) ?_
  refine sv (Does.assign rfl) ?_
  refine sv (Does.assign rfl) ?_
  refine Seq.next ?_
  have o71 := o44.up s54
  have h72 := Valid.release h55 14
  have c74 := s54.trans (Stp.release (lab := L41) (w := w52) 14)
  have q75 := up c74 q50
  have q73 := RingV.mk (s := 0) o71 (by (rw [if_pos hp1] at hp2; exact small_two (by omega))) q75
  have c76 := c49.trans c74
  obtain ⟨⟨zU, zo⟩, zb⟩ := hX c76 (by decide)
  refine Run.ret ?_
  exact post_two Try.results114 rfl rfl ⟨_, rfl, ⟨_, _, rfl, (up zo q73), rfl⟩, zb⟩
 refine Run.cond_b rfl (decide_eq_true hp2) ?_
 refine Run.region ?_
 refine sv (Does.move rfl) ?_
 refine sv (Does.move rfl) ?_
 refine sv (Does.nilCheck rfl) ?_
 refine sv (Does.fieldAddr' 1 Try.underlying174 rfl ty62 rfl rfl) ?_
 have o60 := o44.up s54
 refine sstore [.slice A1 (nw m) c2, n64 (if nw m ≤ 2 then m else 0)] h55 o60 ty62 rfl rfl rfl (Nat.le_of_ble_eq_true rfl) rfl rfl fun w61 o62 s63 h64 => ?_
 refine nsr ?_
 refine sv (Does.move rfl) ?_
 refine sv (Does.assign rfl) ?_
 refine sv (Does.assign rfl) ?_
 refine Seq.next ?_
 have h65 := Valid.release h64 14
 have c67 := s63.trans (Stp.release (lab := L41) (w := w61) 14)
 have c68 := s54.trans c67
 have q69 := up c68 q50
 have q66 := RingV.mk (s := if nw m ≤ 2 then m else 0) o62 (by exact small_one' (by assumption) (by omega)) q69
 have c70 := c49.trans c68
 obtain ⟨⟨zU, zo⟩, zb⟩ := hX c70 (by decide)
 refine Run.ret ?_
 exact post_two Try.results114 rfl rfl ⟨_, rfl, ⟨_, _, rfl, (up zo q66), rfl⟩, zb⟩
theorem ring_Modulus {lab : Lab} {w : World} (hv : Valid lab w) {r : Nat} {v0 : Value} (h0 : RingV r lab w v0) :
  Calls Try.prog 39 #[v0] w (fun e w' => ∃ v, e = .returned v ∧ (NatV r) lab w' v ∧ Below w.heap.size w w') := by
 obtain ⟨L0, h0L, ⟨zU0, z00⟩, hX⟩ := enter0 hv
 replace h0 := up z00 h0
 obtain ⟨b1, rfl⟩ := PtrV.shape h0
 refine calls_run Try.func39 rfl Try.ntmps39 (Nat.le_of_ble_eq_true rfl) ?_
 refine rsr ?_
 refine salloc 3 [.slice none 0 0] h0L ty60 rfl fun b4 L2 w3 o5 s6 h7 => ?_
 refine Seq.next ?_
 refine Run.seq ?_
 refine rsr ?_
 refine sv (Does.move rfl) ?_
 refine sv (Does.eql_nil Try.underlying67 rfl rfl) ?_
 refine Seq.next ?_
 refine Run.cond_b rfl rfl ?_
 refine Run.skip_go (fun _ _ h => h) ?_
 refine rsr ?_
 refine sv (Does.move rfl) ?_
 refine sv (Does.nilCheck rfl) ?_
 have q8 := up s6 h0
 obtain ⟨A9, c10, r11, q12⟩ := RingV.open q8
 refine sv (Does.fieldAddr' 0 Try.underlying174 rfl ty60 rfl rfl) ?_
 refine sv (Does.load_agg (cs := [.slice A9 (nw r) c10]) ty60 rfl (Ro.cells r11 0)) ?_
 refine sstore [.slice A9 (nw r) c10] h7 o5 ty60 rfl rfl rfl (Nat.le_of_ble_eq_true rfl) rfl rfl fun w13 o14 s15 h16 => ?_
 refine Seq.next ?_
 have c17 := s6.trans s15
 obtain ⟨⟨zU, zo⟩, zb⟩ := hX c17 (by decide)
 have q18 := up s15 q12
 refine Run.ret ?_
 exact post_one Try.results39 ⟨_, rfl, Own.loadN [.slice A9 (nw r) c10] o14 ty60 rfl⟩ ⟨_, rfl, (up zo q18), zb⟩
theorem ring_Of {lab : Lab} {w : World} (hv : Valid lab w) {r : Nat} {v0 : Value} (h0 : RingV r lab w v0) {a : Nat} {v1 : Value} (h1 : NatV a lab w v1) (hr : 1 < r) (ha : nw a ≤ 999999) (hn : nw r ≤ 1000000) :
  Calls Try.prog 61 #[v0, v1] w (fun e w' => ∃ v, e = .returned v ∧ (NatV (a % r)) lab w' v ∧ Below w.heap.size w w') := by
 obtain ⟨L0, h0L, ⟨zU0, z00⟩, hX⟩ := enter0 hv
 replace h0 := up z00 h0
 obtain ⟨b1, rfl⟩ := PtrV.shape h0
 replace h1 := up z00 h1
 obtain ⟨A2, c3, rfl⟩ := NatV.shape h1
 have z4 := NatV.cap h1
 refine calls_run Try.func61 rfl Try.ntmps61 (Nat.le_of_ble_eq_true rfl) ?_
 refine rsr ?_
 refine sbox 4 [.slice A2 (nw a) c3] h0L rfl rfl fun b7 L5 w6 o8 s9 h10 => ?_
 refine salloc 5 [.slice none 0 0] h10 ty60 rfl fun b13 L11 w12 o14 s15 h16 => ?_
 refine Seq.next ?_
 refine Run.seq ?_
 refine rsr ?_
 refine sv (Does.move rfl) ?_
 refine sv (Does.eql_nil Try.underlying67 rfl rfl) ?_
 refine Seq.next ?_
 refine Run.cond_b rfl rfl ?_
 refine Run.skip_go (fun _ _ h => h) ?_
 refine Run.seq ?_
 have c17 := s9.trans s15
 have q18 := up c17 h0
 obtain ⟨A19, c20, r21, q22⟩ := RingV.open q18
 refine Run.many [⟨12, .ex (.agg #[.slice A2 (nw a) c3]), [], none⟩, ⟨13, .ex (.pointer (some ⟨b1, 0, none⟩)), [], none⟩, ⟨14, .ex (.pointer (some ⟨b1, 0, none⟩)), [], none⟩, ⟨15, .ex (.pointer (some ⟨b1, 0, none⟩)), [], none⟩, ⟨16, .ex (.agg #[.slice A19 (nw r) c20]), [], none⟩, ⟨17, .v (And3 (NatV (a / r)) (NatV (if r = 0 then 0 else a % r)) (Is (i64 (if r = 0 then 5 else 0)))), [], none⟩, ⟨11, .v (And3 (NatV (a / r)) (NatV (if r = 0 then 0 else a % r)) (Is (i64 (if r = 0 then 5 else 0)))), [], none⟩, ⟨18, .v (NatV (a / r)), [], none⟩, ⟨19, .v (NatV (if r = 0 then 0 else a % r)), [], none⟩, ⟨20, .ex (i64 (if r = 0 then 5 else 0)), [], none⟩, ⟨5, .v (BoxV 6 60 (Is (.agg #[.slice none 0 0]))), [], (some 12)⟩, ⟨6, .v (BoxV 7 60 (Is (.agg #[.slice none 0 0]))), [], (some 13)⟩, ⟨5, .v (BoxV 6 60 (NatV (a / r))), [6], none⟩, ⟨6, .v (BoxV 7 60 (NatV (if r = 0 then 0 else a % r))), [7], none⟩] [9, 12, 13] [[], [], [], [], [], [], [], [], [6], [6, 7], [], [], [], [6]] mixed (by kernel_rfl) (by kernel_rfl) rfl h16 ⟨stay_ex, stay_ex, stay_ex, stay_ex, stay_ex, stay_v, stay_v, stay_v, stay_v, stay_ex, stay_box rfl, stay_box rfl, stay_box rfl, stay_box rfl, trivial⟩ ⟨?_, (rX [] rfl rfl rfl rfl fun _ _ => Does.move rfl), (rX [1] rfl rfl rfl rfl fun _ _ => Does.nilCheck rfl), (rX [2] rfl rfl rfl rfl fun _ _ => Does.fieldAddr' 0 Try.underlying174 rfl ty60 rfl rfl), ?_, ?_, ?_, ?_, ?_, ?_, ?_, ?_, ?_, ?_, trivial⟩ (fun L173 w174 h175 s176 v177 q178 v186 q187 => ?_)
 ·refine rP [] rfl rfl rfl rfl fun L23 w24 h25 s26 => ?_
  replace s26 : Stp [] _ _ _ _ := s26
  have c28 := s15.trans s26
  have o27 := o8.up c28
  exact ⟨_, Does.load_ownN [.slice A2 (nw a) c3] o27 ty60 rfl rfl, rfl⟩
 ·refine rP [3] rfl rfl rfl rfl fun L41 w42 h43 s44 => ?_
  replace s44 : Stp [] _ _ _ _ := s44
  have q45 := up s44 r21
  exact ⟨_, Does.load_agg (cs := [.slice A19 (nw r) c20]) ty60 rfl (Ro.cells q45 0), rfl⟩
 ·refine rC [0, 4] rfl rfl rfl rfl cal112 fun L46 w47 h48 s49 => ?_
  replace s49 : Stp [] _ _ _ _ := s49
  have c50 := c17.trans s49
  have q51 := up c50 h1
  have q52 := up s49 q22
  exact ⟨_, rfl, (nat_Div h48 q51 q52 (show nw a ≤ 999999 from by assumption) (show nw r ≤ 1000000 from by assumption))⟩
 ·refine rP [5] rfl rfl rfl rfl fun L53 w54 h55 s56 v57 q58 => ?_
  replace s56 : Stp [] _ _ _ _ := s56
  obtain ⟨v59, v60, v61, rfl, q62, q63, q64⟩ := q58
  obtain ⟨A65, c66, rfl⟩ := NatV.shape q62
  have z67 := NatV.cap q62
  obtain ⟨A68, c69, rfl⟩ := NatV.shape q63
  have z70 := NatV.cap q63
  have q64 := Is.out q64; subst q64
  exact ⟨_, Does.move rfl, ⟨_, _, _, rfl, q62, q63, rfl⟩⟩
 ·refine rP [6] rfl rfl rfl rfl fun L71 w72 h73 s74 v75 q76 => ?_
  replace s74 : Stp [] _ _ _ _ := s74
  obtain ⟨v77, v78, v79, rfl, q80, q81, q82⟩ := q76
  obtain ⟨A83, c84, rfl⟩ := NatV.shape q80
  have z85 := NatV.cap q80
  obtain ⟨A86, c87, rfl⟩ := NatV.shape q81
  have z88 := NatV.cap q81
  have q82 := Is.out q82; subst q82
  exact ⟨_, Does.extract rfl rfl, q80⟩
 ·refine rP [6] rfl rfl rfl rfl fun L89 w90 h91 s92 v93 q94 => ?_
  replace s92 : Stp [6] _ _ _ _ := s92
  obtain ⟨v95, v96, v97, rfl, q98, q99, q100⟩ := q94
  obtain ⟨A101, c102, rfl⟩ := NatV.shape q98
  have z103 := NatV.cap q98
  obtain ⟨A104, c105, rfl⟩ := NatV.shape q99
  have z106 := NatV.cap q99
  have q100 := Is.out q100; subst q100
  exact ⟨_, Does.extract rfl rfl, q99⟩
 ·refine rP [6] rfl rfl rfl rfl fun L107 w108 h109 s110 v111 q112 => ?_
  replace s110 : Stp [6, 7] _ _ _ _ := s110
  obtain ⟨v113, v114, v115, rfl, q116, q117, q118⟩ := q112
  obtain ⟨A119, c120, rfl⟩ := NatV.shape q116
  have z121 := NatV.cap q116
  obtain ⟨A122, c123, rfl⟩ := NatV.shape q117
  have z124 := NatV.cap q117
  have q118 := Is.out q118; subst q118
  exact ⟨_, Does.extract rfl rfl, rfl⟩
 ·refine rN [] rfl rfl rfl rfl fun L125 w126 h127 s128 => ?_
  replace s128 : Stp [] _ _ _ _ := s128
  exact ⟨_, _, _, Does.alloc ty60, h127.alloc _ 6, Stp.alloc _ 6, ⟨_, (.agg #[.slice none 0 0]), rfl, Own.alloc _ _ _ _ 6, rfl⟩⟩
 ·refine rN [] rfl rfl rfl rfl fun L129 w130 h131 s132 => ?_
  replace s132 : Stp [] _ _ _ _ := s132
  exact ⟨_, _, _, Does.alloc ty60, h131.alloc _ 7, Stp.alloc _ 7, ⟨_, (.agg #[.slice none 0 0]), rfl, Own.alloc _ _ _ _ 7, rfl⟩⟩
 ·refine rS [7, 10] rfl rfl rfl fun L133 w134 h135 s136 v137 q138 v142 q143 => ?_
  replace s136 : Stp [] _ _ _ _ := s136
  obtain ⟨A139, c140, rfl⟩ := NatV.shape q138
  have z141 := NatV.cap q138
  obtain ⟨b144, u145, rfl, o146, q147⟩ := q143
  replace q147 := Is.out q147; subst q147
  replace o146 : Own L133 w134 6 b144 60 #[.slice none 0 0] := o146
  refine store_goR (v := (.agg #[.slice A139 (nw (a / r)) c140])) [.slice A139 (nw (a / r)) c140] h135 o146 ty60 rfl rfl rfl (Nat.le_of_ble_eq_true rfl) rfl rfl fun w148 s151 o152 => ?_
  exact ⟨_, (.agg #[.slice A139 (nw (a / r)) c140]), rfl, o152, (up s151 q138)⟩
 ·refine rS [8, 11] rfl rfl rfl fun L153 w154 h155 s156 v157 q158 v162 q163 => ?_
  replace s156 : Stp [6] _ _ _ _ := s156
  obtain ⟨A159, c160, rfl⟩ := NatV.shape q158
  have z161 := NatV.cap q158
  obtain ⟨b164, u165, rfl, o166, q167⟩ := q163
  replace q167 := Is.out q167; subst q167
  replace o166 : Own L153 w154 7 b164 60 #[.slice none 0 0] := o166
  refine store_goR (v := (.agg #[.slice A159 (nw (if r = 0 then 0 else a % r)) c160])) [.slice A159 (nw (if r = 0 then 0 else a % r)) c160] h155 o166 ty60 rfl rfl rfl (Nat.le_of_ble_eq_true rfl) rfl rfl fun w168 s171 o172 => ?_
  exact ⟨_, (.agg #[.slice A159 (nw (if r = 0 then 0 else a % r)) c160]), rfl, o172, (up s171 q158)⟩
 replace s176 : Stp [6, 7] _ _ _ _ := s176
 obtain ⟨b179, u180, rfl, o181, q182⟩ := q178
 obtain ⟨A183, c184, rfl⟩ := NatV.shape q182
 have z185 := NatV.cap q182
 replace o181 : Own L173 w174 6 b179 60 #[.slice A183 (nw (a / r)) c184] := o181
 obtain ⟨b188, u189, rfl, o190, q191⟩ := q187
 obtain ⟨A192, c193, rfl⟩ := NatV.shape q191
 have z194 := NatV.cap q191
 replace o190 : Own L173 w174 7 b188 60 #[.slice A192 (nw (if r = 0 then 0 else a % r)) c193] := o190
 refine sv (Does.assign rfl) ?_
 refine nsr ?_
 refine sv (Does.load_ownN [.slice A192 (nw (if r = 0 then 0 else a % r)) c193] o190 ty60 rfl rfl) ?_
 have o195 := o14.up s176
 refine sstore [.slice A192 (nw (if r = 0 then 0 else a % r)) c193] h175 o195 ty60 rfl rfl rfl (Nat.le_of_ble_eq_true rfl) rfl rfl fun w196 o197 s198 h199 => ?_
 refine Seq.next ?_
 have c200 := s176.trans s198
 have c201 := c17.trans c200
 obtain ⟨⟨zU, zo⟩, zb⟩ := hX c201 (by decide)
 have q202 := up s198 q191
 refine Run.ret ?_
 exact post_one Try.results61 ⟨_, rfl, Own.loadN [.slice A192 (nw (if r = 0 then 0 else a % r)) c193] o197 ty60 rfl⟩ ⟨_, rfl, (NatV.cast (by exact if_neg (by omega)) (up zo q202)), zb⟩
theorem ring_Sub {lab : Lab} {w : World} (hv : Valid lab w) {r : Nat} {v0 : Value} (h0 : RingV r lab w v0) {a : Nat} {v1 : Value} (h1 : NatV a lab w v1) {b : Nat} {v2 : Value} (h2 : NatV b lab w v2) (hr : 1 < r) (ha : nw a ≤ 1000) (hb : nw b ≤ 1000) (hn : nw r ≤ 1000) :
  Calls Try.prog 81 #[v0, v1, v2] w (fun e w' => ∃ v, e = .returned v ∧ (NatV (subM r a b)) lab w' v ∧ Below w.heap.size w w') := by
 obtain ⟨L0, h0L, ⟨zU0, z00⟩, hX⟩ := enter0 hv
 replace h0 := up z00 h0
 obtain ⟨b1, rfl⟩ := PtrV.shape h0
 replace h1 := up z00 h1
 obtain ⟨A2, c3, rfl⟩ := NatV.shape h1
 have z4 := NatV.cap h1
 replace h2 := up z00 h2
 obtain ⟨A5, c6, rfl⟩ := NatV.shape h2
 have z7 := NatV.cap h2
 have hm1 := nw_mono (Nat.mod_le a r)
 have hm2 := nw_mono (Nat.mod_le b r)
 have hm3 := nw_add_le (a % r) r
 refine calls_run Try.func81 rfl Try.ntmps81 (Nat.le_of_ble_eq_true rfl) ?_
 refine rsr ?_
 refine sbox 5 [.slice A2 (nw a) c3] h0L rfl rfl fun b10 L8 w9 o11 s12 h13 => ?_
 refine sbox 6 [.slice A5 (nw b) c6] h13 rfl rfl fun b16 L14 w15 o17 s18 h19 => ?_
 refine salloc 7 [.slice none 0 0] h19 ty60 rfl fun b22 L20 w21 o23 s24 h25 => ?_
 refine Seq.next ?_
 refine Run.seq ?_
 refine Run.many [⟨11, .ex (.pointer (some ⟨b1, 0, none⟩)), [], none⟩, ⟨12, .ex (.agg #[.slice A2 (nw a) c3]), [], none⟩, ⟨13, .v (NatV (a % r)), [], none⟩, ⟨14, .ex (.pointer (some ⟨b1, 0, none⟩)), [], none⟩, ⟨15, .ex (.agg #[.slice A5 (nw b) c6]), [], none⟩] [2, 3, 4] [[], [], [], [], []] mixed (by kernel_rfl) (by kernel_rfl) rfl h25 ⟨stay_ex, stay_ex, stay_v, stay_ex, stay_ex, trivial⟩ ⟨(rX [] rfl rfl rfl rfl fun _ _ => Does.move rfl), ?_, ?_, (rX [] rfl rfl rfl rfl fun _ _ => Does.move rfl), ?_, trivial⟩ (fun L56 w57 h58 s59 v60 q61 => ?_)
 ·refine rP [] rfl rfl rfl rfl fun L30 w31 h32 s33 => ?_
  replace s33 : Stp [] _ _ _ _ := s33
  have c35 := s24.trans s33
  have c36 := s18.trans c35
  have o34 := o11.up c36
  exact ⟨_, Does.load_ownN [.slice A2 (nw a) c3] o34 ty60 rfl rfl, rfl⟩
 ·refine rC [0, 1] rfl rfl rfl rfl cal61 fun L37 w38 h39 s40 => ?_
  replace s40 : Stp [] _ _ _ _ := s40
  have c41 := s24.trans s40
  have c42 := s18.trans c41
  have c43 := s12.trans c42
  have q44 := up c43 h0
  have q45 := up c43 h1
  exact ⟨_, rfl, (ring_Of h39 q44 q45 (show 1 < r from by assumption) (show nw a ≤ 999999 from by omega) (show nw r ≤ 1000000 from by omega))⟩
 ·refine rP [] rfl rfl rfl rfl fun L50 w51 h52 s53 => ?_
  replace s53 : Stp [] _ _ _ _ := s53
  have c55 := s24.trans s53
  have o54 := o17.up c55
  exact ⟨_, Does.load_ownN [.slice A5 (nw b) c6] o54 ty60 rfl rfl, rfl⟩
 replace s59 : Stp [] _ _ _ _ := s59
 obtain ⟨A62, c63, rfl⟩ := NatV.shape q61
 have z64 := NatV.cap q61
 have c65 := s24.trans s59
 have c66 := s18.trans c65
 have c67 := s12.trans c66
 have q68 := up c67 h0
 have q69 := up c67 h2
 refine scall (V := NatV (b % r)) cal61 h58 rfl (ring_Of h58 q68 q69 (show 1 < r from by assumption) (show nw b ≤ 999999 from by omega) (show nw r ≤ 1000000 from by omega)) fun v70 w71 q72 s73 h74 => ?_
 obtain ⟨A75, c76, rfl⟩ := NatV.shape q72
 have z77 := NatV.cap q72
 have c79 := c66.trans s73
 have o78 := o11.up c79
 refine sstore [.slice A62 (nw (a % r)) c63] h74 o78 ty60 rfl rfl rfl (Nat.le_of_ble_eq_true rfl) rfl rfl fun w80 o81 s82 h83 => ?_
 have c85 := s73.trans s82
 have c86 := c65.trans c85
 have o84 := o17.up c86
 refine sstore [.slice A75 (nw (b % r)) c76] h83 o84 ty60 rfl rfl rfl (Nat.le_of_ble_eq_true rfl) rfl rfl fun w87 o88 s89 h90 => ?_
 refine Seq.next ?_
 refine Run.seq ?_
 refine rsr ?_
 have o91 := o81.up s89
 refine sv (Does.load_ownN [.slice A62 (nw (a % r)) c63] o91 ty60 rfl rfl) ?_
 refine sv (Does.load_ownN [.slice A75 (nw (b % r)) c76] o88 ty60 rfl rfl) ?_
 have c92 := c85.trans s89
 have q93 := up c92 q61
 have c94 := s82.trans s89
 have q95 := up c94 q72
 refine scall (V := And2 (NatV (if (a % r) < (b % r) then 0 else (a % r) - (b % r))) (Is (.bool (decide ((b % r) ≤ (a % r)))))) cal111 h90 rfl (nat_Sub h90 q93 q95 (show nw (a % r) ≤ 1000000 from by omega) (show nw (b % r) ≤ 1000000 from by omega)) fun v96 w97 q98 s99 h100 => ?_
 obtain ⟨v101, v102, rfl, q103, q104⟩ := q98
 obtain ⟨A105, c106, rfl⟩ := NatV.shape q103
 have z107 := NatV.cap q103
 have q104 := Is.out q104; subst q104
 refine sv (Does.move rfl) ?_
 refine sv (Does.extract rfl rfl) ?_
 refine sv (Does.extract rfl rfl) ?_
 refine salloc 8 [.slice none 0 0] h100 ty60 rfl fun b110 L108 w109 o111 s112 h113 => ?_
 refine sstore [.slice A105 (nw (if (a % r) < (b % r) then 0 else (a % r) - (b % r))) c106] h113 o111 ty60 rfl rfl rfl (Nat.le_of_ble_eq_true rfl) rfl rfl fun w114 o115 s116 h117 => ?_
 refine sv (Does.assign rfl) ?_
 refine nsr ?_
 refine sv (Does.move rfl) ?_
 refine Seq.next ?_
 rcases Decidable.em ((b % r) ≤ (a % r)) with hp1 | hp1
 ·refine Run.cond_b rfl (decide_eq_true hp1) ?_
  refine rsr ?_
  refine sv (Does.load_ownN [.slice A105 (nw (if (a % r) < (b % r) then 0 else (a % r) - (b % r))) c106] o115 ty60 rfl rfl) ?_
  have c119 := s112.trans s116
  have c120 := s99.trans c119
  have c121 := c92.trans c120
  have c122 := s59.trans c121
  have o118 := o23.up c122
  refine sstore [.slice A105 (nw (if (a % r) < (b % r) then 0 else (a % r) - (b % r))) c106] h117 o118 ty60 rfl rfl rfl (Nat.le_of_ble_eq_true rfl) rfl rfl fun w123 o124 s125 h126 => ?_
  refine Seq.next ?_
  have c127 := c121.trans s125
  have c128 := c67.trans c127
  obtain ⟨⟨zU, zo⟩, zb⟩ := hX c128 (by decide)
  have c129 := c119.trans s125
  have q130 := up c129 q103
  refine Run.ret (ret_then ?_)
  exact post_one Try.results81 ⟨_, rfl, Own.loadN [.slice A105 (nw (if (a % r) < (b % r) then 0 else (a % r) - (b % r))) c106] o124 ty60 rfl⟩ ⟨_, rfl, (NatV.cast (by exact subM_a (by omega) hp1) (up zo q130)), zb⟩
 refine Run.cond_b rfl (decide_eq_false hp1) ?_
 refine Run.skip_go (fun _ _ h => h) ?_
 refine Run.seq ?_
 have c131 := s112.trans s116
 have c132 := s99.trans c131
 have c133 := c92.trans c132
 have q134 := up c133 q68
 obtain ⟨A135, c136, r137, q138⟩ := RingV.open q134
 refine Run.many [⟨26, .ex (.agg #[.slice A62 (nw (a % r)) c63]), [], none⟩, ⟨27, .ex (.pointer (some ⟨b1, 0, none⟩)), [], none⟩, ⟨28, .ex (.pointer (some ⟨b1, 0, none⟩)), [], none⟩, ⟨29, .ex (.pointer (some ⟨b1, 0, none⟩)), [], none⟩, ⟨30, .ex (.agg #[.slice A135 (nw r) c136]), [], none⟩, ⟨31, .v (NatV ((a % r) + r)), [], none⟩, ⟨32, .ex (.agg #[.slice A75 (nw (b % r)) c76]), [], none⟩, ⟨33, .v (And2 (NatV (if ((a % r) + r) < (b % r) then 0 else ((a % r) + r) - (b % r))) (Is (.bool (decide ((b % r) ≤ ((a % r) + r)))))), [], none⟩, ⟨25, .v (And2 (NatV (if ((a % r) + r) < (b % r) then 0 else ((a % r) + r) - (b % r))) (Is (.bool (decide ((b % r) ≤ ((a % r) + r)))))), [], none⟩, ⟨34, .v (NatV (if ((a % r) + r) < (b % r) then 0 else ((a % r) + r) - (b % r))), [], none⟩, ⟨35, .ex (.bool (decide ((b % r) ≤ ((a % r) + r)))), [], none⟩, ⟨9, .v (BoxV 10 60 (Is (.agg #[.slice none 0 0]))), [], (some 12)⟩, ⟨9, .v (BoxV 10 60 (NatV (if ((a % r) + r) < (b % r) then 0 else ((a % r) + r) - (b % r)))), [10], none⟩] [10, 12] [[], [], [], [], [], [], [], [], [], [], [10], [], []] mixed (by kernel_rfl) (by kernel_rfl) rfl h117 ⟨stay_ex, stay_ex, stay_ex, stay_ex, stay_ex, stay_v, stay_ex, stay_v, stay_v, stay_v, stay_ex, stay_box rfl, stay_box rfl, trivial⟩ ⟨?_, (rX [] rfl rfl rfl rfl fun _ _ => Does.move rfl), (rX [1] rfl rfl rfl rfl fun _ _ => Does.nilCheck rfl), (rX [2] rfl rfl rfl rfl fun _ _ => Does.fieldAddr' 0 Try.underlying174 rfl ty60 rfl rfl), ?_, ?_, ?_, ?_, ?_, ?_, ?_, ?_, ?_, trivial⟩ (fun L249 w250 h251 s252 v253 q254 => ?_)
 ·refine rP [] rfl rfl rfl rfl fun L139 w140 h141 s142 => ?_
  replace s142 : Stp [] _ _ _ _ := s142
  have c144 := c132.trans s142
  have o143 := o91.up c144
  exact ⟨_, Does.load_ownN [.slice A62 (nw (a % r)) c63] o143 ty60 rfl rfl, rfl⟩
 ·refine rP [3] rfl rfl rfl rfl fun L157 w158 h159 s160 => ?_
  replace s160 : Stp [] _ _ _ _ := s160
  have q161 := up s160 r137
  exact ⟨_, Does.load_agg (cs := [.slice A135 (nw r) c136]) ty60 rfl (Ro.cells q161 0), rfl⟩
 ·refine rC [0, 4] rfl rfl rfl rfl cal117 fun L162 w163 h164 s165 => ?_
  replace s165 : Stp [] _ _ _ _ := s165
  have c166 := c132.trans s165
  have q167 := up c166 q93
  have q168 := up s165 q138
  exact ⟨_, rfl, (nat_Add h164 q167 q168 (show nw (a % r) ≤ 1000000 from by omega) (show nw r ≤ 1000000 from by omega))⟩
 ·refine rP [] rfl rfl rfl rfl fun L169 w170 h171 s172 => ?_
  replace s172 : Stp [] _ _ _ _ := s172
  have c174 := c132.trans s172
  have o173 := o88.up c174
  exact ⟨_, Does.load_ownN [.slice A75 (nw (b % r)) c76] o173 ty60 rfl rfl, rfl⟩
 ·refine rC [5, 6] rfl rfl rfl rfl cal111 fun L175 w176 h177 s178 v179 q180 => ?_
  replace s178 : Stp [] _ _ _ _ := s178
  obtain ⟨A181, c182, rfl⟩ := NatV.shape q180
  have z183 := NatV.cap q180
  have c184 := c132.trans s178
  have q185 := up c184 q95
  exact ⟨_, rfl, (nat_Sub h177 q180 q185 (show nw ((a % r) + r) ≤ 1000000 from by omega) (show nw (b % r) ≤ 1000000 from by omega))⟩
 ·refine rP [7] rfl rfl rfl rfl fun L186 w187 h188 s189 v190 q191 => ?_
  replace s189 : Stp [] _ _ _ _ := s189
  obtain ⟨v192, v193, rfl, q194, q195⟩ := q191
  obtain ⟨A196, c197, rfl⟩ := NatV.shape q194
  have z198 := NatV.cap q194
  have q195 := Is.out q195; subst q195
  exact ⟨_, Does.move rfl, ⟨_, _, rfl, q194, rfl⟩⟩
 ·refine rP [8] rfl rfl rfl rfl fun L199 w200 h201 s202 v203 q204 => ?_
  replace s202 : Stp [] _ _ _ _ := s202
  obtain ⟨v205, v206, rfl, q207, q208⟩ := q204
  obtain ⟨A209, c210, rfl⟩ := NatV.shape q207
  have z211 := NatV.cap q207
  have q208 := Is.out q208; subst q208
  exact ⟨_, Does.extract rfl rfl, q207⟩
 ·refine rP [8] rfl rfl rfl rfl fun L212 w213 h214 s215 v216 q217 => ?_
  replace s215 : Stp [10] _ _ _ _ := s215
  obtain ⟨v218, v219, rfl, q220, q221⟩ := q217
  obtain ⟨A222, c223, rfl⟩ := NatV.shape q220
  have z224 := NatV.cap q220
  have q221 := Is.out q221; subst q221
  exact ⟨_, Does.extract rfl rfl, rfl⟩
 ·refine rN [] rfl rfl rfl rfl fun L225 w226 h227 s228 => ?_
  replace s228 : Stp [] _ _ _ _ := s228
  exact ⟨_, _, _, Does.alloc ty60, h227.alloc _ 10, Stp.alloc _ 10, ⟨_, (.agg #[.slice none 0 0]), rfl, Own.alloc _ _ _ _ 10, rfl⟩⟩
 ·refine rS [9, 11] rfl rfl rfl fun L229 w230 h231 s232 v233 q234 v238 q239 => ?_
  replace s232 : Stp [] _ _ _ _ := s232
  obtain ⟨A235, c236, rfl⟩ := NatV.shape q234
  have z237 := NatV.cap q234
  obtain ⟨b240, u241, rfl, o242, q243⟩ := q239
  replace q243 := Is.out q243; subst q243
  replace o242 : Own L229 w230 10 b240 60 #[.slice none 0 0] := o242
  refine store_goR (v := (.agg #[.slice A235 (nw (if ((a % r) + r) < (b % r) then 0 else ((a % r) + r) - (b % r))) c236])) [.slice A235 (nw (if ((a % r) + r) < (b % r) then 0 else ((a % r) + r) - (b % r))) c236] h231 o242 ty60 rfl rfl rfl (Nat.le_of_ble_eq_true rfl) rfl rfl fun w244 s247 o248 => ?_
  exact ⟨_, (.agg #[.slice A235 (nw (if ((a % r) + r) < (b % r) then 0 else ((a % r) + r) - (b % r))) c236]), rfl, o248, (up s247 q234)⟩
 replace s252 : Stp [10] _ _ _ _ := s252
 obtain ⟨b255, u256, rfl, o257, q258⟩ := q254
 obtain ⟨A259, c260, rfl⟩ := NatV.shape q258
 have z261 := NatV.cap q258
 replace o257 : Own L249 w250 10 b255 60 #[.slice A259 (nw (if ((a % r) + r) < (b % r) then 0 else ((a % r) + r) - (b % r))) c260] := o257
 refine sv (Does.assign rfl) ?_
 refine nsr ?_
 refine sv (Does.load_ownN [.slice A259 (nw (if ((a % r) + r) < (b % r) then 0 else ((a % r) + r) - (b % r))) c260] o257 ty60 rfl rfl) ?_
 have c263 := c133.trans s252
 have c264 := s59.trans c263
 have o262 := o23.up c264
 refine sstore [.slice A259 (nw (if ((a % r) + r) < (b % r) then 0 else ((a % r) + r) - (b % r))) c260] h251 o262 ty60 rfl rfl rfl (Nat.le_of_ble_eq_true rfl) rfl rfl fun w265 o266 s267 h268 => ?_
 refine Seq.next ?_
 have c269 := c263.trans s267
 have c270 := c67.trans c269
 obtain ⟨⟨zU, zo⟩, zb⟩ := hX c270 (by decide)
 have q271 := up s267 q258
 refine Run.ret ?_
 exact post_one Try.results81 ⟨_, rfl, Own.loadN [.slice A259 (nw (if ((a % r) + r) < (b % r) then 0 else ((a % r) + r) - (b % r))) c260] o266 ty60 rfl⟩ ⟨_, rfl, (NatV.cast (by exact subM_b (by omega) hp1) (up zo q271)), zb⟩
theorem ring_Mul {lab : Lab} {w : World} (hv : Valid lab w) {r : Nat} {v0 : Value} (h0 : RingV r lab w v0) {a : Nat} {v1 : Value} (h1 : NatV a lab w v1) {b : Nat} {v2 : Value} (h2 : NatV b lab w v2) (hr : 1 < r) (ha : nw a ≤ 1000) (hb : nw b ≤ 1000) (hn : nw r ≤ 1000) :
  Calls Try.prog 69 #[v0, v1, v2] w (fun e w' => ∃ v, e = .returned v ∧ (NatV (a * b % r)) lab w' v ∧ Below w.heap.size w w') := by
 obtain ⟨L0, h0L, ⟨zU0, z00⟩, hX⟩ := enter0 hv
 replace h0 := up z00 h0
 obtain ⟨b1, rfl⟩ := PtrV.shape h0
 replace h1 := up z00 h1
 obtain ⟨A2, c3, rfl⟩ := NatV.shape h1
 have z4 := NatV.cap h1
 replace h2 := up z00 h2
 obtain ⟨A5, c6, rfl⟩ := NatV.shape h2
 have z7 := NatV.cap h2
 have hs := nw_mul_le a b
 have hl := ringSmall_lt r
 refine calls_run Try.func69 rfl Try.ntmps69 (Nat.le_of_ble_eq_true rfl) ?_
 refine rsr ?_
 refine sbox 5 [.slice A2 (nw a) c3] h0L rfl rfl fun b10 L8 w9 o11 s12 h13 => ?_
 refine sbox 6 [.slice A5 (nw b) c6] h13 rfl rfl fun b16 L14 w15 o17 s18 h19 => ?_
 refine salloc 7 [.slice none 0 0] h19 ty60 rfl fun b22 L20 w21 o23 s24 h25 => ?_
 refine Seq.next ?_
 refine Run.seq ?_
 refine rsr ?_
 refine sv (Does.move rfl) ?_
 refine sv (Does.neq_nil Try.underlying67 rfl rfl) ?_
 refine sv (Does.move rfl) ?_
 refine Seq.guard_on' rfl rfl rfl ?_
 refine sv (Does.move rfl) ?_
 refine Seq.guard_on' rfl rfl rfl ?_
 refine sv (Does.nilCheck rfl) ?_
 refine Seq.guard_on' rfl rfl rfl ?_
 have c26 := s18.trans s24
 have c27 := s12.trans c26
 have q28 := up c27 h0
 obtain ⟨A29, c30, r31, q32⟩ := RingV.open q28
 refine sv (Does.fieldAddr' 1 Try.underlying174 rfl ty62 rfl rfl) ?_
 refine Seq.guard_on' rfl rfl rfl ?_
 refine sv (Does.load_one ty62 rfl (Ro.cell r31 1 rfl)) ?_
 refine Seq.guard_on' rfl rfl rfl ?_
 refine sv (Does.gtr rfl rfl) ?_
 refine sv (Does.pick_t rfl rfl) ?_
 refine Seq.next ?_
 rcases Decidable.em ((0 : Int) < ((ringSmall r : Nat) : Int)) with hp1 | hp1
 rotate_left
 ·refine Run.cond_b rfl (decide_eq_false hp1) ?_
  refine Run.skip_go (fun _ _ h => h) ?_
  refine rsr ?_
  refine sv (Does.move rfl) ?_
  have o229 := o11.up c26
  refine sv (Does.load_ownN [.slice A2 (nw a) c3] o229 ty60 rfl rfl) ?_
  have o230 := o17.up s24
  refine sv (Does.load_ownN [.slice A5 (nw b) c6] o230 ty60 rfl rfl) ?_
  have q231 := up c27 h1
  have q232 := up c27 h2
  refine scall (V := NatV (a * b)) cal116 h25 rfl (nat_Mul h25 q231 q232 (show nw a ≤ 1000000 from by omega) (show nw b ≤ 1000000 from by omega)) fun v233 w234 q235 s236 h237 => ?_
  obtain ⟨A238, c239, rfl⟩ := NatV.shape q235
  have z240 := NatV.cap q235
  have q241 := up s236 q28
  refine scall (V := NatV ((a * b) % r)) cal61 h237 rfl (ring_Of h237 q241 q235 (show 1 < r from by assumption) (show nw (a * b) ≤ 999999 from by omega) (show nw r ≤ 1000000 from by omega)) fun v242 w243 q244 s245 h246 => ?_
  obtain ⟨A247, c248, rfl⟩ := NatV.shape q244
  have z249 := NatV.cap q244
  have c251 := s236.trans s245
  have o250 := o23.up c251
  refine sstore [.slice A247 (nw ((a * b) % r)) c248] h246 o250 ty60 rfl rfl rfl (Nat.le_of_ble_eq_true rfl) rfl rfl fun w252 o253 s254 h255 => ?_
  refine Seq.next ?_
  have c256 := c251.trans s254
  have c257 := c27.trans c256
  obtain ⟨⟨zU, zo⟩, zb⟩ := hX c257 (by decide)
  have q258 := up s254 q244
  refine Run.ret ?_
  exact post_one Try.results69 ⟨_, rfl, Own.loadN [.slice A247 (nw ((a * b) % r)) c248] o253 ty60 rfl⟩ ⟨_, rfl, (NatV.cast (by with_reducible rfl) (up zo q258)), zb⟩
 refine Run.cond_b rfl (decide_eq_true hp1) ?_
 refine rsr ?_
 have o33 := o11.up c26
 refine sv (Does.load_ownN [.slice A2 (nw a) c3] o33 ty60 rfl rfl) ?_
 have q34 := up c27 h1
 refine scall (V := And2 (Is (n64 (if nw a ≤ 2 then a else 0))) (Is (.bool (decide (nw a ≤ 2))))) cal141 h25 rfl (nat_Uint h25 q34) fun v35 w36 q37 s38 h39 => ?_
 obtain ⟨v40, v41, rfl, q42, q43⟩ := q37
 have q42 := Is.out q42; subst q42
 have q43 := Is.out q43; subst q43
 refine sv (Does.move rfl) ?_
 refine sv (Does.extract rfl rfl) ?_
 refine sv (Does.extract rfl rfl) ?_
 refine sv (Does.assign rfl) ?_
 refine sv (Does.assign rfl) ?_
 refine nsr ?_
 have c45 := s24.trans s38
 have o44 := o17.up c45
 refine sv (Does.load_ownN [.slice A5 (nw b) c6] o44 ty60 rfl rfl) ?_
 have c46 := c27.trans s38
 have q47 := up c46 h2
 refine scall (V := And2 (Is (n64 (if nw b ≤ 2 then b else 0))) (Is (.bool (decide (nw b ≤ 2))))) cal141 h39 rfl (nat_Uint h39 q47) fun v48 w49 q50 s51 h52 => ?_
 obtain ⟨v53, v54, rfl, q55, q56⟩ := q50
 have q55 := Is.out q55; subst q55
 have q56 := Is.out q56; subst q56
 refine sv (Does.move rfl) ?_
 refine sv (Does.extract rfl rfl) ?_
 refine sv (Does.extract rfl rfl) ?_
 refine sv (Does.assign rfl) ?_
 refine sv (Does.assign rfl) ?_
 refine nsr ?_
 refine sv (Does.move rfl) ?_
 refine sv (Does.move rfl) ?_
 rcases Decidable.em (nw a ≤ 2) with hp2 | hp2
 rotate_left
 ·refine Seq.guard_off' rfl rfl (decide_eq_false hp2) rfl (by decide) ?_
  refine sv (Does.pick_b rfl (decide_eq_false hp2) rfl) ?_
  refine Seq.next ?_
  refine Run.cond_b rfl rfl ?_
  refine Run.skip_go (fun _ _ h => h) ?_
  refine rsr ?_
  refine sv (Does.move rfl) ?_
  have c196 := s38.trans s51
  have o195 := o33.up c196
  refine sv (Does.load_ownN [.slice A2 (nw a) c3] o195 ty60 rfl rfl) ?_
  have o197 := o44.up s51
  refine sv (Does.load_ownN [.slice A5 (nw b) c6] o197 ty60 rfl rfl) ?_
  have q198 := up c196 q34
  have q199 := up s51 q47
  refine scall (V := NatV (a * b)) cal116 h52 rfl (nat_Mul h52 q198 q199 (show nw a ≤ 1000000 from by omega) (show nw b ≤ 1000000 from by omega)) fun v200 w201 q202 s203 h204 => ?_
  obtain ⟨A205, c206, rfl⟩ := NatV.shape q202
  have z207 := NatV.cap q202
  have c208 := c196.trans s203
  have q209 := up c208 q28
  refine scall (V := NatV ((a * b) % r)) cal61 h204 rfl (ring_Of h204 q209 q202 (show 1 < r from by assumption) (show nw (a * b) ≤ 999999 from by omega) (show nw r ≤ 1000000 from by omega)) fun v210 w211 q212 s213 h214 => ?_
  obtain ⟨A215, c216, rfl⟩ := NatV.shape q212
  have z217 := NatV.cap q212
  have c219 := c208.trans s213
  have o218 := o23.up c219
  refine sstore [.slice A215 (nw ((a * b) % r)) c216] h214 o218 ty60 rfl rfl rfl (Nat.le_of_ble_eq_true rfl) rfl rfl fun w220 o221 s222 h223 => ?_
  refine Seq.next ?_
  have c224 := s213.trans s222
  have c225 := s203.trans c224
  have c226 := s51.trans c225
  have c227 := c46.trans c226
  obtain ⟨⟨zU, zo⟩, zb⟩ := hX c227 (by decide)
  have q228 := up s222 q212
  refine Run.ret ?_
  exact post_one Try.results69 ⟨_, rfl, Own.loadN [.slice A215 (nw ((a * b) % r)) c216] o221 ty60 rfl⟩ ⟨_, rfl, (NatV.cast (by with_reducible rfl) (up zo q228)), zb⟩
 refine Seq.guard_on' rfl rfl (decide_eq_true hp2) ?_
 refine sv (Does.move rfl) ?_
 refine sv (Does.pick_b rfl (decide_eq_true hp2) rfl) ?_
 refine Seq.next ?_
 rcases Decidable.em (nw b ≤ 2) with hp3 | hp3
 rotate_left
 ·refine Run.cond_b rfl (decide_eq_false hp3) ?_
  refine Run.skip_go (fun _ _ h => h) ?_
  refine rsr ?_
  refine sv (Does.move rfl) ?_
  have c162 := s38.trans s51
  have o161 := o33.up c162
  refine sv (Does.load_ownN [.slice A2 (nw a) c3] o161 ty60 rfl rfl) ?_
  have o163 := o44.up s51
  refine sv (Does.load_ownN [.slice A5 (nw b) c6] o163 ty60 rfl rfl) ?_
  have q164 := up c162 q34
  have q165 := up s51 q47
  refine scall (V := NatV (a * b)) cal116 h52 rfl (nat_Mul h52 q164 q165 (show nw a ≤ 1000000 from by omega) (show nw b ≤ 1000000 from by omega)) fun v166 w167 q168 s169 h170 => ?_
  obtain ⟨A171, c172, rfl⟩ := NatV.shape q168
  have z173 := NatV.cap q168
  have c174 := c162.trans s169
  have q175 := up c174 q28
  refine scall (V := NatV ((a * b) % r)) cal61 h170 rfl (ring_Of h170 q175 q168 (show 1 < r from by assumption) (show nw (a * b) ≤ 999999 from by omega) (show nw r ≤ 1000000 from by omega)) fun v176 w177 q178 s179 h180 => ?_
  obtain ⟨A181, c182, rfl⟩ := NatV.shape q178
  have z183 := NatV.cap q178
  have c185 := c174.trans s179
  have o184 := o23.up c185
  refine sstore [.slice A181 (nw ((a * b) % r)) c182] h180 o184 ty60 rfl rfl rfl (Nat.le_of_ble_eq_true rfl) rfl rfl fun w186 o187 s188 h189 => ?_
  refine Seq.next ?_
  have c190 := s179.trans s188
  have c191 := s169.trans c190
  have c192 := s51.trans c191
  have c193 := c46.trans c192
  obtain ⟨⟨zU, zo⟩, zb⟩ := hX c193 (by decide)
  have q194 := up s188 q178
  refine Run.ret ?_
  exact post_one Try.results69 ⟨_, rfl, Own.loadN [.slice A181 (nw ((a * b) % r)) c182] o187 ty60 rfl⟩ ⟨_, rfl, (NatV.cast (by with_reducible rfl) (up zo q194)), zb⟩
 refine Run.cond_b rfl (decide_eq_true hp3) ?_
 refine Run.seq ?_
 refine Run.open 19 (Φ := [.ex (n64 (if nw a ≤ 2 then a else 0)), .ex (.pointer (some ⟨b1, 0, none⟩)), .ex (.pointer (some ⟨b1, 0, none⟩)), .ex (.pointer (some ⟨b1, 1, none⟩)), .ex (n64 (ringSmall r)), .ex (n64 ((if nw a ≤ 2 then a else 0) % (ringSmall r))), .ex (n64 (if nw b ≤ 2 then b else 0)), .ex (.pointer (some ⟨b1, 0, none⟩)), .ex (.pointer (some ⟨b1, 0, none⟩)), .ex (.pointer (some ⟨b1, 1, none⟩)), .ex (n64 (ringSmall r)), .ex (n64 ((if nw b ≤ 2 then b else 0) % (ringSmall r))), .ex (n64 (((if nw a ≤ 2 then a else 0) % (ringSmall r)) * ((if nw b ≤ 2 then b else 0) % (ringSmall r)))), .ex (.pointer (some ⟨b1, 0, none⟩)), .ex (.pointer (some ⟨b1, 0, none⟩)), .ex (.pointer (some ⟨b1, 1, none⟩)), .ex (n64 (ringSmall r)), .ex (n64 ((((if nw a ≤ 2 then a else 0) % (ringSmall r)) * ((if nw b ≤ 2 then b else 0) % (ringSmall r))) % (ringSmall r))), .v (NatV ((((if nw a ≤ 2 then a else 0) % (ringSmall r)) * ((if nw b ≤ 2 then b else 0) % (ringSmall r))) % (ringSmall r)))]) [(18, 52)] mixed (by kernel_rfl) rfl h52 ⟨(oX [] rfl rfl rfl fun _ _ => Does.move rfl), (oX [] rfl rfl rfl fun _ _ => Does.move rfl), (oX [(1, 35)] rfl rfl rfl fun _ _ => Does.nilCheck rfl), (oX [(2, 36)] rfl rfl rfl fun _ _ => Does.fieldAddr' 1 Try.underlying174 rfl ty62 rfl rfl), ?_, (oX [(0, 34), (4, 38)] rfl rfl rfl fun _ _ => Does.n64_rem rfl rfl (by omega)), (oX [] rfl rfl rfl fun _ _ => Does.move rfl), (oX [] rfl rfl rfl fun _ _ => Does.move rfl), (oX [(7, 41)] rfl rfl rfl fun _ _ => Does.nilCheck rfl), (oX [(8, 42)] rfl rfl rfl fun _ _ => Does.fieldAddr' 1 Try.underlying174 rfl ty62 rfl rfl), ?_, (oX [(6, 40), (10, 44)] rfl rfl rfl fun _ _ => Does.n64_rem rfl rfl (by omega)), (oX [(5, 39), (11, 45)] rfl rfl rfl fun _ _ => Does.n64_mul rfl rfl (by exact mul_small hl (by omega))), (oX [] rfl rfl rfl fun _ _ => Does.move rfl), (oX [(13, 47)] rfl rfl rfl fun _ _ => Does.nilCheck rfl), (oX [(14, 48)] rfl rfl rfl fun _ _ => Does.fieldAddr' 1 Try.underlying174 rfl ty62 rfl rfl), ?_, (oX [(12, 46), (16, 50)] rfl rfl rfl fun _ _ => Does.n64_rem rfl rfl (by omega)), ?_, trivial⟩ (fun L142 w143 h144 s145 v146 q147 => ?_)
 ·refine oP [(3, 37)] rfl rfl fun L73 w74 h75 s76 => ?_
  have c77 := s51.trans s76
  have c78 := s38.trans c77
  have q79 := up c78 r31
  exact ⟨_, Does.load_one ty62 rfl (Ro.cell q79 1 rfl), rfl⟩
 ·refine oP [(9, 43)] rfl rfl fun L100 w101 h102 s103 => ?_
  have c104 := s51.trans s103
  have c105 := s38.trans c104
  have q106 := up c105 r31
  exact ⟨_, Does.load_one ty62 rfl (Ro.cell q106 1 rfl), rfl⟩
 ·refine oP [(15, 49)] rfl rfl fun L127 w128 h129 s130 => ?_
  have c131 := s51.trans s130
  have c132 := s38.trans c131
  have q133 := up c132 r31
  exact ⟨_, Does.load_one ty62 rfl (Ro.cell q133 1 rfl), rfl⟩
 ·refine oC [(17, 51)] rfl rfl cal32 fun L138 w139 h140 s141 => ?_
  exact ⟨_, rfl, (nat_New h140 (x := (((if nw a ≤ 2 then a else 0) % (ringSmall r)) * ((if nw b ≤ 2 then b else 0) % (ringSmall r))) % (ringSmall r)) (show ((((if nw a ≤ 2 then a else 0) % (ringSmall r)) * ((if nw b ≤ 2 then b else 0) % (ringSmall r))) % (ringSmall r)) < 18446744073709551616 from by exact Nat.lt_trans (Nat.mod_lt _ (by omega)) (by omega)))⟩
 obtain ⟨A148, c149, rfl⟩ := NatV.shape q147
 have z150 := NatV.cap q147
 have c152 := s51.trans s145
 have c153 := s38.trans c152
 have o151 := o23.up c153
 refine sstore [.slice A148 (nw ((((if nw a ≤ 2 then a else 0) % (ringSmall r)) * ((if nw b ≤ 2 then b else 0) % (ringSmall r))) % (ringSmall r))) c149] h144 o151 ty60 rfl rfl rfl (Nat.le_of_ble_eq_true rfl) rfl rfl fun w154 o155 s156 h157 => ?_
 refine Seq.next ?_
 have c158 := c152.trans s156
 have c159 := c46.trans c158
 obtain ⟨⟨zU, zo⟩, zb⟩ := hX c159 (by decide)
 have q160 := up s156 q147
 refine Run.ret (ret_then ?_)
 exact post_one Try.results69 ⟨_, rfl, Own.loadN [.slice A148 (nw ((((if nw a ≤ 2 then a else 0) % (ringSmall r)) * ((if nw b ≤ 2 then b else 0) % (ringSmall r))) % (ringSmall r))) c149] o155 ty60 rfl⟩ ⟨_, rfl, (NatV.cast (by exact mul_fast (by assumption) (by assumption) (by assumption)) (up zo q160)), zb⟩
end Go.Proofs.Ytgfomedobfaidaa
end
section
set_option linter.unusedVariables false
set_option linter.unusedSimpArgs false
namespace Go.Proofs.Ytgfomedobfaidaa
open Go.RowKit
def ArrN (lab : Lab) (w : World) (d b : Nat) (t : TypeId) (L : List Nat) : Prop := ∃ cs : List Value, Own lab w d b t cs.toArray ∧ EachN lab w L cs
theorem ArrN.up {T : List Nat} {lab lab' : Lab} {w w' : World} {d b : Nat} {t : TypeId} {L : List Nat} (h : ArrN lab w d b t L) (s : Stp T lab w lab' w') (hd : d ∉ T := by decide) : ArrN lab' w' d b t L := by
 obtain ⟨cs, h1, h2⟩ := h
 exact ⟨cs, h1.up s hd, h2.step s⟩
theorem EachN.zeros (lab : Lab) (w : World) : ∀ n, EachN lab w (List.replicate n 0) (List.replicate n (.slice none 0 0))
 | 0 => trivial
 | n + 1 => ⟨NatV.zero lab w, EachN.zeros lab w n⟩
theorem ArrN.zeros {lab : Lab} {w : World} {d b : Nat} {t : TypeId} {arr : Array Value} (n : Nat) (h : Own lab w d b t arr) (hc : arr = (List.replicate n (.slice none 0 0)).toArray) : ArrN lab w d b t (List.replicate n 0) := by
 subst hc
 exact ⟨_, h, EachN.zeros lab w n⟩
theorem getD_some {L : List Nat} {j : Nat} (h : j < L.length) : L[j]? = some (L.getD j 0) := by simp [List.getD, h]
theorem EachN.set {lab : Lab} {w : World} {x : Nat} {u : Value} (hx : NatV x lab w (.agg #[u])) : ∀ {L : List Nat} {vs : List Value} (j : Nat), EachN lab w L vs → EachN lab w (L.set j x) (vs.set j u)
 | [], [], _, _ => trivial
 | _ :: _, _ :: _, 0, h => ⟨hx, h.2⟩
 | _ :: _, _ :: _, j + 1, h => ⟨h.1, EachN.set hx j h.2⟩
 | [], _ :: _, _, h => h.elim
 | _ :: _, [], _, h => h.elim
section
variable {ds : List Deferred} {P : Program} {N : Nat} {ops : Array Oper} {Q : Exit → Act → World → Prop} {l : List (Nat × Value)} {rest : List Oper} {w : World} {lab : Lab} {ty : TypeId} {pos : String} {af : Array Edge}
theorem Does.load_cell {t t' : TypeId} {x : Operand} {by_ d b j : Nat} {z : Option Value} {cs : List Value} {u : Value} (h : Own lab w d b t' cs.toArray) (ht : tyRow P t = some (true, 1, z, by_)) (hx : ev l x = some (.pointer (some ⟨b, 0 + j * 1, none⟩))) (hu : cs[j]? = some u) : Does P l (.load t x) ty w (.agg #[u]) w := by
 have hj : j < cs.length := (List.getElem?_eq_some_iff.1 hu).1
 have e : cs[j] = u := (List.getElem?_eq_some_iff.1 hu).2
 refine Does.load_ownN [u] h ht hx ?_
 show List.take 1 (List.drop (0 + j * 1) cs) = [u]
 rw [Nat.zero_add, Nat.mul_one, List.drop_eq_getElem_cons hj, e]
 rfl
theorem splice1 (j : Nat) (u : Value) {cs : List Value} (hj : j < cs.length) : cs.take j ++ [u] ++ cs.drop (j + 1) = cs.set j u := by
 rw [List.set_eq_take_append_cons_drop, if_pos hj]; simp
theorem sstoreN {k b j x : Nat} {t t' : TypeId} {xo y : Operand} {u : Value} {by_ : Nat} {z : Option Value} {L : List Nat} (hv : Valid lab w) (h : ArrN lab w k b t' L) (ht : tyRow P t = some (true, 1, z, by_)) (hx : ev l xo = some (.pointer (some ⟨b, 0 + j * 1, none⟩))) (hy : ev l y = some (.agg #[u])) (hn : NatV x lab w (.agg #[u])) (hj : j < L.length) (h1 : u.oneCell' = true)
  (hk : ∀ w', ArrN lab w' k b t' (L.set j x) → Stp [k] lab w lab w' → Valid lab w' → Seq ds P N ops Q l rest w') : Seq ds P N ops Q l (⟨none, .store t xo y, ty, pos, af, none⟩ :: rest) w := by
 obtain ⟨cs, ho, he⟩ := h
 have hl := he.len
 refine Seq.store (cs.set j u) hv ho ht hx hy rfl (by simp; omega) (show ([u] : List Value).all (·.oneCell') = true by simp [h1]) ?_ fun w' o s v => hk w' ⟨_, o, ((EachN.set hn j he).step s)⟩ s v
 show (List.take (0 + j * 1) cs ++ [u] ++ List.drop (0 + j * 1 + 1) cs).toArray = _
 rw [Nat.zero_add, Nat.mul_one, splice1 j u (by omega)]
end
theorem nw_one : nw 1 = 1 := by rw [nw_pos (by omega), show 1 / 4294967296 = 0 from rfl, nw_zero]
theorem exp_sq (b r e : Nat) : b ^ e % r * (b ^ e % r) % r = b ^ (2 * e) % r := by
 rw [← Nat.mul_mod, ← Nat.pow_add]; congr 2; omega
theorem exp_mul (b r e f : Nat) : b ^ e % r * (b ^ f % r) % r = b ^ (e + f) % r := by rw [← Nat.mul_mod, ← Nat.pow_add]
theorem exp_mul1 (b r e : Nat) : b ^ e % r * b % r = b ^ (e + 1) % r := by rw [Nat.mod_mul_mod, Nat.pow_succ]
theorem half (x j : Nat) : x / 2 ^ j = 2 * (x / 2 ^ (j + 1)) + x / 2 ^ j % 2 := by
 rw [Nat.pow_succ, ← Nat.div_div_eq_div_mul]; omega
theorem exp_bit1 {b r x k : Nat} (hk : 1 ≤ k) (h : (if 0 ≤ ((k : Nat) : Int) - 1 then ((x / 2 ^ (((k : Nat) : Int) - 1).toNat % 2 : Nat) : Int) else 0) = 1) : b ^ (x / 2 ^ k) % r * (b ^ (x / 2 ^ k) % r) % r * b % r = b ^ (x / 2 ^ (k - 1)) % r := by
 obtain ⟨j, rfl⟩ : ∃ j, k = j + 1 := ⟨k - 1, by omega⟩
 rw [if_pos (by omega), show (((j + 1 : Nat) : Int) - 1).toNat = j by omega] at h
 rw [exp_sq, exp_mul1, Nat.add_sub_cancel, half x j]
 congr 2; omega
theorem exp_bit0 {b r x k : Nat} (hk : 1 ≤ k) (h : ¬ (if 0 ≤ ((k : Nat) : Int) - 1 then ((x / 2 ^ (((k : Nat) : Int) - 1).toNat % 2 : Nat) : Int) else 0) = 1) : b ^ (x / 2 ^ k) % r * (b ^ (x / 2 ^ k) % r) % r = b ^ (x / 2 ^ (k - 1)) % r := by
 obtain ⟨j, rfl⟩ : ∃ j, k = j + 1 := ⟨k - 1, by omega⟩
 rw [if_pos (by omega), show (((j + 1 : Nat) : Int) - 1).toNat = j by omega] at h
 rw [exp_sq, Nat.add_sub_cancel, half x j]
 congr 2; omega
theorem exp_start (b r : Nat) {x : Nat} : 1 % r = b ^ (x / 2 ^ blen x) % r := by
 rw [Nat.div_eq_of_lt (blen_le.1 (Nat.le_refl _)), Nat.pow_zero]
theorem exp_end {a r x k : Nat} (h : k = 0) : (a % r) ^ (x / 2 ^ k) % r = a ^ x % r := by
 rw [h, Nat.pow_zero, Nat.div_one, ← Nat.pow_mod]
def tab (b r i : Nat) : List Nat := (List.range 16).map fun j => if j < i then b ^ j % r else 0
theorem tab_length (b r i : Nat) : (tab b r i).length = 16 := by simp [tab]
theorem tab_get {b r i j : Nat} (hj : j < i) (h : j < 16) : (tab b r i).getD j 0 = b ^ j % r := by
 simp [tab, List.getD, h, hj]
theorem tab_one (b r : Nat) : (List.replicate 16 0).set 0 (1 % r) = tab b r 1 := by
 simp [tab, List.range, List.range.loop]
theorem tab_step {b r i : Nat} (h1 : 1 ≤ i) (h : i < 16) : (tab b r i).set i ((tab b r i).getD (i - 1) 0 * b % r) = tab b r (i + 1) := by
 rw [tab_get (by omega) (by omega), exp_mul1, Nat.sub_add_cancel h1]
 refine List.ext_getElem (by simp [tab]) fun j a1 a2 => ?_
 simp only [tab, List.getElem_set, List.getElem_map, List.getElem_range]
 split
 ·rename_i e; subst e; rw [if_pos (by omega)]
 ·split <;> split <;> first | rfl | omega
theorem four_bits (x e : Nat) : x / 2 ^ e % 2 + 2 * (x / 2 ^ (e + 1) % 2) + 4 * (x / 2 ^ (e + 2) % 2) + 8 * (x / 2 ^ (e + 3) % 2) = x / 2 ^ e % 16 := by
 simp only [Nat.pow_add, ← Nat.div_div_eq_div_mul]
 generalize x / 2 ^ e = y
 omega
theorem exp_digit {x k : Nat} (hk : 1 ≤ k) : (if 0 ≤ 4 * (((k : Nat) : Int) - 1) then ((x / 2 ^ (4 * (((k : Nat) : Int) - 1)).toNat % 2 : Nat) : Int) else 0) + 2 * (if 0 ≤ 4 * (((k : Nat) : Int) - 1) + 1 then ((x / 2 ^ (4 * (((k : Nat) : Int) - 1) + 1).toNat % 2 : Nat) : Int) else 0) + 4 * (if 0 ≤ 4 * (((k : Nat) : Int) - 1) + 2 then ((x / 2 ^ (4 * (((k : Nat) : Int) - 1) + 2).toNat % 2 : Nat) : Int) else 0) + 8 * (if 0 ≤ 4 * (((k : Nat) : Int) - 1) + 3 then ((x / 2 ^ (4 * (((k : Nat) : Int) - 1) + 3).toNat % 2 : Nat) : Int) else 0) = ((x / 16 ^ (k - 1) % 16 : Nat) : Int) := by
 obtain ⟨j, rfl⟩ : ∃ j, k = j + 1 := ⟨k - 1, by omega⟩
 rw [if_pos (by omega), if_pos (by omega), if_pos (by omega), if_pos (by omega), show (4 * (((j + 1 : Nat) : Int) - 1)).toNat = 4 * j by omega, show (4 * (((j + 1 : Nat) : Int) - 1) + 1).toNat = 4 * j + 1 by omega, show (4 * (((j + 1 : Nat) : Int) - 1) + 2).toNat = 4 * j + 2 by omega, show (4 * (((j + 1 : Nat) : Int) - 1) + 3).toNat = 4 * j + 3 by omega, Nat.add_sub_cancel,
  show (16 : Nat) ^ j = 2 ^ (4 * j) by rw [Nat.pow_mul], ← four_bits x (4 * j)]
 simp
theorem sixteen (x j : Nat) : x / 16 ^ j = 16 * (x / 16 ^ (j + 1)) + x / 16 ^ j % 16 := by
 rw [Nat.pow_succ, ← Nat.div_div_eq_div_mul]; omega
theorem exp_start4 (b r : Nat) {x k : Nat} (hk : k = (blen x - 1) / 4 + 1) : 1 % r = b ^ (x / 16 ^ k) % r := by
 rw [Nat.div_eq_of_lt, Nat.pow_zero]
 have h : x < 2 ^ blen x := blen_le.1 (Nat.le_refl _)
 refine Nat.lt_of_lt_of_le h ?_
 rw [show (16 : Nat) ^ k = 2 ^ (4 * k) by rw [Nat.pow_mul]]
 exact Nat.pow_le_pow_right (by omega) (by omega)
theorem exp_sqi (b r e i : Nat) : b ^ (2 ^ i * e) % r * (b ^ (2 ^ i * e) % r) % r = b ^ (2 ^ (i + 1) * e) % r := by
 rw [exp_sq]; congr 2; rw [Nat.pow_succ, Nat.mul_comm _ 2, Nat.mul_assoc]
theorem exp_dig0 {b r x k i : Nat} {d : Int} (hk : 1 ≤ k) (hi : i = 4) (hd : d = ((x / 16 ^ (k - 1) % 16 : Nat) : Int)) (h : ¬ (0 : Int) < d) : b ^ (2 ^ i * (x / 16 ^ k)) % r = b ^ (x / 16 ^ (k - 1)) % r := by
 obtain ⟨j, rfl⟩ : ∃ j, k = j + 1 := ⟨k - 1, by omega⟩
 rw [Nat.add_sub_cancel] at hd ⊢
 rw [sixteen x j, hi]
 congr 2; omega
theorem exp_dig1 {b r x k i n : Nat} {d : Int} (hk : 1 ≤ k) (hi : i = 4) (hd : d = ((x / 16 ^ (k - 1) % 16 : Nat) : Int)) (hn : 16 ≤ n) : b ^ (2 ^ i * (x / 16 ^ k)) % r * (tab b r n).getD d.toNat 0 % r = b ^ (x / 16 ^ (k - 1)) % r := by
 obtain ⟨j, rfl⟩ : ∃ j, k = j + 1 := ⟨k - 1, by omega⟩
 rw [Nat.add_sub_cancel] at hd ⊢
 rw [tab_get (by omega) (by omega), exp_mul, sixteen x j, hi]
 congr 2; omega
theorem exp_end4 {a r x k : Nat} (h : k = 0) : (a % r) ^ (x / 16 ^ k) % r = a ^ x % r := by
 rw [h, Nat.pow_zero, Nat.div_one, ← Nat.pow_mod]
end Go.Proofs.Ytgfomedobfaidaa
end
section
set_option linter.unusedVariables false
set_option linter.unusedSimpArgs false
set_option maxRecDepth 100000
namespace Go.Proofs.Ytgfomedobfaidaa
open Go.RowKit
set_option maxHeartbeats 2000000 in
theorem ring_Exp {lab : Lab} {w : World} (hv : Valid lab w) {r : Nat} {v0 : Value} (h0 : RingV r lab w v0) {a : Nat} {v1 : Value} (h1 : NatV a lab w v1) {x : Nat} {v2 : Value} (h2 : NatV x lab w v2) (hr : 1 < r) (ha : nw a ≤ 1000) (hx : nw x ≤ 1000) (hn : nw r ≤ 1000) :
  Calls Try.prog 108 #[v0, v1, v2] w (fun e w' => ∃ v, e = .returned v ∧ (NatV (a ^ x % r)) lab w' v ∧ Below w.heap.size w w') := by
 obtain ⟨L0, h0L, ⟨zU0, z00⟩, hX⟩ := enter0 hv
 replace h0 := up z00 h0
 obtain ⟨b1, rfl⟩ := PtrV.shape h0
 replace h1 := up z00 h1
 obtain ⟨A2, c3, rfl⟩ := NatV.shape h1
 have z4 := NatV.cap h1
 replace h2 := up z00 h2
 obtain ⟨A5, c6, rfl⟩ := NatV.shape h2
 have z7 := NatV.cap h2
 have hB := blen_le_nw x
 have n1 : nw 1 = 1 := nw_one
 refine calls_run Try.func108 rfl Try.ntmps108 (Nat.le_of_ble_eq_true rfl) ?_
 refine rsr ?_
 refine sbox 5 [.slice A2 (nw a) c3] h0L rfl rfl fun b10 L8 w9 o11 s12 h13 => ?_
 refine sbox 6 [.slice A5 (nw x) c6] h13 rfl rfl fun b16 L14 w15 o17 s18 h19 => ?_
 refine salloc 7 [.slice none 0 0] h19 ty60 rfl fun b22 L20 w21 o23 s24 h25 => ?_
 refine nsr ?_
 refine sv (Does.move rfl) ?_
 refine scall (V := NatV 1) cal32 h25 rfl (nat_New h25 (x := 1) (show 1 < 18446744073709551616 from by omega)) fun v26 w27 q28 s29 h30 => ?_
 obtain ⟨A31, c32, rfl⟩ := NatV.shape q28
 have z33 := NatV.cap q28
 have c34 := s24.trans s29
 have c35 := s18.trans c34
 have c36 := s12.trans c35
 have q37 := up c36 h0
 refine scall (V := NatV (1 % r)) cal61 h30 rfl (ring_Of h30 q37 q28 (show 1 < r from by omega) (show nw 1 ≤ 999999 from by omega) (show nw r ≤ 1000000 from by omega)) fun v38 w39 q40 s41 h42 => ?_
 obtain ⟨A43, c44, rfl⟩ := NatV.shape q40
 have z45 := NatV.cap q40
 refine salloc 8 [.slice none 0 0] h42 ty60 rfl fun b48 L46 w47 o49 s50 h51 => ?_
 refine sstore [.slice A43 (nw (1 % r)) c44] h51 o49 ty60 rfl rfl rfl (Nat.le_of_ble_eq_true rfl) rfl rfl fun w52 o53 s54 h55 => ?_
 refine Seq.next ?_
 refine Run.seq ?_
 refine rsr ?_
 have c57 := s50.trans s54
 have c58 := s41.trans c57
 have c59 := c34.trans c58
 have o56 := o17.up c59
 refine sv (Does.load_ownN [.slice A5 (nw x) c6] o56 ty60 rfl rfl) ?_
 have c60 := c36.trans c58
 have q61 := up c60 h2
 refine scall (V := Is (.bool (decide (x = 0)))) cal48 h55 rfl (nat_Zero h55 q61) fun v62 w63 q64 s65 h66 => ?_
 have q64 := Is.out q64; subst q64
 refine Seq.next ?_
 rcases Decidable.em (x = 0) with hp1 | hp1
 ·refine Run.cond_b rfl (decide_eq_true hp1) ?_
  refine rsr ?_
  have o67 := o53.up s65
  refine sv (Does.load_ownN [.slice A43 (nw (1 % r)) c44] o67 ty60 rfl rfl) ?_
  have c69 := c58.trans s65
  have c70 := s29.trans c69
  have o68 := o23.up c70
  refine sstore [.slice A43 (nw (1 % r)) c44] h66 o68 ty60 rfl rfl rfl (Nat.le_of_ble_eq_true rfl) rfl rfl fun w71 o72 s73 h74 => ?_
  refine Seq.next ?_
  have c75 := s65.trans s73
  have c76 := c60.trans c75
  obtain ⟨⟨zU, zo⟩, zb⟩ := hX c76 (by decide)
  have c77 := c57.trans c75
  have q78 := up c77 q40
  refine Run.ret (ret_then ?_)
  exact post_one Try.results108 ⟨_, rfl, Own.loadN [.slice A43 (nw (1 % r)) c44] o72 ty60 rfl⟩ ⟨_, rfl, (NatV.cast (by rw [hp1, Nat.pow_zero]) (up zo q78)), zb⟩
 refine Run.cond_b rfl (decide_eq_false hp1) ?_
 refine Run.skip_go (fun _ _ h => h) ?_
 refine rsr ?_
 refine sv (Does.move rfl) ?_
 have c80 := c58.trans s65
 have c81 := c35.trans c80
 have o79 := o11.up c81
 refine sv (Does.load_ownN [.slice A2 (nw a) c3] o79 ty60 rfl rfl) ?_
 have q82 := up c80 q37
 have c83 := c60.trans s65
 have q84 := up c83 h1
 refine scall (V := NatV (a % r)) cal61 h66 rfl (ring_Of h66 q82 q84 (show 1 < r from by omega) (show nw a ≤ 999999 from by omega) (show nw r ≤ 1000000 from by omega)) fun v85 w86 q87 s88 h89 => ?_
 obtain ⟨A90, c91, rfl⟩ := NatV.shape q87
 have z92 := NatV.cap q87
 have o93 := o79.up s88
 refine sstore [.slice A90 (nw (a % r)) c91] h89 o93 ty60 rfl rfl rfl (Nat.le_of_ble_eq_true rfl) rfl rfl fun w94 o95 s96 h97 => ?_
 refine Seq.next ?_
 refine Run.seq ?_
 refine rsr ?_
 have c99 := s88.trans s96
 have c100 := s65.trans c99
 have o98 := o56.up c100
 refine sv (Does.load_ownN [.slice A5 (nw x) c6] o98 ty60 rfl rfl) ?_
 have q101 := up c100 q61
 refine scall (V := Is (i64 ((blen x : Nat) : Int))) cal113 h97 rfl (nat_Bits h97 q101 (show nw x ≤ 1000000 from by omega)) fun v102 w103 q104 s105 h106 => ?_
 have q104 := Is.out q104; subst q104
 refine sv (Does.leq rfl rfl) ?_
 refine Seq.next ?_
 rcases Decidable.em ((((blen x : Nat) : Int) : Int) ≤ (24 : Int)) with hp2 | hp2
 ·refine Run.cond_b rfl (decide_eq_true hp2) ?_
  refine rsr ?_
  have c108 := c100.trans s105
  have o107 := o53.up c108
  refine sv (Does.load_ownN [.slice A43 (nw (1 % r)) c44] o107 ty60 rfl rfl) ?_
  refine salloc 9 [.slice none 0 0] h106 ty60 rfl fun b111 L109 w110 o112 s113 h114 => ?_
  refine sstore [.slice A43 (nw (1 % r)) c44] h114 o112 ty60 rfl rfl rfl (Nat.le_of_ble_eq_true rfl) rfl rfl fun w115 o116 s117 h118 => ?_
  refine Seq.next ?_
  refine Run.seq ?_
  refine rsr ?_
  have c120 := s113.trans s117
  have c121 := s105.trans c120
  have o119 := o98.up c121
  refine sv (Does.load_ownN [.slice A5 (nw x) c6] o119 ty60 rfl rfl) ?_
  have q122 := up c121 q101
  refine scall (V := Is (i64 ((blen x : Nat) : Int))) cal113 h118 rfl (nat_Bits h118 q122 (show nw x ≤ 1000000 from by omega)) fun v123 w124 q125 s126 h127 => ?_
  have q125 := Is.out q125; subst q125
  refine sv (Does.sub rfl rfl (by omega)) ?_
  refine sv (Does.assign rfl) ?_
  refine Seq.next ?_
  refine Run.block ?_
  have o128 := o116.up s126
  have c129 := c120.trans s126
  have c130 := c108.trans c129
  have c131 := c57.trans c130
  have q132 := up c131 q40
  refine Run.loop (fun m' l' w' => ∃ (k : Nat) (lab' : Lab) (ub9 : Value), m' = k ∧ l' = [(9, i64 (((k : Nat) : Int) - 1)), (0, .pointer (some ⟨b1, 0, none⟩)), (4, .pointer (some ⟨b10, 0, none⟩)), (5, .pointer (some ⟨b16, 0, none⟩)), (6, .pointer (some ⟨b22, 0, none⟩)), (7, .pointer (some ⟨b48, 0, none⟩)), (8, .pointer (some ⟨b111, 0, none⟩))] ∧ Valid lab' w' ∧ Stp [9] L109 w124 lab' w' ∧ Own lab' w' 9 b111 60 #[ub9] ∧ NatV ((a % r) ^ (x / 2 ^ k) % r) lab' w' (.agg #[ub9]) ∧ (k ≤ blen x)) ((blen x)) (l0 := [(9, i64 ((((blen x) : Nat) : Int) - 1)), (0, .pointer (some ⟨b1, 0, none⟩)), (4, .pointer (some ⟨b10, 0, none⟩)), (5, .pointer (some ⟨b16, 0, none⟩)), (6, .pointer (some ⟨b22, 0, none⟩)), (7, .pointer (some ⟨b48, 0, none⟩)), (8, .pointer (some ⟨b111, 0, none⟩))]) ⟨(congrArg (fun z => some (i64 z)) (show (((blen x : Nat) : Int) - 1 : Int) = (((blen x) : Nat) : Int) - 1 from by rfl)), rfl, rfl, rfl, rfl, rfl, rfl, trivial⟩ ⟨blen x, L109, (.slice A43 (nw (1 % r)) c44), rfl, rfl, h127, ((Stp.refl _ _).more (by simp)), o128, (NatV.cast (show (1 % r) = ((a % r) ^ (x / 2 ^ (blen x)) % r) from by exact exp_start _ _) q132), (by omega)⟩ ?_
  intro m133 l134 w135 H136
  obtain ⟨k, lab137, u140, hzm, rfl, hv138, s139, o141, q142, hk⟩ := H136
  replace hzm := hzm.symm; subst hzm
  obtain ⟨A143, c144, hz⟩ := NatV.shape q142; cases hz
  refine Run.seq ?_
  refine rsr ?_
  refine sv (Does.move rfl) ?_
  refine sv (Does.geq rfl rfl) ?_
  refine Seq.next ?_
  rcases Decidable.em ((0 : Int) ≤ (((k : Nat) : Int) - 1 : Int)) with hp3 | hp3
  rotate_left
  ·refine Run.cond_b rfl (decide_eq_false hp3) ?_
   refine Run.exit_go (fun _ _ h => h) ?_
   refine rsr ?_
   refine sv (Does.load_ownN [.slice A143 (nw ((a % r) ^ (x / 2 ^ k) % r)) c144] o141 ty60 rfl rfl) ?_
   have c207 := s126.trans s139
   have c208 := c121.trans c207
   have c209 := c99.trans c208
   have c210 := c80.trans c209
   have c211 := s29.trans c210
   have o206 := o23.up c211
   refine sstore [.slice A143 (nw ((a % r) ^ (x / 2 ^ k) % r)) c144] hv138 o206 ty60 rfl rfl rfl (Nat.le_of_ble_eq_true rfl) rfl rfl fun w212 o213 s214 h215 => ?_
   refine Seq.next ?_
   have c216 := c209.trans s214
   have c217 := c83.trans c216
   obtain ⟨⟨zU, zo⟩, zb⟩ := hX c217 (by decide)
   have q218 := up s214 q142
   refine Run.ret (ret_then ?_)
   exact post_one Try.results108 ⟨_, rfl, Own.loadN [.slice A143 (nw ((a % r) ^ (x / 2 ^ k) % r)) c144] o213 ty60 rfl⟩ ⟨_, rfl, (NatV.cast (by exact exp_end (by omega)) (up zo q218)), zb⟩
  refine Run.cond_b rfl (decide_eq_true hp3) ?_
  refine Run.skip_go (fun _ _ h => h) ?_
  refine Run.seq ?_
  refine Run.block ?_
  refine rsr ?_
  refine sv (Does.move rfl) ?_
  refine sv (Does.load_ownN [.slice A143 (nw ((a % r) ^ (x / 2 ^ k) % r)) c144] o141 ty60 rfl rfl) ?_
  refine sv (Does.load_ownN [.slice A143 (nw ((a % r) ^ (x / 2 ^ k) % r)) c144] o141 ty60 rfl rfl) ?_
  have c145 := s126.trans s139
  have c146 := c121.trans c145
  have c147 := c99.trans c146
  have q148 := up c147 q82
  refine scall (V := NatV (((a % r) ^ (x / 2 ^ k) % r) * ((a % r) ^ (x / 2 ^ k) % r) % r)) cal69 hv138 rfl (ring_Mul hv138 q148 q142 q142 (show 1 < r from by omega) (show nw ((a % r) ^ (x / 2 ^ k) % r) ≤ 1000 from by exact Nat.le_trans (nw_mono (Nat.le_of_lt (Nat.mod_lt _ (by omega)))) hn) (show nw ((a % r) ^ (x / 2 ^ k) % r) ≤ 1000 from by exact Nat.le_trans (nw_mono (Nat.le_of_lt (Nat.mod_lt _ (by omega)))) hn) (show nw r ≤ 1000 from by omega)) fun v149 w150 q151 s152 h153 => ?_
  obtain ⟨A154, c155, rfl⟩ := NatV.shape q151
  have z156 := NatV.cap q151
  have o157 := o141.up s152
  refine sstore [.slice A154 (nw (((a % r) ^ (x / 2 ^ k) % r) * ((a % r) ^ (x / 2 ^ k) % r) % r)) c155] h153 o157 ty60 rfl rfl rfl (Nat.le_of_ble_eq_true rfl) rfl rfl fun w158 o159 s160 h161 => ?_
  refine nsr ?_
  have c163 := s152.trans s160
  have c164 := c145.trans c163
  have o162 := o119.up c164
  refine sv (Does.load_ownN [.slice A5 (nw x) c6] o162 ty60 rfl rfl) ?_
  refine sv (Does.move rfl) ?_
  have q165 := up c164 q122
  refine scall (V := Is (i64 (if 0 ≤ (((k : Nat) : Int) - 1) then ((x / 2 ^ (((k : Nat) : Int) - 1).toNat % 2 : Nat) : Int) else 0))) cal126 h161 rfl (nat_Bit h161 (i := ((k : Nat) : Int) - 1) q165 (show (((k : Nat) : Int) - 1) < 9223372036854775808 from by omega)) fun v166 w167 q168 s169 h170 => ?_
  have q168 := Is.out q168; subst q168
  refine sv (Does.eql rfl rfl) ?_
  refine Seq.next ?_
  rcases Decidable.em ((if 0 ≤ (((k : Nat) : Int) - 1) then ((x / 2 ^ (((k : Nat) : Int) - 1).toNat % 2 : Nat) : Int) else 0 : Int) = (1 : Int)) with hp4 | hp4
  rotate_left
  ·refine Run.cond_b rfl (decide_eq_false hp4) ?_
   refine Run.skip_go (fun _ _ h => h) ?_
   refine Run.region ?_
   refine sv (Does.move rfl) ?_
   refine sv (Does.sub rfl rfl (by omega)) ?_
   refine sv (Does.assign rfl) ?_
   have o199 := o159.up s169
   have c200 := s160.trans s169
   have q201 := up c200 q151
   have c202 := c163.trans s169
   have c203 := s139.trans c202
   exact Seq.nil (fun a204 h205 => ⟨_, by omega, _, h205.weaken (subs_lk (l' := [(9, i64 ((((k - 1) : Nat) : Int) - 1)), (0, .pointer (some ⟨b1, 0, none⟩)), (4, .pointer (some ⟨b10, 0, none⟩)), (5, .pointer (some ⟨b16, 0, none⟩)), (6, .pointer (some ⟨b22, 0, none⟩)), (7, .pointer (some ⟨b48, 0, none⟩)), (8, .pointer (some ⟨b111, 0, none⟩))]) ⟨(congrArg (fun z => some (i64 z)) (show ((((k : Nat) : Int) - 1) - 1 : Int) = (((k - 1) : Nat) : Int) - 1 from by omega)), rfl, rfl, rfl, rfl, rfl, rfl, trivial⟩), ⟨k - 1, lab137, (.slice A154 (nw (((a % r) ^ (x / 2 ^ k) % r) * ((a % r) ^ (x / 2 ^ k) % r) % r)) c155), rfl, rfl, h170, (c203.more (by decide)), o199, (NatV.cast (show (((a % r) ^ (x / 2 ^ k) % r) * ((a % r) ^ (x / 2 ^ k) % r) % r) = ((a % r) ^ (x / 2 ^ (k - 1)) % r) from by exact exp_bit0 (by omega) (by assumption)) q201), (by omega)⟩⟩)
  refine Run.cond_b rfl (decide_eq_true hp4) ?_
  refine Run.region ?_
  refine sv (Does.move rfl) ?_
  have o171 := o159.up s169
  refine sv (Does.load_ownN [.slice A154 (nw (((a % r) ^ (x / 2 ^ k) % r) * ((a % r) ^ (x / 2 ^ k) % r) % r)) c155] o171 ty60 rfl rfl) ?_
  have c173 := c163.trans s169
  have c174 := c146.trans c173
  have o172 := o95.up c174
  refine sv (Does.load_ownN [.slice A90 (nw (a % r)) c91] o172 ty60 rfl rfl) ?_
  have q175 := up c173 q148
  have c176 := s160.trans s169
  have q177 := up c176 q151
  have c178 := s96.trans c174
  have q179 := up c178 q87
  refine scall (V := NatV ((((a % r) ^ (x / 2 ^ k) % r) * ((a % r) ^ (x / 2 ^ k) % r) % r) * (a % r) % r)) cal69 h170 rfl (ring_Mul h170 q175 q177 q179 (show 1 < r from by omega) (show nw (((a % r) ^ (x / 2 ^ k) % r) * ((a % r) ^ (x / 2 ^ k) % r) % r) ≤ 1000 from by exact Nat.le_trans (nw_mono (Nat.le_of_lt (Nat.mod_lt _ (by omega)))) hn) (show nw (a % r) ≤ 1000 from by exact Nat.le_trans (nw_mono (Nat.le_of_lt (Nat.mod_lt _ (by omega)))) hn) (show nw r ≤ 1000 from by omega)) fun v180 w181 q182 s183 h184 => ?_
  obtain ⟨A185, c186, rfl⟩ := NatV.shape q182
  have z187 := NatV.cap q182
  have o188 := o171.up s183
  refine sstore [.slice A185 (nw ((((a % r) ^ (x / 2 ^ k) % r) * ((a % r) ^ (x / 2 ^ k) % r) % r) * (a % r) % r)) c186] h184 o188 ty60 rfl rfl rfl (Nat.le_of_ble_eq_true rfl) rfl rfl fun w189 o190 s191 h192 => ?_
  refine Seq.go (fun _ _ h => h) ?_
  refine Run.region ?_
  refine sv (Does.move rfl) ?_
  refine sv (Does.sub rfl rfl (by omega)) ?_
  refine sv (Does.assign rfl) ?_
  have q193 := up s191 q182
  have c194 := s183.trans s191
  have c195 := c173.trans c194
  have c196 := s139.trans c195
  exact Seq.nil (fun a197 h198 => ⟨_, by omega, _, h198.weaken (subs_lk (l' := [(9, i64 ((((k - 1) : Nat) : Int) - 1)), (0, .pointer (some ⟨b1, 0, none⟩)), (4, .pointer (some ⟨b10, 0, none⟩)), (5, .pointer (some ⟨b16, 0, none⟩)), (6, .pointer (some ⟨b22, 0, none⟩)), (7, .pointer (some ⟨b48, 0, none⟩)), (8, .pointer (some ⟨b111, 0, none⟩))]) ⟨(congrArg (fun z => some (i64 z)) (show ((((k : Nat) : Int) - 1) - 1 : Int) = (((k - 1) : Nat) : Int) - 1 from by omega)), rfl, rfl, rfl, rfl, rfl, rfl, trivial⟩), ⟨k - 1, lab137, (.slice A185 (nw ((((a % r) ^ (x / 2 ^ k) % r) * ((a % r) ^ (x / 2 ^ k) % r) % r) * (a % r) % r)) c186), rfl, rfl, h192, (c196.more (by decide)), o190, (NatV.cast (show ((((a % r) ^ (x / 2 ^ k) % r) * ((a % r) ^ (x / 2 ^ k) % r) % r) * (a % r) % r) = ((a % r) ^ (x / 2 ^ (k - 1)) % r) from by exact exp_bit1 (by omega) (by assumption)) q193), (by omega)⟩⟩)
 refine Run.cond_b rfl (decide_eq_false hp2) ?_
 refine Run.skip_go (fun _ _ h => h) ?_
 refine rsr ?_
 refine salloc 11 [.slice none 0 0, .slice none 0 0, .slice none 0 0, .slice none 0 0, .slice none 0 0, .slice none 0 0, .slice none 0 0, .slice none 0 0, .slice none 0 0, .slice none 0 0, .slice none 0 0, .slice none 0 0, .slice none 0 0, .slice none 0 0, .slice none 0 0, .slice none 0 0] h106 ty211 rfl fun b221 L219 w220 o222 s223 h224 => ?_
 have n225 := ArrN.zeros 16 o222 rfl
 refine nsr ?_
 have c227 := s105.trans s223
 have c228 := c100.trans c227
 have o226 := o53.up c228
 refine sv (Does.load_ownN [.slice A43 (nw (1 % r)) c44] o226 ty60 rfl rfl) ?_
 refine sv (Does.indexAt_arr 0 (n := 16) (e := 60) (by kernel_rfl) ty60 rfl rfl (by omega) (by omega)) ?_
 have c233 := c57.trans c228
 have q234 := up c233 q40
 refine sstoreN (j := 0) (x := (1 % r)) h224 n225 ty60 rfl rfl q234 (by simp) rfl fun w229 o230 s231 h232 => ?_
 refine Seq.next ?_
 refine Run.seq ?_
 refine rsr ?_
 refine sv (Does.assign rfl) ?_
 refine Seq.next ?_
 refine Run.block ?_
 refine Run.loop (fun m' l' w' => ∃ (i : Nat) (lab' : Lab), m' = 16 - i ∧ l' = [(11, i64 ((i : Nat) : Int)), (0, .pointer (some ⟨b1, 0, none⟩)), (4, .pointer (some ⟨b10, 0, none⟩)), (5, .pointer (some ⟨b16, 0, none⟩)), (6, .pointer (some ⟨b22, 0, none⟩)), (7, .pointer (some ⟨b48, 0, none⟩)), (10, .pointer (some ⟨b221, 0, none⟩))] ∧ Valid lab' w' ∧ Stp [11] L219 w229 lab' w' ∧ ArrN lab' w' 11 b221 211 (tab (a % r) r i) ∧ (1 ≤ i ∧ i ≤ 16)) (16 - 1) (l0 := [(11, i64 ((1 : Nat) : Int)), (0, .pointer (some ⟨b1, 0, none⟩)), (4, .pointer (some ⟨b10, 0, none⟩)), (5, .pointer (some ⟨b16, 0, none⟩)), (6, .pointer (some ⟨b22, 0, none⟩)), (7, .pointer (some ⟨b48, 0, none⟩)), (10, .pointer (some ⟨b221, 0, none⟩))]) ⟨(congrArg (fun z => some (i64 z)) (show (1 : Int) = ((1 : Nat) : Int) from by rfl)), rfl, rfl, rfl, rfl, rfl, rfl, trivial⟩ ⟨1, L219, rfl, rfl, h232, ((Stp.refl _ _).more (by simp)), ((show List.set (List.replicate 16 0) 0 (1 % r) = tab (a % r) r 1 from by exact tab_one _ _) ▸ o230), (by omega)⟩ ?_
 intro m235 l236 w237 H238
 obtain ⟨i, lab239, hzm, rfl, hv240, s241, o242, hi⟩ := H238
 replace hzm := hzm.symm; subst hzm
 refine Run.seq ?_
 refine rsr ?_
 refine sv (Does.move rfl) ?_
 refine sv (Does.lss rfl rfl) ?_
 refine Seq.next ?_
 rcases Decidable.em ((((i : Nat) : Int) : Int) < (16 : Int)) with hp3 | hp3
 ·refine Run.cond_b rfl (decide_eq_true hp3) ?_
  refine Run.skip_go (fun _ _ h => h) ?_
  refine Run.seq ?_
  refine Run.block ?_
  refine Run.open 9 (Φ := [.ex (i64 ((i : Nat) : Int)), .ex (.pointer (some ⟨b1, 0, none⟩)), .ex (i64 ((i : Nat) : Int)), .ex (i64 (((i : Nat) : Int) - 1)), .ex (.pointer (some ⟨b221, 0 + (i - 1) * 1, none⟩)), .v (NatV (List.getD (tab (a % r) r i) (i - 1) 0)), .ex (.agg #[.slice A90 (nw (a % r)) c91]), .v (NatV ((List.getD (tab (a % r) r i) (i - 1) 0) * (a % r) % r)), .ex (.pointer (some ⟨b221, 0 + i * 1, none⟩))]) [(7, 61), (8, 62)] mixed (by kernel_rfl) rfl hv240 ⟨(oX [] rfl rfl rfl fun _ _ => Does.move rfl), (oX [] rfl rfl rfl fun _ _ => Does.move rfl), (oX [] rfl rfl rfl fun _ _ => Does.move rfl), (oX [(2, 56)] rfl rfl rfl fun _ _ => Does.sub rfl rfl (by omega)), (oX [(3, 57)] rfl rfl rfl fun _ _ => Does.indexAt_arr (i - 1) (n := 16) (e := 60) (by kernel_rfl) ty60 rfl rfl (by omega) (by omega)), ?_, ?_, ?_, (oX [(0, 54)] rfl rfl rfl fun _ _ => Does.indexAt_arr i (n := 16) (e := 60) (by kernel_rfl) ty60 rfl rfl (by omega) (by omega)), trivial⟩ (fun L304 w305 h306 s307 v308 q309 => ?_)
  ·refine oP [(4, 58)] rfl rfl fun L263 w264 h265 s266 => ?_
   have o267 := o242.up s266
   obtain ⟨cs268, o269, e270⟩ := o267
   obtain ⟨u271, q272, q273⟩ := EachN.get e270 (i - 1) _ (getD_some (by (rw [tab_length]; omega)))
   obtain ⟨A274, c275, hz⟩ := NatV.shape q273; cases hz
   exact ⟨_, Does.load_cell o269 ty60 rfl q272, q273⟩
  ·refine oP [] rfl rfl fun L276 w277 h278 s279 => ?_
   have c281 := s241.trans s279
   have c282 := s231.trans c281
   have c283 := c227.trans c282
   have o280 := o95.up c283
   exact ⟨_, Does.load_ownN [.slice A90 (nw (a % r)) c91] o280 ty60 rfl rfl, rfl⟩
  ·refine oC [(1, 55), (5, 59), (6, 60)] rfl rfl cal69 fun L284 w285 h286 s287 v288 q289 => ?_
   obtain ⟨A290, c291, rfl⟩ := NatV.shape q289
   have z292 := NatV.cap q289
   have c293 := s241.trans s287
   have c294 := s231.trans c293
   have c295 := c227.trans c294
   have c296 := c99.trans c295
   have q297 := up c296 q82
   have c298 := s96.trans c295
   have q299 := up c298 q87
   exact ⟨_, rfl, (ring_Mul h286 q297 q289 q299 (show 1 < r from by omega) (show nw (List.getD (tab (a % r) r i) (i - 1) 0) ≤ 1000 from by (rw [tab_get (by omega) (by omega)]; exact Nat.le_trans (nw_mono (Nat.le_of_lt (Nat.mod_lt _ (by omega)))) hn)) (show nw (a % r) ≤ 1000 from by exact Nat.le_trans (nw_mono (Nat.le_of_lt (Nat.mod_lt _ (by omega)))) hn) (show nw r ≤ 1000 from by omega))⟩
  obtain ⟨A310, c311, rfl⟩ := NatV.shape q309
  have z312 := NatV.cap q309
  have o313 := o242.up s307
  refine sstoreN (j := i) (x := ((List.getD (tab (a % r) r i) (i - 1) 0) * (a % r) % r)) h306 o313 ty60 rfl rfl q309 (by (rw [tab_length]; omega)) rfl fun w314 o315 s316 h317 => ?_
  refine Seq.go (fun _ _ h => h) ?_
  refine Run.region ?_
  refine sv (Does.move rfl) ?_
  refine sv (Does.add rfl rfl (by omega)) ?_
  refine sv (Does.assign rfl) ?_
  have c318 := s307.trans s316
  have c319 := s241.trans c318
  exact Seq.nil (fun a320 h321 => ⟨_, by omega, _, h321.weaken (subs_lk (l' := [(11, i64 (((i + 1) : Nat) : Int)), (0, .pointer (some ⟨b1, 0, none⟩)), (4, .pointer (some ⟨b10, 0, none⟩)), (5, .pointer (some ⟨b16, 0, none⟩)), (6, .pointer (some ⟨b22, 0, none⟩)), (7, .pointer (some ⟨b48, 0, none⟩)), (10, .pointer (some ⟨b221, 0, none⟩))]) ⟨(congrArg (fun z => some (i64 z)) (show (((i : Nat) : Int) + 1 : Int) = (((i + 1) : Nat) : Int) from by rfl)), rfl, rfl, rfl, rfl, rfl, rfl, trivial⟩), ⟨i + 1, L304, rfl, rfl, h317, (c319.more (by decide)), ((show List.set (tab (a % r) r i) i ((List.getD (tab (a % r) r i) (i - 1) 0) * (a % r) % r) = tab (a % r) r (i + 1) from by exact tab_step (by omega) (by omega)) ▸ o315), (by omega)⟩⟩)
 refine Run.cond_b rfl (decide_eq_false hp3) ?_
 refine Run.exit_go (fun _ _ h => h) ?_
 refine rsr ?_
 have c323 := s231.trans s241
 have o322 := o226.up c323
 refine sv (Does.load_ownN [.slice A43 (nw (1 % r)) c44] o322 ty60 rfl rfl) ?_
 refine salloc 13 [.slice none 0 0] hv240 ty60 rfl fun b326 L324 w325 o327 s328 h329 => ?_
 refine sstore [.slice A43 (nw (1 % r)) c44] h329 o327 ty60 rfl rfl rfl (Nat.le_of_ble_eq_true rfl) rfl rfl fun w330 o331 s332 h333 => ?_
 refine Seq.next ?_
 refine Run.seq ?_
 refine rsr ?_
 have c335 := s328.trans s332
 have c336 := c323.trans c335
 have c337 := c227.trans c336
 have o334 := o98.up c337
 refine sv (Does.load_ownN [.slice A5 (nw x) c6] o334 ty60 rfl rfl) ?_
 have q338 := up c337 q101
 refine scall (V := Is (i64 ((blen x : Nat) : Int))) cal113 h333 rfl (nat_Bits h333 q338 (show nw x ≤ 1000000 from by omega)) fun v339 w340 q341 s342 h343 => ?_
 have q341 := Is.out q341; subst q341
 refine sv (Does.sub rfl rfl (by omega)) ?_
 refine sv (Does.quo rfl rfl (by omega) (by omega) (by omega)) ?_
 refine sv (Does.assign rfl) ?_
 refine Seq.next ?_
 refine Run.block ?_
 have o344 := o331.up s342
 have c345 := c336.trans s342
 have q346 := up c345 q234
 refine Run.loop (fun m' l' w' => ∃ (c : Nat) (lab' : Lab) (ub13 : Value), m' = c ∧ l' = [(13, i64 (((c : Nat) : Int) - 1)), (0, .pointer (some ⟨b1, 0, none⟩)), (5, .pointer (some ⟨b16, 0, none⟩)), (6, .pointer (some ⟨b22, 0, none⟩)), (10, .pointer (some ⟨b221, 0, none⟩)), (12, .pointer (some ⟨b326, 0, none⟩))] ∧ Valid lab' w' ∧ Stp [13] L324 w340 lab' w' ∧ Own lab' w' 13 b326 60 #[ub13] ∧ NatV ((a % r) ^ (x / 16 ^ c) % r) lab' w' (.agg #[ub13]) ∧ (c ≤ blen x + 1)) (((blen x - 1) / 4 + 1)) (l0 := [(13, i64 (((((blen x - 1) / 4 + 1) : Nat) : Int) - 1)), (0, .pointer (some ⟨b1, 0, none⟩)), (5, .pointer (some ⟨b16, 0, none⟩)), (6, .pointer (some ⟨b22, 0, none⟩)), (10, .pointer (some ⟨b221, 0, none⟩)), (12, .pointer (some ⟨b326, 0, none⟩))]) ⟨(congrArg (fun z => some (i64 z)) (show ((((blen x : Nat) : Int) - 1) / 4 : Int) = ((((blen x - 1) / 4 + 1) : Nat) : Int) - 1 from by omega)), rfl, rfl, rfl, rfl, rfl, trivial⟩ ⟨(blen x - 1) / 4 + 1, L324, (.slice A43 (nw (1 % r)) c44), rfl, rfl, h343, ((Stp.refl _ _).more (by simp)), o344, (NatV.cast (show (1 % r) = ((a % r) ^ (x / 16 ^ ((blen x - 1) / 4 + 1)) % r) from by exact exp_start4 _ _ rfl) q346), (by omega)⟩ ?_
 intro m347 l348 w349 H350
 obtain ⟨c, lab351, u354, hzm, rfl, hv352, s353, o355, q356, hk⟩ := H350
 replace hzm := hzm.symm; subst hzm
 obtain ⟨A357, c358, hz⟩ := NatV.shape q356; cases hz
 refine Run.seq ?_
 refine rsr ?_
 refine sv (Does.move rfl) ?_
 refine sv (Does.geq rfl rfl) ?_
 refine Seq.next ?_
 rcases Decidable.em ((0 : Int) ≤ (((c : Nat) : Int) - 1 : Int)) with hp4 | hp4
 rotate_left
 ·refine Run.cond_b rfl (decide_eq_false hp4) ?_
  refine Run.exit_go (fun _ _ h => h) ?_
  refine rsr ?_
  refine sv (Does.load_ownN [.slice A357 (nw ((a % r) ^ (x / 16 ^ c) % r)) c358] o355 ty60 rfl rfl) ?_
  have c623 := s342.trans s353
  have c624 := c337.trans c623
  have c625 := c99.trans c624
  have c626 := c80.trans c625
  have c627 := s29.trans c626
  have o622 := o23.up c627
  refine sstore [.slice A357 (nw ((a % r) ^ (x / 16 ^ c) % r)) c358] hv352 o622 ty60 rfl rfl rfl (Nat.le_of_ble_eq_true rfl) rfl rfl fun w628 o629 s630 h631 => ?_
  refine Seq.next ?_
  have c632 := c625.trans s630
  have c633 := c83.trans c632
  obtain ⟨⟨zU, zo⟩, zb⟩ := hX c633 (by decide)
  have q634 := up s630 q356
  refine Run.ret ?_
  exact post_one Try.results108 ⟨_, rfl, Own.loadN [.slice A357 (nw ((a % r) ^ (x / 16 ^ c) % r)) c358] o629 ty60 rfl⟩ ⟨_, rfl, (NatV.cast (by exact exp_end4 (by omega)) (up zo q634)), zb⟩
 refine Run.cond_b rfl (decide_eq_true hp4) ?_
 refine Run.skip_go (fun _ _ h => h) ?_
 refine Run.seq ?_
 refine Run.block ?_
 refine Run.seq ?_
 refine rsr ?_
 refine sv (Does.move rfl) ?_
 refine Seq.next ?_
 refine Run.block ?_
 refine Run.loop (fun m' l' w' => ∃ (j : Nat) (lab' : Lab) (ub13 : Value), m' = 4 - j ∧ l' = [(72, i64 ((j : Nat) : Int)), (0, .pointer (some ⟨b1, 0, none⟩)), (5, .pointer (some ⟨b16, 0, none⟩)), (6, .pointer (some ⟨b22, 0, none⟩)), (10, .pointer (some ⟨b221, 0, none⟩)), (12, .pointer (some ⟨b326, 0, none⟩)), (13, i64 (((c : Nat) : Int) - 1))] ∧ Valid lab' w' ∧ Stp [13] lab351 w349 lab' w' ∧ Own lab' w' 13 b326 60 #[ub13] ∧ NatV ((a % r) ^ (2 ^ j * (x / 16 ^ c)) % r) lab' w' (.agg #[ub13]) ∧ (j ≤ 4)) (4 - 0) (l0 := [(72, i64 ((0 : Nat) : Int)), (0, .pointer (some ⟨b1, 0, none⟩)), (5, .pointer (some ⟨b16, 0, none⟩)), (6, .pointer (some ⟨b22, 0, none⟩)), (10, .pointer (some ⟨b221, 0, none⟩)), (12, .pointer (some ⟨b326, 0, none⟩)), (13, i64 (((c : Nat) : Int) - 1))]) ⟨(congrArg (fun z => some (i64 z)) (show (0 : Int) = ((0 : Nat) : Int) from by rfl)), rfl, rfl, rfl, rfl, rfl, rfl, trivial⟩ ⟨0, lab351, (.slice A357 (nw ((a % r) ^ (x / 16 ^ c) % r)) c358), rfl, rfl, hv352, ((Stp.refl _ _).more (by simp)), o355, (NatV.cast (show ((a % r) ^ (x / 16 ^ c) % r) = ((a % r) ^ (2 ^ 0 * (x / 16 ^ c)) % r) from by (rw [Nat.pow_zero, Nat.one_mul])) q356), (by omega)⟩ ?_
 intro m359 l360 w361 H362
 obtain ⟨j, lab363, u366, hzm, rfl, hv364, s365, o367, q368, hj⟩ := H362
 replace hzm := hzm.symm; subst hzm
 obtain ⟨A369, c370, hz⟩ := NatV.shape q368; cases hz
 refine rsr ?_
 refine sv (Does.lss rfl rfl) ?_
 refine Seq.next ?_
 refine Run.seq ?_
 rcases Decidable.em ((((j : Nat) : Int) : Int) < (4 : Int)) with hp5 | hp5
 ·refine Run.cond_b rfl (decide_eq_true hp5) ?_
  refine Run.skip_go (fun _ _ h => h) ?_
  refine Run.seq ?_
  refine Run.block ?_
  refine Run.region ?_
  refine sv (Does.move rfl) ?_
  refine sv (Does.load_ownN [.slice A369 (nw ((a % r) ^ (2 ^ j * (x / 16 ^ c)) % r)) c370] o367 ty60 rfl rfl) ?_
  refine sv (Does.load_ownN [.slice A369 (nw ((a % r) ^ (2 ^ j * (x / 16 ^ c)) % r)) c370] o367 ty60 rfl rfl) ?_
  have c371 := s353.trans s365
  have c372 := s342.trans c371
  have c373 := c337.trans c372
  have c374 := c99.trans c373
  have q375 := up c374 q82
  refine scall (V := NatV (((a % r) ^ (2 ^ j * (x / 16 ^ c)) % r) * ((a % r) ^ (2 ^ j * (x / 16 ^ c)) % r) % r)) cal69 hv364 rfl (ring_Mul hv364 q375 q368 q368 (show 1 < r from by omega) (show nw ((a % r) ^ (2 ^ j * (x / 16 ^ c)) % r) ≤ 1000 from by exact Nat.le_trans (nw_mono (Nat.le_of_lt (Nat.mod_lt _ (by omega)))) hn) (show nw ((a % r) ^ (2 ^ j * (x / 16 ^ c)) % r) ≤ 1000 from by exact Nat.le_trans (nw_mono (Nat.le_of_lt (Nat.mod_lt _ (by omega)))) hn) (show nw r ≤ 1000 from by omega)) fun v376 w377 q378 s379 h380 => ?_
  obtain ⟨A381, c382, rfl⟩ := NatV.shape q378
  have z383 := NatV.cap q378
  have o384 := o367.up s379
  refine sstore [.slice A381 (nw (((a % r) ^ (2 ^ j * (x / 16 ^ c)) % r) * ((a % r) ^ (2 ^ j * (x / 16 ^ c)) % r) % r)) c382] h380 o384 ty60 rfl rfl rfl (Nat.le_of_ble_eq_true rfl) rfl rfl fun w385 o386 s387 h388 => ?_
  refine Seq.go (fun _ _ h => h) ?_
  refine Run.region ?_
  refine sv (Does.add rfl rfl (by omega)) ?_
  refine sv (Does.move rfl) ?_
  have q389 := up s387 q378
  have c390 := s379.trans s387
  have c391 := s365.trans c390
  exact Seq.nil (fun a392 h393 => ⟨_, by omega, _, h393.weaken (subs_lk (l' := [(72, i64 (((j + 1) : Nat) : Int)), (0, .pointer (some ⟨b1, 0, none⟩)), (5, .pointer (some ⟨b16, 0, none⟩)), (6, .pointer (some ⟨b22, 0, none⟩)), (10, .pointer (some ⟨b221, 0, none⟩)), (12, .pointer (some ⟨b326, 0, none⟩)), (13, i64 (((c : Nat) : Int) - 1))]) ⟨(congrArg (fun z => some (i64 z)) (show (((j : Nat) : Int) + 1 : Int) = (((j + 1) : Nat) : Int) from by rfl)), rfl, rfl, rfl, rfl, rfl, rfl, trivial⟩), ⟨j + 1, lab363, (.slice A381 (nw (((a % r) ^ (2 ^ j * (x / 16 ^ c)) % r) * ((a % r) ^ (2 ^ j * (x / 16 ^ c)) % r) % r)) c382), rfl, rfl, h388, (c391.more (by decide)), o386, (NatV.cast (show (((a % r) ^ (2 ^ j * (x / 16 ^ c)) % r) * ((a % r) ^ (2 ^ j * (x / 16 ^ c)) % r) % r) = ((a % r) ^ (2 ^ (j + 1) * (x / 16 ^ c)) % r) from by exact exp_sqi _ _ _ _) q389), (by omega)⟩⟩)
 refine Run.cond_b rfl (decide_eq_false hp5) ?_
 refine Run.exit_go (fun _ _ h => h) ?_
 refine Run.seq ?_
 refine Run.open 26 (Φ := [.ex (.agg #[.slice A5 (nw x) c6]), .ex (i64 (((c : Nat) : Int) - 1)), .ex (i64 (4 * (((c : Nat) : Int) - 1))), .v (Is (i64 (if 0 ≤ (4 * (((c : Nat) : Int) - 1)) then ((x / 2 ^ (4 * (((c : Nat) : Int) - 1)).toNat % 2 : Nat) : Int) else 0))), .ex (.agg #[.slice A5 (nw x) c6]), .ex (i64 (((c : Nat) : Int) - 1)), .ex (i64 (4 * (((c : Nat) : Int) - 1))), .ex (i64 ((4 * (((c : Nat) : Int) - 1)) + 1)), .v (Is (i64 (if 0 ≤ ((4 * (((c : Nat) : Int) - 1)) + 1) then ((x / 2 ^ ((4 * (((c : Nat) : Int) - 1)) + 1).toNat % 2 : Nat) : Int) else 0))), .ex (i64 (2 * (if 0 ≤ ((4 * (((c : Nat) : Int) - 1)) + 1) then ((x / 2 ^ ((4 * (((c : Nat) : Int) - 1)) + 1).toNat % 2 : Nat) : Int) else 0))), .ex (i64 ((if 0 ≤ (4 * (((c : Nat) : Int) - 1)) then ((x / 2 ^ (4 * (((c : Nat) : Int) - 1)).toNat % 2 : Nat) : Int) else 0) + (2 * (if 0 ≤ ((4 * (((c : Nat) : Int) - 1)) + 1) then ((x / 2 ^ ((4 * (((c : Nat) : Int) - 1)) + 1).toNat % 2 : Nat) : Int) else 0)))), .ex (.agg #[.slice A5 (nw x) c6]), .ex (i64 (((c : Nat) : Int) - 1)), .ex (i64 (4 * (((c : Nat) : Int) - 1))), .ex (i64 ((4 * (((c : Nat) : Int) - 1)) + 2)), .v (Is (i64 (if 0 ≤ ((4 * (((c : Nat) : Int) - 1)) + 2) then ((x / 2 ^ ((4 * (((c : Nat) : Int) - 1)) + 2).toNat % 2 : Nat) : Int) else 0))), .ex (i64 (4 * (if 0 ≤ ((4 * (((c : Nat) : Int) - 1)) + 2) then ((x / 2 ^ ((4 * (((c : Nat) : Int) - 1)) + 2).toNat % 2 : Nat) : Int) else 0))), .ex (i64 (((if 0 ≤ (4 * (((c : Nat) : Int) - 1)) then ((x / 2 ^ (4 * (((c : Nat) : Int) - 1)).toNat % 2 : Nat) : Int) else 0) + (2 * (if 0 ≤ ((4 * (((c : Nat) : Int) - 1)) + 1) then ((x / 2 ^ ((4 * (((c : Nat) : Int) - 1)) + 1).toNat % 2 : Nat) : Int) else 0))) + (4 * (if 0 ≤ ((4 * (((c : Nat) : Int) - 1)) + 2) then ((x / 2 ^ ((4 * (((c : Nat) : Int) - 1)) + 2).toNat % 2 : Nat) : Int) else 0)))), .ex (.agg #[.slice A5 (nw x) c6]), .ex (i64 (((c : Nat) : Int) - 1)), .ex (i64 (4 * (((c : Nat) : Int) - 1))), .ex (i64 ((4 * (((c : Nat) : Int) - 1)) + 3)), .v (Is (i64 (if 0 ≤ ((4 * (((c : Nat) : Int) - 1)) + 3) then ((x / 2 ^ ((4 * (((c : Nat) : Int) - 1)) + 3).toNat % 2 : Nat) : Int) else 0))), .ex (i64 (8 * (if 0 ≤ ((4 * (((c : Nat) : Int) - 1)) + 3) then ((x / 2 ^ ((4 * (((c : Nat) : Int) - 1)) + 3).toNat % 2 : Nat) : Int) else 0))), .ex (i64 ((((if 0 ≤ (4 * (((c : Nat) : Int) - 1)) then ((x / 2 ^ (4 * (((c : Nat) : Int) - 1)).toNat % 2 : Nat) : Int) else 0) + (2 * (if 0 ≤ ((4 * (((c : Nat) : Int) - 1)) + 1) then ((x / 2 ^ ((4 * (((c : Nat) : Int) - 1)) + 1).toNat % 2 : Nat) : Int) else 0))) + (4 * (if 0 ≤ ((4 * (((c : Nat) : Int) - 1)) + 2) then ((x / 2 ^ ((4 * (((c : Nat) : Int) - 1)) + 2).toNat % 2 : Nat) : Int) else 0))) + (8 * (if 0 ≤ ((4 * (((c : Nat) : Int) - 1)) + 3) then ((x / 2 ^ ((4 * (((c : Nat) : Int) - 1)) + 3).toNat % 2 : Nat) : Int) else 0)))), .ex (i64 ((((if 0 ≤ (4 * (((c : Nat) : Int) - 1)) then ((x / 2 ^ (4 * (((c : Nat) : Int) - 1)).toNat % 2 : Nat) : Int) else 0) + (2 * (if 0 ≤ ((4 * (((c : Nat) : Int) - 1)) + 1) then ((x / 2 ^ ((4 * (((c : Nat) : Int) - 1)) + 1).toNat % 2 : Nat) : Int) else 0))) + (4 * (if 0 ≤ ((4 * (((c : Nat) : Int) - 1)) + 2) then ((x / 2 ^ ((4 * (((c : Nat) : Int) - 1)) + 2).toNat % 2 : Nat) : Int) else 0))) + (8 * (if 0 ≤ ((4 * (((c : Nat) : Int) - 1)) + 3) then ((x / 2 ^ ((4 * (((c : Nat) : Int) - 1)) + 3).toNat % 2 : Nat) : Int) else 0))))]) [(25, 14)] mixed (by kernel_rfl) rfl hv364 ⟨?_, (oX [] rfl rfl rfl fun _ _ => Does.move rfl), (oX [(1, 80)] rfl rfl rfl fun _ _ => Does.mul rfl rfl (by omega)), ?_, ?_, (oX [] rfl rfl rfl fun _ _ => Does.move rfl), (oX [(5, 84)] rfl rfl rfl fun _ _ => Does.mul rfl rfl (by omega)), (oX [(6, 85)] rfl rfl rfl fun _ _ => Does.add rfl rfl (by omega)), ?_, ?_, ?_, ?_, (oX [] rfl rfl rfl fun _ _ => Does.move rfl), (oX [(12, 91)] rfl rfl rfl fun _ _ => Does.mul rfl rfl (by omega)), (oX [(13, 92)] rfl rfl rfl fun _ _ => Does.add rfl rfl (by omega)), ?_, ?_, (oX [(10, 89), (16, 95)] rfl rfl rfl fun _ _ => Does.add rfl rfl (by omega)), ?_, (oX [] rfl rfl rfl fun _ _ => Does.move rfl), (oX [(19, 98)] rfl rfl rfl fun _ _ => Does.mul rfl rfl (by omega)), (oX [(20, 99)] rfl rfl rfl fun _ _ => Does.add rfl rfl (by omega)), ?_, ?_, (oX [(17, 96), (23, 102)] rfl rfl rfl fun _ _ => Does.add rfl rfl (by omega)), (oX [(24, 103)] rfl rfl rfl fun _ _ => Does.assign rfl), trivial⟩ (fun L538 w539 h540 s541 => ?_)
 ·refine oP [] rfl rfl fun L394 w395 h396 s397 => ?_
  have c399 := s365.trans s397
  have c400 := s353.trans c399
  have c401 := s342.trans c400
  have o398 := o334.up c401
  exact ⟨_, Does.load_ownN [.slice A5 (nw x) c6] o398 ty60 rfl rfl, rfl⟩
 ·refine oC [(0, 79), (2, 81)] rfl rfl cal126 fun L410 w411 h412 s413 => ?_
  have c414 := s365.trans s413
  have c415 := s353.trans c414
  have c416 := s342.trans c415
  have q417 := up c416 q338
  exact ⟨_, rfl, (nat_Bit h412 (i := 4 * (((c : Nat) : Int) - 1)) q417 (show (4 * (((c : Nat) : Int) - 1)) < 9223372036854775808 from by omega))⟩
 ·refine oP [] rfl rfl fun L418 w419 h420 s421 => ?_
  have c423 := s365.trans s421
  have c424 := s353.trans c423
  have c425 := s342.trans c424
  have o422 := o334.up c425
  exact ⟨_, Does.load_ownN [.slice A5 (nw x) c6] o422 ty60 rfl rfl, rfl⟩
 ·refine oC [(4, 83), (7, 86)] rfl rfl cal126 fun L438 w439 h440 s441 => ?_
  have c442 := s365.trans s441
  have c443 := s353.trans c442
  have c444 := s342.trans c443
  have q445 := up c444 q338
  exact ⟨_, rfl, (nat_Bit h440 (i := (4 * (((c : Nat) : Int) - 1)) + 1) q445 (show ((4 * (((c : Nat) : Int) - 1)) + 1) < 9223372036854775808 from by omega))⟩
 ·refine oP [(8, 87)] rfl rfl fun L446 w447 h448 s449 v450 q451 => ?_
  have q451 := Is.out q451; subst q451
  exact ⟨_, Does.mul rfl rfl (by omega), rfl⟩
 ·refine oP [(3, 82), (9, 88)] rfl rfl fun L452 w453 h454 s455 v456 q457 => ?_
  have q457 := Is.out q457; subst q457
  exact ⟨_, Does.add rfl rfl (by omega), rfl⟩
 ·refine oP [] rfl rfl fun L458 w459 h460 s461 => ?_
  have c463 := s365.trans s461
  have c464 := s353.trans c463
  have c465 := s342.trans c464
  have o462 := o334.up c465
  exact ⟨_, Does.load_ownN [.slice A5 (nw x) c6] o462 ty60 rfl rfl, rfl⟩
 ·refine oC [(11, 90), (14, 93)] rfl rfl cal126 fun L478 w479 h480 s481 => ?_
  have c482 := s365.trans s481
  have c483 := s353.trans c482
  have c484 := s342.trans c483
  have q485 := up c484 q338
  exact ⟨_, rfl, (nat_Bit h480 (i := (4 * (((c : Nat) : Int) - 1)) + 2) q485 (show ((4 * (((c : Nat) : Int) - 1)) + 2) < 9223372036854775808 from by omega))⟩
 ·refine oP [(15, 94)] rfl rfl fun L486 w487 h488 s489 v490 q491 => ?_
  have q491 := Is.out q491; subst q491
  exact ⟨_, Does.mul rfl rfl (by omega), rfl⟩
 ·refine oP [] rfl rfl fun L496 w497 h498 s499 => ?_
  have c501 := s365.trans s499
  have c502 := s353.trans c501
  have c503 := s342.trans c502
  have o500 := o334.up c503
  exact ⟨_, Does.load_ownN [.slice A5 (nw x) c6] o500 ty60 rfl rfl, rfl⟩
 ·refine oC [(18, 97), (21, 100)] rfl rfl cal126 fun L516 w517 h518 s519 => ?_
  have c520 := s365.trans s519
  have c521 := s353.trans c520
  have c522 := s342.trans c521
  have q523 := up c522 q338
  exact ⟨_, rfl, (nat_Bit h518 (i := (4 * (((c : Nat) : Int) - 1)) + 3) q523 (show ((4 * (((c : Nat) : Int) - 1)) + 3) < 9223372036854775808 from by omega))⟩
 ·refine oP [(22, 101)] rfl rfl fun L524 w525 h526 s527 v528 q529 => ?_
  have q529 := Is.out q529; subst q529
  exact ⟨_, Does.mul rfl rfl (by omega), rfl⟩
 refine nsr ?_
 refine sv (Does.move rfl) ?_
 refine sv (Does.gtr rfl rfl) ?_
 refine Seq.next ?_
 rcases Decidable.em ((0 : Int) < ((((if 0 ≤ (4 * (((c : Nat) : Int) - 1)) then ((x / 2 ^ (4 * (((c : Nat) : Int) - 1)).toNat % 2 : Nat) : Int) else 0) + (2 * (if 0 ≤ ((4 * (((c : Nat) : Int) - 1)) + 1) then ((x / 2 ^ ((4 * (((c : Nat) : Int) - 1)) + 1).toNat % 2 : Nat) : Int) else 0))) + (4 * (if 0 ≤ ((4 * (((c : Nat) : Int) - 1)) + 2) then ((x / 2 ^ ((4 * (((c : Nat) : Int) - 1)) + 2).toNat % 2 : Nat) : Int) else 0))) + (8 * (if 0 ≤ ((4 * (((c : Nat) : Int) - 1)) + 3) then ((x / 2 ^ ((4 * (((c : Nat) : Int) - 1)) + 3).toNat % 2 : Nat) : Int) else 0)) : Int)) with hp6 | hp6
 rotate_left
 ·refine Run.cond_b rfl (decide_eq_false hp6) ?_
  refine Run.skip_go (fun _ _ h => h) ?_
  refine Run.region ?_
  refine sv (Does.move rfl) ?_
  refine sv (Does.sub rfl rfl (by omega)) ?_
  refine sv (Does.assign rfl) ?_
  have o616 := o367.up s541
  have q617 := up s541 q368
  have c618 := s365.trans s541
  have c619 := s353.trans c618
  exact Seq.nil (fun a620 h621 => ⟨_, by omega, _, h621.weaken (subs_lk (l' := [(13, i64 ((((c - 1) : Nat) : Int) - 1)), (0, .pointer (some ⟨b1, 0, none⟩)), (5, .pointer (some ⟨b16, 0, none⟩)), (6, .pointer (some ⟨b22, 0, none⟩)), (10, .pointer (some ⟨b221, 0, none⟩)), (12, .pointer (some ⟨b326, 0, none⟩))]) ⟨(congrArg (fun z => some (i64 z)) (show ((((c : Nat) : Int) - 1) - 1 : Int) = (((c - 1) : Nat) : Int) - 1 from by omega)), rfl, rfl, rfl, rfl, rfl, trivial⟩), ⟨c - 1, L538, (.slice A369 (nw ((a % r) ^ (2 ^ j * (x / 16 ^ c)) % r)) c370), rfl, rfl, h540, (c619.more (by decide)), o616, (NatV.cast (show ((a % r) ^ (2 ^ j * (x / 16 ^ c)) % r) = ((a % r) ^ (x / 16 ^ (c - 1)) % r) from by exact exp_dig0 (by omega) (by omega) (exp_digit (by omega)) (by assumption)) q617), (by omega)⟩⟩)
 refine Run.cond_b rfl (decide_eq_true hp6) ?_
 refine Run.open 6 (Φ := [.ex (.pointer (some ⟨b1, 0, none⟩)), .ex (.agg #[.slice A369 (nw ((a % r) ^ (2 ^ j * (x / 16 ^ c)) % r)) c370]), .ex (i64 ((((if 0 ≤ (4 * (((c : Nat) : Int) - 1)) then ((x / 2 ^ (4 * (((c : Nat) : Int) - 1)).toNat % 2 : Nat) : Int) else 0) + (2 * (if 0 ≤ ((4 * (((c : Nat) : Int) - 1)) + 1) then ((x / 2 ^ ((4 * (((c : Nat) : Int) - 1)) + 1).toNat % 2 : Nat) : Int) else 0))) + (4 * (if 0 ≤ ((4 * (((c : Nat) : Int) - 1)) + 2) then ((x / 2 ^ ((4 * (((c : Nat) : Int) - 1)) + 2).toNat % 2 : Nat) : Int) else 0))) + (8 * (if 0 ≤ ((4 * (((c : Nat) : Int) - 1)) + 3) then ((x / 2 ^ ((4 * (((c : Nat) : Int) - 1)) + 3).toNat % 2 : Nat) : Int) else 0)))), .ex (.pointer (some ⟨b221, 0 + (((((if 0 ≤ (4 * (((c : Nat) : Int) - 1)) then ((x / 2 ^ (4 * (((c : Nat) : Int) - 1)).toNat % 2 : Nat) : Int) else 0) + (2 * (if 0 ≤ ((4 * (((c : Nat) : Int) - 1)) + 1) then ((x / 2 ^ ((4 * (((c : Nat) : Int) - 1)) + 1).toNat % 2 : Nat) : Int) else 0))) + (4 * (if 0 ≤ ((4 * (((c : Nat) : Int) - 1)) + 2) then ((x / 2 ^ ((4 * (((c : Nat) : Int) - 1)) + 2).toNat % 2 : Nat) : Int) else 0))) + (8 * (if 0 ≤ ((4 * (((c : Nat) : Int) - 1)) + 3) then ((x / 2 ^ ((4 * (((c : Nat) : Int) - 1)) + 3).toNat % 2 : Nat) : Int) else 0))).toNat) * 1, none⟩)), .v (NatV (List.getD (tab (a % r) r i) (((((if 0 ≤ (4 * (((c : Nat) : Int) - 1)) then ((x / 2 ^ (4 * (((c : Nat) : Int) - 1)).toNat % 2 : Nat) : Int) else 0) + (2 * (if 0 ≤ ((4 * (((c : Nat) : Int) - 1)) + 1) then ((x / 2 ^ ((4 * (((c : Nat) : Int) - 1)) + 1).toNat % 2 : Nat) : Int) else 0))) + (4 * (if 0 ≤ ((4 * (((c : Nat) : Int) - 1)) + 2) then ((x / 2 ^ ((4 * (((c : Nat) : Int) - 1)) + 2).toNat % 2 : Nat) : Int) else 0))) + (8 * (if 0 ≤ ((4 * (((c : Nat) : Int) - 1)) + 3) then ((x / 2 ^ ((4 * (((c : Nat) : Int) - 1)) + 3).toNat % 2 : Nat) : Int) else 0))).toNat) 0)), .v (NatV (((a % r) ^ (2 ^ j * (x / 16 ^ c)) % r) * (List.getD (tab (a % r) r i) (((((if 0 ≤ (4 * (((c : Nat) : Int) - 1)) then ((x / 2 ^ (4 * (((c : Nat) : Int) - 1)).toNat % 2 : Nat) : Int) else 0) + (2 * (if 0 ≤ ((4 * (((c : Nat) : Int) - 1)) + 1) then ((x / 2 ^ ((4 * (((c : Nat) : Int) - 1)) + 1).toNat % 2 : Nat) : Int) else 0))) + (4 * (if 0 ≤ ((4 * (((c : Nat) : Int) - 1)) + 2) then ((x / 2 ^ ((4 * (((c : Nat) : Int) - 1)) + 2).toNat % 2 : Nat) : Int) else 0))) + (8 * (if 0 ≤ ((4 * (((c : Nat) : Int) - 1)) + 3) then ((x / 2 ^ ((4 * (((c : Nat) : Int) - 1)) + 3).toNat % 2 : Nat) : Int) else 0))).toNat) 0) % r))]) [(5, 111)] mixed (by kernel_rfl) rfl h540 ⟨(oX [] rfl rfl rfl fun _ _ => Does.move rfl), ?_, (oX [] rfl rfl rfl fun _ _ => Does.move rfl), (oX [(2, 108)] rfl rfl rfl fun _ _ => Does.indexAt_arr (((((if 0 ≤ (4 * (((c : Nat) : Int) - 1)) then ((x / 2 ^ (4 * (((c : Nat) : Int) - 1)).toNat % 2 : Nat) : Int) else 0) + (2 * (if 0 ≤ ((4 * (((c : Nat) : Int) - 1)) + 1) then ((x / 2 ^ ((4 * (((c : Nat) : Int) - 1)) + 1).toNat % 2 : Nat) : Int) else 0))) + (4 * (if 0 ≤ ((4 * (((c : Nat) : Int) - 1)) + 2) then ((x / 2 ^ ((4 * (((c : Nat) : Int) - 1)) + 2).toNat % 2 : Nat) : Int) else 0))) + (8 * (if 0 ≤ ((4 * (((c : Nat) : Int) - 1)) + 3) then ((x / 2 ^ ((4 * (((c : Nat) : Int) - 1)) + 3).toNat % 2 : Nat) : Int) else 0))).toNat) (n := 16) (e := 60) (by kernel_rfl) ty60 rfl rfl (by omega) (by omega)), ?_, ?_, trivial⟩ (fun L595 w596 h597 s598 v599 q600 => ?_)
 ·refine oP [] rfl rfl fun L546 w547 h548 s549 => ?_
  have c551 := s541.trans s549
  have o550 := o367.up c551
  exact ⟨_, Does.load_ownN [.slice A369 (nw ((a % r) ^ (2 ^ j * (x / 16 ^ c)) % r)) c370] o550 ty60 rfl rfl, rfl⟩
 ·refine oP [(3, 109)] rfl rfl fun L560 w561 h562 s563 => ?_
  have c565 := s541.trans s563
  have c566 := s365.trans c565
  have c567 := s353.trans c566
  have c568 := s342.trans c567
  have c569 := c335.trans c568
  have o564 := o242.up c569
  obtain ⟨cs570, o571, e572⟩ := o564
  obtain ⟨u573, q574, q575⟩ := EachN.get e572 (((((if 0 ≤ (4 * (((c : Nat) : Int) - 1)) then ((x / 2 ^ (4 * (((c : Nat) : Int) - 1)).toNat % 2 : Nat) : Int) else 0) + (2 * (if 0 ≤ ((4 * (((c : Nat) : Int) - 1)) + 1) then ((x / 2 ^ ((4 * (((c : Nat) : Int) - 1)) + 1).toNat % 2 : Nat) : Int) else 0))) + (4 * (if 0 ≤ ((4 * (((c : Nat) : Int) - 1)) + 2) then ((x / 2 ^ ((4 * (((c : Nat) : Int) - 1)) + 2).toNat % 2 : Nat) : Int) else 0))) + (8 * (if 0 ≤ ((4 * (((c : Nat) : Int) - 1)) + 3) then ((x / 2 ^ ((4 * (((c : Nat) : Int) - 1)) + 3).toNat % 2 : Nat) : Int) else 0))).toNat) _ (getD_some (by (rw [tab_length]; omega)))
  obtain ⟨A576, c577, hz⟩ := NatV.shape q575; cases hz
  exact ⟨_, Does.load_cell o571 ty60 rfl q574, q575⟩
 ·refine oC [(0, 106), (1, 107), (4, 110)] rfl rfl cal69 fun L578 w579 h580 s581 v582 q583 => ?_
  obtain ⟨A584, c585, rfl⟩ := NatV.shape q583
  have z586 := NatV.cap q583
  have c587 := s541.trans s581
  have c588 := s365.trans c587
  have c589 := s353.trans c588
  have c590 := s342.trans c589
  have c591 := c337.trans c590
  have c592 := c99.trans c591
  have q593 := up c592 q82
  have q594 := up c587 q368
  exact ⟨_, rfl, (ring_Mul h580 q593 q594 q583 (show 1 < r from by omega) (show nw ((a % r) ^ (2 ^ j * (x / 16 ^ c)) % r) ≤ 1000 from by exact Nat.le_trans (nw_mono (Nat.le_of_lt (Nat.mod_lt _ (by omega)))) hn) (show nw (List.getD (tab (a % r) r i) (((((if 0 ≤ (4 * (((c : Nat) : Int) - 1)) then ((x / 2 ^ (4 * (((c : Nat) : Int) - 1)).toNat % 2 : Nat) : Int) else 0) + (2 * (if 0 ≤ ((4 * (((c : Nat) : Int) - 1)) + 1) then ((x / 2 ^ ((4 * (((c : Nat) : Int) - 1)) + 1).toNat % 2 : Nat) : Int) else 0))) + (4 * (if 0 ≤ ((4 * (((c : Nat) : Int) - 1)) + 2) then ((x / 2 ^ ((4 * (((c : Nat) : Int) - 1)) + 2).toNat % 2 : Nat) : Int) else 0))) + (8 * (if 0 ≤ ((4 * (((c : Nat) : Int) - 1)) + 3) then ((x / 2 ^ ((4 * (((c : Nat) : Int) - 1)) + 3).toNat % 2 : Nat) : Int) else 0))).toNat) 0) ≤ 1000 from by (rw [tab_get (by omega) (by omega)]; exact Nat.le_trans (nw_mono (Nat.le_of_lt (Nat.mod_lt _ (by omega)))) hn)) (show nw r ≤ 1000 from by omega))⟩
 obtain ⟨A601, c602, rfl⟩ := NatV.shape q600
 have z603 := NatV.cap q600
 have c605 := s541.trans s598
 have o604 := o367.up c605
 refine sstore [.slice A601 (nw (((a % r) ^ (2 ^ j * (x / 16 ^ c)) % r) * (List.getD (tab (a % r) r i) (((((if 0 ≤ (4 * (((c : Nat) : Int) - 1)) then ((x / 2 ^ (4 * (((c : Nat) : Int) - 1)).toNat % 2 : Nat) : Int) else 0) + (2 * (if 0 ≤ ((4 * (((c : Nat) : Int) - 1)) + 1) then ((x / 2 ^ ((4 * (((c : Nat) : Int) - 1)) + 1).toNat % 2 : Nat) : Int) else 0))) + (4 * (if 0 ≤ ((4 * (((c : Nat) : Int) - 1)) + 2) then ((x / 2 ^ ((4 * (((c : Nat) : Int) - 1)) + 2).toNat % 2 : Nat) : Int) else 0))) + (8 * (if 0 ≤ ((4 * (((c : Nat) : Int) - 1)) + 3) then ((x / 2 ^ ((4 * (((c : Nat) : Int) - 1)) + 3).toNat % 2 : Nat) : Int) else 0))).toNat) 0) % r)) c602] h597 o604 ty60 rfl rfl rfl (Nat.le_of_ble_eq_true rfl) rfl rfl fun w606 o607 s608 h609 => ?_
 refine Seq.go (fun _ _ h => h) ?_
 refine Run.region ?_
 refine sv (Does.move rfl) ?_
 refine sv (Does.sub rfl rfl (by omega)) ?_
 refine sv (Does.assign rfl) ?_
 have q610 := up s608 q600
 have c611 := c605.trans s608
 have c612 := s365.trans c611
 have c613 := s353.trans c612
 exact Seq.nil (fun a614 h615 => ⟨_, by omega, _, h615.weaken (subs_lk (l' := [(13, i64 ((((c - 1) : Nat) : Int) - 1)), (0, .pointer (some ⟨b1, 0, none⟩)), (5, .pointer (some ⟨b16, 0, none⟩)), (6, .pointer (some ⟨b22, 0, none⟩)), (10, .pointer (some ⟨b221, 0, none⟩)), (12, .pointer (some ⟨b326, 0, none⟩))]) ⟨(congrArg (fun z => some (i64 z)) (show ((((c : Nat) : Int) - 1) - 1 : Int) = (((c - 1) : Nat) : Int) - 1 from by omega)), rfl, rfl, rfl, rfl, rfl, trivial⟩), ⟨c - 1, L595, (.slice A601 (nw (((a % r) ^ (2 ^ j * (x / 16 ^ c)) % r) * (List.getD (tab (a % r) r i) (((((if 0 ≤ (4 * (((c : Nat) : Int) - 1)) then ((x / 2 ^ (4 * (((c : Nat) : Int) - 1)).toNat % 2 : Nat) : Int) else 0) + (2 * (if 0 ≤ ((4 * (((c : Nat) : Int) - 1)) + 1) then ((x / 2 ^ ((4 * (((c : Nat) : Int) - 1)) + 1).toNat % 2 : Nat) : Int) else 0))) + (4 * (if 0 ≤ ((4 * (((c : Nat) : Int) - 1)) + 2) then ((x / 2 ^ ((4 * (((c : Nat) : Int) - 1)) + 2).toNat % 2 : Nat) : Int) else 0))) + (8 * (if 0 ≤ ((4 * (((c : Nat) : Int) - 1)) + 3) then ((x / 2 ^ ((4 * (((c : Nat) : Int) - 1)) + 3).toNat % 2 : Nat) : Int) else 0))).toNat) 0) % r)) c602), rfl, rfl, h609, (c613.more (by decide)), o607, (NatV.cast (show (((a % r) ^ (2 ^ j * (x / 16 ^ c)) % r) * (List.getD (tab (a % r) r i) (((((if 0 ≤ (4 * (((c : Nat) : Int) - 1)) then ((x / 2 ^ (4 * (((c : Nat) : Int) - 1)).toNat % 2 : Nat) : Int) else 0) + (2 * (if 0 ≤ ((4 * (((c : Nat) : Int) - 1)) + 1) then ((x / 2 ^ ((4 * (((c : Nat) : Int) - 1)) + 1).toNat % 2 : Nat) : Int) else 0))) + (4 * (if 0 ≤ ((4 * (((c : Nat) : Int) - 1)) + 2) then ((x / 2 ^ ((4 * (((c : Nat) : Int) - 1)) + 2).toNat % 2 : Nat) : Int) else 0))) + (8 * (if 0 ≤ ((4 * (((c : Nat) : Int) - 1)) + 3) then ((x / 2 ^ ((4 * (((c : Nat) : Int) - 1)) + 3).toNat % 2 : Nat) : Int) else 0))).toNat) 0) % r) = ((a % r) ^ (x / 16 ^ (c - 1)) % r) from by exact exp_dig1 (by omega) (by omega) (exp_digit (by omega)) (by omega)) q610), (by omega)⟩⟩)
end Go.Proofs.Ytgfomedobfaidaa
end
section
set_option linter.unusedVariables false
set_option linter.unusedSimpArgs false
namespace Go.Proofs.Ytgfomedobfaidaa
open Go.RowKit
def pp (i : Nat) : List Nat → List Nat → Nat
 | b :: bs, e :: es => b ^ (e / 2 ^ i) * pp i bs es
 | _, _ => 1
def ppm (i : Nat) : Nat → List Nat → List Nat → Nat
 | 0, b :: bs, e :: es => b ^ (2 * (e / 2 ^ (i + 1))) * ppm i 0 bs es
 | k + 1, b :: bs, e :: es => b ^ (e / 2 ^ i) * ppm i k bs es
 | _, _, _ => 1
theorem ppm_zero (i : Nat) : ∀ (bs es : List Nat), ppm i 0 bs es = pp (i + 1) bs es * pp (i + 1) bs es
 | [], es => by simp [ppm, pp]
 | b :: bs, [] => by simp [ppm, pp]
 | b :: bs, e :: es => by
  simp only [ppm, pp]
  rw [ppm_zero i bs es, Nat.two_mul, Nat.pow_add]
  simp only [Nat.mul_assoc, Nat.mul_left_comm, Nat.mul_comm]
theorem ppm_full (i : Nat) : ∀ (k : Nat) (bs es : List Nat), bs.length = es.length → es.length ≤ k → ppm i k bs es = pp i bs es
 | k, [], [], _, _ => by cases k <;> simp [ppm, pp]
 | 0, b :: bs, e :: es, _, h => by simp at h
 | k + 1, b :: bs, e :: es, h, hk => by
  simp only [ppm, pp]
  rw [ppm_full i k bs es (by simpa using h) (by simpa using hk)]
 | k, [], e :: es, h, _ => by simp at h
 | k, b :: bs, [], h, _ => by simp at h
theorem ppm_step (i : Nat) : ∀ (k : Nat) (bs es : List Nat), bs.length = es.length → k < es.length → ppm i (k + 1) bs es = ppm i k bs es * bs.getD k 0 ^ (es.getD k 0 / 2 ^ i % 2)
 | k, [], es, h, hk => by simp at h; omega
 | k, b :: bs, [], h, hk => by simp at hk
 | 0, b :: bs, e :: es, h, hk => by
  simp only [ppm, List.getD_cons_zero]
  have hh := half e i
  conv => lhs; rw [hh, Nat.pow_add]
  simp only [Nat.mul_assoc, Nat.mul_left_comm, Nat.mul_comm]
 | k + 1, b :: bs, e :: es, h, hk => by
  simp only [ppm, List.getD_cons_succ]
  rw [show ppm i (k + 1) bs es = _ from ppm_step i k bs es (by simpa using h) (by simpa using hk), Nat.mul_assoc]
theorem pp_high {n : Nat} : ∀ (bs es : List Nat), (∀ e ∈ es, blen e ≤ n) → pp n bs es = 1
 | [], es, _ => by simp [pp]
 | b :: bs, [], _ => by simp [pp]
 | b :: bs, e :: es, h => by
  simp only [pp]
  rw [pp_high bs es (fun x hx => h x (List.mem_cons_of_mem _ hx)), Nat.div_eq_of_lt (blen_le.1 (h e (by simp))), Nat.pow_zero]
def ppAll (bs es : List Nat) : Nat := pp 0 bs es
theorem ppAll_snoc : ∀ (bs es : List Nat) (b e : Nat), bs.length = es.length → ppAll (bs ++ [b]) (es ++ [e]) = ppAll bs es * b ^ e
 | [], [], b, e, _ => by simp [ppAll, pp]
 | [], e' :: es, b, e, h => by simp at h
 | b' :: bs, [], b, e, h => by simp at h
 | b' :: bs, e' :: es, b, e, h => by
  have := ppAll_snoc bs es b e (by simpa using h)
  simp only [ppAll, pp, List.cons_append] at this ⊢
  rw [this, Nat.mul_assoc]
theorem multi_mul {p i k : Nat} {bs es : List Nat} {x : Nat} (hl : bs.length = es.length) (hk : k < es.length) (hx : x = ppm i k bs es % p) (hb : es.getD k 0 / 2 ^ i % 2 = 1) : x * bs.getD k 0 % p = ppm i (k + 1) bs es % p := by
 rw [ppm_step i k bs es hl hk, hb, Nat.pow_one, hx, Nat.mod_mul_mod]
theorem multi_skip {p i k : Nat} {bs es : List Nat} {x : Nat} (hl : bs.length = es.length) (hk : k < es.length) (hx : x = ppm i k bs es % p) (hb : es.getD k 0 / 2 ^ i % 2 ≠ 1) : x = ppm i (k + 1) bs es % p := by
 rw [ppm_step i k bs es hl hk, show es.getD k 0 / 2 ^ i % 2 = 0 by omega, Nat.pow_zero, Nat.mul_one, hx]
end Go.Proofs.Ytgfomedobfaidaa
end
section
set_option linter.unusedVariables false
set_option linter.unusedSimpArgs false
namespace Go.Proofs.Ytgfomedobfaidaa
open Go.RowKit
instance (x : PlainD) : Per (PlainV x) := ⟨PlainV.pers x⟩
instance (x : EntryD) : Per (EntryV x) := ⟨EntryV.pers x⟩
instance (x : RentryD) : Per (RentryV x) := ⟨RentryV.pers x⟩
theorem NumsV.mk {lab : Lab} {w : World} {L : List (List Bool)} {A : Option Addr} {c : Nat} {vs : List Value} (n : Nat) (hn : L.length = n) (hc : n ≤ c) (hc' : c ≤ 9223372036854775807) (hr : RowAt lab w A vs) (hvs : List.length vs = n) (h : ∀ (i : Nat) (bs : List Bool), L[i]? = some bs → ∃ u, vs[i]? = some u ∧ BitsV bs lab w u) : NumsV L lab w (.slice A n c) := by
 subst hn
 exact ⟨A, c, vs, rfl, hc, hc', hvs, hr, h⟩
theorem NatsV.mk {lab : Lab} {w : World} {L : List Nat} {A : Option Addr} {c : Nat} {vs : List Value} (n : Nat) (hn : L.length = n) (hc : n ≤ c) (hc' : c ≤ 9223372036854775807) (hr : RowAt lab w A vs) (hvs : List.length vs = n) (h : ∀ (i : Nat) (x : Nat), L[i]? = some x → ∃ u, vs[i]? = some u ∧ NatV x lab w (.agg #[u])) : NatsV L lab w (.slice A n c) := by
 subst hn
 exact ⟨A, c, vs, rfl, hc, hc', hvs, hr, h⟩

end Go.Proofs.Ytgfomedobfaidaa
end
section
set_option linter.unusedVariables false
set_option linter.unusedSimpArgs false
namespace Go.Proofs.Ytgfomedobfaidaa
open Go.RowKit
section
variable {ds : List Deferred} {P : Program} {N : Nat} {ops : Array Oper} {Q : Exit → Act → World → Prop} {l : List (Nat × Value)} {rest : List Oper} {w : World} {lab : Lab} {ty : TypeId} {pos : String} {af : Array Edge}
theorem getT {xs : List UInt32} {tl : List Value} {j : Nat} (h : j < xs.length) : (List.map u32 xs ++ tl).toArray[0 + j * 1]? = some (u32 (xs.getD j 0)) := by
 rw [Nat.zero_add, Nat.mul_one, List.getElem?_toArray, List.getElem?_append_left (by simpa using h)]
 exact map_get u32 xs 0 h
theorem Does.loadT {t t' : TypeId} {x : Operand} {by_ d b n : Nat} {z : Option Value} {xs : List UInt32} {tl : List Value} (h : Own lab w d b t' (List.map u32 xs ++ tl).toArray) (ht : tyRow P t = some (true, n, z, by_)) (hx : ev l x = some (.pointer (some ⟨b, 0, none⟩))) (hn : xs.length = n) : Does P l (.load t x) ty w (.agg (List.map u32 xs).toArray) w := by
 refine Does.load_ownN (List.map u32 xs) h (by rw [ht, List.length_map, hn]) hx ?_
 show List.take (List.map u32 xs).length (List.drop 0 (List.map u32 xs ++ tl)) = _
 rw [List.drop_zero, List.take_left]
theorem oneW (xs : List UInt32) : (Value.agg (List.map u32 xs).toArray).cells.toList.all (·.oneCell') = true := by
 show (List.map u32 xs).all _ = true
 rw [List.all_eq_true]
 intro u hu
 obtain ⟨x, _, rfl⟩ := List.mem_map.1 hu
 rfl
theorem sstoreT {k b j : Nat} {t t' : TypeId} {xo y : Operand} {v : UInt32} {by_ : Nat} {z : Option Value} {ag : Bool} {xs : List UInt32} (tl : List Value) (hv : Valid lab w) (hO : Own lab w k b t' (List.map u32 xs ++ tl).toArray) (ht : tyRow P t = some (ag, 1, z, by_)) (hx : ev l xo = some (.pointer (some ⟨b, 0 + j * 1, none⟩))) (hy : ev l y = some (u32 v)) (hj : j < xs.length)
  (h : ∀ w', Own lab w' k b t' (List.map u32 (xs.set j v) ++ tl).toArray → Stp [k] lab w lab w' → Valid lab w' → Seq ds P N ops Q l rest w') : Seq ds P N ops Q l (⟨none, .store t xo y, ty, pos, af, none⟩ :: rest) w := by
 refine Seq.store (List.map u32 (xs.set j v) ++ tl) hv hO ht hx hy rfl (by simp; omega) (by show [u32 v].all _ = true; simp; rfl) ?_ h
 show (List.take (0 + j * 1) (List.map u32 xs ++ tl) ++ [u32 v] ++ List.drop (0 + j * 1 + 1) (List.map u32 xs ++ tl)).toArray = _
 rw [Nat.zero_add, Nat.mul_one, List.take_append_of_le_length (by simp; omega), List.drop_append_of_le_length (by simp; omega), ← List.append_assoc]
 congr 2
 have := set_splice u32 xs j v hj
 exact congrArg Array.toList this
theorem sstoreW {k b n : Nat} {t t' : TypeId} {xo y : Operand} {by_ : Nat} {z : Option Value} {ag : Bool} {xs ys : List UInt32} (tl : List Value) (hv : Valid lab w) (hO : Own lab w k b t' (List.map u32 xs ++ tl).toArray) (ht : tyRow P t = some (ag, n, z, by_)) (hx : ev l xo = some (.pointer (some ⟨b, 0, none⟩))) (hy : ev l y = some (.agg (List.map u32 ys).toArray)) (hn : ys.length = n) (hn' : xs.length = n)
  (h : ∀ w', Own lab w' k b t' (List.map u32 ys ++ tl).toArray → Stp [k] lab w lab w' → Valid lab w' → Seq ds P N ops Q l rest w') : Seq ds P N ops Q l (⟨none, .store t xo y, ty, pos, af, none⟩ :: rest) w := by
 refine Seq.store (List.map u32 ys ++ tl) hv hO ht hx hy (by show (List.map u32 ys).toArray.size = n; simp [hn]) (by simp; omega) (oneW ys) ?_ h
 show (List.take 0 (List.map u32 xs ++ tl) ++ List.map u32 ys ++ List.drop (0 + n) (List.map u32 xs ++ tl)).toArray = _
 rw [List.take_zero, List.nil_append, Nat.zero_add, List.drop_append_of_le_length (by simp; omega), List.drop_of_length_le (by simp; omega), List.nil_append]
theorem Does.indexT {t e : TypeId} {x y : Operand} {k : IntKind} {i : Int} {n by_ : Nat} {z : Option Value} {xs : List UInt32} (j : Nat) (ht : P.underlying t = some (.array n e)) (he : tyRow P e = some (false, 1, z, by_)) (hx : ev l x = some (.agg (List.map u32 xs).toArray)) (hy : ev l y = some (.int k i)) (hij : i = (j : Int)) (hj : j < n) (hn : xs.length = n) :
  Does P l (.index t x y) ty w (u32 (xs.getD j 0)) w := by
 intro ρ hρ d pos af g
 subst hij
 have h0 : (0 : Int) ≤ (j : Int) ∧ (j : Int) < (n : Int) := by omega
 have hm : (List.map u32 xs).toArray[j * 1]? = some (u32 (xs.getD j 0)) := by rw [Nat.mul_one, List.getElem?_toArray]; exact map_get u32 xs 0 (by omega)
 simp only [execOp, Instr.index, hρ _ _ hx, hρ _ _ hy, asIntOf, Sem.run_bind, Sem.run_pure, Result.andThen_ok, run_underlying ht, h0, and_self, if_true, Int.toNat_natCast, run_sizeOf' he, part, run_isAgg' he, Bool.false_eq_true, if_false, hm]
theorem Does.sliceT {t e : TypeId} {x y : Operand} {k : IntKind} {i : Int} {b n by_ : Nat} {z : Option Value} {ag : Bool} (j : Nat) (ht : P.underlying t = some (.array n e)) (he : tyRow P e = some (ag, 1, z, by_)) (hx : ev l x = some (.pointer (some ⟨b, 0, none⟩))) (hy : ev l y = some (.int k i)) (hij : i = (j : Int)) (hj : j < n) :
  Does P l (.slice t x (some y) none none) ty w (.slice (some ⟨b, j, none⟩) (n - j) (n - j)) w := by
 intro ρ hρ d pos af g
 subst hij
 have h0 : (0 : Int) ≤ (j : Int) ∧ (j : Int) ≤ (n : Int) := by omega
 simp only [execOp, Instr.sliceAt, Instr.sureAddr, Instr.sliceBounds, Instr.sliceBound, Option.map_some, Option.map_none, hρ _ _ hx, hρ _ _ hy, asIntOf, Sem.run_bind, Sem.run_pure, Result.andThen_ok, run_underlying ht, h0, and_self, if_true, Int.toNat_natCast, run_sizeOf' he, add_flat, Nat.mul_one, Nat.zero_add, if_neg (show ¬ n = j by omega), Option.isSome_none, Bool.false_eq_true, if_false]
theorem Does.sliceT_hi {t e : TypeId} {x y : Operand} {k : IntKind} {i : Int} {b n by_ : Nat} {z : Option Value} {ag : Bool} (j : Nat) (ht : P.underlying t = some (.array n e)) (he : tyRow P e = some (ag, 1, z, by_)) (hx : ev l x = some (.pointer (some ⟨b, 0, none⟩))) (hy : ev l y = some (.int k i)) (hij : i = (j : Int)) (hj : j ≤ n) (hn : 0 < n) :
  Does P l (.slice t x none (some y) none) ty w (.slice (some ⟨b, 0, none⟩) j n) w := by
 intro ρ hρ d pos af g
 subst hij
 have h0 : (0 : Int) ≤ (j : Int) ∧ (j : Int) ≤ (n : Int) := by omega
 simp only [execOp, Instr.sliceAt, Instr.sureAddr, Instr.sliceBounds, Instr.sliceBound, Option.map_some, Option.map_none, hρ _ _ hx, hρ _ _ hy, asIntOf, Sem.run_bind, Sem.run_pure, Result.andThen_ok, run_underlying ht, h0, and_self, if_true, Int.toNat_natCast, run_sizeOf' he, add_flat, Nat.zero_mul, Nat.zero_add, Nat.sub_zero, if_neg (show ¬ n = 0 by omega), Option.isSome_none, Bool.false_eq_true, if_false]
theorem scopyUp {d k b m c c' : Nat} {t1 t2 e t' : TypeId} {x y : Operand} {by_ : Nat} {z : Option Value} {ag : Bool} {xs : List UInt32} (tl : List Value) (hv : Valid lab w) (hO : Own lab w k b t' (List.map u32 xs ++ tl).toArray) (ht : P.underlying t1 = some (.slice e)) (he : tyRow P e = some (ag, 1, z, by_)) (hx : ev l x = some (.slice (some ⟨b, 1, none⟩) m c)) (hy : ev l y = some (.slice (some ⟨b, 0, none⟩) m c')) (hm : m + 1 = xs.length)
  (h : ∀ w', Own lab w' k b t' (List.map u32 (xs.take 1 ++ xs.take m) ++ tl).toArray → Stp [k] lab w lab w' → Valid lab w' → Seq ds P N ops Q ((d, i64 (m : Int)) :: l) rest w') (hd : d < N := by decide) : Seq ds P N ops Q l (⟨some d, .call ⟨.builtin .copy, #[x, y], #[t1, t2]⟩, ty, pos, af, none⟩ :: rest) w := by
 have hlen : (List.map u32 (xs.take m)).length = m := by simp; omega
 have hrun := run_copy_row (P := P) w t1 t2 ty e b 1 m c ⟨b, 0, none⟩ m c' (List.map u32 xs ++ tl).toArray t' (List.map u32 (xs.take m)) ht (by obtain ⟨i, _, hi, _, _, his, _⟩ := tyRow_info he; rw [hi]; simp [his]) hO.2 (by rw [hlen]; simp) (fun j u hj => by
  rw [add_flat, hO.cell]
  have hjl : j < (List.map u32 (xs.take m)).length := (List.getElem?_eq_some_iff.1 hj).1
  rw [hlen] at hjl
  rw [Nat.zero_add, List.getElem?_toArray, List.getElem?_append_left (by simp; omega)]
  rw [List.map_take, List.getElem?_take_of_lt hjl] at hj
  exact hj) (by rw [hlen]; simp; omega) (fun u hu => by obtain ⟨x, _, rfl⟩ := List.mem_map.1 hu; rfl)
 have earr : ((List.map u32 xs ++ tl).toArray.toList.take 1 ++ List.map u32 (xs.take m) ++ (List.map u32 xs ++ tl).toArray.toList.drop (1 + (List.map u32 (xs.take m)).length)).toArray = (List.map u32 (xs.take 1 ++ xs.take m) ++ tl).toArray := by
  rw [hlen, List.toList_toArray, List.take_append_of_le_length (by simp; omega), List.drop_append_of_le_length (by simp; omega), List.drop_of_length_le (by simp; omega), List.nil_append, List.map_append, List.map_take, List.map_take]
 rw [earr, hlen] at hrun
 refine sv (w' := w.setRow b (List.map u32 (xs.take 1 ++ xs.take m) ++ tl).toArray) ?_ (h _ (hO.set _) (Stp.set hO.1 _) (hv.set _ _)) hd
 intro ρ hρ d pos af g
 simp [execOp, resolve, invoke, builtin, hρ _ _ hx, hρ _ _ hy, hrun, goInt]
end
end Go.Proofs.Ytgfomedobfaidaa
end
section
set_option linter.unusedVariables false
set_option linter.unusedSimpArgs false
namespace Go.Proofs.Ytgfomedobfaidaa
open Go.RowKit
def rotl (x : UInt32) (k : Int) : UInt32 := x <<< UInt32.ofNat ((((u64i k &&& 31).toNat : Nat) : Int)).toNat ||| x >>> UInt32.ofNat ((((32 - (u64i k &&& 31)).toNat : Nat) : Int)).toNat
theorem and31 (x : UInt64) : (x &&& 31).toNat < 32 := by
 rw [UInt64.toNat_and]
 exact Nat.lt_of_le_of_lt Nat.and_le_right (by decide)
theorem sub31 (x : UInt64) : (32 - (x &&& 31)).toNat = 32 - (x &&& 31).toNat := by
 have := and31 x
 rw [UInt64.toNat_sub_of_le]
 ·rfl
 ·rw [UInt64.le_iff_toNat_le]; show (x &&& 31).toNat ≤ 32; omega
def wordB (b : List UInt8) (i : Nat) : UInt32 := (((b.getD (4 * i) 0).toUInt32 <<< UInt32.ofNat 24 ||| (b.getD (4 * i + 1) 0).toUInt32 <<< UInt32.ofNat 16) ||| (b.getD (4 * i + 2) 0).toUInt32 <<< UInt32.ofNat 8) ||| (b.getD (4 * i + 3) 0).toUInt32
theorem word_eq (b : List UInt8) (i : Nat) : (((b.getD (4 * ((i : Nat) : Int)).toNat 0).toUInt32 <<< UInt32.ofNat 24 ||| (b.getD (4 * ((i : Nat) : Int) + 1).toNat 0).toUInt32 <<< UInt32.ofNat 16) ||| (b.getD (4 * ((i : Nat) : Int) + 2).toNat 0).toUInt32 <<< UInt32.ofNat 8) ||| (b.getD (4 * ((i : Nat) : Int) + 3).toNat 0).toUInt32 = (((b.getD (4 * i) 0).toUInt32 <<< UInt32.ofNat 24 ||| (b.getD (4 * i + 1) 0).toUInt32 <<< UInt32.ofNat 16) ||| (b.getD (4 * i + 2) 0).toUInt32 <<< UInt32.ofNat 8) ||| (b.getD (4 * i + 3) 0).toUInt32 := by
 rw [show (4 * ((i : Nat) : Int)).toNat = 4 * i by omega, show (4 * ((i : Nat) : Int) + 1).toNat = 4 * i + 1 by omega, show (4 * ((i : Nat) : Int) + 2).toNat = 4 * i + 2 by omega, show (4 * ((i : Nat) : Int) + 3).toNat = 4 * i + 3 by omega]
def nextW (l : List UInt32) (i : Nat) : UInt32 := ((l.getD (i - 16) 0 + l.getD (i - 7) 0) + ((rotl (l.getD (i - 15) 0) (-7) ^^^ rotl (l.getD (i - 15) 0) (-18)) ^^^ (l.getD (i - 15) 0) >>> UInt32.ofNat 3)) + ((rotl (l.getD (i - 2) 0) (-17) ^^^ rotl (l.getD (i - 2) 0) (-19)) ^^^ (l.getD (i - 2) 0) >>> UInt32.ofNat 10)
def sch (b : List UInt8) : Nat → List UInt32
 | 0 => []
 | n + 1 => sch b n ++ [if n < 16 then wordB b n else nextW (sch b n) n]
theorem sch_length (b : List UInt8) : ∀ n, (sch b n).length = n
 | 0 => rfl
 | n + 1 => by simp [sch, sch_length b n]
def padW (l : List UInt32) : List UInt32 := l ++ List.replicate (64 - l.length) 0
theorem padW_length {l : List UInt32} (h : l.length ≤ 64) : (padW l).length = 64 := by simp [padW]; omega
theorem padW_nil : List.replicate 64 0 = padW [] := by simp [padW]
theorem padW_set {l : List UInt32} {i : Nat} (hl : l.length = i) (h : i < 64) (v : UInt32) : (padW l).set i v = padW (l ++ [v]) := by
 subst hl
 unfold padW
 rw [List.set_append_right _ _ (Nat.le_refl _), Nat.sub_self]
 obtain ⟨n, hn⟩ : ∃ n, 64 - l.length = n + 1 := ⟨64 - l.length - 1, by omega⟩
 rw [hn, List.replicate_succ, List.set_cons_zero, List.append_assoc]
 congr 3
 simp; omega
theorem padW_get {l : List UInt32} {j : Nat} (h : j < l.length) : (padW l).getD j 0 = l.getD j 0 := by
 simp [padW, List.getD, List.getElem?_append_left h]
theorem padW_full {l : List UInt32} (h : 64 ≤ l.length) : padW l = l := by simp [padW, show 64 - l.length = 0 by omega]
theorem sch_first {b : List UInt8} {i : Nat} (h : i < 16) {v : UInt32} (hv : v = wordB b i) : (padW (sch b i)).set i v = padW (sch b (i + 1)) := by
 rw [padW_set (sch_length b i) (by omega), hv]; simp [sch, h]
theorem sch_next {b : List UInt8} {i : Nat} (h1 : 16 ≤ i) (h : i < 64) {v : UInt32} (hv : v = nextW (padW (sch b i)) i) : (padW (sch b i)).set i v = padW (sch b (i + 1)) := by
 have e : ∀ j, 1 ≤ j → j ≤ 16 → (padW (sch b i)).getD (i - j) 0 = (sch b i).getD (i - j) 0 := fun j a c => padW_get (by rw [sch_length]; omega)
 rw [padW_set (sch_length b i) h, hv]
 have : nextW (padW (sch b i)) i = nextW (sch b i) i := by unfold nextW; rw [e 16 (by omega) (by omega), e 7 (by omega) (by omega), e 15 (by omega) (by omega), e 2 (by omega) (by omega)]
 rw [this]; simp [sch, show ¬ i < 16 by omega]
def shaK : List UInt32 := [1116352408, 1899447441, 3049323471, 3921009573, 961987163, 1508970993, 2453635748, 2870763221, 3624381080, 310598401, 607225278, 1426881987, 1925078388, 2162078206, 2614888103, 3248222580, 3835390401, 4022224774, 264347078, 604807628, 770255983, 1249150122, 1555081692, 1996064986, 2554220882, 2821834349, 2952996808, 3210313671, 3336571891, 3584528711, 113926993, 338241895, 666307205, 773529912, 1294757372, 1396182291, 1695183700, 1986661051, 2177026350, 2456956037, 2730485921, 2820302411, 3259730800, 3345764771, 3516065817, 3600352804, 4094571909, 275423344, 430227734, 506948616, 659060556, 883997877, 958139571, 1322822218, 1537002063, 1747873779, 1955562222, 2024104815, 2227730452, 2361852424, 2428436474, 2756734187, 3204031479, 3329325298]
def shaH : List UInt32 := [1779033703, 3144134277, 1013904242, 2773480762, 1359893119, 2600822924, 528734635, 1541459225]
def rndT (a : List UInt32) (k w : UInt32) : UInt32 := (((a.getD 7 0 + ((rotl (a.getD 4 0) (-6) ^^^ rotl (a.getD 4 0) (-11)) ^^^ rotl (a.getD 4 0) (-25))) + ((a.getD 4 0 &&& a.getD 5 0) ^^^ (~~~ (a.getD 4 0) &&& a.getD 6 0))) + k) + w
def rndU (a : List UInt32) : UInt32 := ((rotl (a.getD 0 0) (-2) ^^^ rotl (a.getD 0 0) (-13)) ^^^ rotl (a.getD 0 0) (-22)) + (((a.getD 0 0 &&& a.getD 1 0) ^^^ (a.getD 0 0 &&& a.getD 2 0)) ^^^ (a.getD 1 0 &&& a.getD 2 0))
def rnd (a : List UInt32) (k w : UInt32) : List UInt32 := ((a.take 1 ++ a.take 7).set 4 ((a.take 1 ++ a.take 7).getD 4 0 + rndT a k w)).set 0 (rndT a k w + rndU a)
def rnds (b : List UInt8) (t : List UInt32) : Nat → List UInt32
 | 0 => t
 | n + 1 => rnd (rnds b t n) (shaK.getD n 0) ((sch b 64).getD n 0)
theorem rnds_zero (b : List UInt8) (t : List UInt32) : t = rnds b t 0 := rfl
theorem rnd_length {a : List UInt32} {k w : UInt32} (h : a.length = 8) : (rnd a k w).length = 8 := by simp [rnd, h]
theorem rnds_length {b : List UInt8} {t : List UInt32} (h : t.length = 8) : ∀ n, (rnds b t n).length = 8
 | 0 => h
 | n + 1 => rnd_length (rnds_length h n)
def addUp (t v : List UInt32) : Nat → List UInt32
 | 0 => t
 | n + 1 => (addUp t v n).set n ((addUp t v n).getD n 0 + v.getD n 0)
theorem addUp_length (t v : List UInt32) : ∀ n, (addUp t v n).length = t.length
 | 0 => rfl
 | n + 1 => by simp [addUp, addUp_length t v n]
theorem addUp_zero (t v : List UInt32) : t = addUp t v 0 := rfl
theorem addUp_succ (t v : List UInt32) (n : Nat) : (addUp t v n).set n ((addUp t v n).getD n 0 + v.getD n 0) = addUp t v (n + 1) := rfl
def shaB (t : List UInt32) (b : List UInt8) : List UInt32 := addUp t (rnds b t 64) 8
theorem shaB_length {t : List UInt32} {b : List UInt8} (h : t.length = 8) : (shaB t b).length = 8 := by rw [shaB, addUp_length, h]
theorem rnds_step {b : List UInt8} {t : List UInt32} {i n : Nat} (hn : 64 ≤ n) (h : i < 64) (hn2 : n ≤ 64) : rnds b t (i + 1) = rnd (rnds b t i) (shaK.getD i 0) ((padW (sch b n)).getD i 0) := by
 obtain rfl : n = 64 := by omega
 rw [padW_full (by rw [sch_length]; omega)]; rfl
end Go.Proofs.Ytgfomedobfaidaa
end
section
set_option linter.unusedVariables false
set_option linter.unusedSimpArgs false
namespace Go.Proofs.Ytgfomedobfaidaa
open Go.RowKit
def AppO (lab : Lab) (w : World) (d : Nat) (t : TypeId) (v : Value) (cs : List Value) : Prop :=
 (v = .slice none 0 0 ∧ cs = []) ∨ ∃ b o c arr, v = .slice (some ⟨b, o, none⟩) cs.length c ∧ Own lab w d b t arr ∧ cs.length ≤ c ∧ c ≤ 9223372036854775807 ∧ o + c ≤ arr.size ∧ (arr.toList.drop o).take cs.length = cs
section
variable {ds : List Deferred} {P : Program} {N : Nat} {ops : Array Oper} {Q : Exit → Act → World → Prop} {l : List (Nat × Value)} {rest : List Oper} {w : World} {lab : Lab} {ty : TypeId} {pos : String} {af : Array Edge}
theorem AppO.nil {d : Nat} {t : TypeId} : AppO lab w d t (.slice none 0 0) [] := .inl ⟨rfl, rfl⟩
theorem AppO.up {T : List Nat} {lab' : Lab} {w' : World} {d : Nat} {t : TypeId} {v : Value} {cs : List Value} (h : AppO lab w d t v cs) (s : Stp T lab w lab' w') (hd : d ∉ T := by decide) : AppO lab' w' d t v cs := by
 rcases h with h | ⟨b, o, c, arr, h1, h2, h3⟩
 ·exact .inl h
 ·exact .inr ⟨b, o, c, arr, h1, h2.lift s hd, h3⟩
theorem AppO.shape {d : Nat} {t : TypeId} {v : Value} {cs : List Value} (h : AppO lab w d t v cs) : ∃ A c, v = .slice A cs.length c := by
 rcases h with ⟨h1, h2⟩ | ⟨b, o, c, arr, h1, _⟩
 ·subst h2; exact ⟨none, 0, h1⟩
 ·exact ⟨_, _, h1⟩
theorem AppO.shapeN {d n : Nat} {t : TypeId} {v : Value} {cs : List Value} (h : AppO lab w d t v cs) (e : cs.length = n) : ∃ A c, v = .slice A n c := e ▸ h.shape
theorem App.toO {d n : Nat} {t : TypeId} {v : Value} {cs : List Value} (h : App lab w d t v n cs) : AppO lab w d t v cs := by
 obtain ⟨⟨h1, h2⟩, h3⟩ := h
 rw [Nat.mul_one] at h1
 rcases h2 with ⟨h2, h0⟩ | ⟨g, cap, cur, h2, hg, hh, hnc, hcap, hsz, htk⟩
 ·subst h0; exact .inl ⟨h2, List.eq_nil_of_length_eq_zero h1⟩
 ·refine .inr ⟨g, 0, cap, cur, by rw [h2, h1], ⟨h3 g (by rw [h2]; rfl), hh⟩, by omega, by unfold maxLen at hcap; exact hcap, by rw [hsz]; omega, ?_⟩
  rw [List.drop_zero, h1]; rw [Nat.mul_one] at htk; exact htk
theorem AppO.cap {d n c : Nat} {t : TypeId} {A : Option Addr} {cs : List Value} (h : AppO lab w d t (.slice A n c) cs) : n = cs.length ∧ cs.length ≤ c ∧ c ≤ 9223372036854775807 := by
 rcases h with ⟨h1, h2⟩ | ⟨b, o, c, arr, h1, h2, h3, h4, _⟩
 ·cases h1; subst h2; exact ⟨rfl, by simp, by omega⟩
 ·cases h1; exact ⟨rfl, h3, h4⟩
theorem AppO.cells {d n c : Nat} {t : TypeId} {a : Addr} {cs : List Value} (h : AppO lab w d t (.slice (some a) n c) cs) : ∀ (j : Nat) (u : Value), cs[j]? = some u → w.cell? (a.add j) = some u := by
 rcases h with ⟨h1, h2⟩ | ⟨b, o, c, arr, h1, h2, h3, h4, h5, h6⟩
 ·cases h1
 ·cases h1
  intro j u hj
  rw [add_flat, h2.cell]
  have hjl : j < cs.length := (List.getElem?_eq_some_iff.1 hj).1
  rw [← h6, List.getElem?_take_of_lt hjl, List.getElem?_drop] at hj
  simpa using hj
theorem AppO.row {d n c : Nat} {t : TypeId} {A : Option Addr} {cs : List Value} (h : AppO lab w d t (.slice A n c) cs) : RowAt (labFree lab d) w A cs := by
 rcases h with ⟨h1, h2⟩ | ⟨b, o, c, arr, h1, h2, h3, h4, h5, h6⟩
 ·subst h2; exact RowAt.nil
 ·cases h1
  refine RowAt.release h2 o cs fun j v hj => ?_
  have hjl : j < cs.length := (List.getElem?_eq_some_iff.1 hj).1
  rw [← h6, List.getElem?_take_of_lt hjl, List.getElem?_drop] at hj
  simpa using hj
theorem AppO.bytes {d n c : Nat} {t : TypeId} {A : Option Addr} {bs : List UInt8} (h : AppO lab w d t (.slice A n c) (bs.map u8)) : BytesV bs (labFree lab d) w (.slice A n c) := by
 have h1 := h.cap
 rw [List.length_map] at h1
 exact ⟨A, c, by rw [h1.1], h1.2.1, h1.2.2, h.row⟩
theorem AppO.cast {α : Type} {f : α → Value} {d : Nat} {t : TypeId} {v : Value} {cs cs' : List α} (e : cs = cs') (h : AppO lab w d t v (cs.map f)) : AppO lab w d t v (cs'.map f) := e ▸ h
theorem AppO.drop {d n c : Nat} {t : TypeId} {A : Option Addr} {cs : List Value} (h : AppO lab w d t (.slice A n c) cs) (j : Nat) (hj : j ≤ n) : AppO lab w d t (.slice (if c = j then A else A.map (·.add (j * 1))) (n - j) (c - j)) (cs.drop j) := by
 rcases h with ⟨h1, h2⟩ | ⟨b, o, c, arr, h1, h2, h3, h4, h5, h6⟩
 ·cases h1; subst h2
  obtain rfl : j = 0 := by omega
  exact .inl ⟨by simp, by simp⟩
 ·cases h1
  by_cases hc : c = j
  ·subst hc
   refine .inr ⟨b, o, 0, arr, ?_, h2, ?_, by omega, by omega, ?_⟩
   ·rw [if_pos rfl, List.length_drop]; simp
   ·rw [List.length_drop]; omega
   ·rw [List.length_drop, show cs.length - c = 0 by omega, List.take_zero, List.drop_of_length_le (by omega)]
  ·refine .inr ⟨b, o + j, c - j, arr, ?_, h2, ?_, by omega, by omega, ?_⟩
   ·rw [if_neg hc, List.length_drop]; simp [add_flat]
   ·rw [List.length_drop]; omega
   ·rw [List.length_drop, ← List.drop_drop, ← List.drop_take]
    rw [h6]
theorem RowAt.cells_of {A : Option Addr} {ys : List Value} (hr : RowAt lab w A ys) : ∀ a, A = some a → ∀ (j : Nat) (u : Value), ys[j]? = some u → w.cell? (a.add j) = some u := fun a ha j u hu => by
 obtain ⟨b, o, hA, hc⟩ := hr.cell hu
 rw [ha] at hA; cases hA; rw [add_flat]; exact hc
theorem RowAt.none_of {A : Option Addr} {ys : List Value} (hr : RowAt lab w A ys) : A = none → ys = [] := fun h => by
 rcases hr with h0 | ⟨b, o, arr, t', fr, hA', _⟩
 ·exact h0
 ·rw [h] at hA'; cases hA'
theorem run_append_roomO {t ty' e : TypeId} {i : TypeInfo} (ht : P.underlying t = some (.slice e)) (hi : P.info? e = some i) (his : i.size = 1) {g o n cap : Nat} {cur : Array Value} (hg : w.heap[g]? = some (.cells cur e (0, 0))) {a : Addr} {m c : Nat} {news : List Value} (hl : news.length = m) (hnews : ∀ j u, news[j]? = some u → w.cell? (a.add j) = some u) (h1 : ∀ u ∈ news, u.oneCell' = true) (hroom : n + m ≤ cap) (hfit : o + n + m ≤ cur.size) :
  (Builtin.append_ #[t, t] ty' #[.slice (some ⟨g, o, none⟩) n cap, .slice (some a) m c]).run P w = .ok (.slice (some ⟨g, o, none⟩) (n + m) cap) (w.setRow g (cur.toList.take (o + n) ++ news ++ cur.toList.drop (o + n + m)).toArray) := by
 have hf := run_firstCells_some (P := P) w i.size m a m c news (by rw [his, Nat.mul_one]; exact hl) hnews
 have hst := run_storeCells_at P g (o + n) e news 0 cur w hg (by simp; omega) h1
 simp only [Nat.add_zero] at hst
 rw [hl] at hst
 rw [his] at hf
 simp [Builtin.append_, run_underlying ht, sizeOf, typeInfo, hi, Builtin.lenOf, hroom, hf, Addr.add_lit, his, hst]
theorem run_appendO {t ty' e : TypeId} {ag : Bool} {by_ : Nat} {z : Value} (ht : P.underlying t = some (.slice e)) (he : tyRow P e = some (ag, 1, some z, by_)) (hz : z.cells.size = 1) {d : Nat} {v : Value} {cs : List Value} (hv : Valid lab w) (h : AppO lab w d e v cs) {A : Option Addr} {m c : Nat} {ys : List Value} (hm : ys.length = m) (hr : ∀ a, A = some a → ∀ (j : Nat) (u : Value), ys[j]? = some u → w.cell? (a.add j) = some u) (hr0 : A = none → ys = []) (h1 : ∀ u ∈ ys, u.oneCell' = true) (hb : (cs.length + m) * by_ ≤ 140737488355328) (h63 : cs.length + m ≤ 9223372036854775807) :
  ∃ v' w' lab', (Builtin.append_ #[t, t] ty' #[v, .slice A m c]).run P w = .ok v' w' ∧ AppO lab' w' d e v' (cs ++ ys) ∧ Stp [d] lab w lab' w' ∧ Valid lab' w' := by
 obtain ⟨i, dd, hi, hu, _, his, hiz, hib⟩ := tyRow_info he
 rcases h with ⟨rfl, rfl⟩ | ⟨g, o, cap, cur, rfl, hO, h3, h4, h5, h6⟩
 ·cases A with
  | none =>
   have := hr0 rfl; subst this; simp at hm; subst hm
   exact ⟨_, w, lab, run_append_nil ht he (App.nil (lab := lab) (w := w) (d := d) (t := e)) c, AppO.nil, (Stp.refl _ _).more (by simp), hv⟩
  | some a =>
   obtain ⟨v', w', hrun, hown, hgr, _, hbl⟩ := run_append_own_at (P := P) w 0 t ty' e i z 1 by_ ht hi hiz his hib hz (by omega) (.slice none 0 0) 0 [] ⟨by simp, .inl ⟨rfl, rfl⟩⟩ a m c ys (by omega) (hr a rfl) h1 (by unfold maxLen; simp at h63; omega) (by simpa using hb) (Nat.zero_le _)
   have hA : App (if v'.ownBlock = none then lab else labNew lab w.heap.size d) w' d e v' (0 + m) ([] ++ ys) := by
    refine ⟨hown, fun k hk => ?_⟩
    rw [if_neg (by rw [hk]; simp)]
    rcases hbl with e2 | e2
    ·rw [e2] at hk; cases hk
    ·rw [e2] at hk; cases hk; simp [labNew]
   have hst : Stp [d] lab w (if v'.ownBlock = none then lab else labNew lab w.heap.size d) w' := by
    have hkeep : ∀ k, k < w.heap.size → w'.heap[k]? = w.heap[k]? := fun k hk => hgr.block k hk fun e1 => by cases e1
    refine ⟨hgr.os, hgr.tape, hgr.output, hgr.size, fun k hk e0 => ⟨?_, hkeep k hk⟩, fun k d' hk e0 hd => ⟨?_, hkeep k hk⟩⟩
    ·split
     ·exact e0
     ·unfold labNew; rw [if_neg (by omega)]; exact e0
    ·split
     ·exact e0
     ·unfold labNew; rw [if_neg (by omega)]; exact e0
   refine ⟨v', w', _, hrun, hA.toO, hst, fun k hk => ?_⟩
   split
   ·exact hv k (Nat.le_trans hgr.size hk)
   ·rename_i e1
    rcases hbl with e2 | e2
    ·exact absurd e2 e1
    ·have hlt : w.heap.size < w'.heap.size := by
      obtain ⟨_, hx⟩ := hown
      rcases hx with ⟨rfl, _⟩ | ⟨g, cap, cur, rfl, _, hh, _⟩
      ·simp [Value.ownBlock] at e2
      ·simp [Value.ownBlock] at e2; subst e2; exact block_lt hh
     unfold labNew; rw [if_neg (by omega)]; exact hv k (by omega)
 ·cases A with
  | none =>
   have := hr0 rfl; subst this; simp at hm; subst hm
   refine ⟨.slice (some ⟨g, o, none⟩) cs.length cap, w, lab, ?_, .inr ⟨g, o, cap, cur, by simp, hO, by simpa using h3, h4, h5, by simpa using h6⟩, (Stp.refl _ _).more (by simp), hv⟩
   simp [Builtin.append_, run_underlying ht, run_sizeOf' he, Builtin.lenOf, Builtin.firstCells, h3, storeCells]
  | some a =>
   by_cases hroom : cs.length + m ≤ cap
   ·have hrun := run_append_roomO (P := P) (ty' := ty') ht hi his hO.2 hm (hr a rfl) h1 hroom (o := o) (c := c) (by omega)
    refine ⟨_, _, lab, hrun, .inr ⟨g, o, cap, _, by rw [List.length_append, hm], hO.set _, by rw [List.length_append, hm]; exact hroom, h4, ?_, ?_⟩, Stp.set hO.1 _, hv.set _ _⟩
    ·simp only [List.size_toArray, List.length_append, List.length_take, List.length_drop, Array.length_toList]; omega
    ·have e1 : (cur.toList.take (o + cs.length)).drop o = cs := by
      rw [List.drop_take]
      have : o + cs.length - o = cs.length := by omega
      rw [this]; exact h6
     have hl1 : (cur.toList.take (o + cs.length)).length = o + cs.length := by rw [List.length_take]; have := Array.length_toList (xs := cur); omega
     rw [List.toList_toArray, List.append_assoc, List.drop_append_of_le_length (by omega), e1, ← List.append_assoc]
     exact List.take_left
   ·have holds : ∀ j u, cs[j]? = some u → w.cell? ((⟨g, o, none⟩ : Addr).add j) = some u := AppO.cells (d := d) (t := e) (n := cs.length) (c := cap) (lab := lab) (.inr ⟨g, o, cap, cur, rfl, hO, h3, h4, h5, h6⟩)
    have hr' := run_append_grow (P := P) w t ty' e i z ht hi hiz ⟨g, o, none⟩ cs.length cap cs (by rw [his]; omega) holds a m c ys (by rw [his]; omega) (hr a rfl) (by omega) (by omega) (growslice_fits (by omega) (by rw [hib]; exact hb))
    have hge := grownCap_ge w (cs.length + m) cap e
    have hcm := grownCap_le_maxLen w (cs.length + m) cap e (by unfold maxLen; omega)
    refine ⟨_, _, labNew lab w.heap.size d, hr', .inr ⟨w.heap.size, 0, _, _, by rw [List.length_append, hm], ⟨by simp [labNew], heap_alloc_at w.drew _⟩, ?_, by unfold maxLen at hcm; exact hcm, ?_, ?_⟩, ?_, ?_⟩
    ·rw [List.length_append, hm]; exact hge
    ·simp only [Array.size_append, List.size_toArray, size_zeroCells, hz, hm]; omega
    ·simp only [Array.toList_append, List.append_assoc, List.drop_zero]
     rw [← List.append_assoc]
     exact List.take_left
    ·exact (Stp.drew lab w).trans (Stp.alloc (w := w.drew) _ d) |>.more (by simp)
    ·exact (show Valid lab w.drew from hv).alloc _ d
theorem sappendO {d k : Nat} {t e : TypeId} {x y : Operand} {ag : Bool} {by_ : Nat} {z : Value} {v : Value} {cs : List Value} {A : Option Addr} {m c : Nat} (ys : List Value) (hv : Valid lab w) (h : AppO lab w k e v cs) (ht : P.underlying t = some (.slice e)) (he : tyRow P e = some (ag, 1, some z, by_)) (hz : z.cells.size = 1) (hx : ev l x = some v) (hy : ev l y = some (.slice A m c)) (hm : ys.length = m) (hr : RowAt lab w A ys) (h1 : ∀ u ∈ ys, u.oneCell' = true) (hb : (cs.length + m) * by_ ≤ 140737488355328) (h63 : cs.length + m ≤ 9223372036854775807)
  (hk : ∀ lab' w' v', AppO lab' w' k e v' (cs ++ ys) → Stp [k] lab w lab' w' → Valid lab' w' → Seq ds P N ops Q ((d, v') :: l) rest w') (hd : d < N := by decide) : Seq ds P N ops Q l (⟨some d, .call ⟨.builtin .append, #[x, y], #[t, t]⟩, ty, pos, af, none⟩ :: rest) w := by
 obtain ⟨v', w', lab', hrun, h1', h2', h3'⟩ := run_appendO (P := P) (ty' := ty) (A := A) (ys := ys) ht he hz hv h hm hr.cells_of hr.none_of h1 hb h63 (c := c)
 refine Seq.val (v := v') (w' := w') ?_ hd (hk lab' w' v' h1' h2' h3')
 intro ρ hρ d pos af g
 simp [execOp, resolve, invoke, builtin, hρ _ _ hx, hρ _ _ hy, hrun]
theorem AppO.cells_of {k2 m c : Nat} {e : TypeId} {A : Option Addr} {ys : List Value} (hr : AppO lab w k2 e (.slice A m c) ys) : ∀ a, A = some a → ∀ (j : Nat) (u : Value), ys[j]? = some u → w.cell? (a.add j) = some u := fun a ha j u hu => by subst ha; exact hr.cells j u hu
theorem AppO.none_of {k2 m c : Nat} {e : TypeId} {A : Option Addr} {ys : List Value} (hr : AppO lab w k2 e (.slice A m c) ys) : A = none → ys = [] := fun hA => by
 subst hA
 rcases hr with ⟨_, h0⟩ | ⟨b, o, c, arr, h0, _⟩
 ·exact h0
 ·cases h0
theorem append_lawO {k k2 : Nat} {t e : TypeId} {x y : Operand} {ag : Bool} {by_ : Nat} {z : Value} {v : Value} {cs : List Value} {A : Option Addr} {m c : Nat} {Ψ : VP} (ys : List Value) (hv : Valid lab w) (h : AppO lab w k e v cs) (ht : P.underlying t = some (.slice e)) (he : tyRow P e = some (ag, 1, some z, by_)) (hz : z.cells.size = 1) (hx : ev l x = some v) (hy : ev l y = some (.slice A m c)) (hr : AppO lab w k2 e (.slice A m c) ys) (h1 : ∀ u ∈ ys, u.oneCell' = true) (hb : (cs.length + m) * by_ ≤ 140737488355328) (h63 : cs.length + m ≤ 9223372036854775807)
  (hk : ∀ lab' w' v', AppO lab' w' k e v' (cs ++ ys) → Ψ lab' w' v') :
  ∃ v' lab' w', Does P l (.call ⟨.builtin .append, #[x, y], #[t, t]⟩) ty w v' w' ∧ Valid lab' w' ∧ Stp [k] lab w lab' w' ∧ Ψ lab' w' v' := by
 obtain ⟨v', w', lab', hrun, h1', h2', h3'⟩ := run_appendO (P := P) (ty' := ty) (A := A) (ys := ys) ht he hz hv h hr.cap.1.symm hr.cells_of hr.none_of h1 hb h63 (c := c)
 refine ⟨v', lab', w', ?_, h3', h2', hk _ _ _ h1'⟩
 intro ρ hρ d pos af g
 simp [execOp, resolve, invoke, builtin, hρ _ _ hx, hρ _ _ hy, hrun]
def AppOF (d : Nat) (t : TypeId) (cs : List Value) : VP := fun lab w v => AppO lab w d t v cs
theorem stay_appo {R : List RG} {j s k : Nat} {t : TypeId} {cs : List Value} {U : List Nat} {c : Option Nat} (hn : noneOf R j c k = true) : ∀ i, i ≠ j → (RG.mk s (.v (AppOF k t cs)) U c).c ≠ some i → ∀ {lab : Lab} {w : World} {lab' : Lab} {w' : World} {v : Value}, Stp (rgU R i) lab w lab' w' → (RG.mk s (.v (AppOF k t cs)) U c).p.vp lab w v → (RG.mk s (.v (AppOF k t cs)) U c).p.vp lab' w' v := fun i hi hc {_ _ _ _ _} st q => AppO.up q st (noneOf_spec hn i hi hc)
theorem build_empty_ex {k : Nat} {t e : TypeId} {ag : Bool} {by_ : Nat} {z : Option Value} (hv : Valid lab w) (ht : P.underlying t = some (.slice e)) (he : tyRow P e = some (ag, 1, z, by_)) :
  ∃ v lab' w', Does P l (.buildSlice t 0 #[]) ty w v w' ∧ Valid lab' w' ∧ Stp [] lab w lab' w' ∧ App lab' w' k e v 0 [] := by
 refine ⟨.slice (some ⟨w.heap.size, 0, none⟩) 0 0, labNew lab w.heap.size k, w.alloc (.cells #[] e), ?_, hv.alloc _ k, Stp.alloc _ k, ⟨by simp, .inr ⟨w.heap.size, 0, #[], rfl, Nat.zero_le _, heap_alloc_at w _, Nat.le_refl _, by unfold maxLen; omega, by simp, by simp⟩⟩, fun k' hk' => by simp [Value.ownBlock] at hk'; subst hk'; simp [labNew]⟩
 intro ρ hρ d pos af g
 simp only [execOp, Instr.buildSlice, Sem.run_bind, run_underlying ht, Result.andThen_ok, run_sizeOf' he]
 simp [Instr.fill, newRow, show Array.range 0 = (#[] : Array Nat) from rfl]
 all_goals rfl
theorem run_copy_none {dT sT ty' e : TypeId} {g o n c c' : Nat} (hu : P.underlying dT = some (.slice e)) (hs : (P.info? e).map (·.size) = some 1) : (Builtin.copy_ #[dT, sT] ty' #[.slice (some ⟨g, o, none⟩) n c, .slice none 0 c']).run P w = .ok (goInt 0) w := by
 cases hq : P.info? e with
 | none => simp [hq] at hs
 | some i =>
  have hi : i.size = 1 := by simpa [hq] using hs
  simp [Builtin.copy_, run_underlying hu, Builtin.lenOf, Builtin.firstCells, sizeOf, typeInfo, hq, hi, storeCells]
theorem scopyRow {α : Type} (f : α → Value) {d k b m n c c' : Nat} {t1 t2 e t' : TypeId} {x y : Operand} {by_ : Nat} {z : Option Value} {ag : Bool} {A : Option Addr} {xs : List α} (ys : List α) (hv : Valid lab w) (hO : Own lab w k b t' (xs.map f).toArray) (ht : P.underlying t1 = some (.slice e)) (he : tyRow P e = some (ag, 1, z, by_)) (hx : ev l x = some (.slice (some ⟨b, 0, none⟩) n c)) (hy : ev l y = some (.slice A m c')) (hr : RowAt lab w A (ys.map f)) (hm : ys.length = m) (hmn : m ≤ n) (hn : n = xs.length) (h1 : ∀ u ∈ ys.map f, u.oneCell' = true)
  (h : ∀ w', Own lab w' k b t' ((ys ++ xs.drop m).map f).toArray → Stp [k] lab w lab w' → Valid lab w' → Seq ds P N ops Q ((d, i64 (m : Int)) :: l) rest w') (hd : d < N := by decide) : Seq ds P N ops Q l (⟨some d, .call ⟨.builtin .copy, #[x, y], #[t1, t2]⟩, ty, pos, af, none⟩ :: rest) w := by
 have hinfo : (P.info? e).map (·.size) = some 1 := by obtain ⟨i, _, hi, _, _, his, _⟩ := tyRow_info he; rw [hi]; simp [his]
 cases A with
 | none =>
  have h0 := hr.none_of rfl
  have hys : ys = [] := by simpa using h0
  subst hys
  simp at hm; subst hm
  refine sv (w' := w) ?_ (h _ (by simpa using hO) ((Stp.refl _ _).more (by simp)) hv) hd
  intro ρ hρ d pos af g
  simp [execOp, resolve, invoke, builtin, hρ _ _ hx, hρ _ _ hy, run_copy_none ht hinfo, goInt]
 | some a =>
  have hlen : (ys.map f).length = m := by simp [hm]
  have hrun := run_copy_row (P := P) w t1 t2 ty e b 0 n c a m c' (xs.map f).toArray t' (ys.map f) ht hinfo hO.2 (by rw [hlen]; exact (Nat.min_eq_left hmn).symm) (hr.cells_of a rfl) (by rw [hlen]; simp; omega) h1
  have earr : ((xs.map f).toArray.toList.take 0 ++ ys.map f ++ (xs.map f).toArray.toList.drop (0 + (ys.map f).length)).toArray = ((ys ++ xs.drop m).map f).toArray := by
   rw [hlen, List.toList_toArray, List.take_zero, List.nil_append, Nat.zero_add, List.map_append, List.map_drop]
  rw [earr, hlen] at hrun
  refine sv (w' := w.setRow b ((ys ++ xs.drop m).map f).toArray) ?_ (h _ (hO.set _) (Stp.set hO.1 _) (hv.set _ _)) hd
  intro ρ hρ d pos af g
  simp [execOp, resolve, invoke, builtin, hρ _ _ hx, hρ _ _ hy, hrun, goInt]
theorem BytesV.takeM {ws : List UInt8} {A : Option Addr} {n c : Nat} (h : BytesV ws lab w (.slice A n c)) (j j2 : Nat) (hj : j ≤ n) (hjj : j ≤ j2) (hc : j2 ≤ c) : BytesV (ws.take j) lab w (.slice A j j2) := by
 have h1 := h.cap
 have h2 := h.row.take j
 have e : (ws.take j).length = j := by rw [List.length_take]; omega
 exact ⟨A, j2, by rw [e], by rw [e]; omega, by omega, by rw [List.map_take]; exact h2⟩
theorem Does.slice_him {t e : TypeId} {x y y2 : Operand} {k k2 : IntKind} {i i2 : Int} {A : Option Addr} {n c : Nat} {ag : Bool} {s by_ : Nat} {z : Option Value} (j j2 : Nat) (ht : P.underlying t = some (.slice e)) (he : tyRow P e = some (ag, s, z, by_)) (hx : ev l x = some (.slice A n c)) (hy : ev l y = some (.int k i)) (hy2 : ev l y2 = some (.int k2 i2)) (hij : i = (j : Int)) (hij2 : i2 = (j2 : Int)) (hj : j ≤ j2) (hj2 : j2 ≤ c) :
  Does P l (.slice t x none (some y) (some y2)) ty w (.slice A j j2) w := by
 intro ρ hρ d pos af g
 have hA : (if j2 = 0 then A else A.map (·.add (0 * s))) = A := by
  split
  ·rfl
  ·cases A with
   | none => rfl
   | some a => simp [Addr.add]
 simp only [execOp, hρ _ _ hx, Option.map_some, Option.map_none, hρ _ _ hy, hρ _ _ hy2, Instr.sliceAt, Sem.run_bind, run_underlying ht, Result.andThen_ok, Instr.slice, Instr.sliceBounds, sliceBound_ok j2 hij2 hj2, sliceBound_ok j hij hj, Sem.run_pure, run_sizeOf' he, if_true, Nat.sub_zero, hA]
def reown (lab : Lab) (e sz : Nat) (lab2 : Lab) : Lab := fun k => if k < sz ∧ lab k = some e then some e else lab2 k
theorem Calls.lend {f : Nat} {vs : Array Value} {T : List Nat} {R R' : VP} (e : Nat) (he : e ∉ T) (h : Calls P f vs w (Eff T (labFree lab e) w R))
  (hR : ∀ lab2 lab3 w' v, (∀ k d, lab2 k = some d → lab3 k = some d) → R lab2 w' v → R' lab3 w' v) : Calls P f vs w (Eff T lab w R') := by
 refine Calls.mono h ?_
 rintro E w' ⟨v, lab2, rfl, hr, s, hv⟩
 refine ⟨v, reown lab e w.heap.size lab2, rfl, hR _ _ _ _ (fun k d hk => ?_) hr, ⟨s.os, s.tape, s.output, s.size, fun k hk e0 => ?_, fun k d hk e0 hd => ?_⟩, fun k hk => ?_⟩
 ·unfold reown
  split
  ·rename_i hc
   have := (s.free k hc.1 (by unfold labFree; rw [if_pos hc.2])).1
   rw [this] at hk; cases hk
  ·exact hk
 ·have h0 := s.free k hk (by unfold labFree; split <;> simp_all)
  refine ⟨?_, h0.2⟩
  unfold reown; rw [if_neg (by rw [e0]; simp)]; exact h0.1
 ·by_cases hde : d = e
  ·subst hde
   have h0 := s.free k hk (by unfold labFree; rw [if_pos e0])
   exact ⟨by unfold reown; rw [if_pos ⟨hk, e0⟩], h0.2⟩
  ·have h0 := s.own k d hk (by unfold labFree; rw [if_neg (by rw [e0]; simp; exact hde)]; exact e0) hd
   refine ⟨?_, h0.2⟩
   unfold reown; rw [if_neg (by rw [e0]; simp; exact fun _ => hde)]; exact h0.1
 ·unfold reown; rw [if_neg (by have := s.size; omega)]; exact hv k hk
theorem Calls.lendIs {f : Nat} {vs : Array Value} {T : List Nat} {u : Value} {d b : Nat} {t : TypeId} {arr : Array Value} (e : Nat) (he : e ∉ T) (h : Calls P f vs w (Eff T (labFree lab e) w (With (Is u) (fun lab' w' => Own lab' w' d b t arr)))) : Calls P f vs w (Eff T lab w (With (Is u) (fun lab' w' => Own lab' w' d b t arr))) :=
 Calls.lend e he h fun lab2 lab3 w' v hl h9 => ⟨h9.1, hl _ _ h9.2.1, h9.2.2⟩
theorem Own.lent {e d b : Nat} {t : TypeId} {arr : Array Value} (h : Own lab w d b t arr) (hd : d ≠ e := by decide) : Own (labFree lab e) w d b t arr := ⟨by unfold labFree; rw [if_neg (by rw [h.1]; simpa using hd)]; exact h.1, h.2⟩
theorem AppO.lent {e d : Nat} {t : TypeId} {v : Value} {cs : List Value} (h : AppO lab w d t v cs) (hd : d ≠ e := by decide) : AppO (labFree lab e) w d t v cs := by
 rcases h with h | ⟨b, o, c, arr, h1, h2, h3⟩
 ·exact .inl h
 ·exact .inr ⟨b, o, c, arr, h1, h2.lent hd, h3⟩
theorem up_free {V : VP} [Per V] (e : Nat) {v : Value} (q : V lab w v) : V (labFree lab e) w v := up (Stp.release e) q
end
def shaSt (t : List UInt32) (s : List UInt8) : Nat → List UInt32
 | 0 => t
 | n + 1 => shaB (shaSt t s n) ((s.drop (64 * n)).take 64)
def stOf (s : List UInt8) : List UInt32 := shaSt shaH s (s.length / 64)
def restOf (s : List UInt8) : List UInt8 := s.drop (64 * (s.length / 64))
theorem shaSt_length {t : List UInt32} {s : List UInt8} (h : t.length = 8) : ∀ n, (shaSt t s n).length = 8
 | 0 => h
 | n + 1 => shaB_length (shaSt_length h n)
theorem stOf_length (s : List UInt8) : (stOf s).length = 8 := shaSt_length rfl _
theorem restOf_length (s : List UInt8) : (restOf s).length = s.length % 64 := by unfold restOf; rw [List.length_drop]; omega
theorem shaSt_append {t : List UInt32} (s b : List UInt8) : ∀ n, 64 * n ≤ s.length → shaSt t (s ++ b) n = shaSt t s n
 | 0, _ => rfl
 | n + 1, h => by
  rw [shaSt, shaSt, shaSt_append s b n (by omega), List.drop_append_of_le_length (by omega), List.take_append_of_le_length (by rw [List.length_drop]; omega)]
theorem shaSt_add {t : List UInt32} {s : List UInt8} (m : Nat) : ∀ n, shaSt t s (m + n) = shaSt (shaSt t s m) (s.drop (64 * m)) n
 | 0 => rfl
 | n + 1 => by
  rw [← Nat.add_assoc, shaSt, shaSt, shaSt_add m n, List.drop_drop, Nat.mul_add]
theorem sha_state (s b : List UInt8) : shaSt (stOf s) (restOf s ++ b) ((restOf s ++ b).length / 64) = stOf (s ++ b) := by
 unfold stOf restOf
 have h1 : 64 * (s.length / 64) ≤ s.length := by omega
 rw [← List.drop_append_of_le_length h1, ← shaSt_append s b _ h1, ← shaSt_add, List.length_drop]
 congr 1
 have := (List.length_append : (s ++ b).length = _)
 omega
theorem sha_rest (s b : List UInt8) : (restOf s ++ b).drop (64 * ((restOf s ++ b).length / 64)) = restOf (s ++ b) := by
 unfold restOf
 have h1 : 64 * (s.length / 64) ≤ s.length := by omega
 rw [← List.drop_append_of_le_length h1, List.drop_drop, List.length_drop]
 congr 1
 have := (List.length_append : (s ++ b).length = _)
 omega
theorem sha_stateK {s b : List UInt8} {k : Nat} (hk : k = (restOf s ++ b).length / 64) : shaSt (stOf s) (restOf s ++ b) k = stOf (s ++ b) := by rw [hk]; exact sha_state s b
theorem sha_restK {s b : List UInt8} {k : Nat} (hk : k = (restOf s ++ b).length / 64) : (restOf s ++ b).drop (64 * k) = restOf (s ++ b) := by rw [hk]; exact sha_rest s b
theorem shaSt_step {t x : List UInt32} {s b : List UInt8} {k : Nat} (hx : shaSt t s k = x) (hb : b = (s.drop (64 * k)).take 64) : shaB x b = shaSt t s (k + 1) := by subst hx; subst hb; rfl
def shaPad (n : Nat) : List UInt8 := 128 :: List.replicate ((119 - n % 64) % 64) 0 ++ (List.range 8).map fun i => UInt8.ofNat (n * 8 / 256 ^ (7 - i))
def lenB (n k : Nat) : List UInt8 := (List.range k).map fun i => UInt8.ofNat (n * 8 / 256 ^ (7 - i))
theorem lenB_step {n k : Nat} {j : Int} (h : k < 8) (hj : j = 8 * (7 - (k : Int))) : lenB n k ++ [UInt8.ofNat (n * 8 / 2 ^ j.toNat)] = lenB n (k + 1) := by
 unfold lenB
 rw [List.range_succ, List.map_append]
 congr 2
 subst hj
 rw [show (8 * (7 - (k : Int))).toNat = 8 * (7 - k) by omega, Nat.pow_mul]
theorem lenB_length (n k : Nat) : (lenB n k).length = k := by simp [lenB]
theorem shaPad_eq {n m : Nat} (hm : m = (119 - n % 64) % 64 + 1) : (List.replicate m (0 : UInt8)).set 0 128 ++ lenB n 8 = shaPad n := by
 subst hm
 rw [List.replicate_succ, List.set_cons_zero]; rfl
def wbytes : List UInt32 → List UInt8
 | [] => []
 | x :: r => (x >>> UInt32.ofNat 24).toUInt8 :: (x >>> UInt32.ofNat 16).toUInt8 :: (x >>> UInt32.ofNat 8).toUInt8 :: x.toUInt8 :: wbytes r
theorem wbytes_append : ∀ a b : List UInt32, wbytes (a ++ b) = wbytes a ++ wbytes b
 | [], b => rfl
 | x :: a, b => by simp [wbytes, wbytes_append a b]
theorem wbytes_snoc (a : List UInt32) (x : UInt32) : wbytes a ++ [(x >>> UInt32.ofNat 24).toUInt8, (x >>> UInt32.ofNat 16).toUInt8, (x >>> UInt32.ofNat 8).toUInt8, x.toUInt8] = wbytes (a ++ [x]) := by rw [wbytes_append]; rfl
theorem wbytes_step {a : List UInt32} {i : Nat} (h : i < a.length) : wbytes (a.take i) ++ [((a.getD i 0) >>> UInt32.ofNat 24).toUInt8, ((a.getD i 0) >>> UInt32.ofNat 16).toUInt8, ((a.getD i 0) >>> UInt32.ofNat 8).toUInt8, (a.getD i 0).toUInt8] = wbytes (a.take (i + 1)) := by
 rw [wbytes_snoc]; congr 1; rw [List.take_succ_eq_append_getElem h]; simp [List.getD, List.getElem?_eq_getElem h]
theorem wbytes_length : ∀ a : List UInt32, (wbytes a).length = 4 * a.length
 | [] => rfl
 | x :: a => by simp [wbytes, wbytes_length a]; omega
def sha256 (s : List UInt8) : List UInt8 := wbytes (stOf (s ++ shaPad s.length))
theorem sha256_length (s : List UInt8) : (sha256 s).length = 32 := by rw [sha256, wbytes_length, stOf_length]
theorem eightL {α : Type} {l : List α} (h : l.length = 8) : ∃ a0 a1 a2 a3 a4 a5 a6 a7, l = [a0, a1, a2, a3, a4, a5, a6, a7] := by
 match l, h with
 | [a0, a1, a2, a3, a4, a5, a6, a7], _ => exact ⟨a0, a1, a2, a3, a4, a5, a6, a7, rfl⟩
def HashM (lab : Lab) (w : World) (d e b : Nat) (t : List UInt32) (xs : List UInt8) (n : Int) : Prop := ∃ v, Own lab w d b 226 (List.map u32 t ++ [v, i64 n]).toArray ∧ AppO lab w e 5 v (List.map u8 xs)
def HashO (lab : Lab) (w : World) (d e b : Nat) (s : List UInt8) : Prop := HashM lab w d e b (stOf s) (restOf s) ((s.length : Nat) : Int)
section
variable {w : World} {lab : Lab}
theorem HashM.up {T : List Nat} {lab' : Lab} {w' : World} {d e b : Nat} {t : List UInt32} {xs : List UInt8} {n : Int} (h : HashM lab w d e b t xs n) (st : Stp T lab w lab' w') (hd : d ∉ T := by decide) (he : e ∉ T := by decide) : HashM lab' w' d e b t xs n := by
 obtain ⟨v, h1, h2⟩ := h
 exact ⟨v, h1.up st hd, h2.up st he⟩
theorem HashO.up {T : List Nat} {lab' : Lab} {w' : World} {d e b : Nat} {s : List UInt8} (h : HashO lab w d e b s) (st : Stp T lab w lab' w') (hd : d ∉ T := by decide) (he : e ∉ T := by decide) : HashO lab' w' d e b s := HashM.up h st hd he
theorem HashM.open {d e b : Nat} {t : List UInt32} {xs : List UInt8} {n : Int} (h : HashM lab w d e b t xs n) (ht : t.length = 8) : ∃ x0 x1 x2 x3 x4 x5 x6 x7 A c, t = [x0, x1, x2, x3, x4, x5, x6, x7] ∧ Own lab w d b 226 #[u32 x0, u32 x1, u32 x2, u32 x3, u32 x4, u32 x5, u32 x6, u32 x7, .slice A xs.length c, i64 n] ∧ AppO lab w e 5 (.slice A xs.length c) (List.map u8 xs) ∧ xs.length ≤ c ∧ c ≤ 9223372036854775807 := by
 obtain ⟨v, h1, h2⟩ := h
 obtain ⟨A, c, rfl⟩ := h2.shapeN (n := xs.length) (by simp)
 obtain ⟨x0, x1, x2, x3, x4, x5, x6, x7, hx⟩ := eightL ht
 rw [hx] at h1
 exact ⟨x0, x1, x2, x3, x4, x5, x6, x7, A, c, hx, h1, h2, by simpa using h2.cap.2.1, h2.cap.2.2⟩
theorem HashO.open {d e b : Nat} {s : List UInt8} (h : HashO lab w d e b s) : ∃ x0 x1 x2 x3 x4 x5 x6 x7 A c, stOf s = [x0, x1, x2, x3, x4, x5, x6, x7] ∧ Own lab w d b 226 #[u32 x0, u32 x1, u32 x2, u32 x3, u32 x4, u32 x5, u32 x6, u32 x7, .slice A (restOf s).length c, i64 ((s.length : Nat) : Int)] ∧ AppO lab w e 5 (.slice A (restOf s).length c) (List.map u8 (restOf s)) ∧ (restOf s).length ≤ c ∧ c ≤ 9223372036854775807 := HashM.open h (stOf_length s)
theorem HashM.mk {d e b : Nat} {x0 x1 x2 x3 x4 x5 x6 x7 : UInt32} {v : Value} {n n' : Int} {xs xs' : List UInt8} {t : List UInt32} (h1 : Own lab w d b 226 #[u32 x0, u32 x1, u32 x2, u32 x3, u32 x4, u32 x5, u32 x6, u32 x7, v, i64 n]) (h2 : AppO lab w e 5 v (List.map u8 xs)) (hs : [x0, x1, x2, x3, x4, x5, x6, x7] = t) (hx : xs = xs') (hn : n = n') : HashM lab w d e b t xs' n' := by
 subst hn; subst hx
 exact ⟨v, by rw [← hs]; exact h1, h2⟩
theorem HashO.mk {d e b : Nat} {s : List UInt8} {x0 x1 x2 x3 x4 x5 x6 x7 : UInt32} {v : Value} {n : Int} {xs : List UInt8} (h1 : Own lab w d b 226 #[u32 x0, u32 x1, u32 x2, u32 x3, u32 x4, u32 x5, u32 x6, u32 x7, v, i64 n]) (h2 : AppO lab w e 5 v (List.map u8 xs)) (hs : [x0, x1, x2, x3, x4, x5, x6, x7] = stOf s) (hx : xs = restOf s) (hn : n = ((s.length : Nat) : Int)) : HashO lab w d e b s := HashM.mk h1 h2 hs hx hn
theorem HashO.cast {d e b : Nat} {s s' : List UInt8} (e0 : s = s') (h : HashO lab w d e b s) : HashO lab w d e b s' := e0 ▸ h
theorem AppO.relab {lab2 : Lab} {d c : Nat} {t : TypeId} {v : Value} {cs : List Value} (h : AppO lab w d t v cs) (hl : ∀ k, lab k = some d → lab2 k = some c) : AppO lab2 w c t v cs := by
 rcases h with h | ⟨b, o, c', arr, h1, h2, h3⟩
 ·exact .inl h
 ·exact .inr ⟨b, o, c', arr, h1, ⟨hl _ h2.1, h2.2⟩, h3⟩
theorem HashO.relab {lab2 : Lab} {d e d2 e2 b : Nat} {s : List UInt8} (h : HashO lab w d e b s) (hd : ∀ k, lab k = some d → lab2 k = some d2) (he : ∀ k, lab k = some e → lab2 k = some e2) : HashO lab2 w d2 e2 b s := by
 obtain ⟨v, h1, h2⟩ := h
 exact ⟨v, ⟨hd _ h1.1, h1.2⟩, h2.relab he⟩
theorem HashO.back {lab2 : Lab} {d e b : Nat} {bk : List (Nat × Nat)} {s : List UInt8} (h : HashO lab w d e b s) (B : Back lab w lab2 bk) (d2 e2 : Nat) (hd : look d bk = d2) (he : look e bk = e2) (h0 : d ≠ 0) (h1 : e ≠ 0) (hk : d ∈ keys bk) (hk1 : e ∈ keys bk) : HashO lab2 w d2 e2 b s :=
 h.relab (fun k e => hd ▸ B.l d k h0 hk e) (fun k e' => he ▸ B.l e k h1 hk1 e')
theorem look2 {d e a b : Nat} (h : e ≠ d) : look e [(d, a), (e, b)] = b := by
 have : Nat.beq d e = false := by
  cases hb : Nat.beq d e with
  | false => rfl
  | true => exact absurd (Nat.eq_of_beq_eq_true hb).symm h
 simp [look, this]
theorem AppO.bytesTake {d n c : Nat} {t : TypeId} {A : Option Addr} {bs : List UInt8} (h : AppO lab w d t (.slice A n c) (bs.map u8)) (j : Nat) (hj : j ≤ bs.length) : BytesV (bs.take j) (labFree lab d) w (.slice A j c) := by
 have := h.bytes
 have h1 := this.cap
 exact this.takeN j (by omega)
theorem AppO.drop' {d n c : Nat} {t : TypeId} {A : Option Addr} {bs : List UInt8} (h : AppO lab w d t (.slice A n c) (bs.map u8)) (j : Nat) (hj : j ≤ n) : AppO lab w d t (.slice (if c = j then A else A.map (·.add (j * 1))) (n - j) (c - j)) ((bs.drop j).map u8) := by
 rw [List.map_drop]; exact h.drop j hj
def HashF (d e : Nat) (s : List UInt8) : VP := fun lab w v => ∃ b, v = .pointer (some ⟨b, 0, none⟩) ∧ HashO lab w d e b s
instance (d e : Nat) (s : List UInt8) : PerT [] (HashF d e s) := ⟨fun s ⟨b, h1, h2⟩ => ⟨b, h1, h2.up s (by simp) (by simp)⟩⟩
theorem enterH {w : World} {lab : Lab} (ds : List (Nat × Nat)) (hv : Valid lab w) : ∃ L, Valid L w ∧ (∃ U, Stp U lab w L w) ∧ (∀ {d : Nat} (c : Nat), look d ds = c → ∀ k, lab k = some d → L k = some c) ∧
  ∀ {T : List Nat} {lab' : Lab} {w' : World} (bk : List (Nat × Nat)), Stp T L w lab' w' → (0 : Nat) ∉ T → Valid lab' w' → ∃ lab2, Stp (keys ds) lab w lab2 w' ∧ Back lab' w' lab2 bk :=
 ⟨entM ds lab, hv.entM, entM_step ds lab w, fun c hc k e => by unfold entM; rw [e]; exact congrArg some hc, fun bk s hT hv' => leaveM bk s hT hv hv'⟩
theorem Own.app {d b n : Nat} {t : TypeId} {cs : List Value} (h : Own lab w d b t cs.toArray) (hn : cs.length = n) (hc : n ≤ 9223372036854775807) : App lab w d t (.slice (some ⟨b, 0, none⟩) n n) n cs :=
 ⟨⟨by omega, .inr ⟨b, n, cs.toArray, rfl, Nat.zero_le _, h.2, Nat.le_refl _, by unfold maxLen; omega, by simp [hn], by simp [← hn]⟩⟩, fun k hk => by simp [Value.ownBlock] at hk; subst hk; exact h.1⟩
end
end Go.Proofs.Ytgfomedobfaidaa
end
