/-
  The walks of some functions: what each call comes to.
-/
import Derived.Test.YtgfomedobfaidaaWof
import Derived.Test.YtgfomedobfaidaaFew
import Derived.Test.YtgfomedobfaidaaUsed
import Derived.Test.YtgfomedobfaidaaLives2
set_option linter.unusedVariables false
set_option linter.unusedSimpArgs false
set_option maxRecDepth 100000
namespace Go.Proofs.Ytgfomedobfaidaa
open Go.RowKit

theorem WireEntries_walk {lab : Lab} {w : World} (hv : Valid lab w) {pl : PlainD} {v0 : Value} (h0 : PlainV pl lab w v0) :
    Calls Try.prog 4 #[v0] w (fun e w' => ∃ v, e = .returned v ∧ (Is (.bool true)) lab w' v ∧ Below w.heap.size w w') := by
  obtain ⟨L0, h0L, ⟨zU0, z00⟩, hX⟩ := enter0 hv
  replace h0 := up z00 h0
  obtain ⟨A1, c2, A4, c5, A7, c8, rfl, q3, q6, q9⟩ := PlainV.open h0
  have z10 := RowsV.cap q3
  have z11 := RowsV.cap q6
  have z12 := BytesV.cap q9
  refine calls_run Try.func4 rfl Try.ntmps4 (Nat.le_of_ble_eq_true rfl) ?_
  refine rsr ?_
  refine sbox 2 [i64 pl.kind, i64 pl.author, i64 pl.epoch, i64 pl.mode, i64 pl.peer, i64 pl.phase, .slice A1 (List.length pl.nums) c2, .slice A4 (List.length pl.texts) c5, .slice A7 (List.length pl.proof) c8] h0L rfl rfl fun b15 L13 w14 o16 s17 h18 => ?_
  refine sv (Does.assign rfl) ?_
  refine Seq.next ?_
  refine Run.seq ?_
  refine rsr ?_
  refine scall (V := Is (.bool true)) cal19 h18 rfl (law17_lives2 h18 ) fun v19 w20 q21 s22 h23 => ?_
  have q21 := Is.out q21; subst q21
  refine sv (Does.not rfl) ?_
  refine sv (Does.move rfl) ?_
  refine Seq.guard_on' rfl rfl rfl ?_
  have o24 := o16.up s22
  refine sv (Does.load_ownN [i64 pl.kind, i64 pl.author, i64 pl.epoch, i64 pl.mode, i64 pl.peer, i64 pl.phase, .slice A1 (List.length pl.nums) c2, .slice A4 (List.length pl.texts) c5, .slice A7 (List.length pl.proof) c8] o24 ty36 rfl rfl) ?_
  refine Seq.guard_on' rfl rfl rfl ?_
  have c26 := s17.trans s22
  have q27 := up c26 q3
  have q28 := up c26 q6
  have q29 := up c26 q9
  have q25 : PlainV pl L13 w20 (.agg #[i64 pl.kind, i64 pl.author, i64 pl.epoch, i64 pl.mode, i64 pl.peer, i64 pl.phase, .slice A1 (List.length pl.nums) c2, .slice A4 (List.length pl.texts) c5, .slice A7 (List.length pl.proof) c8]) := PlainV.mk q27 q28 q29
  refine scall (V := Is (.bool pl.few)) cal23 h23 rfl (law17_few h23 q25) fun v30 w31 q32 s33 h34 => ?_
  have q32 := Is.out q32; subst q32
  refine Seq.guard_on' rfl rfl rfl ?_
  refine sv (Does.not rfl) ?_
  refine sv (Does.pick_f rfl rfl) ?_
  refine Seq.next ?_
  rcases bdich (!pl.few) with hc1 | hc1
  · refine Run.cond_b rfl hc1 ?_
    refine rsr ?_
    refine scall (V := Is (.bool true)) cal19 h34 rfl (law17_lives2 h34 ) fun v35 w36 q37 s38 h39 => ?_
    have q37 := Is.out q37; subst q37
    refine sv (Does.assign rfl) ?_
    refine Seq.next ?_
    have c40 := s33.trans s38
    have c41 := c26.trans c40
    obtain ⟨⟨zU, zo⟩, zb⟩ := hX c41 (by decide)
    refine Run.ret (ret_then ?_)
    exact post_one Try.results4 rfl ⟨_, rfl, rfl, zb⟩
  refine Run.cond_b rfl hc1 ?_
  refine Run.skip_go (fun _ _ h => h) ?_
  refine rsr ?_
  have o42 := o24.up s33
  refine sv (Does.load_ownN [i64 pl.kind, i64 pl.author, i64 pl.epoch, i64 pl.mode, i64 pl.peer, i64 pl.phase, .slice A1 (List.length pl.nums) c2, .slice A4 (List.length pl.texts) c5, .slice A7 (List.length pl.proof) c8] o42 ty36 rfl rfl) ?_
  have q44 := up s33 q27
  have q45 := up s33 q28
  have q46 := up s33 q29
  have q43 : PlainV pl L13 w31 (.agg #[i64 pl.kind, i64 pl.author, i64 pl.epoch, i64 pl.mode, i64 pl.peer, i64 pl.phase, .slice A1 (List.length pl.nums) c2, .slice A4 (List.length pl.texts) c5, .slice A7 (List.length pl.proof) c8]) := PlainV.mk q44 q45 q46
  refine scall (V := And2 (EntryV (ofE pl)) (RentryV (EntryD.ref (ofE pl)))) cal24 h34 rfl (law17_of h34 q43 (show List.length pl.nums ≤ 100 from by exact few_nums (by simpa using hc1))) fun v47 w48 q49 s50 h51 => ?_
  obtain ⟨v52, v53, rfl, q54, q55⟩ := q49
  obtain ⟨A56, c57, A59, c60, A62, c63, rfl, q58, q61, q64⟩ := EntryV.open q54
  have z65 := NatsV.cap q58
  have z66 := RowsV.cap q61
  have z67 := BytesV.cap q64
  obtain ⟨A68, c69, A71, c72, A74, c75, rfl, q70, q73, q76⟩ := RentryV.open q55
  have z77 := NumsV.cap q70
  have z78 := RowsV.cap q73
  have z79 := BytesV.cap q76
  refine sv (Does.move rfl) ?_
  refine sv (Does.extract rfl rfl) ?_
  refine sv (Does.extract rfl rfl) ?_
  refine salloc 4 [.int .i64 0, .int .i64 0, .int .i64 0, .int .i64 0, .int .i64 0, .int .i64 0, .slice none 0 0, .slice none 0 0, .slice none 0 0] h51 ty40 rfl fun b82 L80 w81 o83 s84 h85 => ?_
  refine salloc 5 [.int .i64 0, .int .i64 0, .int .i64 0, .int .i64 0, .int .i64 0, .int .i64 0, .slice none 0 0, .slice none 0 0, .slice none 0 0] h85 ty43 rfl fun b88 L86 w87 o89 s90 h91 => ?_
  have o92 := o83.up s90
  refine sstore [i64 ((ofE pl).kind), i64 ((ofE pl).author), i64 ((ofE pl).epoch), i64 ((ofE pl).mode), i64 ((ofE pl).peer), i64 ((ofE pl).phase), .slice A56 (List.length (ofE pl).nums) c57, .slice A59 (List.length (ofE pl).texts) c60, .slice A62 (List.length (ofE pl).proof) c63] h91 o92 ty40 rfl rfl rfl (Nat.le_of_ble_eq_true rfl) rfl rfl fun w93 o94 s95 h96 => ?_
  have o97 := o89.up s95
  refine sstore [i64 ((EntryD.ref (ofE pl)).kind), i64 ((EntryD.ref (ofE pl)).author), i64 ((EntryD.ref (ofE pl)).epoch), i64 ((EntryD.ref (ofE pl)).mode), i64 ((EntryD.ref (ofE pl)).peer), i64 ((EntryD.ref (ofE pl)).phase), .slice A68 (List.length (EntryD.ref (ofE pl)).nums) c69, .slice A71 (List.length (EntryD.ref (ofE pl)).texts) c72, .slice A74 (List.length (EntryD.ref (ofE pl)).proof) c75] h96 o97 ty43 rfl rfl rfl (Nat.le_of_ble_eq_true rfl) rfl rfl fun w98 o99 s100 h101 => ?_
  refine nsr ?_
  have o102 := o94.up s100
  refine sv (Does.load_ownN [i64 ((ofE pl).kind), i64 ((ofE pl).author), i64 ((ofE pl).epoch), i64 ((ofE pl).mode), i64 ((ofE pl).peer), i64 ((ofE pl).phase), .slice A56 (List.length (ofE pl).nums) c57, .slice A59 (List.length (ofE pl).texts) c60, .slice A62 (List.length (ofE pl).proof) c63] o102 ty40 rfl rfl) ?_
  have c104 := s95.trans s100
  have c105 := s90.trans c104
  have c106 := s84.trans c105
  have q107 := up c106 q58
  have q108 := up c106 q61
  have q109 := up c106 q64
  have q103 : EntryV (ofE pl) L86 w98 (.agg #[i64 ((ofE pl).kind), i64 ((ofE pl).author), i64 ((ofE pl).epoch), i64 ((ofE pl).mode), i64 ((ofE pl).peer), i64 ((ofE pl).phase), .slice A56 (List.length (ofE pl).nums) c57, .slice A59 (List.length (ofE pl).texts) c60, .slice A62 (List.length (ofE pl).proof) c63]) := EntryV.mk q107 q108 q109
  refine scall (V := And2 (BytesV (if (ofE pl).no then [] else (ofE pl).all)) (Is (i64 (if (ofE pl).no then 3 else 0)))) cal25 h101 rfl (wire_EncodeEntry h101 q103 (show ∀ k, k < List.length (ofE pl).nums → nw (List.getD (ofE pl).nums k 0) ≤ 1000000 from by exact ofE_nw pl)) fun v110 w111 q112 s113 h114 => ?_
  obtain ⟨v115, v116, rfl, q117, q118⟩ := q112
  obtain ⟨A119, c120, rfl⟩ := BytesV.shape q117
  have z121 := BytesV.cap q117
  have q118 := Is.out q118; subst q118
  refine sv (Does.move rfl) ?_
  refine sv (Does.extract rfl rfl) ?_
  refine sv (Does.extract rfl rfl) ?_
  refine sv (Does.assign rfl) ?_
  refine sv (Does.assign rfl) ?_
  refine nsr ?_
  have o122 := o99.up s113
  refine sv (Does.load_ownN [i64 ((EntryD.ref (ofE pl)).kind), i64 ((EntryD.ref (ofE pl)).author), i64 ((EntryD.ref (ofE pl)).epoch), i64 ((EntryD.ref (ofE pl)).mode), i64 ((EntryD.ref (ofE pl)).peer), i64 ((EntryD.ref (ofE pl)).phase), .slice A68 (List.length (EntryD.ref (ofE pl)).nums) c69, .slice A71 (List.length (EntryD.ref (ofE pl)).texts) c72, .slice A74 (List.length (EntryD.ref (ofE pl)).proof) c75] o122 ty43 rfl rfl) ?_
  have c124 := c106.trans s113
  have q125 := up c124 q70
  have q126 := up c124 q73
  have q127 := up c124 q76
  have q123 : RentryV (EntryD.ref (ofE pl)) L86 w111 (.agg #[i64 ((EntryD.ref (ofE pl)).kind), i64 ((EntryD.ref (ofE pl)).author), i64 ((EntryD.ref (ofE pl)).epoch), i64 ((EntryD.ref (ofE pl)).mode), i64 ((EntryD.ref (ofE pl)).peer), i64 ((EntryD.ref (ofE pl)).phase), .slice A68 (List.length (EntryD.ref (ofE pl)).nums) c69, .slice A71 (List.length (EntryD.ref (ofE pl)).texts) c72, .slice A74 (List.length (EntryD.ref (ofE pl)).proof) c75]) := RentryV.mk q125 q126 q127
  refine scall (V := And2 (BytesV (if (EntryD.ref (ofE pl)).bad then [] else (EntryD.ref (ofE pl)).all)) (Is (.bool (!(EntryD.ref (ofE pl)).bad && decide (((List.length (if (EntryD.ref (ofE pl)).bad then [] else (EntryD.ref (ofE pl)).all) : Nat) : Int) ≤ 4096))))) cal26 h114 rfl (ref17_EncodeEntry h114 q123 (show ∀ k, k < List.length (EntryD.ref (ofE pl)).nums → List.length (List.getD (EntryD.ref (ofE pl)).nums k []) ≤ 100000 from by exact ofE_bits pl)) fun v128 w129 q130 s131 h132 => ?_
  obtain ⟨v133, v134, rfl, q135, q136⟩ := q130
  obtain ⟨A137, c138, rfl⟩ := BytesV.shape q135
  have z139 := BytesV.cap q135
  have q136 := Is.out q136; subst q136
  refine sv (Does.move rfl) ?_
  refine sv (Does.extract rfl rfl) ?_
  refine sv (Does.extract rfl rfl) ?_
  refine sv (Does.assign rfl) ?_
  refine sv (Does.assign rfl) ?_
  refine nsr ?_
  refine sv (Does.move rfl) ?_
  refine sv (Does.move rfl) ?_
  rcases bdich (!(EntryD.ref (ofE pl)).bad && decide (((List.length (if (EntryD.ref (ofE pl)).bad then [] else (EntryD.ref (ofE pl)).all) : Nat) : Int) ≤ 4096)) with hc2 | hc2
  rotate_left
  · refine Seq.guard_off' rfl rfl hc2 rfl (by decide) ?_
    refine Seq.guard_off' rfl rfl hc2 rfl (by decide) ?_
    refine sv (Does.pick_b rfl hc2 rfl) ?_
    refine sv (Does.move rfl) ?_
    refine Seq.guard_off' rfl rfl rfl rfl (by decide) ?_
    refine Seq.guard_off' rfl rfl rfl rfl (by decide) ?_
    refine Seq.guard_off' rfl rfl rfl rfl (by decide) ?_
    refine Seq.guard_off' rfl rfl rfl rfl (by decide) ?_
    refine Seq.guard_off' rfl rfl rfl rfl (by decide) ?_
    refine sv (Does.pick_f rfl rfl) ?_
    refine sv (Does.move rfl) ?_
    refine Seq.guard_on' rfl rfl rfl ?_
    refine sv (Does.move rfl) ?_
    refine Seq.guard_on' rfl rfl rfl ?_
    refine sv (Does.not rfl) ?_
    refine Seq.guard_on' rfl rfl rfl ?_
    refine sv (Does.move rfl) ?_
    rcases bdich (!(!(EntryD.ref (ofE pl)).bad && decide (((List.length (if (EntryD.ref (ofE pl)).bad then [] else (EntryD.ref (ofE pl)).all) : Nat) : Int) ≤ 4096))) with hc3 | hc3
    rotate_left
    · refine Seq.guard_off' rfl rfl hc3 rfl (by decide) ?_
      refine Seq.guard_off' rfl rfl hc3 rfl (by decide) ?_
      refine Seq.guard_on' rfl rfl rfl ?_
      refine sv (Does.pick_b rfl hc3 rfl) ?_
      refine Seq.guard_on' rfl rfl rfl ?_
      refine sv (Does.move rfl) ?_
      refine Seq.guard_off' rfl rfl rfl rfl (by decide) ?_
      refine Seq.guard_off' rfl rfl rfl rfl (by decide) ?_
      refine Seq.guard_off' rfl rfl rfl rfl (by decide) ?_
      refine Seq.guard_on' rfl rfl rfl ?_
      refine sv (Does.pick_f rfl rfl) ?_
      refine sv (Does.pick_f rfl rfl) ?_
      refine sv (Does.assign rfl) ?_
      refine Seq.next ?_
      have c177 := c124.trans s131
      have c178 := s50.trans c177
      have c179 := s33.trans c178
      have c180 := c26.trans c179
      obtain ⟨⟨zU, zo⟩, zb⟩ := hX c180 (by decide)
      refine Run.ret ?_
      exact post_one Try.results4 rfl ⟨_, rfl, (isBool (by first | ((rcases ent_both (ofE pl) with ⟨a1, a2, a3, a4, a5⟩ | ⟨a1, a2⟩ <;> simp_all); done) | ((rcases ent_both (ofE pl) with ⟨a1, a2, a3, a4, a5⟩ | ⟨a1, a2⟩ <;> simp_all <;> omega); done) | (with_reducible rfl; done) | (omega; done) | (simp_all; done)) _ _), zb⟩
    refine Seq.guard_on' rfl rfl hc3 ?_
    refine sv (Does.move rfl) ?_
    refine Seq.guard_on' rfl rfl hc3 ?_
    refine sv (Does.eql rfl rfl) ?_
    refine Seq.guard_on' rfl rfl rfl ?_
    refine sv (Does.pick_b rfl hc3 rfl) ?_
    refine Seq.guard_on' rfl rfl rfl ?_
    refine sv (Does.move rfl) ?_
    rcases Decidable.em ((if (ofE pl).no then 3 else 0 : Int) = (3 : Int)) with hp4 | hp4
    rotate_left
    · refine Seq.guard_off' rfl rfl (decide_eq_false hp4) rfl (by decide) ?_
      refine Seq.guard_off' rfl rfl (decide_eq_false hp4) rfl (by decide) ?_
      refine Seq.guard_off' rfl rfl (decide_eq_false hp4) rfl (by decide) ?_
      refine Seq.guard_on' rfl rfl rfl ?_
      refine sv (Does.pick_b rfl (decide_eq_false hp4) rfl) ?_
      refine sv (Does.pick_f rfl rfl) ?_
      refine sv (Does.assign rfl) ?_
      refine Seq.next ?_
      have c173 := c124.trans s131
      have c174 := s50.trans c173
      have c175 := s33.trans c174
      have c176 := c26.trans c175
      obtain ⟨⟨zU, zo⟩, zb⟩ := hX c176 (by decide)
      refine Run.ret ?_
      exact post_one Try.results4 rfl ⟨_, rfl, (isBool (by first | ((rcases ent_both (ofE pl) with ⟨a1, a2, a3, a4, a5⟩ | ⟨a1, a2⟩ <;> simp_all); done) | ((rcases ent_both (ofE pl) with ⟨a1, a2, a3, a4, a5⟩ | ⟨a1, a2⟩ <;> simp_all <;> omega); done) | (with_reducible rfl; done) | (omega; done) | (simp_all; done)) _ _), zb⟩
    refine Seq.guard_on' rfl rfl (decide_eq_true hp4) ?_
    refine sv (Does.move rfl) ?_
    refine Seq.guard_on' rfl rfl (decide_eq_true hp4) ?_
    refine sv (Does.len Try.underlying22 rfl) ?_
    refine Seq.guard_on' rfl rfl (decide_eq_true hp4) ?_
    refine sv (Does.eql rfl rfl) ?_
    refine Seq.guard_on' rfl rfl rfl ?_
    refine sv (Does.pick_b rfl (decide_eq_true hp4) rfl) ?_
    refine sv (Does.pick_f rfl rfl) ?_
    refine sv (Does.assign rfl) ?_
    refine Seq.next ?_
    have c169 := c124.trans s131
    have c170 := s50.trans c169
    have c171 := s33.trans c170
    have c172 := c26.trans c171
    obtain ⟨⟨zU, zo⟩, zb⟩ := hX c172 (by decide)
    refine Run.ret ?_
    exact post_one Try.results4 rfl ⟨_, rfl, (isBool (by first | ((rcases ent_both (ofE pl) with ⟨a1, a2, a3, a4, a5⟩ | ⟨a1, a2⟩ <;> simp_all); done) | ((rcases ent_both (ofE pl) with ⟨a1, a2, a3, a4, a5⟩ | ⟨a1, a2⟩ <;> simp_all <;> omega); done) | (with_reducible rfl; done) | (omega; done) | (simp_all; done)) _ _), zb⟩
  refine Seq.guard_on' rfl rfl hc2 ?_
  refine sv (Does.move rfl) ?_
  refine Seq.guard_on' rfl rfl hc2 ?_
  refine sv (Does.eql rfl rfl) ?_
  refine sv (Does.pick_b rfl hc2 rfl) ?_
  refine sv (Does.move rfl) ?_
  rcases Decidable.em ((if (ofE pl).no then 3 else 0 : Int) = (0 : Int)) with hp3 | hp3
  rotate_left
  · refine Seq.guard_off' rfl rfl (decide_eq_false hp3) rfl (by decide) ?_
    refine Seq.guard_off' rfl rfl (decide_eq_false hp3) rfl (by decide) ?_
    refine Seq.guard_off' rfl rfl (decide_eq_false hp3) rfl (by decide) ?_
    refine Seq.guard_off' rfl rfl (decide_eq_false hp3) rfl (by decide) ?_
    refine Seq.guard_off' rfl rfl (decide_eq_false hp3) rfl (by decide) ?_
    refine sv (Does.pick_b rfl (decide_eq_false hp3) rfl) ?_
    refine sv (Does.move rfl) ?_
    refine Seq.guard_on' rfl rfl rfl ?_
    refine sv (Does.move rfl) ?_
    refine Seq.guard_on' rfl rfl rfl ?_
    refine sv (Does.not rfl) ?_
    refine Seq.guard_on' rfl rfl rfl ?_
    refine sv (Does.move rfl) ?_
    rcases bdich (!(!(EntryD.ref (ofE pl)).bad && decide (((List.length (if (EntryD.ref (ofE pl)).bad then [] else (EntryD.ref (ofE pl)).all) : Nat) : Int) ≤ 4096))) with hc4 | hc4
    rotate_left
    · refine Seq.guard_off' rfl rfl hc4 rfl (by decide) ?_
      refine Seq.guard_off' rfl rfl hc4 rfl (by decide) ?_
      refine Seq.guard_on' rfl rfl rfl ?_
      refine sv (Does.pick_b rfl hc4 rfl) ?_
      refine Seq.guard_on' rfl rfl rfl ?_
      refine sv (Does.move rfl) ?_
      refine Seq.guard_off' rfl rfl rfl rfl (by decide) ?_
      refine Seq.guard_off' rfl rfl rfl rfl (by decide) ?_
      refine Seq.guard_off' rfl rfl rfl rfl (by decide) ?_
      refine Seq.guard_on' rfl rfl rfl ?_
      refine sv (Does.pick_f rfl rfl) ?_
      refine sv (Does.pick_f rfl rfl) ?_
      refine sv (Does.assign rfl) ?_
      refine Seq.next ?_
      have c165 := c124.trans s131
      have c166 := s50.trans c165
      have c167 := s33.trans c166
      have c168 := c26.trans c167
      obtain ⟨⟨zU, zo⟩, zb⟩ := hX c168 (by decide)
      refine Run.ret ?_
      exact post_one Try.results4 rfl ⟨_, rfl, (isBool (by first | ((rcases ent_both (ofE pl) with ⟨a1, a2, a3, a4, a5⟩ | ⟨a1, a2⟩ <;> simp_all); done) | ((rcases ent_both (ofE pl) with ⟨a1, a2, a3, a4, a5⟩ | ⟨a1, a2⟩ <;> simp_all <;> omega); done) | (with_reducible rfl; done) | (omega; done) | (simp_all; done)) _ _), zb⟩
    refine Seq.guard_on' rfl rfl hc4 ?_
    refine sv (Does.move rfl) ?_
    refine Seq.guard_on' rfl rfl hc4 ?_
    refine sv (Does.eql rfl rfl) ?_
    refine Seq.guard_on' rfl rfl rfl ?_
    refine sv (Does.pick_b rfl hc4 rfl) ?_
    refine Seq.guard_on' rfl rfl rfl ?_
    refine sv (Does.move rfl) ?_
    rcases Decidable.em ((if (ofE pl).no then 3 else 0 : Int) = (3 : Int)) with hp5 | hp5
    rotate_left
    · refine Seq.guard_off' rfl rfl (decide_eq_false hp5) rfl (by decide) ?_
      refine Seq.guard_off' rfl rfl (decide_eq_false hp5) rfl (by decide) ?_
      refine Seq.guard_off' rfl rfl (decide_eq_false hp5) rfl (by decide) ?_
      refine Seq.guard_on' rfl rfl rfl ?_
      refine sv (Does.pick_b rfl (decide_eq_false hp5) rfl) ?_
      refine sv (Does.pick_f rfl rfl) ?_
      refine sv (Does.assign rfl) ?_
      refine Seq.next ?_
      have c161 := c124.trans s131
      have c162 := s50.trans c161
      have c163 := s33.trans c162
      have c164 := c26.trans c163
      obtain ⟨⟨zU, zo⟩, zb⟩ := hX c164 (by decide)
      refine Run.ret ?_
      exact post_one Try.results4 rfl ⟨_, rfl, (isBool (by first | ((rcases ent_both (ofE pl) with ⟨a1, a2, a3, a4, a5⟩ | ⟨a1, a2⟩ <;> simp_all); done) | ((rcases ent_both (ofE pl) with ⟨a1, a2, a3, a4, a5⟩ | ⟨a1, a2⟩ <;> simp_all <;> omega); done) | (with_reducible rfl; done) | (omega; done) | (simp_all; done)) _ _), zb⟩
    refine Seq.guard_on' rfl rfl (decide_eq_true hp5) ?_
    refine sv (Does.move rfl) ?_
    refine Seq.guard_on' rfl rfl (decide_eq_true hp5) ?_
    refine sv (Does.len Try.underlying22 rfl) ?_
    refine Seq.guard_on' rfl rfl (decide_eq_true hp5) ?_
    refine sv (Does.eql rfl rfl) ?_
    refine Seq.guard_on' rfl rfl rfl ?_
    refine sv (Does.pick_b rfl (decide_eq_true hp5) rfl) ?_
    refine sv (Does.pick_f rfl rfl) ?_
    refine sv (Does.assign rfl) ?_
    refine Seq.next ?_
    have c157 := c124.trans s131
    have c158 := s50.trans c157
    have c159 := s33.trans c158
    have c160 := c26.trans c159
    obtain ⟨⟨zU, zo⟩, zb⟩ := hX c160 (by decide)
    refine Run.ret ?_
    exact post_one Try.results4 rfl ⟨_, rfl, (isBool (by first | ((rcases ent_both (ofE pl) with ⟨a1, a2, a3, a4, a5⟩ | ⟨a1, a2⟩ <;> simp_all); done) | ((rcases ent_both (ofE pl) with ⟨a1, a2, a3, a4, a5⟩ | ⟨a1, a2⟩ <;> simp_all <;> omega); done) | (with_reducible rfl; done) | (omega; done) | (simp_all; done)) _ _), zb⟩
  refine Seq.guard_on' rfl rfl (decide_eq_true hp3) ?_
  refine sv (Does.move rfl) ?_
  refine Seq.guard_on' rfl rfl (decide_eq_true hp3) ?_
  have q140 := up s131 q117
  refine sv (Does.conv_str Try.underlying22 Try.underlying5 Try.underlying9 rfl q140) ?_
  refine Seq.guard_on' rfl rfl (decide_eq_true hp3) ?_
  refine sv (Does.move rfl) ?_
  refine Seq.guard_on' rfl rfl (decide_eq_true hp3) ?_
  refine sv (Does.conv_str Try.underlying22 Try.underlying5 Try.underlying9 rfl q135) ?_
  refine Seq.guard_on' rfl rfl (decide_eq_true hp3) ?_
  refine sv (Does.str_eql rfl rfl) ?_
  refine sv (Does.pick_b rfl (decide_eq_true hp3) rfl) ?_
  refine sv (Does.move rfl) ?_
  rcases Decidable.em ((if (ofE pl).no then [] else (ofE pl).all) = (if (EntryD.ref (ofE pl)).bad then [] else (EntryD.ref (ofE pl)).all)) with hp4 | hp4
  · refine Seq.guard_off' rfl rfl (decide_eq_true hp4) rfl (by decide) ?_
    refine Seq.guard_off' rfl rfl (decide_eq_true hp4) rfl (by decide) ?_
    refine Seq.guard_off' rfl rfl (decide_eq_true hp4) rfl (by decide) ?_
    refine Seq.guard_undef rfl rfl (by decide) ?_
    refine Seq.guard_undef rfl rfl (by decide) ?_
    refine Seq.guard_off' rfl rfl (decide_eq_true hp4) rfl (by decide) ?_
    refine Seq.guard_off' rfl rfl (decide_eq_true hp4) rfl (by decide) ?_
    refine Seq.guard_undef rfl rfl (by decide) ?_
    refine Seq.guard_undef rfl rfl (by decide) ?_
    refine Seq.guard_undef rfl rfl (by decide) ?_
    refine Seq.guard_off' rfl rfl (decide_eq_true hp4) rfl (by decide) ?_
    refine sv (Does.pick_b rfl (decide_eq_true hp4) rfl) ?_
    refine sv (Does.assign rfl) ?_
    refine Seq.next ?_
    have c141 := c124.trans s131
    have c142 := s50.trans c141
    have c143 := s33.trans c142
    have c144 := c26.trans c143
    obtain ⟨⟨zU, zo⟩, zb⟩ := hX c144 (by decide)
    refine Run.ret ?_
    exact post_one Try.results4 rfl ⟨_, rfl, rfl, zb⟩
  refine Seq.guard_on' rfl rfl (decide_eq_false hp4) ?_
  refine sv (Does.move rfl) ?_
  refine Seq.guard_on' rfl rfl (decide_eq_false hp4) ?_
  refine sv (Does.not rfl) ?_
  refine Seq.guard_on' rfl rfl (decide_eq_false hp4) ?_
  refine sv (Does.move rfl) ?_
  rcases bdich (!(!(EntryD.ref (ofE pl)).bad && decide (((List.length (if (EntryD.ref (ofE pl)).bad then [] else (EntryD.ref (ofE pl)).all) : Nat) : Int) ≤ 4096))) with hc5 | hc5
  rotate_left
  · refine Seq.guard_off' rfl rfl hc5 rfl (by decide) ?_
    refine Seq.guard_off' rfl rfl hc5 rfl (by decide) ?_
    refine Seq.guard_on' rfl rfl (decide_eq_false hp4) ?_
    refine sv (Does.pick_b rfl hc5 rfl) ?_
    refine Seq.guard_on' rfl rfl (decide_eq_false hp4) ?_
    refine sv (Does.move rfl) ?_
    refine Seq.guard_off' rfl rfl rfl rfl (by decide) ?_
    refine Seq.guard_off' rfl rfl rfl rfl (by decide) ?_
    refine Seq.guard_off' rfl rfl rfl rfl (by decide) ?_
    refine Seq.guard_on' rfl rfl (decide_eq_false hp4) ?_
    refine sv (Does.pick_f rfl rfl) ?_
    refine sv (Does.pick_b rfl (decide_eq_false hp4) rfl) ?_
    refine sv (Does.assign rfl) ?_
    refine Seq.next ?_
    have c153 := c124.trans s131
    have c154 := s50.trans c153
    have c155 := s33.trans c154
    have c156 := c26.trans c155
    obtain ⟨⟨zU, zo⟩, zb⟩ := hX c156 (by decide)
    refine Run.ret ?_
    exact post_one Try.results4 rfl ⟨_, rfl, (isBool (by first | ((rcases ent_both (ofE pl) with ⟨a1, a2, a3, a4, a5⟩ | ⟨a1, a2⟩ <;> simp_all); done) | ((rcases ent_both (ofE pl) with ⟨a1, a2, a3, a4, a5⟩ | ⟨a1, a2⟩ <;> simp_all <;> omega); done) | (with_reducible rfl; done) | (omega; done) | (simp_all; done)) _ _), zb⟩
  refine Seq.guard_on' rfl rfl hc5 ?_
  refine sv (Does.move rfl) ?_
  refine Seq.guard_on' rfl rfl hc5 ?_
  refine sv (Does.eql rfl rfl) ?_
  refine Seq.guard_on' rfl rfl (decide_eq_false hp4) ?_
  refine sv (Does.pick_b rfl hc5 rfl) ?_
  refine Seq.guard_on' rfl rfl (decide_eq_false hp4) ?_
  refine sv (Does.move rfl) ?_
  rcases Decidable.em ((if (ofE pl).no then 3 else 0 : Int) = (3 : Int)) with hp6 | hp6
  rotate_left
  · refine Seq.guard_off' rfl rfl (decide_eq_false hp6) rfl (by decide) ?_
    refine Seq.guard_off' rfl rfl (decide_eq_false hp6) rfl (by decide) ?_
    refine Seq.guard_off' rfl rfl (decide_eq_false hp6) rfl (by decide) ?_
    refine Seq.guard_on' rfl rfl (decide_eq_false hp4) ?_
    refine sv (Does.pick_b rfl (decide_eq_false hp6) rfl) ?_
    refine sv (Does.pick_b rfl (decide_eq_false hp4) rfl) ?_
    refine sv (Does.assign rfl) ?_
    refine Seq.next ?_
    have c149 := c124.trans s131
    have c150 := s50.trans c149
    have c151 := s33.trans c150
    have c152 := c26.trans c151
    obtain ⟨⟨zU, zo⟩, zb⟩ := hX c152 (by decide)
    refine Run.ret ?_
    exact post_one Try.results4 rfl ⟨_, rfl, (isBool (by first | ((rcases ent_both (ofE pl) with ⟨a1, a2, a3, a4, a5⟩ | ⟨a1, a2⟩ <;> simp_all); done) | ((rcases ent_both (ofE pl) with ⟨a1, a2, a3, a4, a5⟩ | ⟨a1, a2⟩ <;> simp_all <;> omega); done) | (with_reducible rfl; done) | (omega; done) | (simp_all; done)) _ _), zb⟩
  refine Seq.guard_on' rfl rfl (decide_eq_true hp6) ?_
  refine sv (Does.move rfl) ?_
  refine Seq.guard_on' rfl rfl (decide_eq_true hp6) ?_
  refine sv (Does.len Try.underlying22 rfl) ?_
  refine Seq.guard_on' rfl rfl (decide_eq_true hp6) ?_
  refine sv (Does.eql rfl rfl) ?_
  refine Seq.guard_on' rfl rfl (decide_eq_false hp4) ?_
  refine sv (Does.pick_b rfl (decide_eq_true hp6) rfl) ?_
  refine sv (Does.pick_b rfl (decide_eq_false hp4) rfl) ?_
  refine sv (Does.assign rfl) ?_
  refine Seq.next ?_
  have c145 := c124.trans s131
  have c146 := s50.trans c145
  have c147 := s33.trans c146
  have c148 := c26.trans c147
  obtain ⟨⟨zU, zo⟩, zb⟩ := hX c148 (by decide)
  refine Run.ret ?_
  exact post_one Try.results4 rfl ⟨_, rfl, (isBool (by first | ((rcases ent_both (ofE pl) with ⟨a1, a2, a3, a4, a5⟩ | ⟨a1, a2⟩ <;> simp_all); done) | ((rcases ent_both (ofE pl) with ⟨a1, a2, a3, a4, a5⟩ | ⟨a1, a2⟩ <;> simp_all <;> omega); done) | (with_reducible rfl; done) | (omega; done) | (simp_all; done)) _ _), zb⟩

end Go.Proofs.Ytgfomedobfaidaa
