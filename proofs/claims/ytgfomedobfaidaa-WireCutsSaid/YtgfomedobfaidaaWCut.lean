/-
  The walks of some functions: what each call comes to.
-/
import Derived.Test.YtgfomedobfaidaaRdc
import Derived.Test.YtgfomedobfaidaaCuts
import Derived.Test.YtgfomedobfaidaaWof
import Derived.Test.YtgfomedobfaidaaFew
import Derived.Test.YtgfomedobfaidaaLives2
set_option linter.unusedVariables false
set_option linter.unusedSimpArgs false
set_option maxRecDepth 100000
namespace Go.Proofs.Ytgfomedobfaidaa
open Go.RowKit

set_option maxHeartbeats 4000000 in
theorem WireCuts_walk {lab : Lab} {w : World} (hv : Valid lab w) {pl : PlainD} {v0 : Value} (h0 : PlainV pl lab w v0) {vt : VoteD} {v1 : Value} (h1 : VoteV vt lab w v1) {cut : Int} {more : List UInt8} {v3 : Value} (h3 : BytesV more lab w v3) :
    Calls Try.prog 5 #[v0, v1, i64 cut, v3] w (fun e w' => ∃ v, e = .returned v ∧ (Is (.bool true)) lab w' v ∧ Below w.heap.size w w') := by
  obtain ⟨L0, h0L, ⟨zU0, z00⟩, hX⟩ := enter0 hv
  replace h0 := up z00 h0
  obtain ⟨A1, c2, A4, c5, A7, c8, rfl, q3, q6, q9⟩ := PlainV.open h0
  have z10 := RowsV.cap q3
  have z11 := RowsV.cap q6
  have z12 := BytesV.cap q9
  replace h1 := up z00 h1
  obtain ⟨A13, c14, rfl, q15⟩ := VoteV.open h1
  have z16 := BytesV.cap q15
  replace h3 := up z00 h3
  obtain ⟨A17, c18, rfl⟩ := BytesV.shape h3
  have z19 := BytesV.cap h3
  have hE := fun h => ent_bounds cut (d := ofE pl) h
  have hV := fun a h => vot_bounds cut (d := vt) a h
  refine calls_run Try.func5 rfl Try.ntmps5 (Nat.le_of_ble_eq_true rfl) ?_
  refine rsr ?_
  refine sbox 5 [i64 pl.kind, i64 pl.author, i64 pl.epoch, i64 pl.mode, i64 pl.peer, i64 pl.phase, .slice A1 (List.length pl.nums) c2, .slice A4 (List.length pl.texts) c5, .slice A7 (List.length pl.proof) c8] h0L rfl rfl fun b22 L20 w21 o23 s24 h25 => ?_
  refine sbox 6 [i64 vt.kind, i64 vt.from_, i64 vt.slot, i64 vt.view, i64 vt.valid, .slice A13 (List.length vt.value) c14] h25 rfl rfl fun b28 L26 w27 o29 s30 h31 => ?_
  refine sv (Does.assign rfl) ?_
  refine Seq.next ?_
  refine Run.seq ?_
  refine rsr ?_
  refine scall (V := Is (.bool true)) cal19 h31 rfl (law17_lives2 h31 ) fun v32 w33 q34 s35 h36 => ?_
  have q34 := Is.out q34; subst q34
  refine sv (Does.not rfl) ?_
  refine sv (Does.move rfl) ?_
  refine Seq.guard_on' rfl rfl rfl ?_
  have c38 := s30.trans s35
  have o37 := o23.up c38
  refine sv (Does.load_ownN [i64 pl.kind, i64 pl.author, i64 pl.epoch, i64 pl.mode, i64 pl.peer, i64 pl.phase, .slice A1 (List.length pl.nums) c2, .slice A4 (List.length pl.texts) c5, .slice A7 (List.length pl.proof) c8] o37 ty36 rfl rfl) ?_
  refine Seq.guard_on' rfl rfl rfl ?_
  have c40 := s24.trans c38
  have q41 := up c40 q3
  have q42 := up c40 q6
  have q43 := up c40 q9
  have q39 : PlainV pl L26 w33 (.agg #[i64 pl.kind, i64 pl.author, i64 pl.epoch, i64 pl.mode, i64 pl.peer, i64 pl.phase, .slice A1 (List.length pl.nums) c2, .slice A4 (List.length pl.texts) c5, .slice A7 (List.length pl.proof) c8]) := PlainV.mk q41 q42 q43
  refine scall (V := Is (.bool pl.few)) cal23 h36 rfl (law17_few h36 q39) fun v44 w45 q46 s47 h48 => ?_
  have q46 := Is.out q46; subst q46
  refine Seq.guard_on' rfl rfl rfl ?_
  refine sv (Does.not rfl) ?_
  refine sv (Does.pick_f rfl rfl) ?_
  refine sv (Does.move rfl) ?_
  rcases bdich (!pl.few) with hc1 | hc1
  · refine Seq.guard_off' rfl rfl hc1 rfl (by decide) ?_
    refine Seq.guard_off' rfl rfl hc1 rfl (by decide) ?_
    refine Seq.guard_off' rfl rfl hc1 rfl (by decide) ?_
    refine Seq.guard_off' rfl rfl hc1 rfl (by decide) ?_
    refine sv (Does.pick_b rfl hc1 rfl) ?_
    refine sv (Does.move rfl) ?_
    refine Seq.guard_off' rfl rfl rfl rfl (by decide) ?_
    refine Seq.guard_off' rfl rfl rfl rfl (by decide) ?_
    refine Seq.guard_off' rfl rfl rfl rfl (by decide) ?_
    refine sv (Does.pick_t rfl rfl) ?_
    refine sv (Does.move rfl) ?_
    refine Seq.guard_off' rfl rfl rfl rfl (by decide) ?_
    refine Seq.guard_off' rfl rfl rfl rfl (by decide) ?_
    refine Seq.guard_off' rfl rfl rfl rfl (by decide) ?_
    refine sv (Does.pick_t rfl rfl) ?_
    refine Seq.next ?_
    refine Run.cond_b rfl rfl ?_
    refine rsr ?_
    refine scall (V := Is (.bool true)) cal19 h48 rfl (law17_lives2 h48 ) fun v49 w50 q51 s52 h53 => ?_
    have q51 := Is.out q51; subst q51
    refine sv (Does.assign rfl) ?_
    refine Seq.next ?_
    have c54 := s47.trans s52
    have c55 := c40.trans c54
    obtain ⟨⟨zU, zo⟩, zb⟩ := hX c55 (by decide)
    refine Run.ret (ret_then ?_)
    exact post_one Try.results5 rfl ⟨_, rfl, rfl, zb⟩
  refine Seq.guard_on' rfl rfl hc1 ?_
  refine sv (Does.fieldAddr' 5 Try.underlying24 rfl ty22 rfl rfl) ?_
  refine Seq.guard_on' rfl rfl hc1 ?_
  have c57 := s35.trans s47
  have o56 := o29.up c57
  refine sv (Does.load_own1 o56 ty22 rfl rfl) ?_
  refine Seq.guard_on' rfl rfl hc1 ?_
  refine sv (Does.len Try.underlying22 rfl) ?_
  refine Seq.guard_on' rfl rfl hc1 ?_
  refine sv (Does.gtr rfl rfl) ?_
  refine sv (Does.pick_b rfl hc1 rfl) ?_
  refine sv (Does.move rfl) ?_
  rcases Decidable.em ((5000 : Int) < (((List.length vt.value : Nat) : Int) : Int)) with hp2 | hp2
  · refine Seq.guard_off' rfl rfl (decide_eq_true hp2) rfl (by decide) ?_
    refine Seq.guard_off' rfl rfl (decide_eq_true hp2) rfl (by decide) ?_
    refine Seq.guard_off' rfl rfl (decide_eq_true hp2) rfl (by decide) ?_
    refine sv (Does.pick_b rfl (decide_eq_true hp2) rfl) ?_
    refine sv (Does.move rfl) ?_
    refine Seq.guard_off' rfl rfl rfl rfl (by decide) ?_
    refine Seq.guard_off' rfl rfl rfl rfl (by decide) ?_
    refine Seq.guard_off' rfl rfl rfl rfl (by decide) ?_
    refine sv (Does.pick_t rfl rfl) ?_
    refine Seq.next ?_
    refine Run.cond_b rfl rfl ?_
    refine rsr ?_
    refine scall (V := Is (.bool true)) cal19 h48 rfl (law17_lives2 h48 ) fun v58 w59 q60 s61 h62 => ?_
    have q60 := Is.out q60; subst q60
    refine sv (Does.assign rfl) ?_
    refine Seq.next ?_
    have c63 := s47.trans s61
    have c64 := c40.trans c63
    obtain ⟨⟨zU, zo⟩, zb⟩ := hX c64 (by decide)
    refine Run.ret (ret_then ?_)
    exact post_one Try.results5 rfl ⟨_, rfl, rfl, zb⟩
  refine Seq.guard_on' rfl rfl (decide_eq_false hp2) ?_
  refine sv (Does.move rfl) ?_
  refine Seq.guard_on' rfl rfl (decide_eq_false hp2) ?_
  refine sv (Does.len Try.underlying22 rfl) ?_
  refine Seq.guard_on' rfl rfl (decide_eq_false hp2) ?_
  refine sv (Does.eql rfl rfl) ?_
  refine sv (Does.pick_b rfl (decide_eq_false hp2) rfl) ?_
  refine sv (Does.move rfl) ?_
  rcases Decidable.em ((((List.length more : Nat) : Int) : Int) = (0 : Int)) with hp3 | hp3
  · refine Seq.guard_off' rfl rfl (decide_eq_true hp3) rfl (by decide) ?_
    refine Seq.guard_off' rfl rfl (decide_eq_true hp3) rfl (by decide) ?_
    refine Seq.guard_off' rfl rfl (decide_eq_true hp3) rfl (by decide) ?_
    refine sv (Does.pick_b rfl (decide_eq_true hp3) rfl) ?_
    refine Seq.next ?_
    refine Run.cond_b rfl rfl ?_
    refine rsr ?_
    refine scall (V := Is (.bool true)) cal19 h48 rfl (law17_lives2 h48 ) fun v65 w66 q67 s68 h69 => ?_
    have q67 := Is.out q67; subst q67
    refine sv (Does.assign rfl) ?_
    refine Seq.next ?_
    have c70 := s47.trans s68
    have c71 := c40.trans c70
    obtain ⟨⟨zU, zo⟩, zb⟩ := hX c71 (by decide)
    refine Run.ret (ret_then ?_)
    exact post_one Try.results5 rfl ⟨_, rfl, rfl, zb⟩
  refine Seq.guard_on' rfl rfl (decide_eq_false hp3) ?_
  refine sv (Does.move rfl) ?_
  refine Seq.guard_on' rfl rfl (decide_eq_false hp3) ?_
  refine sv (Does.len Try.underlying22 rfl) ?_
  refine Seq.guard_on' rfl rfl (decide_eq_false hp3) ?_
  refine sv (Does.gtr rfl rfl) ?_
  refine sv (Does.pick_b rfl (decide_eq_false hp3) rfl) ?_
  refine Seq.next ?_
  rcases Decidable.em ((100 : Int) < (((List.length more : Nat) : Int) : Int)) with hp4 | hp4
  · refine Run.cond_b rfl (decide_eq_true hp4) ?_
    refine rsr ?_
    refine scall (V := Is (.bool true)) cal19 h48 rfl (law17_lives2 h48 ) fun v72 w73 q74 s75 h76 => ?_
    have q74 := Is.out q74; subst q74
    refine sv (Does.assign rfl) ?_
    refine Seq.next ?_
    have c77 := s47.trans s75
    have c78 := c40.trans c77
    obtain ⟨⟨zU, zo⟩, zb⟩ := hX c78 (by decide)
    refine Run.ret (ret_then ?_)
    exact post_one Try.results5 rfl ⟨_, rfl, rfl, zb⟩
  refine Run.cond_b rfl (decide_eq_false hp4) ?_
  refine Run.skip_go (fun _ _ h => h) ?_
  refine rsr ?_
  have o79 := o37.up s47
  refine sv (Does.load_ownN [i64 pl.kind, i64 pl.author, i64 pl.epoch, i64 pl.mode, i64 pl.peer, i64 pl.phase, .slice A1 (List.length pl.nums) c2, .slice A4 (List.length pl.texts) c5, .slice A7 (List.length pl.proof) c8] o79 ty36 rfl rfl) ?_
  have q81 := up s47 q41
  have q82 := up s47 q42
  have q83 := up s47 q43
  have q80 : PlainV pl L26 w45 (.agg #[i64 pl.kind, i64 pl.author, i64 pl.epoch, i64 pl.mode, i64 pl.peer, i64 pl.phase, .slice A1 (List.length pl.nums) c2, .slice A4 (List.length pl.texts) c5, .slice A7 (List.length pl.proof) c8]) := PlainV.mk q81 q82 q83
  refine scall (V := And2 (EntryV (ofE pl)) (RentryV (EntryD.ref (ofE pl)))) cal24 h48 rfl (law17_of h48 q80 (show List.length pl.nums ≤ 100 from by exact few_nums (by simpa using hc1))) fun v84 w85 q86 s87 h88 => ?_
  obtain ⟨v89, v90, rfl, q91, q92⟩ := q86
  obtain ⟨A93, c94, A96, c97, A99, c100, rfl, q95, q98, q101⟩ := EntryV.open q91
  have z102 := NatsV.cap q95
  have z103 := RowsV.cap q98
  have z104 := BytesV.cap q101
  obtain ⟨A105, c106, A108, c109, A111, c112, rfl, q107, q110, q113⟩ := RentryV.open q92
  have z114 := NumsV.cap q107
  have z115 := RowsV.cap q110
  have z116 := BytesV.cap q113
  refine sv (Does.move rfl) ?_
  refine sv (Does.extract rfl rfl) ?_
  refine sv (Does.extract rfl rfl) ?_
  refine salloc 10 [.int .i64 0, .int .i64 0, .int .i64 0, .int .i64 0, .int .i64 0, .int .i64 0, .slice none 0 0, .slice none 0 0, .slice none 0 0] h88 ty40 rfl fun b119 L117 w118 o120 s121 h122 => ?_
  refine salloc 11 [.int .i64 0, .int .i64 0, .int .i64 0, .int .i64 0, .int .i64 0, .int .i64 0, .slice none 0 0, .slice none 0 0, .slice none 0 0] h122 ty43 rfl fun b125 L123 w124 o126 s127 h128 => ?_
  have o129 := o120.up s127
  refine sstore [i64 ((ofE pl).kind), i64 ((ofE pl).author), i64 ((ofE pl).epoch), i64 ((ofE pl).mode), i64 ((ofE pl).peer), i64 ((ofE pl).phase), .slice A93 (List.length (ofE pl).nums) c94, .slice A96 (List.length (ofE pl).texts) c97, .slice A99 (List.length (ofE pl).proof) c100] h128 o129 ty40 rfl rfl rfl (Nat.le_of_ble_eq_true rfl) rfl rfl fun w130 o131 s132 h133 => ?_
  have o134 := o126.up s132
  refine sstore [i64 ((EntryD.ref (ofE pl)).kind), i64 ((EntryD.ref (ofE pl)).author), i64 ((EntryD.ref (ofE pl)).epoch), i64 ((EntryD.ref (ofE pl)).mode), i64 ((EntryD.ref (ofE pl)).peer), i64 ((EntryD.ref (ofE pl)).phase), .slice A105 (List.length (EntryD.ref (ofE pl)).nums) c106, .slice A108 (List.length (EntryD.ref (ofE pl)).texts) c109, .slice A111 (List.length (EntryD.ref (ofE pl)).proof) c112] h133 o134 ty43 rfl rfl rfl (Nat.le_of_ble_eq_true rfl) rfl rfl fun w135 o136 s137 h138 => ?_
  refine Seq.next ?_
  refine Run.seq ?_
  refine rsr ?_
  have o139 := o131.up s137
  refine sv (Does.load_ownN [i64 ((ofE pl).kind), i64 ((ofE pl).author), i64 ((ofE pl).epoch), i64 ((ofE pl).mode), i64 ((ofE pl).peer), i64 ((ofE pl).phase), .slice A93 (List.length (ofE pl).nums) c94, .slice A96 (List.length (ofE pl).texts) c97, .slice A99 (List.length (ofE pl).proof) c100] o139 ty40 rfl rfl) ?_
  have c141 := s132.trans s137
  have c142 := s127.trans c141
  have c143 := s121.trans c142
  have q144 := up c143 q95
  have q145 := up c143 q98
  have q146 := up c143 q101
  have q140 : EntryV (ofE pl) L123 w135 (.agg #[i64 ((ofE pl).kind), i64 ((ofE pl).author), i64 ((ofE pl).epoch), i64 ((ofE pl).mode), i64 ((ofE pl).peer), i64 ((ofE pl).phase), .slice A93 (List.length (ofE pl).nums) c94, .slice A96 (List.length (ofE pl).texts) c97, .slice A99 (List.length (ofE pl).proof) c100]) := EntryV.mk q144 q145 q146
  refine scall (V := And2 (BytesV (if (ofE pl).no then [] else (ofE pl).all)) (Is (i64 (if (ofE pl).no then 3 else 0)))) cal25 h138 rfl (wire_EncodeEntry h138 q140 (show ∀ k, k < List.length (ofE pl).nums → nw (List.getD (ofE pl).nums k 0) ≤ 1000000 from by exact ofE_nw pl)) fun v147 w148 q149 s150 h151 => ?_
  obtain ⟨v152, v153, rfl, q154, q155⟩ := q149
  obtain ⟨A156, c157, rfl⟩ := BytesV.shape q154
  have z158 := BytesV.cap q154
  have q155 := Is.out q155; subst q155
  refine sv (Does.move rfl) ?_
  refine sv (Does.extract rfl rfl) ?_
  refine sv (Does.extract rfl rfl) ?_
  refine sv (Does.assign rfl) ?_
  refine sv (Does.assign rfl) ?_
  refine nsr ?_
  refine sv (Does.move rfl) ?_
  refine sv (Does.eql rfl rfl) ?_
  refine Seq.next ?_
  rcases Decidable.em ((if (ofE pl).no then 3 else 0 : Int) = (0 : Int)) with hp5 | hp5
  rotate_left
  · refine Run.cond_b rfl (decide_eq_false hp5) ?_
    refine Run.skip_go (fun _ _ h => h) ?_
    refine Run.seq ?_
    refine rsr ?_
    have c405 := c143.trans s150
    have c406 := s87.trans c405
    have o404 := o56.up c406
    refine sv (Does.load_ownN [i64 vt.kind, i64 vt.from_, i64 vt.slot, i64 vt.view, i64 vt.valid, .slice A13 (List.length vt.value) c14] o404 ty24 rfl rfl) ?_
    have c408 := s47.trans c406
    have c409 := c40.trans c408
    have q410 := up c409 q15
    have q407 : VoteV vt L123 w148 (.agg #[i64 vt.kind, i64 vt.from_, i64 vt.slot, i64 vt.view, i64 vt.valid, .slice A13 (List.length vt.value) c14]) := VoteV.mk q410
    refine scall (V := And2 (BytesV (if vt.bad then [] else vt.bytes)) (Is (i64 (if vt.bad then 3 else 0)))) cal20 h151 rfl (wire_EncodeVote h151 q407 (show List.length vt.value ≤ 100000 from by omega)) fun v411 w412 q413 s414 h415 => ?_
    obtain ⟨v416, v417, rfl, q418, q419⟩ := q413
    obtain ⟨A420, c421, rfl⟩ := BytesV.shape q418
    have z422 := BytesV.cap q418
    have q419 := Is.out q419; subst q419
    refine sv (Does.move rfl) ?_
    refine sv (Does.extract rfl rfl) ?_
    refine sv (Does.extract rfl rfl) ?_
    refine sv (Does.assign rfl) ?_
    refine sv (Does.assign rfl) ?_
    refine nsr ?_
    refine sv (Does.move rfl) ?_
    refine sv (Does.eql rfl rfl) ?_
    refine Seq.next ?_
    rcases Decidable.em ((if vt.bad then 3 else 0 : Int) = (0 : Int)) with hp6 | hp6
    rotate_left
    · refine Run.cond_b rfl (decide_eq_false hp6) ?_
      refine Run.skip_go (fun _ _ h => h) ?_
      refine rsr ?_
      refine sv (Does.assign rfl) ?_
      refine Seq.next ?_
      have c526 := c409.trans s414
      obtain ⟨⟨zU, zo⟩, zb⟩ := hX c526 (by decide)
      refine Run.ret ?_
      exact post_one Try.results5 rfl ⟨_, rfl, rfl, zb⟩
    refine Run.cond_b rfl (decide_eq_true hp6) ?_
    refine rsr ?_
    refine sv (Does.move rfl) ?_
    refine sv (Does.move rfl) ?_
    refine sv (Does.conv_int Try.underlying3 Try.underlying50 rfl (wrap_i64_u64i _)) ?_
    refine sv (Does.move rfl) ?_
    refine sv (Does.len Try.underlying22 rfl) ?_
    refine sv (Does.conv_int Try.underlying3 Try.underlying50 rfl (wrap_i64_u64i _)) ?_
    refine sv (Does.u64_rem rfl rfl (by first | omega | (have h9 := hE (by assumption); omega) | (have h9 := hV (by omega) (by assumption); omega) | exact umod_ne (hE (by assumption)).1 (by have h9 := hE (by assumption); omega) | exact umod_ne (hV (by omega) (by assumption)).1 (by have h9 := hV (by omega) (by assumption); omega))) ?_
    refine sv (Does.conv_int Try.underlying50 Try.underlying3 rfl (by rw [i64_wrap_in (by omega) (by first | omega | (have h9 := hE (by assumption); omega) | (have h9 := hV (by omega) (by assumption); omega) | exact umod_ne (hE (by assumption)).1 (by have h9 := hE (by assumption); omega) | exact umod_ne (hV (by omega) (by assumption)).1 (by have h9 := hV (by omega) (by assumption); omega))])) ?_
    have q423 := BytesV.takeN q418 (((u64i cut) % (u64i ((List.length (if vt.bad then [] else vt.bytes) : Nat) : Int))).toNat) (by first | omega | (have h9 := hE (by assumption); omega) | (have h9 := hV (by omega) (by assumption); omega) | exact umod_ne (hE (by assumption)).1 (by have h9 := hE (by assumption); omega) | exact umod_ne (hV (by omega) (by assumption)).1 (by have h9 := hV (by omega) (by assumption); omega))
    refine sv (Does.slice_hi (((u64i cut) % (u64i ((List.length (if vt.bad then [] else vt.bytes) : Nat) : Int))).toNat) Try.underlying22 ty5 rfl rfl (by first | omega | (have h9 := hE (by assumption); omega) | (have h9 := hV (by omega) (by assumption); omega) | exact umod_ne (hE (by assumption)).1 (by have h9 := hE (by assumption); omega) | exact umod_ne (hV (by omega) (by assumption)).1 (by have h9 := hV (by omega) (by assumption); omega)) (by have := (BytesV.cap q418).2; first | omega | (have h9 := hE (by assumption); omega) | (have h9 := hV (by omega) (by assumption); omega) | exact umod_ne (hE (by assumption)).1 (by have h9 := hE (by assumption); omega) | exact umod_ne (hV (by omega) (by assumption)).1 (by have h9 := hV (by omega) (by assumption); omega))) ?_
    refine scall (V := And2 (VoteV (decV (List.take (((u64i cut) % (u64i ((List.length (if vt.bad then [] else vt.bytes) : Nat) : Int))).toNat) (if vt.bad then [] else vt.bytes)))) (Is (i64 (if decVOk (List.take (((u64i cut) % (u64i ((List.length (if vt.bad then [] else vt.bytes) : Nat) : Int))).toNat) (if vt.bad then [] else vt.bytes)) then 0 else 3)))) cal28 h415 rfl (wire_DecodeVote h415 q423 (show List.length (List.take (((u64i cut) % (u64i ((List.length (if vt.bad then [] else vt.bytes) : Nat) : Int))).toNat) (if vt.bad then [] else vt.bytes)) ≤ 1000000 from by first | (rw [List.length_take]; first | omega | (have h9 := hE (by assumption); omega) | (have h9 := hV (by omega) (by assumption); omega) | exact umod_ne (hE (by assumption)).1 (by have h9 := hE (by assumption); omega) | exact umod_ne (hV (by omega) (by assumption)).1 (by have h9 := hV (by omega) (by assumption); omega)) | (rw [List.length_append]; first | omega | (have h9 := hE (by assumption); omega) | (have h9 := hV (by omega) (by assumption); omega) | exact umod_ne (hE (by assumption)).1 (by have h9 := hE (by assumption); omega) | exact umod_ne (hV (by omega) (by assumption)).1 (by have h9 := hV (by omega) (by assumption); omega)) | first | omega | (have h9 := hE (by assumption); omega) | (have h9 := hV (by omega) (by assumption); omega) | exact umod_ne (hE (by assumption)).1 (by have h9 := hE (by assumption); omega) | exact umod_ne (hV (by omega) (by assumption)).1 (by have h9 := hV (by omega) (by assumption); omega))) fun v424 w425 q426 s427 h428 => ?_
    obtain ⟨v429, v430, rfl, q431, q432⟩ := q426
    obtain ⟨A433, c434, rfl, q435⟩ := VoteV.open q431
    have z436 := BytesV.cap q435
    have q432 := Is.out q432; subst q432
    refine sv (Does.move rfl) ?_
    refine sv (Does.extract rfl rfl) ?_
    refine sv (Does.extract rfl rfl) ?_
    refine salloc 20 [.int .i64 0, .int .i64 0, .int .i64 0, .int .i64 0, .int .i64 0, .slice none 0 0] h428 ty24 rfl fun b439 L437 w438 o440 s441 h442 => ?_
    refine sstore [i64 ((decV (List.take (((u64i cut) % (u64i ((List.length (if vt.bad then [] else vt.bytes) : Nat) : Int))).toNat) (if vt.bad then [] else vt.bytes))).kind), i64 ((decV (List.take (((u64i cut) % (u64i ((List.length (if vt.bad then [] else vt.bytes) : Nat) : Int))).toNat) (if vt.bad then [] else vt.bytes))).from_), i64 ((decV (List.take (((u64i cut) % (u64i ((List.length (if vt.bad then [] else vt.bytes) : Nat) : Int))).toNat) (if vt.bad then [] else vt.bytes))).slot), i64 ((decV (List.take (((u64i cut) % (u64i ((List.length (if vt.bad then [] else vt.bytes) : Nat) : Int))).toNat) (if vt.bad then [] else vt.bytes))).view), i64 ((decV (List.take (((u64i cut) % (u64i ((List.length (if vt.bad then [] else vt.bytes) : Nat) : Int))).toNat) (if vt.bad then [] else vt.bytes))).valid), .slice A433 (List.length (decV (List.take (((u64i cut) % (u64i ((List.length (if vt.bad then [] else vt.bytes) : Nat) : Int))).toNat) (if vt.bad then [] else vt.bytes))).value) c434] h442 o440 ty24 rfl rfl rfl (Nat.le_of_ble_eq_true rfl) rfl rfl fun w443 o444 s445 h446 => ?_
    refine sv (Does.assign rfl) ?_
    refine nsr ?_
    refine Seq.build_empty (k := 109) h446 Try.underlying22 ty5 (by decide) ?_
    intro lab447 w448 v449 o450 s451 hv452
    obtain ⟨A453, c454, rfl⟩ := App.shape o450
    have z456 := (App.row o450).2
    refine sv (Does.move rfl) ?_
    have c457 := s445.trans s451
    have c458 := s441.trans c457
    have c459 := s427.trans c458
    have q460 := up c459 q418
    refine Seq.append (k := 109) (List.map u8 (if vt.bad then [] else vt.bytes)) hv452 o450 Try.underlying22 ty5 rfl rfl rfl (by simp) (BytesV.row q460) oneCell_u8 (by first | omega | (have h9 := hE (by assumption); omega) | (have h9 := hV (by omega) (by assumption); omega) | exact umod_ne (hE (by assumption)).1 (by have h9 := hE (by assumption); omega) | exact umod_ne (hV (by omega) (by assumption)).1 (by have h9 := hV (by omega) (by assumption); omega)) (by first | omega | (have h9 := hE (by assumption); omega) | (have h9 := hV (by omega) (by assumption); omega) | exact umod_ne (hE (by assumption)).1 (by have h9 := hE (by assumption); omega) | exact umod_ne (hV (by omega) (by assumption)).1 (by have h9 := hV (by omega) (by assumption); omega)) (by decide) ?_
    intro lab461 w462 v463 o464 s465 hv466
    rw [List.nil_append] at o464
    obtain ⟨A467, c468, rfl⟩ := App.shape o464
    have m469 : List.length (if vt.bad then [] else vt.bytes) = 0 + (List.length (if vt.bad then [] else vt.bytes)) := App.lenMap o464
    have z470 := (App.row o464).2
    refine sv (Does.move rfl) ?_
    have c471 := c459.trans s465
    have c472 := s414.trans c471
    have c473 := c409.trans c472
    have q474 := up c473 h3
    refine Seq.append (k := 109) (List.map u8 more) hv466 o464 Try.underlying22 ty5 rfl rfl rfl (by simp) (BytesV.row q474) oneCell_u8 (by first | omega | (have h9 := hE (by assumption); omega) | (have h9 := hV (by omega) (by assumption); omega) | exact umod_ne (hE (by assumption)).1 (by have h9 := hE (by assumption); omega) | exact umod_ne (hV (by omega) (by assumption)).1 (by have h9 := hV (by omega) (by assumption); omega)) (by first | omega | (have h9 := hE (by assumption); omega) | (have h9 := hV (by omega) (by assumption); omega) | exact umod_ne (hE (by assumption)).1 (by have h9 := hE (by assumption); omega) | exact umod_ne (hV (by omega) (by assumption)).1 (by have h9 := hV (by omega) (by assumption); omega)) (by decide) ?_
    intro lab475 w476 v477 o478 s479 hv480
    rw [← List.map_append] at o478
    obtain ⟨A481, c482, rfl⟩ := App.shape o478
    have m483 : List.length ((if vt.bad then [] else vt.bytes) ++ more) = 0 + (List.length (if vt.bad then [] else vt.bytes)) + (List.length more) := App.lenMap o478
    have z484 := (App.row o478).2
    have hv485 := Valid.release hv480 109
    have m487 : List.length ((if vt.bad then [] else vt.bytes) ++ more) = 0 + (List.length (if vt.bad then [] else vt.bytes)) + (List.length more) := App.lenMap o478
    have q486 : BytesV ((if vt.bad then [] else vt.bytes) ++ more) (labFree lab475 109) w476 (.slice A481 (0 + (List.length (if vt.bad then [] else vt.bytes)) + (List.length more)) c482) := ⟨_, _, (by first | (rw [m487]; done) | rw [← m487]), (by have h9 := (App.row o478).2.1; first | (rw [m487]; exact h9) | (rw [← m487] at h9; exact h9)), (App.row o478).2.2, (App.row o478).1⟩
    refine scall (V := And2 (VoteV (decV ((if vt.bad then [] else vt.bytes) ++ more))) (Is (i64 (if decVOk ((if vt.bad then [] else vt.bytes) ++ more) then 0 else 3)))) cal28 hv485 rfl (wire_DecodeVote hv485 q486 (show List.length ((if vt.bad then [] else vt.bytes) ++ more) ≤ 1000000 from by first | (rw [List.length_take]; first | omega | (have h9 := hE (by assumption); omega) | (have h9 := hV (by omega) (by assumption); omega) | exact umod_ne (hE (by assumption)).1 (by have h9 := hE (by assumption); omega) | exact umod_ne (hV (by omega) (by assumption)).1 (by have h9 := hV (by omega) (by assumption); omega)) | (rw [List.length_append]; first | omega | (have h9 := hE (by assumption); omega) | (have h9 := hV (by omega) (by assumption); omega) | exact umod_ne (hE (by assumption)).1 (by have h9 := hE (by assumption); omega) | exact umod_ne (hV (by omega) (by assumption)).1 (by have h9 := hV (by omega) (by assumption); omega)) | first | omega | (have h9 := hE (by assumption); omega) | (have h9 := hV (by omega) (by assumption); omega) | exact umod_ne (hE (by assumption)).1 (by have h9 := hE (by assumption); omega) | exact umod_ne (hV (by omega) (by assumption)).1 (by have h9 := hV (by omega) (by assumption); omega))) fun v488 w489 q490 s491 h492 => ?_
    obtain ⟨v493, v494, rfl, q495, q496⟩ := q490
    obtain ⟨A497, c498, rfl, q499⟩ := VoteV.open q495
    have z500 := BytesV.cap q499
    have q496 := Is.out q496; subst q496
    refine sv (Does.move rfl) ?_
    refine sv (Does.extract rfl rfl) ?_
    refine sv (Does.extract rfl rfl) ?_
    refine salloc 22 [.int .i64 0, .int .i64 0, .int .i64 0, .int .i64 0, .int .i64 0, .slice none 0 0] h492 ty24 rfl fun b503 L501 w502 o504 s505 h506 => ?_
    refine sstore [i64 ((decV ((if vt.bad then [] else vt.bytes) ++ more)).kind), i64 ((decV ((if vt.bad then [] else vt.bytes) ++ more)).from_), i64 ((decV ((if vt.bad then [] else vt.bytes) ++ more)).slot), i64 ((decV ((if vt.bad then [] else vt.bytes) ++ more)).view), i64 ((decV ((if vt.bad then [] else vt.bytes) ++ more)).valid), .slice A497 (List.length (decV ((if vt.bad then [] else vt.bytes) ++ more)).value) c498] h506 o504 ty24 rfl rfl rfl (Nat.le_of_ble_eq_true rfl) rfl rfl fun w507 o508 s509 h510 => ?_
    refine sv (Does.assign rfl) ?_
    refine nsr ?_
    refine sv (Does.move rfl) ?_
    refine sv (Does.neq rfl rfl) ?_
    refine sv (Does.move rfl) ?_
    rcases Decidable.em ((if decVOk (List.take (((u64i cut) % (u64i ((List.length (if vt.bad then [] else vt.bytes) : Nat) : Int))).toNat) (if vt.bad then [] else vt.bytes)) then 0 else 3 : Int) ≠ (3 : Int)) with hp7 | hp7
    · refine Seq.guard_off' rfl rfl (decide_eq_true hp7) rfl (by decide) ?_
      refine Seq.guard_off' rfl rfl (decide_eq_true hp7) rfl (by decide) ?_
      refine sv (Does.pick_b rfl (decide_eq_true hp7) rfl) ?_
      refine Seq.next ?_
      refine Run.cond_b rfl rfl ?_
      refine rsr ?_
      refine sv (Does.assign rfl) ?_
      refine Seq.next ?_
      have c511 := s505.trans s509
      have c512 := s491.trans c511
      have c513 := (Stp.release (lab := lab475) (w := w476) 109).trans c512
      have c514 := s479.trans c513
      have c515 := c473.trans c514
      obtain ⟨⟨zU, zo⟩, zb⟩ := hX c515 (by decide)
      refine Run.ret (ret_then ?_)
      exact post_one Try.results5 rfl ⟨_, rfl, (isBool (by first | (exact absurd (ent_cut (by assumption) (hE (by assumption)).2.2) (by assumption); done) | (exact absurd (ent_more (by assumption) (by assumption)) (by assumption); done) | (exact absurd (vot_cut (by assumption) (hV (by omega) (by assumption)).2.2) (by assumption); done) | (exact absurd (vot_more (by assumption) (by assumption)) (by assumption); done) | (with_reducible rfl; done) | (omega; done) | (simp_all; done)) _ _), zb⟩
    refine Seq.guard_on' rfl rfl (decide_eq_false hp7) ?_
    refine sv (Does.move rfl) ?_
    refine Seq.guard_on' rfl rfl (decide_eq_false hp7) ?_
    refine sv (Does.neq rfl rfl) ?_
    refine sv (Does.pick_b rfl (decide_eq_false hp7) rfl) ?_
    refine Seq.next ?_
    rcases Decidable.em ((if decVOk ((if vt.bad then [] else vt.bytes) ++ more) then 0 else 3 : Int) ≠ (3 : Int)) with hp8 | hp8
    rotate_left
    · refine Run.cond_b rfl (decide_eq_false hp8) ?_
      refine Run.skip_go (fun _ _ h => h) ?_
      refine rsr ?_
      refine sv (Does.assign rfl) ?_
      refine Seq.next ?_
      have c521 := s505.trans s509
      have c522 := s491.trans c521
      have c523 := (Stp.release (lab := lab475) (w := w476) 109).trans c522
      have c524 := s479.trans c523
      have c525 := c473.trans c524
      obtain ⟨⟨zU, zo⟩, zb⟩ := hX c525 (by decide)
      refine Run.ret ?_
      exact post_one Try.results5 rfl ⟨_, rfl, rfl, zb⟩
    refine Run.cond_b rfl (decide_eq_true hp8) ?_
    refine rsr ?_
    refine sv (Does.assign rfl) ?_
    refine Seq.next ?_
    have c516 := s505.trans s509
    have c517 := s491.trans c516
    have c518 := (Stp.release (lab := lab475) (w := w476) 109).trans c517
    have c519 := s479.trans c518
    have c520 := c473.trans c519
    obtain ⟨⟨zU, zo⟩, zb⟩ := hX c520 (by decide)
    refine Run.ret (ret_then ?_)
    exact post_one Try.results5 rfl ⟨_, rfl, (isBool (by first | (exact absurd (ent_cut (by assumption) (hE (by assumption)).2.2) (by assumption); done) | (exact absurd (ent_more (by assumption) (by assumption)) (by assumption); done) | (exact absurd (vot_cut (by assumption) (hV (by omega) (by assumption)).2.2) (by assumption); done) | (exact absurd (vot_more (by assumption) (by assumption)) (by assumption); done) | (with_reducible rfl; done) | (omega; done) | (simp_all; done)) _ _), zb⟩
  refine Run.cond_b rfl (decide_eq_true hp5) ?_
  refine rsr ?_
  refine sv (Does.move rfl) ?_
  refine sv (Does.move rfl) ?_
  refine sv (Does.conv_int Try.underlying3 Try.underlying50 rfl (wrap_i64_u64i _)) ?_
  refine sv (Does.move rfl) ?_
  refine sv (Does.len Try.underlying22 rfl) ?_
  refine sv (Does.conv_int Try.underlying3 Try.underlying50 rfl (wrap_i64_u64i _)) ?_
  refine sv (Does.u64_rem rfl rfl (by first | omega | (have h9 := hE (by assumption); omega) | (have h9 := hV (by omega) (by assumption); omega) | exact umod_ne (hE (by assumption)).1 (by have h9 := hE (by assumption); omega) | exact umod_ne (hV (by omega) (by assumption)).1 (by have h9 := hV (by omega) (by assumption); omega))) ?_
  refine sv (Does.conv_int Try.underlying50 Try.underlying3 rfl (by rw [i64_wrap_in (by omega) (by first | omega | (have h9 := hE (by assumption); omega) | (have h9 := hV (by omega) (by assumption); omega) | exact umod_ne (hE (by assumption)).1 (by have h9 := hE (by assumption); omega) | exact umod_ne (hV (by omega) (by assumption)).1 (by have h9 := hV (by omega) (by assumption); omega))])) ?_
  have q159 := BytesV.takeN q154 (((u64i cut) % (u64i ((List.length (if (ofE pl).no then [] else (ofE pl).all) : Nat) : Int))).toNat) (by first | omega | (have h9 := hE (by assumption); omega) | (have h9 := hV (by omega) (by assumption); omega) | exact umod_ne (hE (by assumption)).1 (by have h9 := hE (by assumption); omega) | exact umod_ne (hV (by omega) (by assumption)).1 (by have h9 := hV (by omega) (by assumption); omega))
  refine sv (Does.slice_hi (((u64i cut) % (u64i ((List.length (if (ofE pl).no then [] else (ofE pl).all) : Nat) : Int))).toNat) Try.underlying22 ty5 rfl rfl (by first | omega | (have h9 := hE (by assumption); omega) | (have h9 := hV (by omega) (by assumption); omega) | exact umod_ne (hE (by assumption)).1 (by have h9 := hE (by assumption); omega) | exact umod_ne (hV (by omega) (by assumption)).1 (by have h9 := hV (by omega) (by assumption); omega)) (by have := (BytesV.cap q154).2; first | omega | (have h9 := hE (by assumption); omega) | (have h9 := hV (by omega) (by assumption); omega) | exact umod_ne (hE (by assumption)).1 (by have h9 := hE (by assumption); omega) | exact umod_ne (hV (by omega) (by assumption)).1 (by have h9 := hV (by omega) (by assumption); omega))) ?_
  refine scall (V := And2 (EntryV (decE (List.take (((u64i cut) % (u64i ((List.length (if (ofE pl).no then [] else (ofE pl).all) : Nat) : Int))).toNat) (if (ofE pl).no then [] else (ofE pl).all)))) (Is (i64 (if decOk (List.take (((u64i cut) % (u64i ((List.length (if (ofE pl).no then [] else (ofE pl).all) : Nat) : Int))).toNat) (if (ofE pl).no then [] else (ofE pl).all)) then 0 else 3)))) cal27 h151 rfl (wire_DecodeEntry h151 q159 (show List.length (List.take (((u64i cut) % (u64i ((List.length (if (ofE pl).no then [] else (ofE pl).all) : Nat) : Int))).toNat) (if (ofE pl).no then [] else (ofE pl).all)) ≤ 1000000 from by first | (rw [List.length_take]; first | omega | (have h9 := hE (by assumption); omega) | (have h9 := hV (by omega) (by assumption); omega) | exact umod_ne (hE (by assumption)).1 (by have h9 := hE (by assumption); omega) | exact umod_ne (hV (by omega) (by assumption)).1 (by have h9 := hV (by omega) (by assumption); omega)) | (rw [List.length_append]; first | omega | (have h9 := hE (by assumption); omega) | (have h9 := hV (by omega) (by assumption); omega) | exact umod_ne (hE (by assumption)).1 (by have h9 := hE (by assumption); omega) | exact umod_ne (hV (by omega) (by assumption)).1 (by have h9 := hV (by omega) (by assumption); omega)) | first | omega | (have h9 := hE (by assumption); omega) | (have h9 := hV (by omega) (by assumption); omega) | exact umod_ne (hE (by assumption)).1 (by have h9 := hE (by assumption); omega) | exact umod_ne (hV (by omega) (by assumption)).1 (by have h9 := hV (by omega) (by assumption); omega))) fun v160 w161 q162 s163 h164 => ?_
  obtain ⟨v165, v166, rfl, q167, q168⟩ := q162
  obtain ⟨A169, c170, A172, c173, A175, c176, rfl, q171, q174, q177⟩ := EntryV.open q167
  have z178 := NatsV.cap q171
  have z179 := RowsV.cap q174
  have z180 := BytesV.cap q177
  have q168 := Is.out q168; subst q168
  refine sv (Does.move rfl) ?_
  refine sv (Does.extract rfl rfl) ?_
  refine sv (Does.extract rfl rfl) ?_
  refine salloc 14 [.int .i64 0, .int .i64 0, .int .i64 0, .int .i64 0, .int .i64 0, .int .i64 0, .slice none 0 0, .slice none 0 0, .slice none 0 0] h164 ty40 rfl fun b183 L181 w182 o184 s185 h186 => ?_
  refine sstore [i64 ((decE (List.take (((u64i cut) % (u64i ((List.length (if (ofE pl).no then [] else (ofE pl).all) : Nat) : Int))).toNat) (if (ofE pl).no then [] else (ofE pl).all))).kind), i64 ((decE (List.take (((u64i cut) % (u64i ((List.length (if (ofE pl).no then [] else (ofE pl).all) : Nat) : Int))).toNat) (if (ofE pl).no then [] else (ofE pl).all))).author), i64 ((decE (List.take (((u64i cut) % (u64i ((List.length (if (ofE pl).no then [] else (ofE pl).all) : Nat) : Int))).toNat) (if (ofE pl).no then [] else (ofE pl).all))).epoch), i64 ((decE (List.take (((u64i cut) % (u64i ((List.length (if (ofE pl).no then [] else (ofE pl).all) : Nat) : Int))).toNat) (if (ofE pl).no then [] else (ofE pl).all))).mode), i64 ((decE (List.take (((u64i cut) % (u64i ((List.length (if (ofE pl).no then [] else (ofE pl).all) : Nat) : Int))).toNat) (if (ofE pl).no then [] else (ofE pl).all))).peer), i64 ((decE (List.take (((u64i cut) % (u64i ((List.length (if (ofE pl).no then [] else (ofE pl).all) : Nat) : Int))).toNat) (if (ofE pl).no then [] else (ofE pl).all))).phase), .slice A169 (List.length (decE (List.take (((u64i cut) % (u64i ((List.length (if (ofE pl).no then [] else (ofE pl).all) : Nat) : Int))).toNat) (if (ofE pl).no then [] else (ofE pl).all))).nums) c170, .slice A172 (List.length (decE (List.take (((u64i cut) % (u64i ((List.length (if (ofE pl).no then [] else (ofE pl).all) : Nat) : Int))).toNat) (if (ofE pl).no then [] else (ofE pl).all))).texts) c173, .slice A175 (List.length (decE (List.take (((u64i cut) % (u64i ((List.length (if (ofE pl).no then [] else (ofE pl).all) : Nat) : Int))).toNat) (if (ofE pl).no then [] else (ofE pl).all))).proof) c176] h186 o184 ty40 rfl rfl rfl (Nat.le_of_ble_eq_true rfl) rfl rfl fun w187 o188 s189 h190 => ?_
  refine sv (Does.assign rfl) ?_
  refine nsr ?_
  refine Seq.build_empty (k := 74) h190 Try.underlying22 ty5 (by decide) ?_
  intro lab191 w192 v193 o194 s195 hv196
  obtain ⟨A197, c198, rfl⟩ := App.shape o194
  have z200 := (App.row o194).2
  refine sv (Does.move rfl) ?_
  have c201 := s189.trans s195
  have c202 := s185.trans c201
  have c203 := s163.trans c202
  have q204 := up c203 q154
  refine Seq.append (k := 74) (List.map u8 (if (ofE pl).no then [] else (ofE pl).all)) hv196 o194 Try.underlying22 ty5 rfl rfl rfl (by simp) (BytesV.row q204) oneCell_u8 (by first | omega | (have h9 := hE (by assumption); omega) | (have h9 := hV (by omega) (by assumption); omega) | exact umod_ne (hE (by assumption)).1 (by have h9 := hE (by assumption); omega) | exact umod_ne (hV (by omega) (by assumption)).1 (by have h9 := hV (by omega) (by assumption); omega)) (by first | omega | (have h9 := hE (by assumption); omega) | (have h9 := hV (by omega) (by assumption); omega) | exact umod_ne (hE (by assumption)).1 (by have h9 := hE (by assumption); omega) | exact umod_ne (hV (by omega) (by assumption)).1 (by have h9 := hV (by omega) (by assumption); omega)) (by decide) ?_
  intro lab205 w206 v207 o208 s209 hv210
  rw [List.nil_append] at o208
  obtain ⟨A211, c212, rfl⟩ := App.shape o208
  have m213 : List.length (if (ofE pl).no then [] else (ofE pl).all) = 0 + (List.length (if (ofE pl).no then [] else (ofE pl).all)) := App.lenMap o208
  have z214 := (App.row o208).2
  refine sv (Does.move rfl) ?_
  have c215 := c203.trans s209
  have c216 := s150.trans c215
  have c217 := c143.trans c216
  have c218 := s87.trans c217
  have c219 := s47.trans c218
  have c220 := c40.trans c219
  have q221 := up c220 h3
  refine Seq.append (k := 74) (List.map u8 more) hv210 o208 Try.underlying22 ty5 rfl rfl rfl (by simp) (BytesV.row q221) oneCell_u8 (by first | omega | (have h9 := hE (by assumption); omega) | (have h9 := hV (by omega) (by assumption); omega) | exact umod_ne (hE (by assumption)).1 (by have h9 := hE (by assumption); omega) | exact umod_ne (hV (by omega) (by assumption)).1 (by have h9 := hV (by omega) (by assumption); omega)) (by first | omega | (have h9 := hE (by assumption); omega) | (have h9 := hV (by omega) (by assumption); omega) | exact umod_ne (hE (by assumption)).1 (by have h9 := hE (by assumption); omega) | exact umod_ne (hV (by omega) (by assumption)).1 (by have h9 := hV (by omega) (by assumption); omega)) (by decide) ?_
  intro lab222 w223 v224 o225 s226 hv227
  rw [← List.map_append] at o225
  obtain ⟨A228, c229, rfl⟩ := App.shape o225
  have m230 : List.length ((if (ofE pl).no then [] else (ofE pl).all) ++ more) = 0 + (List.length (if (ofE pl).no then [] else (ofE pl).all)) + (List.length more) := App.lenMap o225
  have z231 := (App.row o225).2
  have hv232 := Valid.release hv227 74
  have m234 : List.length ((if (ofE pl).no then [] else (ofE pl).all) ++ more) = 0 + (List.length (if (ofE pl).no then [] else (ofE pl).all)) + (List.length more) := App.lenMap o225
  have q233 : BytesV ((if (ofE pl).no then [] else (ofE pl).all) ++ more) (labFree lab222 74) w223 (.slice A228 (0 + (List.length (if (ofE pl).no then [] else (ofE pl).all)) + (List.length more)) c229) := ⟨_, _, (by first | (rw [m234]; done) | rw [← m234]), (by have h9 := (App.row o225).2.1; first | (rw [m234]; exact h9) | (rw [← m234] at h9; exact h9)), (App.row o225).2.2, (App.row o225).1⟩
  refine scall (V := And2 (EntryV (decE ((if (ofE pl).no then [] else (ofE pl).all) ++ more))) (Is (i64 (if decOk ((if (ofE pl).no then [] else (ofE pl).all) ++ more) then 0 else 3)))) cal27 hv232 rfl (wire_DecodeEntry hv232 q233 (show List.length ((if (ofE pl).no then [] else (ofE pl).all) ++ more) ≤ 1000000 from by first | (rw [List.length_take]; first | omega | (have h9 := hE (by assumption); omega) | (have h9 := hV (by omega) (by assumption); omega) | exact umod_ne (hE (by assumption)).1 (by have h9 := hE (by assumption); omega) | exact umod_ne (hV (by omega) (by assumption)).1 (by have h9 := hV (by omega) (by assumption); omega)) | (rw [List.length_append]; first | omega | (have h9 := hE (by assumption); omega) | (have h9 := hV (by omega) (by assumption); omega) | exact umod_ne (hE (by assumption)).1 (by have h9 := hE (by assumption); omega) | exact umod_ne (hV (by omega) (by assumption)).1 (by have h9 := hV (by omega) (by assumption); omega)) | first | omega | (have h9 := hE (by assumption); omega) | (have h9 := hV (by omega) (by assumption); omega) | exact umod_ne (hE (by assumption)).1 (by have h9 := hE (by assumption); omega) | exact umod_ne (hV (by omega) (by assumption)).1 (by have h9 := hV (by omega) (by assumption); omega))) fun v235 w236 q237 s238 h239 => ?_
  obtain ⟨v240, v241, rfl, q242, q243⟩ := q237
  obtain ⟨A244, c245, A247, c248, A250, c251, rfl, q246, q249, q252⟩ := EntryV.open q242
  have z253 := NatsV.cap q246
  have z254 := RowsV.cap q249
  have z255 := BytesV.cap q252
  have q243 := Is.out q243; subst q243
  refine sv (Does.move rfl) ?_
  refine sv (Does.extract rfl rfl) ?_
  refine sv (Does.extract rfl rfl) ?_
  refine salloc 16 [.int .i64 0, .int .i64 0, .int .i64 0, .int .i64 0, .int .i64 0, .int .i64 0, .slice none 0 0, .slice none 0 0, .slice none 0 0] h239 ty40 rfl fun b258 L256 w257 o259 s260 h261 => ?_
  refine sstore [i64 ((decE ((if (ofE pl).no then [] else (ofE pl).all) ++ more)).kind), i64 ((decE ((if (ofE pl).no then [] else (ofE pl).all) ++ more)).author), i64 ((decE ((if (ofE pl).no then [] else (ofE pl).all) ++ more)).epoch), i64 ((decE ((if (ofE pl).no then [] else (ofE pl).all) ++ more)).mode), i64 ((decE ((if (ofE pl).no then [] else (ofE pl).all) ++ more)).peer), i64 ((decE ((if (ofE pl).no then [] else (ofE pl).all) ++ more)).phase), .slice A244 (List.length (decE ((if (ofE pl).no then [] else (ofE pl).all) ++ more)).nums) c245, .slice A247 (List.length (decE ((if (ofE pl).no then [] else (ofE pl).all) ++ more)).texts) c248, .slice A250 (List.length (decE ((if (ofE pl).no then [] else (ofE pl).all) ++ more)).proof) c251] h261 o259 ty40 rfl rfl rfl (Nat.le_of_ble_eq_true rfl) rfl rfl fun w262 o263 s264 h265 => ?_
  refine sv (Does.assign rfl) ?_
  refine nsr ?_
  refine sv (Does.move rfl) ?_
  refine sv (Does.neq rfl rfl) ?_
  refine sv (Does.move rfl) ?_
  rcases Decidable.em ((if decOk (List.take (((u64i cut) % (u64i ((List.length (if (ofE pl).no then [] else (ofE pl).all) : Nat) : Int))).toNat) (if (ofE pl).no then [] else (ofE pl).all)) then 0 else 3 : Int) ≠ (3 : Int)) with hp6 | hp6
  · refine Seq.guard_off' rfl rfl (decide_eq_true hp6) rfl (by decide) ?_
    refine Seq.guard_off' rfl rfl (decide_eq_true hp6) rfl (by decide) ?_
    refine sv (Does.pick_b rfl (decide_eq_true hp6) rfl) ?_
    refine Seq.next ?_
    refine Run.cond_b rfl rfl ?_
    refine rsr ?_
    refine sv (Does.assign rfl) ?_
    refine Seq.next ?_
    have c266 := s260.trans s264
    have c267 := s238.trans c266
    have c268 := (Stp.release (lab := lab222) (w := w223) 74).trans c267
    have c269 := s226.trans c268
    have c270 := c220.trans c269
    obtain ⟨⟨zU, zo⟩, zb⟩ := hX c270 (by decide)
    refine Run.ret (ret_then ?_)
    exact post_one Try.results5 rfl ⟨_, rfl, (isBool (by first | (exact absurd (ent_cut (by assumption) (hE (by assumption)).2.2) (by assumption); done) | (exact absurd (ent_more (by assumption) (by assumption)) (by assumption); done) | (exact absurd (vot_cut (by assumption) (hV (by omega) (by assumption)).2.2) (by assumption); done) | (exact absurd (vot_more (by assumption) (by assumption)) (by assumption); done) | (with_reducible rfl; done) | (omega; done) | (simp_all; done)) _ _), zb⟩
  refine Seq.guard_on' rfl rfl (decide_eq_false hp6) ?_
  refine sv (Does.move rfl) ?_
  refine Seq.guard_on' rfl rfl (decide_eq_false hp6) ?_
  refine sv (Does.neq rfl rfl) ?_
  refine sv (Does.pick_b rfl (decide_eq_false hp6) rfl) ?_
  refine Seq.next ?_
  rcases Decidable.em ((if decOk ((if (ofE pl).no then [] else (ofE pl).all) ++ more) then 0 else 3 : Int) ≠ (3 : Int)) with hp7 | hp7
  · refine Run.cond_b rfl (decide_eq_true hp7) ?_
    refine rsr ?_
    refine sv (Does.assign rfl) ?_
    refine Seq.next ?_
    have c271 := s260.trans s264
    have c272 := s238.trans c271
    have c273 := (Stp.release (lab := lab222) (w := w223) 74).trans c272
    have c274 := s226.trans c273
    have c275 := c220.trans c274
    obtain ⟨⟨zU, zo⟩, zb⟩ := hX c275 (by decide)
    refine Run.ret (ret_then ?_)
    exact post_one Try.results5 rfl ⟨_, rfl, (isBool (by first | (exact absurd (ent_cut (by assumption) (hE (by assumption)).2.2) (by assumption); done) | (exact absurd (ent_more (by assumption) (by assumption)) (by assumption); done) | (exact absurd (vot_cut (by assumption) (hV (by omega) (by assumption)).2.2) (by assumption); done) | (exact absurd (vot_more (by assumption) (by assumption)) (by assumption); done) | (with_reducible rfl; done) | (omega; done) | (simp_all; done)) _ _), zb⟩
  refine Run.cond_b rfl (decide_eq_false hp7) ?_
  refine Run.skip_go (fun _ _ h => h) ?_
  refine Run.seq ?_
  refine rsr ?_
  have c277 := s260.trans s264
  have c278 := s238.trans c277
  have c279 := (Stp.release (lab := lab222) (w := w223) 74).trans c278
  have c280 := s226.trans c279
  have c281 := c218.trans c280
  have o276 := o56.up c281
  refine sv (Does.load_ownN [i64 vt.kind, i64 vt.from_, i64 vt.slot, i64 vt.view, i64 vt.valid, .slice A13 (List.length vt.value) c14] o276 ty24 rfl rfl) ?_
  have c283 := c220.trans c280
  have q284 := up c283 q15
  have q282 : VoteV vt L256 w262 (.agg #[i64 vt.kind, i64 vt.from_, i64 vt.slot, i64 vt.view, i64 vt.valid, .slice A13 (List.length vt.value) c14]) := VoteV.mk q284
  refine scall (V := And2 (BytesV (if vt.bad then [] else vt.bytes)) (Is (i64 (if vt.bad then 3 else 0)))) cal20 h265 rfl (wire_EncodeVote h265 q282 (show List.length vt.value ≤ 100000 from by omega)) fun v285 w286 q287 s288 h289 => ?_
  obtain ⟨v290, v291, rfl, q292, q293⟩ := q287
  obtain ⟨A294, c295, rfl⟩ := BytesV.shape q292
  have z296 := BytesV.cap q292
  have q293 := Is.out q293; subst q293
  refine sv (Does.move rfl) ?_
  refine sv (Does.extract rfl rfl) ?_
  refine sv (Does.extract rfl rfl) ?_
  refine sv (Does.assign rfl) ?_
  refine sv (Does.assign rfl) ?_
  refine nsr ?_
  refine sv (Does.move rfl) ?_
  refine sv (Does.eql rfl rfl) ?_
  refine Seq.next ?_
  rcases Decidable.em ((if vt.bad then 3 else 0 : Int) = (0 : Int)) with hp8 | hp8
  rotate_left
  · refine Run.cond_b rfl (decide_eq_false hp8) ?_
    refine Run.skip_go (fun _ _ h => h) ?_
    refine rsr ?_
    refine sv (Does.assign rfl) ?_
    refine Seq.next ?_
    have c403 := c283.trans s288
    obtain ⟨⟨zU, zo⟩, zb⟩ := hX c403 (by decide)
    refine Run.ret ?_
    exact post_one Try.results5 rfl ⟨_, rfl, rfl, zb⟩
  refine Run.cond_b rfl (decide_eq_true hp8) ?_
  refine rsr ?_
  refine sv (Does.move rfl) ?_
  refine sv (Does.move rfl) ?_
  refine sv (Does.conv_int Try.underlying3 Try.underlying50 rfl (wrap_i64_u64i _)) ?_
  refine sv (Does.move rfl) ?_
  refine sv (Does.len Try.underlying22 rfl) ?_
  refine sv (Does.conv_int Try.underlying3 Try.underlying50 rfl (wrap_i64_u64i _)) ?_
  refine sv (Does.u64_rem rfl rfl (by first | omega | (have h9 := hE (by assumption); omega) | (have h9 := hV (by omega) (by assumption); omega) | exact umod_ne (hE (by assumption)).1 (by have h9 := hE (by assumption); omega) | exact umod_ne (hV (by omega) (by assumption)).1 (by have h9 := hV (by omega) (by assumption); omega))) ?_
  refine sv (Does.conv_int Try.underlying50 Try.underlying3 rfl (by rw [i64_wrap_in (by omega) (by first | omega | (have h9 := hE (by assumption); omega) | (have h9 := hV (by omega) (by assumption); omega) | exact umod_ne (hE (by assumption)).1 (by have h9 := hE (by assumption); omega) | exact umod_ne (hV (by omega) (by assumption)).1 (by have h9 := hV (by omega) (by assumption); omega))])) ?_
  have q297 := BytesV.takeN q292 (((u64i cut) % (u64i ((List.length (if vt.bad then [] else vt.bytes) : Nat) : Int))).toNat) (by first | omega | (have h9 := hE (by assumption); omega) | (have h9 := hV (by omega) (by assumption); omega) | exact umod_ne (hE (by assumption)).1 (by have h9 := hE (by assumption); omega) | exact umod_ne (hV (by omega) (by assumption)).1 (by have h9 := hV (by omega) (by assumption); omega))
  refine sv (Does.slice_hi (((u64i cut) % (u64i ((List.length (if vt.bad then [] else vt.bytes) : Nat) : Int))).toNat) Try.underlying22 ty5 rfl rfl (by first | omega | (have h9 := hE (by assumption); omega) | (have h9 := hV (by omega) (by assumption); omega) | exact umod_ne (hE (by assumption)).1 (by have h9 := hE (by assumption); omega) | exact umod_ne (hV (by omega) (by assumption)).1 (by have h9 := hV (by omega) (by assumption); omega)) (by have := (BytesV.cap q292).2; first | omega | (have h9 := hE (by assumption); omega) | (have h9 := hV (by omega) (by assumption); omega) | exact umod_ne (hE (by assumption)).1 (by have h9 := hE (by assumption); omega) | exact umod_ne (hV (by omega) (by assumption)).1 (by have h9 := hV (by omega) (by assumption); omega))) ?_
  refine scall (V := And2 (VoteV (decV (List.take (((u64i cut) % (u64i ((List.length (if vt.bad then [] else vt.bytes) : Nat) : Int))).toNat) (if vt.bad then [] else vt.bytes)))) (Is (i64 (if decVOk (List.take (((u64i cut) % (u64i ((List.length (if vt.bad then [] else vt.bytes) : Nat) : Int))).toNat) (if vt.bad then [] else vt.bytes)) then 0 else 3)))) cal28 h289 rfl (wire_DecodeVote h289 q297 (show List.length (List.take (((u64i cut) % (u64i ((List.length (if vt.bad then [] else vt.bytes) : Nat) : Int))).toNat) (if vt.bad then [] else vt.bytes)) ≤ 1000000 from by first | (rw [List.length_take]; first | omega | (have h9 := hE (by assumption); omega) | (have h9 := hV (by omega) (by assumption); omega) | exact umod_ne (hE (by assumption)).1 (by have h9 := hE (by assumption); omega) | exact umod_ne (hV (by omega) (by assumption)).1 (by have h9 := hV (by omega) (by assumption); omega)) | (rw [List.length_append]; first | omega | (have h9 := hE (by assumption); omega) | (have h9 := hV (by omega) (by assumption); omega) | exact umod_ne (hE (by assumption)).1 (by have h9 := hE (by assumption); omega) | exact umod_ne (hV (by omega) (by assumption)).1 (by have h9 := hV (by omega) (by assumption); omega)) | first | omega | (have h9 := hE (by assumption); omega) | (have h9 := hV (by omega) (by assumption); omega) | exact umod_ne (hE (by assumption)).1 (by have h9 := hE (by assumption); omega) | exact umod_ne (hV (by omega) (by assumption)).1 (by have h9 := hV (by omega) (by assumption); omega))) fun v298 w299 q300 s301 h302 => ?_
  obtain ⟨v303, v304, rfl, q305, q306⟩ := q300
  obtain ⟨A307, c308, rfl, q309⟩ := VoteV.open q305
  have z310 := BytesV.cap q309
  have q306 := Is.out q306; subst q306
  refine sv (Does.move rfl) ?_
  refine sv (Does.extract rfl rfl) ?_
  refine sv (Does.extract rfl rfl) ?_
  refine salloc 20 [.int .i64 0, .int .i64 0, .int .i64 0, .int .i64 0, .int .i64 0, .slice none 0 0] h302 ty24 rfl fun b313 L311 w312 o314 s315 h316 => ?_
  refine sstore [i64 ((decV (List.take (((u64i cut) % (u64i ((List.length (if vt.bad then [] else vt.bytes) : Nat) : Int))).toNat) (if vt.bad then [] else vt.bytes))).kind), i64 ((decV (List.take (((u64i cut) % (u64i ((List.length (if vt.bad then [] else vt.bytes) : Nat) : Int))).toNat) (if vt.bad then [] else vt.bytes))).from_), i64 ((decV (List.take (((u64i cut) % (u64i ((List.length (if vt.bad then [] else vt.bytes) : Nat) : Int))).toNat) (if vt.bad then [] else vt.bytes))).slot), i64 ((decV (List.take (((u64i cut) % (u64i ((List.length (if vt.bad then [] else vt.bytes) : Nat) : Int))).toNat) (if vt.bad then [] else vt.bytes))).view), i64 ((decV (List.take (((u64i cut) % (u64i ((List.length (if vt.bad then [] else vt.bytes) : Nat) : Int))).toNat) (if vt.bad then [] else vt.bytes))).valid), .slice A307 (List.length (decV (List.take (((u64i cut) % (u64i ((List.length (if vt.bad then [] else vt.bytes) : Nat) : Int))).toNat) (if vt.bad then [] else vt.bytes))).value) c308] h316 o314 ty24 rfl rfl rfl (Nat.le_of_ble_eq_true rfl) rfl rfl fun w317 o318 s319 h320 => ?_
  refine sv (Does.assign rfl) ?_
  refine nsr ?_
  refine Seq.build_empty (k := 109) h320 Try.underlying22 ty5 (by decide) ?_
  intro lab321 w322 v323 o324 s325 hv326
  obtain ⟨A327, c328, rfl⟩ := App.shape o324
  have z330 := (App.row o324).2
  refine sv (Does.move rfl) ?_
  have c331 := s319.trans s325
  have c332 := s315.trans c331
  have c333 := s301.trans c332
  have q334 := up c333 q292
  refine Seq.append (k := 109) (List.map u8 (if vt.bad then [] else vt.bytes)) hv326 o324 Try.underlying22 ty5 rfl rfl rfl (by simp) (BytesV.row q334) oneCell_u8 (by first | omega | (have h9 := hE (by assumption); omega) | (have h9 := hV (by omega) (by assumption); omega) | exact umod_ne (hE (by assumption)).1 (by have h9 := hE (by assumption); omega) | exact umod_ne (hV (by omega) (by assumption)).1 (by have h9 := hV (by omega) (by assumption); omega)) (by first | omega | (have h9 := hE (by assumption); omega) | (have h9 := hV (by omega) (by assumption); omega) | exact umod_ne (hE (by assumption)).1 (by have h9 := hE (by assumption); omega) | exact umod_ne (hV (by omega) (by assumption)).1 (by have h9 := hV (by omega) (by assumption); omega)) (by decide) ?_
  intro lab335 w336 v337 o338 s339 hv340
  rw [List.nil_append] at o338
  obtain ⟨A341, c342, rfl⟩ := App.shape o338
  have m343 : List.length (if vt.bad then [] else vt.bytes) = 0 + (List.length (if vt.bad then [] else vt.bytes)) := App.lenMap o338
  have z344 := (App.row o338).2
  refine sv (Does.move rfl) ?_
  have c345 := c333.trans s339
  have c346 := s288.trans c345
  have c347 := c280.trans c346
  have q348 := up c347 q221
  refine Seq.append (k := 109) (List.map u8 more) hv340 o338 Try.underlying22 ty5 rfl rfl rfl (by simp) (BytesV.row q348) oneCell_u8 (by first | omega | (have h9 := hE (by assumption); omega) | (have h9 := hV (by omega) (by assumption); omega) | exact umod_ne (hE (by assumption)).1 (by have h9 := hE (by assumption); omega) | exact umod_ne (hV (by omega) (by assumption)).1 (by have h9 := hV (by omega) (by assumption); omega)) (by first | omega | (have h9 := hE (by assumption); omega) | (have h9 := hV (by omega) (by assumption); omega) | exact umod_ne (hE (by assumption)).1 (by have h9 := hE (by assumption); omega) | exact umod_ne (hV (by omega) (by assumption)).1 (by have h9 := hV (by omega) (by assumption); omega)) (by decide) ?_
  intro lab349 w350 v351 o352 s353 hv354
  rw [← List.map_append] at o352
  obtain ⟨A355, c356, rfl⟩ := App.shape o352
  have m357 : List.length ((if vt.bad then [] else vt.bytes) ++ more) = 0 + (List.length (if vt.bad then [] else vt.bytes)) + (List.length more) := App.lenMap o352
  have z358 := (App.row o352).2
  have hv359 := Valid.release hv354 109
  have m361 : List.length ((if vt.bad then [] else vt.bytes) ++ more) = 0 + (List.length (if vt.bad then [] else vt.bytes)) + (List.length more) := App.lenMap o352
  have q360 : BytesV ((if vt.bad then [] else vt.bytes) ++ more) (labFree lab349 109) w350 (.slice A355 (0 + (List.length (if vt.bad then [] else vt.bytes)) + (List.length more)) c356) := ⟨_, _, (by first | (rw [m361]; done) | rw [← m361]), (by have h9 := (App.row o352).2.1; first | (rw [m361]; exact h9) | (rw [← m361] at h9; exact h9)), (App.row o352).2.2, (App.row o352).1⟩
  refine scall (V := And2 (VoteV (decV ((if vt.bad then [] else vt.bytes) ++ more))) (Is (i64 (if decVOk ((if vt.bad then [] else vt.bytes) ++ more) then 0 else 3)))) cal28 hv359 rfl (wire_DecodeVote hv359 q360 (show List.length ((if vt.bad then [] else vt.bytes) ++ more) ≤ 1000000 from by first | (rw [List.length_take]; first | omega | (have h9 := hE (by assumption); omega) | (have h9 := hV (by omega) (by assumption); omega) | exact umod_ne (hE (by assumption)).1 (by have h9 := hE (by assumption); omega) | exact umod_ne (hV (by omega) (by assumption)).1 (by have h9 := hV (by omega) (by assumption); omega)) | (rw [List.length_append]; first | omega | (have h9 := hE (by assumption); omega) | (have h9 := hV (by omega) (by assumption); omega) | exact umod_ne (hE (by assumption)).1 (by have h9 := hE (by assumption); omega) | exact umod_ne (hV (by omega) (by assumption)).1 (by have h9 := hV (by omega) (by assumption); omega)) | first | omega | (have h9 := hE (by assumption); omega) | (have h9 := hV (by omega) (by assumption); omega) | exact umod_ne (hE (by assumption)).1 (by have h9 := hE (by assumption); omega) | exact umod_ne (hV (by omega) (by assumption)).1 (by have h9 := hV (by omega) (by assumption); omega))) fun v362 w363 q364 s365 h366 => ?_
  obtain ⟨v367, v368, rfl, q369, q370⟩ := q364
  obtain ⟨A371, c372, rfl, q373⟩ := VoteV.open q369
  have z374 := BytesV.cap q373
  have q370 := Is.out q370; subst q370
  refine sv (Does.move rfl) ?_
  refine sv (Does.extract rfl rfl) ?_
  refine sv (Does.extract rfl rfl) ?_
  refine salloc 22 [.int .i64 0, .int .i64 0, .int .i64 0, .int .i64 0, .int .i64 0, .slice none 0 0] h366 ty24 rfl fun b377 L375 w376 o378 s379 h380 => ?_
  refine sstore [i64 ((decV ((if vt.bad then [] else vt.bytes) ++ more)).kind), i64 ((decV ((if vt.bad then [] else vt.bytes) ++ more)).from_), i64 ((decV ((if vt.bad then [] else vt.bytes) ++ more)).slot), i64 ((decV ((if vt.bad then [] else vt.bytes) ++ more)).view), i64 ((decV ((if vt.bad then [] else vt.bytes) ++ more)).valid), .slice A371 (List.length (decV ((if vt.bad then [] else vt.bytes) ++ more)).value) c372] h380 o378 ty24 rfl rfl rfl (Nat.le_of_ble_eq_true rfl) rfl rfl fun w381 o382 s383 h384 => ?_
  refine sv (Does.assign rfl) ?_
  refine nsr ?_
  refine sv (Does.move rfl) ?_
  refine sv (Does.neq rfl rfl) ?_
  refine sv (Does.move rfl) ?_
  rcases Decidable.em ((if decVOk (List.take (((u64i cut) % (u64i ((List.length (if vt.bad then [] else vt.bytes) : Nat) : Int))).toNat) (if vt.bad then [] else vt.bytes)) then 0 else 3 : Int) ≠ (3 : Int)) with hp9 | hp9
  · refine Seq.guard_off' rfl rfl (decide_eq_true hp9) rfl (by decide) ?_
    refine Seq.guard_off' rfl rfl (decide_eq_true hp9) rfl (by decide) ?_
    refine sv (Does.pick_b rfl (decide_eq_true hp9) rfl) ?_
    refine Seq.next ?_
    refine Run.cond_b rfl rfl ?_
    refine rsr ?_
    refine sv (Does.assign rfl) ?_
    refine Seq.next ?_
    have c385 := s379.trans s383
    have c386 := s365.trans c385
    have c387 := (Stp.release (lab := lab349) (w := w350) 109).trans c386
    have c388 := s353.trans c387
    have c389 := c346.trans c388
    have c390 := c283.trans c389
    obtain ⟨⟨zU, zo⟩, zb⟩ := hX c390 (by decide)
    refine Run.ret (ret_then ?_)
    exact post_one Try.results5 rfl ⟨_, rfl, (isBool (by first | (exact absurd (ent_cut (by assumption) (hE (by assumption)).2.2) (by assumption); done) | (exact absurd (ent_more (by assumption) (by assumption)) (by assumption); done) | (exact absurd (vot_cut (by assumption) (hV (by omega) (by assumption)).2.2) (by assumption); done) | (exact absurd (vot_more (by assumption) (by assumption)) (by assumption); done) | (with_reducible rfl; done) | (omega; done) | (simp_all; done)) _ _), zb⟩
  refine Seq.guard_on' rfl rfl (decide_eq_false hp9) ?_
  refine sv (Does.move rfl) ?_
  refine Seq.guard_on' rfl rfl (decide_eq_false hp9) ?_
  refine sv (Does.neq rfl rfl) ?_
  refine sv (Does.pick_b rfl (decide_eq_false hp9) rfl) ?_
  refine Seq.next ?_
  rcases Decidable.em ((if decVOk ((if vt.bad then [] else vt.bytes) ++ more) then 0 else 3 : Int) ≠ (3 : Int)) with hp10 | hp10
  rotate_left
  · refine Run.cond_b rfl (decide_eq_false hp10) ?_
    refine Run.skip_go (fun _ _ h => h) ?_
    refine rsr ?_
    refine sv (Does.assign rfl) ?_
    refine Seq.next ?_
    have c397 := s379.trans s383
    have c398 := s365.trans c397
    have c399 := (Stp.release (lab := lab349) (w := w350) 109).trans c398
    have c400 := s353.trans c399
    have c401 := c346.trans c400
    have c402 := c283.trans c401
    obtain ⟨⟨zU, zo⟩, zb⟩ := hX c402 (by decide)
    refine Run.ret ?_
    exact post_one Try.results5 rfl ⟨_, rfl, rfl, zb⟩
  refine Run.cond_b rfl (decide_eq_true hp10) ?_
  refine rsr ?_
  refine sv (Does.assign rfl) ?_
  refine Seq.next ?_
  have c391 := s379.trans s383
  have c392 := s365.trans c391
  have c393 := (Stp.release (lab := lab349) (w := w350) 109).trans c392
  have c394 := s353.trans c393
  have c395 := c346.trans c394
  have c396 := c283.trans c395
  obtain ⟨⟨zU, zo⟩, zb⟩ := hX c396 (by decide)
  refine Run.ret (ret_then ?_)
  exact post_one Try.results5 rfl ⟨_, rfl, (isBool (by first | (exact absurd (ent_cut (by assumption) (hE (by assumption)).2.2) (by assumption); done) | (exact absurd (ent_more (by assumption) (by assumption)) (by assumption); done) | (exact absurd (vot_cut (by assumption) (hV (by omega) (by assumption)).2.2) (by assumption); done) | (exact absurd (vot_more (by assumption) (by assumption)) (by assumption); done) | (with_reducible rfl; done) | (omega; done) | (simp_all; done)) _ _), zb⟩

end Go.Proofs.Ytgfomedobfaidaa
