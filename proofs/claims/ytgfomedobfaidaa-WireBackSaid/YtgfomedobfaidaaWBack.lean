/-
  The walks of some functions: what each call comes to.
-/
import Derived.Test.YtgfomedobfaidaaRdc
import Derived.Test.YtgfomedobfaidaaBackW
import Derived.Test.YtgfomedobfaidaaWof
import Derived.Test.YtgfomedobfaidaaFew
import Derived.Test.YtgfomedobfaidaaLives2
set_option linter.unusedVariables false
set_option linter.unusedSimpArgs false
set_option maxRecDepth 100000
namespace Go.Proofs.Ytgfomedobfaidaa
open Go.RowKit

theorem wire_Same {lab : Lab} {w : World} (hv : Valid lab w) {a : VoteD} {v0 : Value} (h0 : VoteV a lab w v0) {b : VoteD} {v1 : Value} (h1 : VoteV b lab w v1) :
    Calls Try.prog 29 #[v0, v1] w (fun e w' => ∃ v, e = .returned v ∧ (Is (.bool (sameV a b))) lab w' v ∧ Below w.heap.size w w') := by
  obtain ⟨L0, h0L, ⟨zU0, z00⟩, hX⟩ := enter0 hv
  replace h0 := up z00 h0
  obtain ⟨A1, c2, rfl, q3⟩ := VoteV.open h0
  have z4 := BytesV.cap q3
  replace h1 := up z00 h1
  obtain ⟨A5, c6, rfl, q7⟩ := VoteV.open h1
  have z8 := BytesV.cap q7
  refine calls_run Try.func29 rfl Try.ntmps29 (Nat.le_of_ble_eq_true rfl) ?_
  refine rsr ?_
  refine sbox 3 [i64 a.kind, i64 a.from_, i64 a.slot, i64 a.view, i64 a.valid, .slice A1 (List.length a.value) c2] h0L rfl rfl fun b11 L9 w10 o12 s13 h14 => ?_
  refine sbox 4 [i64 b.kind, i64 b.from_, i64 b.slot, i64 b.view, i64 b.valid, .slice A5 (List.length b.value) c6] h14 rfl rfl fun b17 L15 w16 o18 s19 h20 => ?_
  refine sv (Does.assign rfl) ?_
  refine nsr ?_
  refine sv (Does.fieldAddr' 0 Try.underlying24 rfl ty3 rfl rfl) ?_
  have o21 := o12.up s19
  refine sv (Does.load_own1 o21 ty3 rfl rfl) ?_
  refine sv (Does.fieldAddr' 0 Try.underlying24 rfl ty3 rfl rfl) ?_
  refine sv (Does.load_own1 o18 ty3 rfl rfl) ?_
  refine sv (Does.eql rfl rfl) ?_
  refine sv (Does.move rfl) ?_
  rcases Decidable.em ((a.kind : Int) = (b.kind : Int)) with hp1 | hp1
  rotate_left
  · refine Seq.guard_off' rfl rfl (decide_eq_false hp1) rfl (by decide) ?_
    refine Seq.guard_off' rfl rfl (decide_eq_false hp1) rfl (by decide) ?_
    refine Seq.guard_off' rfl rfl (decide_eq_false hp1) rfl (by decide) ?_
    refine Seq.guard_off' rfl rfl (decide_eq_false hp1) rfl (by decide) ?_
    refine Seq.guard_off' rfl rfl (decide_eq_false hp1) rfl (by decide) ?_
    refine sv (Does.pick_b rfl (decide_eq_false hp1) rfl) ?_
    refine sv (Does.move rfl) ?_
    refine Seq.guard_off' rfl rfl rfl rfl (by decide) ?_
    refine Seq.guard_off' rfl rfl rfl rfl (by decide) ?_
    refine Seq.guard_off' rfl rfl rfl rfl (by decide) ?_
    refine Seq.guard_off' rfl rfl rfl rfl (by decide) ?_
    refine Seq.guard_off' rfl rfl rfl rfl (by decide) ?_
    refine sv (Does.pick_f rfl rfl) ?_
    refine sv (Does.move rfl) ?_
    refine Seq.guard_off' rfl rfl rfl rfl (by decide) ?_
    refine Seq.guard_off' rfl rfl rfl rfl (by decide) ?_
    refine Seq.guard_off' rfl rfl rfl rfl (by decide) ?_
    refine Seq.guard_off' rfl rfl rfl rfl (by decide) ?_
    refine Seq.guard_off' rfl rfl rfl rfl (by decide) ?_
    refine sv (Does.pick_f rfl rfl) ?_
    refine sv (Does.move rfl) ?_
    refine Seq.guard_off' rfl rfl rfl rfl (by decide) ?_
    refine Seq.guard_off' rfl rfl rfl rfl (by decide) ?_
    refine Seq.guard_off' rfl rfl rfl rfl (by decide) ?_
    refine Seq.guard_off' rfl rfl rfl rfl (by decide) ?_
    refine Seq.guard_off' rfl rfl rfl rfl (by decide) ?_
    refine sv (Does.pick_f rfl rfl) ?_
    refine sv (Does.move rfl) ?_
    refine Seq.guard_off' rfl rfl rfl rfl (by decide) ?_
    refine Seq.guard_off' rfl rfl rfl rfl (by decide) ?_
    refine Seq.guard_off' rfl rfl rfl rfl (by decide) ?_
    refine Seq.guard_off' rfl rfl rfl rfl (by decide) ?_
    refine Seq.guard_off' rfl rfl rfl rfl (by decide) ?_
    refine sv (Does.pick_f rfl rfl) ?_
    refine sv (Does.assign rfl) ?_
    refine Seq.next ?_
    have c35 := s13.trans s19
    obtain ⟨⟨zU, zo⟩, zb⟩ := hX c35 (by decide)
    refine Run.ret ?_
    exact post_one Try.results29 rfl ⟨_, rfl, (isBool (by first | ((unfold sameV; simp [*]; done); done) | ((unfold sameV; simp_all; done); done) | (with_reducible rfl; done) | (omega; done) | (simp_all; done)) _ _), zb⟩
  refine Seq.guard_on' rfl rfl (decide_eq_true hp1) ?_
  refine sv (Does.fieldAddr' 1 Try.underlying24 rfl ty3 rfl rfl) ?_
  refine Seq.guard_on' rfl rfl (decide_eq_true hp1) ?_
  refine sv (Does.load_own1 o21 ty3 rfl rfl) ?_
  refine Seq.guard_on' rfl rfl (decide_eq_true hp1) ?_
  refine sv (Does.fieldAddr' 1 Try.underlying24 rfl ty3 rfl rfl) ?_
  refine Seq.guard_on' rfl rfl (decide_eq_true hp1) ?_
  refine sv (Does.load_own1 o18 ty3 rfl rfl) ?_
  refine Seq.guard_on' rfl rfl (decide_eq_true hp1) ?_
  refine sv (Does.eql rfl rfl) ?_
  refine sv (Does.pick_b rfl (decide_eq_true hp1) rfl) ?_
  refine sv (Does.move rfl) ?_
  rcases Decidable.em ((a.from_ : Int) = (b.from_ : Int)) with hp2 | hp2
  rotate_left
  · refine Seq.guard_off' rfl rfl (decide_eq_false hp2) rfl (by decide) ?_
    refine Seq.guard_off' rfl rfl (decide_eq_false hp2) rfl (by decide) ?_
    refine Seq.guard_off' rfl rfl (decide_eq_false hp2) rfl (by decide) ?_
    refine Seq.guard_off' rfl rfl (decide_eq_false hp2) rfl (by decide) ?_
    refine Seq.guard_off' rfl rfl (decide_eq_false hp2) rfl (by decide) ?_
    refine sv (Does.pick_b rfl (decide_eq_false hp2) rfl) ?_
    refine sv (Does.move rfl) ?_
    refine Seq.guard_off' rfl rfl rfl rfl (by decide) ?_
    refine Seq.guard_off' rfl rfl rfl rfl (by decide) ?_
    refine Seq.guard_off' rfl rfl rfl rfl (by decide) ?_
    refine Seq.guard_off' rfl rfl rfl rfl (by decide) ?_
    refine Seq.guard_off' rfl rfl rfl rfl (by decide) ?_
    refine sv (Does.pick_f rfl rfl) ?_
    refine sv (Does.move rfl) ?_
    refine Seq.guard_off' rfl rfl rfl rfl (by decide) ?_
    refine Seq.guard_off' rfl rfl rfl rfl (by decide) ?_
    refine Seq.guard_off' rfl rfl rfl rfl (by decide) ?_
    refine Seq.guard_off' rfl rfl rfl rfl (by decide) ?_
    refine Seq.guard_off' rfl rfl rfl rfl (by decide) ?_
    refine sv (Does.pick_f rfl rfl) ?_
    refine sv (Does.move rfl) ?_
    refine Seq.guard_off' rfl rfl rfl rfl (by decide) ?_
    refine Seq.guard_off' rfl rfl rfl rfl (by decide) ?_
    refine Seq.guard_off' rfl rfl rfl rfl (by decide) ?_
    refine Seq.guard_off' rfl rfl rfl rfl (by decide) ?_
    refine Seq.guard_off' rfl rfl rfl rfl (by decide) ?_
    refine sv (Does.pick_f rfl rfl) ?_
    refine sv (Does.assign rfl) ?_
    refine Seq.next ?_
    have c34 := s13.trans s19
    obtain ⟨⟨zU, zo⟩, zb⟩ := hX c34 (by decide)
    refine Run.ret ?_
    exact post_one Try.results29 rfl ⟨_, rfl, (isBool (by first | ((unfold sameV; simp [*]; done); done) | ((unfold sameV; simp_all; done); done) | (with_reducible rfl; done) | (omega; done) | (simp_all; done)) _ _), zb⟩
  refine Seq.guard_on' rfl rfl (decide_eq_true hp2) ?_
  refine sv (Does.fieldAddr' 2 Try.underlying24 rfl ty3 rfl rfl) ?_
  refine Seq.guard_on' rfl rfl (decide_eq_true hp2) ?_
  refine sv (Does.load_own1 o21 ty3 rfl rfl) ?_
  refine Seq.guard_on' rfl rfl (decide_eq_true hp2) ?_
  refine sv (Does.fieldAddr' 2 Try.underlying24 rfl ty3 rfl rfl) ?_
  refine Seq.guard_on' rfl rfl (decide_eq_true hp2) ?_
  refine sv (Does.load_own1 o18 ty3 rfl rfl) ?_
  refine Seq.guard_on' rfl rfl (decide_eq_true hp2) ?_
  refine sv (Does.eql rfl rfl) ?_
  refine sv (Does.pick_b rfl (decide_eq_true hp2) rfl) ?_
  refine sv (Does.move rfl) ?_
  rcases Decidable.em ((a.slot : Int) = (b.slot : Int)) with hp3 | hp3
  rotate_left
  · refine Seq.guard_off' rfl rfl (decide_eq_false hp3) rfl (by decide) ?_
    refine Seq.guard_off' rfl rfl (decide_eq_false hp3) rfl (by decide) ?_
    refine Seq.guard_off' rfl rfl (decide_eq_false hp3) rfl (by decide) ?_
    refine Seq.guard_off' rfl rfl (decide_eq_false hp3) rfl (by decide) ?_
    refine Seq.guard_off' rfl rfl (decide_eq_false hp3) rfl (by decide) ?_
    refine sv (Does.pick_b rfl (decide_eq_false hp3) rfl) ?_
    refine sv (Does.move rfl) ?_
    refine Seq.guard_off' rfl rfl rfl rfl (by decide) ?_
    refine Seq.guard_off' rfl rfl rfl rfl (by decide) ?_
    refine Seq.guard_off' rfl rfl rfl rfl (by decide) ?_
    refine Seq.guard_off' rfl rfl rfl rfl (by decide) ?_
    refine Seq.guard_off' rfl rfl rfl rfl (by decide) ?_
    refine sv (Does.pick_f rfl rfl) ?_
    refine sv (Does.move rfl) ?_
    refine Seq.guard_off' rfl rfl rfl rfl (by decide) ?_
    refine Seq.guard_off' rfl rfl rfl rfl (by decide) ?_
    refine Seq.guard_off' rfl rfl rfl rfl (by decide) ?_
    refine Seq.guard_off' rfl rfl rfl rfl (by decide) ?_
    refine Seq.guard_off' rfl rfl rfl rfl (by decide) ?_
    refine sv (Does.pick_f rfl rfl) ?_
    refine sv (Does.assign rfl) ?_
    refine Seq.next ?_
    have c33 := s13.trans s19
    obtain ⟨⟨zU, zo⟩, zb⟩ := hX c33 (by decide)
    refine Run.ret ?_
    exact post_one Try.results29 rfl ⟨_, rfl, (isBool (by first | ((unfold sameV; simp [*]; done); done) | ((unfold sameV; simp_all; done); done) | (with_reducible rfl; done) | (omega; done) | (simp_all; done)) _ _), zb⟩
  refine Seq.guard_on' rfl rfl (decide_eq_true hp3) ?_
  refine sv (Does.fieldAddr' 3 Try.underlying24 rfl ty3 rfl rfl) ?_
  refine Seq.guard_on' rfl rfl (decide_eq_true hp3) ?_
  refine sv (Does.load_own1 o21 ty3 rfl rfl) ?_
  refine Seq.guard_on' rfl rfl (decide_eq_true hp3) ?_
  refine sv (Does.fieldAddr' 3 Try.underlying24 rfl ty3 rfl rfl) ?_
  refine Seq.guard_on' rfl rfl (decide_eq_true hp3) ?_
  refine sv (Does.load_own1 o18 ty3 rfl rfl) ?_
  refine Seq.guard_on' rfl rfl (decide_eq_true hp3) ?_
  refine sv (Does.eql rfl rfl) ?_
  refine sv (Does.pick_b rfl (decide_eq_true hp3) rfl) ?_
  refine sv (Does.move rfl) ?_
  rcases Decidable.em ((a.view : Int) = (b.view : Int)) with hp4 | hp4
  rotate_left
  · refine Seq.guard_off' rfl rfl (decide_eq_false hp4) rfl (by decide) ?_
    refine Seq.guard_off' rfl rfl (decide_eq_false hp4) rfl (by decide) ?_
    refine Seq.guard_off' rfl rfl (decide_eq_false hp4) rfl (by decide) ?_
    refine Seq.guard_off' rfl rfl (decide_eq_false hp4) rfl (by decide) ?_
    refine Seq.guard_off' rfl rfl (decide_eq_false hp4) rfl (by decide) ?_
    refine sv (Does.pick_b rfl (decide_eq_false hp4) rfl) ?_
    refine sv (Does.move rfl) ?_
    refine Seq.guard_off' rfl rfl rfl rfl (by decide) ?_
    refine Seq.guard_off' rfl rfl rfl rfl (by decide) ?_
    refine Seq.guard_off' rfl rfl rfl rfl (by decide) ?_
    refine Seq.guard_off' rfl rfl rfl rfl (by decide) ?_
    refine Seq.guard_off' rfl rfl rfl rfl (by decide) ?_
    refine sv (Does.pick_f rfl rfl) ?_
    refine sv (Does.assign rfl) ?_
    refine Seq.next ?_
    have c32 := s13.trans s19
    obtain ⟨⟨zU, zo⟩, zb⟩ := hX c32 (by decide)
    refine Run.ret ?_
    exact post_one Try.results29 rfl ⟨_, rfl, (isBool (by first | ((unfold sameV; simp [*]; done); done) | ((unfold sameV; simp_all; done); done) | (with_reducible rfl; done) | (omega; done) | (simp_all; done)) _ _), zb⟩
  refine Seq.guard_on' rfl rfl (decide_eq_true hp4) ?_
  refine sv (Does.fieldAddr' 4 Try.underlying24 rfl ty3 rfl rfl) ?_
  refine Seq.guard_on' rfl rfl (decide_eq_true hp4) ?_
  refine sv (Does.load_own1 o21 ty3 rfl rfl) ?_
  refine Seq.guard_on' rfl rfl (decide_eq_true hp4) ?_
  refine sv (Does.fieldAddr' 4 Try.underlying24 rfl ty3 rfl rfl) ?_
  refine Seq.guard_on' rfl rfl (decide_eq_true hp4) ?_
  refine sv (Does.load_own1 o18 ty3 rfl rfl) ?_
  refine Seq.guard_on' rfl rfl (decide_eq_true hp4) ?_
  refine sv (Does.eql rfl rfl) ?_
  refine sv (Does.pick_b rfl (decide_eq_true hp4) rfl) ?_
  refine sv (Does.move rfl) ?_
  rcases Decidable.em ((a.valid : Int) = (b.valid : Int)) with hp5 | hp5
  rotate_left
  · refine Seq.guard_off' rfl rfl (decide_eq_false hp5) rfl (by decide) ?_
    refine Seq.guard_off' rfl rfl (decide_eq_false hp5) rfl (by decide) ?_
    refine Seq.guard_off' rfl rfl (decide_eq_false hp5) rfl (by decide) ?_
    refine Seq.guard_off' rfl rfl (decide_eq_false hp5) rfl (by decide) ?_
    refine Seq.guard_off' rfl rfl (decide_eq_false hp5) rfl (by decide) ?_
    refine sv (Does.pick_b rfl (decide_eq_false hp5) rfl) ?_
    refine sv (Does.assign rfl) ?_
    refine Seq.next ?_
    have c31 := s13.trans s19
    obtain ⟨⟨zU, zo⟩, zb⟩ := hX c31 (by decide)
    refine Run.ret ?_
    exact post_one Try.results29 rfl ⟨_, rfl, (isBool (by first | ((unfold sameV; simp [*]; done); done) | ((unfold sameV; simp_all; done); done) | (with_reducible rfl; done) | (omega; done) | (simp_all; done)) _ _), zb⟩
  refine Seq.guard_on' rfl rfl (decide_eq_true hp5) ?_
  refine sv (Does.fieldAddr' 5 Try.underlying24 rfl ty22 rfl rfl) ?_
  refine Seq.guard_on' rfl rfl (decide_eq_true hp5) ?_
  refine sv (Does.load_own1 o21 ty22 rfl rfl) ?_
  refine Seq.guard_on' rfl rfl (decide_eq_true hp5) ?_
  refine sv (Does.fieldAddr' 5 Try.underlying24 rfl ty22 rfl rfl) ?_
  refine Seq.guard_on' rfl rfl (decide_eq_true hp5) ?_
  refine sv (Does.load_own1 o18 ty22 rfl rfl) ?_
  refine Seq.guard_on' rfl rfl (decide_eq_true hp5) ?_
  have c22 := s13.trans s19
  have q23 := up c22 q3
  have q24 := up c22 q7
  refine scall (V := Is (.bool (decide (a.value = b.value)))) cal101 h20 rfl (bytes_Equal h20 q23 q24) fun v25 w26 q27 s28 h29 => ?_
  have q27 := Is.out q27; subst q27
  refine sv (Does.pick_b rfl (decide_eq_true hp5) rfl) ?_
  refine sv (Does.assign rfl) ?_
  refine Seq.next ?_
  have c30 := c22.trans s28
  obtain ⟨⟨zU, zo⟩, zb⟩ := hX c30 (by decide)
  refine Run.ret ?_
  exact post_one Try.results29 rfl ⟨_, rfl, (isBool (by first | ((unfold sameV; simp [*]; done); done) | ((unfold sameV; simp_all; done); done) | (with_reducible rfl; done) | (omega; done) | (simp_all; done)) _ _), zb⟩

set_option maxHeartbeats 4000000 in
theorem WireBack_walk {lab : Lab} {w : World} (hv : Valid lab w) {pl : PlainD} {v0 : Value} (h0 : PlainV pl lab w v0) {po : PlainD} {v1 : Value} (h1 : PlainV po lab w v1) {vt : VoteD} {v2 : Value} (h2 : VoteV vt lab w v2) {vu : VoteD} {v3 : Value} (h3 : VoteV vu lab w v3) :
    Calls Try.prog 6 #[v0, v1, v2, v3] w (fun e w' => ∃ v, e = .returned v ∧ (Is (.bool true)) lab w' v ∧ Below w.heap.size w w') := by
  obtain ⟨L0, h0L, ⟨zU0, z00⟩, hX⟩ := enter0 hv
  replace h0 := up z00 h0
  obtain ⟨A1, c2, A4, c5, A7, c8, rfl, q3, q6, q9⟩ := PlainV.open h0
  have z10 := RowsV.cap q3
  have z11 := RowsV.cap q6
  have z12 := BytesV.cap q9
  replace h1 := up z00 h1
  obtain ⟨A13, c14, A16, c17, A19, c20, rfl, q15, q18, q21⟩ := PlainV.open h1
  have z22 := RowsV.cap q15
  have z23 := RowsV.cap q18
  have z24 := BytesV.cap q21
  replace h2 := up z00 h2
  obtain ⟨A25, c26, rfl, q27⟩ := VoteV.open h2
  have z28 := BytesV.cap q27
  replace h3 := up z00 h3
  obtain ⟨A29, c30, rfl, q31⟩ := VoteV.open h3
  have z32 := BytesV.cap q31
  refine calls_run Try.func6 rfl Try.ntmps6 (Nat.le_of_ble_eq_true rfl) ?_
  refine rsr ?_
  refine sbox 5 [i64 pl.kind, i64 pl.author, i64 pl.epoch, i64 pl.mode, i64 pl.peer, i64 pl.phase, .slice A1 (List.length pl.nums) c2, .slice A4 (List.length pl.texts) c5, .slice A7 (List.length pl.proof) c8] h0L rfl rfl fun b35 L33 w34 o36 s37 h38 => ?_
  refine sbox 6 [i64 po.kind, i64 po.author, i64 po.epoch, i64 po.mode, i64 po.peer, i64 po.phase, .slice A13 (List.length po.nums) c14, .slice A16 (List.length po.texts) c17, .slice A19 (List.length po.proof) c20] h38 rfl rfl fun b41 L39 w40 o42 s43 h44 => ?_
  refine sbox 7 [i64 vt.kind, i64 vt.from_, i64 vt.slot, i64 vt.view, i64 vt.valid, .slice A25 (List.length vt.value) c26] h44 rfl rfl fun b47 L45 w46 o48 s49 h50 => ?_
  refine sbox 8 [i64 vu.kind, i64 vu.from_, i64 vu.slot, i64 vu.view, i64 vu.valid, .slice A29 (List.length vu.value) c30] h50 rfl rfl fun b53 L51 w52 o54 s55 h56 => ?_
  refine sv (Does.assign rfl) ?_
  refine Seq.next ?_
  refine Run.seq ?_
  refine rsr ?_
  refine scall (V := Is (.bool true)) cal19 h56 rfl (law17_lives2 h56 ) fun v57 w58 q59 s60 h61 => ?_
  have q59 := Is.out q59; subst q59
  refine sv (Does.not rfl) ?_
  refine sv (Does.move rfl) ?_
  refine Seq.guard_on' rfl rfl rfl ?_
  have c63 := s55.trans s60
  have c64 := s49.trans c63
  have c65 := s43.trans c64
  have o62 := o36.up c65
  refine sv (Does.load_ownN [i64 pl.kind, i64 pl.author, i64 pl.epoch, i64 pl.mode, i64 pl.peer, i64 pl.phase, .slice A1 (List.length pl.nums) c2, .slice A4 (List.length pl.texts) c5, .slice A7 (List.length pl.proof) c8] o62 ty36 rfl rfl) ?_
  refine Seq.guard_on' rfl rfl rfl ?_
  have c67 := s37.trans c65
  have q68 := up c67 q3
  have q69 := up c67 q6
  have q70 := up c67 q9
  have q66 : PlainV pl L51 w58 (.agg #[i64 pl.kind, i64 pl.author, i64 pl.epoch, i64 pl.mode, i64 pl.peer, i64 pl.phase, .slice A1 (List.length pl.nums) c2, .slice A4 (List.length pl.texts) c5, .slice A7 (List.length pl.proof) c8]) := PlainV.mk q68 q69 q70
  refine scall (V := Is (.bool pl.few)) cal23 h61 rfl (law17_few h61 q66) fun v71 w72 q73 s74 h75 => ?_
  have q73 := Is.out q73; subst q73
  refine Seq.guard_on' rfl rfl rfl ?_
  refine sv (Does.not rfl) ?_
  refine sv (Does.pick_f rfl rfl) ?_
  refine sv (Does.move rfl) ?_
  rcases bdich (!pl.few) with hc1 | hc1
  · refine Seq.guard_off' rfl rfl hc1 rfl (by decide) ?_
    refine Seq.guard_off' rfl rfl hc1 rfl (by decide) ?_
    refine Seq.guard_off' rfl rfl hc1 rfl (by decide) ?_
    refine sv (Does.pick_b rfl hc1 rfl) ?_
    refine sv (Does.move rfl) ?_
    refine Seq.guard_off' rfl rfl rfl rfl (by decide) ?_
    refine Seq.guard_off' rfl rfl rfl rfl (by decide) ?_
    refine Seq.guard_off' rfl rfl rfl rfl (by decide) ?_
    refine Seq.guard_off' rfl rfl rfl rfl (by decide) ?_
    refine sv (Does.pick_t rfl rfl) ?_
    refine sv (Does.move rfl) ?_
    refine Seq.guard_off' rfl rfl rfl rfl (by decide) ?_
    refine Seq.guard_off' rfl rfl rfl rfl (by decide) ?_
    refine Seq.guard_off' rfl rfl rfl rfl (by decide) ?_
    refine Seq.guard_off' rfl rfl rfl rfl (by decide) ?_
    refine sv (Does.pick_t rfl rfl) ?_
    refine Seq.next ?_
    refine Run.cond_b rfl rfl ?_
    refine rsr ?_
    refine scall (V := Is (.bool true)) cal19 h75 rfl (law17_lives2 h75 ) fun v76 w77 q78 s79 h80 => ?_
    have q78 := Is.out q78; subst q78
    refine sv (Does.assign rfl) ?_
    refine Seq.next ?_
    have c81 := s74.trans s79
    have c82 := c67.trans c81
    obtain ⟨⟨zU, zo⟩, zb⟩ := hX c82 (by decide)
    refine Run.ret (ret_then ?_)
    exact post_one Try.results6 rfl ⟨_, rfl, rfl, zb⟩
  refine Seq.guard_on' rfl rfl hc1 ?_
  have c84 := c64.trans s74
  have o83 := o42.up c84
  refine sv (Does.load_ownN [i64 po.kind, i64 po.author, i64 po.epoch, i64 po.mode, i64 po.peer, i64 po.phase, .slice A13 (List.length po.nums) c14, .slice A16 (List.length po.texts) c17, .slice A19 (List.length po.proof) c20] o83 ty36 rfl rfl) ?_
  refine Seq.guard_on' rfl rfl hc1 ?_
  have c86 := c67.trans s74
  have q87 := up c86 q15
  have q88 := up c86 q18
  have q89 := up c86 q21
  have q85 : PlainV po L51 w72 (.agg #[i64 po.kind, i64 po.author, i64 po.epoch, i64 po.mode, i64 po.peer, i64 po.phase, .slice A13 (List.length po.nums) c14, .slice A16 (List.length po.texts) c17, .slice A19 (List.length po.proof) c20]) := PlainV.mk q87 q88 q89
  refine scall (V := Is (.bool po.few)) cal23 h75 rfl (law17_few h75 q85) fun v90 w91 q92 s93 h94 => ?_
  have q92 := Is.out q92; subst q92
  refine Seq.guard_on' rfl rfl hc1 ?_
  refine sv (Does.not rfl) ?_
  refine sv (Does.pick_b rfl hc1 rfl) ?_
  refine sv (Does.move rfl) ?_
  rcases bdich (!po.few) with hc2 | hc2
  · refine Seq.guard_off' rfl rfl hc2 rfl (by decide) ?_
    refine Seq.guard_off' rfl rfl hc2 rfl (by decide) ?_
    refine Seq.guard_off' rfl rfl hc2 rfl (by decide) ?_
    refine Seq.guard_off' rfl rfl hc2 rfl (by decide) ?_
    refine sv (Does.pick_b rfl hc2 rfl) ?_
    refine sv (Does.move rfl) ?_
    refine Seq.guard_off' rfl rfl rfl rfl (by decide) ?_
    refine Seq.guard_off' rfl rfl rfl rfl (by decide) ?_
    refine Seq.guard_off' rfl rfl rfl rfl (by decide) ?_
    refine Seq.guard_off' rfl rfl rfl rfl (by decide) ?_
    refine sv (Does.pick_t rfl rfl) ?_
    refine Seq.next ?_
    refine Run.cond_b rfl rfl ?_
    refine rsr ?_
    refine scall (V := Is (.bool true)) cal19 h94 rfl (law17_lives2 h94 ) fun v95 w96 q97 s98 h99 => ?_
    have q97 := Is.out q97; subst q97
    refine sv (Does.assign rfl) ?_
    refine Seq.next ?_
    have c100 := s93.trans s98
    have c101 := c86.trans c100
    obtain ⟨⟨zU, zo⟩, zb⟩ := hX c101 (by decide)
    refine Run.ret (ret_then ?_)
    exact post_one Try.results6 rfl ⟨_, rfl, rfl, zb⟩
  refine Seq.guard_on' rfl rfl hc2 ?_
  refine sv (Does.fieldAddr' 5 Try.underlying24 rfl ty22 rfl rfl) ?_
  refine Seq.guard_on' rfl rfl hc2 ?_
  have c103 := s74.trans s93
  have c104 := c63.trans c103
  have o102 := o48.up c104
  refine sv (Does.load_own1 o102 ty22 rfl rfl) ?_
  refine Seq.guard_on' rfl rfl hc2 ?_
  refine sv (Does.len Try.underlying22 rfl) ?_
  refine Seq.guard_on' rfl rfl hc2 ?_
  refine sv (Does.gtr rfl rfl) ?_
  refine sv (Does.pick_b rfl hc2 rfl) ?_
  refine sv (Does.move rfl) ?_
  rcases Decidable.em ((5000 : Int) < (((List.length vt.value : Nat) : Int) : Int)) with hp3 | hp3
  · refine Seq.guard_off' rfl rfl (decide_eq_true hp3) rfl (by decide) ?_
    refine Seq.guard_off' rfl rfl (decide_eq_true hp3) rfl (by decide) ?_
    refine Seq.guard_off' rfl rfl (decide_eq_true hp3) rfl (by decide) ?_
    refine Seq.guard_off' rfl rfl (decide_eq_true hp3) rfl (by decide) ?_
    refine sv (Does.pick_b rfl (decide_eq_true hp3) rfl) ?_
    refine Seq.next ?_
    refine Run.cond_b rfl rfl ?_
    refine rsr ?_
    refine scall (V := Is (.bool true)) cal19 h94 rfl (law17_lives2 h94 ) fun v105 w106 q107 s108 h109 => ?_
    have q107 := Is.out q107; subst q107
    refine sv (Does.assign rfl) ?_
    refine Seq.next ?_
    have c110 := s93.trans s108
    have c111 := c86.trans c110
    obtain ⟨⟨zU, zo⟩, zb⟩ := hX c111 (by decide)
    refine Run.ret (ret_then ?_)
    exact post_one Try.results6 rfl ⟨_, rfl, rfl, zb⟩
  refine Seq.guard_on' rfl rfl (decide_eq_false hp3) ?_
  refine sv (Does.fieldAddr' 5 Try.underlying24 rfl ty22 rfl rfl) ?_
  refine Seq.guard_on' rfl rfl (decide_eq_false hp3) ?_
  have c113 := s60.trans c103
  have o112 := o54.up c113
  refine sv (Does.load_own1 o112 ty22 rfl rfl) ?_
  refine Seq.guard_on' rfl rfl (decide_eq_false hp3) ?_
  refine sv (Does.len Try.underlying22 rfl) ?_
  refine Seq.guard_on' rfl rfl (decide_eq_false hp3) ?_
  refine sv (Does.gtr rfl rfl) ?_
  refine sv (Does.pick_b rfl (decide_eq_false hp3) rfl) ?_
  refine Seq.next ?_
  rcases Decidable.em ((5000 : Int) < (((List.length vu.value : Nat) : Int) : Int)) with hp4 | hp4
  · refine Run.cond_b rfl (decide_eq_true hp4) ?_
    refine rsr ?_
    refine scall (V := Is (.bool true)) cal19 h94 rfl (law17_lives2 h94 ) fun v114 w115 q116 s117 h118 => ?_
    have q116 := Is.out q116; subst q116
    refine sv (Does.assign rfl) ?_
    refine Seq.next ?_
    have c119 := s93.trans s117
    have c120 := c86.trans c119
    obtain ⟨⟨zU, zo⟩, zb⟩ := hX c120 (by decide)
    refine Run.ret (ret_then ?_)
    exact post_one Try.results6 rfl ⟨_, rfl, rfl, zb⟩
  refine Run.cond_b rfl (decide_eq_false hp4) ?_
  refine Run.skip_go (fun _ _ h => h) ?_
  refine rsr ?_
  have o121 := o62.up c103
  refine sv (Does.load_ownN [i64 pl.kind, i64 pl.author, i64 pl.epoch, i64 pl.mode, i64 pl.peer, i64 pl.phase, .slice A1 (List.length pl.nums) c2, .slice A4 (List.length pl.texts) c5, .slice A7 (List.length pl.proof) c8] o121 ty36 rfl rfl) ?_
  have q123 := up c103 q68
  have q124 := up c103 q69
  have q125 := up c103 q70
  have q122 : PlainV pl L51 w91 (.agg #[i64 pl.kind, i64 pl.author, i64 pl.epoch, i64 pl.mode, i64 pl.peer, i64 pl.phase, .slice A1 (List.length pl.nums) c2, .slice A4 (List.length pl.texts) c5, .slice A7 (List.length pl.proof) c8]) := PlainV.mk q123 q124 q125
  refine scall (V := And2 (EntryV (ofE pl)) (RentryV (EntryD.ref (ofE pl)))) cal24 h94 rfl (law17_of h94 q122 (show List.length pl.nums ≤ 100 from by first | exact few_nums (by simpa using hc1) | exact few_nums (by simpa using hc2))) fun v126 w127 q128 s129 h130 => ?_
  obtain ⟨v131, v132, rfl, q133, q134⟩ := q128
  obtain ⟨A135, c136, A138, c139, A141, c142, rfl, q137, q140, q143⟩ := EntryV.open q133
  have z144 := NatsV.cap q137
  have z145 := RowsV.cap q140
  have z146 := BytesV.cap q143
  obtain ⟨A147, c148, A150, c151, A153, c154, rfl, q149, q152, q155⟩ := RentryV.open q134
  have z156 := NumsV.cap q149
  have z157 := RowsV.cap q152
  have z158 := BytesV.cap q155
  refine sv (Does.move rfl) ?_
  refine sv (Does.extract rfl rfl) ?_
  refine sv (Does.extract rfl rfl) ?_
  refine salloc 10 [.int .i64 0, .int .i64 0, .int .i64 0, .int .i64 0, .int .i64 0, .int .i64 0, .slice none 0 0, .slice none 0 0, .slice none 0 0] h130 ty40 rfl fun b161 L159 w160 o162 s163 h164 => ?_
  refine salloc 11 [.int .i64 0, .int .i64 0, .int .i64 0, .int .i64 0, .int .i64 0, .int .i64 0, .slice none 0 0, .slice none 0 0, .slice none 0 0] h164 ty43 rfl fun b167 L165 w166 o168 s169 h170 => ?_
  have o171 := o162.up s169
  refine sstore [i64 ((ofE pl).kind), i64 ((ofE pl).author), i64 ((ofE pl).epoch), i64 ((ofE pl).mode), i64 ((ofE pl).peer), i64 ((ofE pl).phase), .slice A135 (List.length (ofE pl).nums) c136, .slice A138 (List.length (ofE pl).texts) c139, .slice A141 (List.length (ofE pl).proof) c142] h170 o171 ty40 rfl rfl rfl (Nat.le_of_ble_eq_true rfl) rfl rfl fun w172 o173 s174 h175 => ?_
  have o176 := o168.up s174
  refine sstore [i64 ((EntryD.ref (ofE pl)).kind), i64 ((EntryD.ref (ofE pl)).author), i64 ((EntryD.ref (ofE pl)).epoch), i64 ((EntryD.ref (ofE pl)).mode), i64 ((EntryD.ref (ofE pl)).peer), i64 ((EntryD.ref (ofE pl)).phase), .slice A147 (List.length (EntryD.ref (ofE pl)).nums) c148, .slice A150 (List.length (EntryD.ref (ofE pl)).texts) c151, .slice A153 (List.length (EntryD.ref (ofE pl)).proof) c154] h175 o176 ty43 rfl rfl rfl (Nat.le_of_ble_eq_true rfl) rfl rfl fun w177 o178 s179 h180 => ?_
  refine nsr ?_
  have c182 := s174.trans s179
  have c183 := s169.trans c182
  have c184 := s163.trans c183
  have c185 := s129.trans c184
  have c186 := s93.trans c185
  have o181 := o83.up c186
  refine sv (Does.load_ownN [i64 po.kind, i64 po.author, i64 po.epoch, i64 po.mode, i64 po.peer, i64 po.phase, .slice A13 (List.length po.nums) c14, .slice A16 (List.length po.texts) c17, .slice A19 (List.length po.proof) c20] o181 ty36 rfl rfl) ?_
  have q188 := up c186 q87
  have q189 := up c186 q88
  have q190 := up c186 q89
  have q187 : PlainV po L165 w177 (.agg #[i64 po.kind, i64 po.author, i64 po.epoch, i64 po.mode, i64 po.peer, i64 po.phase, .slice A13 (List.length po.nums) c14, .slice A16 (List.length po.texts) c17, .slice A19 (List.length po.proof) c20]) := PlainV.mk q188 q189 q190
  refine scall (V := And2 (EntryV (ofE po)) (RentryV (EntryD.ref (ofE po)))) cal24 h180 rfl (law17_of h180 q187 (show List.length po.nums ≤ 100 from by first | exact few_nums (by simpa using hc1) | exact few_nums (by simpa using hc2))) fun v191 w192 q193 s194 h195 => ?_
  obtain ⟨v196, v197, rfl, q198, q199⟩ := q193
  obtain ⟨A200, c201, A203, c204, A206, c207, rfl, q202, q205, q208⟩ := EntryV.open q198
  have z209 := NatsV.cap q202
  have z210 := RowsV.cap q205
  have z211 := BytesV.cap q208
  obtain ⟨A212, c213, A215, c216, A218, c219, rfl, q214, q217, q220⟩ := RentryV.open q199
  have z221 := NumsV.cap q214
  have z222 := RowsV.cap q217
  have z223 := BytesV.cap q220
  refine sv (Does.move rfl) ?_
  refine sv (Does.extract rfl rfl) ?_
  refine sv (Does.extract rfl rfl) ?_
  refine salloc 12 [.int .i64 0, .int .i64 0, .int .i64 0, .int .i64 0, .int .i64 0, .int .i64 0, .slice none 0 0, .slice none 0 0, .slice none 0 0] h195 ty40 rfl fun b226 L224 w225 o227 s228 h229 => ?_
  refine salloc 13 [.int .i64 0, .int .i64 0, .int .i64 0, .int .i64 0, .int .i64 0, .int .i64 0, .slice none 0 0, .slice none 0 0, .slice none 0 0] h229 ty43 rfl fun b232 L230 w231 o233 s234 h235 => ?_
  have o236 := o227.up s234
  refine sstore [i64 ((ofE po).kind), i64 ((ofE po).author), i64 ((ofE po).epoch), i64 ((ofE po).mode), i64 ((ofE po).peer), i64 ((ofE po).phase), .slice A200 (List.length (ofE po).nums) c201, .slice A203 (List.length (ofE po).texts) c204, .slice A206 (List.length (ofE po).proof) c207] h235 o236 ty40 rfl rfl rfl (Nat.le_of_ble_eq_true rfl) rfl rfl fun w237 o238 s239 h240 => ?_
  have o241 := o233.up s239
  refine sstore [i64 ((EntryD.ref (ofE po)).kind), i64 ((EntryD.ref (ofE po)).author), i64 ((EntryD.ref (ofE po)).epoch), i64 ((EntryD.ref (ofE po)).mode), i64 ((EntryD.ref (ofE po)).peer), i64 ((EntryD.ref (ofE po)).phase), .slice A212 (List.length (EntryD.ref (ofE po)).nums) c213, .slice A215 (List.length (EntryD.ref (ofE po)).texts) c216, .slice A218 (List.length (EntryD.ref (ofE po)).proof) c219] h240 o241 ty43 rfl rfl rfl (Nat.le_of_ble_eq_true rfl) rfl rfl fun w242 o243 s244 h245 => ?_
  refine Seq.next ?_
  refine Run.seq ?_
  refine rsr ?_
  have c247 := s239.trans s244
  have c248 := s234.trans c247
  have c249 := s228.trans c248
  have c250 := s194.trans c249
  have c251 := s179.trans c250
  have o246 := o173.up c251
  refine sv (Does.load_ownN [i64 ((ofE pl).kind), i64 ((ofE pl).author), i64 ((ofE pl).epoch), i64 ((ofE pl).mode), i64 ((ofE pl).peer), i64 ((ofE pl).phase), .slice A135 (List.length (ofE pl).nums) c136, .slice A138 (List.length (ofE pl).texts) c139, .slice A141 (List.length (ofE pl).proof) c142] o246 ty40 rfl rfl) ?_
  have c253 := c184.trans c250
  have q254 := up c253 q137
  have q255 := up c253 q140
  have q256 := up c253 q143
  have q252 : EntryV (ofE pl) L230 w242 (.agg #[i64 ((ofE pl).kind), i64 ((ofE pl).author), i64 ((ofE pl).epoch), i64 ((ofE pl).mode), i64 ((ofE pl).peer), i64 ((ofE pl).phase), .slice A135 (List.length (ofE pl).nums) c136, .slice A138 (List.length (ofE pl).texts) c139, .slice A141 (List.length (ofE pl).proof) c142]) := EntryV.mk q254 q255 q256
  refine scall (V := And2 (BytesV (if (ofE pl).no then [] else (ofE pl).all)) (Is (i64 (if (ofE pl).no then 3 else 0)))) cal25 h245 rfl (wire_EncodeEntry h245 q252 (show ∀ k, k < List.length (ofE pl).nums → nw (List.getD (ofE pl).nums k 0) ≤ 1000000 from by first | exact ofE_nw pl | exact ofE_nw po | (rw [(ent_back (by assumption)).2.2]; exact ofE_nw pl))) fun v257 w258 q259 s260 h261 => ?_
  obtain ⟨v262, v263, rfl, q264, q265⟩ := q259
  obtain ⟨A266, c267, rfl⟩ := BytesV.shape q264
  have z268 := BytesV.cap q264
  have q265 := Is.out q265; subst q265
  refine sv (Does.move rfl) ?_
  refine sv (Does.extract rfl rfl) ?_
  refine sv (Does.extract rfl rfl) ?_
  refine sv (Does.assign rfl) ?_
  refine sv (Does.assign rfl) ?_
  refine nsr ?_
  refine sv (Does.move rfl) ?_
  refine sv (Does.eql rfl rfl) ?_
  refine Seq.next ?_
  rcases Decidable.em ((if (ofE pl).no then 3 else 0 : Int) = (0 : Int)) with hp5 | hp5
  rotate_left
  · refine Run.cond_b rfl (decide_eq_false hp5) ?_
    refine Run.skip_go (fun _ _ h => h) ?_
    refine Run.seq ?_
    refine rsr ?_
    have c1850 := c250.trans s260
    have c1851 := c185.trans c1850
    have o1849 := o102.up c1851
    refine sv (Does.load_ownN [i64 vt.kind, i64 vt.from_, i64 vt.slot, i64 vt.view, i64 vt.valid, .slice A25 (List.length vt.value) c26] o1849 ty24 rfl rfl) ?_
    have c1853 := c186.trans c1850
    have c1854 := c86.trans c1853
    have q1855 := up c1854 q27
    have q1852 : VoteV vt L230 w258 (.agg #[i64 vt.kind, i64 vt.from_, i64 vt.slot, i64 vt.view, i64 vt.valid, .slice A25 (List.length vt.value) c26]) := VoteV.mk q1855
    refine scall (V := And2 (BytesV (if vt.bad then [] else vt.bytes)) (Is (i64 (if vt.bad then 3 else 0)))) cal20 h261 rfl (wire_EncodeVote h261 q1852 (show List.length vt.value ≤ 100000 from by omega)) fun v1856 w1857 q1858 s1859 h1860 => ?_
    obtain ⟨v1861, v1862, rfl, q1863, q1864⟩ := q1858
    obtain ⟨A1865, c1866, rfl⟩ := BytesV.shape q1863
    have z1867 := BytesV.cap q1863
    have q1864 := Is.out q1864; subst q1864
    refine sv (Does.move rfl) ?_
    refine sv (Does.extract rfl rfl) ?_
    refine sv (Does.extract rfl rfl) ?_
    refine sv (Does.assign rfl) ?_
    refine sv (Does.assign rfl) ?_
    refine nsr ?_
    refine sv (Does.move rfl) ?_
    refine sv (Does.eql rfl rfl) ?_
    refine Seq.next ?_
    rcases Decidable.em ((if vt.bad then 3 else 0 : Int) = (0 : Int)) with hp6 | hp6
    rotate_left
    · refine Run.cond_b rfl (decide_eq_false hp6) ?_
      refine Run.skip_go (fun _ _ h => h) ?_
      refine rsr ?_
      refine sv (Does.assign rfl) ?_
      refine Seq.next ?_
      have c2332 := c1854.trans s1859
      obtain ⟨⟨zU, zo⟩, zb⟩ := hX c2332 (by decide)
      refine Run.ret ?_
      exact post_one Try.results6 rfl ⟨_, rfl, rfl, zb⟩
    refine Run.cond_b rfl (decide_eq_true hp6) ?_
    refine rsr ?_
    refine sv (Does.move rfl) ?_
    refine scall (V := And2 (VoteV (decV (if vt.bad then [] else vt.bytes))) (Is (i64 (if decVOk (if vt.bad then [] else vt.bytes) then 0 else 3)))) cal28 h1860 rfl (wire_DecodeVote h1860 q1863 (show List.length (if vt.bad then [] else vt.bytes) ≤ 1000000 from by (have h9 := vot_bounds 0 (d := vt) (by omega) (by assumption); omega))) fun v1868 w1869 q1870 s1871 h1872 => ?_
    obtain ⟨v1873, v1874, rfl, q1875, q1876⟩ := q1870
    obtain ⟨A1877, c1878, rfl, q1879⟩ := VoteV.open q1875
    have z1880 := BytesV.cap q1879
    have q1876 := Is.out q1876; subst q1876
    refine sv (Does.move rfl) ?_
    refine sv (Does.extract rfl rfl) ?_
    refine sv (Does.extract rfl rfl) ?_
    refine salloc 24 [.int .i64 0, .int .i64 0, .int .i64 0, .int .i64 0, .int .i64 0, .slice none 0 0] h1872 ty24 rfl fun b1883 L1881 w1882 o1884 s1885 h1886 => ?_
    refine sstore [i64 ((decV (if vt.bad then [] else vt.bytes)).kind), i64 ((decV (if vt.bad then [] else vt.bytes)).from_), i64 ((decV (if vt.bad then [] else vt.bytes)).slot), i64 ((decV (if vt.bad then [] else vt.bytes)).view), i64 ((decV (if vt.bad then [] else vt.bytes)).valid), .slice A1877 (List.length (decV (if vt.bad then [] else vt.bytes)).value) c1878] h1886 o1884 ty24 rfl rfl rfl (Nat.le_of_ble_eq_true rfl) rfl rfl fun w1887 o1888 s1889 h1890 => ?_
    refine sv (Does.assign rfl) ?_
    refine nsr ?_
    have c1892 := s1885.trans s1889
    have c1893 := s1871.trans c1892
    have c1894 := s1859.trans c1893
    have c1895 := c1851.trans c1894
    have o1891 := o112.up c1895
    refine sv (Does.load_ownN [i64 vu.kind, i64 vu.from_, i64 vu.slot, i64 vu.view, i64 vu.valid, .slice A29 (List.length vu.value) c30] o1891 ty24 rfl rfl) ?_
    have c1897 := c1854.trans c1894
    have q1898 := up c1897 q31
    have q1896 : VoteV vu L1881 w1887 (.agg #[i64 vu.kind, i64 vu.from_, i64 vu.slot, i64 vu.view, i64 vu.valid, .slice A29 (List.length vu.value) c30]) := VoteV.mk q1898
    refine scall (V := And2 (BytesV (if vu.bad then [] else vu.bytes)) (Is (i64 (if vu.bad then 3 else 0)))) cal20 h1890 rfl (wire_EncodeVote h1890 q1896 (show List.length vu.value ≤ 100000 from by omega)) fun v1899 w1900 q1901 s1902 h1903 => ?_
    obtain ⟨v1904, v1905, rfl, q1906, q1907⟩ := q1901
    obtain ⟨A1908, c1909, rfl⟩ := BytesV.shape q1906
    have z1910 := BytesV.cap q1906
    have q1907 := Is.out q1907; subst q1907
    refine sv (Does.move rfl) ?_
    refine sv (Does.extract rfl rfl) ?_
    refine sv (Does.extract rfl rfl) ?_
    refine sv (Does.assign rfl) ?_
    refine sv (Does.assign rfl) ?_
    refine Seq.next ?_
    refine Run.seq ?_
    rcases Decidable.em ((if decVOk (if vt.bad then [] else vt.bytes) then 0 else 3 : Int) ≠ (0 : Int)) with hp7 | hp7
    · refine Run.open 23 (Φ := [.ex (i64 (if decVOk (if vt.bad then [] else vt.bytes) then 0 else 3)), .ex (.bool (decide ((if decVOk (if vt.bad then [] else vt.bytes) then 0 else 3 : Int) ≠ (0 : Int)))), .ex (.bool (decide ((if decVOk (if vt.bad then [] else vt.bytes) then 0 else 3 : Int) ≠ (0 : Int)))), .ex undef, .ex undef, .ex undef, .ex undef, .ex (.bool true), .ex (.bool true), .ex undef, .ex undef, .ex undef, .ex undef, .ex undef, .ex undef, .ex undef, .ex undef, .ex undef, .ex undef, .ex undef, .ex undef, .ex undef, .ex (.bool true)]) [(22, 235)] mixed (by kernel_rfl) rfl h1903 ⟨(oX [] rfl rfl rfl fun _ _ => Does.move rfl), (oX [(0, 213)] rfl rfl rfl fun _ _ => Does.neq rfl rfl), (oX [(1, 214)] rfl rfl rfl fun _ _ => Does.move rfl), (oOff rfl rfl rfl rfl (decide_eq_true hp7) rfl rfl), (oOff rfl rfl rfl rfl (decide_eq_true hp7) rfl rfl), (oOff rfl rfl rfl rfl (decide_eq_true hp7) rfl rfl), (oOff rfl rfl rfl rfl (decide_eq_true hp7) rfl rfl), (oX [(2, 215)] rfl rfl rfl fun _ _ => Does.pick_b rfl (decide_eq_true hp7) rfl), (oX [(7, 220)] rfl rfl rfl fun _ _ => Does.move rfl), (oOff rfl rfl rfl rfl rfl rfl rfl), (oOff rfl rfl rfl rfl rfl rfl rfl), (oOff rfl rfl rfl rfl rfl rfl rfl), (oOffU rfl rfl rfl rfl rfl), (oOffU rfl rfl rfl rfl rfl), (oOffU rfl rfl rfl rfl rfl), (oOffU rfl rfl rfl rfl rfl), (oOffU rfl rfl rfl rfl rfl), (oOffU rfl rfl rfl rfl rfl), (oOffU rfl rfl rfl rfl rfl), (oOffU rfl rfl rfl rfl rfl), (oOffU rfl rfl rfl rfl rfl), (oOff rfl rfl rfl rfl rfl rfl rfl), (oX [(8, 221)] rfl rfl rfl fun _ _ => Does.pick_t rfl rfl), trivial⟩ (fun L1947 w1948 h1949 s1950 => ?_)
      refine Seq.next ?_
      refine Run.cond_b rfl rfl ?_
      refine rsr ?_
      refine sv (Does.assign rfl) ?_
      refine Seq.next ?_
      have c1951 := s1902.trans s1950
      have c1952 := c1897.trans c1951
      obtain ⟨⟨zU, zo⟩, zb⟩ := hX c1952 (by decide)
      refine Run.ret (ret_then ?_)
      exact post_one Try.results6 rfl ⟨_, rfl, (isBool (by first | (exact absurd (ent_ok0 hp5) hp6; done) | (exact absurd (ent_no0 hp5) hp7; done) | (exact absurd (ent_all0 hp5) hp8; done) | (exact absurd (congrArg EntryD.kind (ent_back hp5).2.2) hp9; done) | (exact absurd (congrArg EntryD.author (ent_back hp5).2.2) hp10; done) | (exact absurd (congrArg EntryD.epoch (ent_back hp5).2.2) hp11; done) | (exact absurd (congrArg (fun e : EntryD => ((List.length e.nums : Nat) : Int)) (ent_back hp5).2.2) hp12; done) | (exact absurd (congrArg (fun e : EntryD => ((List.length e.texts : Nat) : Int)) (ent_back hp5).2.2) hp13; done) | (exact absurd (congrArg EntryD.kind (ent_same hp5 hp14 hp15)) hp16; done) | (exact absurd (congrArg EntryD.author (ent_same hp5 hp14 hp15)) hp17; done) | (exact absurd (congrArg EntryD.epoch (ent_same hp5 hp14 hp15)) hp18; done) | (exact absurd (congrArg EntryD.peer (ent_same hp5 hp14 hp15)) hp19; done) | (exact absurd (congrArg EntryD.phase (ent_same hp5 hp14 hp15)) hp20; done) | (exact absurd (congrArg EntryD.mode (ent_same hp5 hp14 hp15)) hp21; done) | (exact absurd (congrArg EntryD.proof (ent_same hp5 hp14 hp15)) hp22; done) | (exact absurd (vot_ok0 hp6) hp7; done) | (exact vot_sm hp6 hc8; done) | (exact vot_df hp6 hp9 hc10; done) | (exact absurd (vot_ok0 hp7) hp8; done) | (exact vot_sm hp7 hc9; done) | (exact vot_df hp7 hp10 hc11; done) | (exact absurd (vot_ok0 hp8) hp9; done) | (exact vot_sm hp8 hc10; done) | (exact vot_df hp8 hp11 hc12; done) | (exact absurd (vot_ok0 hp9) hp10; done) | (exact vot_sm hp9 hc11; done) | (exact vot_df hp9 hp12 hc13; done) | (exact absurd (vot_ok0 hp10) hp11; done) | (exact vot_sm hp10 hc12; done) | (exact vot_df hp10 hp13 hc14; done) | (exact absurd (vot_ok0 hp11) hp12; done) | (exact vot_sm hp11 hc13; done) | (exact vot_df hp11 hp14 hc15; done) | (exact absurd (vot_ok0 hp12) hp13; done) | (exact vot_sm hp12 hc14; done) | (exact vot_df hp12 hp15 hc16; done) | (exact absurd (vot_ok0 hp13) hp14; done) | (exact vot_sm hp13 hc15; done) | (exact vot_df hp13 hp16 hc17; done) | (exact absurd (vot_ok0 hp14) hp15; done) | (exact vot_sm hp14 hc16; done) | (exact vot_df hp14 hp17 hc18; done) | (exact absurd (vot_ok0 hp15) hp16; done) | (exact vot_sm hp15 hc17; done) | (exact vot_df hp15 hp18 hc19; done) | (exact absurd (vot_ok0 hp16) hp17; done) | (exact vot_sm hp16 hc18; done) | (exact vot_df hp16 hp19 hc20; done) | (exact absurd (vot_ok0 hp17) hp18; done) | (exact vot_sm hp17 hc19; done) | (exact vot_df hp17 hp20 hc21; done) | (exact absurd (vot_ok0 hp18) hp19; done) | (exact vot_sm hp18 hc20; done) | (exact vot_df hp18 hp21 hc22; done) | (exact absurd (vot_ok0 hp19) hp20; done) | (exact vot_sm hp19 hc21; done) | (exact vot_df hp19 hp22 hc23; done) | (exact absurd (vot_ok0 hp20) hp21; done) | (exact vot_sm hp20 hc22; done) | (exact vot_df hp20 hp23 hc24; done) | (exact absurd (vot_ok0 hp21) hp22; done) | (exact vot_sm hp21 hc23; done) | (exact vot_df hp21 hp24 hc25; done) | (exact absurd (vot_ok0 hp22) hp23; done) | (exact vot_sm hp22 hc24; done) | (exact vot_df hp22 hp25 hc26; done) | (exact absurd (vot_ok0 hp23) hp24; done) | (exact vot_sm hp23 hc25; done) | (exact vot_df hp23 hp26 hc27; done) | (exact absurd (vot_ok0 hp24) hp25; done) | (exact vot_sm hp24 hc26; done) | (exact vot_df hp24 hp27 hc28; done) | (exact absurd (vot_ok0 hp25) hp26; done) | (exact vot_sm hp25 hc27; done) | (exact vot_df hp25 hp28 hc29; done) | (with_reducible rfl; done) | (omega; done) | (simp_all; done)) _ _), zb⟩
    rcases bdich (!(sameV (decV (if vt.bad then [] else vt.bytes)) vt)) with hc8 | hc8
    · refine Run.open 23 (Φ := [.ex (i64 (if decVOk (if vt.bad then [] else vt.bytes) then 0 else 3)), .ex (.bool (decide ((if decVOk (if vt.bad then [] else vt.bytes) then 0 else 3 : Int) ≠ (0 : Int)))), .ex (.bool (decide ((if decVOk (if vt.bad then [] else vt.bytes) then 0 else 3 : Int) ≠ (0 : Int)))), .ex (.agg #[i64 ((decV (if vt.bad then [] else vt.bytes)).kind), i64 ((decV (if vt.bad then [] else vt.bytes)).from_), i64 ((decV (if vt.bad then [] else vt.bytes)).slot), i64 ((decV (if vt.bad then [] else vt.bytes)).view), i64 ((decV (if vt.bad then [] else vt.bytes)).valid), .slice A1877 (List.length (decV (if vt.bad then [] else vt.bytes)).value) c1878]), .ex (.agg #[i64 vt.kind, i64 vt.from_, i64 vt.slot, i64 vt.view, i64 vt.valid, .slice A25 (List.length vt.value) c26]), .v (Is (.bool (sameV (decV (if vt.bad then [] else vt.bytes)) vt))), .ex (.bool (!(sameV (decV (if vt.bad then [] else vt.bytes)) vt))), .ex (.bool (!(sameV (decV (if vt.bad then [] else vt.bytes)) vt))), .ex (.bool (!(sameV (decV (if vt.bad then [] else vt.bytes)) vt))), .ex undef, .ex undef, .ex undef, .ex undef, .ex undef, .ex undef, .ex undef, .ex undef, .ex undef, .ex undef, .ex undef, .ex undef, .ex undef, .ex (.bool true)]) [(22, 235)] mixed (by kernel_rfl) rfl h1903 ⟨(oX [] rfl rfl rfl fun _ _ => Does.move rfl), (oX [(0, 213)] rfl rfl rfl fun _ _ => Does.neq rfl rfl), (oX [(1, 214)] rfl rfl rfl fun _ _ => Does.move rfl), ?_, ?_, ?_, ?_, (oX [(2, 215), (6, 219)] rfl rfl rfl fun _ _ => Does.pick_b rfl (decide_eq_false hp7) rfl), (oX [(7, 220)] rfl rfl rfl fun _ _ => Does.move rfl), (oOff rfl rfl rfl rfl hc8 rfl rfl), (oOff rfl rfl rfl rfl hc8 rfl rfl), (oOff rfl rfl rfl rfl hc8 rfl rfl), (oOffU rfl rfl rfl rfl rfl), (oOffU rfl rfl rfl rfl rfl), (oOffU rfl rfl rfl rfl rfl), (oOffU rfl rfl rfl rfl rfl), (oOffU rfl rfl rfl rfl rfl), (oOffU rfl rfl rfl rfl rfl), (oOffU rfl rfl rfl rfl rfl), (oOffU rfl rfl rfl rfl rfl), (oOffU rfl rfl rfl rfl rfl), (oOff rfl rfl rfl rfl hc8 rfl rfl), (oX [(8, 221)] rfl rfl rfl fun _ _ => Does.pick_b rfl hc8 rfl), trivial⟩ (fun L2057 w2058 h2059 s2060 => ?_)
      · refine oP_on [] rfl rfl rfl rfl (decide_eq_false hp7) rfl fun L2015 w2016 h2017 s2018 => ?_
        have c2020 := s1902.trans s2018
        have o2019 := o1888.up c2020
        exact ⟨_, Does.load_ownN [i64 ((decV (if vt.bad then [] else vt.bytes)).kind), i64 ((decV (if vt.bad then [] else vt.bytes)).from_), i64 ((decV (if vt.bad then [] else vt.bytes)).slot), i64 ((decV (if vt.bad then [] else vt.bytes)).view), i64 ((decV (if vt.bad then [] else vt.bytes)).valid), .slice A1877 (List.length (decV (if vt.bad then [] else vt.bytes)).value) c1878] o2019 ty24 rfl rfl, rfl⟩
      · refine oP_on [] rfl rfl rfl rfl (decide_eq_false hp7) rfl fun L2021 w2022 h2023 s2024 => ?_
        have c2026 := s1902.trans s2024
        have c2027 := c1894.trans c2026
        have o2025 := o1849.up c2027
        exact ⟨_, Does.load_ownN [i64 vt.kind, i64 vt.from_, i64 vt.slot, i64 vt.view, i64 vt.valid, .slice A25 (List.length vt.value) c26] o2025 ty24 rfl rfl, rfl⟩
      · refine oC_on [(3, 216), (4, 217)] rfl rfl rfl rfl (decide_eq_false hp7) rfl cal29 fun L2028 w2029 h2030 s2031 => ?_
        have c2033 := s1902.trans s2031
        have c2034 := c1892.trans c2033
        have q2035 := up c2034 q1879
        have q2032 : VoteV (decV (if vt.bad then [] else vt.bytes)) L2028 w2029 (.agg #[i64 ((decV (if vt.bad then [] else vt.bytes)).kind), i64 ((decV (if vt.bad then [] else vt.bytes)).from_), i64 ((decV (if vt.bad then [] else vt.bytes)).slot), i64 ((decV (if vt.bad then [] else vt.bytes)).view), i64 ((decV (if vt.bad then [] else vt.bytes)).valid), .slice A1877 (List.length (decV (if vt.bad then [] else vt.bytes)).value) c1878]) := VoteV.mk q2035
        have c2037 := c1894.trans c2033
        have q2038 := up c2037 q1855
        have q2036 : VoteV vt L2028 w2029 (.agg #[i64 vt.kind, i64 vt.from_, i64 vt.slot, i64 vt.view, i64 vt.valid, .slice A25 (List.length vt.value) c26]) := VoteV.mk q2038
        exact ⟨_, rfl, (wire_Same h2030 q2032 q2036)⟩
      · refine oP_on [(5, 218)] rfl rfl rfl rfl (decide_eq_false hp7) rfl fun L2039 w2040 h2041 s2042 v2043 q2044 => ?_
        have q2044 := Is.out q2044; subst q2044
        exact ⟨_, Does.not rfl, rfl⟩
      refine Seq.next ?_
      refine Run.cond_b rfl rfl ?_
      refine rsr ?_
      refine sv (Does.assign rfl) ?_
      refine Seq.next ?_
      have c2061 := s1902.trans s2060
      have c2062 := c1897.trans c2061
      obtain ⟨⟨zU, zo⟩, zb⟩ := hX c2062 (by decide)
      refine Run.ret (ret_then ?_)
      exact post_one Try.results6 rfl ⟨_, rfl, (isBool (by first | (exact absurd (ent_ok0 hp5) hp6; done) | (exact absurd (ent_no0 hp5) hp7; done) | (exact absurd (ent_all0 hp5) hp8; done) | (exact absurd (congrArg EntryD.kind (ent_back hp5).2.2) hp9; done) | (exact absurd (congrArg EntryD.author (ent_back hp5).2.2) hp10; done) | (exact absurd (congrArg EntryD.epoch (ent_back hp5).2.2) hp11; done) | (exact absurd (congrArg (fun e : EntryD => ((List.length e.nums : Nat) : Int)) (ent_back hp5).2.2) hp12; done) | (exact absurd (congrArg (fun e : EntryD => ((List.length e.texts : Nat) : Int)) (ent_back hp5).2.2) hp13; done) | (exact absurd (congrArg EntryD.kind (ent_same hp5 hp14 hp15)) hp16; done) | (exact absurd (congrArg EntryD.author (ent_same hp5 hp14 hp15)) hp17; done) | (exact absurd (congrArg EntryD.epoch (ent_same hp5 hp14 hp15)) hp18; done) | (exact absurd (congrArg EntryD.peer (ent_same hp5 hp14 hp15)) hp19; done) | (exact absurd (congrArg EntryD.phase (ent_same hp5 hp14 hp15)) hp20; done) | (exact absurd (congrArg EntryD.mode (ent_same hp5 hp14 hp15)) hp21; done) | (exact absurd (congrArg EntryD.proof (ent_same hp5 hp14 hp15)) hp22; done) | (exact absurd (vot_ok0 hp6) hp7; done) | (exact vot_sm hp6 hc8; done) | (exact vot_df hp6 hp9 hc10; done) | (exact absurd (vot_ok0 hp7) hp8; done) | (exact vot_sm hp7 hc9; done) | (exact vot_df hp7 hp10 hc11; done) | (exact absurd (vot_ok0 hp8) hp9; done) | (exact vot_sm hp8 hc10; done) | (exact vot_df hp8 hp11 hc12; done) | (exact absurd (vot_ok0 hp9) hp10; done) | (exact vot_sm hp9 hc11; done) | (exact vot_df hp9 hp12 hc13; done) | (exact absurd (vot_ok0 hp10) hp11; done) | (exact vot_sm hp10 hc12; done) | (exact vot_df hp10 hp13 hc14; done) | (exact absurd (vot_ok0 hp11) hp12; done) | (exact vot_sm hp11 hc13; done) | (exact vot_df hp11 hp14 hc15; done) | (exact absurd (vot_ok0 hp12) hp13; done) | (exact vot_sm hp12 hc14; done) | (exact vot_df hp12 hp15 hc16; done) | (exact absurd (vot_ok0 hp13) hp14; done) | (exact vot_sm hp13 hc15; done) | (exact vot_df hp13 hp16 hc17; done) | (exact absurd (vot_ok0 hp14) hp15; done) | (exact vot_sm hp14 hc16; done) | (exact vot_df hp14 hp17 hc18; done) | (exact absurd (vot_ok0 hp15) hp16; done) | (exact vot_sm hp15 hc17; done) | (exact vot_df hp15 hp18 hc19; done) | (exact absurd (vot_ok0 hp16) hp17; done) | (exact vot_sm hp16 hc18; done) | (exact vot_df hp16 hp19 hc20; done) | (exact absurd (vot_ok0 hp17) hp18; done) | (exact vot_sm hp17 hc19; done) | (exact vot_df hp17 hp20 hc21; done) | (exact absurd (vot_ok0 hp18) hp19; done) | (exact vot_sm hp18 hc20; done) | (exact vot_df hp18 hp21 hc22; done) | (exact absurd (vot_ok0 hp19) hp20; done) | (exact vot_sm hp19 hc21; done) | (exact vot_df hp19 hp22 hc23; done) | (exact absurd (vot_ok0 hp20) hp21; done) | (exact vot_sm hp20 hc22; done) | (exact vot_df hp20 hp23 hc24; done) | (exact absurd (vot_ok0 hp21) hp22; done) | (exact vot_sm hp21 hc23; done) | (exact vot_df hp21 hp24 hc25; done) | (exact absurd (vot_ok0 hp22) hp23; done) | (exact vot_sm hp22 hc24; done) | (exact vot_df hp22 hp25 hc26; done) | (exact absurd (vot_ok0 hp23) hp24; done) | (exact vot_sm hp23 hc25; done) | (exact vot_df hp23 hp26 hc27; done) | (exact absurd (vot_ok0 hp24) hp25; done) | (exact vot_sm hp24 hc26; done) | (exact vot_df hp24 hp27 hc28; done) | (exact absurd (vot_ok0 hp25) hp26; done) | (exact vot_sm hp25 hc27; done) | (exact vot_df hp25 hp28 hc29; done) | (with_reducible rfl; done) | (omega; done) | (simp_all; done)) _ _), zb⟩
    rcases Decidable.em ((if vu.bad then 3 else 0 : Int) = (0 : Int)) with hp9 | hp9
    rotate_left
    · refine Run.open 23 (Φ := [.ex (i64 (if decVOk (if vt.bad then [] else vt.bytes) then 0 else 3)), .ex (.bool (decide ((if decVOk (if vt.bad then [] else vt.bytes) then 0 else 3 : Int) ≠ (0 : Int)))), .ex (.bool (decide ((if decVOk (if vt.bad then [] else vt.bytes) then 0 else 3 : Int) ≠ (0 : Int)))), .ex (.agg #[i64 ((decV (if vt.bad then [] else vt.bytes)).kind), i64 ((decV (if vt.bad then [] else vt.bytes)).from_), i64 ((decV (if vt.bad then [] else vt.bytes)).slot), i64 ((decV (if vt.bad then [] else vt.bytes)).view), i64 ((decV (if vt.bad then [] else vt.bytes)).valid), .slice A1877 (List.length (decV (if vt.bad then [] else vt.bytes)).value) c1878]), .ex (.agg #[i64 vt.kind, i64 vt.from_, i64 vt.slot, i64 vt.view, i64 vt.valid, .slice A25 (List.length vt.value) c26]), .v (Is (.bool (sameV (decV (if vt.bad then [] else vt.bytes)) vt))), .ex (.bool (!(sameV (decV (if vt.bad then [] else vt.bytes)) vt))), .ex (.bool (!(sameV (decV (if vt.bad then [] else vt.bytes)) vt))), .ex (.bool (!(sameV (decV (if vt.bad then [] else vt.bytes)) vt))), .ex (i64 (if vu.bad then 3 else 0)), .ex (.bool (decide ((if vu.bad then 3 else 0 : Int) = (0 : Int)))), .ex (.bool (decide ((if vu.bad then 3 else 0 : Int) = (0 : Int)))), .ex undef, .ex undef, .ex undef, .ex undef, .ex undef, .ex undef, .ex undef, .ex undef, .ex undef, .ex (.bool false), .ex (.bool false)]) [(22, 235)] mixed (by kernel_rfl) rfl h1903 ⟨(oX [] rfl rfl rfl fun _ _ => Does.move rfl), (oX [(0, 213)] rfl rfl rfl fun _ _ => Does.neq rfl rfl), (oX [(1, 214)] rfl rfl rfl fun _ _ => Does.move rfl), ?_, ?_, ?_, ?_, (oX [(2, 215), (6, 219)] rfl rfl rfl fun _ _ => Does.pick_b rfl (decide_eq_false hp7) rfl), (oX [(7, 220)] rfl rfl rfl fun _ _ => Does.move rfl), ?_, ?_, ?_, (oOff rfl rfl rfl rfl (decide_eq_false hp9) rfl rfl), (oOff rfl rfl rfl rfl (decide_eq_false hp9) rfl rfl), (oOff rfl rfl rfl rfl (decide_eq_false hp9) rfl rfl), (oOff rfl rfl rfl rfl (decide_eq_false hp9) rfl rfl), (oOff rfl rfl rfl rfl (decide_eq_false hp9) rfl rfl), (oOff rfl rfl rfl rfl (decide_eq_false hp9) rfl rfl), (oOff rfl rfl rfl rfl (decide_eq_false hp9) rfl rfl), (oOff rfl rfl rfl rfl (decide_eq_false hp9) rfl rfl), (oOff rfl rfl rfl rfl (decide_eq_false hp9) rfl rfl), ?_, (oX [(8, 221), (21, 234)] rfl rfl rfl fun _ _ => Does.pick_b rfl hc8 rfl), trivial⟩ (fun L2326 w2327 h2328 s2329 => ?_)
      · refine oP_on [] rfl rfl rfl rfl (decide_eq_false hp7) rfl fun L2268 w2269 h2270 s2271 => ?_
        have c2273 := s1902.trans s2271
        have o2272 := o1888.up c2273
        exact ⟨_, Does.load_ownN [i64 ((decV (if vt.bad then [] else vt.bytes)).kind), i64 ((decV (if vt.bad then [] else vt.bytes)).from_), i64 ((decV (if vt.bad then [] else vt.bytes)).slot), i64 ((decV (if vt.bad then [] else vt.bytes)).view), i64 ((decV (if vt.bad then [] else vt.bytes)).valid), .slice A1877 (List.length (decV (if vt.bad then [] else vt.bytes)).value) c1878] o2272 ty24 rfl rfl, rfl⟩
      · refine oP_on [] rfl rfl rfl rfl (decide_eq_false hp7) rfl fun L2274 w2275 h2276 s2277 => ?_
        have c2279 := s1902.trans s2277
        have c2280 := c1894.trans c2279
        have o2278 := o1849.up c2280
        exact ⟨_, Does.load_ownN [i64 vt.kind, i64 vt.from_, i64 vt.slot, i64 vt.view, i64 vt.valid, .slice A25 (List.length vt.value) c26] o2278 ty24 rfl rfl, rfl⟩
      · refine oC_on [(3, 216), (4, 217)] rfl rfl rfl rfl (decide_eq_false hp7) rfl cal29 fun L2281 w2282 h2283 s2284 => ?_
        have c2286 := s1902.trans s2284
        have c2287 := c1892.trans c2286
        have q2288 := up c2287 q1879
        have q2285 : VoteV (decV (if vt.bad then [] else vt.bytes)) L2281 w2282 (.agg #[i64 ((decV (if vt.bad then [] else vt.bytes)).kind), i64 ((decV (if vt.bad then [] else vt.bytes)).from_), i64 ((decV (if vt.bad then [] else vt.bytes)).slot), i64 ((decV (if vt.bad then [] else vt.bytes)).view), i64 ((decV (if vt.bad then [] else vt.bytes)).valid), .slice A1877 (List.length (decV (if vt.bad then [] else vt.bytes)).value) c1878]) := VoteV.mk q2288
        have c2290 := c1894.trans c2286
        have q2291 := up c2290 q1855
        have q2289 : VoteV vt L2281 w2282 (.agg #[i64 vt.kind, i64 vt.from_, i64 vt.slot, i64 vt.view, i64 vt.valid, .slice A25 (List.length vt.value) c26]) := VoteV.mk q2291
        exact ⟨_, rfl, (wire_Same h2283 q2285 q2289)⟩
      · refine oP_on [(5, 218)] rfl rfl rfl rfl (decide_eq_false hp7) rfl fun L2292 w2293 h2294 s2295 v2296 q2297 => ?_
        have q2297 := Is.out q2297; subst q2297
        exact ⟨_, Does.not rfl, rfl⟩
      · refine oP_on [] rfl rfl rfl rfl hc8 rfl fun L2306 w2307 h2308 s2309 => ?_
        exact ⟨_, Does.move rfl, rfl⟩
      · refine oP_on [(9, 222)] rfl rfl rfl rfl hc8 rfl fun L2310 w2311 h2312 s2313 => ?_
        exact ⟨_, Does.eql rfl rfl, rfl⟩
      · refine oP_on [(10, 223)] rfl rfl rfl rfl hc8 rfl fun L2314 w2315 h2316 s2317 => ?_
        exact ⟨_, Does.move rfl, rfl⟩
      · refine oP_on [(11, 224)] rfl rfl rfl rfl hc8 rfl fun L2318 w2319 h2320 s2321 => ?_
        exact ⟨_, Does.pick_b rfl (decide_eq_false hp9) rfl, rfl⟩
      refine Seq.next ?_
      refine Run.cond_b rfl rfl ?_
      refine Run.skip_go (fun _ _ h => h) ?_
      refine rsr ?_
      refine sv (Does.assign rfl) ?_
      refine Seq.next ?_
      have c2330 := s1902.trans s2329
      have c2331 := c1897.trans c2330
      obtain ⟨⟨zU, zo⟩, zb⟩ := hX c2331 (by decide)
      refine Run.ret ?_
      exact post_one Try.results6 rfl ⟨_, rfl, rfl, zb⟩
    refine Run.open 23 (Φ := [.ex (i64 (if decVOk (if vt.bad then [] else vt.bytes) then 0 else 3)), .ex (.bool (decide ((if decVOk (if vt.bad then [] else vt.bytes) then 0 else 3 : Int) ≠ (0 : Int)))), .ex (.bool (decide ((if decVOk (if vt.bad then [] else vt.bytes) then 0 else 3 : Int) ≠ (0 : Int)))), .ex (.agg #[i64 ((decV (if vt.bad then [] else vt.bytes)).kind), i64 ((decV (if vt.bad then [] else vt.bytes)).from_), i64 ((decV (if vt.bad then [] else vt.bytes)).slot), i64 ((decV (if vt.bad then [] else vt.bytes)).view), i64 ((decV (if vt.bad then [] else vt.bytes)).valid), .slice A1877 (List.length (decV (if vt.bad then [] else vt.bytes)).value) c1878]), .ex (.agg #[i64 vt.kind, i64 vt.from_, i64 vt.slot, i64 vt.view, i64 vt.valid, .slice A25 (List.length vt.value) c26]), .v (Is (.bool (sameV (decV (if vt.bad then [] else vt.bytes)) vt))), .ex (.bool (!(sameV (decV (if vt.bad then [] else vt.bytes)) vt))), .ex (.bool (!(sameV (decV (if vt.bad then [] else vt.bytes)) vt))), .ex (.bool (!(sameV (decV (if vt.bad then [] else vt.bytes)) vt))), .ex (i64 (if vu.bad then 3 else 0)), .ex (.bool (decide ((if vu.bad then 3 else 0 : Int) = (0 : Int)))), .ex (.bool (decide ((if vu.bad then 3 else 0 : Int) = (0 : Int)))), .ex (.slice A1908 (List.length (if vu.bad then [] else vu.bytes)) c1909), .ex (str (if vu.bad then [] else vu.bytes)), .ex (.slice A1865 (List.length (if vt.bad then [] else vt.bytes)) c1866), .ex (str (if vt.bad then [] else vt.bytes)), .ex (.bool (decide ((if vu.bad then [] else vu.bytes) = (if vt.bad then [] else vt.bytes)))), .ex (.agg #[i64 vu.kind, i64 vu.from_, i64 vu.slot, i64 vu.view, i64 vu.valid, .slice A29 (List.length vu.value) c30]), .ex (.agg #[i64 vt.kind, i64 vt.from_, i64 vt.slot, i64 vt.view, i64 vt.valid, .slice A25 (List.length vt.value) c26]), .v (Is (.bool (sameV vu vt))), .ex (.bool (!((decide ((if vu.bad then [] else vu.bytes) = (if vt.bad then [] else vt.bytes))) == (sameV vu vt)))), .ex (.bool (!((decide ((if vu.bad then [] else vu.bytes) = (if vt.bad then [] else vt.bytes))) == (sameV vu vt)))), .ex (.bool (!((decide ((if vu.bad then [] else vu.bytes) = (if vt.bad then [] else vt.bytes))) == (sameV vu vt))))]) [(22, 235)] mixed (by kernel_rfl) rfl h1903 ⟨(oX [] rfl rfl rfl fun _ _ => Does.move rfl), (oX [(0, 213)] rfl rfl rfl fun _ _ => Does.neq rfl rfl), (oX [(1, 214)] rfl rfl rfl fun _ _ => Does.move rfl), ?_, ?_, ?_, ?_, (oX [(2, 215), (6, 219)] rfl rfl rfl fun _ _ => Does.pick_b rfl (decide_eq_false hp7) rfl), (oX [(7, 220)] rfl rfl rfl fun _ _ => Does.move rfl), ?_, ?_, ?_, ?_, ?_, ?_, ?_, ?_, ?_, ?_, ?_, ?_, ?_, (oX [(8, 221), (21, 234)] rfl rfl rfl fun _ _ => Does.pick_b rfl hc8 rfl), trivial⟩ (fun L2248 w2249 h2250 s2251 => ?_)
    · refine oP_on [] rfl rfl rfl rfl (decide_eq_false hp7) rfl fun L2137 w2138 h2139 s2140 => ?_
      have c2142 := s1902.trans s2140
      have o2141 := o1888.up c2142
      exact ⟨_, Does.load_ownN [i64 ((decV (if vt.bad then [] else vt.bytes)).kind), i64 ((decV (if vt.bad then [] else vt.bytes)).from_), i64 ((decV (if vt.bad then [] else vt.bytes)).slot), i64 ((decV (if vt.bad then [] else vt.bytes)).view), i64 ((decV (if vt.bad then [] else vt.bytes)).valid), .slice A1877 (List.length (decV (if vt.bad then [] else vt.bytes)).value) c1878] o2141 ty24 rfl rfl, rfl⟩
    · refine oP_on [] rfl rfl rfl rfl (decide_eq_false hp7) rfl fun L2143 w2144 h2145 s2146 => ?_
      have c2148 := s1902.trans s2146
      have c2149 := c1894.trans c2148
      have o2147 := o1849.up c2149
      exact ⟨_, Does.load_ownN [i64 vt.kind, i64 vt.from_, i64 vt.slot, i64 vt.view, i64 vt.valid, .slice A25 (List.length vt.value) c26] o2147 ty24 rfl rfl, rfl⟩
    · refine oC_on [(3, 216), (4, 217)] rfl rfl rfl rfl (decide_eq_false hp7) rfl cal29 fun L2150 w2151 h2152 s2153 => ?_
      have c2155 := s1902.trans s2153
      have c2156 := c1892.trans c2155
      have q2157 := up c2156 q1879
      have q2154 : VoteV (decV (if vt.bad then [] else vt.bytes)) L2150 w2151 (.agg #[i64 ((decV (if vt.bad then [] else vt.bytes)).kind), i64 ((decV (if vt.bad then [] else vt.bytes)).from_), i64 ((decV (if vt.bad then [] else vt.bytes)).slot), i64 ((decV (if vt.bad then [] else vt.bytes)).view), i64 ((decV (if vt.bad then [] else vt.bytes)).valid), .slice A1877 (List.length (decV (if vt.bad then [] else vt.bytes)).value) c1878]) := VoteV.mk q2157
      have c2159 := c1894.trans c2155
      have q2160 := up c2159 q1855
      have q2158 : VoteV vt L2150 w2151 (.agg #[i64 vt.kind, i64 vt.from_, i64 vt.slot, i64 vt.view, i64 vt.valid, .slice A25 (List.length vt.value) c26]) := VoteV.mk q2160
      exact ⟨_, rfl, (wire_Same h2152 q2154 q2158)⟩
    · refine oP_on [(5, 218)] rfl rfl rfl rfl (decide_eq_false hp7) rfl fun L2161 w2162 h2163 s2164 v2165 q2166 => ?_
      have q2166 := Is.out q2166; subst q2166
      exact ⟨_, Does.not rfl, rfl⟩
    · refine oP_on [] rfl rfl rfl rfl hc8 rfl fun L2175 w2176 h2177 s2178 => ?_
      exact ⟨_, Does.move rfl, rfl⟩
    · refine oP_on [(9, 222)] rfl rfl rfl rfl hc8 rfl fun L2179 w2180 h2181 s2182 => ?_
      exact ⟨_, Does.eql rfl rfl, rfl⟩
    · refine oP_on [(10, 223)] rfl rfl rfl rfl hc8 rfl fun L2183 w2184 h2185 s2186 => ?_
      exact ⟨_, Does.move rfl, rfl⟩
    · refine oP_on [] rfl rfl rfl rfl (decide_eq_true hp9) rfl fun L2187 w2188 h2189 s2190 => ?_
      exact ⟨_, Does.move rfl, rfl⟩
    · refine oP_on [(12, 225)] rfl rfl rfl rfl (decide_eq_true hp9) rfl fun L2191 w2192 h2193 s2194 => ?_
      have q2195 := up s2194 q1906
      exact ⟨_, Does.conv_str Try.underlying22 Try.underlying5 Try.underlying9 rfl q2195, rfl⟩
    · refine oP_on [] rfl rfl rfl rfl (decide_eq_true hp9) rfl fun L2196 w2197 h2198 s2199 => ?_
      exact ⟨_, Does.move rfl, rfl⟩
    · refine oP_on [(14, 227)] rfl rfl rfl rfl (decide_eq_true hp9) rfl fun L2200 w2201 h2202 s2203 => ?_
      have c2204 := s1902.trans s2203
      have c2205 := c1893.trans c2204
      have q2206 := up c2205 q1863
      exact ⟨_, Does.conv_str Try.underlying22 Try.underlying5 Try.underlying9 rfl q2206, rfl⟩
    · refine oP_on [(13, 226), (15, 228)] rfl rfl rfl rfl (decide_eq_true hp9) rfl fun L2207 w2208 h2209 s2210 => ?_
      exact ⟨_, Does.str_eql rfl rfl, rfl⟩
    · refine oP_on [] rfl rfl rfl rfl (decide_eq_true hp9) rfl fun L2211 w2212 h2213 s2214 => ?_
      have c2216 := s1902.trans s2214
      have o2215 := o1891.up c2216
      exact ⟨_, Does.load_ownN [i64 vu.kind, i64 vu.from_, i64 vu.slot, i64 vu.view, i64 vu.valid, .slice A29 (List.length vu.value) c30] o2215 ty24 rfl rfl, rfl⟩
    · refine oP_on [] rfl rfl rfl rfl (decide_eq_true hp9) rfl fun L2217 w2218 h2219 s2220 => ?_
      have c2222 := s1902.trans s2220
      have c2223 := c1894.trans c2222
      have o2221 := o1849.up c2223
      exact ⟨_, Does.load_ownN [i64 vt.kind, i64 vt.from_, i64 vt.slot, i64 vt.view, i64 vt.valid, .slice A25 (List.length vt.value) c26] o2221 ty24 rfl rfl, rfl⟩
    · refine oC_on [(17, 230), (18, 231)] rfl rfl rfl rfl (decide_eq_true hp9) rfl cal29 fun L2224 w2225 h2226 s2227 => ?_
      have c2229 := s1902.trans s2227
      have q2230 := up c2229 q1898
      have q2228 : VoteV vu L2224 w2225 (.agg #[i64 vu.kind, i64 vu.from_, i64 vu.slot, i64 vu.view, i64 vu.valid, .slice A29 (List.length vu.value) c30]) := VoteV.mk q2230
      have c2232 := c1894.trans c2229
      have q2233 := up c2232 q1855
      have q2231 : VoteV vt L2224 w2225 (.agg #[i64 vt.kind, i64 vt.from_, i64 vt.slot, i64 vt.view, i64 vt.valid, .slice A25 (List.length vt.value) c26]) := VoteV.mk q2233
      exact ⟨_, rfl, (wire_Same h2226 q2228 q2231)⟩
    · refine oP_on [(16, 229), (19, 232)] rfl rfl rfl rfl (decide_eq_true hp9) rfl fun L2234 w2235 h2236 s2237 v2238 q2239 => ?_
      have q2239 := Is.out q2239; subst q2239
      exact ⟨_, Does.bool_neq Try.underlying4 rfl rfl, rfl⟩
    · refine oP_on [(11, 224), (20, 233)] rfl rfl rfl rfl hc8 rfl fun L2240 w2241 h2242 s2243 => ?_
      exact ⟨_, Does.pick_b rfl (decide_eq_true hp9) rfl, rfl⟩
    refine Seq.next ?_
    rcases bdich (!((decide ((if vu.bad then [] else vu.bytes) = (if vt.bad then [] else vt.bytes))) == (sameV vu vt))) with hc10 | hc10
    rotate_left
    · refine Run.cond_b rfl hc10 ?_
      refine Run.skip_go (fun _ _ h => h) ?_
      refine rsr ?_
      refine sv (Does.assign rfl) ?_
      refine Seq.next ?_
      have c2254 := s1902.trans s2251
      have c2255 := c1897.trans c2254
      obtain ⟨⟨zU, zo⟩, zb⟩ := hX c2255 (by decide)
      refine Run.ret ?_
      exact post_one Try.results6 rfl ⟨_, rfl, rfl, zb⟩
    refine Run.cond_b rfl hc10 ?_
    refine rsr ?_
    refine sv (Does.assign rfl) ?_
    refine Seq.next ?_
    have c2252 := s1902.trans s2251
    have c2253 := c1897.trans c2252
    obtain ⟨⟨zU, zo⟩, zb⟩ := hX c2253 (by decide)
    refine Run.ret (ret_then ?_)
    exact post_one Try.results6 rfl ⟨_, rfl, (isBool (by first | (exact absurd (ent_ok0 hp5) hp6; done) | (exact absurd (ent_no0 hp5) hp7; done) | (exact absurd (ent_all0 hp5) hp8; done) | (exact absurd (congrArg EntryD.kind (ent_back hp5).2.2) hp9; done) | (exact absurd (congrArg EntryD.author (ent_back hp5).2.2) hp10; done) | (exact absurd (congrArg EntryD.epoch (ent_back hp5).2.2) hp11; done) | (exact absurd (congrArg (fun e : EntryD => ((List.length e.nums : Nat) : Int)) (ent_back hp5).2.2) hp12; done) | (exact absurd (congrArg (fun e : EntryD => ((List.length e.texts : Nat) : Int)) (ent_back hp5).2.2) hp13; done) | (exact absurd (congrArg EntryD.kind (ent_same hp5 hp14 hp15)) hp16; done) | (exact absurd (congrArg EntryD.author (ent_same hp5 hp14 hp15)) hp17; done) | (exact absurd (congrArg EntryD.epoch (ent_same hp5 hp14 hp15)) hp18; done) | (exact absurd (congrArg EntryD.peer (ent_same hp5 hp14 hp15)) hp19; done) | (exact absurd (congrArg EntryD.phase (ent_same hp5 hp14 hp15)) hp20; done) | (exact absurd (congrArg EntryD.mode (ent_same hp5 hp14 hp15)) hp21; done) | (exact absurd (congrArg EntryD.proof (ent_same hp5 hp14 hp15)) hp22; done) | (exact absurd (vot_ok0 hp6) hp7; done) | (exact vot_sm hp6 hc8; done) | (exact vot_df hp6 hp9 hc10; done) | (exact absurd (vot_ok0 hp7) hp8; done) | (exact vot_sm hp7 hc9; done) | (exact vot_df hp7 hp10 hc11; done) | (exact absurd (vot_ok0 hp8) hp9; done) | (exact vot_sm hp8 hc10; done) | (exact vot_df hp8 hp11 hc12; done) | (exact absurd (vot_ok0 hp9) hp10; done) | (exact vot_sm hp9 hc11; done) | (exact vot_df hp9 hp12 hc13; done) | (exact absurd (vot_ok0 hp10) hp11; done) | (exact vot_sm hp10 hc12; done) | (exact vot_df hp10 hp13 hc14; done) | (exact absurd (vot_ok0 hp11) hp12; done) | (exact vot_sm hp11 hc13; done) | (exact vot_df hp11 hp14 hc15; done) | (exact absurd (vot_ok0 hp12) hp13; done) | (exact vot_sm hp12 hc14; done) | (exact vot_df hp12 hp15 hc16; done) | (exact absurd (vot_ok0 hp13) hp14; done) | (exact vot_sm hp13 hc15; done) | (exact vot_df hp13 hp16 hc17; done) | (exact absurd (vot_ok0 hp14) hp15; done) | (exact vot_sm hp14 hc16; done) | (exact vot_df hp14 hp17 hc18; done) | (exact absurd (vot_ok0 hp15) hp16; done) | (exact vot_sm hp15 hc17; done) | (exact vot_df hp15 hp18 hc19; done) | (exact absurd (vot_ok0 hp16) hp17; done) | (exact vot_sm hp16 hc18; done) | (exact vot_df hp16 hp19 hc20; done) | (exact absurd (vot_ok0 hp17) hp18; done) | (exact vot_sm hp17 hc19; done) | (exact vot_df hp17 hp20 hc21; done) | (exact absurd (vot_ok0 hp18) hp19; done) | (exact vot_sm hp18 hc20; done) | (exact vot_df hp18 hp21 hc22; done) | (exact absurd (vot_ok0 hp19) hp20; done) | (exact vot_sm hp19 hc21; done) | (exact vot_df hp19 hp22 hc23; done) | (exact absurd (vot_ok0 hp20) hp21; done) | (exact vot_sm hp20 hc22; done) | (exact vot_df hp20 hp23 hc24; done) | (exact absurd (vot_ok0 hp21) hp22; done) | (exact vot_sm hp21 hc23; done) | (exact vot_df hp21 hp24 hc25; done) | (exact absurd (vot_ok0 hp22) hp23; done) | (exact vot_sm hp22 hc24; done) | (exact vot_df hp22 hp25 hc26; done) | (exact absurd (vot_ok0 hp23) hp24; done) | (exact vot_sm hp23 hc25; done) | (exact vot_df hp23 hp26 hc27; done) | (exact absurd (vot_ok0 hp24) hp25; done) | (exact vot_sm hp24 hc26; done) | (exact vot_df hp24 hp27 hc28; done) | (exact absurd (vot_ok0 hp25) hp26; done) | (exact vot_sm hp25 hc27; done) | (exact vot_df hp25 hp28 hc29; done) | (with_reducible rfl; done) | (omega; done) | (simp_all; done)) _ _), zb⟩
  refine Run.cond_b rfl (decide_eq_true hp5) ?_
  refine rsr ?_
  refine sv (Does.move rfl) ?_
  refine scall (V := And2 (EntryV (decE (if (ofE pl).no then [] else (ofE pl).all))) (Is (i64 (if decOk (if (ofE pl).no then [] else (ofE pl).all) then 0 else 3)))) cal27 h261 rfl (wire_DecodeEntry h261 q264 (show List.length (if (ofE pl).no then [] else (ofE pl).all) ≤ 1000000 from by (have h9 := ent_bounds 0 (d := ofE pl) (by assumption); omega))) fun v269 w270 q271 s272 h273 => ?_
  obtain ⟨v274, v275, rfl, q276, q277⟩ := q271
  obtain ⟨A278, c279, A281, c282, A284, c285, rfl, q280, q283, q286⟩ := EntryV.open q276
  have z287 := NatsV.cap q280
  have z288 := RowsV.cap q283
  have z289 := BytesV.cap q286
  have q277 := Is.out q277; subst q277
  refine sv (Does.move rfl) ?_
  refine sv (Does.extract rfl rfl) ?_
  refine sv (Does.extract rfl rfl) ?_
  refine salloc 16 [.int .i64 0, .int .i64 0, .int .i64 0, .int .i64 0, .int .i64 0, .int .i64 0, .slice none 0 0, .slice none 0 0, .slice none 0 0] h273 ty40 rfl fun b292 L290 w291 o293 s294 h295 => ?_
  refine sstore [i64 ((decE (if (ofE pl).no then [] else (ofE pl).all)).kind), i64 ((decE (if (ofE pl).no then [] else (ofE pl).all)).author), i64 ((decE (if (ofE pl).no then [] else (ofE pl).all)).epoch), i64 ((decE (if (ofE pl).no then [] else (ofE pl).all)).mode), i64 ((decE (if (ofE pl).no then [] else (ofE pl).all)).peer), i64 ((decE (if (ofE pl).no then [] else (ofE pl).all)).phase), .slice A278 (List.length (decE (if (ofE pl).no then [] else (ofE pl).all)).nums) c279, .slice A281 (List.length (decE (if (ofE pl).no then [] else (ofE pl).all)).texts) c282, .slice A284 (List.length (decE (if (ofE pl).no then [] else (ofE pl).all)).proof) c285] h295 o293 ty40 rfl rfl rfl (Nat.le_of_ble_eq_true rfl) rfl rfl fun w296 o297 s298 h299 => ?_
  refine sv (Does.assign rfl) ?_
  refine nsr ?_
  refine sv (Does.load_ownN [i64 ((decE (if (ofE pl).no then [] else (ofE pl).all)).kind), i64 ((decE (if (ofE pl).no then [] else (ofE pl).all)).author), i64 ((decE (if (ofE pl).no then [] else (ofE pl).all)).epoch), i64 ((decE (if (ofE pl).no then [] else (ofE pl).all)).mode), i64 ((decE (if (ofE pl).no then [] else (ofE pl).all)).peer), i64 ((decE (if (ofE pl).no then [] else (ofE pl).all)).phase), .slice A278 (List.length (decE (if (ofE pl).no then [] else (ofE pl).all)).nums) c279, .slice A281 (List.length (decE (if (ofE pl).no then [] else (ofE pl).all)).texts) c282, .slice A284 (List.length (decE (if (ofE pl).no then [] else (ofE pl).all)).proof) c285] o297 ty40 rfl rfl) ?_
  have c301 := s294.trans s298
  have q302 := up c301 q280
  have q303 := up c301 q283
  have q304 := up c301 q286
  have q300 : EntryV (decE (if (ofE pl).no then [] else (ofE pl).all)) L290 w296 (.agg #[i64 ((decE (if (ofE pl).no then [] else (ofE pl).all)).kind), i64 ((decE (if (ofE pl).no then [] else (ofE pl).all)).author), i64 ((decE (if (ofE pl).no then [] else (ofE pl).all)).epoch), i64 ((decE (if (ofE pl).no then [] else (ofE pl).all)).mode), i64 ((decE (if (ofE pl).no then [] else (ofE pl).all)).peer), i64 ((decE (if (ofE pl).no then [] else (ofE pl).all)).phase), .slice A278 (List.length (decE (if (ofE pl).no then [] else (ofE pl).all)).nums) c279, .slice A281 (List.length (decE (if (ofE pl).no then [] else (ofE pl).all)).texts) c282, .slice A284 (List.length (decE (if (ofE pl).no then [] else (ofE pl).all)).proof) c285]) := EntryV.mk q302 q303 q304
  refine scall (V := And2 (BytesV (if (decE (if (ofE pl).no then [] else (ofE pl).all)).no then [] else (decE (if (ofE pl).no then [] else (ofE pl).all)).all)) (Is (i64 (if (decE (if (ofE pl).no then [] else (ofE pl).all)).no then 3 else 0)))) cal25 h299 rfl (wire_EncodeEntry h299 q300 (show ∀ k, k < List.length (decE (if (ofE pl).no then [] else (ofE pl).all)).nums → nw (List.getD (decE (if (ofE pl).no then [] else (ofE pl).all)).nums k 0) ≤ 1000000 from by first | exact ofE_nw pl | exact ofE_nw po | (rw [(ent_back (by assumption)).2.2]; exact ofE_nw pl))) fun v305 w306 q307 s308 h309 => ?_
  obtain ⟨v310, v311, rfl, q312, q313⟩ := q307
  obtain ⟨A314, c315, rfl⟩ := BytesV.shape q312
  have z316 := BytesV.cap q312
  have q313 := Is.out q313; subst q313
  refine sv (Does.move rfl) ?_
  refine sv (Does.extract rfl rfl) ?_
  refine sv (Does.extract rfl rfl) ?_
  refine sv (Does.assign rfl) ?_
  refine sv (Does.assign rfl) ?_
  refine nsr ?_
  have c318 := c301.trans s308
  have c319 := s272.trans c318
  have c320 := s260.trans c319
  have c321 := s244.trans c320
  have o317 := o238.up c321
  refine sv (Does.load_ownN [i64 ((ofE po).kind), i64 ((ofE po).author), i64 ((ofE po).epoch), i64 ((ofE po).mode), i64 ((ofE po).peer), i64 ((ofE po).phase), .slice A200 (List.length (ofE po).nums) c201, .slice A203 (List.length (ofE po).texts) c204, .slice A206 (List.length (ofE po).proof) c207] o317 ty40 rfl rfl) ?_
  have c323 := c249.trans c320
  have q324 := up c323 q202
  have q325 := up c323 q205
  have q326 := up c323 q208
  have q322 : EntryV (ofE po) L290 w306 (.agg #[i64 ((ofE po).kind), i64 ((ofE po).author), i64 ((ofE po).epoch), i64 ((ofE po).mode), i64 ((ofE po).peer), i64 ((ofE po).phase), .slice A200 (List.length (ofE po).nums) c201, .slice A203 (List.length (ofE po).texts) c204, .slice A206 (List.length (ofE po).proof) c207]) := EntryV.mk q324 q325 q326
  refine scall (V := And2 (BytesV (if (ofE po).no then [] else (ofE po).all)) (Is (i64 (if (ofE po).no then 3 else 0)))) cal25 h309 rfl (wire_EncodeEntry h309 q322 (show ∀ k, k < List.length (ofE po).nums → nw (List.getD (ofE po).nums k 0) ≤ 1000000 from by first | exact ofE_nw pl | exact ofE_nw po | (rw [(ent_back (by assumption)).2.2]; exact ofE_nw pl))) fun v327 w328 q329 s330 h331 => ?_
  obtain ⟨v332, v333, rfl, q334, q335⟩ := q329
  obtain ⟨A336, c337, rfl⟩ := BytesV.shape q334
  have z338 := BytesV.cap q334
  have q335 := Is.out q335; subst q335
  refine sv (Does.move rfl) ?_
  refine sv (Does.extract rfl rfl) ?_
  refine sv (Does.extract rfl rfl) ?_
  refine sv (Does.assign rfl) ?_
  refine sv (Does.assign rfl) ?_
  refine Seq.next ?_
  refine Run.seq ?_
  refine rsr ?_
  refine sv (Does.move rfl) ?_
  refine sv (Does.neq rfl rfl) ?_
  refine sv (Does.move rfl) ?_
  rcases Decidable.em ((if decOk (if (ofE pl).no then [] else (ofE pl).all) then 0 else 3 : Int) ≠ (0 : Int)) with hp6 | hp6
  · refine Seq.guard_off' rfl rfl (decide_eq_true hp6) rfl (by decide) ?_
    refine Seq.guard_off' rfl rfl (decide_eq_true hp6) rfl (by decide) ?_
    refine sv (Does.pick_b rfl (decide_eq_true hp6) rfl) ?_
    refine sv (Does.move rfl) ?_
    refine Seq.guard_off' rfl rfl rfl rfl (by decide) ?_
    refine Seq.guard_off' rfl rfl rfl rfl (by decide) ?_
    refine Seq.guard_off' rfl rfl rfl rfl (by decide) ?_
    refine Seq.guard_off' rfl rfl rfl rfl (by decide) ?_
    refine Seq.guard_off' rfl rfl rfl rfl (by decide) ?_
    refine sv (Does.pick_t rfl rfl) ?_
    refine sv (Does.move rfl) ?_
    refine Seq.guard_off' rfl rfl rfl rfl (by decide) ?_
    refine Seq.guard_off' rfl rfl rfl rfl (by decide) ?_
    refine Seq.guard_off' rfl rfl rfl rfl (by decide) ?_
    refine Seq.guard_off' rfl rfl rfl rfl (by decide) ?_
    refine Seq.guard_off' rfl rfl rfl rfl (by decide) ?_
    refine sv (Does.pick_t rfl rfl) ?_
    refine sv (Does.move rfl) ?_
    refine Seq.guard_off' rfl rfl rfl rfl (by decide) ?_
    refine Seq.guard_off' rfl rfl rfl rfl (by decide) ?_
    refine Seq.guard_off' rfl rfl rfl rfl (by decide) ?_
    refine Seq.guard_off' rfl rfl rfl rfl (by decide) ?_
    refine Seq.guard_off' rfl rfl rfl rfl (by decide) ?_
    refine sv (Does.pick_t rfl rfl) ?_
    refine sv (Does.move rfl) ?_
    refine Seq.guard_off' rfl rfl rfl rfl (by decide) ?_
    refine Seq.guard_off' rfl rfl rfl rfl (by decide) ?_
    refine Seq.guard_off' rfl rfl rfl rfl (by decide) ?_
    refine Seq.guard_off' rfl rfl rfl rfl (by decide) ?_
    refine Seq.guard_off' rfl rfl rfl rfl (by decide) ?_
    refine sv (Does.pick_t rfl rfl) ?_
    refine sv (Does.move rfl) ?_
    refine Seq.guard_off' rfl rfl rfl rfl (by decide) ?_
    refine Seq.guard_off' rfl rfl rfl rfl (by decide) ?_
    refine Seq.guard_off' rfl rfl rfl rfl (by decide) ?_
    refine Seq.guard_off' rfl rfl rfl rfl (by decide) ?_
    refine Seq.guard_off' rfl rfl rfl rfl (by decide) ?_
    refine Seq.guard_off' rfl rfl rfl rfl (by decide) ?_
    refine Seq.guard_off' rfl rfl rfl rfl (by decide) ?_
    refine sv (Does.pick_t rfl rfl) ?_
    refine sv (Does.move rfl) ?_
    refine Seq.guard_off' rfl rfl rfl rfl (by decide) ?_
    refine Seq.guard_off' rfl rfl rfl rfl (by decide) ?_
    refine Seq.guard_off' rfl rfl rfl rfl (by decide) ?_
    refine Seq.guard_off' rfl rfl rfl rfl (by decide) ?_
    refine Seq.guard_off' rfl rfl rfl rfl (by decide) ?_
    refine Seq.guard_off' rfl rfl rfl rfl (by decide) ?_
    refine Seq.guard_off' rfl rfl rfl rfl (by decide) ?_
    refine sv (Does.pick_t rfl rfl) ?_
    refine Seq.next ?_
    refine Run.cond_b rfl rfl ?_
    refine rsr ?_
    refine sv (Does.assign rfl) ?_
    refine Seq.next ?_
    have c339 := c320.trans s330
    have c340 := c250.trans c339
    have c341 := c186.trans c340
    have c342 := c86.trans c341
    obtain ⟨⟨zU, zo⟩, zb⟩ := hX c342 (by decide)
    refine Run.ret (ret_then (ret_then ?_))
    exact post_one Try.results6 rfl ⟨_, rfl, (isBool (by first | (exact absurd (ent_ok0 hp5) hp6; done) | (exact absurd (ent_no0 hp5) hp7; done) | (exact absurd (ent_all0 hp5) hp8; done) | (exact absurd (congrArg EntryD.kind (ent_back hp5).2.2) hp9; done) | (exact absurd (congrArg EntryD.author (ent_back hp5).2.2) hp10; done) | (exact absurd (congrArg EntryD.epoch (ent_back hp5).2.2) hp11; done) | (exact absurd (congrArg (fun e : EntryD => ((List.length e.nums : Nat) : Int)) (ent_back hp5).2.2) hp12; done) | (exact absurd (congrArg (fun e : EntryD => ((List.length e.texts : Nat) : Int)) (ent_back hp5).2.2) hp13; done) | (exact absurd (congrArg EntryD.kind (ent_same hp5 hp14 hp15)) hp16; done) | (exact absurd (congrArg EntryD.author (ent_same hp5 hp14 hp15)) hp17; done) | (exact absurd (congrArg EntryD.epoch (ent_same hp5 hp14 hp15)) hp18; done) | (exact absurd (congrArg EntryD.peer (ent_same hp5 hp14 hp15)) hp19; done) | (exact absurd (congrArg EntryD.phase (ent_same hp5 hp14 hp15)) hp20; done) | (exact absurd (congrArg EntryD.mode (ent_same hp5 hp14 hp15)) hp21; done) | (exact absurd (congrArg EntryD.proof (ent_same hp5 hp14 hp15)) hp22; done) | (exact absurd (vot_ok0 hp6) hp7; done) | (exact vot_sm hp6 hc8; done) | (exact vot_df hp6 hp9 hc10; done) | (exact absurd (vot_ok0 hp7) hp8; done) | (exact vot_sm hp7 hc9; done) | (exact vot_df hp7 hp10 hc11; done) | (exact absurd (vot_ok0 hp8) hp9; done) | (exact vot_sm hp8 hc10; done) | (exact vot_df hp8 hp11 hc12; done) | (exact absurd (vot_ok0 hp9) hp10; done) | (exact vot_sm hp9 hc11; done) | (exact vot_df hp9 hp12 hc13; done) | (exact absurd (vot_ok0 hp10) hp11; done) | (exact vot_sm hp10 hc12; done) | (exact vot_df hp10 hp13 hc14; done) | (exact absurd (vot_ok0 hp11) hp12; done) | (exact vot_sm hp11 hc13; done) | (exact vot_df hp11 hp14 hc15; done) | (exact absurd (vot_ok0 hp12) hp13; done) | (exact vot_sm hp12 hc14; done) | (exact vot_df hp12 hp15 hc16; done) | (exact absurd (vot_ok0 hp13) hp14; done) | (exact vot_sm hp13 hc15; done) | (exact vot_df hp13 hp16 hc17; done) | (exact absurd (vot_ok0 hp14) hp15; done) | (exact vot_sm hp14 hc16; done) | (exact vot_df hp14 hp17 hc18; done) | (exact absurd (vot_ok0 hp15) hp16; done) | (exact vot_sm hp15 hc17; done) | (exact vot_df hp15 hp18 hc19; done) | (exact absurd (vot_ok0 hp16) hp17; done) | (exact vot_sm hp16 hc18; done) | (exact vot_df hp16 hp19 hc20; done) | (exact absurd (vot_ok0 hp17) hp18; done) | (exact vot_sm hp17 hc19; done) | (exact vot_df hp17 hp20 hc21; done) | (exact absurd (vot_ok0 hp18) hp19; done) | (exact vot_sm hp18 hc20; done) | (exact vot_df hp18 hp21 hc22; done) | (exact absurd (vot_ok0 hp19) hp20; done) | (exact vot_sm hp19 hc21; done) | (exact vot_df hp19 hp22 hc23; done) | (exact absurd (vot_ok0 hp20) hp21; done) | (exact vot_sm hp20 hc22; done) | (exact vot_df hp20 hp23 hc24; done) | (exact absurd (vot_ok0 hp21) hp22; done) | (exact vot_sm hp21 hc23; done) | (exact vot_df hp21 hp24 hc25; done) | (exact absurd (vot_ok0 hp22) hp23; done) | (exact vot_sm hp22 hc24; done) | (exact vot_df hp22 hp25 hc26; done) | (exact absurd (vot_ok0 hp23) hp24; done) | (exact vot_sm hp23 hc25; done) | (exact vot_df hp23 hp26 hc27; done) | (exact absurd (vot_ok0 hp24) hp25; done) | (exact vot_sm hp24 hc26; done) | (exact vot_df hp24 hp27 hc28; done) | (exact absurd (vot_ok0 hp25) hp26; done) | (exact vot_sm hp25 hc27; done) | (exact vot_df hp25 hp28 hc29; done) | (with_reducible rfl; done) | (omega; done) | (simp_all; done)) _ _), zb⟩
  refine Seq.guard_on' rfl rfl (decide_eq_false hp6) ?_
  refine sv (Does.move rfl) ?_
  refine Seq.guard_on' rfl rfl (decide_eq_false hp6) ?_
  refine sv (Does.neq rfl rfl) ?_
  refine sv (Does.pick_b rfl (decide_eq_false hp6) rfl) ?_
  refine sv (Does.move rfl) ?_
  rcases Decidable.em ((if (decE (if (ofE pl).no then [] else (ofE pl).all)).no then 3 else 0 : Int) ≠ (0 : Int)) with hp7 | hp7
  · refine Seq.guard_off' rfl rfl (decide_eq_true hp7) rfl (by decide) ?_
    refine Seq.guard_off' rfl rfl (decide_eq_true hp7) rfl (by decide) ?_
    refine Seq.guard_off' rfl rfl (decide_eq_true hp7) rfl (by decide) ?_
    refine Seq.guard_off' rfl rfl (decide_eq_true hp7) rfl (by decide) ?_
    refine Seq.guard_off' rfl rfl (decide_eq_true hp7) rfl (by decide) ?_
    refine sv (Does.pick_b rfl (decide_eq_true hp7) rfl) ?_
    refine sv (Does.move rfl) ?_
    refine Seq.guard_off' rfl rfl rfl rfl (by decide) ?_
    refine Seq.guard_off' rfl rfl rfl rfl (by decide) ?_
    refine Seq.guard_off' rfl rfl rfl rfl (by decide) ?_
    refine Seq.guard_off' rfl rfl rfl rfl (by decide) ?_
    refine Seq.guard_off' rfl rfl rfl rfl (by decide) ?_
    refine sv (Does.pick_t rfl rfl) ?_
    refine sv (Does.move rfl) ?_
    refine Seq.guard_off' rfl rfl rfl rfl (by decide) ?_
    refine Seq.guard_off' rfl rfl rfl rfl (by decide) ?_
    refine Seq.guard_off' rfl rfl rfl rfl (by decide) ?_
    refine Seq.guard_off' rfl rfl rfl rfl (by decide) ?_
    refine Seq.guard_off' rfl rfl rfl rfl (by decide) ?_
    refine sv (Does.pick_t rfl rfl) ?_
    refine sv (Does.move rfl) ?_
    refine Seq.guard_off' rfl rfl rfl rfl (by decide) ?_
    refine Seq.guard_off' rfl rfl rfl rfl (by decide) ?_
    refine Seq.guard_off' rfl rfl rfl rfl (by decide) ?_
    refine Seq.guard_off' rfl rfl rfl rfl (by decide) ?_
    refine Seq.guard_off' rfl rfl rfl rfl (by decide) ?_
    refine sv (Does.pick_t rfl rfl) ?_
    refine sv (Does.move rfl) ?_
    refine Seq.guard_off' rfl rfl rfl rfl (by decide) ?_
    refine Seq.guard_off' rfl rfl rfl rfl (by decide) ?_
    refine Seq.guard_off' rfl rfl rfl rfl (by decide) ?_
    refine Seq.guard_off' rfl rfl rfl rfl (by decide) ?_
    refine Seq.guard_off' rfl rfl rfl rfl (by decide) ?_
    refine Seq.guard_off' rfl rfl rfl rfl (by decide) ?_
    refine Seq.guard_off' rfl rfl rfl rfl (by decide) ?_
    refine sv (Does.pick_t rfl rfl) ?_
    refine sv (Does.move rfl) ?_
    refine Seq.guard_off' rfl rfl rfl rfl (by decide) ?_
    refine Seq.guard_off' rfl rfl rfl rfl (by decide) ?_
    refine Seq.guard_off' rfl rfl rfl rfl (by decide) ?_
    refine Seq.guard_off' rfl rfl rfl rfl (by decide) ?_
    refine Seq.guard_off' rfl rfl rfl rfl (by decide) ?_
    refine Seq.guard_off' rfl rfl rfl rfl (by decide) ?_
    refine Seq.guard_off' rfl rfl rfl rfl (by decide) ?_
    refine sv (Does.pick_t rfl rfl) ?_
    refine Seq.next ?_
    refine Run.cond_b rfl rfl ?_
    refine rsr ?_
    refine sv (Does.assign rfl) ?_
    refine Seq.next ?_
    have c343 := c320.trans s330
    have c344 := c250.trans c343
    have c345 := c186.trans c344
    have c346 := c86.trans c345
    obtain ⟨⟨zU, zo⟩, zb⟩ := hX c346 (by decide)
    refine Run.ret (ret_then (ret_then ?_))
    exact post_one Try.results6 rfl ⟨_, rfl, (isBool (by first | (exact absurd (ent_ok0 hp5) hp6; done) | (exact absurd (ent_no0 hp5) hp7; done) | (exact absurd (ent_all0 hp5) hp8; done) | (exact absurd (congrArg EntryD.kind (ent_back hp5).2.2) hp9; done) | (exact absurd (congrArg EntryD.author (ent_back hp5).2.2) hp10; done) | (exact absurd (congrArg EntryD.epoch (ent_back hp5).2.2) hp11; done) | (exact absurd (congrArg (fun e : EntryD => ((List.length e.nums : Nat) : Int)) (ent_back hp5).2.2) hp12; done) | (exact absurd (congrArg (fun e : EntryD => ((List.length e.texts : Nat) : Int)) (ent_back hp5).2.2) hp13; done) | (exact absurd (congrArg EntryD.kind (ent_same hp5 hp14 hp15)) hp16; done) | (exact absurd (congrArg EntryD.author (ent_same hp5 hp14 hp15)) hp17; done) | (exact absurd (congrArg EntryD.epoch (ent_same hp5 hp14 hp15)) hp18; done) | (exact absurd (congrArg EntryD.peer (ent_same hp5 hp14 hp15)) hp19; done) | (exact absurd (congrArg EntryD.phase (ent_same hp5 hp14 hp15)) hp20; done) | (exact absurd (congrArg EntryD.mode (ent_same hp5 hp14 hp15)) hp21; done) | (exact absurd (congrArg EntryD.proof (ent_same hp5 hp14 hp15)) hp22; done) | (exact absurd (vot_ok0 hp6) hp7; done) | (exact vot_sm hp6 hc8; done) | (exact vot_df hp6 hp9 hc10; done) | (exact absurd (vot_ok0 hp7) hp8; done) | (exact vot_sm hp7 hc9; done) | (exact vot_df hp7 hp10 hc11; done) | (exact absurd (vot_ok0 hp8) hp9; done) | (exact vot_sm hp8 hc10; done) | (exact vot_df hp8 hp11 hc12; done) | (exact absurd (vot_ok0 hp9) hp10; done) | (exact vot_sm hp9 hc11; done) | (exact vot_df hp9 hp12 hc13; done) | (exact absurd (vot_ok0 hp10) hp11; done) | (exact vot_sm hp10 hc12; done) | (exact vot_df hp10 hp13 hc14; done) | (exact absurd (vot_ok0 hp11) hp12; done) | (exact vot_sm hp11 hc13; done) | (exact vot_df hp11 hp14 hc15; done) | (exact absurd (vot_ok0 hp12) hp13; done) | (exact vot_sm hp12 hc14; done) | (exact vot_df hp12 hp15 hc16; done) | (exact absurd (vot_ok0 hp13) hp14; done) | (exact vot_sm hp13 hc15; done) | (exact vot_df hp13 hp16 hc17; done) | (exact absurd (vot_ok0 hp14) hp15; done) | (exact vot_sm hp14 hc16; done) | (exact vot_df hp14 hp17 hc18; done) | (exact absurd (vot_ok0 hp15) hp16; done) | (exact vot_sm hp15 hc17; done) | (exact vot_df hp15 hp18 hc19; done) | (exact absurd (vot_ok0 hp16) hp17; done) | (exact vot_sm hp16 hc18; done) | (exact vot_df hp16 hp19 hc20; done) | (exact absurd (vot_ok0 hp17) hp18; done) | (exact vot_sm hp17 hc19; done) | (exact vot_df hp17 hp20 hc21; done) | (exact absurd (vot_ok0 hp18) hp19; done) | (exact vot_sm hp18 hc20; done) | (exact vot_df hp18 hp21 hc22; done) | (exact absurd (vot_ok0 hp19) hp20; done) | (exact vot_sm hp19 hc21; done) | (exact vot_df hp19 hp22 hc23; done) | (exact absurd (vot_ok0 hp20) hp21; done) | (exact vot_sm hp20 hc22; done) | (exact vot_df hp20 hp23 hc24; done) | (exact absurd (vot_ok0 hp21) hp22; done) | (exact vot_sm hp21 hc23; done) | (exact vot_df hp21 hp24 hc25; done) | (exact absurd (vot_ok0 hp22) hp23; done) | (exact vot_sm hp22 hc24; done) | (exact vot_df hp22 hp25 hc26; done) | (exact absurd (vot_ok0 hp23) hp24; done) | (exact vot_sm hp23 hc25; done) | (exact vot_df hp23 hp26 hc27; done) | (exact absurd (vot_ok0 hp24) hp25; done) | (exact vot_sm hp24 hc26; done) | (exact vot_df hp24 hp27 hc28; done) | (exact absurd (vot_ok0 hp25) hp26; done) | (exact vot_sm hp25 hc27; done) | (exact vot_df hp25 hp28 hc29; done) | (with_reducible rfl; done) | (omega; done) | (simp_all; done)) _ _), zb⟩
  refine Seq.guard_on' rfl rfl (decide_eq_false hp7) ?_
  refine sv (Does.move rfl) ?_
  refine Seq.guard_on' rfl rfl (decide_eq_false hp7) ?_
  have q347 := up s330 q312
  refine sv (Does.conv_str Try.underlying22 Try.underlying5 Try.underlying9 rfl q347) ?_
  refine Seq.guard_on' rfl rfl (decide_eq_false hp7) ?_
  refine sv (Does.move rfl) ?_
  refine Seq.guard_on' rfl rfl (decide_eq_false hp7) ?_
  have c348 := c319.trans s330
  have q349 := up c348 q264
  refine sv (Does.conv_str Try.underlying22 Try.underlying5 Try.underlying9 rfl q349) ?_
  refine Seq.guard_on' rfl rfl (decide_eq_false hp7) ?_
  refine sv (Does.str_neq rfl rfl) ?_
  refine sv (Does.pick_b rfl (decide_eq_false hp7) rfl) ?_
  refine sv (Does.move rfl) ?_
  rcases Decidable.em ((if (decE (if (ofE pl).no then [] else (ofE pl).all)).no then [] else (decE (if (ofE pl).no then [] else (ofE pl).all)).all) ≠ (if (ofE pl).no then [] else (ofE pl).all)) with hp8 | hp8
  · refine Seq.guard_off' rfl rfl (decide_eq_true hp8) rfl (by decide) ?_
    refine Seq.guard_off' rfl rfl (decide_eq_true hp8) rfl (by decide) ?_
    refine Seq.guard_off' rfl rfl (decide_eq_true hp8) rfl (by decide) ?_
    refine Seq.guard_off' rfl rfl (decide_eq_true hp8) rfl (by decide) ?_
    refine Seq.guard_off' rfl rfl (decide_eq_true hp8) rfl (by decide) ?_
    refine sv (Does.pick_b rfl (decide_eq_true hp8) rfl) ?_
    refine sv (Does.move rfl) ?_
    refine Seq.guard_off' rfl rfl rfl rfl (by decide) ?_
    refine Seq.guard_off' rfl rfl rfl rfl (by decide) ?_
    refine Seq.guard_off' rfl rfl rfl rfl (by decide) ?_
    refine Seq.guard_off' rfl rfl rfl rfl (by decide) ?_
    refine Seq.guard_off' rfl rfl rfl rfl (by decide) ?_
    refine sv (Does.pick_t rfl rfl) ?_
    refine sv (Does.move rfl) ?_
    refine Seq.guard_off' rfl rfl rfl rfl (by decide) ?_
    refine Seq.guard_off' rfl rfl rfl rfl (by decide) ?_
    refine Seq.guard_off' rfl rfl rfl rfl (by decide) ?_
    refine Seq.guard_off' rfl rfl rfl rfl (by decide) ?_
    refine Seq.guard_off' rfl rfl rfl rfl (by decide) ?_
    refine sv (Does.pick_t rfl rfl) ?_
    refine sv (Does.move rfl) ?_
    refine Seq.guard_off' rfl rfl rfl rfl (by decide) ?_
    refine Seq.guard_off' rfl rfl rfl rfl (by decide) ?_
    refine Seq.guard_off' rfl rfl rfl rfl (by decide) ?_
    refine Seq.guard_off' rfl rfl rfl rfl (by decide) ?_
    refine Seq.guard_off' rfl rfl rfl rfl (by decide) ?_
    refine Seq.guard_off' rfl rfl rfl rfl (by decide) ?_
    refine Seq.guard_off' rfl rfl rfl rfl (by decide) ?_
    refine sv (Does.pick_t rfl rfl) ?_
    refine sv (Does.move rfl) ?_
    refine Seq.guard_off' rfl rfl rfl rfl (by decide) ?_
    refine Seq.guard_off' rfl rfl rfl rfl (by decide) ?_
    refine Seq.guard_off' rfl rfl rfl rfl (by decide) ?_
    refine Seq.guard_off' rfl rfl rfl rfl (by decide) ?_
    refine Seq.guard_off' rfl rfl rfl rfl (by decide) ?_
    refine Seq.guard_off' rfl rfl rfl rfl (by decide) ?_
    refine Seq.guard_off' rfl rfl rfl rfl (by decide) ?_
    refine sv (Does.pick_t rfl rfl) ?_
    refine Seq.next ?_
    refine Run.cond_b rfl rfl ?_
    refine rsr ?_
    refine sv (Does.assign rfl) ?_
    refine Seq.next ?_
    have c350 := c320.trans s330
    have c351 := c250.trans c350
    have c352 := c186.trans c351
    have c353 := c86.trans c352
    obtain ⟨⟨zU, zo⟩, zb⟩ := hX c353 (by decide)
    refine Run.ret (ret_then (ret_then ?_))
    exact post_one Try.results6 rfl ⟨_, rfl, (isBool (by first | (exact absurd (ent_ok0 hp5) hp6; done) | (exact absurd (ent_no0 hp5) hp7; done) | (exact absurd (ent_all0 hp5) hp8; done) | (exact absurd (congrArg EntryD.kind (ent_back hp5).2.2) hp9; done) | (exact absurd (congrArg EntryD.author (ent_back hp5).2.2) hp10; done) | (exact absurd (congrArg EntryD.epoch (ent_back hp5).2.2) hp11; done) | (exact absurd (congrArg (fun e : EntryD => ((List.length e.nums : Nat) : Int)) (ent_back hp5).2.2) hp12; done) | (exact absurd (congrArg (fun e : EntryD => ((List.length e.texts : Nat) : Int)) (ent_back hp5).2.2) hp13; done) | (exact absurd (congrArg EntryD.kind (ent_same hp5 hp14 hp15)) hp16; done) | (exact absurd (congrArg EntryD.author (ent_same hp5 hp14 hp15)) hp17; done) | (exact absurd (congrArg EntryD.epoch (ent_same hp5 hp14 hp15)) hp18; done) | (exact absurd (congrArg EntryD.peer (ent_same hp5 hp14 hp15)) hp19; done) | (exact absurd (congrArg EntryD.phase (ent_same hp5 hp14 hp15)) hp20; done) | (exact absurd (congrArg EntryD.mode (ent_same hp5 hp14 hp15)) hp21; done) | (exact absurd (congrArg EntryD.proof (ent_same hp5 hp14 hp15)) hp22; done) | (exact absurd (vot_ok0 hp6) hp7; done) | (exact vot_sm hp6 hc8; done) | (exact vot_df hp6 hp9 hc10; done) | (exact absurd (vot_ok0 hp7) hp8; done) | (exact vot_sm hp7 hc9; done) | (exact vot_df hp7 hp10 hc11; done) | (exact absurd (vot_ok0 hp8) hp9; done) | (exact vot_sm hp8 hc10; done) | (exact vot_df hp8 hp11 hc12; done) | (exact absurd (vot_ok0 hp9) hp10; done) | (exact vot_sm hp9 hc11; done) | (exact vot_df hp9 hp12 hc13; done) | (exact absurd (vot_ok0 hp10) hp11; done) | (exact vot_sm hp10 hc12; done) | (exact vot_df hp10 hp13 hc14; done) | (exact absurd (vot_ok0 hp11) hp12; done) | (exact vot_sm hp11 hc13; done) | (exact vot_df hp11 hp14 hc15; done) | (exact absurd (vot_ok0 hp12) hp13; done) | (exact vot_sm hp12 hc14; done) | (exact vot_df hp12 hp15 hc16; done) | (exact absurd (vot_ok0 hp13) hp14; done) | (exact vot_sm hp13 hc15; done) | (exact vot_df hp13 hp16 hc17; done) | (exact absurd (vot_ok0 hp14) hp15; done) | (exact vot_sm hp14 hc16; done) | (exact vot_df hp14 hp17 hc18; done) | (exact absurd (vot_ok0 hp15) hp16; done) | (exact vot_sm hp15 hc17; done) | (exact vot_df hp15 hp18 hc19; done) | (exact absurd (vot_ok0 hp16) hp17; done) | (exact vot_sm hp16 hc18; done) | (exact vot_df hp16 hp19 hc20; done) | (exact absurd (vot_ok0 hp17) hp18; done) | (exact vot_sm hp17 hc19; done) | (exact vot_df hp17 hp20 hc21; done) | (exact absurd (vot_ok0 hp18) hp19; done) | (exact vot_sm hp18 hc20; done) | (exact vot_df hp18 hp21 hc22; done) | (exact absurd (vot_ok0 hp19) hp20; done) | (exact vot_sm hp19 hc21; done) | (exact vot_df hp19 hp22 hc23; done) | (exact absurd (vot_ok0 hp20) hp21; done) | (exact vot_sm hp20 hc22; done) | (exact vot_df hp20 hp23 hc24; done) | (exact absurd (vot_ok0 hp21) hp22; done) | (exact vot_sm hp21 hc23; done) | (exact vot_df hp21 hp24 hc25; done) | (exact absurd (vot_ok0 hp22) hp23; done) | (exact vot_sm hp22 hc24; done) | (exact vot_df hp22 hp25 hc26; done) | (exact absurd (vot_ok0 hp23) hp24; done) | (exact vot_sm hp23 hc25; done) | (exact vot_df hp23 hp26 hc27; done) | (exact absurd (vot_ok0 hp24) hp25; done) | (exact vot_sm hp24 hc26; done) | (exact vot_df hp24 hp27 hc28; done) | (exact absurd (vot_ok0 hp25) hp26; done) | (exact vot_sm hp25 hc27; done) | (exact vot_df hp25 hp28 hc29; done) | (with_reducible rfl; done) | (omega; done) | (simp_all; done)) _ _), zb⟩
  refine Seq.guard_on' rfl rfl (decide_eq_false hp8) ?_
  refine sv (Does.fieldAddr' 0 Try.underlying40 rfl ty3 rfl rfl) ?_
  refine Seq.guard_on' rfl rfl (decide_eq_false hp8) ?_
  have c355 := s308.trans s330
  have o354 := o297.up c355
  refine sv (Does.load_own1 o354 ty3 rfl rfl) ?_
  refine Seq.guard_on' rfl rfl (decide_eq_false hp8) ?_
  refine sv (Does.fieldAddr' 0 Try.underlying40 rfl ty3 rfl rfl) ?_
  refine Seq.guard_on' rfl rfl (decide_eq_false hp8) ?_
  have c357 := c320.trans s330
  have o356 := o246.up c357
  refine sv (Does.load_own1 o356 ty3 rfl rfl) ?_
  refine Seq.guard_on' rfl rfl (decide_eq_false hp8) ?_
  refine sv (Does.neq rfl rfl) ?_
  refine sv (Does.pick_b rfl (decide_eq_false hp8) rfl) ?_
  refine sv (Does.move rfl) ?_
  rcases Decidable.em (((decE (if (ofE pl).no then [] else (ofE pl).all)).kind : Int) ≠ ((ofE pl).kind : Int)) with hp9 | hp9
  · refine Seq.guard_off' rfl rfl (decide_eq_true hp9) rfl (by decide) ?_
    refine Seq.guard_off' rfl rfl (decide_eq_true hp9) rfl (by decide) ?_
    refine Seq.guard_off' rfl rfl (decide_eq_true hp9) rfl (by decide) ?_
    refine Seq.guard_off' rfl rfl (decide_eq_true hp9) rfl (by decide) ?_
    refine Seq.guard_off' rfl rfl (decide_eq_true hp9) rfl (by decide) ?_
    refine sv (Does.pick_b rfl (decide_eq_true hp9) rfl) ?_
    refine sv (Does.move rfl) ?_
    refine Seq.guard_off' rfl rfl rfl rfl (by decide) ?_
    refine Seq.guard_off' rfl rfl rfl rfl (by decide) ?_
    refine Seq.guard_off' rfl rfl rfl rfl (by decide) ?_
    refine Seq.guard_off' rfl rfl rfl rfl (by decide) ?_
    refine Seq.guard_off' rfl rfl rfl rfl (by decide) ?_
    refine sv (Does.pick_t rfl rfl) ?_
    refine sv (Does.move rfl) ?_
    refine Seq.guard_off' rfl rfl rfl rfl (by decide) ?_
    refine Seq.guard_off' rfl rfl rfl rfl (by decide) ?_
    refine Seq.guard_off' rfl rfl rfl rfl (by decide) ?_
    refine Seq.guard_off' rfl rfl rfl rfl (by decide) ?_
    refine Seq.guard_off' rfl rfl rfl rfl (by decide) ?_
    refine Seq.guard_off' rfl rfl rfl rfl (by decide) ?_
    refine Seq.guard_off' rfl rfl rfl rfl (by decide) ?_
    refine sv (Does.pick_t rfl rfl) ?_
    refine sv (Does.move rfl) ?_
    refine Seq.guard_off' rfl rfl rfl rfl (by decide) ?_
    refine Seq.guard_off' rfl rfl rfl rfl (by decide) ?_
    refine Seq.guard_off' rfl rfl rfl rfl (by decide) ?_
    refine Seq.guard_off' rfl rfl rfl rfl (by decide) ?_
    refine Seq.guard_off' rfl rfl rfl rfl (by decide) ?_
    refine Seq.guard_off' rfl rfl rfl rfl (by decide) ?_
    refine Seq.guard_off' rfl rfl rfl rfl (by decide) ?_
    refine sv (Does.pick_t rfl rfl) ?_
    refine Seq.next ?_
    refine Run.cond_b rfl rfl ?_
    refine rsr ?_
    refine sv (Does.assign rfl) ?_
    refine Seq.next ?_
    have c358 := c250.trans c357
    have c359 := c186.trans c358
    have c360 := c86.trans c359
    obtain ⟨⟨zU, zo⟩, zb⟩ := hX c360 (by decide)
    refine Run.ret (ret_then (ret_then ?_))
    exact post_one Try.results6 rfl ⟨_, rfl, (isBool (by first | (exact absurd (ent_ok0 hp5) hp6; done) | (exact absurd (ent_no0 hp5) hp7; done) | (exact absurd (ent_all0 hp5) hp8; done) | (exact absurd (congrArg EntryD.kind (ent_back hp5).2.2) hp9; done) | (exact absurd (congrArg EntryD.author (ent_back hp5).2.2) hp10; done) | (exact absurd (congrArg EntryD.epoch (ent_back hp5).2.2) hp11; done) | (exact absurd (congrArg (fun e : EntryD => ((List.length e.nums : Nat) : Int)) (ent_back hp5).2.2) hp12; done) | (exact absurd (congrArg (fun e : EntryD => ((List.length e.texts : Nat) : Int)) (ent_back hp5).2.2) hp13; done) | (exact absurd (congrArg EntryD.kind (ent_same hp5 hp14 hp15)) hp16; done) | (exact absurd (congrArg EntryD.author (ent_same hp5 hp14 hp15)) hp17; done) | (exact absurd (congrArg EntryD.epoch (ent_same hp5 hp14 hp15)) hp18; done) | (exact absurd (congrArg EntryD.peer (ent_same hp5 hp14 hp15)) hp19; done) | (exact absurd (congrArg EntryD.phase (ent_same hp5 hp14 hp15)) hp20; done) | (exact absurd (congrArg EntryD.mode (ent_same hp5 hp14 hp15)) hp21; done) | (exact absurd (congrArg EntryD.proof (ent_same hp5 hp14 hp15)) hp22; done) | (exact absurd (vot_ok0 hp6) hp7; done) | (exact vot_sm hp6 hc8; done) | (exact vot_df hp6 hp9 hc10; done) | (exact absurd (vot_ok0 hp7) hp8; done) | (exact vot_sm hp7 hc9; done) | (exact vot_df hp7 hp10 hc11; done) | (exact absurd (vot_ok0 hp8) hp9; done) | (exact vot_sm hp8 hc10; done) | (exact vot_df hp8 hp11 hc12; done) | (exact absurd (vot_ok0 hp9) hp10; done) | (exact vot_sm hp9 hc11; done) | (exact vot_df hp9 hp12 hc13; done) | (exact absurd (vot_ok0 hp10) hp11; done) | (exact vot_sm hp10 hc12; done) | (exact vot_df hp10 hp13 hc14; done) | (exact absurd (vot_ok0 hp11) hp12; done) | (exact vot_sm hp11 hc13; done) | (exact vot_df hp11 hp14 hc15; done) | (exact absurd (vot_ok0 hp12) hp13; done) | (exact vot_sm hp12 hc14; done) | (exact vot_df hp12 hp15 hc16; done) | (exact absurd (vot_ok0 hp13) hp14; done) | (exact vot_sm hp13 hc15; done) | (exact vot_df hp13 hp16 hc17; done) | (exact absurd (vot_ok0 hp14) hp15; done) | (exact vot_sm hp14 hc16; done) | (exact vot_df hp14 hp17 hc18; done) | (exact absurd (vot_ok0 hp15) hp16; done) | (exact vot_sm hp15 hc17; done) | (exact vot_df hp15 hp18 hc19; done) | (exact absurd (vot_ok0 hp16) hp17; done) | (exact vot_sm hp16 hc18; done) | (exact vot_df hp16 hp19 hc20; done) | (exact absurd (vot_ok0 hp17) hp18; done) | (exact vot_sm hp17 hc19; done) | (exact vot_df hp17 hp20 hc21; done) | (exact absurd (vot_ok0 hp18) hp19; done) | (exact vot_sm hp18 hc20; done) | (exact vot_df hp18 hp21 hc22; done) | (exact absurd (vot_ok0 hp19) hp20; done) | (exact vot_sm hp19 hc21; done) | (exact vot_df hp19 hp22 hc23; done) | (exact absurd (vot_ok0 hp20) hp21; done) | (exact vot_sm hp20 hc22; done) | (exact vot_df hp20 hp23 hc24; done) | (exact absurd (vot_ok0 hp21) hp22; done) | (exact vot_sm hp21 hc23; done) | (exact vot_df hp21 hp24 hc25; done) | (exact absurd (vot_ok0 hp22) hp23; done) | (exact vot_sm hp22 hc24; done) | (exact vot_df hp22 hp25 hc26; done) | (exact absurd (vot_ok0 hp23) hp24; done) | (exact vot_sm hp23 hc25; done) | (exact vot_df hp23 hp26 hc27; done) | (exact absurd (vot_ok0 hp24) hp25; done) | (exact vot_sm hp24 hc26; done) | (exact vot_df hp24 hp27 hc28; done) | (exact absurd (vot_ok0 hp25) hp26; done) | (exact vot_sm hp25 hc27; done) | (exact vot_df hp25 hp28 hc29; done) | (with_reducible rfl; done) | (omega; done) | (simp_all; done)) _ _), zb⟩
  refine Seq.guard_on' rfl rfl (decide_eq_false hp9) ?_
  refine sv (Does.fieldAddr' 1 Try.underlying40 rfl ty3 rfl rfl) ?_
  refine Seq.guard_on' rfl rfl (decide_eq_false hp9) ?_
  refine sv (Does.load_own1 o354 ty3 rfl rfl) ?_
  refine Seq.guard_on' rfl rfl (decide_eq_false hp9) ?_
  refine sv (Does.fieldAddr' 1 Try.underlying40 rfl ty3 rfl rfl) ?_
  refine Seq.guard_on' rfl rfl (decide_eq_false hp9) ?_
  refine sv (Does.load_own1 o356 ty3 rfl rfl) ?_
  refine Seq.guard_on' rfl rfl (decide_eq_false hp9) ?_
  refine sv (Does.neq rfl rfl) ?_
  refine sv (Does.pick_b rfl (decide_eq_false hp9) rfl) ?_
  refine sv (Does.move rfl) ?_
  rcases Decidable.em (((decE (if (ofE pl).no then [] else (ofE pl).all)).author : Int) ≠ ((ofE pl).author : Int)) with hp10 | hp10
  · refine Seq.guard_off' rfl rfl (decide_eq_true hp10) rfl (by decide) ?_
    refine Seq.guard_off' rfl rfl (decide_eq_true hp10) rfl (by decide) ?_
    refine Seq.guard_off' rfl rfl (decide_eq_true hp10) rfl (by decide) ?_
    refine Seq.guard_off' rfl rfl (decide_eq_true hp10) rfl (by decide) ?_
    refine Seq.guard_off' rfl rfl (decide_eq_true hp10) rfl (by decide) ?_
    refine sv (Does.pick_b rfl (decide_eq_true hp10) rfl) ?_
    refine sv (Does.move rfl) ?_
    refine Seq.guard_off' rfl rfl rfl rfl (by decide) ?_
    refine Seq.guard_off' rfl rfl rfl rfl (by decide) ?_
    refine Seq.guard_off' rfl rfl rfl rfl (by decide) ?_
    refine Seq.guard_off' rfl rfl rfl rfl (by decide) ?_
    refine Seq.guard_off' rfl rfl rfl rfl (by decide) ?_
    refine Seq.guard_off' rfl rfl rfl rfl (by decide) ?_
    refine Seq.guard_off' rfl rfl rfl rfl (by decide) ?_
    refine sv (Does.pick_t rfl rfl) ?_
    refine sv (Does.move rfl) ?_
    refine Seq.guard_off' rfl rfl rfl rfl (by decide) ?_
    refine Seq.guard_off' rfl rfl rfl rfl (by decide) ?_
    refine Seq.guard_off' rfl rfl rfl rfl (by decide) ?_
    refine Seq.guard_off' rfl rfl rfl rfl (by decide) ?_
    refine Seq.guard_off' rfl rfl rfl rfl (by decide) ?_
    refine Seq.guard_off' rfl rfl rfl rfl (by decide) ?_
    refine Seq.guard_off' rfl rfl rfl rfl (by decide) ?_
    refine sv (Does.pick_t rfl rfl) ?_
    refine Seq.next ?_
    refine Run.cond_b rfl rfl ?_
    refine rsr ?_
    refine sv (Does.assign rfl) ?_
    refine Seq.next ?_
    have c361 := c250.trans c357
    have c362 := c186.trans c361
    have c363 := c86.trans c362
    obtain ⟨⟨zU, zo⟩, zb⟩ := hX c363 (by decide)
    refine Run.ret (ret_then (ret_then ?_))
    exact post_one Try.results6 rfl ⟨_, rfl, (isBool (by first | (exact absurd (ent_ok0 hp5) hp6; done) | (exact absurd (ent_no0 hp5) hp7; done) | (exact absurd (ent_all0 hp5) hp8; done) | (exact absurd (congrArg EntryD.kind (ent_back hp5).2.2) hp9; done) | (exact absurd (congrArg EntryD.author (ent_back hp5).2.2) hp10; done) | (exact absurd (congrArg EntryD.epoch (ent_back hp5).2.2) hp11; done) | (exact absurd (congrArg (fun e : EntryD => ((List.length e.nums : Nat) : Int)) (ent_back hp5).2.2) hp12; done) | (exact absurd (congrArg (fun e : EntryD => ((List.length e.texts : Nat) : Int)) (ent_back hp5).2.2) hp13; done) | (exact absurd (congrArg EntryD.kind (ent_same hp5 hp14 hp15)) hp16; done) | (exact absurd (congrArg EntryD.author (ent_same hp5 hp14 hp15)) hp17; done) | (exact absurd (congrArg EntryD.epoch (ent_same hp5 hp14 hp15)) hp18; done) | (exact absurd (congrArg EntryD.peer (ent_same hp5 hp14 hp15)) hp19; done) | (exact absurd (congrArg EntryD.phase (ent_same hp5 hp14 hp15)) hp20; done) | (exact absurd (congrArg EntryD.mode (ent_same hp5 hp14 hp15)) hp21; done) | (exact absurd (congrArg EntryD.proof (ent_same hp5 hp14 hp15)) hp22; done) | (exact absurd (vot_ok0 hp6) hp7; done) | (exact vot_sm hp6 hc8; done) | (exact vot_df hp6 hp9 hc10; done) | (exact absurd (vot_ok0 hp7) hp8; done) | (exact vot_sm hp7 hc9; done) | (exact vot_df hp7 hp10 hc11; done) | (exact absurd (vot_ok0 hp8) hp9; done) | (exact vot_sm hp8 hc10; done) | (exact vot_df hp8 hp11 hc12; done) | (exact absurd (vot_ok0 hp9) hp10; done) | (exact vot_sm hp9 hc11; done) | (exact vot_df hp9 hp12 hc13; done) | (exact absurd (vot_ok0 hp10) hp11; done) | (exact vot_sm hp10 hc12; done) | (exact vot_df hp10 hp13 hc14; done) | (exact absurd (vot_ok0 hp11) hp12; done) | (exact vot_sm hp11 hc13; done) | (exact vot_df hp11 hp14 hc15; done) | (exact absurd (vot_ok0 hp12) hp13; done) | (exact vot_sm hp12 hc14; done) | (exact vot_df hp12 hp15 hc16; done) | (exact absurd (vot_ok0 hp13) hp14; done) | (exact vot_sm hp13 hc15; done) | (exact vot_df hp13 hp16 hc17; done) | (exact absurd (vot_ok0 hp14) hp15; done) | (exact vot_sm hp14 hc16; done) | (exact vot_df hp14 hp17 hc18; done) | (exact absurd (vot_ok0 hp15) hp16; done) | (exact vot_sm hp15 hc17; done) | (exact vot_df hp15 hp18 hc19; done) | (exact absurd (vot_ok0 hp16) hp17; done) | (exact vot_sm hp16 hc18; done) | (exact vot_df hp16 hp19 hc20; done) | (exact absurd (vot_ok0 hp17) hp18; done) | (exact vot_sm hp17 hc19; done) | (exact vot_df hp17 hp20 hc21; done) | (exact absurd (vot_ok0 hp18) hp19; done) | (exact vot_sm hp18 hc20; done) | (exact vot_df hp18 hp21 hc22; done) | (exact absurd (vot_ok0 hp19) hp20; done) | (exact vot_sm hp19 hc21; done) | (exact vot_df hp19 hp22 hc23; done) | (exact absurd (vot_ok0 hp20) hp21; done) | (exact vot_sm hp20 hc22; done) | (exact vot_df hp20 hp23 hc24; done) | (exact absurd (vot_ok0 hp21) hp22; done) | (exact vot_sm hp21 hc23; done) | (exact vot_df hp21 hp24 hc25; done) | (exact absurd (vot_ok0 hp22) hp23; done) | (exact vot_sm hp22 hc24; done) | (exact vot_df hp22 hp25 hc26; done) | (exact absurd (vot_ok0 hp23) hp24; done) | (exact vot_sm hp23 hc25; done) | (exact vot_df hp23 hp26 hc27; done) | (exact absurd (vot_ok0 hp24) hp25; done) | (exact vot_sm hp24 hc26; done) | (exact vot_df hp24 hp27 hc28; done) | (exact absurd (vot_ok0 hp25) hp26; done) | (exact vot_sm hp25 hc27; done) | (exact vot_df hp25 hp28 hc29; done) | (with_reducible rfl; done) | (omega; done) | (simp_all; done)) _ _), zb⟩
  refine Seq.guard_on' rfl rfl (decide_eq_false hp10) ?_
  refine sv (Does.fieldAddr' 2 Try.underlying40 rfl ty3 rfl rfl) ?_
  refine Seq.guard_on' rfl rfl (decide_eq_false hp10) ?_
  refine sv (Does.load_own1 o354 ty3 rfl rfl) ?_
  refine Seq.guard_on' rfl rfl (decide_eq_false hp10) ?_
  refine sv (Does.fieldAddr' 2 Try.underlying40 rfl ty3 rfl rfl) ?_
  refine Seq.guard_on' rfl rfl (decide_eq_false hp10) ?_
  refine sv (Does.load_own1 o356 ty3 rfl rfl) ?_
  refine Seq.guard_on' rfl rfl (decide_eq_false hp10) ?_
  refine sv (Does.neq rfl rfl) ?_
  refine sv (Does.pick_b rfl (decide_eq_false hp10) rfl) ?_
  refine sv (Does.move rfl) ?_
  rcases Decidable.em (((decE (if (ofE pl).no then [] else (ofE pl).all)).epoch : Int) ≠ ((ofE pl).epoch : Int)) with hp11 | hp11
  · refine Seq.guard_off' rfl rfl (decide_eq_true hp11) rfl (by decide) ?_
    refine Seq.guard_off' rfl rfl (decide_eq_true hp11) rfl (by decide) ?_
    refine Seq.guard_off' rfl rfl (decide_eq_true hp11) rfl (by decide) ?_
    refine Seq.guard_off' rfl rfl (decide_eq_true hp11) rfl (by decide) ?_
    refine Seq.guard_off' rfl rfl (decide_eq_true hp11) rfl (by decide) ?_
    refine Seq.guard_off' rfl rfl (decide_eq_true hp11) rfl (by decide) ?_
    refine Seq.guard_off' rfl rfl (decide_eq_true hp11) rfl (by decide) ?_
    refine sv (Does.pick_b rfl (decide_eq_true hp11) rfl) ?_
    refine sv (Does.move rfl) ?_
    refine Seq.guard_off' rfl rfl rfl rfl (by decide) ?_
    refine Seq.guard_off' rfl rfl rfl rfl (by decide) ?_
    refine Seq.guard_off' rfl rfl rfl rfl (by decide) ?_
    refine Seq.guard_off' rfl rfl rfl rfl (by decide) ?_
    refine Seq.guard_off' rfl rfl rfl rfl (by decide) ?_
    refine Seq.guard_off' rfl rfl rfl rfl (by decide) ?_
    refine Seq.guard_off' rfl rfl rfl rfl (by decide) ?_
    refine sv (Does.pick_t rfl rfl) ?_
    refine Seq.next ?_
    refine Run.cond_b rfl rfl ?_
    refine rsr ?_
    refine sv (Does.assign rfl) ?_
    refine Seq.next ?_
    have c364 := c250.trans c357
    have c365 := c186.trans c364
    have c366 := c86.trans c365
    obtain ⟨⟨zU, zo⟩, zb⟩ := hX c366 (by decide)
    refine Run.ret (ret_then (ret_then ?_))
    exact post_one Try.results6 rfl ⟨_, rfl, (isBool (by first | (exact absurd (ent_ok0 hp5) hp6; done) | (exact absurd (ent_no0 hp5) hp7; done) | (exact absurd (ent_all0 hp5) hp8; done) | (exact absurd (congrArg EntryD.kind (ent_back hp5).2.2) hp9; done) | (exact absurd (congrArg EntryD.author (ent_back hp5).2.2) hp10; done) | (exact absurd (congrArg EntryD.epoch (ent_back hp5).2.2) hp11; done) | (exact absurd (congrArg (fun e : EntryD => ((List.length e.nums : Nat) : Int)) (ent_back hp5).2.2) hp12; done) | (exact absurd (congrArg (fun e : EntryD => ((List.length e.texts : Nat) : Int)) (ent_back hp5).2.2) hp13; done) | (exact absurd (congrArg EntryD.kind (ent_same hp5 hp14 hp15)) hp16; done) | (exact absurd (congrArg EntryD.author (ent_same hp5 hp14 hp15)) hp17; done) | (exact absurd (congrArg EntryD.epoch (ent_same hp5 hp14 hp15)) hp18; done) | (exact absurd (congrArg EntryD.peer (ent_same hp5 hp14 hp15)) hp19; done) | (exact absurd (congrArg EntryD.phase (ent_same hp5 hp14 hp15)) hp20; done) | (exact absurd (congrArg EntryD.mode (ent_same hp5 hp14 hp15)) hp21; done) | (exact absurd (congrArg EntryD.proof (ent_same hp5 hp14 hp15)) hp22; done) | (exact absurd (vot_ok0 hp6) hp7; done) | (exact vot_sm hp6 hc8; done) | (exact vot_df hp6 hp9 hc10; done) | (exact absurd (vot_ok0 hp7) hp8; done) | (exact vot_sm hp7 hc9; done) | (exact vot_df hp7 hp10 hc11; done) | (exact absurd (vot_ok0 hp8) hp9; done) | (exact vot_sm hp8 hc10; done) | (exact vot_df hp8 hp11 hc12; done) | (exact absurd (vot_ok0 hp9) hp10; done) | (exact vot_sm hp9 hc11; done) | (exact vot_df hp9 hp12 hc13; done) | (exact absurd (vot_ok0 hp10) hp11; done) | (exact vot_sm hp10 hc12; done) | (exact vot_df hp10 hp13 hc14; done) | (exact absurd (vot_ok0 hp11) hp12; done) | (exact vot_sm hp11 hc13; done) | (exact vot_df hp11 hp14 hc15; done) | (exact absurd (vot_ok0 hp12) hp13; done) | (exact vot_sm hp12 hc14; done) | (exact vot_df hp12 hp15 hc16; done) | (exact absurd (vot_ok0 hp13) hp14; done) | (exact vot_sm hp13 hc15; done) | (exact vot_df hp13 hp16 hc17; done) | (exact absurd (vot_ok0 hp14) hp15; done) | (exact vot_sm hp14 hc16; done) | (exact vot_df hp14 hp17 hc18; done) | (exact absurd (vot_ok0 hp15) hp16; done) | (exact vot_sm hp15 hc17; done) | (exact vot_df hp15 hp18 hc19; done) | (exact absurd (vot_ok0 hp16) hp17; done) | (exact vot_sm hp16 hc18; done) | (exact vot_df hp16 hp19 hc20; done) | (exact absurd (vot_ok0 hp17) hp18; done) | (exact vot_sm hp17 hc19; done) | (exact vot_df hp17 hp20 hc21; done) | (exact absurd (vot_ok0 hp18) hp19; done) | (exact vot_sm hp18 hc20; done) | (exact vot_df hp18 hp21 hc22; done) | (exact absurd (vot_ok0 hp19) hp20; done) | (exact vot_sm hp19 hc21; done) | (exact vot_df hp19 hp22 hc23; done) | (exact absurd (vot_ok0 hp20) hp21; done) | (exact vot_sm hp20 hc22; done) | (exact vot_df hp20 hp23 hc24; done) | (exact absurd (vot_ok0 hp21) hp22; done) | (exact vot_sm hp21 hc23; done) | (exact vot_df hp21 hp24 hc25; done) | (exact absurd (vot_ok0 hp22) hp23; done) | (exact vot_sm hp22 hc24; done) | (exact vot_df hp22 hp25 hc26; done) | (exact absurd (vot_ok0 hp23) hp24; done) | (exact vot_sm hp23 hc25; done) | (exact vot_df hp23 hp26 hc27; done) | (exact absurd (vot_ok0 hp24) hp25; done) | (exact vot_sm hp24 hc26; done) | (exact vot_df hp24 hp27 hc28; done) | (exact absurd (vot_ok0 hp25) hp26; done) | (exact vot_sm hp25 hc27; done) | (exact vot_df hp25 hp28 hc29; done) | (with_reducible rfl; done) | (omega; done) | (simp_all; done)) _ _), zb⟩
  refine Seq.guard_on' rfl rfl (decide_eq_false hp11) ?_
  refine sv (Does.fieldAddr' 6 Try.underlying40 rfl ty38 rfl rfl) ?_
  refine Seq.guard_on' rfl rfl (decide_eq_false hp11) ?_
  refine sv (Does.load_own1 o354 ty38 rfl rfl) ?_
  refine Seq.guard_on' rfl rfl (decide_eq_false hp11) ?_
  refine sv (Does.len Try.underlying38 rfl) ?_
  refine Seq.guard_on' rfl rfl (decide_eq_false hp11) ?_
  refine sv (Does.fieldAddr' 6 Try.underlying40 rfl ty38 rfl rfl) ?_
  refine Seq.guard_on' rfl rfl (decide_eq_false hp11) ?_
  refine sv (Does.load_own1 o356 ty38 rfl rfl) ?_
  refine Seq.guard_on' rfl rfl (decide_eq_false hp11) ?_
  refine sv (Does.len Try.underlying38 rfl) ?_
  refine Seq.guard_on' rfl rfl (decide_eq_false hp11) ?_
  refine sv (Does.neq rfl rfl) ?_
  refine sv (Does.pick_b rfl (decide_eq_false hp11) rfl) ?_
  refine sv (Does.move rfl) ?_
  rcases Decidable.em ((((List.length (decE (if (ofE pl).no then [] else (ofE pl).all)).nums : Nat) : Int) : Int) ≠ (((List.length (ofE pl).nums : Nat) : Int) : Int)) with hp12 | hp12
  · refine Seq.guard_off' rfl rfl (decide_eq_true hp12) rfl (by decide) ?_
    refine Seq.guard_off' rfl rfl (decide_eq_true hp12) rfl (by decide) ?_
    refine Seq.guard_off' rfl rfl (decide_eq_true hp12) rfl (by decide) ?_
    refine Seq.guard_off' rfl rfl (decide_eq_true hp12) rfl (by decide) ?_
    refine Seq.guard_off' rfl rfl (decide_eq_true hp12) rfl (by decide) ?_
    refine Seq.guard_off' rfl rfl (decide_eq_true hp12) rfl (by decide) ?_
    refine Seq.guard_off' rfl rfl (decide_eq_true hp12) rfl (by decide) ?_
    refine sv (Does.pick_b rfl (decide_eq_true hp12) rfl) ?_
    refine Seq.next ?_
    refine Run.cond_b rfl rfl ?_
    refine rsr ?_
    refine sv (Does.assign rfl) ?_
    refine Seq.next ?_
    have c367 := c250.trans c357
    have c368 := c186.trans c367
    have c369 := c86.trans c368
    obtain ⟨⟨zU, zo⟩, zb⟩ := hX c369 (by decide)
    refine Run.ret (ret_then (ret_then ?_))
    exact post_one Try.results6 rfl ⟨_, rfl, (isBool (by first | (exact absurd (ent_ok0 hp5) hp6; done) | (exact absurd (ent_no0 hp5) hp7; done) | (exact absurd (ent_all0 hp5) hp8; done) | (exact absurd (congrArg EntryD.kind (ent_back hp5).2.2) hp9; done) | (exact absurd (congrArg EntryD.author (ent_back hp5).2.2) hp10; done) | (exact absurd (congrArg EntryD.epoch (ent_back hp5).2.2) hp11; done) | (exact absurd (congrArg (fun e : EntryD => ((List.length e.nums : Nat) : Int)) (ent_back hp5).2.2) hp12; done) | (exact absurd (congrArg (fun e : EntryD => ((List.length e.texts : Nat) : Int)) (ent_back hp5).2.2) hp13; done) | (exact absurd (congrArg EntryD.kind (ent_same hp5 hp14 hp15)) hp16; done) | (exact absurd (congrArg EntryD.author (ent_same hp5 hp14 hp15)) hp17; done) | (exact absurd (congrArg EntryD.epoch (ent_same hp5 hp14 hp15)) hp18; done) | (exact absurd (congrArg EntryD.peer (ent_same hp5 hp14 hp15)) hp19; done) | (exact absurd (congrArg EntryD.phase (ent_same hp5 hp14 hp15)) hp20; done) | (exact absurd (congrArg EntryD.mode (ent_same hp5 hp14 hp15)) hp21; done) | (exact absurd (congrArg EntryD.proof (ent_same hp5 hp14 hp15)) hp22; done) | (exact absurd (vot_ok0 hp6) hp7; done) | (exact vot_sm hp6 hc8; done) | (exact vot_df hp6 hp9 hc10; done) | (exact absurd (vot_ok0 hp7) hp8; done) | (exact vot_sm hp7 hc9; done) | (exact vot_df hp7 hp10 hc11; done) | (exact absurd (vot_ok0 hp8) hp9; done) | (exact vot_sm hp8 hc10; done) | (exact vot_df hp8 hp11 hc12; done) | (exact absurd (vot_ok0 hp9) hp10; done) | (exact vot_sm hp9 hc11; done) | (exact vot_df hp9 hp12 hc13; done) | (exact absurd (vot_ok0 hp10) hp11; done) | (exact vot_sm hp10 hc12; done) | (exact vot_df hp10 hp13 hc14; done) | (exact absurd (vot_ok0 hp11) hp12; done) | (exact vot_sm hp11 hc13; done) | (exact vot_df hp11 hp14 hc15; done) | (exact absurd (vot_ok0 hp12) hp13; done) | (exact vot_sm hp12 hc14; done) | (exact vot_df hp12 hp15 hc16; done) | (exact absurd (vot_ok0 hp13) hp14; done) | (exact vot_sm hp13 hc15; done) | (exact vot_df hp13 hp16 hc17; done) | (exact absurd (vot_ok0 hp14) hp15; done) | (exact vot_sm hp14 hc16; done) | (exact vot_df hp14 hp17 hc18; done) | (exact absurd (vot_ok0 hp15) hp16; done) | (exact vot_sm hp15 hc17; done) | (exact vot_df hp15 hp18 hc19; done) | (exact absurd (vot_ok0 hp16) hp17; done) | (exact vot_sm hp16 hc18; done) | (exact vot_df hp16 hp19 hc20; done) | (exact absurd (vot_ok0 hp17) hp18; done) | (exact vot_sm hp17 hc19; done) | (exact vot_df hp17 hp20 hc21; done) | (exact absurd (vot_ok0 hp18) hp19; done) | (exact vot_sm hp18 hc20; done) | (exact vot_df hp18 hp21 hc22; done) | (exact absurd (vot_ok0 hp19) hp20; done) | (exact vot_sm hp19 hc21; done) | (exact vot_df hp19 hp22 hc23; done) | (exact absurd (vot_ok0 hp20) hp21; done) | (exact vot_sm hp20 hc22; done) | (exact vot_df hp20 hp23 hc24; done) | (exact absurd (vot_ok0 hp21) hp22; done) | (exact vot_sm hp21 hc23; done) | (exact vot_df hp21 hp24 hc25; done) | (exact absurd (vot_ok0 hp22) hp23; done) | (exact vot_sm hp22 hc24; done) | (exact vot_df hp22 hp25 hc26; done) | (exact absurd (vot_ok0 hp23) hp24; done) | (exact vot_sm hp23 hc25; done) | (exact vot_df hp23 hp26 hc27; done) | (exact absurd (vot_ok0 hp24) hp25; done) | (exact vot_sm hp24 hc26; done) | (exact vot_df hp24 hp27 hc28; done) | (exact absurd (vot_ok0 hp25) hp26; done) | (exact vot_sm hp25 hc27; done) | (exact vot_df hp25 hp28 hc29; done) | (with_reducible rfl; done) | (omega; done) | (simp_all; done)) _ _), zb⟩
  refine Seq.guard_on' rfl rfl (decide_eq_false hp12) ?_
  refine sv (Does.fieldAddr' 7 Try.underlying40 rfl ty34 rfl rfl) ?_
  refine Seq.guard_on' rfl rfl (decide_eq_false hp12) ?_
  refine sv (Does.load_own1 o354 ty34 rfl rfl) ?_
  refine Seq.guard_on' rfl rfl (decide_eq_false hp12) ?_
  refine sv (Does.len Try.underlying34 rfl) ?_
  refine Seq.guard_on' rfl rfl (decide_eq_false hp12) ?_
  refine sv (Does.fieldAddr' 7 Try.underlying40 rfl ty34 rfl rfl) ?_
  refine Seq.guard_on' rfl rfl (decide_eq_false hp12) ?_
  refine sv (Does.load_own1 o356 ty34 rfl rfl) ?_
  refine Seq.guard_on' rfl rfl (decide_eq_false hp12) ?_
  refine sv (Does.len Try.underlying34 rfl) ?_
  refine Seq.guard_on' rfl rfl (decide_eq_false hp12) ?_
  refine sv (Does.neq rfl rfl) ?_
  refine sv (Does.pick_b rfl (decide_eq_false hp12) rfl) ?_
  refine Seq.next ?_
  rcases Decidable.em ((((List.length (decE (if (ofE pl).no then [] else (ofE pl).all)).texts : Nat) : Int) : Int) ≠ (((List.length (ofE pl).texts : Nat) : Int) : Int)) with hp13 | hp13
  · refine Run.cond_b rfl (decide_eq_true hp13) ?_
    refine rsr ?_
    refine sv (Does.assign rfl) ?_
    refine Seq.next ?_
    have c370 := c250.trans c357
    have c371 := c186.trans c370
    have c372 := c86.trans c371
    obtain ⟨⟨zU, zo⟩, zb⟩ := hX c372 (by decide)
    refine Run.ret (ret_then (ret_then ?_))
    exact post_one Try.results6 rfl ⟨_, rfl, (isBool (by first | (exact absurd (ent_ok0 hp5) hp6; done) | (exact absurd (ent_no0 hp5) hp7; done) | (exact absurd (ent_all0 hp5) hp8; done) | (exact absurd (congrArg EntryD.kind (ent_back hp5).2.2) hp9; done) | (exact absurd (congrArg EntryD.author (ent_back hp5).2.2) hp10; done) | (exact absurd (congrArg EntryD.epoch (ent_back hp5).2.2) hp11; done) | (exact absurd (congrArg (fun e : EntryD => ((List.length e.nums : Nat) : Int)) (ent_back hp5).2.2) hp12; done) | (exact absurd (congrArg (fun e : EntryD => ((List.length e.texts : Nat) : Int)) (ent_back hp5).2.2) hp13; done) | (exact absurd (congrArg EntryD.kind (ent_same hp5 hp14 hp15)) hp16; done) | (exact absurd (congrArg EntryD.author (ent_same hp5 hp14 hp15)) hp17; done) | (exact absurd (congrArg EntryD.epoch (ent_same hp5 hp14 hp15)) hp18; done) | (exact absurd (congrArg EntryD.peer (ent_same hp5 hp14 hp15)) hp19; done) | (exact absurd (congrArg EntryD.phase (ent_same hp5 hp14 hp15)) hp20; done) | (exact absurd (congrArg EntryD.mode (ent_same hp5 hp14 hp15)) hp21; done) | (exact absurd (congrArg EntryD.proof (ent_same hp5 hp14 hp15)) hp22; done) | (exact absurd (vot_ok0 hp6) hp7; done) | (exact vot_sm hp6 hc8; done) | (exact vot_df hp6 hp9 hc10; done) | (exact absurd (vot_ok0 hp7) hp8; done) | (exact vot_sm hp7 hc9; done) | (exact vot_df hp7 hp10 hc11; done) | (exact absurd (vot_ok0 hp8) hp9; done) | (exact vot_sm hp8 hc10; done) | (exact vot_df hp8 hp11 hc12; done) | (exact absurd (vot_ok0 hp9) hp10; done) | (exact vot_sm hp9 hc11; done) | (exact vot_df hp9 hp12 hc13; done) | (exact absurd (vot_ok0 hp10) hp11; done) | (exact vot_sm hp10 hc12; done) | (exact vot_df hp10 hp13 hc14; done) | (exact absurd (vot_ok0 hp11) hp12; done) | (exact vot_sm hp11 hc13; done) | (exact vot_df hp11 hp14 hc15; done) | (exact absurd (vot_ok0 hp12) hp13; done) | (exact vot_sm hp12 hc14; done) | (exact vot_df hp12 hp15 hc16; done) | (exact absurd (vot_ok0 hp13) hp14; done) | (exact vot_sm hp13 hc15; done) | (exact vot_df hp13 hp16 hc17; done) | (exact absurd (vot_ok0 hp14) hp15; done) | (exact vot_sm hp14 hc16; done) | (exact vot_df hp14 hp17 hc18; done) | (exact absurd (vot_ok0 hp15) hp16; done) | (exact vot_sm hp15 hc17; done) | (exact vot_df hp15 hp18 hc19; done) | (exact absurd (vot_ok0 hp16) hp17; done) | (exact vot_sm hp16 hc18; done) | (exact vot_df hp16 hp19 hc20; done) | (exact absurd (vot_ok0 hp17) hp18; done) | (exact vot_sm hp17 hc19; done) | (exact vot_df hp17 hp20 hc21; done) | (exact absurd (vot_ok0 hp18) hp19; done) | (exact vot_sm hp18 hc20; done) | (exact vot_df hp18 hp21 hc22; done) | (exact absurd (vot_ok0 hp19) hp20; done) | (exact vot_sm hp19 hc21; done) | (exact vot_df hp19 hp22 hc23; done) | (exact absurd (vot_ok0 hp20) hp21; done) | (exact vot_sm hp20 hc22; done) | (exact vot_df hp20 hp23 hc24; done) | (exact absurd (vot_ok0 hp21) hp22; done) | (exact vot_sm hp21 hc23; done) | (exact vot_df hp21 hp24 hc25; done) | (exact absurd (vot_ok0 hp22) hp23; done) | (exact vot_sm hp22 hc24; done) | (exact vot_df hp22 hp25 hc26; done) | (exact absurd (vot_ok0 hp23) hp24; done) | (exact vot_sm hp23 hc25; done) | (exact vot_df hp23 hp26 hc27; done) | (exact absurd (vot_ok0 hp24) hp25; done) | (exact vot_sm hp24 hc26; done) | (exact vot_df hp24 hp27 hc28; done) | (exact absurd (vot_ok0 hp25) hp26; done) | (exact vot_sm hp25 hc27; done) | (exact vot_df hp25 hp28 hc29; done) | (with_reducible rfl; done) | (omega; done) | (simp_all; done)) _ _), zb⟩
  refine Run.cond_b rfl (decide_eq_false hp13) ?_
  refine Run.skip_go (fun _ _ h => h) ?_
  refine rsr ?_
  refine sv (Does.move rfl) ?_
  refine sv (Does.eql rfl rfl) ?_
  refine sv (Does.move rfl) ?_
  rcases Decidable.em ((if (ofE po).no then 3 else 0 : Int) = (0 : Int)) with hp14 | hp14
  rotate_left
  · refine Seq.guard_off' rfl rfl (decide_eq_false hp14) rfl (by decide) ?_
    refine Seq.guard_off' rfl rfl (decide_eq_false hp14) rfl (by decide) ?_
    refine Seq.guard_off' rfl rfl (decide_eq_false hp14) rfl (by decide) ?_
    refine Seq.guard_off' rfl rfl (decide_eq_false hp14) rfl (by decide) ?_
    refine Seq.guard_off' rfl rfl (decide_eq_false hp14) rfl (by decide) ?_
    refine sv (Does.pick_b rfl (decide_eq_false hp14) rfl) ?_
    refine sv (Does.move rfl) ?_
    refine Seq.guard_off' rfl rfl rfl rfl (by decide) ?_
    refine Seq.guard_off' rfl rfl rfl rfl (by decide) ?_
    refine Seq.guard_off' rfl rfl rfl rfl (by decide) ?_
    refine Seq.guard_off' rfl rfl rfl rfl (by decide) ?_
    refine Seq.guard_off' rfl rfl rfl rfl (by decide) ?_
    refine Seq.guard_off' rfl rfl rfl rfl (by decide) ?_
    refine Seq.guard_undef rfl rfl (by decide) ?_
    refine Seq.guard_undef rfl rfl (by decide) ?_
    refine Seq.guard_undef rfl rfl (by decide) ?_
    refine Seq.guard_undef rfl rfl (by decide) ?_
    refine Seq.guard_undef rfl rfl (by decide) ?_
    refine Seq.guard_off' rfl rfl rfl rfl (by decide) ?_
    refine Seq.guard_off' rfl rfl rfl rfl (by decide) ?_
    refine Seq.guard_undef rfl rfl (by decide) ?_
    refine Seq.guard_undef rfl rfl (by decide) ?_
    refine Seq.guard_undef rfl rfl (by decide) ?_
    refine Seq.guard_undef rfl rfl (by decide) ?_
    refine Seq.guard_undef rfl rfl (by decide) ?_
    refine Seq.guard_off' rfl rfl rfl rfl (by decide) ?_
    refine Seq.guard_off' rfl rfl rfl rfl (by decide) ?_
    refine Seq.guard_undef rfl rfl (by decide) ?_
    refine Seq.guard_undef rfl rfl (by decide) ?_
    refine Seq.guard_undef rfl rfl (by decide) ?_
    refine Seq.guard_undef rfl rfl (by decide) ?_
    refine Seq.guard_undef rfl rfl (by decide) ?_
    refine Seq.guard_off' rfl rfl rfl rfl (by decide) ?_
    refine Seq.guard_off' rfl rfl rfl rfl (by decide) ?_
    refine Seq.guard_undef rfl rfl (by decide) ?_
    refine Seq.guard_undef rfl rfl (by decide) ?_
    refine Seq.guard_undef rfl rfl (by decide) ?_
    refine Seq.guard_undef rfl rfl (by decide) ?_
    refine Seq.guard_undef rfl rfl (by decide) ?_
    refine Seq.guard_off' rfl rfl rfl rfl (by decide) ?_
    refine Seq.guard_off' rfl rfl rfl rfl (by decide) ?_
    refine Seq.guard_undef rfl rfl (by decide) ?_
    refine Seq.guard_undef rfl rfl (by decide) ?_
    refine Seq.guard_undef rfl rfl (by decide) ?_
    refine Seq.guard_undef rfl rfl (by decide) ?_
    refine Seq.guard_undef rfl rfl (by decide) ?_
    refine Seq.guard_off' rfl rfl rfl rfl (by decide) ?_
    refine Seq.guard_off' rfl rfl rfl rfl (by decide) ?_
    refine Seq.guard_undef rfl rfl (by decide) ?_
    refine Seq.guard_undef rfl rfl (by decide) ?_
    refine Seq.guard_undef rfl rfl (by decide) ?_
    refine Seq.guard_undef rfl rfl (by decide) ?_
    refine Seq.guard_undef rfl rfl (by decide) ?_
    refine Seq.guard_undef rfl rfl (by decide) ?_
    refine Seq.guard_undef rfl rfl (by decide) ?_
    refine Seq.guard_off' rfl rfl rfl rfl (by decide) ?_
    refine sv (Does.pick_f rfl rfl) ?_
    refine Seq.next ?_
    refine Run.cond_b rfl rfl ?_
    refine Run.skip_go (fun _ _ h => h) ?_
    refine Run.seq ?_
    refine rsr ?_
    have c1366 := c250.trans c357
    have c1367 := c185.trans c1366
    have o1365 := o102.up c1367
    refine sv (Does.load_ownN [i64 vt.kind, i64 vt.from_, i64 vt.slot, i64 vt.view, i64 vt.valid, .slice A25 (List.length vt.value) c26] o1365 ty24 rfl rfl) ?_
    have c1369 := c186.trans c1366
    have c1370 := c86.trans c1369
    have q1371 := up c1370 q27
    have q1368 : VoteV vt L290 w328 (.agg #[i64 vt.kind, i64 vt.from_, i64 vt.slot, i64 vt.view, i64 vt.valid, .slice A25 (List.length vt.value) c26]) := VoteV.mk q1371
    refine scall (V := And2 (BytesV (if vt.bad then [] else vt.bytes)) (Is (i64 (if vt.bad then 3 else 0)))) cal20 h331 rfl (wire_EncodeVote h331 q1368 (show List.length vt.value ≤ 100000 from by omega)) fun v1372 w1373 q1374 s1375 h1376 => ?_
    obtain ⟨v1377, v1378, rfl, q1379, q1380⟩ := q1374
    obtain ⟨A1381, c1382, rfl⟩ := BytesV.shape q1379
    have z1383 := BytesV.cap q1379
    have q1380 := Is.out q1380; subst q1380
    refine sv (Does.move rfl) ?_
    refine sv (Does.extract rfl rfl) ?_
    refine sv (Does.extract rfl rfl) ?_
    refine sv (Does.assign rfl) ?_
    refine sv (Does.assign rfl) ?_
    refine nsr ?_
    refine sv (Does.move rfl) ?_
    refine sv (Does.eql rfl rfl) ?_
    refine Seq.next ?_
    rcases Decidable.em ((if vt.bad then 3 else 0 : Int) = (0 : Int)) with hp15 | hp15
    rotate_left
    · refine Run.cond_b rfl (decide_eq_false hp15) ?_
      refine Run.skip_go (fun _ _ h => h) ?_
      refine rsr ?_
      refine sv (Does.assign rfl) ?_
      refine Seq.next ?_
      have c1848 := c1370.trans s1375
      obtain ⟨⟨zU, zo⟩, zb⟩ := hX c1848 (by decide)
      refine Run.ret ?_
      exact post_one Try.results6 rfl ⟨_, rfl, rfl, zb⟩
    refine Run.cond_b rfl (decide_eq_true hp15) ?_
    refine rsr ?_
    refine sv (Does.move rfl) ?_
    refine scall (V := And2 (VoteV (decV (if vt.bad then [] else vt.bytes))) (Is (i64 (if decVOk (if vt.bad then [] else vt.bytes) then 0 else 3)))) cal28 h1376 rfl (wire_DecodeVote h1376 q1379 (show List.length (if vt.bad then [] else vt.bytes) ≤ 1000000 from by (have h9 := vot_bounds 0 (d := vt) (by omega) (by assumption); omega))) fun v1384 w1385 q1386 s1387 h1388 => ?_
    obtain ⟨v1389, v1390, rfl, q1391, q1392⟩ := q1386
    obtain ⟨A1393, c1394, rfl, q1395⟩ := VoteV.open q1391
    have z1396 := BytesV.cap q1395
    have q1392 := Is.out q1392; subst q1392
    refine sv (Does.move rfl) ?_
    refine sv (Does.extract rfl rfl) ?_
    refine sv (Does.extract rfl rfl) ?_
    refine salloc 24 [.int .i64 0, .int .i64 0, .int .i64 0, .int .i64 0, .int .i64 0, .slice none 0 0] h1388 ty24 rfl fun b1399 L1397 w1398 o1400 s1401 h1402 => ?_
    refine sstore [i64 ((decV (if vt.bad then [] else vt.bytes)).kind), i64 ((decV (if vt.bad then [] else vt.bytes)).from_), i64 ((decV (if vt.bad then [] else vt.bytes)).slot), i64 ((decV (if vt.bad then [] else vt.bytes)).view), i64 ((decV (if vt.bad then [] else vt.bytes)).valid), .slice A1393 (List.length (decV (if vt.bad then [] else vt.bytes)).value) c1394] h1402 o1400 ty24 rfl rfl rfl (Nat.le_of_ble_eq_true rfl) rfl rfl fun w1403 o1404 s1405 h1406 => ?_
    refine sv (Does.assign rfl) ?_
    refine nsr ?_
    have c1408 := s1401.trans s1405
    have c1409 := s1387.trans c1408
    have c1410 := s1375.trans c1409
    have c1411 := c1367.trans c1410
    have o1407 := o112.up c1411
    refine sv (Does.load_ownN [i64 vu.kind, i64 vu.from_, i64 vu.slot, i64 vu.view, i64 vu.valid, .slice A29 (List.length vu.value) c30] o1407 ty24 rfl rfl) ?_
    have c1413 := c1370.trans c1410
    have q1414 := up c1413 q31
    have q1412 : VoteV vu L1397 w1403 (.agg #[i64 vu.kind, i64 vu.from_, i64 vu.slot, i64 vu.view, i64 vu.valid, .slice A29 (List.length vu.value) c30]) := VoteV.mk q1414
    refine scall (V := And2 (BytesV (if vu.bad then [] else vu.bytes)) (Is (i64 (if vu.bad then 3 else 0)))) cal20 h1406 rfl (wire_EncodeVote h1406 q1412 (show List.length vu.value ≤ 100000 from by omega)) fun v1415 w1416 q1417 s1418 h1419 => ?_
    obtain ⟨v1420, v1421, rfl, q1422, q1423⟩ := q1417
    obtain ⟨A1424, c1425, rfl⟩ := BytesV.shape q1422
    have z1426 := BytesV.cap q1422
    have q1423 := Is.out q1423; subst q1423
    refine sv (Does.move rfl) ?_
    refine sv (Does.extract rfl rfl) ?_
    refine sv (Does.extract rfl rfl) ?_
    refine sv (Does.assign rfl) ?_
    refine sv (Does.assign rfl) ?_
    refine Seq.next ?_
    refine Run.seq ?_
    rcases Decidable.em ((if decVOk (if vt.bad then [] else vt.bytes) then 0 else 3 : Int) ≠ (0 : Int)) with hp16 | hp16
    · refine Run.open 23 (Φ := [.ex (i64 (if decVOk (if vt.bad then [] else vt.bytes) then 0 else 3)), .ex (.bool (decide ((if decVOk (if vt.bad then [] else vt.bytes) then 0 else 3 : Int) ≠ (0 : Int)))), .ex (.bool (decide ((if decVOk (if vt.bad then [] else vt.bytes) then 0 else 3 : Int) ≠ (0 : Int)))), .ex undef, .ex undef, .ex undef, .ex undef, .ex (.bool true), .ex (.bool true), .ex undef, .ex undef, .ex undef, .ex undef, .ex undef, .ex undef, .ex undef, .ex undef, .ex undef, .ex undef, .ex undef, .ex undef, .ex undef, .ex (.bool true)]) [(22, 235)] mixed (by kernel_rfl) rfl h1419 ⟨(oX [] rfl rfl rfl fun _ _ => Does.move rfl), (oX [(0, 213)] rfl rfl rfl fun _ _ => Does.neq rfl rfl), (oX [(1, 214)] rfl rfl rfl fun _ _ => Does.move rfl), (oOff rfl rfl rfl rfl (decide_eq_true hp16) rfl rfl), (oOff rfl rfl rfl rfl (decide_eq_true hp16) rfl rfl), (oOff rfl rfl rfl rfl (decide_eq_true hp16) rfl rfl), (oOff rfl rfl rfl rfl (decide_eq_true hp16) rfl rfl), (oX [(2, 215)] rfl rfl rfl fun _ _ => Does.pick_b rfl (decide_eq_true hp16) rfl), (oX [(7, 220)] rfl rfl rfl fun _ _ => Does.move rfl), (oOff rfl rfl rfl rfl rfl rfl rfl), (oOff rfl rfl rfl rfl rfl rfl rfl), (oOff rfl rfl rfl rfl rfl rfl rfl), (oOffU rfl rfl rfl rfl rfl), (oOffU rfl rfl rfl rfl rfl), (oOffU rfl rfl rfl rfl rfl), (oOffU rfl rfl rfl rfl rfl), (oOffU rfl rfl rfl rfl rfl), (oOffU rfl rfl rfl rfl rfl), (oOffU rfl rfl rfl rfl rfl), (oOffU rfl rfl rfl rfl rfl), (oOffU rfl rfl rfl rfl rfl), (oOff rfl rfl rfl rfl rfl rfl rfl), (oX [(8, 221)] rfl rfl rfl fun _ _ => Does.pick_t rfl rfl), trivial⟩ (fun L1463 w1464 h1465 s1466 => ?_)
      refine Seq.next ?_
      refine Run.cond_b rfl rfl ?_
      refine rsr ?_
      refine sv (Does.assign rfl) ?_
      refine Seq.next ?_
      have c1467 := s1418.trans s1466
      have c1468 := c1413.trans c1467
      obtain ⟨⟨zU, zo⟩, zb⟩ := hX c1468 (by decide)
      refine Run.ret (ret_then ?_)
      exact post_one Try.results6 rfl ⟨_, rfl, (isBool (by first | (exact absurd (ent_ok0 hp5) hp6; done) | (exact absurd (ent_no0 hp5) hp7; done) | (exact absurd (ent_all0 hp5) hp8; done) | (exact absurd (congrArg EntryD.kind (ent_back hp5).2.2) hp9; done) | (exact absurd (congrArg EntryD.author (ent_back hp5).2.2) hp10; done) | (exact absurd (congrArg EntryD.epoch (ent_back hp5).2.2) hp11; done) | (exact absurd (congrArg (fun e : EntryD => ((List.length e.nums : Nat) : Int)) (ent_back hp5).2.2) hp12; done) | (exact absurd (congrArg (fun e : EntryD => ((List.length e.texts : Nat) : Int)) (ent_back hp5).2.2) hp13; done) | (exact absurd (congrArg EntryD.kind (ent_same hp5 hp14 hp15)) hp16; done) | (exact absurd (congrArg EntryD.author (ent_same hp5 hp14 hp15)) hp17; done) | (exact absurd (congrArg EntryD.epoch (ent_same hp5 hp14 hp15)) hp18; done) | (exact absurd (congrArg EntryD.peer (ent_same hp5 hp14 hp15)) hp19; done) | (exact absurd (congrArg EntryD.phase (ent_same hp5 hp14 hp15)) hp20; done) | (exact absurd (congrArg EntryD.mode (ent_same hp5 hp14 hp15)) hp21; done) | (exact absurd (congrArg EntryD.proof (ent_same hp5 hp14 hp15)) hp22; done) | (exact absurd (vot_ok0 hp6) hp7; done) | (exact vot_sm hp6 hc8; done) | (exact vot_df hp6 hp9 hc10; done) | (exact absurd (vot_ok0 hp7) hp8; done) | (exact vot_sm hp7 hc9; done) | (exact vot_df hp7 hp10 hc11; done) | (exact absurd (vot_ok0 hp8) hp9; done) | (exact vot_sm hp8 hc10; done) | (exact vot_df hp8 hp11 hc12; done) | (exact absurd (vot_ok0 hp9) hp10; done) | (exact vot_sm hp9 hc11; done) | (exact vot_df hp9 hp12 hc13; done) | (exact absurd (vot_ok0 hp10) hp11; done) | (exact vot_sm hp10 hc12; done) | (exact vot_df hp10 hp13 hc14; done) | (exact absurd (vot_ok0 hp11) hp12; done) | (exact vot_sm hp11 hc13; done) | (exact vot_df hp11 hp14 hc15; done) | (exact absurd (vot_ok0 hp12) hp13; done) | (exact vot_sm hp12 hc14; done) | (exact vot_df hp12 hp15 hc16; done) | (exact absurd (vot_ok0 hp13) hp14; done) | (exact vot_sm hp13 hc15; done) | (exact vot_df hp13 hp16 hc17; done) | (exact absurd (vot_ok0 hp14) hp15; done) | (exact vot_sm hp14 hc16; done) | (exact vot_df hp14 hp17 hc18; done) | (exact absurd (vot_ok0 hp15) hp16; done) | (exact vot_sm hp15 hc17; done) | (exact vot_df hp15 hp18 hc19; done) | (exact absurd (vot_ok0 hp16) hp17; done) | (exact vot_sm hp16 hc18; done) | (exact vot_df hp16 hp19 hc20; done) | (exact absurd (vot_ok0 hp17) hp18; done) | (exact vot_sm hp17 hc19; done) | (exact vot_df hp17 hp20 hc21; done) | (exact absurd (vot_ok0 hp18) hp19; done) | (exact vot_sm hp18 hc20; done) | (exact vot_df hp18 hp21 hc22; done) | (exact absurd (vot_ok0 hp19) hp20; done) | (exact vot_sm hp19 hc21; done) | (exact vot_df hp19 hp22 hc23; done) | (exact absurd (vot_ok0 hp20) hp21; done) | (exact vot_sm hp20 hc22; done) | (exact vot_df hp20 hp23 hc24; done) | (exact absurd (vot_ok0 hp21) hp22; done) | (exact vot_sm hp21 hc23; done) | (exact vot_df hp21 hp24 hc25; done) | (exact absurd (vot_ok0 hp22) hp23; done) | (exact vot_sm hp22 hc24; done) | (exact vot_df hp22 hp25 hc26; done) | (exact absurd (vot_ok0 hp23) hp24; done) | (exact vot_sm hp23 hc25; done) | (exact vot_df hp23 hp26 hc27; done) | (exact absurd (vot_ok0 hp24) hp25; done) | (exact vot_sm hp24 hc26; done) | (exact vot_df hp24 hp27 hc28; done) | (exact absurd (vot_ok0 hp25) hp26; done) | (exact vot_sm hp25 hc27; done) | (exact vot_df hp25 hp28 hc29; done) | (with_reducible rfl; done) | (omega; done) | (simp_all; done)) _ _), zb⟩
    rcases bdich (!(sameV (decV (if vt.bad then [] else vt.bytes)) vt)) with hc17 | hc17
    · refine Run.open 23 (Φ := [.ex (i64 (if decVOk (if vt.bad then [] else vt.bytes) then 0 else 3)), .ex (.bool (decide ((if decVOk (if vt.bad then [] else vt.bytes) then 0 else 3 : Int) ≠ (0 : Int)))), .ex (.bool (decide ((if decVOk (if vt.bad then [] else vt.bytes) then 0 else 3 : Int) ≠ (0 : Int)))), .ex (.agg #[i64 ((decV (if vt.bad then [] else vt.bytes)).kind), i64 ((decV (if vt.bad then [] else vt.bytes)).from_), i64 ((decV (if vt.bad then [] else vt.bytes)).slot), i64 ((decV (if vt.bad then [] else vt.bytes)).view), i64 ((decV (if vt.bad then [] else vt.bytes)).valid), .slice A1393 (List.length (decV (if vt.bad then [] else vt.bytes)).value) c1394]), .ex (.agg #[i64 vt.kind, i64 vt.from_, i64 vt.slot, i64 vt.view, i64 vt.valid, .slice A25 (List.length vt.value) c26]), .v (Is (.bool (sameV (decV (if vt.bad then [] else vt.bytes)) vt))), .ex (.bool (!(sameV (decV (if vt.bad then [] else vt.bytes)) vt))), .ex (.bool (!(sameV (decV (if vt.bad then [] else vt.bytes)) vt))), .ex (.bool (!(sameV (decV (if vt.bad then [] else vt.bytes)) vt))), .ex undef, .ex undef, .ex undef, .ex undef, .ex undef, .ex undef, .ex undef, .ex undef, .ex undef, .ex undef, .ex undef, .ex undef, .ex undef, .ex (.bool true)]) [(22, 235)] mixed (by kernel_rfl) rfl h1419 ⟨(oX [] rfl rfl rfl fun _ _ => Does.move rfl), (oX [(0, 213)] rfl rfl rfl fun _ _ => Does.neq rfl rfl), (oX [(1, 214)] rfl rfl rfl fun _ _ => Does.move rfl), ?_, ?_, ?_, ?_, (oX [(2, 215), (6, 219)] rfl rfl rfl fun _ _ => Does.pick_b rfl (decide_eq_false hp16) rfl), (oX [(7, 220)] rfl rfl rfl fun _ _ => Does.move rfl), (oOff rfl rfl rfl rfl hc17 rfl rfl), (oOff rfl rfl rfl rfl hc17 rfl rfl), (oOff rfl rfl rfl rfl hc17 rfl rfl), (oOffU rfl rfl rfl rfl rfl), (oOffU rfl rfl rfl rfl rfl), (oOffU rfl rfl rfl rfl rfl), (oOffU rfl rfl rfl rfl rfl), (oOffU rfl rfl rfl rfl rfl), (oOffU rfl rfl rfl rfl rfl), (oOffU rfl rfl rfl rfl rfl), (oOffU rfl rfl rfl rfl rfl), (oOffU rfl rfl rfl rfl rfl), (oOff rfl rfl rfl rfl hc17 rfl rfl), (oX [(8, 221)] rfl rfl rfl fun _ _ => Does.pick_b rfl hc17 rfl), trivial⟩ (fun L1573 w1574 h1575 s1576 => ?_)
      · refine oP_on [] rfl rfl rfl rfl (decide_eq_false hp16) rfl fun L1531 w1532 h1533 s1534 => ?_
        have c1536 := s1418.trans s1534
        have o1535 := o1404.up c1536
        exact ⟨_, Does.load_ownN [i64 ((decV (if vt.bad then [] else vt.bytes)).kind), i64 ((decV (if vt.bad then [] else vt.bytes)).from_), i64 ((decV (if vt.bad then [] else vt.bytes)).slot), i64 ((decV (if vt.bad then [] else vt.bytes)).view), i64 ((decV (if vt.bad then [] else vt.bytes)).valid), .slice A1393 (List.length (decV (if vt.bad then [] else vt.bytes)).value) c1394] o1535 ty24 rfl rfl, rfl⟩
      · refine oP_on [] rfl rfl rfl rfl (decide_eq_false hp16) rfl fun L1537 w1538 h1539 s1540 => ?_
        have c1542 := s1418.trans s1540
        have c1543 := c1410.trans c1542
        have o1541 := o1365.up c1543
        exact ⟨_, Does.load_ownN [i64 vt.kind, i64 vt.from_, i64 vt.slot, i64 vt.view, i64 vt.valid, .slice A25 (List.length vt.value) c26] o1541 ty24 rfl rfl, rfl⟩
      · refine oC_on [(3, 216), (4, 217)] rfl rfl rfl rfl (decide_eq_false hp16) rfl cal29 fun L1544 w1545 h1546 s1547 => ?_
        have c1549 := s1418.trans s1547
        have c1550 := c1408.trans c1549
        have q1551 := up c1550 q1395
        have q1548 : VoteV (decV (if vt.bad then [] else vt.bytes)) L1544 w1545 (.agg #[i64 ((decV (if vt.bad then [] else vt.bytes)).kind), i64 ((decV (if vt.bad then [] else vt.bytes)).from_), i64 ((decV (if vt.bad then [] else vt.bytes)).slot), i64 ((decV (if vt.bad then [] else vt.bytes)).view), i64 ((decV (if vt.bad then [] else vt.bytes)).valid), .slice A1393 (List.length (decV (if vt.bad then [] else vt.bytes)).value) c1394]) := VoteV.mk q1551
        have c1553 := c1410.trans c1549
        have q1554 := up c1553 q1371
        have q1552 : VoteV vt L1544 w1545 (.agg #[i64 vt.kind, i64 vt.from_, i64 vt.slot, i64 vt.view, i64 vt.valid, .slice A25 (List.length vt.value) c26]) := VoteV.mk q1554
        exact ⟨_, rfl, (wire_Same h1546 q1548 q1552)⟩
      · refine oP_on [(5, 218)] rfl rfl rfl rfl (decide_eq_false hp16) rfl fun L1555 w1556 h1557 s1558 v1559 q1560 => ?_
        have q1560 := Is.out q1560; subst q1560
        exact ⟨_, Does.not rfl, rfl⟩
      refine Seq.next ?_
      refine Run.cond_b rfl rfl ?_
      refine rsr ?_
      refine sv (Does.assign rfl) ?_
      refine Seq.next ?_
      have c1577 := s1418.trans s1576
      have c1578 := c1413.trans c1577
      obtain ⟨⟨zU, zo⟩, zb⟩ := hX c1578 (by decide)
      refine Run.ret (ret_then ?_)
      exact post_one Try.results6 rfl ⟨_, rfl, (isBool (by first | (exact absurd (ent_ok0 hp5) hp6; done) | (exact absurd (ent_no0 hp5) hp7; done) | (exact absurd (ent_all0 hp5) hp8; done) | (exact absurd (congrArg EntryD.kind (ent_back hp5).2.2) hp9; done) | (exact absurd (congrArg EntryD.author (ent_back hp5).2.2) hp10; done) | (exact absurd (congrArg EntryD.epoch (ent_back hp5).2.2) hp11; done) | (exact absurd (congrArg (fun e : EntryD => ((List.length e.nums : Nat) : Int)) (ent_back hp5).2.2) hp12; done) | (exact absurd (congrArg (fun e : EntryD => ((List.length e.texts : Nat) : Int)) (ent_back hp5).2.2) hp13; done) | (exact absurd (congrArg EntryD.kind (ent_same hp5 hp14 hp15)) hp16; done) | (exact absurd (congrArg EntryD.author (ent_same hp5 hp14 hp15)) hp17; done) | (exact absurd (congrArg EntryD.epoch (ent_same hp5 hp14 hp15)) hp18; done) | (exact absurd (congrArg EntryD.peer (ent_same hp5 hp14 hp15)) hp19; done) | (exact absurd (congrArg EntryD.phase (ent_same hp5 hp14 hp15)) hp20; done) | (exact absurd (congrArg EntryD.mode (ent_same hp5 hp14 hp15)) hp21; done) | (exact absurd (congrArg EntryD.proof (ent_same hp5 hp14 hp15)) hp22; done) | (exact absurd (vot_ok0 hp6) hp7; done) | (exact vot_sm hp6 hc8; done) | (exact vot_df hp6 hp9 hc10; done) | (exact absurd (vot_ok0 hp7) hp8; done) | (exact vot_sm hp7 hc9; done) | (exact vot_df hp7 hp10 hc11; done) | (exact absurd (vot_ok0 hp8) hp9; done) | (exact vot_sm hp8 hc10; done) | (exact vot_df hp8 hp11 hc12; done) | (exact absurd (vot_ok0 hp9) hp10; done) | (exact vot_sm hp9 hc11; done) | (exact vot_df hp9 hp12 hc13; done) | (exact absurd (vot_ok0 hp10) hp11; done) | (exact vot_sm hp10 hc12; done) | (exact vot_df hp10 hp13 hc14; done) | (exact absurd (vot_ok0 hp11) hp12; done) | (exact vot_sm hp11 hc13; done) | (exact vot_df hp11 hp14 hc15; done) | (exact absurd (vot_ok0 hp12) hp13; done) | (exact vot_sm hp12 hc14; done) | (exact vot_df hp12 hp15 hc16; done) | (exact absurd (vot_ok0 hp13) hp14; done) | (exact vot_sm hp13 hc15; done) | (exact vot_df hp13 hp16 hc17; done) | (exact absurd (vot_ok0 hp14) hp15; done) | (exact vot_sm hp14 hc16; done) | (exact vot_df hp14 hp17 hc18; done) | (exact absurd (vot_ok0 hp15) hp16; done) | (exact vot_sm hp15 hc17; done) | (exact vot_df hp15 hp18 hc19; done) | (exact absurd (vot_ok0 hp16) hp17; done) | (exact vot_sm hp16 hc18; done) | (exact vot_df hp16 hp19 hc20; done) | (exact absurd (vot_ok0 hp17) hp18; done) | (exact vot_sm hp17 hc19; done) | (exact vot_df hp17 hp20 hc21; done) | (exact absurd (vot_ok0 hp18) hp19; done) | (exact vot_sm hp18 hc20; done) | (exact vot_df hp18 hp21 hc22; done) | (exact absurd (vot_ok0 hp19) hp20; done) | (exact vot_sm hp19 hc21; done) | (exact vot_df hp19 hp22 hc23; done) | (exact absurd (vot_ok0 hp20) hp21; done) | (exact vot_sm hp20 hc22; done) | (exact vot_df hp20 hp23 hc24; done) | (exact absurd (vot_ok0 hp21) hp22; done) | (exact vot_sm hp21 hc23; done) | (exact vot_df hp21 hp24 hc25; done) | (exact absurd (vot_ok0 hp22) hp23; done) | (exact vot_sm hp22 hc24; done) | (exact vot_df hp22 hp25 hc26; done) | (exact absurd (vot_ok0 hp23) hp24; done) | (exact vot_sm hp23 hc25; done) | (exact vot_df hp23 hp26 hc27; done) | (exact absurd (vot_ok0 hp24) hp25; done) | (exact vot_sm hp24 hc26; done) | (exact vot_df hp24 hp27 hc28; done) | (exact absurd (vot_ok0 hp25) hp26; done) | (exact vot_sm hp25 hc27; done) | (exact vot_df hp25 hp28 hc29; done) | (with_reducible rfl; done) | (omega; done) | (simp_all; done)) _ _), zb⟩
    rcases Decidable.em ((if vu.bad then 3 else 0 : Int) = (0 : Int)) with hp18 | hp18
    rotate_left
    · refine Run.open 23 (Φ := [.ex (i64 (if decVOk (if vt.bad then [] else vt.bytes) then 0 else 3)), .ex (.bool (decide ((if decVOk (if vt.bad then [] else vt.bytes) then 0 else 3 : Int) ≠ (0 : Int)))), .ex (.bool (decide ((if decVOk (if vt.bad then [] else vt.bytes) then 0 else 3 : Int) ≠ (0 : Int)))), .ex (.agg #[i64 ((decV (if vt.bad then [] else vt.bytes)).kind), i64 ((decV (if vt.bad then [] else vt.bytes)).from_), i64 ((decV (if vt.bad then [] else vt.bytes)).slot), i64 ((decV (if vt.bad then [] else vt.bytes)).view), i64 ((decV (if vt.bad then [] else vt.bytes)).valid), .slice A1393 (List.length (decV (if vt.bad then [] else vt.bytes)).value) c1394]), .ex (.agg #[i64 vt.kind, i64 vt.from_, i64 vt.slot, i64 vt.view, i64 vt.valid, .slice A25 (List.length vt.value) c26]), .v (Is (.bool (sameV (decV (if vt.bad then [] else vt.bytes)) vt))), .ex (.bool (!(sameV (decV (if vt.bad then [] else vt.bytes)) vt))), .ex (.bool (!(sameV (decV (if vt.bad then [] else vt.bytes)) vt))), .ex (.bool (!(sameV (decV (if vt.bad then [] else vt.bytes)) vt))), .ex (i64 (if vu.bad then 3 else 0)), .ex (.bool (decide ((if vu.bad then 3 else 0 : Int) = (0 : Int)))), .ex (.bool (decide ((if vu.bad then 3 else 0 : Int) = (0 : Int)))), .ex undef, .ex undef, .ex undef, .ex undef, .ex undef, .ex undef, .ex undef, .ex undef, .ex undef, .ex (.bool false), .ex (.bool false)]) [(22, 235)] mixed (by kernel_rfl) rfl h1419 ⟨(oX [] rfl rfl rfl fun _ _ => Does.move rfl), (oX [(0, 213)] rfl rfl rfl fun _ _ => Does.neq rfl rfl), (oX [(1, 214)] rfl rfl rfl fun _ _ => Does.move rfl), ?_, ?_, ?_, ?_, (oX [(2, 215), (6, 219)] rfl rfl rfl fun _ _ => Does.pick_b rfl (decide_eq_false hp16) rfl), (oX [(7, 220)] rfl rfl rfl fun _ _ => Does.move rfl), ?_, ?_, ?_, (oOff rfl rfl rfl rfl (decide_eq_false hp18) rfl rfl), (oOff rfl rfl rfl rfl (decide_eq_false hp18) rfl rfl), (oOff rfl rfl rfl rfl (decide_eq_false hp18) rfl rfl), (oOff rfl rfl rfl rfl (decide_eq_false hp18) rfl rfl), (oOff rfl rfl rfl rfl (decide_eq_false hp18) rfl rfl), (oOff rfl rfl rfl rfl (decide_eq_false hp18) rfl rfl), (oOff rfl rfl rfl rfl (decide_eq_false hp18) rfl rfl), (oOff rfl rfl rfl rfl (decide_eq_false hp18) rfl rfl), (oOff rfl rfl rfl rfl (decide_eq_false hp18) rfl rfl), ?_, (oX [(8, 221), (21, 234)] rfl rfl rfl fun _ _ => Does.pick_b rfl hc17 rfl), trivial⟩ (fun L1842 w1843 h1844 s1845 => ?_)
      · refine oP_on [] rfl rfl rfl rfl (decide_eq_false hp16) rfl fun L1784 w1785 h1786 s1787 => ?_
        have c1789 := s1418.trans s1787
        have o1788 := o1404.up c1789
        exact ⟨_, Does.load_ownN [i64 ((decV (if vt.bad then [] else vt.bytes)).kind), i64 ((decV (if vt.bad then [] else vt.bytes)).from_), i64 ((decV (if vt.bad then [] else vt.bytes)).slot), i64 ((decV (if vt.bad then [] else vt.bytes)).view), i64 ((decV (if vt.bad then [] else vt.bytes)).valid), .slice A1393 (List.length (decV (if vt.bad then [] else vt.bytes)).value) c1394] o1788 ty24 rfl rfl, rfl⟩
      · refine oP_on [] rfl rfl rfl rfl (decide_eq_false hp16) rfl fun L1790 w1791 h1792 s1793 => ?_
        have c1795 := s1418.trans s1793
        have c1796 := c1410.trans c1795
        have o1794 := o1365.up c1796
        exact ⟨_, Does.load_ownN [i64 vt.kind, i64 vt.from_, i64 vt.slot, i64 vt.view, i64 vt.valid, .slice A25 (List.length vt.value) c26] o1794 ty24 rfl rfl, rfl⟩
      · refine oC_on [(3, 216), (4, 217)] rfl rfl rfl rfl (decide_eq_false hp16) rfl cal29 fun L1797 w1798 h1799 s1800 => ?_
        have c1802 := s1418.trans s1800
        have c1803 := c1408.trans c1802
        have q1804 := up c1803 q1395
        have q1801 : VoteV (decV (if vt.bad then [] else vt.bytes)) L1797 w1798 (.agg #[i64 ((decV (if vt.bad then [] else vt.bytes)).kind), i64 ((decV (if vt.bad then [] else vt.bytes)).from_), i64 ((decV (if vt.bad then [] else vt.bytes)).slot), i64 ((decV (if vt.bad then [] else vt.bytes)).view), i64 ((decV (if vt.bad then [] else vt.bytes)).valid), .slice A1393 (List.length (decV (if vt.bad then [] else vt.bytes)).value) c1394]) := VoteV.mk q1804
        have c1806 := c1410.trans c1802
        have q1807 := up c1806 q1371
        have q1805 : VoteV vt L1797 w1798 (.agg #[i64 vt.kind, i64 vt.from_, i64 vt.slot, i64 vt.view, i64 vt.valid, .slice A25 (List.length vt.value) c26]) := VoteV.mk q1807
        exact ⟨_, rfl, (wire_Same h1799 q1801 q1805)⟩
      · refine oP_on [(5, 218)] rfl rfl rfl rfl (decide_eq_false hp16) rfl fun L1808 w1809 h1810 s1811 v1812 q1813 => ?_
        have q1813 := Is.out q1813; subst q1813
        exact ⟨_, Does.not rfl, rfl⟩
      · refine oP_on [] rfl rfl rfl rfl hc17 rfl fun L1822 w1823 h1824 s1825 => ?_
        exact ⟨_, Does.move rfl, rfl⟩
      · refine oP_on [(9, 222)] rfl rfl rfl rfl hc17 rfl fun L1826 w1827 h1828 s1829 => ?_
        exact ⟨_, Does.eql rfl rfl, rfl⟩
      · refine oP_on [(10, 223)] rfl rfl rfl rfl hc17 rfl fun L1830 w1831 h1832 s1833 => ?_
        exact ⟨_, Does.move rfl, rfl⟩
      · refine oP_on [(11, 224)] rfl rfl rfl rfl hc17 rfl fun L1834 w1835 h1836 s1837 => ?_
        exact ⟨_, Does.pick_b rfl (decide_eq_false hp18) rfl, rfl⟩
      refine Seq.next ?_
      refine Run.cond_b rfl rfl ?_
      refine Run.skip_go (fun _ _ h => h) ?_
      refine rsr ?_
      refine sv (Does.assign rfl) ?_
      refine Seq.next ?_
      have c1846 := s1418.trans s1845
      have c1847 := c1413.trans c1846
      obtain ⟨⟨zU, zo⟩, zb⟩ := hX c1847 (by decide)
      refine Run.ret ?_
      exact post_one Try.results6 rfl ⟨_, rfl, rfl, zb⟩
    refine Run.open 23 (Φ := [.ex (i64 (if decVOk (if vt.bad then [] else vt.bytes) then 0 else 3)), .ex (.bool (decide ((if decVOk (if vt.bad then [] else vt.bytes) then 0 else 3 : Int) ≠ (0 : Int)))), .ex (.bool (decide ((if decVOk (if vt.bad then [] else vt.bytes) then 0 else 3 : Int) ≠ (0 : Int)))), .ex (.agg #[i64 ((decV (if vt.bad then [] else vt.bytes)).kind), i64 ((decV (if vt.bad then [] else vt.bytes)).from_), i64 ((decV (if vt.bad then [] else vt.bytes)).slot), i64 ((decV (if vt.bad then [] else vt.bytes)).view), i64 ((decV (if vt.bad then [] else vt.bytes)).valid), .slice A1393 (List.length (decV (if vt.bad then [] else vt.bytes)).value) c1394]), .ex (.agg #[i64 vt.kind, i64 vt.from_, i64 vt.slot, i64 vt.view, i64 vt.valid, .slice A25 (List.length vt.value) c26]), .v (Is (.bool (sameV (decV (if vt.bad then [] else vt.bytes)) vt))), .ex (.bool (!(sameV (decV (if vt.bad then [] else vt.bytes)) vt))), .ex (.bool (!(sameV (decV (if vt.bad then [] else vt.bytes)) vt))), .ex (.bool (!(sameV (decV (if vt.bad then [] else vt.bytes)) vt))), .ex (i64 (if vu.bad then 3 else 0)), .ex (.bool (decide ((if vu.bad then 3 else 0 : Int) = (0 : Int)))), .ex (.bool (decide ((if vu.bad then 3 else 0 : Int) = (0 : Int)))), .ex (.slice A1424 (List.length (if vu.bad then [] else vu.bytes)) c1425), .ex (str (if vu.bad then [] else vu.bytes)), .ex (.slice A1381 (List.length (if vt.bad then [] else vt.bytes)) c1382), .ex (str (if vt.bad then [] else vt.bytes)), .ex (.bool (decide ((if vu.bad then [] else vu.bytes) = (if vt.bad then [] else vt.bytes)))), .ex (.agg #[i64 vu.kind, i64 vu.from_, i64 vu.slot, i64 vu.view, i64 vu.valid, .slice A29 (List.length vu.value) c30]), .ex (.agg #[i64 vt.kind, i64 vt.from_, i64 vt.slot, i64 vt.view, i64 vt.valid, .slice A25 (List.length vt.value) c26]), .v (Is (.bool (sameV vu vt))), .ex (.bool (!((decide ((if vu.bad then [] else vu.bytes) = (if vt.bad then [] else vt.bytes))) == (sameV vu vt)))), .ex (.bool (!((decide ((if vu.bad then [] else vu.bytes) = (if vt.bad then [] else vt.bytes))) == (sameV vu vt)))), .ex (.bool (!((decide ((if vu.bad then [] else vu.bytes) = (if vt.bad then [] else vt.bytes))) == (sameV vu vt))))]) [(22, 235)] mixed (by kernel_rfl) rfl h1419 ⟨(oX [] rfl rfl rfl fun _ _ => Does.move rfl), (oX [(0, 213)] rfl rfl rfl fun _ _ => Does.neq rfl rfl), (oX [(1, 214)] rfl rfl rfl fun _ _ => Does.move rfl), ?_, ?_, ?_, ?_, (oX [(2, 215), (6, 219)] rfl rfl rfl fun _ _ => Does.pick_b rfl (decide_eq_false hp16) rfl), (oX [(7, 220)] rfl rfl rfl fun _ _ => Does.move rfl), ?_, ?_, ?_, ?_, ?_, ?_, ?_, ?_, ?_, ?_, ?_, ?_, ?_, (oX [(8, 221), (21, 234)] rfl rfl rfl fun _ _ => Does.pick_b rfl hc17 rfl), trivial⟩ (fun L1764 w1765 h1766 s1767 => ?_)
    · refine oP_on [] rfl rfl rfl rfl (decide_eq_false hp16) rfl fun L1653 w1654 h1655 s1656 => ?_
      have c1658 := s1418.trans s1656
      have o1657 := o1404.up c1658
      exact ⟨_, Does.load_ownN [i64 ((decV (if vt.bad then [] else vt.bytes)).kind), i64 ((decV (if vt.bad then [] else vt.bytes)).from_), i64 ((decV (if vt.bad then [] else vt.bytes)).slot), i64 ((decV (if vt.bad then [] else vt.bytes)).view), i64 ((decV (if vt.bad then [] else vt.bytes)).valid), .slice A1393 (List.length (decV (if vt.bad then [] else vt.bytes)).value) c1394] o1657 ty24 rfl rfl, rfl⟩
    · refine oP_on [] rfl rfl rfl rfl (decide_eq_false hp16) rfl fun L1659 w1660 h1661 s1662 => ?_
      have c1664 := s1418.trans s1662
      have c1665 := c1410.trans c1664
      have o1663 := o1365.up c1665
      exact ⟨_, Does.load_ownN [i64 vt.kind, i64 vt.from_, i64 vt.slot, i64 vt.view, i64 vt.valid, .slice A25 (List.length vt.value) c26] o1663 ty24 rfl rfl, rfl⟩
    · refine oC_on [(3, 216), (4, 217)] rfl rfl rfl rfl (decide_eq_false hp16) rfl cal29 fun L1666 w1667 h1668 s1669 => ?_
      have c1671 := s1418.trans s1669
      have c1672 := c1408.trans c1671
      have q1673 := up c1672 q1395
      have q1670 : VoteV (decV (if vt.bad then [] else vt.bytes)) L1666 w1667 (.agg #[i64 ((decV (if vt.bad then [] else vt.bytes)).kind), i64 ((decV (if vt.bad then [] else vt.bytes)).from_), i64 ((decV (if vt.bad then [] else vt.bytes)).slot), i64 ((decV (if vt.bad then [] else vt.bytes)).view), i64 ((decV (if vt.bad then [] else vt.bytes)).valid), .slice A1393 (List.length (decV (if vt.bad then [] else vt.bytes)).value) c1394]) := VoteV.mk q1673
      have c1675 := c1410.trans c1671
      have q1676 := up c1675 q1371
      have q1674 : VoteV vt L1666 w1667 (.agg #[i64 vt.kind, i64 vt.from_, i64 vt.slot, i64 vt.view, i64 vt.valid, .slice A25 (List.length vt.value) c26]) := VoteV.mk q1676
      exact ⟨_, rfl, (wire_Same h1668 q1670 q1674)⟩
    · refine oP_on [(5, 218)] rfl rfl rfl rfl (decide_eq_false hp16) rfl fun L1677 w1678 h1679 s1680 v1681 q1682 => ?_
      have q1682 := Is.out q1682; subst q1682
      exact ⟨_, Does.not rfl, rfl⟩
    · refine oP_on [] rfl rfl rfl rfl hc17 rfl fun L1691 w1692 h1693 s1694 => ?_
      exact ⟨_, Does.move rfl, rfl⟩
    · refine oP_on [(9, 222)] rfl rfl rfl rfl hc17 rfl fun L1695 w1696 h1697 s1698 => ?_
      exact ⟨_, Does.eql rfl rfl, rfl⟩
    · refine oP_on [(10, 223)] rfl rfl rfl rfl hc17 rfl fun L1699 w1700 h1701 s1702 => ?_
      exact ⟨_, Does.move rfl, rfl⟩
    · refine oP_on [] rfl rfl rfl rfl (decide_eq_true hp18) rfl fun L1703 w1704 h1705 s1706 => ?_
      exact ⟨_, Does.move rfl, rfl⟩
    · refine oP_on [(12, 225)] rfl rfl rfl rfl (decide_eq_true hp18) rfl fun L1707 w1708 h1709 s1710 => ?_
      have q1711 := up s1710 q1422
      exact ⟨_, Does.conv_str Try.underlying22 Try.underlying5 Try.underlying9 rfl q1711, rfl⟩
    · refine oP_on [] rfl rfl rfl rfl (decide_eq_true hp18) rfl fun L1712 w1713 h1714 s1715 => ?_
      exact ⟨_, Does.move rfl, rfl⟩
    · refine oP_on [(14, 227)] rfl rfl rfl rfl (decide_eq_true hp18) rfl fun L1716 w1717 h1718 s1719 => ?_
      have c1720 := s1418.trans s1719
      have c1721 := c1409.trans c1720
      have q1722 := up c1721 q1379
      exact ⟨_, Does.conv_str Try.underlying22 Try.underlying5 Try.underlying9 rfl q1722, rfl⟩
    · refine oP_on [(13, 226), (15, 228)] rfl rfl rfl rfl (decide_eq_true hp18) rfl fun L1723 w1724 h1725 s1726 => ?_
      exact ⟨_, Does.str_eql rfl rfl, rfl⟩
    · refine oP_on [] rfl rfl rfl rfl (decide_eq_true hp18) rfl fun L1727 w1728 h1729 s1730 => ?_
      have c1732 := s1418.trans s1730
      have o1731 := o1407.up c1732
      exact ⟨_, Does.load_ownN [i64 vu.kind, i64 vu.from_, i64 vu.slot, i64 vu.view, i64 vu.valid, .slice A29 (List.length vu.value) c30] o1731 ty24 rfl rfl, rfl⟩
    · refine oP_on [] rfl rfl rfl rfl (decide_eq_true hp18) rfl fun L1733 w1734 h1735 s1736 => ?_
      have c1738 := s1418.trans s1736
      have c1739 := c1410.trans c1738
      have o1737 := o1365.up c1739
      exact ⟨_, Does.load_ownN [i64 vt.kind, i64 vt.from_, i64 vt.slot, i64 vt.view, i64 vt.valid, .slice A25 (List.length vt.value) c26] o1737 ty24 rfl rfl, rfl⟩
    · refine oC_on [(17, 230), (18, 231)] rfl rfl rfl rfl (decide_eq_true hp18) rfl cal29 fun L1740 w1741 h1742 s1743 => ?_
      have c1745 := s1418.trans s1743
      have q1746 := up c1745 q1414
      have q1744 : VoteV vu L1740 w1741 (.agg #[i64 vu.kind, i64 vu.from_, i64 vu.slot, i64 vu.view, i64 vu.valid, .slice A29 (List.length vu.value) c30]) := VoteV.mk q1746
      have c1748 := c1410.trans c1745
      have q1749 := up c1748 q1371
      have q1747 : VoteV vt L1740 w1741 (.agg #[i64 vt.kind, i64 vt.from_, i64 vt.slot, i64 vt.view, i64 vt.valid, .slice A25 (List.length vt.value) c26]) := VoteV.mk q1749
      exact ⟨_, rfl, (wire_Same h1742 q1744 q1747)⟩
    · refine oP_on [(16, 229), (19, 232)] rfl rfl rfl rfl (decide_eq_true hp18) rfl fun L1750 w1751 h1752 s1753 v1754 q1755 => ?_
      have q1755 := Is.out q1755; subst q1755
      exact ⟨_, Does.bool_neq Try.underlying4 rfl rfl, rfl⟩
    · refine oP_on [(11, 224), (20, 233)] rfl rfl rfl rfl hc17 rfl fun L1756 w1757 h1758 s1759 => ?_
      exact ⟨_, Does.pick_b rfl (decide_eq_true hp18) rfl, rfl⟩
    refine Seq.next ?_
    rcases bdich (!((decide ((if vu.bad then [] else vu.bytes) = (if vt.bad then [] else vt.bytes))) == (sameV vu vt))) with hc19 | hc19
    rotate_left
    · refine Run.cond_b rfl hc19 ?_
      refine Run.skip_go (fun _ _ h => h) ?_
      refine rsr ?_
      refine sv (Does.assign rfl) ?_
      refine Seq.next ?_
      have c1770 := s1418.trans s1767
      have c1771 := c1413.trans c1770
      obtain ⟨⟨zU, zo⟩, zb⟩ := hX c1771 (by decide)
      refine Run.ret ?_
      exact post_one Try.results6 rfl ⟨_, rfl, rfl, zb⟩
    refine Run.cond_b rfl hc19 ?_
    refine rsr ?_
    refine sv (Does.assign rfl) ?_
    refine Seq.next ?_
    have c1768 := s1418.trans s1767
    have c1769 := c1413.trans c1768
    obtain ⟨⟨zU, zo⟩, zb⟩ := hX c1769 (by decide)
    refine Run.ret (ret_then ?_)
    exact post_one Try.results6 rfl ⟨_, rfl, (isBool (by first | (exact absurd (ent_ok0 hp5) hp6; done) | (exact absurd (ent_no0 hp5) hp7; done) | (exact absurd (ent_all0 hp5) hp8; done) | (exact absurd (congrArg EntryD.kind (ent_back hp5).2.2) hp9; done) | (exact absurd (congrArg EntryD.author (ent_back hp5).2.2) hp10; done) | (exact absurd (congrArg EntryD.epoch (ent_back hp5).2.2) hp11; done) | (exact absurd (congrArg (fun e : EntryD => ((List.length e.nums : Nat) : Int)) (ent_back hp5).2.2) hp12; done) | (exact absurd (congrArg (fun e : EntryD => ((List.length e.texts : Nat) : Int)) (ent_back hp5).2.2) hp13; done) | (exact absurd (congrArg EntryD.kind (ent_same hp5 hp14 hp15)) hp16; done) | (exact absurd (congrArg EntryD.author (ent_same hp5 hp14 hp15)) hp17; done) | (exact absurd (congrArg EntryD.epoch (ent_same hp5 hp14 hp15)) hp18; done) | (exact absurd (congrArg EntryD.peer (ent_same hp5 hp14 hp15)) hp19; done) | (exact absurd (congrArg EntryD.phase (ent_same hp5 hp14 hp15)) hp20; done) | (exact absurd (congrArg EntryD.mode (ent_same hp5 hp14 hp15)) hp21; done) | (exact absurd (congrArg EntryD.proof (ent_same hp5 hp14 hp15)) hp22; done) | (exact absurd (vot_ok0 hp6) hp7; done) | (exact vot_sm hp6 hc8; done) | (exact vot_df hp6 hp9 hc10; done) | (exact absurd (vot_ok0 hp7) hp8; done) | (exact vot_sm hp7 hc9; done) | (exact vot_df hp7 hp10 hc11; done) | (exact absurd (vot_ok0 hp8) hp9; done) | (exact vot_sm hp8 hc10; done) | (exact vot_df hp8 hp11 hc12; done) | (exact absurd (vot_ok0 hp9) hp10; done) | (exact vot_sm hp9 hc11; done) | (exact vot_df hp9 hp12 hc13; done) | (exact absurd (vot_ok0 hp10) hp11; done) | (exact vot_sm hp10 hc12; done) | (exact vot_df hp10 hp13 hc14; done) | (exact absurd (vot_ok0 hp11) hp12; done) | (exact vot_sm hp11 hc13; done) | (exact vot_df hp11 hp14 hc15; done) | (exact absurd (vot_ok0 hp12) hp13; done) | (exact vot_sm hp12 hc14; done) | (exact vot_df hp12 hp15 hc16; done) | (exact absurd (vot_ok0 hp13) hp14; done) | (exact vot_sm hp13 hc15; done) | (exact vot_df hp13 hp16 hc17; done) | (exact absurd (vot_ok0 hp14) hp15; done) | (exact vot_sm hp14 hc16; done) | (exact vot_df hp14 hp17 hc18; done) | (exact absurd (vot_ok0 hp15) hp16; done) | (exact vot_sm hp15 hc17; done) | (exact vot_df hp15 hp18 hc19; done) | (exact absurd (vot_ok0 hp16) hp17; done) | (exact vot_sm hp16 hc18; done) | (exact vot_df hp16 hp19 hc20; done) | (exact absurd (vot_ok0 hp17) hp18; done) | (exact vot_sm hp17 hc19; done) | (exact vot_df hp17 hp20 hc21; done) | (exact absurd (vot_ok0 hp18) hp19; done) | (exact vot_sm hp18 hc20; done) | (exact vot_df hp18 hp21 hc22; done) | (exact absurd (vot_ok0 hp19) hp20; done) | (exact vot_sm hp19 hc21; done) | (exact vot_df hp19 hp22 hc23; done) | (exact absurd (vot_ok0 hp20) hp21; done) | (exact vot_sm hp20 hc22; done) | (exact vot_df hp20 hp23 hc24; done) | (exact absurd (vot_ok0 hp21) hp22; done) | (exact vot_sm hp21 hc23; done) | (exact vot_df hp21 hp24 hc25; done) | (exact absurd (vot_ok0 hp22) hp23; done) | (exact vot_sm hp22 hc24; done) | (exact vot_df hp22 hp25 hc26; done) | (exact absurd (vot_ok0 hp23) hp24; done) | (exact vot_sm hp23 hc25; done) | (exact vot_df hp23 hp26 hc27; done) | (exact absurd (vot_ok0 hp24) hp25; done) | (exact vot_sm hp24 hc26; done) | (exact vot_df hp24 hp27 hc28; done) | (exact absurd (vot_ok0 hp25) hp26; done) | (exact vot_sm hp25 hc27; done) | (exact vot_df hp25 hp28 hc29; done) | (with_reducible rfl; done) | (omega; done) | (simp_all; done)) _ _), zb⟩
  refine Seq.guard_on' rfl rfl (decide_eq_true hp14) ?_
  refine sv (Does.move rfl) ?_
  refine Seq.guard_on' rfl rfl (decide_eq_true hp14) ?_
  refine sv (Does.conv_str Try.underlying22 Try.underlying5 Try.underlying9 rfl q334) ?_
  refine Seq.guard_on' rfl rfl (decide_eq_true hp14) ?_
  refine sv (Does.move rfl) ?_
  refine Seq.guard_on' rfl rfl (decide_eq_true hp14) ?_
  refine sv (Does.conv_str Try.underlying22 Try.underlying5 Try.underlying9 rfl q349) ?_
  refine Seq.guard_on' rfl rfl (decide_eq_true hp14) ?_
  refine sv (Does.str_eql rfl rfl) ?_
  refine sv (Does.pick_b rfl (decide_eq_true hp14) rfl) ?_
  refine sv (Does.move rfl) ?_
  rcases Decidable.em ((if (ofE po).no then [] else (ofE po).all) = (if (ofE pl).no then [] else (ofE pl).all)) with hp15 | hp15
  rotate_left
  · refine Seq.guard_off' rfl rfl (decide_eq_false hp15) rfl (by decide) ?_
    refine Seq.guard_off' rfl rfl (decide_eq_false hp15) rfl (by decide) ?_
    refine Seq.guard_off' rfl rfl (decide_eq_false hp15) rfl (by decide) ?_
    refine Seq.guard_off' rfl rfl (decide_eq_false hp15) rfl (by decide) ?_
    refine Seq.guard_off' rfl rfl (decide_eq_false hp15) rfl (by decide) ?_
    refine Seq.guard_off' rfl rfl (decide_eq_false hp15) rfl (by decide) ?_
    refine Seq.guard_undef rfl rfl (by decide) ?_
    refine Seq.guard_undef rfl rfl (by decide) ?_
    refine Seq.guard_undef rfl rfl (by decide) ?_
    refine Seq.guard_undef rfl rfl (by decide) ?_
    refine Seq.guard_undef rfl rfl (by decide) ?_
    refine Seq.guard_off' rfl rfl (decide_eq_false hp15) rfl (by decide) ?_
    refine Seq.guard_off' rfl rfl (decide_eq_false hp15) rfl (by decide) ?_
    refine Seq.guard_undef rfl rfl (by decide) ?_
    refine Seq.guard_undef rfl rfl (by decide) ?_
    refine Seq.guard_undef rfl rfl (by decide) ?_
    refine Seq.guard_undef rfl rfl (by decide) ?_
    refine Seq.guard_undef rfl rfl (by decide) ?_
    refine Seq.guard_off' rfl rfl (decide_eq_false hp15) rfl (by decide) ?_
    refine Seq.guard_off' rfl rfl (decide_eq_false hp15) rfl (by decide) ?_
    refine Seq.guard_undef rfl rfl (by decide) ?_
    refine Seq.guard_undef rfl rfl (by decide) ?_
    refine Seq.guard_undef rfl rfl (by decide) ?_
    refine Seq.guard_undef rfl rfl (by decide) ?_
    refine Seq.guard_undef rfl rfl (by decide) ?_
    refine Seq.guard_off' rfl rfl (decide_eq_false hp15) rfl (by decide) ?_
    refine Seq.guard_off' rfl rfl (decide_eq_false hp15) rfl (by decide) ?_
    refine Seq.guard_undef rfl rfl (by decide) ?_
    refine Seq.guard_undef rfl rfl (by decide) ?_
    refine Seq.guard_undef rfl rfl (by decide) ?_
    refine Seq.guard_undef rfl rfl (by decide) ?_
    refine Seq.guard_undef rfl rfl (by decide) ?_
    refine Seq.guard_off' rfl rfl (decide_eq_false hp15) rfl (by decide) ?_
    refine Seq.guard_off' rfl rfl (decide_eq_false hp15) rfl (by decide) ?_
    refine Seq.guard_undef rfl rfl (by decide) ?_
    refine Seq.guard_undef rfl rfl (by decide) ?_
    refine Seq.guard_undef rfl rfl (by decide) ?_
    refine Seq.guard_undef rfl rfl (by decide) ?_
    refine Seq.guard_undef rfl rfl (by decide) ?_
    refine Seq.guard_off' rfl rfl (decide_eq_false hp15) rfl (by decide) ?_
    refine Seq.guard_off' rfl rfl (decide_eq_false hp15) rfl (by decide) ?_
    refine Seq.guard_undef rfl rfl (by decide) ?_
    refine Seq.guard_undef rfl rfl (by decide) ?_
    refine Seq.guard_undef rfl rfl (by decide) ?_
    refine Seq.guard_undef rfl rfl (by decide) ?_
    refine Seq.guard_undef rfl rfl (by decide) ?_
    refine Seq.guard_undef rfl rfl (by decide) ?_
    refine Seq.guard_undef rfl rfl (by decide) ?_
    refine Seq.guard_off' rfl rfl (decide_eq_false hp15) rfl (by decide) ?_
    refine sv (Does.pick_b rfl (decide_eq_false hp15) rfl) ?_
    refine Seq.next ?_
    refine Run.cond_b rfl rfl ?_
    refine Run.skip_go (fun _ _ h => h) ?_
    refine Run.seq ?_
    refine rsr ?_
    have c882 := c250.trans c357
    have c883 := c185.trans c882
    have o881 := o102.up c883
    refine sv (Does.load_ownN [i64 vt.kind, i64 vt.from_, i64 vt.slot, i64 vt.view, i64 vt.valid, .slice A25 (List.length vt.value) c26] o881 ty24 rfl rfl) ?_
    have c885 := c186.trans c882
    have c886 := c86.trans c885
    have q887 := up c886 q27
    have q884 : VoteV vt L290 w328 (.agg #[i64 vt.kind, i64 vt.from_, i64 vt.slot, i64 vt.view, i64 vt.valid, .slice A25 (List.length vt.value) c26]) := VoteV.mk q887
    refine scall (V := And2 (BytesV (if vt.bad then [] else vt.bytes)) (Is (i64 (if vt.bad then 3 else 0)))) cal20 h331 rfl (wire_EncodeVote h331 q884 (show List.length vt.value ≤ 100000 from by omega)) fun v888 w889 q890 s891 h892 => ?_
    obtain ⟨v893, v894, rfl, q895, q896⟩ := q890
    obtain ⟨A897, c898, rfl⟩ := BytesV.shape q895
    have z899 := BytesV.cap q895
    have q896 := Is.out q896; subst q896
    refine sv (Does.move rfl) ?_
    refine sv (Does.extract rfl rfl) ?_
    refine sv (Does.extract rfl rfl) ?_
    refine sv (Does.assign rfl) ?_
    refine sv (Does.assign rfl) ?_
    refine nsr ?_
    refine sv (Does.move rfl) ?_
    refine sv (Does.eql rfl rfl) ?_
    refine Seq.next ?_
    rcases Decidable.em ((if vt.bad then 3 else 0 : Int) = (0 : Int)) with hp16 | hp16
    rotate_left
    · refine Run.cond_b rfl (decide_eq_false hp16) ?_
      refine Run.skip_go (fun _ _ h => h) ?_
      refine rsr ?_
      refine sv (Does.assign rfl) ?_
      refine Seq.next ?_
      have c1364 := c886.trans s891
      obtain ⟨⟨zU, zo⟩, zb⟩ := hX c1364 (by decide)
      refine Run.ret ?_
      exact post_one Try.results6 rfl ⟨_, rfl, rfl, zb⟩
    refine Run.cond_b rfl (decide_eq_true hp16) ?_
    refine rsr ?_
    refine sv (Does.move rfl) ?_
    refine scall (V := And2 (VoteV (decV (if vt.bad then [] else vt.bytes))) (Is (i64 (if decVOk (if vt.bad then [] else vt.bytes) then 0 else 3)))) cal28 h892 rfl (wire_DecodeVote h892 q895 (show List.length (if vt.bad then [] else vt.bytes) ≤ 1000000 from by (have h9 := vot_bounds 0 (d := vt) (by omega) (by assumption); omega))) fun v900 w901 q902 s903 h904 => ?_
    obtain ⟨v905, v906, rfl, q907, q908⟩ := q902
    obtain ⟨A909, c910, rfl, q911⟩ := VoteV.open q907
    have z912 := BytesV.cap q911
    have q908 := Is.out q908; subst q908
    refine sv (Does.move rfl) ?_
    refine sv (Does.extract rfl rfl) ?_
    refine sv (Does.extract rfl rfl) ?_
    refine salloc 24 [.int .i64 0, .int .i64 0, .int .i64 0, .int .i64 0, .int .i64 0, .slice none 0 0] h904 ty24 rfl fun b915 L913 w914 o916 s917 h918 => ?_
    refine sstore [i64 ((decV (if vt.bad then [] else vt.bytes)).kind), i64 ((decV (if vt.bad then [] else vt.bytes)).from_), i64 ((decV (if vt.bad then [] else vt.bytes)).slot), i64 ((decV (if vt.bad then [] else vt.bytes)).view), i64 ((decV (if vt.bad then [] else vt.bytes)).valid), .slice A909 (List.length (decV (if vt.bad then [] else vt.bytes)).value) c910] h918 o916 ty24 rfl rfl rfl (Nat.le_of_ble_eq_true rfl) rfl rfl fun w919 o920 s921 h922 => ?_
    refine sv (Does.assign rfl) ?_
    refine nsr ?_
    have c924 := s917.trans s921
    have c925 := s903.trans c924
    have c926 := s891.trans c925
    have c927 := c883.trans c926
    have o923 := o112.up c927
    refine sv (Does.load_ownN [i64 vu.kind, i64 vu.from_, i64 vu.slot, i64 vu.view, i64 vu.valid, .slice A29 (List.length vu.value) c30] o923 ty24 rfl rfl) ?_
    have c929 := c886.trans c926
    have q930 := up c929 q31
    have q928 : VoteV vu L913 w919 (.agg #[i64 vu.kind, i64 vu.from_, i64 vu.slot, i64 vu.view, i64 vu.valid, .slice A29 (List.length vu.value) c30]) := VoteV.mk q930
    refine scall (V := And2 (BytesV (if vu.bad then [] else vu.bytes)) (Is (i64 (if vu.bad then 3 else 0)))) cal20 h922 rfl (wire_EncodeVote h922 q928 (show List.length vu.value ≤ 100000 from by omega)) fun v931 w932 q933 s934 h935 => ?_
    obtain ⟨v936, v937, rfl, q938, q939⟩ := q933
    obtain ⟨A940, c941, rfl⟩ := BytesV.shape q938
    have z942 := BytesV.cap q938
    have q939 := Is.out q939; subst q939
    refine sv (Does.move rfl) ?_
    refine sv (Does.extract rfl rfl) ?_
    refine sv (Does.extract rfl rfl) ?_
    refine sv (Does.assign rfl) ?_
    refine sv (Does.assign rfl) ?_
    refine Seq.next ?_
    refine Run.seq ?_
    rcases Decidable.em ((if decVOk (if vt.bad then [] else vt.bytes) then 0 else 3 : Int) ≠ (0 : Int)) with hp17 | hp17
    · refine Run.open 23 (Φ := [.ex (i64 (if decVOk (if vt.bad then [] else vt.bytes) then 0 else 3)), .ex (.bool (decide ((if decVOk (if vt.bad then [] else vt.bytes) then 0 else 3 : Int) ≠ (0 : Int)))), .ex (.bool (decide ((if decVOk (if vt.bad then [] else vt.bytes) then 0 else 3 : Int) ≠ (0 : Int)))), .ex undef, .ex undef, .ex undef, .ex undef, .ex (.bool true), .ex (.bool true), .ex undef, .ex undef, .ex undef, .ex undef, .ex undef, .ex undef, .ex undef, .ex undef, .ex undef, .ex undef, .ex undef, .ex undef, .ex undef, .ex (.bool true)]) [(22, 235)] mixed (by kernel_rfl) rfl h935 ⟨(oX [] rfl rfl rfl fun _ _ => Does.move rfl), (oX [(0, 213)] rfl rfl rfl fun _ _ => Does.neq rfl rfl), (oX [(1, 214)] rfl rfl rfl fun _ _ => Does.move rfl), (oOff rfl rfl rfl rfl (decide_eq_true hp17) rfl rfl), (oOff rfl rfl rfl rfl (decide_eq_true hp17) rfl rfl), (oOff rfl rfl rfl rfl (decide_eq_true hp17) rfl rfl), (oOff rfl rfl rfl rfl (decide_eq_true hp17) rfl rfl), (oX [(2, 215)] rfl rfl rfl fun _ _ => Does.pick_b rfl (decide_eq_true hp17) rfl), (oX [(7, 220)] rfl rfl rfl fun _ _ => Does.move rfl), (oOff rfl rfl rfl rfl rfl rfl rfl), (oOff rfl rfl rfl rfl rfl rfl rfl), (oOff rfl rfl rfl rfl rfl rfl rfl), (oOffU rfl rfl rfl rfl rfl), (oOffU rfl rfl rfl rfl rfl), (oOffU rfl rfl rfl rfl rfl), (oOffU rfl rfl rfl rfl rfl), (oOffU rfl rfl rfl rfl rfl), (oOffU rfl rfl rfl rfl rfl), (oOffU rfl rfl rfl rfl rfl), (oOffU rfl rfl rfl rfl rfl), (oOffU rfl rfl rfl rfl rfl), (oOff rfl rfl rfl rfl rfl rfl rfl), (oX [(8, 221)] rfl rfl rfl fun _ _ => Does.pick_t rfl rfl), trivial⟩ (fun L979 w980 h981 s982 => ?_)
      refine Seq.next ?_
      refine Run.cond_b rfl rfl ?_
      refine rsr ?_
      refine sv (Does.assign rfl) ?_
      refine Seq.next ?_
      have c983 := s934.trans s982
      have c984 := c929.trans c983
      obtain ⟨⟨zU, zo⟩, zb⟩ := hX c984 (by decide)
      refine Run.ret (ret_then ?_)
      exact post_one Try.results6 rfl ⟨_, rfl, (isBool (by first | (exact absurd (ent_ok0 hp5) hp6; done) | (exact absurd (ent_no0 hp5) hp7; done) | (exact absurd (ent_all0 hp5) hp8; done) | (exact absurd (congrArg EntryD.kind (ent_back hp5).2.2) hp9; done) | (exact absurd (congrArg EntryD.author (ent_back hp5).2.2) hp10; done) | (exact absurd (congrArg EntryD.epoch (ent_back hp5).2.2) hp11; done) | (exact absurd (congrArg (fun e : EntryD => ((List.length e.nums : Nat) : Int)) (ent_back hp5).2.2) hp12; done) | (exact absurd (congrArg (fun e : EntryD => ((List.length e.texts : Nat) : Int)) (ent_back hp5).2.2) hp13; done) | (exact absurd (congrArg EntryD.kind (ent_same hp5 hp14 hp15)) hp16; done) | (exact absurd (congrArg EntryD.author (ent_same hp5 hp14 hp15)) hp17; done) | (exact absurd (congrArg EntryD.epoch (ent_same hp5 hp14 hp15)) hp18; done) | (exact absurd (congrArg EntryD.peer (ent_same hp5 hp14 hp15)) hp19; done) | (exact absurd (congrArg EntryD.phase (ent_same hp5 hp14 hp15)) hp20; done) | (exact absurd (congrArg EntryD.mode (ent_same hp5 hp14 hp15)) hp21; done) | (exact absurd (congrArg EntryD.proof (ent_same hp5 hp14 hp15)) hp22; done) | (exact absurd (vot_ok0 hp6) hp7; done) | (exact vot_sm hp6 hc8; done) | (exact vot_df hp6 hp9 hc10; done) | (exact absurd (vot_ok0 hp7) hp8; done) | (exact vot_sm hp7 hc9; done) | (exact vot_df hp7 hp10 hc11; done) | (exact absurd (vot_ok0 hp8) hp9; done) | (exact vot_sm hp8 hc10; done) | (exact vot_df hp8 hp11 hc12; done) | (exact absurd (vot_ok0 hp9) hp10; done) | (exact vot_sm hp9 hc11; done) | (exact vot_df hp9 hp12 hc13; done) | (exact absurd (vot_ok0 hp10) hp11; done) | (exact vot_sm hp10 hc12; done) | (exact vot_df hp10 hp13 hc14; done) | (exact absurd (vot_ok0 hp11) hp12; done) | (exact vot_sm hp11 hc13; done) | (exact vot_df hp11 hp14 hc15; done) | (exact absurd (vot_ok0 hp12) hp13; done) | (exact vot_sm hp12 hc14; done) | (exact vot_df hp12 hp15 hc16; done) | (exact absurd (vot_ok0 hp13) hp14; done) | (exact vot_sm hp13 hc15; done) | (exact vot_df hp13 hp16 hc17; done) | (exact absurd (vot_ok0 hp14) hp15; done) | (exact vot_sm hp14 hc16; done) | (exact vot_df hp14 hp17 hc18; done) | (exact absurd (vot_ok0 hp15) hp16; done) | (exact vot_sm hp15 hc17; done) | (exact vot_df hp15 hp18 hc19; done) | (exact absurd (vot_ok0 hp16) hp17; done) | (exact vot_sm hp16 hc18; done) | (exact vot_df hp16 hp19 hc20; done) | (exact absurd (vot_ok0 hp17) hp18; done) | (exact vot_sm hp17 hc19; done) | (exact vot_df hp17 hp20 hc21; done) | (exact absurd (vot_ok0 hp18) hp19; done) | (exact vot_sm hp18 hc20; done) | (exact vot_df hp18 hp21 hc22; done) | (exact absurd (vot_ok0 hp19) hp20; done) | (exact vot_sm hp19 hc21; done) | (exact vot_df hp19 hp22 hc23; done) | (exact absurd (vot_ok0 hp20) hp21; done) | (exact vot_sm hp20 hc22; done) | (exact vot_df hp20 hp23 hc24; done) | (exact absurd (vot_ok0 hp21) hp22; done) | (exact vot_sm hp21 hc23; done) | (exact vot_df hp21 hp24 hc25; done) | (exact absurd (vot_ok0 hp22) hp23; done) | (exact vot_sm hp22 hc24; done) | (exact vot_df hp22 hp25 hc26; done) | (exact absurd (vot_ok0 hp23) hp24; done) | (exact vot_sm hp23 hc25; done) | (exact vot_df hp23 hp26 hc27; done) | (exact absurd (vot_ok0 hp24) hp25; done) | (exact vot_sm hp24 hc26; done) | (exact vot_df hp24 hp27 hc28; done) | (exact absurd (vot_ok0 hp25) hp26; done) | (exact vot_sm hp25 hc27; done) | (exact vot_df hp25 hp28 hc29; done) | (with_reducible rfl; done) | (omega; done) | (simp_all; done)) _ _), zb⟩
    rcases bdich (!(sameV (decV (if vt.bad then [] else vt.bytes)) vt)) with hc18 | hc18
    · refine Run.open 23 (Φ := [.ex (i64 (if decVOk (if vt.bad then [] else vt.bytes) then 0 else 3)), .ex (.bool (decide ((if decVOk (if vt.bad then [] else vt.bytes) then 0 else 3 : Int) ≠ (0 : Int)))), .ex (.bool (decide ((if decVOk (if vt.bad then [] else vt.bytes) then 0 else 3 : Int) ≠ (0 : Int)))), .ex (.agg #[i64 ((decV (if vt.bad then [] else vt.bytes)).kind), i64 ((decV (if vt.bad then [] else vt.bytes)).from_), i64 ((decV (if vt.bad then [] else vt.bytes)).slot), i64 ((decV (if vt.bad then [] else vt.bytes)).view), i64 ((decV (if vt.bad then [] else vt.bytes)).valid), .slice A909 (List.length (decV (if vt.bad then [] else vt.bytes)).value) c910]), .ex (.agg #[i64 vt.kind, i64 vt.from_, i64 vt.slot, i64 vt.view, i64 vt.valid, .slice A25 (List.length vt.value) c26]), .v (Is (.bool (sameV (decV (if vt.bad then [] else vt.bytes)) vt))), .ex (.bool (!(sameV (decV (if vt.bad then [] else vt.bytes)) vt))), .ex (.bool (!(sameV (decV (if vt.bad then [] else vt.bytes)) vt))), .ex (.bool (!(sameV (decV (if vt.bad then [] else vt.bytes)) vt))), .ex undef, .ex undef, .ex undef, .ex undef, .ex undef, .ex undef, .ex undef, .ex undef, .ex undef, .ex undef, .ex undef, .ex undef, .ex undef, .ex (.bool true)]) [(22, 235)] mixed (by kernel_rfl) rfl h935 ⟨(oX [] rfl rfl rfl fun _ _ => Does.move rfl), (oX [(0, 213)] rfl rfl rfl fun _ _ => Does.neq rfl rfl), (oX [(1, 214)] rfl rfl rfl fun _ _ => Does.move rfl), ?_, ?_, ?_, ?_, (oX [(2, 215), (6, 219)] rfl rfl rfl fun _ _ => Does.pick_b rfl (decide_eq_false hp17) rfl), (oX [(7, 220)] rfl rfl rfl fun _ _ => Does.move rfl), (oOff rfl rfl rfl rfl hc18 rfl rfl), (oOff rfl rfl rfl rfl hc18 rfl rfl), (oOff rfl rfl rfl rfl hc18 rfl rfl), (oOffU rfl rfl rfl rfl rfl), (oOffU rfl rfl rfl rfl rfl), (oOffU rfl rfl rfl rfl rfl), (oOffU rfl rfl rfl rfl rfl), (oOffU rfl rfl rfl rfl rfl), (oOffU rfl rfl rfl rfl rfl), (oOffU rfl rfl rfl rfl rfl), (oOffU rfl rfl rfl rfl rfl), (oOffU rfl rfl rfl rfl rfl), (oOff rfl rfl rfl rfl hc18 rfl rfl), (oX [(8, 221)] rfl rfl rfl fun _ _ => Does.pick_b rfl hc18 rfl), trivial⟩ (fun L1089 w1090 h1091 s1092 => ?_)
      · refine oP_on [] rfl rfl rfl rfl (decide_eq_false hp17) rfl fun L1047 w1048 h1049 s1050 => ?_
        have c1052 := s934.trans s1050
        have o1051 := o920.up c1052
        exact ⟨_, Does.load_ownN [i64 ((decV (if vt.bad then [] else vt.bytes)).kind), i64 ((decV (if vt.bad then [] else vt.bytes)).from_), i64 ((decV (if vt.bad then [] else vt.bytes)).slot), i64 ((decV (if vt.bad then [] else vt.bytes)).view), i64 ((decV (if vt.bad then [] else vt.bytes)).valid), .slice A909 (List.length (decV (if vt.bad then [] else vt.bytes)).value) c910] o1051 ty24 rfl rfl, rfl⟩
      · refine oP_on [] rfl rfl rfl rfl (decide_eq_false hp17) rfl fun L1053 w1054 h1055 s1056 => ?_
        have c1058 := s934.trans s1056
        have c1059 := c926.trans c1058
        have o1057 := o881.up c1059
        exact ⟨_, Does.load_ownN [i64 vt.kind, i64 vt.from_, i64 vt.slot, i64 vt.view, i64 vt.valid, .slice A25 (List.length vt.value) c26] o1057 ty24 rfl rfl, rfl⟩
      · refine oC_on [(3, 216), (4, 217)] rfl rfl rfl rfl (decide_eq_false hp17) rfl cal29 fun L1060 w1061 h1062 s1063 => ?_
        have c1065 := s934.trans s1063
        have c1066 := c924.trans c1065
        have q1067 := up c1066 q911
        have q1064 : VoteV (decV (if vt.bad then [] else vt.bytes)) L1060 w1061 (.agg #[i64 ((decV (if vt.bad then [] else vt.bytes)).kind), i64 ((decV (if vt.bad then [] else vt.bytes)).from_), i64 ((decV (if vt.bad then [] else vt.bytes)).slot), i64 ((decV (if vt.bad then [] else vt.bytes)).view), i64 ((decV (if vt.bad then [] else vt.bytes)).valid), .slice A909 (List.length (decV (if vt.bad then [] else vt.bytes)).value) c910]) := VoteV.mk q1067
        have c1069 := c926.trans c1065
        have q1070 := up c1069 q887
        have q1068 : VoteV vt L1060 w1061 (.agg #[i64 vt.kind, i64 vt.from_, i64 vt.slot, i64 vt.view, i64 vt.valid, .slice A25 (List.length vt.value) c26]) := VoteV.mk q1070
        exact ⟨_, rfl, (wire_Same h1062 q1064 q1068)⟩
      · refine oP_on [(5, 218)] rfl rfl rfl rfl (decide_eq_false hp17) rfl fun L1071 w1072 h1073 s1074 v1075 q1076 => ?_
        have q1076 := Is.out q1076; subst q1076
        exact ⟨_, Does.not rfl, rfl⟩
      refine Seq.next ?_
      refine Run.cond_b rfl rfl ?_
      refine rsr ?_
      refine sv (Does.assign rfl) ?_
      refine Seq.next ?_
      have c1093 := s934.trans s1092
      have c1094 := c929.trans c1093
      obtain ⟨⟨zU, zo⟩, zb⟩ := hX c1094 (by decide)
      refine Run.ret (ret_then ?_)
      exact post_one Try.results6 rfl ⟨_, rfl, (isBool (by first | (exact absurd (ent_ok0 hp5) hp6; done) | (exact absurd (ent_no0 hp5) hp7; done) | (exact absurd (ent_all0 hp5) hp8; done) | (exact absurd (congrArg EntryD.kind (ent_back hp5).2.2) hp9; done) | (exact absurd (congrArg EntryD.author (ent_back hp5).2.2) hp10; done) | (exact absurd (congrArg EntryD.epoch (ent_back hp5).2.2) hp11; done) | (exact absurd (congrArg (fun e : EntryD => ((List.length e.nums : Nat) : Int)) (ent_back hp5).2.2) hp12; done) | (exact absurd (congrArg (fun e : EntryD => ((List.length e.texts : Nat) : Int)) (ent_back hp5).2.2) hp13; done) | (exact absurd (congrArg EntryD.kind (ent_same hp5 hp14 hp15)) hp16; done) | (exact absurd (congrArg EntryD.author (ent_same hp5 hp14 hp15)) hp17; done) | (exact absurd (congrArg EntryD.epoch (ent_same hp5 hp14 hp15)) hp18; done) | (exact absurd (congrArg EntryD.peer (ent_same hp5 hp14 hp15)) hp19; done) | (exact absurd (congrArg EntryD.phase (ent_same hp5 hp14 hp15)) hp20; done) | (exact absurd (congrArg EntryD.mode (ent_same hp5 hp14 hp15)) hp21; done) | (exact absurd (congrArg EntryD.proof (ent_same hp5 hp14 hp15)) hp22; done) | (exact absurd (vot_ok0 hp6) hp7; done) | (exact vot_sm hp6 hc8; done) | (exact vot_df hp6 hp9 hc10; done) | (exact absurd (vot_ok0 hp7) hp8; done) | (exact vot_sm hp7 hc9; done) | (exact vot_df hp7 hp10 hc11; done) | (exact absurd (vot_ok0 hp8) hp9; done) | (exact vot_sm hp8 hc10; done) | (exact vot_df hp8 hp11 hc12; done) | (exact absurd (vot_ok0 hp9) hp10; done) | (exact vot_sm hp9 hc11; done) | (exact vot_df hp9 hp12 hc13; done) | (exact absurd (vot_ok0 hp10) hp11; done) | (exact vot_sm hp10 hc12; done) | (exact vot_df hp10 hp13 hc14; done) | (exact absurd (vot_ok0 hp11) hp12; done) | (exact vot_sm hp11 hc13; done) | (exact vot_df hp11 hp14 hc15; done) | (exact absurd (vot_ok0 hp12) hp13; done) | (exact vot_sm hp12 hc14; done) | (exact vot_df hp12 hp15 hc16; done) | (exact absurd (vot_ok0 hp13) hp14; done) | (exact vot_sm hp13 hc15; done) | (exact vot_df hp13 hp16 hc17; done) | (exact absurd (vot_ok0 hp14) hp15; done) | (exact vot_sm hp14 hc16; done) | (exact vot_df hp14 hp17 hc18; done) | (exact absurd (vot_ok0 hp15) hp16; done) | (exact vot_sm hp15 hc17; done) | (exact vot_df hp15 hp18 hc19; done) | (exact absurd (vot_ok0 hp16) hp17; done) | (exact vot_sm hp16 hc18; done) | (exact vot_df hp16 hp19 hc20; done) | (exact absurd (vot_ok0 hp17) hp18; done) | (exact vot_sm hp17 hc19; done) | (exact vot_df hp17 hp20 hc21; done) | (exact absurd (vot_ok0 hp18) hp19; done) | (exact vot_sm hp18 hc20; done) | (exact vot_df hp18 hp21 hc22; done) | (exact absurd (vot_ok0 hp19) hp20; done) | (exact vot_sm hp19 hc21; done) | (exact vot_df hp19 hp22 hc23; done) | (exact absurd (vot_ok0 hp20) hp21; done) | (exact vot_sm hp20 hc22; done) | (exact vot_df hp20 hp23 hc24; done) | (exact absurd (vot_ok0 hp21) hp22; done) | (exact vot_sm hp21 hc23; done) | (exact vot_df hp21 hp24 hc25; done) | (exact absurd (vot_ok0 hp22) hp23; done) | (exact vot_sm hp22 hc24; done) | (exact vot_df hp22 hp25 hc26; done) | (exact absurd (vot_ok0 hp23) hp24; done) | (exact vot_sm hp23 hc25; done) | (exact vot_df hp23 hp26 hc27; done) | (exact absurd (vot_ok0 hp24) hp25; done) | (exact vot_sm hp24 hc26; done) | (exact vot_df hp24 hp27 hc28; done) | (exact absurd (vot_ok0 hp25) hp26; done) | (exact vot_sm hp25 hc27; done) | (exact vot_df hp25 hp28 hc29; done) | (with_reducible rfl; done) | (omega; done) | (simp_all; done)) _ _), zb⟩
    rcases Decidable.em ((if vu.bad then 3 else 0 : Int) = (0 : Int)) with hp19 | hp19
    rotate_left
    · refine Run.open 23 (Φ := [.ex (i64 (if decVOk (if vt.bad then [] else vt.bytes) then 0 else 3)), .ex (.bool (decide ((if decVOk (if vt.bad then [] else vt.bytes) then 0 else 3 : Int) ≠ (0 : Int)))), .ex (.bool (decide ((if decVOk (if vt.bad then [] else vt.bytes) then 0 else 3 : Int) ≠ (0 : Int)))), .ex (.agg #[i64 ((decV (if vt.bad then [] else vt.bytes)).kind), i64 ((decV (if vt.bad then [] else vt.bytes)).from_), i64 ((decV (if vt.bad then [] else vt.bytes)).slot), i64 ((decV (if vt.bad then [] else vt.bytes)).view), i64 ((decV (if vt.bad then [] else vt.bytes)).valid), .slice A909 (List.length (decV (if vt.bad then [] else vt.bytes)).value) c910]), .ex (.agg #[i64 vt.kind, i64 vt.from_, i64 vt.slot, i64 vt.view, i64 vt.valid, .slice A25 (List.length vt.value) c26]), .v (Is (.bool (sameV (decV (if vt.bad then [] else vt.bytes)) vt))), .ex (.bool (!(sameV (decV (if vt.bad then [] else vt.bytes)) vt))), .ex (.bool (!(sameV (decV (if vt.bad then [] else vt.bytes)) vt))), .ex (.bool (!(sameV (decV (if vt.bad then [] else vt.bytes)) vt))), .ex (i64 (if vu.bad then 3 else 0)), .ex (.bool (decide ((if vu.bad then 3 else 0 : Int) = (0 : Int)))), .ex (.bool (decide ((if vu.bad then 3 else 0 : Int) = (0 : Int)))), .ex undef, .ex undef, .ex undef, .ex undef, .ex undef, .ex undef, .ex undef, .ex undef, .ex undef, .ex (.bool false), .ex (.bool false)]) [(22, 235)] mixed (by kernel_rfl) rfl h935 ⟨(oX [] rfl rfl rfl fun _ _ => Does.move rfl), (oX [(0, 213)] rfl rfl rfl fun _ _ => Does.neq rfl rfl), (oX [(1, 214)] rfl rfl rfl fun _ _ => Does.move rfl), ?_, ?_, ?_, ?_, (oX [(2, 215), (6, 219)] rfl rfl rfl fun _ _ => Does.pick_b rfl (decide_eq_false hp17) rfl), (oX [(7, 220)] rfl rfl rfl fun _ _ => Does.move rfl), ?_, ?_, ?_, (oOff rfl rfl rfl rfl (decide_eq_false hp19) rfl rfl), (oOff rfl rfl rfl rfl (decide_eq_false hp19) rfl rfl), (oOff rfl rfl rfl rfl (decide_eq_false hp19) rfl rfl), (oOff rfl rfl rfl rfl (decide_eq_false hp19) rfl rfl), (oOff rfl rfl rfl rfl (decide_eq_false hp19) rfl rfl), (oOff rfl rfl rfl rfl (decide_eq_false hp19) rfl rfl), (oOff rfl rfl rfl rfl (decide_eq_false hp19) rfl rfl), (oOff rfl rfl rfl rfl (decide_eq_false hp19) rfl rfl), (oOff rfl rfl rfl rfl (decide_eq_false hp19) rfl rfl), ?_, (oX [(8, 221), (21, 234)] rfl rfl rfl fun _ _ => Does.pick_b rfl hc18 rfl), trivial⟩ (fun L1358 w1359 h1360 s1361 => ?_)
      · refine oP_on [] rfl rfl rfl rfl (decide_eq_false hp17) rfl fun L1300 w1301 h1302 s1303 => ?_
        have c1305 := s934.trans s1303
        have o1304 := o920.up c1305
        exact ⟨_, Does.load_ownN [i64 ((decV (if vt.bad then [] else vt.bytes)).kind), i64 ((decV (if vt.bad then [] else vt.bytes)).from_), i64 ((decV (if vt.bad then [] else vt.bytes)).slot), i64 ((decV (if vt.bad then [] else vt.bytes)).view), i64 ((decV (if vt.bad then [] else vt.bytes)).valid), .slice A909 (List.length (decV (if vt.bad then [] else vt.bytes)).value) c910] o1304 ty24 rfl rfl, rfl⟩
      · refine oP_on [] rfl rfl rfl rfl (decide_eq_false hp17) rfl fun L1306 w1307 h1308 s1309 => ?_
        have c1311 := s934.trans s1309
        have c1312 := c926.trans c1311
        have o1310 := o881.up c1312
        exact ⟨_, Does.load_ownN [i64 vt.kind, i64 vt.from_, i64 vt.slot, i64 vt.view, i64 vt.valid, .slice A25 (List.length vt.value) c26] o1310 ty24 rfl rfl, rfl⟩
      · refine oC_on [(3, 216), (4, 217)] rfl rfl rfl rfl (decide_eq_false hp17) rfl cal29 fun L1313 w1314 h1315 s1316 => ?_
        have c1318 := s934.trans s1316
        have c1319 := c924.trans c1318
        have q1320 := up c1319 q911
        have q1317 : VoteV (decV (if vt.bad then [] else vt.bytes)) L1313 w1314 (.agg #[i64 ((decV (if vt.bad then [] else vt.bytes)).kind), i64 ((decV (if vt.bad then [] else vt.bytes)).from_), i64 ((decV (if vt.bad then [] else vt.bytes)).slot), i64 ((decV (if vt.bad then [] else vt.bytes)).view), i64 ((decV (if vt.bad then [] else vt.bytes)).valid), .slice A909 (List.length (decV (if vt.bad then [] else vt.bytes)).value) c910]) := VoteV.mk q1320
        have c1322 := c926.trans c1318
        have q1323 := up c1322 q887
        have q1321 : VoteV vt L1313 w1314 (.agg #[i64 vt.kind, i64 vt.from_, i64 vt.slot, i64 vt.view, i64 vt.valid, .slice A25 (List.length vt.value) c26]) := VoteV.mk q1323
        exact ⟨_, rfl, (wire_Same h1315 q1317 q1321)⟩
      · refine oP_on [(5, 218)] rfl rfl rfl rfl (decide_eq_false hp17) rfl fun L1324 w1325 h1326 s1327 v1328 q1329 => ?_
        have q1329 := Is.out q1329; subst q1329
        exact ⟨_, Does.not rfl, rfl⟩
      · refine oP_on [] rfl rfl rfl rfl hc18 rfl fun L1338 w1339 h1340 s1341 => ?_
        exact ⟨_, Does.move rfl, rfl⟩
      · refine oP_on [(9, 222)] rfl rfl rfl rfl hc18 rfl fun L1342 w1343 h1344 s1345 => ?_
        exact ⟨_, Does.eql rfl rfl, rfl⟩
      · refine oP_on [(10, 223)] rfl rfl rfl rfl hc18 rfl fun L1346 w1347 h1348 s1349 => ?_
        exact ⟨_, Does.move rfl, rfl⟩
      · refine oP_on [(11, 224)] rfl rfl rfl rfl hc18 rfl fun L1350 w1351 h1352 s1353 => ?_
        exact ⟨_, Does.pick_b rfl (decide_eq_false hp19) rfl, rfl⟩
      refine Seq.next ?_
      refine Run.cond_b rfl rfl ?_
      refine Run.skip_go (fun _ _ h => h) ?_
      refine rsr ?_
      refine sv (Does.assign rfl) ?_
      refine Seq.next ?_
      have c1362 := s934.trans s1361
      have c1363 := c929.trans c1362
      obtain ⟨⟨zU, zo⟩, zb⟩ := hX c1363 (by decide)
      refine Run.ret ?_
      exact post_one Try.results6 rfl ⟨_, rfl, rfl, zb⟩
    refine Run.open 23 (Φ := [.ex (i64 (if decVOk (if vt.bad then [] else vt.bytes) then 0 else 3)), .ex (.bool (decide ((if decVOk (if vt.bad then [] else vt.bytes) then 0 else 3 : Int) ≠ (0 : Int)))), .ex (.bool (decide ((if decVOk (if vt.bad then [] else vt.bytes) then 0 else 3 : Int) ≠ (0 : Int)))), .ex (.agg #[i64 ((decV (if vt.bad then [] else vt.bytes)).kind), i64 ((decV (if vt.bad then [] else vt.bytes)).from_), i64 ((decV (if vt.bad then [] else vt.bytes)).slot), i64 ((decV (if vt.bad then [] else vt.bytes)).view), i64 ((decV (if vt.bad then [] else vt.bytes)).valid), .slice A909 (List.length (decV (if vt.bad then [] else vt.bytes)).value) c910]), .ex (.agg #[i64 vt.kind, i64 vt.from_, i64 vt.slot, i64 vt.view, i64 vt.valid, .slice A25 (List.length vt.value) c26]), .v (Is (.bool (sameV (decV (if vt.bad then [] else vt.bytes)) vt))), .ex (.bool (!(sameV (decV (if vt.bad then [] else vt.bytes)) vt))), .ex (.bool (!(sameV (decV (if vt.bad then [] else vt.bytes)) vt))), .ex (.bool (!(sameV (decV (if vt.bad then [] else vt.bytes)) vt))), .ex (i64 (if vu.bad then 3 else 0)), .ex (.bool (decide ((if vu.bad then 3 else 0 : Int) = (0 : Int)))), .ex (.bool (decide ((if vu.bad then 3 else 0 : Int) = (0 : Int)))), .ex (.slice A940 (List.length (if vu.bad then [] else vu.bytes)) c941), .ex (str (if vu.bad then [] else vu.bytes)), .ex (.slice A897 (List.length (if vt.bad then [] else vt.bytes)) c898), .ex (str (if vt.bad then [] else vt.bytes)), .ex (.bool (decide ((if vu.bad then [] else vu.bytes) = (if vt.bad then [] else vt.bytes)))), .ex (.agg #[i64 vu.kind, i64 vu.from_, i64 vu.slot, i64 vu.view, i64 vu.valid, .slice A29 (List.length vu.value) c30]), .ex (.agg #[i64 vt.kind, i64 vt.from_, i64 vt.slot, i64 vt.view, i64 vt.valid, .slice A25 (List.length vt.value) c26]), .v (Is (.bool (sameV vu vt))), .ex (.bool (!((decide ((if vu.bad then [] else vu.bytes) = (if vt.bad then [] else vt.bytes))) == (sameV vu vt)))), .ex (.bool (!((decide ((if vu.bad then [] else vu.bytes) = (if vt.bad then [] else vt.bytes))) == (sameV vu vt)))), .ex (.bool (!((decide ((if vu.bad then [] else vu.bytes) = (if vt.bad then [] else vt.bytes))) == (sameV vu vt))))]) [(22, 235)] mixed (by kernel_rfl) rfl h935 ⟨(oX [] rfl rfl rfl fun _ _ => Does.move rfl), (oX [(0, 213)] rfl rfl rfl fun _ _ => Does.neq rfl rfl), (oX [(1, 214)] rfl rfl rfl fun _ _ => Does.move rfl), ?_, ?_, ?_, ?_, (oX [(2, 215), (6, 219)] rfl rfl rfl fun _ _ => Does.pick_b rfl (decide_eq_false hp17) rfl), (oX [(7, 220)] rfl rfl rfl fun _ _ => Does.move rfl), ?_, ?_, ?_, ?_, ?_, ?_, ?_, ?_, ?_, ?_, ?_, ?_, ?_, (oX [(8, 221), (21, 234)] rfl rfl rfl fun _ _ => Does.pick_b rfl hc18 rfl), trivial⟩ (fun L1280 w1281 h1282 s1283 => ?_)
    · refine oP_on [] rfl rfl rfl rfl (decide_eq_false hp17) rfl fun L1169 w1170 h1171 s1172 => ?_
      have c1174 := s934.trans s1172
      have o1173 := o920.up c1174
      exact ⟨_, Does.load_ownN [i64 ((decV (if vt.bad then [] else vt.bytes)).kind), i64 ((decV (if vt.bad then [] else vt.bytes)).from_), i64 ((decV (if vt.bad then [] else vt.bytes)).slot), i64 ((decV (if vt.bad then [] else vt.bytes)).view), i64 ((decV (if vt.bad then [] else vt.bytes)).valid), .slice A909 (List.length (decV (if vt.bad then [] else vt.bytes)).value) c910] o1173 ty24 rfl rfl, rfl⟩
    · refine oP_on [] rfl rfl rfl rfl (decide_eq_false hp17) rfl fun L1175 w1176 h1177 s1178 => ?_
      have c1180 := s934.trans s1178
      have c1181 := c926.trans c1180
      have o1179 := o881.up c1181
      exact ⟨_, Does.load_ownN [i64 vt.kind, i64 vt.from_, i64 vt.slot, i64 vt.view, i64 vt.valid, .slice A25 (List.length vt.value) c26] o1179 ty24 rfl rfl, rfl⟩
    · refine oC_on [(3, 216), (4, 217)] rfl rfl rfl rfl (decide_eq_false hp17) rfl cal29 fun L1182 w1183 h1184 s1185 => ?_
      have c1187 := s934.trans s1185
      have c1188 := c924.trans c1187
      have q1189 := up c1188 q911
      have q1186 : VoteV (decV (if vt.bad then [] else vt.bytes)) L1182 w1183 (.agg #[i64 ((decV (if vt.bad then [] else vt.bytes)).kind), i64 ((decV (if vt.bad then [] else vt.bytes)).from_), i64 ((decV (if vt.bad then [] else vt.bytes)).slot), i64 ((decV (if vt.bad then [] else vt.bytes)).view), i64 ((decV (if vt.bad then [] else vt.bytes)).valid), .slice A909 (List.length (decV (if vt.bad then [] else vt.bytes)).value) c910]) := VoteV.mk q1189
      have c1191 := c926.trans c1187
      have q1192 := up c1191 q887
      have q1190 : VoteV vt L1182 w1183 (.agg #[i64 vt.kind, i64 vt.from_, i64 vt.slot, i64 vt.view, i64 vt.valid, .slice A25 (List.length vt.value) c26]) := VoteV.mk q1192
      exact ⟨_, rfl, (wire_Same h1184 q1186 q1190)⟩
    · refine oP_on [(5, 218)] rfl rfl rfl rfl (decide_eq_false hp17) rfl fun L1193 w1194 h1195 s1196 v1197 q1198 => ?_
      have q1198 := Is.out q1198; subst q1198
      exact ⟨_, Does.not rfl, rfl⟩
    · refine oP_on [] rfl rfl rfl rfl hc18 rfl fun L1207 w1208 h1209 s1210 => ?_
      exact ⟨_, Does.move rfl, rfl⟩
    · refine oP_on [(9, 222)] rfl rfl rfl rfl hc18 rfl fun L1211 w1212 h1213 s1214 => ?_
      exact ⟨_, Does.eql rfl rfl, rfl⟩
    · refine oP_on [(10, 223)] rfl rfl rfl rfl hc18 rfl fun L1215 w1216 h1217 s1218 => ?_
      exact ⟨_, Does.move rfl, rfl⟩
    · refine oP_on [] rfl rfl rfl rfl (decide_eq_true hp19) rfl fun L1219 w1220 h1221 s1222 => ?_
      exact ⟨_, Does.move rfl, rfl⟩
    · refine oP_on [(12, 225)] rfl rfl rfl rfl (decide_eq_true hp19) rfl fun L1223 w1224 h1225 s1226 => ?_
      have q1227 := up s1226 q938
      exact ⟨_, Does.conv_str Try.underlying22 Try.underlying5 Try.underlying9 rfl q1227, rfl⟩
    · refine oP_on [] rfl rfl rfl rfl (decide_eq_true hp19) rfl fun L1228 w1229 h1230 s1231 => ?_
      exact ⟨_, Does.move rfl, rfl⟩
    · refine oP_on [(14, 227)] rfl rfl rfl rfl (decide_eq_true hp19) rfl fun L1232 w1233 h1234 s1235 => ?_
      have c1236 := s934.trans s1235
      have c1237 := c925.trans c1236
      have q1238 := up c1237 q895
      exact ⟨_, Does.conv_str Try.underlying22 Try.underlying5 Try.underlying9 rfl q1238, rfl⟩
    · refine oP_on [(13, 226), (15, 228)] rfl rfl rfl rfl (decide_eq_true hp19) rfl fun L1239 w1240 h1241 s1242 => ?_
      exact ⟨_, Does.str_eql rfl rfl, rfl⟩
    · refine oP_on [] rfl rfl rfl rfl (decide_eq_true hp19) rfl fun L1243 w1244 h1245 s1246 => ?_
      have c1248 := s934.trans s1246
      have o1247 := o923.up c1248
      exact ⟨_, Does.load_ownN [i64 vu.kind, i64 vu.from_, i64 vu.slot, i64 vu.view, i64 vu.valid, .slice A29 (List.length vu.value) c30] o1247 ty24 rfl rfl, rfl⟩
    · refine oP_on [] rfl rfl rfl rfl (decide_eq_true hp19) rfl fun L1249 w1250 h1251 s1252 => ?_
      have c1254 := s934.trans s1252
      have c1255 := c926.trans c1254
      have o1253 := o881.up c1255
      exact ⟨_, Does.load_ownN [i64 vt.kind, i64 vt.from_, i64 vt.slot, i64 vt.view, i64 vt.valid, .slice A25 (List.length vt.value) c26] o1253 ty24 rfl rfl, rfl⟩
    · refine oC_on [(17, 230), (18, 231)] rfl rfl rfl rfl (decide_eq_true hp19) rfl cal29 fun L1256 w1257 h1258 s1259 => ?_
      have c1261 := s934.trans s1259
      have q1262 := up c1261 q930
      have q1260 : VoteV vu L1256 w1257 (.agg #[i64 vu.kind, i64 vu.from_, i64 vu.slot, i64 vu.view, i64 vu.valid, .slice A29 (List.length vu.value) c30]) := VoteV.mk q1262
      have c1264 := c926.trans c1261
      have q1265 := up c1264 q887
      have q1263 : VoteV vt L1256 w1257 (.agg #[i64 vt.kind, i64 vt.from_, i64 vt.slot, i64 vt.view, i64 vt.valid, .slice A25 (List.length vt.value) c26]) := VoteV.mk q1265
      exact ⟨_, rfl, (wire_Same h1258 q1260 q1263)⟩
    · refine oP_on [(16, 229), (19, 232)] rfl rfl rfl rfl (decide_eq_true hp19) rfl fun L1266 w1267 h1268 s1269 v1270 q1271 => ?_
      have q1271 := Is.out q1271; subst q1271
      exact ⟨_, Does.bool_neq Try.underlying4 rfl rfl, rfl⟩
    · refine oP_on [(11, 224), (20, 233)] rfl rfl rfl rfl hc18 rfl fun L1272 w1273 h1274 s1275 => ?_
      exact ⟨_, Does.pick_b rfl (decide_eq_true hp19) rfl, rfl⟩
    refine Seq.next ?_
    rcases bdich (!((decide ((if vu.bad then [] else vu.bytes) = (if vt.bad then [] else vt.bytes))) == (sameV vu vt))) with hc20 | hc20
    rotate_left
    · refine Run.cond_b rfl hc20 ?_
      refine Run.skip_go (fun _ _ h => h) ?_
      refine rsr ?_
      refine sv (Does.assign rfl) ?_
      refine Seq.next ?_
      have c1286 := s934.trans s1283
      have c1287 := c929.trans c1286
      obtain ⟨⟨zU, zo⟩, zb⟩ := hX c1287 (by decide)
      refine Run.ret ?_
      exact post_one Try.results6 rfl ⟨_, rfl, rfl, zb⟩
    refine Run.cond_b rfl hc20 ?_
    refine rsr ?_
    refine sv (Does.assign rfl) ?_
    refine Seq.next ?_
    have c1284 := s934.trans s1283
    have c1285 := c929.trans c1284
    obtain ⟨⟨zU, zo⟩, zb⟩ := hX c1285 (by decide)
    refine Run.ret (ret_then ?_)
    exact post_one Try.results6 rfl ⟨_, rfl, (isBool (by first | (exact absurd (ent_ok0 hp5) hp6; done) | (exact absurd (ent_no0 hp5) hp7; done) | (exact absurd (ent_all0 hp5) hp8; done) | (exact absurd (congrArg EntryD.kind (ent_back hp5).2.2) hp9; done) | (exact absurd (congrArg EntryD.author (ent_back hp5).2.2) hp10; done) | (exact absurd (congrArg EntryD.epoch (ent_back hp5).2.2) hp11; done) | (exact absurd (congrArg (fun e : EntryD => ((List.length e.nums : Nat) : Int)) (ent_back hp5).2.2) hp12; done) | (exact absurd (congrArg (fun e : EntryD => ((List.length e.texts : Nat) : Int)) (ent_back hp5).2.2) hp13; done) | (exact absurd (congrArg EntryD.kind (ent_same hp5 hp14 hp15)) hp16; done) | (exact absurd (congrArg EntryD.author (ent_same hp5 hp14 hp15)) hp17; done) | (exact absurd (congrArg EntryD.epoch (ent_same hp5 hp14 hp15)) hp18; done) | (exact absurd (congrArg EntryD.peer (ent_same hp5 hp14 hp15)) hp19; done) | (exact absurd (congrArg EntryD.phase (ent_same hp5 hp14 hp15)) hp20; done) | (exact absurd (congrArg EntryD.mode (ent_same hp5 hp14 hp15)) hp21; done) | (exact absurd (congrArg EntryD.proof (ent_same hp5 hp14 hp15)) hp22; done) | (exact absurd (vot_ok0 hp6) hp7; done) | (exact vot_sm hp6 hc8; done) | (exact vot_df hp6 hp9 hc10; done) | (exact absurd (vot_ok0 hp7) hp8; done) | (exact vot_sm hp7 hc9; done) | (exact vot_df hp7 hp10 hc11; done) | (exact absurd (vot_ok0 hp8) hp9; done) | (exact vot_sm hp8 hc10; done) | (exact vot_df hp8 hp11 hc12; done) | (exact absurd (vot_ok0 hp9) hp10; done) | (exact vot_sm hp9 hc11; done) | (exact vot_df hp9 hp12 hc13; done) | (exact absurd (vot_ok0 hp10) hp11; done) | (exact vot_sm hp10 hc12; done) | (exact vot_df hp10 hp13 hc14; done) | (exact absurd (vot_ok0 hp11) hp12; done) | (exact vot_sm hp11 hc13; done) | (exact vot_df hp11 hp14 hc15; done) | (exact absurd (vot_ok0 hp12) hp13; done) | (exact vot_sm hp12 hc14; done) | (exact vot_df hp12 hp15 hc16; done) | (exact absurd (vot_ok0 hp13) hp14; done) | (exact vot_sm hp13 hc15; done) | (exact vot_df hp13 hp16 hc17; done) | (exact absurd (vot_ok0 hp14) hp15; done) | (exact vot_sm hp14 hc16; done) | (exact vot_df hp14 hp17 hc18; done) | (exact absurd (vot_ok0 hp15) hp16; done) | (exact vot_sm hp15 hc17; done) | (exact vot_df hp15 hp18 hc19; done) | (exact absurd (vot_ok0 hp16) hp17; done) | (exact vot_sm hp16 hc18; done) | (exact vot_df hp16 hp19 hc20; done) | (exact absurd (vot_ok0 hp17) hp18; done) | (exact vot_sm hp17 hc19; done) | (exact vot_df hp17 hp20 hc21; done) | (exact absurd (vot_ok0 hp18) hp19; done) | (exact vot_sm hp18 hc20; done) | (exact vot_df hp18 hp21 hc22; done) | (exact absurd (vot_ok0 hp19) hp20; done) | (exact vot_sm hp19 hc21; done) | (exact vot_df hp19 hp22 hc23; done) | (exact absurd (vot_ok0 hp20) hp21; done) | (exact vot_sm hp20 hc22; done) | (exact vot_df hp20 hp23 hc24; done) | (exact absurd (vot_ok0 hp21) hp22; done) | (exact vot_sm hp21 hc23; done) | (exact vot_df hp21 hp24 hc25; done) | (exact absurd (vot_ok0 hp22) hp23; done) | (exact vot_sm hp22 hc24; done) | (exact vot_df hp22 hp25 hc26; done) | (exact absurd (vot_ok0 hp23) hp24; done) | (exact vot_sm hp23 hc25; done) | (exact vot_df hp23 hp26 hc27; done) | (exact absurd (vot_ok0 hp24) hp25; done) | (exact vot_sm hp24 hc26; done) | (exact vot_df hp24 hp27 hc28; done) | (exact absurd (vot_ok0 hp25) hp26; done) | (exact vot_sm hp25 hc27; done) | (exact vot_df hp25 hp28 hc29; done) | (with_reducible rfl; done) | (omega; done) | (simp_all; done)) _ _), zb⟩
  refine Seq.guard_on' rfl rfl (decide_eq_true hp15) ?_
  refine sv (Does.fieldAddr' 0 Try.underlying40 rfl ty3 rfl rfl) ?_
  refine Seq.guard_on' rfl rfl (decide_eq_true hp15) ?_
  have o373 := o317.up s330
  refine sv (Does.load_own1 o373 ty3 rfl rfl) ?_
  refine Seq.guard_on' rfl rfl (decide_eq_true hp15) ?_
  refine sv (Does.fieldAddr' 0 Try.underlying40 rfl ty3 rfl rfl) ?_
  refine Seq.guard_on' rfl rfl (decide_eq_true hp15) ?_
  refine sv (Does.load_own1 o356 ty3 rfl rfl) ?_
  refine Seq.guard_on' rfl rfl (decide_eq_true hp15) ?_
  refine sv (Does.neq rfl rfl) ?_
  refine Seq.guard_on' rfl rfl (decide_eq_true hp15) ?_
  refine sv (Does.move rfl) ?_
  rcases Decidable.em (((ofE po).kind : Int) ≠ ((ofE pl).kind : Int)) with hp16 | hp16
  · refine Seq.guard_off' rfl rfl (decide_eq_true hp16) rfl (by decide) ?_
    refine Seq.guard_off' rfl rfl (decide_eq_true hp16) rfl (by decide) ?_
    refine Seq.guard_off' rfl rfl (decide_eq_true hp16) rfl (by decide) ?_
    refine Seq.guard_off' rfl rfl (decide_eq_true hp16) rfl (by decide) ?_
    refine Seq.guard_off' rfl rfl (decide_eq_true hp16) rfl (by decide) ?_
    refine Seq.guard_on' rfl rfl (decide_eq_true hp15) ?_
    refine sv (Does.pick_b rfl (decide_eq_true hp16) rfl) ?_
    refine Seq.guard_on' rfl rfl (decide_eq_true hp15) ?_
    refine sv (Does.move rfl) ?_
    refine Seq.guard_off' rfl rfl rfl rfl (by decide) ?_
    refine Seq.guard_off' rfl rfl rfl rfl (by decide) ?_
    refine Seq.guard_off' rfl rfl rfl rfl (by decide) ?_
    refine Seq.guard_off' rfl rfl rfl rfl (by decide) ?_
    refine Seq.guard_off' rfl rfl rfl rfl (by decide) ?_
    refine Seq.guard_on' rfl rfl (decide_eq_true hp15) ?_
    refine sv (Does.pick_t rfl rfl) ?_
    refine Seq.guard_on' rfl rfl (decide_eq_true hp15) ?_
    refine sv (Does.move rfl) ?_
    refine Seq.guard_off' rfl rfl rfl rfl (by decide) ?_
    refine Seq.guard_off' rfl rfl rfl rfl (by decide) ?_
    refine Seq.guard_off' rfl rfl rfl rfl (by decide) ?_
    refine Seq.guard_off' rfl rfl rfl rfl (by decide) ?_
    refine Seq.guard_off' rfl rfl rfl rfl (by decide) ?_
    refine Seq.guard_on' rfl rfl (decide_eq_true hp15) ?_
    refine sv (Does.pick_t rfl rfl) ?_
    refine Seq.guard_on' rfl rfl (decide_eq_true hp15) ?_
    refine sv (Does.move rfl) ?_
    refine Seq.guard_off' rfl rfl rfl rfl (by decide) ?_
    refine Seq.guard_off' rfl rfl rfl rfl (by decide) ?_
    refine Seq.guard_off' rfl rfl rfl rfl (by decide) ?_
    refine Seq.guard_off' rfl rfl rfl rfl (by decide) ?_
    refine Seq.guard_off' rfl rfl rfl rfl (by decide) ?_
    refine Seq.guard_on' rfl rfl (decide_eq_true hp15) ?_
    refine sv (Does.pick_t rfl rfl) ?_
    refine Seq.guard_on' rfl rfl (decide_eq_true hp15) ?_
    refine sv (Does.move rfl) ?_
    refine Seq.guard_off' rfl rfl rfl rfl (by decide) ?_
    refine Seq.guard_off' rfl rfl rfl rfl (by decide) ?_
    refine Seq.guard_off' rfl rfl rfl rfl (by decide) ?_
    refine Seq.guard_off' rfl rfl rfl rfl (by decide) ?_
    refine Seq.guard_off' rfl rfl rfl rfl (by decide) ?_
    refine Seq.guard_on' rfl rfl (decide_eq_true hp15) ?_
    refine sv (Does.pick_t rfl rfl) ?_
    refine Seq.guard_on' rfl rfl (decide_eq_true hp15) ?_
    refine sv (Does.move rfl) ?_
    refine Seq.guard_off' rfl rfl rfl rfl (by decide) ?_
    refine Seq.guard_off' rfl rfl rfl rfl (by decide) ?_
    refine Seq.guard_off' rfl rfl rfl rfl (by decide) ?_
    refine Seq.guard_off' rfl rfl rfl rfl (by decide) ?_
    refine Seq.guard_off' rfl rfl rfl rfl (by decide) ?_
    refine Seq.guard_off' rfl rfl rfl rfl (by decide) ?_
    refine Seq.guard_off' rfl rfl rfl rfl (by decide) ?_
    refine Seq.guard_on' rfl rfl (decide_eq_true hp15) ?_
    refine sv (Does.pick_t rfl rfl) ?_
    refine sv (Does.pick_b rfl (decide_eq_true hp15) rfl) ?_
    refine Seq.next ?_
    refine Run.cond_b rfl rfl ?_
    refine rsr ?_
    refine sv (Does.assign rfl) ?_
    refine Seq.next ?_
    have c374 := c250.trans c357
    have c375 := c186.trans c374
    have c376 := c86.trans c375
    obtain ⟨⟨zU, zo⟩, zb⟩ := hX c376 (by decide)
    refine Run.ret (ret_then ?_)
    exact post_one Try.results6 rfl ⟨_, rfl, (isBool (by first | (exact absurd (ent_ok0 hp5) hp6; done) | (exact absurd (ent_no0 hp5) hp7; done) | (exact absurd (ent_all0 hp5) hp8; done) | (exact absurd (congrArg EntryD.kind (ent_back hp5).2.2) hp9; done) | (exact absurd (congrArg EntryD.author (ent_back hp5).2.2) hp10; done) | (exact absurd (congrArg EntryD.epoch (ent_back hp5).2.2) hp11; done) | (exact absurd (congrArg (fun e : EntryD => ((List.length e.nums : Nat) : Int)) (ent_back hp5).2.2) hp12; done) | (exact absurd (congrArg (fun e : EntryD => ((List.length e.texts : Nat) : Int)) (ent_back hp5).2.2) hp13; done) | (exact absurd (congrArg EntryD.kind (ent_same hp5 hp14 hp15)) hp16; done) | (exact absurd (congrArg EntryD.author (ent_same hp5 hp14 hp15)) hp17; done) | (exact absurd (congrArg EntryD.epoch (ent_same hp5 hp14 hp15)) hp18; done) | (exact absurd (congrArg EntryD.peer (ent_same hp5 hp14 hp15)) hp19; done) | (exact absurd (congrArg EntryD.phase (ent_same hp5 hp14 hp15)) hp20; done) | (exact absurd (congrArg EntryD.mode (ent_same hp5 hp14 hp15)) hp21; done) | (exact absurd (congrArg EntryD.proof (ent_same hp5 hp14 hp15)) hp22; done) | (exact absurd (vot_ok0 hp6) hp7; done) | (exact vot_sm hp6 hc8; done) | (exact vot_df hp6 hp9 hc10; done) | (exact absurd (vot_ok0 hp7) hp8; done) | (exact vot_sm hp7 hc9; done) | (exact vot_df hp7 hp10 hc11; done) | (exact absurd (vot_ok0 hp8) hp9; done) | (exact vot_sm hp8 hc10; done) | (exact vot_df hp8 hp11 hc12; done) | (exact absurd (vot_ok0 hp9) hp10; done) | (exact vot_sm hp9 hc11; done) | (exact vot_df hp9 hp12 hc13; done) | (exact absurd (vot_ok0 hp10) hp11; done) | (exact vot_sm hp10 hc12; done) | (exact vot_df hp10 hp13 hc14; done) | (exact absurd (vot_ok0 hp11) hp12; done) | (exact vot_sm hp11 hc13; done) | (exact vot_df hp11 hp14 hc15; done) | (exact absurd (vot_ok0 hp12) hp13; done) | (exact vot_sm hp12 hc14; done) | (exact vot_df hp12 hp15 hc16; done) | (exact absurd (vot_ok0 hp13) hp14; done) | (exact vot_sm hp13 hc15; done) | (exact vot_df hp13 hp16 hc17; done) | (exact absurd (vot_ok0 hp14) hp15; done) | (exact vot_sm hp14 hc16; done) | (exact vot_df hp14 hp17 hc18; done) | (exact absurd (vot_ok0 hp15) hp16; done) | (exact vot_sm hp15 hc17; done) | (exact vot_df hp15 hp18 hc19; done) | (exact absurd (vot_ok0 hp16) hp17; done) | (exact vot_sm hp16 hc18; done) | (exact vot_df hp16 hp19 hc20; done) | (exact absurd (vot_ok0 hp17) hp18; done) | (exact vot_sm hp17 hc19; done) | (exact vot_df hp17 hp20 hc21; done) | (exact absurd (vot_ok0 hp18) hp19; done) | (exact vot_sm hp18 hc20; done) | (exact vot_df hp18 hp21 hc22; done) | (exact absurd (vot_ok0 hp19) hp20; done) | (exact vot_sm hp19 hc21; done) | (exact vot_df hp19 hp22 hc23; done) | (exact absurd (vot_ok0 hp20) hp21; done) | (exact vot_sm hp20 hc22; done) | (exact vot_df hp20 hp23 hc24; done) | (exact absurd (vot_ok0 hp21) hp22; done) | (exact vot_sm hp21 hc23; done) | (exact vot_df hp21 hp24 hc25; done) | (exact absurd (vot_ok0 hp22) hp23; done) | (exact vot_sm hp22 hc24; done) | (exact vot_df hp22 hp25 hc26; done) | (exact absurd (vot_ok0 hp23) hp24; done) | (exact vot_sm hp23 hc25; done) | (exact vot_df hp23 hp26 hc27; done) | (exact absurd (vot_ok0 hp24) hp25; done) | (exact vot_sm hp24 hc26; done) | (exact vot_df hp24 hp27 hc28; done) | (exact absurd (vot_ok0 hp25) hp26; done) | (exact vot_sm hp25 hc27; done) | (exact vot_df hp25 hp28 hc29; done) | (with_reducible rfl; done) | (omega; done) | (simp_all; done)) _ _), zb⟩
  refine Seq.guard_on' rfl rfl (decide_eq_false hp16) ?_
  refine sv (Does.fieldAddr' 1 Try.underlying40 rfl ty3 rfl rfl) ?_
  refine Seq.guard_on' rfl rfl (decide_eq_false hp16) ?_
  refine sv (Does.load_own1 o373 ty3 rfl rfl) ?_
  refine Seq.guard_on' rfl rfl (decide_eq_false hp16) ?_
  refine sv (Does.fieldAddr' 1 Try.underlying40 rfl ty3 rfl rfl) ?_
  refine Seq.guard_on' rfl rfl (decide_eq_false hp16) ?_
  refine sv (Does.load_own1 o356 ty3 rfl rfl) ?_
  refine Seq.guard_on' rfl rfl (decide_eq_false hp16) ?_
  refine sv (Does.neq rfl rfl) ?_
  refine Seq.guard_on' rfl rfl (decide_eq_true hp15) ?_
  refine sv (Does.pick_b rfl (decide_eq_false hp16) rfl) ?_
  refine Seq.guard_on' rfl rfl (decide_eq_true hp15) ?_
  refine sv (Does.move rfl) ?_
  rcases Decidable.em (((ofE po).author : Int) ≠ ((ofE pl).author : Int)) with hp17 | hp17
  · refine Seq.guard_off' rfl rfl (decide_eq_true hp17) rfl (by decide) ?_
    refine Seq.guard_off' rfl rfl (decide_eq_true hp17) rfl (by decide) ?_
    refine Seq.guard_off' rfl rfl (decide_eq_true hp17) rfl (by decide) ?_
    refine Seq.guard_off' rfl rfl (decide_eq_true hp17) rfl (by decide) ?_
    refine Seq.guard_off' rfl rfl (decide_eq_true hp17) rfl (by decide) ?_
    refine Seq.guard_on' rfl rfl (decide_eq_true hp15) ?_
    refine sv (Does.pick_b rfl (decide_eq_true hp17) rfl) ?_
    refine Seq.guard_on' rfl rfl (decide_eq_true hp15) ?_
    refine sv (Does.move rfl) ?_
    refine Seq.guard_off' rfl rfl rfl rfl (by decide) ?_
    refine Seq.guard_off' rfl rfl rfl rfl (by decide) ?_
    refine Seq.guard_off' rfl rfl rfl rfl (by decide) ?_
    refine Seq.guard_off' rfl rfl rfl rfl (by decide) ?_
    refine Seq.guard_off' rfl rfl rfl rfl (by decide) ?_
    refine Seq.guard_on' rfl rfl (decide_eq_true hp15) ?_
    refine sv (Does.pick_t rfl rfl) ?_
    refine Seq.guard_on' rfl rfl (decide_eq_true hp15) ?_
    refine sv (Does.move rfl) ?_
    refine Seq.guard_off' rfl rfl rfl rfl (by decide) ?_
    refine Seq.guard_off' rfl rfl rfl rfl (by decide) ?_
    refine Seq.guard_off' rfl rfl rfl rfl (by decide) ?_
    refine Seq.guard_off' rfl rfl rfl rfl (by decide) ?_
    refine Seq.guard_off' rfl rfl rfl rfl (by decide) ?_
    refine Seq.guard_on' rfl rfl (decide_eq_true hp15) ?_
    refine sv (Does.pick_t rfl rfl) ?_
    refine Seq.guard_on' rfl rfl (decide_eq_true hp15) ?_
    refine sv (Does.move rfl) ?_
    refine Seq.guard_off' rfl rfl rfl rfl (by decide) ?_
    refine Seq.guard_off' rfl rfl rfl rfl (by decide) ?_
    refine Seq.guard_off' rfl rfl rfl rfl (by decide) ?_
    refine Seq.guard_off' rfl rfl rfl rfl (by decide) ?_
    refine Seq.guard_off' rfl rfl rfl rfl (by decide) ?_
    refine Seq.guard_on' rfl rfl (decide_eq_true hp15) ?_
    refine sv (Does.pick_t rfl rfl) ?_
    refine Seq.guard_on' rfl rfl (decide_eq_true hp15) ?_
    refine sv (Does.move rfl) ?_
    refine Seq.guard_off' rfl rfl rfl rfl (by decide) ?_
    refine Seq.guard_off' rfl rfl rfl rfl (by decide) ?_
    refine Seq.guard_off' rfl rfl rfl rfl (by decide) ?_
    refine Seq.guard_off' rfl rfl rfl rfl (by decide) ?_
    refine Seq.guard_off' rfl rfl rfl rfl (by decide) ?_
    refine Seq.guard_off' rfl rfl rfl rfl (by decide) ?_
    refine Seq.guard_off' rfl rfl rfl rfl (by decide) ?_
    refine Seq.guard_on' rfl rfl (decide_eq_true hp15) ?_
    refine sv (Does.pick_t rfl rfl) ?_
    refine sv (Does.pick_b rfl (decide_eq_true hp15) rfl) ?_
    refine Seq.next ?_
    refine Run.cond_b rfl rfl ?_
    refine rsr ?_
    refine sv (Does.assign rfl) ?_
    refine Seq.next ?_
    have c377 := c250.trans c357
    have c378 := c186.trans c377
    have c379 := c86.trans c378
    obtain ⟨⟨zU, zo⟩, zb⟩ := hX c379 (by decide)
    refine Run.ret (ret_then ?_)
    exact post_one Try.results6 rfl ⟨_, rfl, (isBool (by first | (exact absurd (ent_ok0 hp5) hp6; done) | (exact absurd (ent_no0 hp5) hp7; done) | (exact absurd (ent_all0 hp5) hp8; done) | (exact absurd (congrArg EntryD.kind (ent_back hp5).2.2) hp9; done) | (exact absurd (congrArg EntryD.author (ent_back hp5).2.2) hp10; done) | (exact absurd (congrArg EntryD.epoch (ent_back hp5).2.2) hp11; done) | (exact absurd (congrArg (fun e : EntryD => ((List.length e.nums : Nat) : Int)) (ent_back hp5).2.2) hp12; done) | (exact absurd (congrArg (fun e : EntryD => ((List.length e.texts : Nat) : Int)) (ent_back hp5).2.2) hp13; done) | (exact absurd (congrArg EntryD.kind (ent_same hp5 hp14 hp15)) hp16; done) | (exact absurd (congrArg EntryD.author (ent_same hp5 hp14 hp15)) hp17; done) | (exact absurd (congrArg EntryD.epoch (ent_same hp5 hp14 hp15)) hp18; done) | (exact absurd (congrArg EntryD.peer (ent_same hp5 hp14 hp15)) hp19; done) | (exact absurd (congrArg EntryD.phase (ent_same hp5 hp14 hp15)) hp20; done) | (exact absurd (congrArg EntryD.mode (ent_same hp5 hp14 hp15)) hp21; done) | (exact absurd (congrArg EntryD.proof (ent_same hp5 hp14 hp15)) hp22; done) | (exact absurd (vot_ok0 hp6) hp7; done) | (exact vot_sm hp6 hc8; done) | (exact vot_df hp6 hp9 hc10; done) | (exact absurd (vot_ok0 hp7) hp8; done) | (exact vot_sm hp7 hc9; done) | (exact vot_df hp7 hp10 hc11; done) | (exact absurd (vot_ok0 hp8) hp9; done) | (exact vot_sm hp8 hc10; done) | (exact vot_df hp8 hp11 hc12; done) | (exact absurd (vot_ok0 hp9) hp10; done) | (exact vot_sm hp9 hc11; done) | (exact vot_df hp9 hp12 hc13; done) | (exact absurd (vot_ok0 hp10) hp11; done) | (exact vot_sm hp10 hc12; done) | (exact vot_df hp10 hp13 hc14; done) | (exact absurd (vot_ok0 hp11) hp12; done) | (exact vot_sm hp11 hc13; done) | (exact vot_df hp11 hp14 hc15; done) | (exact absurd (vot_ok0 hp12) hp13; done) | (exact vot_sm hp12 hc14; done) | (exact vot_df hp12 hp15 hc16; done) | (exact absurd (vot_ok0 hp13) hp14; done) | (exact vot_sm hp13 hc15; done) | (exact vot_df hp13 hp16 hc17; done) | (exact absurd (vot_ok0 hp14) hp15; done) | (exact vot_sm hp14 hc16; done) | (exact vot_df hp14 hp17 hc18; done) | (exact absurd (vot_ok0 hp15) hp16; done) | (exact vot_sm hp15 hc17; done) | (exact vot_df hp15 hp18 hc19; done) | (exact absurd (vot_ok0 hp16) hp17; done) | (exact vot_sm hp16 hc18; done) | (exact vot_df hp16 hp19 hc20; done) | (exact absurd (vot_ok0 hp17) hp18; done) | (exact vot_sm hp17 hc19; done) | (exact vot_df hp17 hp20 hc21; done) | (exact absurd (vot_ok0 hp18) hp19; done) | (exact vot_sm hp18 hc20; done) | (exact vot_df hp18 hp21 hc22; done) | (exact absurd (vot_ok0 hp19) hp20; done) | (exact vot_sm hp19 hc21; done) | (exact vot_df hp19 hp22 hc23; done) | (exact absurd (vot_ok0 hp20) hp21; done) | (exact vot_sm hp20 hc22; done) | (exact vot_df hp20 hp23 hc24; done) | (exact absurd (vot_ok0 hp21) hp22; done) | (exact vot_sm hp21 hc23; done) | (exact vot_df hp21 hp24 hc25; done) | (exact absurd (vot_ok0 hp22) hp23; done) | (exact vot_sm hp22 hc24; done) | (exact vot_df hp22 hp25 hc26; done) | (exact absurd (vot_ok0 hp23) hp24; done) | (exact vot_sm hp23 hc25; done) | (exact vot_df hp23 hp26 hc27; done) | (exact absurd (vot_ok0 hp24) hp25; done) | (exact vot_sm hp24 hc26; done) | (exact vot_df hp24 hp27 hc28; done) | (exact absurd (vot_ok0 hp25) hp26; done) | (exact vot_sm hp25 hc27; done) | (exact vot_df hp25 hp28 hc29; done) | (with_reducible rfl; done) | (omega; done) | (simp_all; done)) _ _), zb⟩
  refine Seq.guard_on' rfl rfl (decide_eq_false hp17) ?_
  refine sv (Does.fieldAddr' 2 Try.underlying40 rfl ty3 rfl rfl) ?_
  refine Seq.guard_on' rfl rfl (decide_eq_false hp17) ?_
  refine sv (Does.load_own1 o373 ty3 rfl rfl) ?_
  refine Seq.guard_on' rfl rfl (decide_eq_false hp17) ?_
  refine sv (Does.fieldAddr' 2 Try.underlying40 rfl ty3 rfl rfl) ?_
  refine Seq.guard_on' rfl rfl (decide_eq_false hp17) ?_
  refine sv (Does.load_own1 o356 ty3 rfl rfl) ?_
  refine Seq.guard_on' rfl rfl (decide_eq_false hp17) ?_
  refine sv (Does.neq rfl rfl) ?_
  refine Seq.guard_on' rfl rfl (decide_eq_true hp15) ?_
  refine sv (Does.pick_b rfl (decide_eq_false hp17) rfl) ?_
  refine Seq.guard_on' rfl rfl (decide_eq_true hp15) ?_
  refine sv (Does.move rfl) ?_
  rcases Decidable.em (((ofE po).epoch : Int) ≠ ((ofE pl).epoch : Int)) with hp18 | hp18
  · refine Seq.guard_off' rfl rfl (decide_eq_true hp18) rfl (by decide) ?_
    refine Seq.guard_off' rfl rfl (decide_eq_true hp18) rfl (by decide) ?_
    refine Seq.guard_off' rfl rfl (decide_eq_true hp18) rfl (by decide) ?_
    refine Seq.guard_off' rfl rfl (decide_eq_true hp18) rfl (by decide) ?_
    refine Seq.guard_off' rfl rfl (decide_eq_true hp18) rfl (by decide) ?_
    refine Seq.guard_on' rfl rfl (decide_eq_true hp15) ?_
    refine sv (Does.pick_b rfl (decide_eq_true hp18) rfl) ?_
    refine Seq.guard_on' rfl rfl (decide_eq_true hp15) ?_
    refine sv (Does.move rfl) ?_
    refine Seq.guard_off' rfl rfl rfl rfl (by decide) ?_
    refine Seq.guard_off' rfl rfl rfl rfl (by decide) ?_
    refine Seq.guard_off' rfl rfl rfl rfl (by decide) ?_
    refine Seq.guard_off' rfl rfl rfl rfl (by decide) ?_
    refine Seq.guard_off' rfl rfl rfl rfl (by decide) ?_
    refine Seq.guard_on' rfl rfl (decide_eq_true hp15) ?_
    refine sv (Does.pick_t rfl rfl) ?_
    refine Seq.guard_on' rfl rfl (decide_eq_true hp15) ?_
    refine sv (Does.move rfl) ?_
    refine Seq.guard_off' rfl rfl rfl rfl (by decide) ?_
    refine Seq.guard_off' rfl rfl rfl rfl (by decide) ?_
    refine Seq.guard_off' rfl rfl rfl rfl (by decide) ?_
    refine Seq.guard_off' rfl rfl rfl rfl (by decide) ?_
    refine Seq.guard_off' rfl rfl rfl rfl (by decide) ?_
    refine Seq.guard_on' rfl rfl (decide_eq_true hp15) ?_
    refine sv (Does.pick_t rfl rfl) ?_
    refine Seq.guard_on' rfl rfl (decide_eq_true hp15) ?_
    refine sv (Does.move rfl) ?_
    refine Seq.guard_off' rfl rfl rfl rfl (by decide) ?_
    refine Seq.guard_off' rfl rfl rfl rfl (by decide) ?_
    refine Seq.guard_off' rfl rfl rfl rfl (by decide) ?_
    refine Seq.guard_off' rfl rfl rfl rfl (by decide) ?_
    refine Seq.guard_off' rfl rfl rfl rfl (by decide) ?_
    refine Seq.guard_off' rfl rfl rfl rfl (by decide) ?_
    refine Seq.guard_off' rfl rfl rfl rfl (by decide) ?_
    refine Seq.guard_on' rfl rfl (decide_eq_true hp15) ?_
    refine sv (Does.pick_t rfl rfl) ?_
    refine sv (Does.pick_b rfl (decide_eq_true hp15) rfl) ?_
    refine Seq.next ?_
    refine Run.cond_b rfl rfl ?_
    refine rsr ?_
    refine sv (Does.assign rfl) ?_
    refine Seq.next ?_
    have c380 := c250.trans c357
    have c381 := c186.trans c380
    have c382 := c86.trans c381
    obtain ⟨⟨zU, zo⟩, zb⟩ := hX c382 (by decide)
    refine Run.ret (ret_then ?_)
    exact post_one Try.results6 rfl ⟨_, rfl, (isBool (by first | (exact absurd (ent_ok0 hp5) hp6; done) | (exact absurd (ent_no0 hp5) hp7; done) | (exact absurd (ent_all0 hp5) hp8; done) | (exact absurd (congrArg EntryD.kind (ent_back hp5).2.2) hp9; done) | (exact absurd (congrArg EntryD.author (ent_back hp5).2.2) hp10; done) | (exact absurd (congrArg EntryD.epoch (ent_back hp5).2.2) hp11; done) | (exact absurd (congrArg (fun e : EntryD => ((List.length e.nums : Nat) : Int)) (ent_back hp5).2.2) hp12; done) | (exact absurd (congrArg (fun e : EntryD => ((List.length e.texts : Nat) : Int)) (ent_back hp5).2.2) hp13; done) | (exact absurd (congrArg EntryD.kind (ent_same hp5 hp14 hp15)) hp16; done) | (exact absurd (congrArg EntryD.author (ent_same hp5 hp14 hp15)) hp17; done) | (exact absurd (congrArg EntryD.epoch (ent_same hp5 hp14 hp15)) hp18; done) | (exact absurd (congrArg EntryD.peer (ent_same hp5 hp14 hp15)) hp19; done) | (exact absurd (congrArg EntryD.phase (ent_same hp5 hp14 hp15)) hp20; done) | (exact absurd (congrArg EntryD.mode (ent_same hp5 hp14 hp15)) hp21; done) | (exact absurd (congrArg EntryD.proof (ent_same hp5 hp14 hp15)) hp22; done) | (exact absurd (vot_ok0 hp6) hp7; done) | (exact vot_sm hp6 hc8; done) | (exact vot_df hp6 hp9 hc10; done) | (exact absurd (vot_ok0 hp7) hp8; done) | (exact vot_sm hp7 hc9; done) | (exact vot_df hp7 hp10 hc11; done) | (exact absurd (vot_ok0 hp8) hp9; done) | (exact vot_sm hp8 hc10; done) | (exact vot_df hp8 hp11 hc12; done) | (exact absurd (vot_ok0 hp9) hp10; done) | (exact vot_sm hp9 hc11; done) | (exact vot_df hp9 hp12 hc13; done) | (exact absurd (vot_ok0 hp10) hp11; done) | (exact vot_sm hp10 hc12; done) | (exact vot_df hp10 hp13 hc14; done) | (exact absurd (vot_ok0 hp11) hp12; done) | (exact vot_sm hp11 hc13; done) | (exact vot_df hp11 hp14 hc15; done) | (exact absurd (vot_ok0 hp12) hp13; done) | (exact vot_sm hp12 hc14; done) | (exact vot_df hp12 hp15 hc16; done) | (exact absurd (vot_ok0 hp13) hp14; done) | (exact vot_sm hp13 hc15; done) | (exact vot_df hp13 hp16 hc17; done) | (exact absurd (vot_ok0 hp14) hp15; done) | (exact vot_sm hp14 hc16; done) | (exact vot_df hp14 hp17 hc18; done) | (exact absurd (vot_ok0 hp15) hp16; done) | (exact vot_sm hp15 hc17; done) | (exact vot_df hp15 hp18 hc19; done) | (exact absurd (vot_ok0 hp16) hp17; done) | (exact vot_sm hp16 hc18; done) | (exact vot_df hp16 hp19 hc20; done) | (exact absurd (vot_ok0 hp17) hp18; done) | (exact vot_sm hp17 hc19; done) | (exact vot_df hp17 hp20 hc21; done) | (exact absurd (vot_ok0 hp18) hp19; done) | (exact vot_sm hp18 hc20; done) | (exact vot_df hp18 hp21 hc22; done) | (exact absurd (vot_ok0 hp19) hp20; done) | (exact vot_sm hp19 hc21; done) | (exact vot_df hp19 hp22 hc23; done) | (exact absurd (vot_ok0 hp20) hp21; done) | (exact vot_sm hp20 hc22; done) | (exact vot_df hp20 hp23 hc24; done) | (exact absurd (vot_ok0 hp21) hp22; done) | (exact vot_sm hp21 hc23; done) | (exact vot_df hp21 hp24 hc25; done) | (exact absurd (vot_ok0 hp22) hp23; done) | (exact vot_sm hp22 hc24; done) | (exact vot_df hp22 hp25 hc26; done) | (exact absurd (vot_ok0 hp23) hp24; done) | (exact vot_sm hp23 hc25; done) | (exact vot_df hp23 hp26 hc27; done) | (exact absurd (vot_ok0 hp24) hp25; done) | (exact vot_sm hp24 hc26; done) | (exact vot_df hp24 hp27 hc28; done) | (exact absurd (vot_ok0 hp25) hp26; done) | (exact vot_sm hp25 hc27; done) | (exact vot_df hp25 hp28 hc29; done) | (with_reducible rfl; done) | (omega; done) | (simp_all; done)) _ _), zb⟩
  refine Seq.guard_on' rfl rfl (decide_eq_false hp18) ?_
  refine sv (Does.fieldAddr' 4 Try.underlying40 rfl ty3 rfl rfl) ?_
  refine Seq.guard_on' rfl rfl (decide_eq_false hp18) ?_
  refine sv (Does.load_own1 o373 ty3 rfl rfl) ?_
  refine Seq.guard_on' rfl rfl (decide_eq_false hp18) ?_
  refine sv (Does.fieldAddr' 4 Try.underlying40 rfl ty3 rfl rfl) ?_
  refine Seq.guard_on' rfl rfl (decide_eq_false hp18) ?_
  refine sv (Does.load_own1 o356 ty3 rfl rfl) ?_
  refine Seq.guard_on' rfl rfl (decide_eq_false hp18) ?_
  refine sv (Does.neq rfl rfl) ?_
  refine Seq.guard_on' rfl rfl (decide_eq_true hp15) ?_
  refine sv (Does.pick_b rfl (decide_eq_false hp18) rfl) ?_
  refine Seq.guard_on' rfl rfl (decide_eq_true hp15) ?_
  refine sv (Does.move rfl) ?_
  rcases Decidable.em (((ofE po).peer : Int) ≠ ((ofE pl).peer : Int)) with hp19 | hp19
  · refine Seq.guard_off' rfl rfl (decide_eq_true hp19) rfl (by decide) ?_
    refine Seq.guard_off' rfl rfl (decide_eq_true hp19) rfl (by decide) ?_
    refine Seq.guard_off' rfl rfl (decide_eq_true hp19) rfl (by decide) ?_
    refine Seq.guard_off' rfl rfl (decide_eq_true hp19) rfl (by decide) ?_
    refine Seq.guard_off' rfl rfl (decide_eq_true hp19) rfl (by decide) ?_
    refine Seq.guard_on' rfl rfl (decide_eq_true hp15) ?_
    refine sv (Does.pick_b rfl (decide_eq_true hp19) rfl) ?_
    refine Seq.guard_on' rfl rfl (decide_eq_true hp15) ?_
    refine sv (Does.move rfl) ?_
    refine Seq.guard_off' rfl rfl rfl rfl (by decide) ?_
    refine Seq.guard_off' rfl rfl rfl rfl (by decide) ?_
    refine Seq.guard_off' rfl rfl rfl rfl (by decide) ?_
    refine Seq.guard_off' rfl rfl rfl rfl (by decide) ?_
    refine Seq.guard_off' rfl rfl rfl rfl (by decide) ?_
    refine Seq.guard_on' rfl rfl (decide_eq_true hp15) ?_
    refine sv (Does.pick_t rfl rfl) ?_
    refine Seq.guard_on' rfl rfl (decide_eq_true hp15) ?_
    refine sv (Does.move rfl) ?_
    refine Seq.guard_off' rfl rfl rfl rfl (by decide) ?_
    refine Seq.guard_off' rfl rfl rfl rfl (by decide) ?_
    refine Seq.guard_off' rfl rfl rfl rfl (by decide) ?_
    refine Seq.guard_off' rfl rfl rfl rfl (by decide) ?_
    refine Seq.guard_off' rfl rfl rfl rfl (by decide) ?_
    refine Seq.guard_off' rfl rfl rfl rfl (by decide) ?_
    refine Seq.guard_off' rfl rfl rfl rfl (by decide) ?_
    refine Seq.guard_on' rfl rfl (decide_eq_true hp15) ?_
    refine sv (Does.pick_t rfl rfl) ?_
    refine sv (Does.pick_b rfl (decide_eq_true hp15) rfl) ?_
    refine Seq.next ?_
    refine Run.cond_b rfl rfl ?_
    refine rsr ?_
    refine sv (Does.assign rfl) ?_
    refine Seq.next ?_
    have c383 := c250.trans c357
    have c384 := c186.trans c383
    have c385 := c86.trans c384
    obtain ⟨⟨zU, zo⟩, zb⟩ := hX c385 (by decide)
    refine Run.ret (ret_then ?_)
    exact post_one Try.results6 rfl ⟨_, rfl, (isBool (by first | (exact absurd (ent_ok0 hp5) hp6; done) | (exact absurd (ent_no0 hp5) hp7; done) | (exact absurd (ent_all0 hp5) hp8; done) | (exact absurd (congrArg EntryD.kind (ent_back hp5).2.2) hp9; done) | (exact absurd (congrArg EntryD.author (ent_back hp5).2.2) hp10; done) | (exact absurd (congrArg EntryD.epoch (ent_back hp5).2.2) hp11; done) | (exact absurd (congrArg (fun e : EntryD => ((List.length e.nums : Nat) : Int)) (ent_back hp5).2.2) hp12; done) | (exact absurd (congrArg (fun e : EntryD => ((List.length e.texts : Nat) : Int)) (ent_back hp5).2.2) hp13; done) | (exact absurd (congrArg EntryD.kind (ent_same hp5 hp14 hp15)) hp16; done) | (exact absurd (congrArg EntryD.author (ent_same hp5 hp14 hp15)) hp17; done) | (exact absurd (congrArg EntryD.epoch (ent_same hp5 hp14 hp15)) hp18; done) | (exact absurd (congrArg EntryD.peer (ent_same hp5 hp14 hp15)) hp19; done) | (exact absurd (congrArg EntryD.phase (ent_same hp5 hp14 hp15)) hp20; done) | (exact absurd (congrArg EntryD.mode (ent_same hp5 hp14 hp15)) hp21; done) | (exact absurd (congrArg EntryD.proof (ent_same hp5 hp14 hp15)) hp22; done) | (exact absurd (vot_ok0 hp6) hp7; done) | (exact vot_sm hp6 hc8; done) | (exact vot_df hp6 hp9 hc10; done) | (exact absurd (vot_ok0 hp7) hp8; done) | (exact vot_sm hp7 hc9; done) | (exact vot_df hp7 hp10 hc11; done) | (exact absurd (vot_ok0 hp8) hp9; done) | (exact vot_sm hp8 hc10; done) | (exact vot_df hp8 hp11 hc12; done) | (exact absurd (vot_ok0 hp9) hp10; done) | (exact vot_sm hp9 hc11; done) | (exact vot_df hp9 hp12 hc13; done) | (exact absurd (vot_ok0 hp10) hp11; done) | (exact vot_sm hp10 hc12; done) | (exact vot_df hp10 hp13 hc14; done) | (exact absurd (vot_ok0 hp11) hp12; done) | (exact vot_sm hp11 hc13; done) | (exact vot_df hp11 hp14 hc15; done) | (exact absurd (vot_ok0 hp12) hp13; done) | (exact vot_sm hp12 hc14; done) | (exact vot_df hp12 hp15 hc16; done) | (exact absurd (vot_ok0 hp13) hp14; done) | (exact vot_sm hp13 hc15; done) | (exact vot_df hp13 hp16 hc17; done) | (exact absurd (vot_ok0 hp14) hp15; done) | (exact vot_sm hp14 hc16; done) | (exact vot_df hp14 hp17 hc18; done) | (exact absurd (vot_ok0 hp15) hp16; done) | (exact vot_sm hp15 hc17; done) | (exact vot_df hp15 hp18 hc19; done) | (exact absurd (vot_ok0 hp16) hp17; done) | (exact vot_sm hp16 hc18; done) | (exact vot_df hp16 hp19 hc20; done) | (exact absurd (vot_ok0 hp17) hp18; done) | (exact vot_sm hp17 hc19; done) | (exact vot_df hp17 hp20 hc21; done) | (exact absurd (vot_ok0 hp18) hp19; done) | (exact vot_sm hp18 hc20; done) | (exact vot_df hp18 hp21 hc22; done) | (exact absurd (vot_ok0 hp19) hp20; done) | (exact vot_sm hp19 hc21; done) | (exact vot_df hp19 hp22 hc23; done) | (exact absurd (vot_ok0 hp20) hp21; done) | (exact vot_sm hp20 hc22; done) | (exact vot_df hp20 hp23 hc24; done) | (exact absurd (vot_ok0 hp21) hp22; done) | (exact vot_sm hp21 hc23; done) | (exact vot_df hp21 hp24 hc25; done) | (exact absurd (vot_ok0 hp22) hp23; done) | (exact vot_sm hp22 hc24; done) | (exact vot_df hp22 hp25 hc26; done) | (exact absurd (vot_ok0 hp23) hp24; done) | (exact vot_sm hp23 hc25; done) | (exact vot_df hp23 hp26 hc27; done) | (exact absurd (vot_ok0 hp24) hp25; done) | (exact vot_sm hp24 hc26; done) | (exact vot_df hp24 hp27 hc28; done) | (exact absurd (vot_ok0 hp25) hp26; done) | (exact vot_sm hp25 hc27; done) | (exact vot_df hp25 hp28 hc29; done) | (with_reducible rfl; done) | (omega; done) | (simp_all; done)) _ _), zb⟩
  refine Seq.guard_on' rfl rfl (decide_eq_false hp19) ?_
  refine sv (Does.fieldAddr' 5 Try.underlying40 rfl ty3 rfl rfl) ?_
  refine Seq.guard_on' rfl rfl (decide_eq_false hp19) ?_
  refine sv (Does.load_own1 o373 ty3 rfl rfl) ?_
  refine Seq.guard_on' rfl rfl (decide_eq_false hp19) ?_
  refine sv (Does.fieldAddr' 5 Try.underlying40 rfl ty3 rfl rfl) ?_
  refine Seq.guard_on' rfl rfl (decide_eq_false hp19) ?_
  refine sv (Does.load_own1 o356 ty3 rfl rfl) ?_
  refine Seq.guard_on' rfl rfl (decide_eq_false hp19) ?_
  refine sv (Does.neq rfl rfl) ?_
  refine Seq.guard_on' rfl rfl (decide_eq_true hp15) ?_
  refine sv (Does.pick_b rfl (decide_eq_false hp19) rfl) ?_
  refine Seq.guard_on' rfl rfl (decide_eq_true hp15) ?_
  refine sv (Does.move rfl) ?_
  rcases Decidable.em (((ofE po).phase : Int) ≠ ((ofE pl).phase : Int)) with hp20 | hp20
  · refine Seq.guard_off' rfl rfl (decide_eq_true hp20) rfl (by decide) ?_
    refine Seq.guard_off' rfl rfl (decide_eq_true hp20) rfl (by decide) ?_
    refine Seq.guard_off' rfl rfl (decide_eq_true hp20) rfl (by decide) ?_
    refine Seq.guard_off' rfl rfl (decide_eq_true hp20) rfl (by decide) ?_
    refine Seq.guard_off' rfl rfl (decide_eq_true hp20) rfl (by decide) ?_
    refine Seq.guard_on' rfl rfl (decide_eq_true hp15) ?_
    refine sv (Does.pick_b rfl (decide_eq_true hp20) rfl) ?_
    refine Seq.guard_on' rfl rfl (decide_eq_true hp15) ?_
    refine sv (Does.move rfl) ?_
    refine Seq.guard_off' rfl rfl rfl rfl (by decide) ?_
    refine Seq.guard_off' rfl rfl rfl rfl (by decide) ?_
    refine Seq.guard_off' rfl rfl rfl rfl (by decide) ?_
    refine Seq.guard_off' rfl rfl rfl rfl (by decide) ?_
    refine Seq.guard_off' rfl rfl rfl rfl (by decide) ?_
    refine Seq.guard_off' rfl rfl rfl rfl (by decide) ?_
    refine Seq.guard_off' rfl rfl rfl rfl (by decide) ?_
    refine Seq.guard_on' rfl rfl (decide_eq_true hp15) ?_
    refine sv (Does.pick_t rfl rfl) ?_
    refine sv (Does.pick_b rfl (decide_eq_true hp15) rfl) ?_
    refine Seq.next ?_
    refine Run.cond_b rfl rfl ?_
    refine rsr ?_
    refine sv (Does.assign rfl) ?_
    refine Seq.next ?_
    have c386 := c250.trans c357
    have c387 := c186.trans c386
    have c388 := c86.trans c387
    obtain ⟨⟨zU, zo⟩, zb⟩ := hX c388 (by decide)
    refine Run.ret (ret_then ?_)
    exact post_one Try.results6 rfl ⟨_, rfl, (isBool (by first | (exact absurd (ent_ok0 hp5) hp6; done) | (exact absurd (ent_no0 hp5) hp7; done) | (exact absurd (ent_all0 hp5) hp8; done) | (exact absurd (congrArg EntryD.kind (ent_back hp5).2.2) hp9; done) | (exact absurd (congrArg EntryD.author (ent_back hp5).2.2) hp10; done) | (exact absurd (congrArg EntryD.epoch (ent_back hp5).2.2) hp11; done) | (exact absurd (congrArg (fun e : EntryD => ((List.length e.nums : Nat) : Int)) (ent_back hp5).2.2) hp12; done) | (exact absurd (congrArg (fun e : EntryD => ((List.length e.texts : Nat) : Int)) (ent_back hp5).2.2) hp13; done) | (exact absurd (congrArg EntryD.kind (ent_same hp5 hp14 hp15)) hp16; done) | (exact absurd (congrArg EntryD.author (ent_same hp5 hp14 hp15)) hp17; done) | (exact absurd (congrArg EntryD.epoch (ent_same hp5 hp14 hp15)) hp18; done) | (exact absurd (congrArg EntryD.peer (ent_same hp5 hp14 hp15)) hp19; done) | (exact absurd (congrArg EntryD.phase (ent_same hp5 hp14 hp15)) hp20; done) | (exact absurd (congrArg EntryD.mode (ent_same hp5 hp14 hp15)) hp21; done) | (exact absurd (congrArg EntryD.proof (ent_same hp5 hp14 hp15)) hp22; done) | (exact absurd (vot_ok0 hp6) hp7; done) | (exact vot_sm hp6 hc8; done) | (exact vot_df hp6 hp9 hc10; done) | (exact absurd (vot_ok0 hp7) hp8; done) | (exact vot_sm hp7 hc9; done) | (exact vot_df hp7 hp10 hc11; done) | (exact absurd (vot_ok0 hp8) hp9; done) | (exact vot_sm hp8 hc10; done) | (exact vot_df hp8 hp11 hc12; done) | (exact absurd (vot_ok0 hp9) hp10; done) | (exact vot_sm hp9 hc11; done) | (exact vot_df hp9 hp12 hc13; done) | (exact absurd (vot_ok0 hp10) hp11; done) | (exact vot_sm hp10 hc12; done) | (exact vot_df hp10 hp13 hc14; done) | (exact absurd (vot_ok0 hp11) hp12; done) | (exact vot_sm hp11 hc13; done) | (exact vot_df hp11 hp14 hc15; done) | (exact absurd (vot_ok0 hp12) hp13; done) | (exact vot_sm hp12 hc14; done) | (exact vot_df hp12 hp15 hc16; done) | (exact absurd (vot_ok0 hp13) hp14; done) | (exact vot_sm hp13 hc15; done) | (exact vot_df hp13 hp16 hc17; done) | (exact absurd (vot_ok0 hp14) hp15; done) | (exact vot_sm hp14 hc16; done) | (exact vot_df hp14 hp17 hc18; done) | (exact absurd (vot_ok0 hp15) hp16; done) | (exact vot_sm hp15 hc17; done) | (exact vot_df hp15 hp18 hc19; done) | (exact absurd (vot_ok0 hp16) hp17; done) | (exact vot_sm hp16 hc18; done) | (exact vot_df hp16 hp19 hc20; done) | (exact absurd (vot_ok0 hp17) hp18; done) | (exact vot_sm hp17 hc19; done) | (exact vot_df hp17 hp20 hc21; done) | (exact absurd (vot_ok0 hp18) hp19; done) | (exact vot_sm hp18 hc20; done) | (exact vot_df hp18 hp21 hc22; done) | (exact absurd (vot_ok0 hp19) hp20; done) | (exact vot_sm hp19 hc21; done) | (exact vot_df hp19 hp22 hc23; done) | (exact absurd (vot_ok0 hp20) hp21; done) | (exact vot_sm hp20 hc22; done) | (exact vot_df hp20 hp23 hc24; done) | (exact absurd (vot_ok0 hp21) hp22; done) | (exact vot_sm hp21 hc23; done) | (exact vot_df hp21 hp24 hc25; done) | (exact absurd (vot_ok0 hp22) hp23; done) | (exact vot_sm hp22 hc24; done) | (exact vot_df hp22 hp25 hc26; done) | (exact absurd (vot_ok0 hp23) hp24; done) | (exact vot_sm hp23 hc25; done) | (exact vot_df hp23 hp26 hc27; done) | (exact absurd (vot_ok0 hp24) hp25; done) | (exact vot_sm hp24 hc26; done) | (exact vot_df hp24 hp27 hc28; done) | (exact absurd (vot_ok0 hp25) hp26; done) | (exact vot_sm hp25 hc27; done) | (exact vot_df hp25 hp28 hc29; done) | (with_reducible rfl; done) | (omega; done) | (simp_all; done)) _ _), zb⟩
  refine Seq.guard_on' rfl rfl (decide_eq_false hp20) ?_
  refine sv (Does.fieldAddr' 3 Try.underlying40 rfl ty3 rfl rfl) ?_
  refine Seq.guard_on' rfl rfl (decide_eq_false hp20) ?_
  refine sv (Does.load_own1 o373 ty3 rfl rfl) ?_
  refine Seq.guard_on' rfl rfl (decide_eq_false hp20) ?_
  refine sv (Does.fieldAddr' 3 Try.underlying40 rfl ty3 rfl rfl) ?_
  refine Seq.guard_on' rfl rfl (decide_eq_false hp20) ?_
  refine sv (Does.load_own1 o356 ty3 rfl rfl) ?_
  refine Seq.guard_on' rfl rfl (decide_eq_false hp20) ?_
  refine sv (Does.neq rfl rfl) ?_
  refine Seq.guard_on' rfl rfl (decide_eq_true hp15) ?_
  refine sv (Does.pick_b rfl (decide_eq_false hp20) rfl) ?_
  refine Seq.guard_on' rfl rfl (decide_eq_true hp15) ?_
  refine sv (Does.move rfl) ?_
  rcases Decidable.em (((ofE po).mode : Int) ≠ ((ofE pl).mode : Int)) with hp21 | hp21
  · refine Seq.guard_off' rfl rfl (decide_eq_true hp21) rfl (by decide) ?_
    refine Seq.guard_off' rfl rfl (decide_eq_true hp21) rfl (by decide) ?_
    refine Seq.guard_off' rfl rfl (decide_eq_true hp21) rfl (by decide) ?_
    refine Seq.guard_off' rfl rfl (decide_eq_true hp21) rfl (by decide) ?_
    refine Seq.guard_off' rfl rfl (decide_eq_true hp21) rfl (by decide) ?_
    refine Seq.guard_off' rfl rfl (decide_eq_true hp21) rfl (by decide) ?_
    refine Seq.guard_off' rfl rfl (decide_eq_true hp21) rfl (by decide) ?_
    refine Seq.guard_on' rfl rfl (decide_eq_true hp15) ?_
    refine sv (Does.pick_b rfl (decide_eq_true hp21) rfl) ?_
    refine sv (Does.pick_b rfl (decide_eq_true hp15) rfl) ?_
    refine Seq.next ?_
    refine Run.cond_b rfl rfl ?_
    refine rsr ?_
    refine sv (Does.assign rfl) ?_
    refine Seq.next ?_
    have c389 := c250.trans c357
    have c390 := c186.trans c389
    have c391 := c86.trans c390
    obtain ⟨⟨zU, zo⟩, zb⟩ := hX c391 (by decide)
    refine Run.ret (ret_then ?_)
    exact post_one Try.results6 rfl ⟨_, rfl, (isBool (by first | (exact absurd (ent_ok0 hp5) hp6; done) | (exact absurd (ent_no0 hp5) hp7; done) | (exact absurd (ent_all0 hp5) hp8; done) | (exact absurd (congrArg EntryD.kind (ent_back hp5).2.2) hp9; done) | (exact absurd (congrArg EntryD.author (ent_back hp5).2.2) hp10; done) | (exact absurd (congrArg EntryD.epoch (ent_back hp5).2.2) hp11; done) | (exact absurd (congrArg (fun e : EntryD => ((List.length e.nums : Nat) : Int)) (ent_back hp5).2.2) hp12; done) | (exact absurd (congrArg (fun e : EntryD => ((List.length e.texts : Nat) : Int)) (ent_back hp5).2.2) hp13; done) | (exact absurd (congrArg EntryD.kind (ent_same hp5 hp14 hp15)) hp16; done) | (exact absurd (congrArg EntryD.author (ent_same hp5 hp14 hp15)) hp17; done) | (exact absurd (congrArg EntryD.epoch (ent_same hp5 hp14 hp15)) hp18; done) | (exact absurd (congrArg EntryD.peer (ent_same hp5 hp14 hp15)) hp19; done) | (exact absurd (congrArg EntryD.phase (ent_same hp5 hp14 hp15)) hp20; done) | (exact absurd (congrArg EntryD.mode (ent_same hp5 hp14 hp15)) hp21; done) | (exact absurd (congrArg EntryD.proof (ent_same hp5 hp14 hp15)) hp22; done) | (exact absurd (vot_ok0 hp6) hp7; done) | (exact vot_sm hp6 hc8; done) | (exact vot_df hp6 hp9 hc10; done) | (exact absurd (vot_ok0 hp7) hp8; done) | (exact vot_sm hp7 hc9; done) | (exact vot_df hp7 hp10 hc11; done) | (exact absurd (vot_ok0 hp8) hp9; done) | (exact vot_sm hp8 hc10; done) | (exact vot_df hp8 hp11 hc12; done) | (exact absurd (vot_ok0 hp9) hp10; done) | (exact vot_sm hp9 hc11; done) | (exact vot_df hp9 hp12 hc13; done) | (exact absurd (vot_ok0 hp10) hp11; done) | (exact vot_sm hp10 hc12; done) | (exact vot_df hp10 hp13 hc14; done) | (exact absurd (vot_ok0 hp11) hp12; done) | (exact vot_sm hp11 hc13; done) | (exact vot_df hp11 hp14 hc15; done) | (exact absurd (vot_ok0 hp12) hp13; done) | (exact vot_sm hp12 hc14; done) | (exact vot_df hp12 hp15 hc16; done) | (exact absurd (vot_ok0 hp13) hp14; done) | (exact vot_sm hp13 hc15; done) | (exact vot_df hp13 hp16 hc17; done) | (exact absurd (vot_ok0 hp14) hp15; done) | (exact vot_sm hp14 hc16; done) | (exact vot_df hp14 hp17 hc18; done) | (exact absurd (vot_ok0 hp15) hp16; done) | (exact vot_sm hp15 hc17; done) | (exact vot_df hp15 hp18 hc19; done) | (exact absurd (vot_ok0 hp16) hp17; done) | (exact vot_sm hp16 hc18; done) | (exact vot_df hp16 hp19 hc20; done) | (exact absurd (vot_ok0 hp17) hp18; done) | (exact vot_sm hp17 hc19; done) | (exact vot_df hp17 hp20 hc21; done) | (exact absurd (vot_ok0 hp18) hp19; done) | (exact vot_sm hp18 hc20; done) | (exact vot_df hp18 hp21 hc22; done) | (exact absurd (vot_ok0 hp19) hp20; done) | (exact vot_sm hp19 hc21; done) | (exact vot_df hp19 hp22 hc23; done) | (exact absurd (vot_ok0 hp20) hp21; done) | (exact vot_sm hp20 hc22; done) | (exact vot_df hp20 hp23 hc24; done) | (exact absurd (vot_ok0 hp21) hp22; done) | (exact vot_sm hp21 hc23; done) | (exact vot_df hp21 hp24 hc25; done) | (exact absurd (vot_ok0 hp22) hp23; done) | (exact vot_sm hp22 hc24; done) | (exact vot_df hp22 hp25 hc26; done) | (exact absurd (vot_ok0 hp23) hp24; done) | (exact vot_sm hp23 hc25; done) | (exact vot_df hp23 hp26 hc27; done) | (exact absurd (vot_ok0 hp24) hp25; done) | (exact vot_sm hp24 hc26; done) | (exact vot_df hp24 hp27 hc28; done) | (exact absurd (vot_ok0 hp25) hp26; done) | (exact vot_sm hp25 hc27; done) | (exact vot_df hp25 hp28 hc29; done) | (with_reducible rfl; done) | (omega; done) | (simp_all; done)) _ _), zb⟩
  refine Seq.guard_on' rfl rfl (decide_eq_false hp21) ?_
  refine sv (Does.fieldAddr' 8 Try.underlying40 rfl ty22 rfl rfl) ?_
  refine Seq.guard_on' rfl rfl (decide_eq_false hp21) ?_
  refine sv (Does.load_own1 o373 ty22 rfl rfl) ?_
  refine Seq.guard_on' rfl rfl (decide_eq_false hp21) ?_
  have q392 := up s330 q326
  refine sv (Does.conv_str Try.underlying22 Try.underlying5 Try.underlying9 rfl q392) ?_
  refine Seq.guard_on' rfl rfl (decide_eq_false hp21) ?_
  refine sv (Does.fieldAddr' 8 Try.underlying40 rfl ty22 rfl rfl) ?_
  refine Seq.guard_on' rfl rfl (decide_eq_false hp21) ?_
  refine sv (Does.load_own1 o356 ty22 rfl rfl) ?_
  refine Seq.guard_on' rfl rfl (decide_eq_false hp21) ?_
  have q393 := up c357 q256
  refine sv (Does.conv_str Try.underlying22 Try.underlying5 Try.underlying9 rfl q393) ?_
  refine Seq.guard_on' rfl rfl (decide_eq_false hp21) ?_
  refine sv (Does.str_neq rfl rfl) ?_
  refine Seq.guard_on' rfl rfl (decide_eq_true hp15) ?_
  refine sv (Does.pick_b rfl (decide_eq_false hp21) rfl) ?_
  refine sv (Does.pick_b rfl (decide_eq_true hp15) rfl) ?_
  refine Seq.next ?_
  rcases Decidable.em (((ofE po).proof) ≠ ((ofE pl).proof)) with hp22 | hp22
  · refine Run.cond_b rfl (decide_eq_true hp22) ?_
    refine rsr ?_
    refine sv (Does.assign rfl) ?_
    refine Seq.next ?_
    have c394 := c250.trans c357
    have c395 := c186.trans c394
    have c396 := c86.trans c395
    obtain ⟨⟨zU, zo⟩, zb⟩ := hX c396 (by decide)
    refine Run.ret (ret_then ?_)
    exact post_one Try.results6 rfl ⟨_, rfl, (isBool (by first | (exact absurd (ent_ok0 hp5) hp6; done) | (exact absurd (ent_no0 hp5) hp7; done) | (exact absurd (ent_all0 hp5) hp8; done) | (exact absurd (congrArg EntryD.kind (ent_back hp5).2.2) hp9; done) | (exact absurd (congrArg EntryD.author (ent_back hp5).2.2) hp10; done) | (exact absurd (congrArg EntryD.epoch (ent_back hp5).2.2) hp11; done) | (exact absurd (congrArg (fun e : EntryD => ((List.length e.nums : Nat) : Int)) (ent_back hp5).2.2) hp12; done) | (exact absurd (congrArg (fun e : EntryD => ((List.length e.texts : Nat) : Int)) (ent_back hp5).2.2) hp13; done) | (exact absurd (congrArg EntryD.kind (ent_same hp5 hp14 hp15)) hp16; done) | (exact absurd (congrArg EntryD.author (ent_same hp5 hp14 hp15)) hp17; done) | (exact absurd (congrArg EntryD.epoch (ent_same hp5 hp14 hp15)) hp18; done) | (exact absurd (congrArg EntryD.peer (ent_same hp5 hp14 hp15)) hp19; done) | (exact absurd (congrArg EntryD.phase (ent_same hp5 hp14 hp15)) hp20; done) | (exact absurd (congrArg EntryD.mode (ent_same hp5 hp14 hp15)) hp21; done) | (exact absurd (congrArg EntryD.proof (ent_same hp5 hp14 hp15)) hp22; done) | (exact absurd (vot_ok0 hp6) hp7; done) | (exact vot_sm hp6 hc8; done) | (exact vot_df hp6 hp9 hc10; done) | (exact absurd (vot_ok0 hp7) hp8; done) | (exact vot_sm hp7 hc9; done) | (exact vot_df hp7 hp10 hc11; done) | (exact absurd (vot_ok0 hp8) hp9; done) | (exact vot_sm hp8 hc10; done) | (exact vot_df hp8 hp11 hc12; done) | (exact absurd (vot_ok0 hp9) hp10; done) | (exact vot_sm hp9 hc11; done) | (exact vot_df hp9 hp12 hc13; done) | (exact absurd (vot_ok0 hp10) hp11; done) | (exact vot_sm hp10 hc12; done) | (exact vot_df hp10 hp13 hc14; done) | (exact absurd (vot_ok0 hp11) hp12; done) | (exact vot_sm hp11 hc13; done) | (exact vot_df hp11 hp14 hc15; done) | (exact absurd (vot_ok0 hp12) hp13; done) | (exact vot_sm hp12 hc14; done) | (exact vot_df hp12 hp15 hc16; done) | (exact absurd (vot_ok0 hp13) hp14; done) | (exact vot_sm hp13 hc15; done) | (exact vot_df hp13 hp16 hc17; done) | (exact absurd (vot_ok0 hp14) hp15; done) | (exact vot_sm hp14 hc16; done) | (exact vot_df hp14 hp17 hc18; done) | (exact absurd (vot_ok0 hp15) hp16; done) | (exact vot_sm hp15 hc17; done) | (exact vot_df hp15 hp18 hc19; done) | (exact absurd (vot_ok0 hp16) hp17; done) | (exact vot_sm hp16 hc18; done) | (exact vot_df hp16 hp19 hc20; done) | (exact absurd (vot_ok0 hp17) hp18; done) | (exact vot_sm hp17 hc19; done) | (exact vot_df hp17 hp20 hc21; done) | (exact absurd (vot_ok0 hp18) hp19; done) | (exact vot_sm hp18 hc20; done) | (exact vot_df hp18 hp21 hc22; done) | (exact absurd (vot_ok0 hp19) hp20; done) | (exact vot_sm hp19 hc21; done) | (exact vot_df hp19 hp22 hc23; done) | (exact absurd (vot_ok0 hp20) hp21; done) | (exact vot_sm hp20 hc22; done) | (exact vot_df hp20 hp23 hc24; done) | (exact absurd (vot_ok0 hp21) hp22; done) | (exact vot_sm hp21 hc23; done) | (exact vot_df hp21 hp24 hc25; done) | (exact absurd (vot_ok0 hp22) hp23; done) | (exact vot_sm hp22 hc24; done) | (exact vot_df hp22 hp25 hc26; done) | (exact absurd (vot_ok0 hp23) hp24; done) | (exact vot_sm hp23 hc25; done) | (exact vot_df hp23 hp26 hc27; done) | (exact absurd (vot_ok0 hp24) hp25; done) | (exact vot_sm hp24 hc26; done) | (exact vot_df hp24 hp27 hc28; done) | (exact absurd (vot_ok0 hp25) hp26; done) | (exact vot_sm hp25 hc27; done) | (exact vot_df hp25 hp28 hc29; done) | (with_reducible rfl; done) | (omega; done) | (simp_all; done)) _ _), zb⟩
  refine Run.cond_b rfl (decide_eq_false hp22) ?_
  refine Run.skip_go (fun _ _ h => h) ?_
  refine Run.seq ?_
  refine rsr ?_
  have c398 := c250.trans c357
  have c399 := c185.trans c398
  have o397 := o102.up c399
  refine sv (Does.load_ownN [i64 vt.kind, i64 vt.from_, i64 vt.slot, i64 vt.view, i64 vt.valid, .slice A25 (List.length vt.value) c26] o397 ty24 rfl rfl) ?_
  have c401 := c186.trans c398
  have c402 := c86.trans c401
  have q403 := up c402 q27
  have q400 : VoteV vt L290 w328 (.agg #[i64 vt.kind, i64 vt.from_, i64 vt.slot, i64 vt.view, i64 vt.valid, .slice A25 (List.length vt.value) c26]) := VoteV.mk q403
  refine scall (V := And2 (BytesV (if vt.bad then [] else vt.bytes)) (Is (i64 (if vt.bad then 3 else 0)))) cal20 h331 rfl (wire_EncodeVote h331 q400 (show List.length vt.value ≤ 100000 from by omega)) fun v404 w405 q406 s407 h408 => ?_
  obtain ⟨v409, v410, rfl, q411, q412⟩ := q406
  obtain ⟨A413, c414, rfl⟩ := BytesV.shape q411
  have z415 := BytesV.cap q411
  have q412 := Is.out q412; subst q412
  refine sv (Does.move rfl) ?_
  refine sv (Does.extract rfl rfl) ?_
  refine sv (Does.extract rfl rfl) ?_
  refine sv (Does.assign rfl) ?_
  refine sv (Does.assign rfl) ?_
  refine nsr ?_
  refine sv (Does.move rfl) ?_
  refine sv (Does.eql rfl rfl) ?_
  refine Seq.next ?_
  rcases Decidable.em ((if vt.bad then 3 else 0 : Int) = (0 : Int)) with hp23 | hp23
  rotate_left
  · refine Run.cond_b rfl (decide_eq_false hp23) ?_
    refine Run.skip_go (fun _ _ h => h) ?_
    refine rsr ?_
    refine sv (Does.assign rfl) ?_
    refine Seq.next ?_
    have c880 := c402.trans s407
    obtain ⟨⟨zU, zo⟩, zb⟩ := hX c880 (by decide)
    refine Run.ret ?_
    exact post_one Try.results6 rfl ⟨_, rfl, rfl, zb⟩
  refine Run.cond_b rfl (decide_eq_true hp23) ?_
  refine rsr ?_
  refine sv (Does.move rfl) ?_
  refine scall (V := And2 (VoteV (decV (if vt.bad then [] else vt.bytes))) (Is (i64 (if decVOk (if vt.bad then [] else vt.bytes) then 0 else 3)))) cal28 h408 rfl (wire_DecodeVote h408 q411 (show List.length (if vt.bad then [] else vt.bytes) ≤ 1000000 from by (have h9 := vot_bounds 0 (d := vt) (by omega) (by assumption); omega))) fun v416 w417 q418 s419 h420 => ?_
  obtain ⟨v421, v422, rfl, q423, q424⟩ := q418
  obtain ⟨A425, c426, rfl, q427⟩ := VoteV.open q423
  have z428 := BytesV.cap q427
  have q424 := Is.out q424; subst q424
  refine sv (Does.move rfl) ?_
  refine sv (Does.extract rfl rfl) ?_
  refine sv (Does.extract rfl rfl) ?_
  refine salloc 24 [.int .i64 0, .int .i64 0, .int .i64 0, .int .i64 0, .int .i64 0, .slice none 0 0] h420 ty24 rfl fun b431 L429 w430 o432 s433 h434 => ?_
  refine sstore [i64 ((decV (if vt.bad then [] else vt.bytes)).kind), i64 ((decV (if vt.bad then [] else vt.bytes)).from_), i64 ((decV (if vt.bad then [] else vt.bytes)).slot), i64 ((decV (if vt.bad then [] else vt.bytes)).view), i64 ((decV (if vt.bad then [] else vt.bytes)).valid), .slice A425 (List.length (decV (if vt.bad then [] else vt.bytes)).value) c426] h434 o432 ty24 rfl rfl rfl (Nat.le_of_ble_eq_true rfl) rfl rfl fun w435 o436 s437 h438 => ?_
  refine sv (Does.assign rfl) ?_
  refine nsr ?_
  have c440 := s433.trans s437
  have c441 := s419.trans c440
  have c442 := s407.trans c441
  have c443 := c399.trans c442
  have o439 := o112.up c443
  refine sv (Does.load_ownN [i64 vu.kind, i64 vu.from_, i64 vu.slot, i64 vu.view, i64 vu.valid, .slice A29 (List.length vu.value) c30] o439 ty24 rfl rfl) ?_
  have c445 := c402.trans c442
  have q446 := up c445 q31
  have q444 : VoteV vu L429 w435 (.agg #[i64 vu.kind, i64 vu.from_, i64 vu.slot, i64 vu.view, i64 vu.valid, .slice A29 (List.length vu.value) c30]) := VoteV.mk q446
  refine scall (V := And2 (BytesV (if vu.bad then [] else vu.bytes)) (Is (i64 (if vu.bad then 3 else 0)))) cal20 h438 rfl (wire_EncodeVote h438 q444 (show List.length vu.value ≤ 100000 from by omega)) fun v447 w448 q449 s450 h451 => ?_
  obtain ⟨v452, v453, rfl, q454, q455⟩ := q449
  obtain ⟨A456, c457, rfl⟩ := BytesV.shape q454
  have z458 := BytesV.cap q454
  have q455 := Is.out q455; subst q455
  refine sv (Does.move rfl) ?_
  refine sv (Does.extract rfl rfl) ?_
  refine sv (Does.extract rfl rfl) ?_
  refine sv (Does.assign rfl) ?_
  refine sv (Does.assign rfl) ?_
  refine Seq.next ?_
  refine Run.seq ?_
  rcases Decidable.em ((if decVOk (if vt.bad then [] else vt.bytes) then 0 else 3 : Int) ≠ (0 : Int)) with hp24 | hp24
  · refine Run.open 23 (Φ := [.ex (i64 (if decVOk (if vt.bad then [] else vt.bytes) then 0 else 3)), .ex (.bool (decide ((if decVOk (if vt.bad then [] else vt.bytes) then 0 else 3 : Int) ≠ (0 : Int)))), .ex (.bool (decide ((if decVOk (if vt.bad then [] else vt.bytes) then 0 else 3 : Int) ≠ (0 : Int)))), .ex undef, .ex undef, .ex undef, .ex undef, .ex (.bool true), .ex (.bool true), .ex undef, .ex undef, .ex undef, .ex undef, .ex undef, .ex undef, .ex undef, .ex undef, .ex undef, .ex undef, .ex undef, .ex undef, .ex undef, .ex (.bool true)]) [(22, 235)] mixed (by kernel_rfl) rfl h451 ⟨(oX [] rfl rfl rfl fun _ _ => Does.move rfl), (oX [(0, 213)] rfl rfl rfl fun _ _ => Does.neq rfl rfl), (oX [(1, 214)] rfl rfl rfl fun _ _ => Does.move rfl), (oOff rfl rfl rfl rfl (decide_eq_true hp24) rfl rfl), (oOff rfl rfl rfl rfl (decide_eq_true hp24) rfl rfl), (oOff rfl rfl rfl rfl (decide_eq_true hp24) rfl rfl), (oOff rfl rfl rfl rfl (decide_eq_true hp24) rfl rfl), (oX [(2, 215)] rfl rfl rfl fun _ _ => Does.pick_b rfl (decide_eq_true hp24) rfl), (oX [(7, 220)] rfl rfl rfl fun _ _ => Does.move rfl), (oOff rfl rfl rfl rfl rfl rfl rfl), (oOff rfl rfl rfl rfl rfl rfl rfl), (oOff rfl rfl rfl rfl rfl rfl rfl), (oOffU rfl rfl rfl rfl rfl), (oOffU rfl rfl rfl rfl rfl), (oOffU rfl rfl rfl rfl rfl), (oOffU rfl rfl rfl rfl rfl), (oOffU rfl rfl rfl rfl rfl), (oOffU rfl rfl rfl rfl rfl), (oOffU rfl rfl rfl rfl rfl), (oOffU rfl rfl rfl rfl rfl), (oOffU rfl rfl rfl rfl rfl), (oOff rfl rfl rfl rfl rfl rfl rfl), (oX [(8, 221)] rfl rfl rfl fun _ _ => Does.pick_t rfl rfl), trivial⟩ (fun L495 w496 h497 s498 => ?_)
    refine Seq.next ?_
    refine Run.cond_b rfl rfl ?_
    refine rsr ?_
    refine sv (Does.assign rfl) ?_
    refine Seq.next ?_
    have c499 := s450.trans s498
    have c500 := c445.trans c499
    obtain ⟨⟨zU, zo⟩, zb⟩ := hX c500 (by decide)
    refine Run.ret (ret_then ?_)
    exact post_one Try.results6 rfl ⟨_, rfl, (isBool (by first | (exact absurd (ent_ok0 hp5) hp6; done) | (exact absurd (ent_no0 hp5) hp7; done) | (exact absurd (ent_all0 hp5) hp8; done) | (exact absurd (congrArg EntryD.kind (ent_back hp5).2.2) hp9; done) | (exact absurd (congrArg EntryD.author (ent_back hp5).2.2) hp10; done) | (exact absurd (congrArg EntryD.epoch (ent_back hp5).2.2) hp11; done) | (exact absurd (congrArg (fun e : EntryD => ((List.length e.nums : Nat) : Int)) (ent_back hp5).2.2) hp12; done) | (exact absurd (congrArg (fun e : EntryD => ((List.length e.texts : Nat) : Int)) (ent_back hp5).2.2) hp13; done) | (exact absurd (congrArg EntryD.kind (ent_same hp5 hp14 hp15)) hp16; done) | (exact absurd (congrArg EntryD.author (ent_same hp5 hp14 hp15)) hp17; done) | (exact absurd (congrArg EntryD.epoch (ent_same hp5 hp14 hp15)) hp18; done) | (exact absurd (congrArg EntryD.peer (ent_same hp5 hp14 hp15)) hp19; done) | (exact absurd (congrArg EntryD.phase (ent_same hp5 hp14 hp15)) hp20; done) | (exact absurd (congrArg EntryD.mode (ent_same hp5 hp14 hp15)) hp21; done) | (exact absurd (congrArg EntryD.proof (ent_same hp5 hp14 hp15)) hp22; done) | (exact absurd (vot_ok0 hp6) hp7; done) | (exact vot_sm hp6 hc8; done) | (exact vot_df hp6 hp9 hc10; done) | (exact absurd (vot_ok0 hp7) hp8; done) | (exact vot_sm hp7 hc9; done) | (exact vot_df hp7 hp10 hc11; done) | (exact absurd (vot_ok0 hp8) hp9; done) | (exact vot_sm hp8 hc10; done) | (exact vot_df hp8 hp11 hc12; done) | (exact absurd (vot_ok0 hp9) hp10; done) | (exact vot_sm hp9 hc11; done) | (exact vot_df hp9 hp12 hc13; done) | (exact absurd (vot_ok0 hp10) hp11; done) | (exact vot_sm hp10 hc12; done) | (exact vot_df hp10 hp13 hc14; done) | (exact absurd (vot_ok0 hp11) hp12; done) | (exact vot_sm hp11 hc13; done) | (exact vot_df hp11 hp14 hc15; done) | (exact absurd (vot_ok0 hp12) hp13; done) | (exact vot_sm hp12 hc14; done) | (exact vot_df hp12 hp15 hc16; done) | (exact absurd (vot_ok0 hp13) hp14; done) | (exact vot_sm hp13 hc15; done) | (exact vot_df hp13 hp16 hc17; done) | (exact absurd (vot_ok0 hp14) hp15; done) | (exact vot_sm hp14 hc16; done) | (exact vot_df hp14 hp17 hc18; done) | (exact absurd (vot_ok0 hp15) hp16; done) | (exact vot_sm hp15 hc17; done) | (exact vot_df hp15 hp18 hc19; done) | (exact absurd (vot_ok0 hp16) hp17; done) | (exact vot_sm hp16 hc18; done) | (exact vot_df hp16 hp19 hc20; done) | (exact absurd (vot_ok0 hp17) hp18; done) | (exact vot_sm hp17 hc19; done) | (exact vot_df hp17 hp20 hc21; done) | (exact absurd (vot_ok0 hp18) hp19; done) | (exact vot_sm hp18 hc20; done) | (exact vot_df hp18 hp21 hc22; done) | (exact absurd (vot_ok0 hp19) hp20; done) | (exact vot_sm hp19 hc21; done) | (exact vot_df hp19 hp22 hc23; done) | (exact absurd (vot_ok0 hp20) hp21; done) | (exact vot_sm hp20 hc22; done) | (exact vot_df hp20 hp23 hc24; done) | (exact absurd (vot_ok0 hp21) hp22; done) | (exact vot_sm hp21 hc23; done) | (exact vot_df hp21 hp24 hc25; done) | (exact absurd (vot_ok0 hp22) hp23; done) | (exact vot_sm hp22 hc24; done) | (exact vot_df hp22 hp25 hc26; done) | (exact absurd (vot_ok0 hp23) hp24; done) | (exact vot_sm hp23 hc25; done) | (exact vot_df hp23 hp26 hc27; done) | (exact absurd (vot_ok0 hp24) hp25; done) | (exact vot_sm hp24 hc26; done) | (exact vot_df hp24 hp27 hc28; done) | (exact absurd (vot_ok0 hp25) hp26; done) | (exact vot_sm hp25 hc27; done) | (exact vot_df hp25 hp28 hc29; done) | (with_reducible rfl; done) | (omega; done) | (simp_all; done)) _ _), zb⟩
  rcases bdich (!(sameV (decV (if vt.bad then [] else vt.bytes)) vt)) with hc25 | hc25
  · refine Run.open 23 (Φ := [.ex (i64 (if decVOk (if vt.bad then [] else vt.bytes) then 0 else 3)), .ex (.bool (decide ((if decVOk (if vt.bad then [] else vt.bytes) then 0 else 3 : Int) ≠ (0 : Int)))), .ex (.bool (decide ((if decVOk (if vt.bad then [] else vt.bytes) then 0 else 3 : Int) ≠ (0 : Int)))), .ex (.agg #[i64 ((decV (if vt.bad then [] else vt.bytes)).kind), i64 ((decV (if vt.bad then [] else vt.bytes)).from_), i64 ((decV (if vt.bad then [] else vt.bytes)).slot), i64 ((decV (if vt.bad then [] else vt.bytes)).view), i64 ((decV (if vt.bad then [] else vt.bytes)).valid), .slice A425 (List.length (decV (if vt.bad then [] else vt.bytes)).value) c426]), .ex (.agg #[i64 vt.kind, i64 vt.from_, i64 vt.slot, i64 vt.view, i64 vt.valid, .slice A25 (List.length vt.value) c26]), .v (Is (.bool (sameV (decV (if vt.bad then [] else vt.bytes)) vt))), .ex (.bool (!(sameV (decV (if vt.bad then [] else vt.bytes)) vt))), .ex (.bool (!(sameV (decV (if vt.bad then [] else vt.bytes)) vt))), .ex (.bool (!(sameV (decV (if vt.bad then [] else vt.bytes)) vt))), .ex undef, .ex undef, .ex undef, .ex undef, .ex undef, .ex undef, .ex undef, .ex undef, .ex undef, .ex undef, .ex undef, .ex undef, .ex undef, .ex (.bool true)]) [(22, 235)] mixed (by kernel_rfl) rfl h451 ⟨(oX [] rfl rfl rfl fun _ _ => Does.move rfl), (oX [(0, 213)] rfl rfl rfl fun _ _ => Does.neq rfl rfl), (oX [(1, 214)] rfl rfl rfl fun _ _ => Does.move rfl), ?_, ?_, ?_, ?_, (oX [(2, 215), (6, 219)] rfl rfl rfl fun _ _ => Does.pick_b rfl (decide_eq_false hp24) rfl), (oX [(7, 220)] rfl rfl rfl fun _ _ => Does.move rfl), (oOff rfl rfl rfl rfl hc25 rfl rfl), (oOff rfl rfl rfl rfl hc25 rfl rfl), (oOff rfl rfl rfl rfl hc25 rfl rfl), (oOffU rfl rfl rfl rfl rfl), (oOffU rfl rfl rfl rfl rfl), (oOffU rfl rfl rfl rfl rfl), (oOffU rfl rfl rfl rfl rfl), (oOffU rfl rfl rfl rfl rfl), (oOffU rfl rfl rfl rfl rfl), (oOffU rfl rfl rfl rfl rfl), (oOffU rfl rfl rfl rfl rfl), (oOffU rfl rfl rfl rfl rfl), (oOff rfl rfl rfl rfl hc25 rfl rfl), (oX [(8, 221)] rfl rfl rfl fun _ _ => Does.pick_b rfl hc25 rfl), trivial⟩ (fun L605 w606 h607 s608 => ?_)
    · refine oP_on [] rfl rfl rfl rfl (decide_eq_false hp24) rfl fun L563 w564 h565 s566 => ?_
      have c568 := s450.trans s566
      have o567 := o436.up c568
      exact ⟨_, Does.load_ownN [i64 ((decV (if vt.bad then [] else vt.bytes)).kind), i64 ((decV (if vt.bad then [] else vt.bytes)).from_), i64 ((decV (if vt.bad then [] else vt.bytes)).slot), i64 ((decV (if vt.bad then [] else vt.bytes)).view), i64 ((decV (if vt.bad then [] else vt.bytes)).valid), .slice A425 (List.length (decV (if vt.bad then [] else vt.bytes)).value) c426] o567 ty24 rfl rfl, rfl⟩
    · refine oP_on [] rfl rfl rfl rfl (decide_eq_false hp24) rfl fun L569 w570 h571 s572 => ?_
      have c574 := s450.trans s572
      have c575 := c442.trans c574
      have o573 := o397.up c575
      exact ⟨_, Does.load_ownN [i64 vt.kind, i64 vt.from_, i64 vt.slot, i64 vt.view, i64 vt.valid, .slice A25 (List.length vt.value) c26] o573 ty24 rfl rfl, rfl⟩
    · refine oC_on [(3, 216), (4, 217)] rfl rfl rfl rfl (decide_eq_false hp24) rfl cal29 fun L576 w577 h578 s579 => ?_
      have c581 := s450.trans s579
      have c582 := c440.trans c581
      have q583 := up c582 q427
      have q580 : VoteV (decV (if vt.bad then [] else vt.bytes)) L576 w577 (.agg #[i64 ((decV (if vt.bad then [] else vt.bytes)).kind), i64 ((decV (if vt.bad then [] else vt.bytes)).from_), i64 ((decV (if vt.bad then [] else vt.bytes)).slot), i64 ((decV (if vt.bad then [] else vt.bytes)).view), i64 ((decV (if vt.bad then [] else vt.bytes)).valid), .slice A425 (List.length (decV (if vt.bad then [] else vt.bytes)).value) c426]) := VoteV.mk q583
      have c585 := c442.trans c581
      have q586 := up c585 q403
      have q584 : VoteV vt L576 w577 (.agg #[i64 vt.kind, i64 vt.from_, i64 vt.slot, i64 vt.view, i64 vt.valid, .slice A25 (List.length vt.value) c26]) := VoteV.mk q586
      exact ⟨_, rfl, (wire_Same h578 q580 q584)⟩
    · refine oP_on [(5, 218)] rfl rfl rfl rfl (decide_eq_false hp24) rfl fun L587 w588 h589 s590 v591 q592 => ?_
      have q592 := Is.out q592; subst q592
      exact ⟨_, Does.not rfl, rfl⟩
    refine Seq.next ?_
    refine Run.cond_b rfl rfl ?_
    refine rsr ?_
    refine sv (Does.assign rfl) ?_
    refine Seq.next ?_
    have c609 := s450.trans s608
    have c610 := c445.trans c609
    obtain ⟨⟨zU, zo⟩, zb⟩ := hX c610 (by decide)
    refine Run.ret (ret_then ?_)
    exact post_one Try.results6 rfl ⟨_, rfl, (isBool (by first | (exact absurd (ent_ok0 hp5) hp6; done) | (exact absurd (ent_no0 hp5) hp7; done) | (exact absurd (ent_all0 hp5) hp8; done) | (exact absurd (congrArg EntryD.kind (ent_back hp5).2.2) hp9; done) | (exact absurd (congrArg EntryD.author (ent_back hp5).2.2) hp10; done) | (exact absurd (congrArg EntryD.epoch (ent_back hp5).2.2) hp11; done) | (exact absurd (congrArg (fun e : EntryD => ((List.length e.nums : Nat) : Int)) (ent_back hp5).2.2) hp12; done) | (exact absurd (congrArg (fun e : EntryD => ((List.length e.texts : Nat) : Int)) (ent_back hp5).2.2) hp13; done) | (exact absurd (congrArg EntryD.kind (ent_same hp5 hp14 hp15)) hp16; done) | (exact absurd (congrArg EntryD.author (ent_same hp5 hp14 hp15)) hp17; done) | (exact absurd (congrArg EntryD.epoch (ent_same hp5 hp14 hp15)) hp18; done) | (exact absurd (congrArg EntryD.peer (ent_same hp5 hp14 hp15)) hp19; done) | (exact absurd (congrArg EntryD.phase (ent_same hp5 hp14 hp15)) hp20; done) | (exact absurd (congrArg EntryD.mode (ent_same hp5 hp14 hp15)) hp21; done) | (exact absurd (congrArg EntryD.proof (ent_same hp5 hp14 hp15)) hp22; done) | (exact absurd (vot_ok0 hp6) hp7; done) | (exact vot_sm hp6 hc8; done) | (exact vot_df hp6 hp9 hc10; done) | (exact absurd (vot_ok0 hp7) hp8; done) | (exact vot_sm hp7 hc9; done) | (exact vot_df hp7 hp10 hc11; done) | (exact absurd (vot_ok0 hp8) hp9; done) | (exact vot_sm hp8 hc10; done) | (exact vot_df hp8 hp11 hc12; done) | (exact absurd (vot_ok0 hp9) hp10; done) | (exact vot_sm hp9 hc11; done) | (exact vot_df hp9 hp12 hc13; done) | (exact absurd (vot_ok0 hp10) hp11; done) | (exact vot_sm hp10 hc12; done) | (exact vot_df hp10 hp13 hc14; done) | (exact absurd (vot_ok0 hp11) hp12; done) | (exact vot_sm hp11 hc13; done) | (exact vot_df hp11 hp14 hc15; done) | (exact absurd (vot_ok0 hp12) hp13; done) | (exact vot_sm hp12 hc14; done) | (exact vot_df hp12 hp15 hc16; done) | (exact absurd (vot_ok0 hp13) hp14; done) | (exact vot_sm hp13 hc15; done) | (exact vot_df hp13 hp16 hc17; done) | (exact absurd (vot_ok0 hp14) hp15; done) | (exact vot_sm hp14 hc16; done) | (exact vot_df hp14 hp17 hc18; done) | (exact absurd (vot_ok0 hp15) hp16; done) | (exact vot_sm hp15 hc17; done) | (exact vot_df hp15 hp18 hc19; done) | (exact absurd (vot_ok0 hp16) hp17; done) | (exact vot_sm hp16 hc18; done) | (exact vot_df hp16 hp19 hc20; done) | (exact absurd (vot_ok0 hp17) hp18; done) | (exact vot_sm hp17 hc19; done) | (exact vot_df hp17 hp20 hc21; done) | (exact absurd (vot_ok0 hp18) hp19; done) | (exact vot_sm hp18 hc20; done) | (exact vot_df hp18 hp21 hc22; done) | (exact absurd (vot_ok0 hp19) hp20; done) | (exact vot_sm hp19 hc21; done) | (exact vot_df hp19 hp22 hc23; done) | (exact absurd (vot_ok0 hp20) hp21; done) | (exact vot_sm hp20 hc22; done) | (exact vot_df hp20 hp23 hc24; done) | (exact absurd (vot_ok0 hp21) hp22; done) | (exact vot_sm hp21 hc23; done) | (exact vot_df hp21 hp24 hc25; done) | (exact absurd (vot_ok0 hp22) hp23; done) | (exact vot_sm hp22 hc24; done) | (exact vot_df hp22 hp25 hc26; done) | (exact absurd (vot_ok0 hp23) hp24; done) | (exact vot_sm hp23 hc25; done) | (exact vot_df hp23 hp26 hc27; done) | (exact absurd (vot_ok0 hp24) hp25; done) | (exact vot_sm hp24 hc26; done) | (exact vot_df hp24 hp27 hc28; done) | (exact absurd (vot_ok0 hp25) hp26; done) | (exact vot_sm hp25 hc27; done) | (exact vot_df hp25 hp28 hc29; done) | (with_reducible rfl; done) | (omega; done) | (simp_all; done)) _ _), zb⟩
  rcases Decidable.em ((if vu.bad then 3 else 0 : Int) = (0 : Int)) with hp26 | hp26
  rotate_left
  · refine Run.open 23 (Φ := [.ex (i64 (if decVOk (if vt.bad then [] else vt.bytes) then 0 else 3)), .ex (.bool (decide ((if decVOk (if vt.bad then [] else vt.bytes) then 0 else 3 : Int) ≠ (0 : Int)))), .ex (.bool (decide ((if decVOk (if vt.bad then [] else vt.bytes) then 0 else 3 : Int) ≠ (0 : Int)))), .ex (.agg #[i64 ((decV (if vt.bad then [] else vt.bytes)).kind), i64 ((decV (if vt.bad then [] else vt.bytes)).from_), i64 ((decV (if vt.bad then [] else vt.bytes)).slot), i64 ((decV (if vt.bad then [] else vt.bytes)).view), i64 ((decV (if vt.bad then [] else vt.bytes)).valid), .slice A425 (List.length (decV (if vt.bad then [] else vt.bytes)).value) c426]), .ex (.agg #[i64 vt.kind, i64 vt.from_, i64 vt.slot, i64 vt.view, i64 vt.valid, .slice A25 (List.length vt.value) c26]), .v (Is (.bool (sameV (decV (if vt.bad then [] else vt.bytes)) vt))), .ex (.bool (!(sameV (decV (if vt.bad then [] else vt.bytes)) vt))), .ex (.bool (!(sameV (decV (if vt.bad then [] else vt.bytes)) vt))), .ex (.bool (!(sameV (decV (if vt.bad then [] else vt.bytes)) vt))), .ex (i64 (if vu.bad then 3 else 0)), .ex (.bool (decide ((if vu.bad then 3 else 0 : Int) = (0 : Int)))), .ex (.bool (decide ((if vu.bad then 3 else 0 : Int) = (0 : Int)))), .ex undef, .ex undef, .ex undef, .ex undef, .ex undef, .ex undef, .ex undef, .ex undef, .ex undef, .ex (.bool false), .ex (.bool false)]) [(22, 235)] mixed (by kernel_rfl) rfl h451 ⟨(oX [] rfl rfl rfl fun _ _ => Does.move rfl), (oX [(0, 213)] rfl rfl rfl fun _ _ => Does.neq rfl rfl), (oX [(1, 214)] rfl rfl rfl fun _ _ => Does.move rfl), ?_, ?_, ?_, ?_, (oX [(2, 215), (6, 219)] rfl rfl rfl fun _ _ => Does.pick_b rfl (decide_eq_false hp24) rfl), (oX [(7, 220)] rfl rfl rfl fun _ _ => Does.move rfl), ?_, ?_, ?_, (oOff rfl rfl rfl rfl (decide_eq_false hp26) rfl rfl), (oOff rfl rfl rfl rfl (decide_eq_false hp26) rfl rfl), (oOff rfl rfl rfl rfl (decide_eq_false hp26) rfl rfl), (oOff rfl rfl rfl rfl (decide_eq_false hp26) rfl rfl), (oOff rfl rfl rfl rfl (decide_eq_false hp26) rfl rfl), (oOff rfl rfl rfl rfl (decide_eq_false hp26) rfl rfl), (oOff rfl rfl rfl rfl (decide_eq_false hp26) rfl rfl), (oOff rfl rfl rfl rfl (decide_eq_false hp26) rfl rfl), (oOff rfl rfl rfl rfl (decide_eq_false hp26) rfl rfl), ?_, (oX [(8, 221), (21, 234)] rfl rfl rfl fun _ _ => Does.pick_b rfl hc25 rfl), trivial⟩ (fun L874 w875 h876 s877 => ?_)
    · refine oP_on [] rfl rfl rfl rfl (decide_eq_false hp24) rfl fun L816 w817 h818 s819 => ?_
      have c821 := s450.trans s819
      have o820 := o436.up c821
      exact ⟨_, Does.load_ownN [i64 ((decV (if vt.bad then [] else vt.bytes)).kind), i64 ((decV (if vt.bad then [] else vt.bytes)).from_), i64 ((decV (if vt.bad then [] else vt.bytes)).slot), i64 ((decV (if vt.bad then [] else vt.bytes)).view), i64 ((decV (if vt.bad then [] else vt.bytes)).valid), .slice A425 (List.length (decV (if vt.bad then [] else vt.bytes)).value) c426] o820 ty24 rfl rfl, rfl⟩
    · refine oP_on [] rfl rfl rfl rfl (decide_eq_false hp24) rfl fun L822 w823 h824 s825 => ?_
      have c827 := s450.trans s825
      have c828 := c442.trans c827
      have o826 := o397.up c828
      exact ⟨_, Does.load_ownN [i64 vt.kind, i64 vt.from_, i64 vt.slot, i64 vt.view, i64 vt.valid, .slice A25 (List.length vt.value) c26] o826 ty24 rfl rfl, rfl⟩
    · refine oC_on [(3, 216), (4, 217)] rfl rfl rfl rfl (decide_eq_false hp24) rfl cal29 fun L829 w830 h831 s832 => ?_
      have c834 := s450.trans s832
      have c835 := c440.trans c834
      have q836 := up c835 q427
      have q833 : VoteV (decV (if vt.bad then [] else vt.bytes)) L829 w830 (.agg #[i64 ((decV (if vt.bad then [] else vt.bytes)).kind), i64 ((decV (if vt.bad then [] else vt.bytes)).from_), i64 ((decV (if vt.bad then [] else vt.bytes)).slot), i64 ((decV (if vt.bad then [] else vt.bytes)).view), i64 ((decV (if vt.bad then [] else vt.bytes)).valid), .slice A425 (List.length (decV (if vt.bad then [] else vt.bytes)).value) c426]) := VoteV.mk q836
      have c838 := c442.trans c834
      have q839 := up c838 q403
      have q837 : VoteV vt L829 w830 (.agg #[i64 vt.kind, i64 vt.from_, i64 vt.slot, i64 vt.view, i64 vt.valid, .slice A25 (List.length vt.value) c26]) := VoteV.mk q839
      exact ⟨_, rfl, (wire_Same h831 q833 q837)⟩
    · refine oP_on [(5, 218)] rfl rfl rfl rfl (decide_eq_false hp24) rfl fun L840 w841 h842 s843 v844 q845 => ?_
      have q845 := Is.out q845; subst q845
      exact ⟨_, Does.not rfl, rfl⟩
    · refine oP_on [] rfl rfl rfl rfl hc25 rfl fun L854 w855 h856 s857 => ?_
      exact ⟨_, Does.move rfl, rfl⟩
    · refine oP_on [(9, 222)] rfl rfl rfl rfl hc25 rfl fun L858 w859 h860 s861 => ?_
      exact ⟨_, Does.eql rfl rfl, rfl⟩
    · refine oP_on [(10, 223)] rfl rfl rfl rfl hc25 rfl fun L862 w863 h864 s865 => ?_
      exact ⟨_, Does.move rfl, rfl⟩
    · refine oP_on [(11, 224)] rfl rfl rfl rfl hc25 rfl fun L866 w867 h868 s869 => ?_
      exact ⟨_, Does.pick_b rfl (decide_eq_false hp26) rfl, rfl⟩
    refine Seq.next ?_
    refine Run.cond_b rfl rfl ?_
    refine Run.skip_go (fun _ _ h => h) ?_
    refine rsr ?_
    refine sv (Does.assign rfl) ?_
    refine Seq.next ?_
    have c878 := s450.trans s877
    have c879 := c445.trans c878
    obtain ⟨⟨zU, zo⟩, zb⟩ := hX c879 (by decide)
    refine Run.ret ?_
    exact post_one Try.results6 rfl ⟨_, rfl, rfl, zb⟩
  refine Run.open 23 (Φ := [.ex (i64 (if decVOk (if vt.bad then [] else vt.bytes) then 0 else 3)), .ex (.bool (decide ((if decVOk (if vt.bad then [] else vt.bytes) then 0 else 3 : Int) ≠ (0 : Int)))), .ex (.bool (decide ((if decVOk (if vt.bad then [] else vt.bytes) then 0 else 3 : Int) ≠ (0 : Int)))), .ex (.agg #[i64 ((decV (if vt.bad then [] else vt.bytes)).kind), i64 ((decV (if vt.bad then [] else vt.bytes)).from_), i64 ((decV (if vt.bad then [] else vt.bytes)).slot), i64 ((decV (if vt.bad then [] else vt.bytes)).view), i64 ((decV (if vt.bad then [] else vt.bytes)).valid), .slice A425 (List.length (decV (if vt.bad then [] else vt.bytes)).value) c426]), .ex (.agg #[i64 vt.kind, i64 vt.from_, i64 vt.slot, i64 vt.view, i64 vt.valid, .slice A25 (List.length vt.value) c26]), .v (Is (.bool (sameV (decV (if vt.bad then [] else vt.bytes)) vt))), .ex (.bool (!(sameV (decV (if vt.bad then [] else vt.bytes)) vt))), .ex (.bool (!(sameV (decV (if vt.bad then [] else vt.bytes)) vt))), .ex (.bool (!(sameV (decV (if vt.bad then [] else vt.bytes)) vt))), .ex (i64 (if vu.bad then 3 else 0)), .ex (.bool (decide ((if vu.bad then 3 else 0 : Int) = (0 : Int)))), .ex (.bool (decide ((if vu.bad then 3 else 0 : Int) = (0 : Int)))), .ex (.slice A456 (List.length (if vu.bad then [] else vu.bytes)) c457), .ex (str (if vu.bad then [] else vu.bytes)), .ex (.slice A413 (List.length (if vt.bad then [] else vt.bytes)) c414), .ex (str (if vt.bad then [] else vt.bytes)), .ex (.bool (decide ((if vu.bad then [] else vu.bytes) = (if vt.bad then [] else vt.bytes)))), .ex (.agg #[i64 vu.kind, i64 vu.from_, i64 vu.slot, i64 vu.view, i64 vu.valid, .slice A29 (List.length vu.value) c30]), .ex (.agg #[i64 vt.kind, i64 vt.from_, i64 vt.slot, i64 vt.view, i64 vt.valid, .slice A25 (List.length vt.value) c26]), .v (Is (.bool (sameV vu vt))), .ex (.bool (!((decide ((if vu.bad then [] else vu.bytes) = (if vt.bad then [] else vt.bytes))) == (sameV vu vt)))), .ex (.bool (!((decide ((if vu.bad then [] else vu.bytes) = (if vt.bad then [] else vt.bytes))) == (sameV vu vt)))), .ex (.bool (!((decide ((if vu.bad then [] else vu.bytes) = (if vt.bad then [] else vt.bytes))) == (sameV vu vt))))]) [(22, 235)] mixed (by kernel_rfl) rfl h451 ⟨(oX [] rfl rfl rfl fun _ _ => Does.move rfl), (oX [(0, 213)] rfl rfl rfl fun _ _ => Does.neq rfl rfl), (oX [(1, 214)] rfl rfl rfl fun _ _ => Does.move rfl), ?_, ?_, ?_, ?_, (oX [(2, 215), (6, 219)] rfl rfl rfl fun _ _ => Does.pick_b rfl (decide_eq_false hp24) rfl), (oX [(7, 220)] rfl rfl rfl fun _ _ => Does.move rfl), ?_, ?_, ?_, ?_, ?_, ?_, ?_, ?_, ?_, ?_, ?_, ?_, ?_, (oX [(8, 221), (21, 234)] rfl rfl rfl fun _ _ => Does.pick_b rfl hc25 rfl), trivial⟩ (fun L796 w797 h798 s799 => ?_)
  · refine oP_on [] rfl rfl rfl rfl (decide_eq_false hp24) rfl fun L685 w686 h687 s688 => ?_
    have c690 := s450.trans s688
    have o689 := o436.up c690
    exact ⟨_, Does.load_ownN [i64 ((decV (if vt.bad then [] else vt.bytes)).kind), i64 ((decV (if vt.bad then [] else vt.bytes)).from_), i64 ((decV (if vt.bad then [] else vt.bytes)).slot), i64 ((decV (if vt.bad then [] else vt.bytes)).view), i64 ((decV (if vt.bad then [] else vt.bytes)).valid), .slice A425 (List.length (decV (if vt.bad then [] else vt.bytes)).value) c426] o689 ty24 rfl rfl, rfl⟩
  · refine oP_on [] rfl rfl rfl rfl (decide_eq_false hp24) rfl fun L691 w692 h693 s694 => ?_
    have c696 := s450.trans s694
    have c697 := c442.trans c696
    have o695 := o397.up c697
    exact ⟨_, Does.load_ownN [i64 vt.kind, i64 vt.from_, i64 vt.slot, i64 vt.view, i64 vt.valid, .slice A25 (List.length vt.value) c26] o695 ty24 rfl rfl, rfl⟩
  · refine oC_on [(3, 216), (4, 217)] rfl rfl rfl rfl (decide_eq_false hp24) rfl cal29 fun L698 w699 h700 s701 => ?_
    have c703 := s450.trans s701
    have c704 := c440.trans c703
    have q705 := up c704 q427
    have q702 : VoteV (decV (if vt.bad then [] else vt.bytes)) L698 w699 (.agg #[i64 ((decV (if vt.bad then [] else vt.bytes)).kind), i64 ((decV (if vt.bad then [] else vt.bytes)).from_), i64 ((decV (if vt.bad then [] else vt.bytes)).slot), i64 ((decV (if vt.bad then [] else vt.bytes)).view), i64 ((decV (if vt.bad then [] else vt.bytes)).valid), .slice A425 (List.length (decV (if vt.bad then [] else vt.bytes)).value) c426]) := VoteV.mk q705
    have c707 := c442.trans c703
    have q708 := up c707 q403
    have q706 : VoteV vt L698 w699 (.agg #[i64 vt.kind, i64 vt.from_, i64 vt.slot, i64 vt.view, i64 vt.valid, .slice A25 (List.length vt.value) c26]) := VoteV.mk q708
    exact ⟨_, rfl, (wire_Same h700 q702 q706)⟩
  · refine oP_on [(5, 218)] rfl rfl rfl rfl (decide_eq_false hp24) rfl fun L709 w710 h711 s712 v713 q714 => ?_
    have q714 := Is.out q714; subst q714
    exact ⟨_, Does.not rfl, rfl⟩
  · refine oP_on [] rfl rfl rfl rfl hc25 rfl fun L723 w724 h725 s726 => ?_
    exact ⟨_, Does.move rfl, rfl⟩
  · refine oP_on [(9, 222)] rfl rfl rfl rfl hc25 rfl fun L727 w728 h729 s730 => ?_
    exact ⟨_, Does.eql rfl rfl, rfl⟩
  · refine oP_on [(10, 223)] rfl rfl rfl rfl hc25 rfl fun L731 w732 h733 s734 => ?_
    exact ⟨_, Does.move rfl, rfl⟩
  · refine oP_on [] rfl rfl rfl rfl (decide_eq_true hp26) rfl fun L735 w736 h737 s738 => ?_
    exact ⟨_, Does.move rfl, rfl⟩
  · refine oP_on [(12, 225)] rfl rfl rfl rfl (decide_eq_true hp26) rfl fun L739 w740 h741 s742 => ?_
    have q743 := up s742 q454
    exact ⟨_, Does.conv_str Try.underlying22 Try.underlying5 Try.underlying9 rfl q743, rfl⟩
  · refine oP_on [] rfl rfl rfl rfl (decide_eq_true hp26) rfl fun L744 w745 h746 s747 => ?_
    exact ⟨_, Does.move rfl, rfl⟩
  · refine oP_on [(14, 227)] rfl rfl rfl rfl (decide_eq_true hp26) rfl fun L748 w749 h750 s751 => ?_
    have c752 := s450.trans s751
    have c753 := c441.trans c752
    have q754 := up c753 q411
    exact ⟨_, Does.conv_str Try.underlying22 Try.underlying5 Try.underlying9 rfl q754, rfl⟩
  · refine oP_on [(13, 226), (15, 228)] rfl rfl rfl rfl (decide_eq_true hp26) rfl fun L755 w756 h757 s758 => ?_
    exact ⟨_, Does.str_eql rfl rfl, rfl⟩
  · refine oP_on [] rfl rfl rfl rfl (decide_eq_true hp26) rfl fun L759 w760 h761 s762 => ?_
    have c764 := s450.trans s762
    have o763 := o439.up c764
    exact ⟨_, Does.load_ownN [i64 vu.kind, i64 vu.from_, i64 vu.slot, i64 vu.view, i64 vu.valid, .slice A29 (List.length vu.value) c30] o763 ty24 rfl rfl, rfl⟩
  · refine oP_on [] rfl rfl rfl rfl (decide_eq_true hp26) rfl fun L765 w766 h767 s768 => ?_
    have c770 := s450.trans s768
    have c771 := c442.trans c770
    have o769 := o397.up c771
    exact ⟨_, Does.load_ownN [i64 vt.kind, i64 vt.from_, i64 vt.slot, i64 vt.view, i64 vt.valid, .slice A25 (List.length vt.value) c26] o769 ty24 rfl rfl, rfl⟩
  · refine oC_on [(17, 230), (18, 231)] rfl rfl rfl rfl (decide_eq_true hp26) rfl cal29 fun L772 w773 h774 s775 => ?_
    have c777 := s450.trans s775
    have q778 := up c777 q446
    have q776 : VoteV vu L772 w773 (.agg #[i64 vu.kind, i64 vu.from_, i64 vu.slot, i64 vu.view, i64 vu.valid, .slice A29 (List.length vu.value) c30]) := VoteV.mk q778
    have c780 := c442.trans c777
    have q781 := up c780 q403
    have q779 : VoteV vt L772 w773 (.agg #[i64 vt.kind, i64 vt.from_, i64 vt.slot, i64 vt.view, i64 vt.valid, .slice A25 (List.length vt.value) c26]) := VoteV.mk q781
    exact ⟨_, rfl, (wire_Same h774 q776 q779)⟩
  · refine oP_on [(16, 229), (19, 232)] rfl rfl rfl rfl (decide_eq_true hp26) rfl fun L782 w783 h784 s785 v786 q787 => ?_
    have q787 := Is.out q787; subst q787
    exact ⟨_, Does.bool_neq Try.underlying4 rfl rfl, rfl⟩
  · refine oP_on [(11, 224), (20, 233)] rfl rfl rfl rfl hc25 rfl fun L788 w789 h790 s791 => ?_
    exact ⟨_, Does.pick_b rfl (decide_eq_true hp26) rfl, rfl⟩
  refine Seq.next ?_
  rcases bdich (!((decide ((if vu.bad then [] else vu.bytes) = (if vt.bad then [] else vt.bytes))) == (sameV vu vt))) with hc27 | hc27
  rotate_left
  · refine Run.cond_b rfl hc27 ?_
    refine Run.skip_go (fun _ _ h => h) ?_
    refine rsr ?_
    refine sv (Does.assign rfl) ?_
    refine Seq.next ?_
    have c802 := s450.trans s799
    have c803 := c445.trans c802
    obtain ⟨⟨zU, zo⟩, zb⟩ := hX c803 (by decide)
    refine Run.ret ?_
    exact post_one Try.results6 rfl ⟨_, rfl, rfl, zb⟩
  refine Run.cond_b rfl hc27 ?_
  refine rsr ?_
  refine sv (Does.assign rfl) ?_
  refine Seq.next ?_
  have c800 := s450.trans s799
  have c801 := c445.trans c800
  obtain ⟨⟨zU, zo⟩, zb⟩ := hX c801 (by decide)
  refine Run.ret (ret_then ?_)
  exact post_one Try.results6 rfl ⟨_, rfl, (isBool (by first | (exact absurd (ent_ok0 hp5) hp6; done) | (exact absurd (ent_no0 hp5) hp7; done) | (exact absurd (ent_all0 hp5) hp8; done) | (exact absurd (congrArg EntryD.kind (ent_back hp5).2.2) hp9; done) | (exact absurd (congrArg EntryD.author (ent_back hp5).2.2) hp10; done) | (exact absurd (congrArg EntryD.epoch (ent_back hp5).2.2) hp11; done) | (exact absurd (congrArg (fun e : EntryD => ((List.length e.nums : Nat) : Int)) (ent_back hp5).2.2) hp12; done) | (exact absurd (congrArg (fun e : EntryD => ((List.length e.texts : Nat) : Int)) (ent_back hp5).2.2) hp13; done) | (exact absurd (congrArg EntryD.kind (ent_same hp5 hp14 hp15)) hp16; done) | (exact absurd (congrArg EntryD.author (ent_same hp5 hp14 hp15)) hp17; done) | (exact absurd (congrArg EntryD.epoch (ent_same hp5 hp14 hp15)) hp18; done) | (exact absurd (congrArg EntryD.peer (ent_same hp5 hp14 hp15)) hp19; done) | (exact absurd (congrArg EntryD.phase (ent_same hp5 hp14 hp15)) hp20; done) | (exact absurd (congrArg EntryD.mode (ent_same hp5 hp14 hp15)) hp21; done) | (exact absurd (congrArg EntryD.proof (ent_same hp5 hp14 hp15)) hp22; done) | (exact absurd (vot_ok0 hp6) hp7; done) | (exact vot_sm hp6 hc8; done) | (exact vot_df hp6 hp9 hc10; done) | (exact absurd (vot_ok0 hp7) hp8; done) | (exact vot_sm hp7 hc9; done) | (exact vot_df hp7 hp10 hc11; done) | (exact absurd (vot_ok0 hp8) hp9; done) | (exact vot_sm hp8 hc10; done) | (exact vot_df hp8 hp11 hc12; done) | (exact absurd (vot_ok0 hp9) hp10; done) | (exact vot_sm hp9 hc11; done) | (exact vot_df hp9 hp12 hc13; done) | (exact absurd (vot_ok0 hp10) hp11; done) | (exact vot_sm hp10 hc12; done) | (exact vot_df hp10 hp13 hc14; done) | (exact absurd (vot_ok0 hp11) hp12; done) | (exact vot_sm hp11 hc13; done) | (exact vot_df hp11 hp14 hc15; done) | (exact absurd (vot_ok0 hp12) hp13; done) | (exact vot_sm hp12 hc14; done) | (exact vot_df hp12 hp15 hc16; done) | (exact absurd (vot_ok0 hp13) hp14; done) | (exact vot_sm hp13 hc15; done) | (exact vot_df hp13 hp16 hc17; done) | (exact absurd (vot_ok0 hp14) hp15; done) | (exact vot_sm hp14 hc16; done) | (exact vot_df hp14 hp17 hc18; done) | (exact absurd (vot_ok0 hp15) hp16; done) | (exact vot_sm hp15 hc17; done) | (exact vot_df hp15 hp18 hc19; done) | (exact absurd (vot_ok0 hp16) hp17; done) | (exact vot_sm hp16 hc18; done) | (exact vot_df hp16 hp19 hc20; done) | (exact absurd (vot_ok0 hp17) hp18; done) | (exact vot_sm hp17 hc19; done) | (exact vot_df hp17 hp20 hc21; done) | (exact absurd (vot_ok0 hp18) hp19; done) | (exact vot_sm hp18 hc20; done) | (exact vot_df hp18 hp21 hc22; done) | (exact absurd (vot_ok0 hp19) hp20; done) | (exact vot_sm hp19 hc21; done) | (exact vot_df hp19 hp22 hc23; done) | (exact absurd (vot_ok0 hp20) hp21; done) | (exact vot_sm hp20 hc22; done) | (exact vot_df hp20 hp23 hc24; done) | (exact absurd (vot_ok0 hp21) hp22; done) | (exact vot_sm hp21 hc23; done) | (exact vot_df hp21 hp24 hc25; done) | (exact absurd (vot_ok0 hp22) hp23; done) | (exact vot_sm hp22 hc24; done) | (exact vot_df hp22 hp25 hc26; done) | (exact absurd (vot_ok0 hp23) hp24; done) | (exact vot_sm hp23 hc25; done) | (exact vot_df hp23 hp26 hc27; done) | (exact absurd (vot_ok0 hp24) hp25; done) | (exact vot_sm hp24 hc26; done) | (exact vot_df hp24 hp27 hc28; done) | (exact absurd (vot_ok0 hp25) hp26; done) | (exact vot_sm hp25 hc27; done) | (exact vot_df hp25 hp28 hc29; done) | (with_reducible rfl; done) | (omega; done) | (simp_all; done)) _ _), zb⟩

end Go.Proofs.Ytgfomedobfaidaa
