/-
  The walks of some functions: what each call comes to.
-/
import Derived.Test.YtgfomedobfaidaaOf
import Derived.Test.YtgfomedobfaidaaEnt1
import Derived.Test.YtgfomedobfaidaaRef17
set_option linter.unusedVariables false
set_option linter.unusedSimpArgs false
set_option maxRecDepth 100000
namespace Go.Proofs.Ytgfomedobfaidaa
open Go.RowKit

theorem law17_of {lab : Lab} {w : World} (hv : Valid lab w) {p : PlainD} {v0 : Value} (h0 : PlainV p lab w v0) (hN : List.length p.nums ≤ 100) :
    Calls Try.prog 24 #[v0] w (fun e w' => ∃ v, e = .returned v ∧ (And2 (EntryV (ofE p)) (RentryV (EntryD.ref (ofE p)))) lab w' v ∧ Below w.heap.size w w') := by
  obtain ⟨L0, h0L, ⟨zU0, z00⟩, hX⟩ := enter0 hv
  replace h0 := up z00 h0
  obtain ⟨A1, c2, A4, c5, A7, c8, rfl, q3, q6, q9⟩ := PlainV.open h0
  have z10 := RowsV.cap q3
  have z11 := RowsV.cap q6
  have z12 := BytesV.cap q9
  have hol := of_len p
  refine calls_run Try.func24 rfl Try.ntmps24 (Nat.le_of_ble_eq_true rfl) ?_
  refine rsr ?_
  refine sbox 2 [i64 p.kind, i64 p.author, i64 p.epoch, i64 p.mode, i64 p.peer, i64 p.phase, .slice A1 (List.length p.nums) c2, .slice A4 (List.length p.texts) c5, .slice A7 (List.length p.proof) c8] h0L rfl rfl fun b15 L13 w14 o16 s17 h18 => ?_
  refine salloc 3 [.int .i64 0, .int .i64 0, .int .i64 0, .int .i64 0, .int .i64 0, .int .i64 0, .slice none 0 0, .slice none 0 0, .slice none 0 0] h18 ty40 rfl fun b21 L19 w20 o22 s23 h24 => ?_
  refine salloc 4 [.int .i64 0, .int .i64 0, .int .i64 0, .int .i64 0, .int .i64 0, .int .i64 0, .slice none 0 0, .slice none 0 0, .slice none 0 0] h24 ty43 rfl fun b27 L25 w26 o28 s29 h30 => ?_
  refine nsr ?_
  refine sv (Does.fieldAddr' 0 Try.underlying36 rfl ty3 rfl rfl) ?_
  have c32 := s23.trans s29
  have o31 := o16.up c32
  refine sv (Does.load_own1 o31 ty3 rfl rfl) ?_
  refine sv (Does.fieldAddr' 1 Try.underlying36 rfl ty3 rfl rfl) ?_
  refine sv (Does.load_own1 o31 ty3 rfl rfl) ?_
  refine sv (Does.fieldAddr' 2 Try.underlying36 rfl ty3 rfl rfl) ?_
  refine sv (Does.load_own1 o31 ty3 rfl rfl) ?_
  refine sv (Does.fieldAddr' 3 Try.underlying36 rfl ty3 rfl rfl) ?_
  refine sv (Does.load_own1 o31 ty3 rfl rfl) ?_
  refine sv (Does.fieldAddr' 4 Try.underlying36 rfl ty3 rfl rfl) ?_
  refine sv (Does.load_own1 o31 ty3 rfl rfl) ?_
  refine sv (Does.fieldAddr' 5 Try.underlying36 rfl ty3 rfl rfl) ?_
  refine sv (Does.load_own1 o31 ty3 rfl rfl) ?_
  refine sv (Does.fieldAddr' 7 Try.underlying36 rfl ty34 rfl rfl) ?_
  refine sv (Does.load_own1 o31 ty34 rfl rfl) ?_
  refine sv (Does.fieldAddr' 8 Try.underlying36 rfl ty22 rfl rfl) ?_
  refine sv (Does.load_own1 o31 ty22 rfl rfl) ?_
  refine sv (Does.build [(0, i64 p.kind), (1, i64 p.author), (2, i64 p.epoch), (3, i64 p.mode), (4, i64 p.peer), (5, i64 p.phase), (7, .slice A4 (List.length p.texts) c5), (8, .slice A7 (List.length p.proof) c8)] [(0, 1), (1, 1), (2, 1), (3, 1), (4, 1), (5, 1), (6, 1), (7, 1), (8, 1)] [i64 p.kind, i64 p.author, i64 p.epoch, i64 p.mode, i64 p.peer, i64 p.phase, .slice none 0 0, .slice A4 (List.length p.texts) c5, .slice A7 (List.length p.proof) c8] Try.underlying40 ty40 (by kernel_rfl) rfl (by kernel_rfl)) ?_
  refine salloc 5 [.int .i64 0, .int .i64 0, .int .i64 0, .int .i64 0, .int .i64 0, .int .i64 0, .slice none 0 0, .slice none 0 0, .slice none 0 0] h30 ty40 rfl fun b35 L33 w34 o36 s37 h38 => ?_
  refine sstore [i64 p.kind, i64 p.author, i64 p.epoch, i64 p.mode, i64 p.peer, i64 p.phase, .slice none 0 0, .slice A4 (List.length p.texts) c5, .slice A7 (List.length p.proof) c8] h38 o36 ty40 rfl rfl rfl (Nat.le_of_ble_eq_true rfl) rfl rfl fun w39 o40 s41 h42 => ?_
  refine nsr ?_
  refine sv (Does.fieldAddr' 0 Try.underlying36 rfl ty3 rfl rfl) ?_
  have c44 := s37.trans s41
  have o43 := o31.up c44
  refine sv (Does.load_own1 o43 ty3 rfl rfl) ?_
  refine sv (Does.fieldAddr' 1 Try.underlying36 rfl ty3 rfl rfl) ?_
  refine sv (Does.load_own1 o43 ty3 rfl rfl) ?_
  refine sv (Does.fieldAddr' 2 Try.underlying36 rfl ty3 rfl rfl) ?_
  refine sv (Does.load_own1 o43 ty3 rfl rfl) ?_
  refine sv (Does.fieldAddr' 3 Try.underlying36 rfl ty3 rfl rfl) ?_
  refine sv (Does.load_own1 o43 ty3 rfl rfl) ?_
  refine sv (Does.fieldAddr' 4 Try.underlying36 rfl ty3 rfl rfl) ?_
  refine sv (Does.load_own1 o43 ty3 rfl rfl) ?_
  refine sv (Does.fieldAddr' 5 Try.underlying36 rfl ty3 rfl rfl) ?_
  refine sv (Does.load_own1 o43 ty3 rfl rfl) ?_
  refine sv (Does.fieldAddr' 7 Try.underlying36 rfl ty34 rfl rfl) ?_
  refine sv (Does.load_own1 o43 ty34 rfl rfl) ?_
  refine sv (Does.fieldAddr' 8 Try.underlying36 rfl ty22 rfl rfl) ?_
  refine sv (Does.load_own1 o43 ty22 rfl rfl) ?_
  refine sv (Does.build [(0, i64 p.kind), (1, i64 p.author), (2, i64 p.epoch), (3, i64 p.mode), (4, i64 p.peer), (5, i64 p.phase), (7, .slice A4 (List.length p.texts) c5), (8, .slice A7 (List.length p.proof) c8)] [(0, 1), (1, 1), (2, 1), (3, 1), (4, 1), (5, 1), (6, 1), (7, 1), (8, 1)] [i64 p.kind, i64 p.author, i64 p.epoch, i64 p.mode, i64 p.peer, i64 p.phase, .slice none 0 0, .slice A4 (List.length p.texts) c5, .slice A7 (List.length p.proof) c8] Try.underlying43 ty43 (by kernel_rfl) rfl (by kernel_rfl)) ?_
  refine salloc 6 [.int .i64 0, .int .i64 0, .int .i64 0, .int .i64 0, .int .i64 0, .int .i64 0, .slice none 0 0, .slice none 0 0, .slice none 0 0] h42 ty43 rfl fun b47 L45 w46 o48 s49 h50 => ?_
  refine sstore [i64 p.kind, i64 p.author, i64 p.epoch, i64 p.mode, i64 p.peer, i64 p.phase, .slice none 0 0, .slice A4 (List.length p.texts) c5, .slice A7 (List.length p.proof) c8] h50 o48 ty43 rfl rfl rfl (Nat.le_of_ble_eq_true rfl) rfl rfl fun w51 o52 s53 h54 => ?_
  refine Seq.next ?_
  refine Run.seq ?_
  refine rsr ?_
  refine sv (Does.fieldAddr' 6 Try.underlying36 rfl ty34 rfl rfl) ?_
  have c56 := s49.trans s53
  have o55 := o43.up c56
  refine sv (Does.load_own1 o55 ty34 rfl rfl) ?_
  refine sv (Does.len Try.underlying34 rfl) ?_
  refine sv (Does.move rfl) ?_
  refine Seq.next ?_
  refine Run.block ?_
  have o57 := o40.up c56
  refine Run.loop (fun m' l' w' => ∃ (k : Nat) (lab' : Lab) (ux905 : Value) (ux906 : Value), m' = List.length p.nums - k ∧ l' = [(47, i64 ((k : Nat) : Int)), (2, .pointer (some ⟨b21, 0, none⟩)), (3, .pointer (some ⟨b27, 0, none⟩)), (4, .pointer (some ⟨b35, 0, none⟩)), (5, .pointer (some ⟨b47, 0, none⟩)), (45, .slice A1 (List.length p.nums) c2), (46, i64 ((List.length p.nums : Nat) : Int))] ∧ Valid lab' w' ∧ Stp [5, 6, 9, 905, 906] L45 w51 lab' w' ∧ AppN lab' w' 905 60 ux905 k (List.take k (ofN p)) ∧ AppV lab' w' 906 79 ux906 k (List.map bitsOf (List.take k (ofN p))) ∧ Own lab' w' 5 b35 40 #[i64 p.kind, i64 p.author, i64 p.epoch, i64 p.mode, i64 p.peer, i64 p.phase, ux905, .slice A4 (List.length p.texts) c5, .slice A7 (List.length p.proof) c8] ∧ Own lab' w' 6 b47 43 #[i64 p.kind, i64 p.author, i64 p.epoch, i64 p.mode, i64 p.peer, i64 p.phase, ux906, .slice A4 (List.length p.texts) c5, .slice A7 (List.length p.proof) c8] ∧ (k ≤ List.length p.nums)) (List.length p.nums - 0) (l0 := [(47, i64 ((0 : Nat) : Int)), (2, .pointer (some ⟨b21, 0, none⟩)), (3, .pointer (some ⟨b27, 0, none⟩)), (4, .pointer (some ⟨b35, 0, none⟩)), (5, .pointer (some ⟨b47, 0, none⟩)), (45, .slice A1 (List.length p.nums) c2), (46, i64 ((List.length p.nums : Nat) : Int))]) ⟨(congrArg (fun z => some (i64 z)) (show (0 : Int) = ((0 : Nat) : Int) from by first | rfl | omega)), rfl, rfl, rfl, rfl, rfl, rfl, trivial⟩ ⟨0, L45, (.slice none 0 0), (.slice none 0 0), rfl, rfl, h54, ((Stp.refl _ _).more (by simp)), (AppN.mk (show ([]) = (List.take 0 (ofN p)) from by first | rfl | exact of_step (by omega) rfl rfl | exact of_stepR (of_step (by omega) rfl rfl)) (show 0 = 0 from by first | rfl | omega) (App.nil (lab := L45) (w := w51) (d := 905) (t := 60)) trivial), (AppV.mk (show ([]) = (List.map bitsOf (List.take 0 (ofN p))) from by first | rfl | exact of_step (by omega) rfl rfl | exact of_stepR (of_step (by omega) rfl rfl)) (show 0 = 0 from by first | rfl | omega) (App.nil (lab := L45) (w := w51) (d := 906) (t := 79)) trivial), o57, o52, (by omega)⟩ ?_
  intro m58 l59 w60 H61
  obtain ⟨k, lab62, v65, v66, hzm, rfl, hv63, s64, o67, o68, o69, o70, hk⟩ := H61
  replace hzm := hzm.symm; subst hzm
  obtain ⟨cs71, o72, q73⟩ := o67
  obtain ⟨A74, c75, rfl⟩ := App.shape o72
  have z77 := (App.row o72).2
  obtain ⟨cs78, o79, q80⟩ := o68
  obtain ⟨A81, c82, rfl⟩ := App.shape o79
  have z84 := (App.row o79).2
  refine rsr ?_
  refine sv (Does.lss rfl rfl) ?_
  refine Seq.next ?_
  refine Run.seq ?_
  rcases Decidable.em ((((k : Nat) : Int) : Int) < (((List.length p.nums : Nat) : Int) : Int)) with hp1 | hp1
  rotate_left
  · refine Run.cond_b rfl (decide_eq_false hp1) ?_
    refine Run.exit_go (fun _ _ h => h) ?_
    refine Run.seq ?_
    refine Run.many [⟨74, .ex (.agg #[i64 p.kind, i64 p.author, i64 p.epoch, i64 p.mode, i64 p.peer, i64 p.phase, .slice A74 (k) c75, .slice A4 (List.length p.texts) c5, .slice A7 (List.length p.proof) c8]), [], none⟩, ⟨75, .ex (.agg #[i64 p.kind, i64 p.author, i64 p.epoch, i64 p.mode, i64 p.peer, i64 p.phase, .slice A81 (k) c82, .slice A4 (List.length p.texts) c5, .slice A7 (List.length p.proof) c8]), [], none⟩, ⟨2, .v (BoxB b21 3 40 (Is (.agg #[i64 p.kind, i64 p.author, i64 p.epoch, i64 p.mode, i64 p.peer, i64 p.phase, .slice A74 (k) c75, .slice A4 (List.length p.texts) c5, .slice A7 (List.length p.proof) c8]))), [3], none⟩] [1, 2] mixed (by kernel_rfl) rfl hv63 ⟨stay_ex, stay_ex, stay_boxB rfl, trivial⟩ ⟨?_, ?_, ?_, trivial⟩ (fun L276 w277 h278 s279 v280 q281 => ?_)
    · refine rP [] rfl rfl rfl rfl fun L252 w253 h254 s255 => ?_
      replace s255 : Stp [3] _ _ _ _ := s255
      have o256 := o69.up s255
      exact ⟨_, Does.load_ownN [i64 p.kind, i64 p.author, i64 p.epoch, i64 p.mode, i64 p.peer, i64 p.phase, .slice A74 (k) c75, .slice A4 (List.length p.texts) c5, .slice A7 (List.length p.proof) c8] o256 ty40 rfl rfl, rfl⟩
    · refine rP [] rfl rfl rfl rfl fun L257 w258 h259 s260 => ?_
      replace s260 : Stp [3] _ _ _ _ := s260
      have o261 := o70.up s260
      exact ⟨_, Does.load_ownN [i64 p.kind, i64 p.author, i64 p.epoch, i64 p.mode, i64 p.peer, i64 p.phase, .slice A81 (k) c82, .slice A4 (List.length p.texts) c5, .slice A7 (List.length p.proof) c8] o261 ty43 rfl rfl, rfl⟩
    · refine rS [0] rfl rfl rfl fun L262 w263 h264 s265 => ?_
      replace s265 : Stp [] _ _ _ _ := s265
      have c267 := s64.trans s265
      have c268 := c56.trans c267
      have c269 := c44.trans c268
      have c270 := s29.trans c269
      have o266 := o22.up c270
      refine store_goR (v := (.agg #[i64 p.kind, i64 p.author, i64 p.epoch, i64 p.mode, i64 p.peer, i64 p.phase, .slice A74 (k) c75, .slice A4 (List.length p.texts) c5, .slice A7 (List.length p.proof) c8])) [i64 p.kind, i64 p.author, i64 p.epoch, i64 p.mode, i64 p.peer, i64 p.phase, .slice A74 (k) c75, .slice A4 (List.length p.texts) c5, .slice A7 (List.length p.proof) c8] h264 o266 ty40 rfl rfl rfl (Nat.le_of_ble_eq_true rfl) rfl rfl fun w271 s274 o275 => ?_
      exact ⟨(.agg #[i64 p.kind, i64 p.author, i64 p.epoch, i64 p.mode, i64 p.peer, i64 p.phase, .slice A74 (k) c75, .slice A4 (List.length p.texts) c5, .slice A7 (List.length p.proof) c8]), rfl, o275, rfl⟩
    replace s279 : Stp [3] _ _ _ _ := s279
    obtain ⟨u283, rfl, o284, q285⟩ := q281
    replace q285 := Is.out q285; subst q285
    replace o284 : Own L276 w277 3 b21 40 #[i64 p.kind, i64 p.author, i64 p.epoch, i64 p.mode, i64 p.peer, i64 p.phase, .slice A74 (k) c75, .slice A4 (List.length p.texts) c5, .slice A7 (List.length p.proof) c8] := o284
    have c287 := s64.trans s279
    have c288 := c56.trans c287
    have c289 := c44.trans c288
    have o286 := o28.up c289
    refine sstore [i64 p.kind, i64 p.author, i64 p.epoch, i64 p.mode, i64 p.peer, i64 p.phase, .slice A81 (k) c82, .slice A4 (List.length p.texts) c5, .slice A7 (List.length p.proof) c8] h278 o286 ty43 rfl rfl rfl (Nat.le_of_ble_eq_true rfl) rfl rfl fun w290 o291 s292 h293 => ?_
    refine Seq.next ?_
    have o294 := o284.up s292
    have c296 := s279.trans s292
    have o295 := o72.up c296
    have hv297 := Valid.release h293 905
    have q299 := EachN.step c296 q73
    have q298 : NatsV (List.take k (ofN p)) (labFree L276 905) w290 (.slice A74 (k) c75) := App.nats o295 (EachN.step (Stp.release 905) q299)
    have c301 := c296.trans (Stp.release (lab := L276) (w := w290) 905)
    have o300 := o79.up c301
    have hv302 := Valid.release hv297 906
    have q304 := EachV.step c301 q80
    have q303 : NumsV (List.map bitsOf (List.take k (ofN p))) (labFree (labFree L276 905) 906) w290 (.slice A81 (k) c82) := App.nums o300 (EachV.step (Stp.release 906) q304)
    have c305 := (Stp.release (lab := L276) (w := w290) 905).trans (Stp.release (lab := (labFree L276 905)) (w := w290) 906)
    have c306 := s292.trans c305
    have c307 := c289.trans c306
    have c308 := c32.trans c307
    have c309 := s17.trans c308
    obtain ⟨⟨zU, zo⟩, zb⟩ := hX c309 (by decide)
    have q310 := up (Stp.release (lab := (labFree L276 905)) (w := w290) 906) q298
    have q311 := up c309 q6
    have q312 := up c309 q9
    refine Run.ret ?_
    exact post_two Try.results24 ⟨_, rfl, Own.loadN [i64 p.kind, i64 p.author, i64 p.epoch, i64 p.mode, i64 p.peer, i64 p.phase, .slice A74 (k) c75, .slice A4 (List.length p.texts) c5, .slice A7 (List.length p.proof) c8] o294 ty40 rfl⟩ ⟨_, rfl, Own.loadN [i64 p.kind, i64 p.author, i64 p.epoch, i64 p.mode, i64 p.peer, i64 p.phase, .slice A81 (k) c82, .slice A4 (List.length p.texts) c5, .slice A7 (List.length p.proof) c8] o291 ty43 rfl⟩ ⟨_, rfl, ⟨_, _, rfl, (EntryV.cast (show (⟨p.kind, p.author, p.epoch, p.mode, p.peer, p.phase, List.take k (ofN p), p.texts, p.proof⟩ : EntryD) = ofE p from by first | (exact ofE_eq (by omega); done) | (exact ofE_ref (by omega); done) | (with_reducible rfl; done) | (omega; done) | (simp_all; done)) (EntryV.mk (up zo q310) (up zo q311) (up zo q312))), (RentryV.cast (show (⟨p.kind, p.author, p.epoch, p.mode, p.peer, p.phase, List.map bitsOf (List.take k (ofN p)), p.texts, p.proof⟩ : RentryD) = EntryD.ref (ofE p) from by first | (exact ofE_eq (by omega); done) | (exact ofE_ref (by omega); done) | (with_reducible rfl; done) | (omega; done) | (simp_all; done)) (RentryV.mk (up zo q303) (up zo q311) (up zo q312)))⟩, zb⟩
  refine Run.cond_b rfl (decide_eq_true hp1) ?_
  refine Run.skip_go (fun _ _ h => h) ?_
  refine Run.seq ?_
  refine Run.block ?_
  refine rsr ?_
  have c91 := c56.trans s64
  have c92 := c44.trans c91
  have c93 := c32.trans c92
  have c94 := s17.trans c93
  have q95 := up c94 q3
  obtain ⟨vs85, u86, m87, r88, q89, q90⟩ := RowsV.at_ q95 k (by first | omega | (simp; omega))
  obtain ⟨A96, c97, rfl⟩ := BytesV.shape q90
  have z98 := BytesV.cap q90
  refine sv (Does.index_row k Try.underlying34 ty22 rfl rfl r88 m87 (by first | omega | (simp; omega)) (by first | omega | (simp; omega))) ?_
  refine sv (Does.load_row ty22 rfl r88 q89) ?_
  refine sv (Does.assign rfl) ?_
  refine nsr ?_
  refine sv (Does.move rfl) ?_
  refine sv (Does.move rfl) ?_
  refine sv (Does.len Try.underlying22 rfl) ?_
  refine sv (Does.min_ rfl rfl) ?_
  have q99 := BytesV.takeN q90 ((min ((List.length (List.getD p.nums k []) : Nat) : Int) (128 : Int)).toNat) (by first | omega | (simp; omega))
  refine sv (Does.slice_hi ((min ((List.length (List.getD p.nums k []) : Nat) : Int) (128 : Int)).toNat) Try.underlying22 ty5 rfl rfl (by first | omega | (simp; omega)) (by have := (BytesV.cap q90).2; first | omega | (simp; omega))) ?_
  refine scall (V := And2 (NatV (if 128 < List.length (List.take ((min ((List.length (List.getD p.nums k []) : Nat) : Int) (128 : Int)).toNat) (List.getD p.nums k [])) then 0 else nv (List.take ((min ((List.length (List.getD p.nums k []) : Nat) : Int) (128 : Int)).toNat) (List.getD p.nums k [])))) (Is (i64 (if 128 < List.length (List.take ((min ((List.length (List.getD p.nums k []) : Nat) : Int) (128 : Int)).toNat) (List.getD p.nums k [])) then 4 else 0)))) cal93 hv63 rfl (nat_FromBytes hv63 q99 (show List.length (List.take ((min ((List.length (List.getD p.nums k []) : Nat) : Int) (128 : Int)).toNat) (List.getD p.nums k [])) ≤ 1000000000 from by first | omega | (simp; omega))) fun v100 w101 q102 s103 h104 => ?_
  obtain ⟨v105, v106, rfl, q107, q108⟩ := q102
  obtain ⟨A109, c110, rfl⟩ := NatV.shape q107
  have z111 := NatV.cap q107
  have q108 := Is.out q108; subst q108
  refine sv (Does.move rfl) ?_
  refine sv (Does.extract rfl rfl) ?_
  refine sv (Does.extract rfl rfl) ?_
  refine salloc 9 [.slice none 0 0] h104 ty60 rfl fun b114 L112 w113 o115 s116 h117 => ?_
  refine sstore [.slice A109 (nw (if 128 < List.length (List.take ((min ((List.length (List.getD p.nums k []) : Nat) : Int) (128 : Int)).toNat) (List.getD p.nums k [])) then 0 else nv (List.take ((min ((List.length (List.getD p.nums k []) : Nat) : Int) (128 : Int)).toNat) (List.getD p.nums k [])))) c110] h117 o115 ty60 rfl rfl rfl (Nat.le_of_ble_eq_true rfl) rfl rfl fun w118 o119 s120 h121 => ?_
  refine sv (Does.assign rfl) ?_
  refine nsr ?_
  refine sv (Does.fieldAddr' 6 Try.underlying40 rfl ty38 rfl rfl) ?_
  have c123 := s116.trans s120
  have c124 := s103.trans c123
  have o122 := o69.up c124
  refine sv (Does.load_own1 o122 ty38 rfl rfl) ?_
  refine sv (Does.load_ownN [.slice A109 (nw (if 128 < List.length (List.take ((min ((List.length (List.getD p.nums k []) : Nat) : Int) (128 : Int)).toNat) (List.getD p.nums k [])) then 0 else nv (List.take ((min ((List.length (List.getD p.nums k []) : Nat) : Int) (128 : Int)).toNat) (List.getD p.nums k [])))) c110] o119 ty60 rfl rfl) ?_
  refine Seq.build_row [(0, .agg #[.slice A109 (nw (if 128 < List.length (List.take ((min ((List.length (List.getD p.nums k []) : Nat) : Int) (128 : Int)).toNat) (List.getD p.nums k [])) then 0 else nv (List.take ((min ((List.length (List.getD p.nums k []) : Nat) : Int) (128 : Int)).toNat) (List.getD p.nums k [])))) c110])] [.slice A109 (nw (if 128 < List.length (List.take ((min ((List.length (List.getD p.nums k []) : Nat) : Int) (128 : Int)).toNat) (List.getD p.nums k [])) then 0 else nv (List.take ((min ((List.length (List.getD p.nums k []) : Nat) : Int) (128 : Int)).toNat) (List.getD p.nums k [])))) c110] h121 Try.underlying38 ty60 (by decide) (by decide) rfl (by kernel_rfl) (by decide) ?_
  intro w125 b126 r127 s128 hv129
  have c131 := c124.trans s128
  have o130 := o72.up c131
  refine Seq.append (k := 905) [.slice A109 (nw (if 128 < List.length (List.take ((min ((List.length (List.getD p.nums k []) : Nat) : Int) (128 : Int)).toNat) (List.getD p.nums k [])) then 0 else nv (List.take ((min ((List.length (List.getD p.nums k []) : Nat) : Int) (128 : Int)).toNat) (List.getD p.nums k [])))) c110] hv129 o130 Try.underlying38 ty60 rfl rfl rfl rfl r127 (by intro u hu; rw [List.mem_singleton] at hu; subst hu; rfl) (by first | omega | (simp; omega)) (by first | omega | (simp; omega)) (by decide) ?_
  intro lab132 w133 v134 o135 s136 hv137
  have c139 := s128.trans s136
  have c140 := c123.trans c139
  have q141 := up c140 q107
  have c142 := c131.trans s136
  have q143 := EachN.step c142 q73
  have q138 := EachN.snoc q141 q143
  obtain ⟨A144, c145, rfl⟩ := App.shape o135
  have z147 := (App.row o135).2
  refine sv (Does.fieldAddr' 6 Try.underlying40 rfl ty38 rfl rfl) ?_
  have o148 := o122.up c139
  refine sstore [i64 p.kind, i64 p.author, i64 p.epoch, i64 p.mode, i64 p.peer, i64 p.phase, .slice A144 (k + 1) c145, .slice A4 (List.length p.texts) c5, .slice A7 (List.length p.proof) c8] hv137 o148 ty38 rfl rfl rfl (Nat.le_of_ble_eq_true rfl) rfl rfl fun w149 o150 s151 h152 => ?_
  refine Seq.next ?_
  refine Run.openOne 7 5 [906] (Φ := [.ex (.pointer (some ⟨b47, 6, none⟩)), .ex (.slice A81 (k) c82), .ex (.agg #[.slice A109 (nw (if 128 < List.length (List.take ((min ((List.length (List.getD p.nums k []) : Nat) : Int) (128 : Int)).toNat) (List.getD p.nums k [])) then 0 else nv (List.take ((min ((List.length (List.getD p.nums k []) : Nat) : Int) (128 : Int)).toNat) (List.getD p.nums k [])))) c110]), .v (BitsV (bitsOf (if 128 < List.length (List.take ((min ((List.length (List.getD p.nums k []) : Nat) : Int) (128 : Int)).toNat) (List.getD p.nums k [])) then 0 else nv (List.take ((min ((List.length (List.getD p.nums k []) : Nat) : Int) (128 : Int)).toNat) (List.getD p.nums k []))))), .v (NumsV ([bitsOf (if 128 < List.length (List.take ((min ((List.length (List.getD p.nums k []) : Nat) : Int) (128 : Int)).toNat) (List.getD p.nums k [])) then 0 else nv (List.take ((min ((List.length (List.getD p.nums k []) : Nat) : Int) (128 : Int)).toNat) (List.getD p.nums k [])))])), .v (AppVF 906 79 (k + (List.length ([bitsOf (if 128 < List.length (List.take ((min ((List.length (List.getD p.nums k []) : Nat) : Int) (128 : Int)).toNat) (List.getD p.nums k [])) then 0 else nv (List.take ((min ((List.length (List.getD p.nums k []) : Nat) : Int) (128 : Int)).toNat) (List.getD p.nums k [])))]))) (List.map bitsOf (List.take k (ofN p)) ++ ([bitsOf (if 128 < List.length (List.take ((min ((List.length (List.getD p.nums k []) : Nat) : Int) (128 : Int)).toNat) (List.getD p.nums k [])) then 0 else nv (List.take ((min ((List.length (List.getD p.nums k []) : Nat) : Int) (128 : Int)).toNat) (List.getD p.nums k [])))]))), .ex (.pointer (some ⟨b47, 6, none⟩))]) [(5, 71), (6, 72)] mixed (by kernel_rfl) rfl h152 (perT_skip 5 (inferInstance : PerL [906] [.ex (.pointer (some ⟨b47, 6, none⟩)), .ex (.slice A81 (k) c82), .ex (.agg #[.slice A109 (nw (if 128 < List.length (List.take ((min ((List.length (List.getD p.nums k []) : Nat) : Int) (128 : Int)).toNat) (List.getD p.nums k [])) then 0 else nv (List.take ((min ((List.length (List.getD p.nums k []) : Nat) : Int) (128 : Int)).toNat) (List.getD p.nums k [])))) c110]), .v (BitsV (bitsOf (if 128 < List.length (List.take ((min ((List.length (List.getD p.nums k []) : Nat) : Int) (128 : Int)).toNat) (List.getD p.nums k [])) then 0 else nv (List.take ((min ((List.length (List.getD p.nums k []) : Nat) : Int) (128 : Int)).toNat) (List.getD p.nums k []))))), .v (NumsV ([bitsOf (if 128 < List.length (List.take ((min ((List.length (List.getD p.nums k []) : Nat) : Int) (128 : Int)).toNat) (List.getD p.nums k [])) then 0 else nv (List.take ((min ((List.length (List.getD p.nums k []) : Nat) : Int) (128 : Int)).toNat) (List.getD p.nums k [])))])), .ex undef, .ex (.pointer (some ⟨b47, 6, none⟩))]) rfl) ⟨(oX [] rfl rfl rfl fun _ _ => Does.fieldAddr' 6 Try.underlying43 rfl ty41 rfl rfl), ?_, ?_, ?_, ?_, ?_, (oX [] rfl rfl rfl fun _ _ => Does.fieldAddr' 6 Try.underlying43 rfl ty41 rfl rfl), trivial⟩ (fun L221 w222 h223 s224 v225 q226 => ?_)
  · refine oP [(0, 66)] rfl rfl fun L161 w162 h163 s164 => ?_
    have c166 := s151.trans s164
    have c167 := c142.trans c166
    have o165 := o70.up c167
    exact ⟨_, Does.load_own1 o165 ty41 rfl rfl, rfl⟩
  · refine oP [] rfl rfl fun L168 w169 h170 s171 => ?_
    have c173 := s151.trans s171
    have c174 := c139.trans c173
    have o172 := o119.up c174
    exact ⟨_, Does.load_ownN [.slice A109 (nw (if 128 < List.length (List.take ((min ((List.length (List.getD p.nums k []) : Nat) : Int) (128 : Int)).toNat) (List.getD p.nums k [])) then 0 else nv (List.take ((min ((List.length (List.getD p.nums k []) : Nat) : Int) (128 : Int)).toNat) (List.getD p.nums k [])))) c110] o172 ty60 rfl rfl, rfl⟩
  · refine oC [(2, 68)] rfl rfl cal51 fun L175 w176 h177 s178 => ?_
    have c179 := s151.trans s178
    have q180 := up c179 q141
    exact ⟨_, rfl, (law09_Num h177 q180 (show nw (if 128 < List.length (List.take ((min ((List.length (List.getD p.nums k []) : Nat) : Int) (128 : Int)).toNat) (List.getD p.nums k [])) then 0 else nv (List.take ((min ((List.length (List.getD p.nums k []) : Nat) : Int) (128 : Int)).toNat) (List.getD p.nums k []))) ≤ 30000 from by exact of_nw _))⟩
  · refine oN [(3, 69)] rfl rfl fun L181 w182 h183 s184 v185 q186 => ?_
    obtain ⟨A187, c188, rfl⟩ := BitsV.shape q186
    have z189 := BitsV.cap q186
    refine build_lawN [(0, .slice A187 (List.length (bitsOf (if 128 < List.length (List.take ((min ((List.length (List.getD p.nums k []) : Nat) : Int) (128 : Int)).toNat) (List.getD p.nums k [])) then 0 else nv (List.take ((min ((List.length (List.getD p.nums k []) : Nat) : Int) (128 : Int)).toNat) (List.getD p.nums k []))))) c188)] [.slice A187 (List.length (bitsOf (if 128 < List.length (List.take ((min ((List.length (List.getD p.nums k []) : Nat) : Int) (128 : Int)).toNat) (List.getD p.nums k [])) then 0 else nv (List.take ((min ((List.length (List.getD p.nums k []) : Nat) : Int) (128 : Int)).toNat) (List.getD p.nums k []))))) c188] h183 Try.underlying41 ty79 (by decide) (by decide) rfl (by kernel_rfl) fun b190 w191 r192 s193 => ?_
    exact NumsV.mk 1 rfl (Nat.le_refl _) (by decide) r192 rfl (EachV.get ⟨up s193 q186, trivial⟩)
  · refine oN [(1, 67), (4, 70)] rfl rfl fun L194 w195 h196 s197 v198 q199 => ?_
    obtain ⟨A200, c201, rfl⟩ := NumsV.shape q199
    have z202 := NumsV.cap q199
    have c204 := s151.trans s197
    have c205 := c142.trans c204
    have o203 := o79.up c205
    obtain ⟨vs206, m207, r208, e209, m210⟩ := NumsV.cells q199
    have q216 := EachV.step c205 q80
    refine append_lawT (k := 906) vs206 h196 o203 Try.underlying41 ty79 rfl rfl rfl m207 r208 m210 (by first | omega | (simp; omega)) (by first | omega | (simp; omega)) fun L211 w212 v213 s214 o215 => ?_
    exact ⟨_, o215, EachV.append (EachV.step s214 q216) (EachV.step s214 e209)⟩
  obtain ⟨cs227, o228, e229⟩ := q226
  obtain ⟨A230, c231, rfl⟩ := App.shape o228
  have z233 := (App.row o228).2
  have c235 := s151.trans s224
  have c236 := c142.trans c235
  have o234 := o70.up c236
  refine sstore [i64 p.kind, i64 p.author, i64 p.epoch, i64 p.mode, i64 p.peer, i64 p.phase, .slice A230 (k + (List.length ([bitsOf (if 128 < List.length (List.take ((min ((List.length (List.getD p.nums k []) : Nat) : Int) (128 : Int)).toNat) (List.getD p.nums k [])) then 0 else nv (List.take ((min ((List.length (List.getD p.nums k []) : Nat) : Int) (128 : Int)).toNat) (List.getD p.nums k [])))]))) c231, .slice A4 (List.length p.texts) c5, .slice A7 (List.length p.proof) c8] h223 o234 ty41 rfl rfl rfl (Nat.le_of_ble_eq_true rfl) rfl rfl fun w237 o238 s239 h240 => ?_
  refine Seq.go (fun _ _ h => h) ?_
  refine Run.region ?_
  refine sv (Does.add rfl rfl (by first | omega | (simp; omega))) ?_
  refine sv (Does.move rfl) ?_
  have c242 := c235.trans s239
  have o241 := o135.up c242
  have q243 := EachN.step c242 q138
  have o244 := o228.up s239
  have q245 := EachV.step s239 e229
  have c247 := s224.trans s239
  have o246 := o150.up c247
  have c248 := c236.trans s239
  have c249 := s64.trans c248
  exact Seq.nil (fun a250 h251 => ⟨_, by omega, _, h251.weaken (subs_lk (l' := [(47, i64 (((k + 1) : Nat) : Int)), (2, .pointer (some ⟨b21, 0, none⟩)), (3, .pointer (some ⟨b27, 0, none⟩)), (4, .pointer (some ⟨b35, 0, none⟩)), (5, .pointer (some ⟨b47, 0, none⟩)), (45, .slice A1 (List.length p.nums) c2), (46, i64 ((List.length p.nums : Nat) : Int))]) ⟨(congrArg (fun z => some (i64 z)) (show (((k : Nat) : Int) + 1 : Int) = (((k + 1) : Nat) : Int) from by first | rfl | omega)), rfl, rfl, rfl, rfl, rfl, rfl, trivial⟩), ⟨k + 1, L221, (.slice A144 (k + 1) c145), (.slice A230 (k + (List.length ([bitsOf (if 128 < List.length (List.take ((min ((List.length (List.getD p.nums k []) : Nat) : Int) (128 : Int)).toNat) (List.getD p.nums k [])) then 0 else nv (List.take ((min ((List.length (List.getD p.nums k []) : Nat) : Int) (128 : Int)).toNat) (List.getD p.nums k [])))]))) c231), rfl, rfl, h240, (c249.more (by decide)), (AppN.mk (show (List.take k (ofN p) ++ [if 128 < List.length (List.take ((min ((List.length (List.getD p.nums k []) : Nat) : Int) (128 : Int)).toNat) (List.getD p.nums k [])) then 0 else nv (List.take ((min ((List.length (List.getD p.nums k []) : Nat) : Int) (128 : Int)).toNat) (List.getD p.nums k []))]) = (List.take (k + 1) (ofN p)) from by first | rfl | exact of_step (by omega) rfl rfl | exact of_stepR (of_step (by omega) rfl rfl)) (show k + 1 = (k + 1) from by first | rfl | omega) o241 q243), (AppV.mk (show (List.map bitsOf (List.take k (ofN p)) ++ ([bitsOf (if 128 < List.length (List.take ((min ((List.length (List.getD p.nums k []) : Nat) : Int) (128 : Int)).toNat) (List.getD p.nums k [])) then 0 else nv (List.take ((min ((List.length (List.getD p.nums k []) : Nat) : Int) (128 : Int)).toNat) (List.getD p.nums k [])))])) = (List.map bitsOf (List.take (k + 1) (ofN p))) from by first | rfl | exact of_step (by omega) rfl rfl | exact of_stepR (of_step (by omega) rfl rfl)) (show k + (List.length ([bitsOf (if 128 < List.length (List.take ((min ((List.length (List.getD p.nums k []) : Nat) : Int) (128 : Int)).toNat) (List.getD p.nums k [])) then 0 else nv (List.take ((min ((List.length (List.getD p.nums k []) : Nat) : Int) (128 : Int)).toNat) (List.getD p.nums k [])))])) = (k + 1) from by first | rfl | omega) o244 q245), o246, o238, (by omega)⟩⟩)

end Go.Proofs.Ytgfomedobfaidaa
