/-
  The walks of some functions: what each call comes to.
-/
import Derived.Test.YtgfomedobfaidaaRdb
import Derived.Test.YtgfomedobfaidaaEnt1
import Derived.Test.YtgfomedobfaidaaVote
set_option linter.unusedVariables false
set_option linter.unusedSimpArgs false
set_option maxRecDepth 100000
namespace Go.Proofs.Ytgfomedobfaidaa
open Go.RowKit

theorem rd_entry {lab : Lab} {w : World} (hv : Valid lab w) {r_d r_b : Nat} {r : Rd} {rv : Value} (h0 : Own lab w r_d r_b 159 #[rv, .bool r.bad]) (h0v : BytesV r.b lab w rv) (hr : List.length r.b ≤ 1000000) :
    Calls Try.prog 100 #[.pointer (some ⟨r_b, 0, none⟩)] w (Eff [r_d] lab w (With (EntryV r.entryD) (fun lab' w' => ∃ zv, Own lab' w' r_d r_b 159 #[zv, .bool (r.entryR.bad)] ∧ BytesV (r.entryR.b) lab' w' zv))) := by
  obtain ⟨L0, h0L, ⟨zU0, z00⟩, hO, hA, hX⟩ := enterM [(r_d, 1)] hv
  replace h0 := hO 1 (by simp [look]) h0
  replace h0v := up z00 h0v
  obtain ⟨A1, c2, rfl⟩ := BytesV.shape h0v
  have z3 := BytesV.cap h0v
  have e0 := Nat.le_trans (Rd.num_le r 1) hr
  have e1 := Nat.le_trans (Rd.num_le (r.num 1).2 1) e0
  have e2 := Nat.le_trans (Rd.num_le ((r.num 1).2.num 1).2 1) e1
  have e3 := Nat.le_trans (Rd.num_le (((r.num 1).2.num 1).2.num 1).2 4) e2
  have e4 := Nat.le_trans (Rd.num_le ((((r.num 1).2.num 1).2.num 1).2.num 4).2 1) e3
  have e5 := Nat.le_trans (Rd.num_le (((((r.num 1).2.num 1).2.num 1).2.num 4).2.num 1).2 1) e4
  have e6 := Nat.le_trans (Rd.num_le ((((((r.num 1).2.num 1).2.num 1).2.num 4).2.num 1).2.num 1).2 1) e5
  have e7 := Nat.le_trans (Rd.nats_le (((((((r.num 1).2.num 1).2.num 1).2.num 4).2.num 1).2.num 1).2.num 1).2) e6
  have e8 := Nat.le_trans (Rd.texts_le ((((((((r.num 1).2.num 1).2.num 1).2.num 4).2.num 1).2.num 1).2.num 1).2.nats).2) e7
  have e9 := Nat.le_trans (Rd.text_le (((((((((r.num 1).2.num 1).2.num 1).2.num 4).2.num 1).2.num 1).2.num 1).2.nats).2.texts).2) e8
  refine calls_run Try.func100 rfl Try.ntmps100 (Nat.le_of_ble_eq_true rfl) ?_
  refine rsr ?_
  refine salloc 3 [.int .i64 0, .int .i64 0, .int .i64 0, .int .i64 0, .int .i64 0, .int .i64 0, .slice none 0 0, .slice none 0 0, .slice none 0 0] h0L ty40 rfl fun b6 L4 w5 o7 s8 h9 => ?_
  refine nsr ?_
  refine sv (Does.move rfl) ?_
  have o10 := h0.up s8
  have q11 := up s8 h0v
  refine scallE cal102 rfl (rd_num h9 (size := 1) (r := r) o10 q11  (show  1 ≤ 4 from by first | omega | assumption) (show  List.length r.b ≤ 1000000 from by first | omega | assumption)) fun v12 L17 w20 r19 s15 h16 => ?_
  obtain ⟨q14, o18⟩ := r19
  obtain ⟨v21, o22, q23⟩ := o18
  obtain ⟨A24, c25, rfl⟩ := BytesV.shape q23
  have z26 := BytesV.cap q23
  have q14 := Is.out q14; subst q14
  refine nsr ?_
  refine salloc 4 [.int .i64 0, .int .i64 0, .int .i64 0, .int .i64 0, .int .i64 0, .int .i64 0, .slice none 0 0, .slice none 0 0, .slice none 0 0] h16 ty40 rfl fun b29 L27 w28 o30 s31 h32 => ?_
  refine nsr ?_
  refine sv (Does.move rfl) ?_
  have o33 := o22.up s31
  have q34 := up s31 q23
  refine scallE cal102 rfl (rd_num h32 (size := 1) (r := (r.num 1).2) o33 q34  (show  1 ≤ 4 from by first | omega | assumption) (show  List.length ((r.num 1).2).b ≤ 1000000 from by first | omega | assumption)) fun v35 L40 w43 r42 s38 h39 => ?_
  obtain ⟨q37, o41⟩ := r42
  obtain ⟨v44, o45, q46⟩ := o41
  obtain ⟨A47, c48, rfl⟩ := BytesV.shape q46
  have z49 := BytesV.cap q46
  have q37 := Is.out q37; subst q37
  refine sv (Does.fieldAddr' 0 Try.underlying40 rfl ty3 rfl rfl) ?_
  have o50 := o30.up s38
  refine sstore [i64 (((((r.num 1).2).num 1).1 : Nat) : Int), .int .i64 0, .int .i64 0, .int .i64 0, .int .i64 0, .int .i64 0, .slice none 0 0, .slice none 0 0, .slice none 0 0] h39 o50 ty3 rfl rfl rfl (Nat.le_of_ble_eq_true rfl) rfl rfl fun w51 o52 s53 h54 => ?_
  refine nsr ?_
  refine sv (Does.move rfl) ?_
  have o55 := o45.up s53
  have q56 := up s53 q46
  refine scallE cal102 rfl (rd_num h54 (size := 1) (r := (((r.num 1).2).num 1).2) o55 q56  (show  1 ≤ 4 from by first | omega | assumption) (show  List.length ((((r.num 1).2).num 1).2).b ≤ 1000000 from by first | omega | assumption)) fun v57 L62 w65 r64 s60 h61 => ?_
  obtain ⟨q59, o63⟩ := r64
  obtain ⟨v66, o67, q68⟩ := o63
  obtain ⟨A69, c70, rfl⟩ := BytesV.shape q68
  have z71 := BytesV.cap q68
  have q59 := Is.out q59; subst q59
  refine sv (Does.fieldAddr' 1 Try.underlying40 rfl ty3 rfl rfl) ?_
  have o72 := o52.up s60
  refine sstore [i64 (((((r.num 1).2).num 1).1 : Nat) : Int), i64 (((((((r.num 1).2).num 1).2).num 1).1 : Nat) : Int), .int .i64 0, .int .i64 0, .int .i64 0, .int .i64 0, .slice none 0 0, .slice none 0 0, .slice none 0 0] h61 o72 ty3 rfl rfl rfl (Nat.le_of_ble_eq_true rfl) rfl rfl fun w73 o74 s75 h76 => ?_
  refine nsr ?_
  refine sv (Does.move rfl) ?_
  have o77 := o67.up s75
  have q78 := up s75 q68
  refine scallE cal102 rfl (rd_num h76 (size := 4) (r := (((((r.num 1).2).num 1).2).num 1).2) o77 q78  (show  4 ≤ 4 from by first | omega | assumption) (show  List.length ((((((r.num 1).2).num 1).2).num 1).2).b ≤ 1000000 from by first | omega | assumption)) fun v79 L84 w87 r86 s82 h83 => ?_
  obtain ⟨q81, o85⟩ := r86
  obtain ⟨v88, o89, q90⟩ := o85
  obtain ⟨A91, c92, rfl⟩ := BytesV.shape q90
  have z93 := BytesV.cap q90
  have q81 := Is.out q81; subst q81
  refine sv (Does.fieldAddr' 2 Try.underlying40 rfl ty3 rfl rfl) ?_
  have o94 := o74.up s82
  refine sstore [i64 (((((r.num 1).2).num 1).1 : Nat) : Int), i64 (((((((r.num 1).2).num 1).2).num 1).1 : Nat) : Int), i64 (((((((((r.num 1).2).num 1).2).num 1).2).num 4).1 : Nat) : Int), .int .i64 0, .int .i64 0, .int .i64 0, .slice none 0 0, .slice none 0 0, .slice none 0 0] h83 o94 ty3 rfl rfl rfl (Nat.le_of_ble_eq_true rfl) rfl rfl fun w95 o96 s97 h98 => ?_
  refine nsr ?_
  refine sv (Does.move rfl) ?_
  have o99 := o89.up s97
  have q100 := up s97 q90
  refine scallE cal102 rfl (rd_num h98 (size := 1) (r := (((((((r.num 1).2).num 1).2).num 1).2).num 4).2) o99 q100  (show  1 ≤ 4 from by first | omega | assumption) (show  List.length ((((((((r.num 1).2).num 1).2).num 1).2).num 4).2).b ≤ 1000000 from by first | omega | assumption)) fun v101 L106 w109 r108 s104 h105 => ?_
  obtain ⟨q103, o107⟩ := r108
  obtain ⟨v110, o111, q112⟩ := o107
  obtain ⟨A113, c114, rfl⟩ := BytesV.shape q112
  have z115 := BytesV.cap q112
  have q103 := Is.out q103; subst q103
  refine sv (Does.fieldAddr' 3 Try.underlying40 rfl ty3 rfl rfl) ?_
  have o116 := o96.up s104
  refine sstore [i64 (((((r.num 1).2).num 1).1 : Nat) : Int), i64 (((((((r.num 1).2).num 1).2).num 1).1 : Nat) : Int), i64 (((((((((r.num 1).2).num 1).2).num 1).2).num 4).1 : Nat) : Int), i64 (((((((((((r.num 1).2).num 1).2).num 1).2).num 4).2).num 1).1 : Nat) : Int), .int .i64 0, .int .i64 0, .slice none 0 0, .slice none 0 0, .slice none 0 0] h105 o116 ty3 rfl rfl rfl (Nat.le_of_ble_eq_true rfl) rfl rfl fun w117 o118 s119 h120 => ?_
  refine nsr ?_
  refine sv (Does.move rfl) ?_
  have o121 := o111.up s119
  have q122 := up s119 q112
  refine scallE cal102 rfl (rd_num h120 (size := 1) (r := (((((((((r.num 1).2).num 1).2).num 1).2).num 4).2).num 1).2) o121 q122  (show  1 ≤ 4 from by first | omega | assumption) (show  List.length ((((((((((r.num 1).2).num 1).2).num 1).2).num 4).2).num 1).2).b ≤ 1000000 from by first | omega | assumption)) fun v123 L128 w131 r130 s126 h127 => ?_
  obtain ⟨q125, o129⟩ := r130
  obtain ⟨v132, o133, q134⟩ := o129
  obtain ⟨A135, c136, rfl⟩ := BytesV.shape q134
  have z137 := BytesV.cap q134
  have q125 := Is.out q125; subst q125
  refine sv (Does.fieldAddr' 4 Try.underlying40 rfl ty3 rfl rfl) ?_
  have o138 := o118.up s126
  refine sstore [i64 (((((r.num 1).2).num 1).1 : Nat) : Int), i64 (((((((r.num 1).2).num 1).2).num 1).1 : Nat) : Int), i64 (((((((((r.num 1).2).num 1).2).num 1).2).num 4).1 : Nat) : Int), i64 (((((((((((r.num 1).2).num 1).2).num 1).2).num 4).2).num 1).1 : Nat) : Int), i64 (((((((((((((r.num 1).2).num 1).2).num 1).2).num 4).2).num 1).2).num 1).1 : Nat) : Int), .int .i64 0, .slice none 0 0, .slice none 0 0, .slice none 0 0] h127 o138 ty3 rfl rfl rfl (Nat.le_of_ble_eq_true rfl) rfl rfl fun w139 o140 s141 h142 => ?_
  refine nsr ?_
  refine sv (Does.move rfl) ?_
  have o143 := o133.up s141
  have q144 := up s141 q134
  refine scallE cal102 rfl (rd_num h142 (size := 1) (r := (((((((((((r.num 1).2).num 1).2).num 1).2).num 4).2).num 1).2).num 1).2) o143 q144  (show  1 ≤ 4 from by first | omega | assumption) (show  List.length ((((((((((((r.num 1).2).num 1).2).num 1).2).num 4).2).num 1).2).num 1).2).b ≤ 1000000 from by first | omega | assumption)) fun v145 L150 w153 r152 s148 h149 => ?_
  obtain ⟨q147, o151⟩ := r152
  obtain ⟨v154, o155, q156⟩ := o151
  obtain ⟨A157, c158, rfl⟩ := BytesV.shape q156
  have z159 := BytesV.cap q156
  have q147 := Is.out q147; subst q147
  refine sv (Does.fieldAddr' 5 Try.underlying40 rfl ty3 rfl rfl) ?_
  have o160 := o140.up s148
  refine sstore [i64 (((((r.num 1).2).num 1).1 : Nat) : Int), i64 (((((((r.num 1).2).num 1).2).num 1).1 : Nat) : Int), i64 (((((((((r.num 1).2).num 1).2).num 1).2).num 4).1 : Nat) : Int), i64 (((((((((((r.num 1).2).num 1).2).num 1).2).num 4).2).num 1).1 : Nat) : Int), i64 (((((((((((((r.num 1).2).num 1).2).num 1).2).num 4).2).num 1).2).num 1).1 : Nat) : Int), i64 (((((((((((((((r.num 1).2).num 1).2).num 1).2).num 4).2).num 1).2).num 1).2).num 1).1 : Nat) : Int), .slice none 0 0, .slice none 0 0, .slice none 0 0] h149 o160 ty3 rfl rfl rfl (Nat.le_of_ble_eq_true rfl) rfl rfl fun w161 o162 s163 h164 => ?_
  refine nsr ?_
  refine sv (Does.move rfl) ?_
  have o165 := o155.up s163
  have q166 := up s163 q156
  refine scallE cal150 rfl (rd_nats h164  (r := (((((((((((((r.num 1).2).num 1).2).num 1).2).num 4).2).num 1).2).num 1).2).num 1).2) o165 q166 (show  List.length ((((((((((((((r.num 1).2).num 1).2).num 1).2).num 4).2).num 1).2).num 1).2).num 1).2).b ≤ 1000000 from by first | omega | assumption)) fun v167 L172 w175 r174 s170 h171 => ?_
  obtain ⟨q169, o173⟩ := r174
  obtain ⟨v176, o177, q178⟩ := o173
  obtain ⟨A179, c180, rfl⟩ := BytesV.shape q178
  have z181 := BytesV.cap q178
  obtain ⟨A182, c183, rfl⟩ := NatsV.shape q169
  have z184 := NatsV.cap q169
  refine sv (Does.fieldAddr' 6 Try.underlying40 rfl ty38 rfl rfl) ?_
  have o185 := o162.up s170
  refine sstore [i64 (((((r.num 1).2).num 1).1 : Nat) : Int), i64 (((((((r.num 1).2).num 1).2).num 1).1 : Nat) : Int), i64 (((((((((r.num 1).2).num 1).2).num 1).2).num 4).1 : Nat) : Int), i64 (((((((((((r.num 1).2).num 1).2).num 1).2).num 4).2).num 1).1 : Nat) : Int), i64 (((((((((((((r.num 1).2).num 1).2).num 1).2).num 4).2).num 1).2).num 1).1 : Nat) : Int), i64 (((((((((((((((r.num 1).2).num 1).2).num 1).2).num 4).2).num 1).2).num 1).2).num 1).1 : Nat) : Int), .slice A182 (List.length (((((((((((((((r.num 1).2).num 1).2).num 1).2).num 4).2).num 1).2).num 1).2).num 1).2).nats.1)) c183, .slice none 0 0, .slice none 0 0] h171 o185 ty38 rfl rfl rfl (Nat.le_of_ble_eq_true rfl) rfl rfl fun w186 o187 s188 h189 => ?_
  refine nsr ?_
  refine sv (Does.move rfl) ?_
  have o190 := o177.up s188
  have q191 := up s188 q178
  refine scallE cal151 rfl (rd_texts h189  (r := (((((((((((((((r.num 1).2).num 1).2).num 1).2).num 4).2).num 1).2).num 1).2).num 1).2).nats).2) o190 q191 (show  List.length ((((((((((((((((r.num 1).2).num 1).2).num 1).2).num 4).2).num 1).2).num 1).2).num 1).2).nats).2).b ≤ 1000000 from by first | omega | assumption)) fun v192 L197 w200 r199 s195 h196 => ?_
  obtain ⟨q194, o198⟩ := r199
  obtain ⟨v201, o202, q203⟩ := o198
  obtain ⟨A204, c205, rfl⟩ := BytesV.shape q203
  have z206 := BytesV.cap q203
  obtain ⟨A207, c208, rfl⟩ := RowsV.shape q194
  have z209 := RowsV.cap q194
  refine sv (Does.fieldAddr' 7 Try.underlying40 rfl ty34 rfl rfl) ?_
  have o210 := o187.up s195
  refine sstore [i64 (((((r.num 1).2).num 1).1 : Nat) : Int), i64 (((((((r.num 1).2).num 1).2).num 1).1 : Nat) : Int), i64 (((((((((r.num 1).2).num 1).2).num 1).2).num 4).1 : Nat) : Int), i64 (((((((((((r.num 1).2).num 1).2).num 1).2).num 4).2).num 1).1 : Nat) : Int), i64 (((((((((((((r.num 1).2).num 1).2).num 1).2).num 4).2).num 1).2).num 1).1 : Nat) : Int), i64 (((((((((((((((r.num 1).2).num 1).2).num 1).2).num 4).2).num 1).2).num 1).2).num 1).1 : Nat) : Int), .slice A182 (List.length (((((((((((((((r.num 1).2).num 1).2).num 1).2).num 4).2).num 1).2).num 1).2).num 1).2).nats.1)) c183, .slice A207 (List.length (((((((((((((((((r.num 1).2).num 1).2).num 1).2).num 4).2).num 1).2).num 1).2).num 1).2).nats).2).texts.1)) c208, .slice none 0 0] h196 o210 ty34 rfl rfl rfl (Nat.le_of_ble_eq_true rfl) rfl rfl fun w211 o212 s213 h214 => ?_
  refine nsr ?_
  refine sv (Does.move rfl) ?_
  have o215 := o202.up s213
  have q216 := up s213 q203
  refine scallE cal103 rfl (rd_text h214  (r := (((((((((((((((((r.num 1).2).num 1).2).num 1).2).num 4).2).num 1).2).num 1).2).num 1).2).nats).2).texts).2) o215 q216 (show  List.length ((((((((((((((((((r.num 1).2).num 1).2).num 1).2).num 4).2).num 1).2).num 1).2).num 1).2).nats).2).texts).2).b ≤ 1000000 from by first | omega | assumption)) fun v217 L222 w225 r224 s220 h221 => ?_
  obtain ⟨q219, o223⟩ := r224
  obtain ⟨v226, o227, q228⟩ := o223
  obtain ⟨A229, c230, rfl⟩ := BytesV.shape q228
  have z231 := BytesV.cap q228
  obtain ⟨A232, c233, rfl⟩ := BytesV.shape q219
  have z234 := BytesV.cap q219
  refine sv (Does.fieldAddr' 8 Try.underlying40 rfl ty22 rfl rfl) ?_
  have o235 := o212.up s220
  refine sstore [i64 (((((r.num 1).2).num 1).1 : Nat) : Int), i64 (((((((r.num 1).2).num 1).2).num 1).1 : Nat) : Int), i64 (((((((((r.num 1).2).num 1).2).num 1).2).num 4).1 : Nat) : Int), i64 (((((((((((r.num 1).2).num 1).2).num 1).2).num 4).2).num 1).1 : Nat) : Int), i64 (((((((((((((r.num 1).2).num 1).2).num 1).2).num 4).2).num 1).2).num 1).1 : Nat) : Int), i64 (((((((((((((((r.num 1).2).num 1).2).num 1).2).num 4).2).num 1).2).num 1).2).num 1).1 : Nat) : Int), .slice A182 (List.length (((((((((((((((r.num 1).2).num 1).2).num 1).2).num 4).2).num 1).2).num 1).2).num 1).2).nats.1)) c183, .slice A207 (List.length (((((((((((((((((r.num 1).2).num 1).2).num 1).2).num 4).2).num 1).2).num 1).2).num 1).2).nats).2).texts.1)) c208, .slice A232 (List.length (((((((((((((((((((r.num 1).2).num 1).2).num 1).2).num 4).2).num 1).2).num 1).2).num 1).2).nats).2).texts).2).text.1)) c233] h221 o235 ty22 rfl rfl rfl (Nat.le_of_ble_eq_true rfl) rfl rfl fun w236 o237 s238 h239 => ?_
  refine nsr ?_
  refine sv (Does.load_ownN [i64 (((((r.num 1).2).num 1).1 : Nat) : Int), i64 (((((((r.num 1).2).num 1).2).num 1).1 : Nat) : Int), i64 (((((((((r.num 1).2).num 1).2).num 1).2).num 4).1 : Nat) : Int), i64 (((((((((((r.num 1).2).num 1).2).num 1).2).num 4).2).num 1).1 : Nat) : Int), i64 (((((((((((((r.num 1).2).num 1).2).num 1).2).num 4).2).num 1).2).num 1).1 : Nat) : Int), i64 (((((((((((((((r.num 1).2).num 1).2).num 1).2).num 4).2).num 1).2).num 1).2).num 1).1 : Nat) : Int), .slice A182 (List.length (((((((((((((((r.num 1).2).num 1).2).num 1).2).num 4).2).num 1).2).num 1).2).num 1).2).nats.1)) c183, .slice A207 (List.length (((((((((((((((((r.num 1).2).num 1).2).num 1).2).num 4).2).num 1).2).num 1).2).num 1).2).nats).2).texts.1)) c208, .slice A232 (List.length (((((((((((((((((((r.num 1).2).num 1).2).num 1).2).num 4).2).num 1).2).num 1).2).num 1).2).nats).2).texts).2).text.1)) c233] o237 ty40 rfl rfl) ?_
  have c241 := s220.trans s238
  have c242 := s213.trans c241
  have c243 := s195.trans c242
  have c244 := s188.trans c243
  have c245 := s170.trans c244
  have c246 := s163.trans c245
  have c247 := s148.trans c246
  have c248 := s141.trans c247
  have c249 := s126.trans c248
  have c250 := s119.trans c249
  have c251 := s104.trans c250
  have c252 := s97.trans c251
  have c253 := s82.trans c252
  have c254 := s75.trans c253
  have c255 := s60.trans c254
  have c256 := s53.trans c255
  have c257 := s38.trans c256
  have c258 := s31.trans c257
  have c259 := s15.trans c258
  have o240 := o7.up c259
  refine sstore [i64 (((((r.num 1).2).num 1).1 : Nat) : Int), i64 (((((((r.num 1).2).num 1).2).num 1).1 : Nat) : Int), i64 (((((((((r.num 1).2).num 1).2).num 1).2).num 4).1 : Nat) : Int), i64 (((((((((((r.num 1).2).num 1).2).num 1).2).num 4).2).num 1).1 : Nat) : Int), i64 (((((((((((((r.num 1).2).num 1).2).num 1).2).num 4).2).num 1).2).num 1).1 : Nat) : Int), i64 (((((((((((((((r.num 1).2).num 1).2).num 1).2).num 4).2).num 1).2).num 1).2).num 1).1 : Nat) : Int), .slice A182 (List.length (((((((((((((((r.num 1).2).num 1).2).num 1).2).num 4).2).num 1).2).num 1).2).num 1).2).nats.1)) c183, .slice A207 (List.length (((((((((((((((((r.num 1).2).num 1).2).num 1).2).num 4).2).num 1).2).num 1).2).num 1).2).nats).2).texts.1)) c208, .slice A232 (List.length (((((((((((((((((((r.num 1).2).num 1).2).num 1).2).num 4).2).num 1).2).num 1).2).num 1).2).nats).2).texts).2).text.1)) c233] h239 o240 ty40 rfl rfl rfl (Nat.le_of_ble_eq_true rfl) rfl rfl fun w260 o261 s262 h263 => ?_
  refine Seq.next ?_
  have c264 := c259.trans s262
  have c265 := s8.trans c264
  obtain ⟨lab9, s9, B9⟩ := hX [(1, r_d)] c265 (by decide) h263
  obtain ⟨zU, zo⟩ := B9.u
  have c266 := c244.trans s262
  have q267 := up c266 q169
  have c268 := c242.trans s262
  have q269 := up c268 q194
  have c270 := s238.trans s262
  have q271 := up c270 q219
  have o272 := o227.up c270
  have q273 := up c270 q228
  refine Run.ret ?_
  exact post_one Try.results100 ⟨_, rfl, Own.loadN [i64 (((((r.num 1).2).num 1).1 : Nat) : Int), i64 (((((((r.num 1).2).num 1).2).num 1).1 : Nat) : Int), i64 (((((((((r.num 1).2).num 1).2).num 1).2).num 4).1 : Nat) : Int), i64 (((((((((((r.num 1).2).num 1).2).num 1).2).num 4).2).num 1).1 : Nat) : Int), i64 (((((((((((((r.num 1).2).num 1).2).num 1).2).num 4).2).num 1).2).num 1).1 : Nat) : Int), i64 (((((((((((((((r.num 1).2).num 1).2).num 1).2).num 4).2).num 1).2).num 1).2).num 1).1 : Nat) : Int), .slice A182 (List.length (((((((((((((((r.num 1).2).num 1).2).num 1).2).num 4).2).num 1).2).num 1).2).num 1).2).nats.1)) c183, .slice A207 (List.length (((((((((((((((((r.num 1).2).num 1).2).num 1).2).num 4).2).num 1).2).num 1).2).num 1).2).nats).2).texts.1)) c208, .slice A232 (List.length (((((((((((((((((((r.num 1).2).num 1).2).num 1).2).num 4).2).num 1).2).num 1).2).num 1).2).nats).2).texts).2).text.1)) c233] o261 ty40 rfl⟩ ⟨_, lab9, rfl, ⟨(EntryV.cast (show (⟨(((((r.num 1).2).num 1).1 : Nat) : Int), (((((((r.num 1).2).num 1).2).num 1).1 : Nat) : Int), (((((((((r.num 1).2).num 1).2).num 1).2).num 4).1 : Nat) : Int), (((((((((((r.num 1).2).num 1).2).num 1).2).num 4).2).num 1).1 : Nat) : Int), (((((((((((((r.num 1).2).num 1).2).num 1).2).num 4).2).num 1).2).num 1).1 : Nat) : Int), (((((((((((((((r.num 1).2).num 1).2).num 1).2).num 4).2).num 1).2).num 1).2).num 1).1 : Nat) : Int), ((((((((((((((r.num 1).2).num 1).2).num 1).2).num 4).2).num 1).2).num 1).2).num 1).2).nats.1, ((((((((((((((((r.num 1).2).num 1).2).num 1).2).num 4).2).num 1).2).num 1).2).num 1).2).nats).2).texts.1, ((((((((((((((((((r.num 1).2).num 1).2).num 1).2).num 4).2).num 1).2).num 1).2).num 1).2).nats).2).texts).2).text.1⟩ : EntryD) = r.entryD from by first | (simp only [Rd.entryD, Rd.s1, Rd.s2, Rd.s3, Rd.s4, Rd.s5, Rd.s6, Rd.s7, Rd.s8, Rd.s9, Rd.v4, Rd.v5, Rd.v6]; done) | (with_reducible rfl; done) | (omega; done) | (simp_all; done)) (EntryV.mk (up zo q267) (up zo q269) (up zo q271))), ⟨_, ((show ((((((((((((((((((((r.num 1).2).num 1).2).num 1).2).num 4).2).num 1).2).num 1).2).num 1).2).nats).2).texts).2).text).2.bad : Bool) = r.entryR.bad from by simp only [Rd.entryR, Rd.s1, Rd.s2, Rd.s3, Rd.s4, Rd.s5, Rd.s6, Rd.s7, Rd.s8, Rd.s9, Rd.v4, Rd.v5, Rd.v6]) ▸ (Own.back o272 B9 r_d rfl (by decide) (by simp [keys]))), (BytesV.cast (show ((((((((((((((((((((r.num 1).2).num 1).2).num 1).2).num 4).2).num 1).2).num 1).2).num 1).2).nats).2).texts).2).text).2.b) = r.entryR.b from by simp only [Rd.entryR, Rd.s1, Rd.s2, Rd.s3, Rd.s4, Rd.s5, Rd.s6, Rd.s7, Rd.s8, Rd.s9, Rd.v4, Rd.v5, Rd.v6]) (up zo q273))⟩⟩, s9, B9.v⟩

theorem wire_DecodeEntry {lab : Lab} {w : World} (hv : Valid lab w) {b : List UInt8} {v0 : Value} (h0 : BytesV b lab w v0) (hr : List.length b ≤ 1000000) :
    Calls Try.prog 27 #[v0] w (fun e w' => ∃ v, e = .returned v ∧ (And2 (EntryV (decE b)) (Is (i64 (if decOk b then 0 else 3)))) lab w' v ∧ Below w.heap.size w w') := by
  obtain ⟨L0, h0L, ⟨zU0, z00⟩, hX⟩ := enter0 hv
  replace h0 := up z00 h0
  obtain ⟨A1, c2, rfl⟩ := BytesV.shape h0
  have z3 := BytesV.cap h0
  refine calls_run Try.func27 rfl Try.ntmps27 (Nat.le_of_ble_eq_true rfl) ?_
  refine rsr ?_
  refine salloc 3 [.int .i64 0, .int .i64 0, .int .i64 0, .int .i64 0, .int .i64 0, .int .i64 0, .slice none 0 0, .slice none 0 0, .slice none 0 0] h0L ty40 rfl fun b6 L4 w5 o7 s8 h9 => ?_
  refine sv (Does.assign rfl) ?_
  refine nsr ?_
  refine sv (Does.move rfl) ?_
  refine sv (Does.build [(0, .slice A1 (List.length b) c2)] [(0, 1), (1, 1)] [.slice A1 (List.length b) c2, .bool false] Try.underlying159 ty159 (by kernel_rfl) rfl (by kernel_rfl)) ?_
  refine sbox 11 [.slice A1 (List.length b) c2, .bool false] h9 rfl rfl fun b12 L10 w11 o13 s14 h15 => ?_
  refine sv (Does.assign rfl) ?_
  refine nsr ?_
  refine sv (Does.move rfl) ?_
  have c16 := s8.trans s14
  have q17 := up c16 h0
  refine scallE cal100 rfl (rd_entry h15  (r := (Rd.mk b false)) o13 q17 (show  List.length (Rd.mk b false).b ≤ 1000000 from by first | exact hr | omega)) fun v18 L23 w26 r25 s21 h22 => ?_
  obtain ⟨q20, o24⟩ := r25
  obtain ⟨v27, o28, q29⟩ := o24
  obtain ⟨A30, c31, rfl⟩ := BytesV.shape q29
  have z32 := BytesV.cap q29
  obtain ⟨A33, c34, A36, c37, A39, c40, rfl, q35, q38, q41⟩ := EntryV.open q20
  have z42 := NatsV.cap q35
  have z43 := RowsV.cap q38
  have z44 := BytesV.cap q41
  refine salloc 6 [.int .i64 0, .int .i64 0, .int .i64 0, .int .i64 0, .int .i64 0, .int .i64 0, .slice none 0 0, .slice none 0 0, .slice none 0 0] h22 ty40 rfl fun b47 L45 w46 o48 s49 h50 => ?_
  refine sstore [i64 (((Rd.mk b false).entryD).kind), i64 (((Rd.mk b false).entryD).author), i64 (((Rd.mk b false).entryD).epoch), i64 (((Rd.mk b false).entryD).mode), i64 (((Rd.mk b false).entryD).peer), i64 (((Rd.mk b false).entryD).phase), .slice A33 (List.length ((Rd.mk b false).entryD).nums) c34, .slice A36 (List.length ((Rd.mk b false).entryD).texts) c37, .slice A39 (List.length ((Rd.mk b false).entryD).proof) c40] h50 o48 ty40 rfl rfl rfl (Nat.le_of_ble_eq_true rfl) rfl rfl fun w51 o52 s53 h54 => ?_
  refine nsr ?_
  refine sv (Does.load_ownN [i64 (((Rd.mk b false).entryD).kind), i64 (((Rd.mk b false).entryD).author), i64 (((Rd.mk b false).entryD).epoch), i64 (((Rd.mk b false).entryD).mode), i64 (((Rd.mk b false).entryD).peer), i64 (((Rd.mk b false).entryD).phase), .slice A33 (List.length ((Rd.mk b false).entryD).nums) c34, .slice A36 (List.length ((Rd.mk b false).entryD).texts) c37, .slice A39 (List.length ((Rd.mk b false).entryD).proof) c40] o52 ty40 rfl rfl) ?_
  have c56 := s49.trans s53
  have q57 := up c56 q35
  have q58 := up c56 q38
  have q59 := up c56 q41
  have q55 : EntryV ((Rd.mk b false).entryD) L45 w51 (.agg #[i64 (((Rd.mk b false).entryD).kind), i64 (((Rd.mk b false).entryD).author), i64 (((Rd.mk b false).entryD).epoch), i64 (((Rd.mk b false).entryD).mode), i64 (((Rd.mk b false).entryD).peer), i64 (((Rd.mk b false).entryD).phase), .slice A33 (List.length ((Rd.mk b false).entryD).nums) c34, .slice A36 (List.length ((Rd.mk b false).entryD).texts) c37, .slice A39 (List.length ((Rd.mk b false).entryD).proof) c40]) := EntryV.mk q57 q58 q59
  refine scall (V := And2 (BytesV (if ((Rd.mk b false).entryD).no then [] else ((Rd.mk b false).entryD).all)) (Is (i64 (if ((Rd.mk b false).entryD).no then 3 else 0)))) cal25 h54 rfl (wire_EncodeEntry h54 q55 (show ∀ k, k < List.length ((Rd.mk b false).entryD).nums → nw (List.getD ((Rd.mk b false).entryD).nums k 0) ≤ 1000000 from by exact entry_nw _)) fun v60 w61 q62 s63 h64 => ?_
  obtain ⟨v65, v66, rfl, q67, q68⟩ := q62
  obtain ⟨A69, c70, rfl⟩ := BytesV.shape q67
  have z71 := BytesV.cap q67
  have q68 := Is.out q68; subst q68
  refine sv (Does.move rfl) ?_
  refine sv (Does.extract rfl rfl) ?_
  refine sv (Does.extract rfl rfl) ?_
  refine sv (Does.assign rfl) ?_
  refine sv (Does.assign rfl) ?_
  refine Seq.next ?_
  refine Run.seq ?_
  refine rsr ?_
  refine sv (Does.move rfl) ?_
  refine sv (Does.nilCheck rfl) ?_
  refine sv (Does.fieldAddr' 1 Try.underlying159 rfl ty4 rfl rfl) ?_
  have c73 := c56.trans s63
  have o72 := o28.up c73
  refine sv (Does.load_own1 o72 ty4 rfl rfl) ?_
  refine sv (Does.move rfl) ?_
  rcases bdich ((Rd.mk b false).entryR.bad) with hc1 | hc1
  · refine Seq.guard_off' rfl rfl hc1 rfl (by decide) ?_
    refine Seq.guard_off' rfl rfl hc1 rfl (by decide) ?_
    refine sv (Does.pick_b rfl hc1 rfl) ?_
    refine sv (Does.move rfl) ?_
    refine Seq.guard_off' rfl rfl rfl rfl (by decide) ?_
    refine Seq.guard_off' rfl rfl rfl rfl (by decide) ?_
    refine Seq.guard_off' rfl rfl rfl rfl (by decide) ?_
    refine Seq.guard_off' rfl rfl rfl rfl (by decide) ?_
    refine sv (Does.pick_t rfl rfl) ?_
    refine Seq.next ?_
    refine Run.cond_b rfl rfl ?_
    refine rsr ?_
    refine sv (Does.build [] [(0, 1), (1, 1), (2, 1), (3, 1), (4, 1), (5, 1), (6, 1), (7, 1), (8, 1)] [.int .i64 0, .int .i64 0, .int .i64 0, .int .i64 0, .int .i64 0, .int .i64 0, .slice none 0 0, .slice none 0 0, .slice none 0 0] Try.underlying40 ty40 (by kernel_rfl) rfl (by kernel_rfl)) ?_
    have c75 := s21.trans c73
    have c76 := s14.trans c75
    have o74 := o7.up c76
    refine sstore [.int .i64 0, .int .i64 0, .int .i64 0, .int .i64 0, .int .i64 0, .int .i64 0, .slice none 0 0, .slice none 0 0, .slice none 0 0] h64 o74 ty40 rfl rfl rfl (Nat.le_of_ble_eq_true rfl) rfl rfl fun w77 o78 s79 h80 => ?_
    refine sv (Does.assign rfl) ?_
    refine Seq.next ?_
    have c81 := c75.trans s79
    have c82 := c16.trans c81
    obtain ⟨⟨zU, zo⟩, zb⟩ := hX c82 (by decide)
    refine Run.ret (ret_then ?_)
    exact post_two Try.results27 ⟨_, rfl, Own.loadN [.int .i64 0, .int .i64 0, .int .i64 0, .int .i64 0, .int .i64 0, .int .i64 0, .slice none 0 0, .slice none 0 0, .slice none 0 0] o78 ty40 rfl⟩ rfl ⟨_, rfl, ⟨_, _, rfl, (EntryV.cast (show (⟨0, 0, 0, 0, 0, 0, [], [], []⟩ : EntryD) = decE b from by first | (exact decE_no (decOk_a hc1); done) | (exact decE_no (decOk_b hp2); done) | (exact decE_no (decOk_c hp2 hc3); done) | (exact decE_yes (decOk_d hc1 hp2 hc3); done) | (exact dec3 (decOk_a hc1); done) | (exact dec3 (decOk_b hp2); done) | (exact dec3 (decOk_c hp2 hc3); done) | (exact dec0 (decOk_d hc1 hp2 hc3); done) | (with_reducible rfl; done) | (omega; done) | (simp_all; done)) (EntryV.mk (up zo (NatsV.nil L45 w77)) (up zo (RowsV.nil L45 w77)) (up zo (BytesV.nil L45 w77)))), (isI64 (by first | (exact decE_no (decOk_a hc1); done) | (exact decE_no (decOk_b hp2); done) | (exact decE_no (decOk_c hp2 hc3); done) | (exact decE_yes (decOk_d hc1 hp2 hc3); done) | (exact dec3 (decOk_a hc1); done) | (exact dec3 (decOk_b hp2); done) | (exact dec3 (decOk_c hp2 hc3); done) | (exact dec0 (decOk_d hc1 hp2 hc3); done) | (with_reducible rfl; done) | (omega; done) | (simp_all; done)) _ _)⟩, zb⟩
  refine Seq.guard_on' rfl rfl hc1 ?_
  refine sv (Does.move rfl) ?_
  refine Seq.guard_on' rfl rfl hc1 ?_
  refine sv (Does.neq rfl rfl) ?_
  refine sv (Does.pick_b rfl hc1 rfl) ?_
  refine sv (Does.move rfl) ?_
  rcases Decidable.em ((if ((Rd.mk b false).entryD).no then 3 else 0 : Int) ≠ (0 : Int)) with hp2 | hp2
  · refine Seq.guard_off' rfl rfl (decide_eq_true hp2) rfl (by decide) ?_
    refine Seq.guard_off' rfl rfl (decide_eq_true hp2) rfl (by decide) ?_
    refine Seq.guard_off' rfl rfl (decide_eq_true hp2) rfl (by decide) ?_
    refine Seq.guard_off' rfl rfl (decide_eq_true hp2) rfl (by decide) ?_
    refine sv (Does.pick_b rfl (decide_eq_true hp2) rfl) ?_
    refine Seq.next ?_
    refine Run.cond_b rfl rfl ?_
    refine rsr ?_
    refine sv (Does.build [] [(0, 1), (1, 1), (2, 1), (3, 1), (4, 1), (5, 1), (6, 1), (7, 1), (8, 1)] [.int .i64 0, .int .i64 0, .int .i64 0, .int .i64 0, .int .i64 0, .int .i64 0, .slice none 0 0, .slice none 0 0, .slice none 0 0] Try.underlying40 ty40 (by kernel_rfl) rfl (by kernel_rfl)) ?_
    have c84 := s21.trans c73
    have c85 := s14.trans c84
    have o83 := o7.up c85
    refine sstore [.int .i64 0, .int .i64 0, .int .i64 0, .int .i64 0, .int .i64 0, .int .i64 0, .slice none 0 0, .slice none 0 0, .slice none 0 0] h64 o83 ty40 rfl rfl rfl (Nat.le_of_ble_eq_true rfl) rfl rfl fun w86 o87 s88 h89 => ?_
    refine sv (Does.assign rfl) ?_
    refine Seq.next ?_
    have c90 := c84.trans s88
    have c91 := c16.trans c90
    obtain ⟨⟨zU, zo⟩, zb⟩ := hX c91 (by decide)
    refine Run.ret (ret_then ?_)
    exact post_two Try.results27 ⟨_, rfl, Own.loadN [.int .i64 0, .int .i64 0, .int .i64 0, .int .i64 0, .int .i64 0, .int .i64 0, .slice none 0 0, .slice none 0 0, .slice none 0 0] o87 ty40 rfl⟩ rfl ⟨_, rfl, ⟨_, _, rfl, (EntryV.cast (show (⟨0, 0, 0, 0, 0, 0, [], [], []⟩ : EntryD) = decE b from by first | (exact decE_no (decOk_a hc1); done) | (exact decE_no (decOk_b hp2); done) | (exact decE_no (decOk_c hp2 hc3); done) | (exact decE_yes (decOk_d hc1 hp2 hc3); done) | (exact dec3 (decOk_a hc1); done) | (exact dec3 (decOk_b hp2); done) | (exact dec3 (decOk_c hp2 hc3); done) | (exact dec0 (decOk_d hc1 hp2 hc3); done) | (with_reducible rfl; done) | (omega; done) | (simp_all; done)) (EntryV.mk (up zo (NatsV.nil L45 w86)) (up zo (RowsV.nil L45 w86)) (up zo (BytesV.nil L45 w86)))), (isI64 (by first | (exact decE_no (decOk_a hc1); done) | (exact decE_no (decOk_b hp2); done) | (exact decE_no (decOk_c hp2 hc3); done) | (exact decE_yes (decOk_d hc1 hp2 hc3); done) | (exact dec3 (decOk_a hc1); done) | (exact dec3 (decOk_b hp2); done) | (exact dec3 (decOk_c hp2 hc3); done) | (exact dec0 (decOk_d hc1 hp2 hc3); done) | (with_reducible rfl; done) | (omega; done) | (simp_all; done)) _ _)⟩, zb⟩
  refine Seq.guard_on' rfl rfl (decide_eq_false hp2) ?_
  refine sv (Does.move rfl) ?_
  refine Seq.guard_on' rfl rfl (decide_eq_false hp2) ?_
  refine sv (Does.move rfl) ?_
  refine Seq.guard_on' rfl rfl (decide_eq_false hp2) ?_
  have c92 := s21.trans c73
  have q93 := up c92 q17
  refine scall (V := Is (.bool (decide ((if ((Rd.mk b false).entryD).no then [] else ((Rd.mk b false).entryD).all) = b)))) cal101 h64 rfl (bytes_Equal h64 q67 q93) fun v94 w95 q96 s97 h98 => ?_
  have q96 := Is.out q96; subst q96
  refine Seq.guard_on' rfl rfl (decide_eq_false hp2) ?_
  refine sv (Does.not rfl) ?_
  refine sv (Does.pick_b rfl (decide_eq_false hp2) rfl) ?_
  refine Seq.next ?_
  rcases bdich (!(decide ((if ((Rd.mk b false).entryD).no then [] else ((Rd.mk b false).entryD).all) = b))) with hc3 | hc3
  · refine Run.cond_b rfl hc3 ?_
    refine rsr ?_
    refine sv (Does.build [] [(0, 1), (1, 1), (2, 1), (3, 1), (4, 1), (5, 1), (6, 1), (7, 1), (8, 1)] [.int .i64 0, .int .i64 0, .int .i64 0, .int .i64 0, .int .i64 0, .int .i64 0, .slice none 0 0, .slice none 0 0, .slice none 0 0] Try.underlying40 ty40 (by kernel_rfl) rfl (by kernel_rfl)) ?_
    have c100 := c92.trans s97
    have c101 := s14.trans c100
    have o99 := o7.up c101
    refine sstore [.int .i64 0, .int .i64 0, .int .i64 0, .int .i64 0, .int .i64 0, .int .i64 0, .slice none 0 0, .slice none 0 0, .slice none 0 0] h98 o99 ty40 rfl rfl rfl (Nat.le_of_ble_eq_true rfl) rfl rfl fun w102 o103 s104 h105 => ?_
    refine sv (Does.assign rfl) ?_
    refine Seq.next ?_
    have c106 := c100.trans s104
    have c107 := c16.trans c106
    obtain ⟨⟨zU, zo⟩, zb⟩ := hX c107 (by decide)
    refine Run.ret (ret_then ?_)
    exact post_two Try.results27 ⟨_, rfl, Own.loadN [.int .i64 0, .int .i64 0, .int .i64 0, .int .i64 0, .int .i64 0, .int .i64 0, .slice none 0 0, .slice none 0 0, .slice none 0 0] o103 ty40 rfl⟩ rfl ⟨_, rfl, ⟨_, _, rfl, (EntryV.cast (show (⟨0, 0, 0, 0, 0, 0, [], [], []⟩ : EntryD) = decE b from by first | (exact decE_no (decOk_a hc1); done) | (exact decE_no (decOk_b hp2); done) | (exact decE_no (decOk_c hp2 hc3); done) | (exact decE_yes (decOk_d hc1 hp2 hc3); done) | (exact dec3 (decOk_a hc1); done) | (exact dec3 (decOk_b hp2); done) | (exact dec3 (decOk_c hp2 hc3); done) | (exact dec0 (decOk_d hc1 hp2 hc3); done) | (with_reducible rfl; done) | (omega; done) | (simp_all; done)) (EntryV.mk (up zo (NatsV.nil L45 w102)) (up zo (RowsV.nil L45 w102)) (up zo (BytesV.nil L45 w102)))), (isI64 (by first | (exact decE_no (decOk_a hc1); done) | (exact decE_no (decOk_b hp2); done) | (exact decE_no (decOk_c hp2 hc3); done) | (exact decE_yes (decOk_d hc1 hp2 hc3); done) | (exact dec3 (decOk_a hc1); done) | (exact dec3 (decOk_b hp2); done) | (exact dec3 (decOk_c hp2 hc3); done) | (exact dec0 (decOk_d hc1 hp2 hc3); done) | (with_reducible rfl; done) | (omega; done) | (simp_all; done)) _ _)⟩, zb⟩
  refine Run.cond_b rfl hc3 ?_
  refine Run.skip_go (fun _ _ h => h) ?_
  refine rsr ?_
  have c109 := s63.trans s97
  have o108 := o52.up c109
  refine sv (Does.load_ownN [i64 (((Rd.mk b false).entryD).kind), i64 (((Rd.mk b false).entryD).author), i64 (((Rd.mk b false).entryD).epoch), i64 (((Rd.mk b false).entryD).mode), i64 (((Rd.mk b false).entryD).peer), i64 (((Rd.mk b false).entryD).phase), .slice A33 (List.length ((Rd.mk b false).entryD).nums) c34, .slice A36 (List.length ((Rd.mk b false).entryD).texts) c37, .slice A39 (List.length ((Rd.mk b false).entryD).proof) c40] o108 ty40 rfl rfl) ?_
  have c111 := c92.trans s97
  have c112 := s14.trans c111
  have o110 := o7.up c112
  refine sstore [i64 (((Rd.mk b false).entryD).kind), i64 (((Rd.mk b false).entryD).author), i64 (((Rd.mk b false).entryD).epoch), i64 (((Rd.mk b false).entryD).mode), i64 (((Rd.mk b false).entryD).peer), i64 (((Rd.mk b false).entryD).phase), .slice A33 (List.length ((Rd.mk b false).entryD).nums) c34, .slice A36 (List.length ((Rd.mk b false).entryD).texts) c37, .slice A39 (List.length ((Rd.mk b false).entryD).proof) c40] h98 o110 ty40 rfl rfl rfl (Nat.le_of_ble_eq_true rfl) rfl rfl fun w113 o114 s115 h116 => ?_
  refine sv (Does.assign rfl) ?_
  refine Seq.next ?_
  have c117 := c111.trans s115
  have c118 := c16.trans c117
  obtain ⟨⟨zU, zo⟩, zb⟩ := hX c118 (by decide)
  have c119 := c109.trans s115
  have q120 := up c119 q57
  have q121 := up c119 q58
  have q122 := up c119 q59
  refine Run.ret ?_
  exact post_two Try.results27 ⟨_, rfl, Own.loadN [i64 (((Rd.mk b false).entryD).kind), i64 (((Rd.mk b false).entryD).author), i64 (((Rd.mk b false).entryD).epoch), i64 (((Rd.mk b false).entryD).mode), i64 (((Rd.mk b false).entryD).peer), i64 (((Rd.mk b false).entryD).phase), .slice A33 (List.length ((Rd.mk b false).entryD).nums) c34, .slice A36 (List.length ((Rd.mk b false).entryD).texts) c37, .slice A39 (List.length ((Rd.mk b false).entryD).proof) c40] o114 ty40 rfl⟩ rfl ⟨_, rfl, ⟨_, _, rfl, (EntryV.cast (show (⟨((Rd.mk b false).entryD).kind, ((Rd.mk b false).entryD).author, ((Rd.mk b false).entryD).epoch, ((Rd.mk b false).entryD).mode, ((Rd.mk b false).entryD).peer, ((Rd.mk b false).entryD).phase, ((Rd.mk b false).entryD).nums, ((Rd.mk b false).entryD).texts, ((Rd.mk b false).entryD).proof⟩ : EntryD) = decE b from by first | (exact decE_no (decOk_a hc1); done) | (exact decE_no (decOk_b hp2); done) | (exact decE_no (decOk_c hp2 hc3); done) | (exact decE_yes (decOk_d hc1 hp2 hc3); done) | (exact dec3 (decOk_a hc1); done) | (exact dec3 (decOk_b hp2); done) | (exact dec3 (decOk_c hp2 hc3); done) | (exact dec0 (decOk_d hc1 hp2 hc3); done) | (with_reducible rfl; done) | (omega; done) | (simp_all; done)) (EntryV.mk (up zo q120) (up zo q121) (up zo q122))), (isI64 (by first | (exact decE_no (decOk_a hc1); done) | (exact decE_no (decOk_b hp2); done) | (exact decE_no (decOk_c hp2 hc3); done) | (exact decE_yes (decOk_d hc1 hp2 hc3); done) | (exact dec3 (decOk_a hc1); done) | (exact dec3 (decOk_b hp2); done) | (exact dec3 (decOk_c hp2 hc3); done) | (exact dec0 (decOk_d hc1 hp2 hc3); done) | (with_reducible rfl; done) | (omega; done) | (simp_all; done)) _ _)⟩, zb⟩

theorem wire_DecodeVote {lab : Lab} {w : World} (hv : Valid lab w) {b : List UInt8} {v0 : Value} (h0 : BytesV b lab w v0) (hr : List.length b ≤ 1000000) :
    Calls Try.prog 28 #[v0] w (fun e w' => ∃ v, e = .returned v ∧ (And2 (VoteV (decV b)) (Is (i64 (if decVOk b then 0 else 3)))) lab w' v ∧ Below w.heap.size w w') := by
  obtain ⟨L0, h0L, ⟨zU0, z00⟩, hX⟩ := enter0 hv
  replace h0 := up z00 h0
  obtain ⟨A1, c2, rfl⟩ := BytesV.shape h0
  have z3 := BytesV.cap h0
  have e0 := Nat.le_trans (Rd.num_le (Rd.mk b false) 1) hr
  have e1 := Nat.le_trans (Rd.num_le ((Rd.mk b false).num 1).2 1) e0
  have e2 := Nat.le_trans (Rd.num_le (((Rd.mk b false).num 1).2.num 1).2 1) e1
  have e3 := Nat.le_trans (Rd.num_le ((((Rd.mk b false).num 1).2.num 1).2.num 1).2 4) e2
  have e4 := Nat.le_trans (Rd.num_le (((((Rd.mk b false).num 1).2.num 1).2.num 1).2.num 4).2 4) e3
  have e5 := Nat.le_trans (Rd.num_le ((((((Rd.mk b false).num 1).2.num 1).2.num 1).2.num 4).2.num 4).2 4) e4
  have e6 := Nat.le_trans (Rd.text_le (((((((Rd.mk b false).num 1).2.num 1).2.num 1).2.num 4).2.num 4).2.num 4).2) e5
  have b5 := Rd.num_lt (((((((Rd.mk b false).num 1).2.num 1).2.num 1).2.num 4).2.num 4).2) 4
  refine calls_run Try.func28 rfl Try.ntmps28 (Nat.le_of_ble_eq_true rfl) ?_
  refine rsr ?_
  refine salloc 3 [.int .i64 0, .int .i64 0, .int .i64 0, .int .i64 0, .int .i64 0, .slice none 0 0] h0L ty24 rfl fun b6 L4 w5 o7 s8 h9 => ?_
  refine sv (Does.assign rfl) ?_
  refine nsr ?_
  refine sv (Does.move rfl) ?_
  refine sv (Does.build [(0, .slice A1 (List.length b) c2)] [(0, 1), (1, 1)] [.slice A1 (List.length b) c2, .bool false] Try.underlying159 ty159 (by kernel_rfl) rfl (by kernel_rfl)) ?_
  refine sbox 11 [.slice A1 (List.length b) c2, .bool false] h9 rfl rfl fun b12 L10 w11 o13 s14 h15 => ?_
  refine sv (Does.assign rfl) ?_
  refine nsr ?_
  refine sv (Does.move rfl) ?_
  have c16 := s8.trans s14
  have q17 := up c16 h0
  refine scallE cal102 rfl (rd_num h15 (size := 1) (r := (Rd.mk b false)) o13 q17  (show  1 ≤ 4 from by first | omega | exact hr | assumption) (show  List.length (Rd.mk b false).b ≤ 1000000 from by first | omega | exact hr | assumption)) fun v18 L23 w26 r25 s21 h22 => ?_
  obtain ⟨q20, o24⟩ := r25
  obtain ⟨v27, o28, q29⟩ := o24
  obtain ⟨A30, c31, rfl⟩ := BytesV.shape q29
  have z32 := BytesV.cap q29
  have q20 := Is.out q20; subst q20
  refine nsr ?_
  refine salloc 6 [.int .i64 0, .int .i64 0, .int .i64 0, .int .i64 0, .int .i64 0, .slice none 0 0] h22 ty24 rfl fun b35 L33 w34 o36 s37 h38 => ?_
  refine nsr ?_
  refine sv (Does.move rfl) ?_
  have o39 := o28.up s37
  have q40 := up s37 q29
  refine scallE cal102 rfl (rd_num h38 (size := 1) (r := ((Rd.mk b false).num 1).2) o39 q40  (show  1 ≤ 4 from by first | omega | exact hr | assumption) (show  List.length (((Rd.mk b false).num 1).2).b ≤ 1000000 from by first | omega | exact hr | assumption)) fun v41 L46 w49 r48 s44 h45 => ?_
  obtain ⟨q43, o47⟩ := r48
  obtain ⟨v50, o51, q52⟩ := o47
  obtain ⟨A53, c54, rfl⟩ := BytesV.shape q52
  have z55 := BytesV.cap q52
  have q43 := Is.out q43; subst q43
  refine sv (Does.fieldAddr' 0 Try.underlying24 rfl ty3 rfl rfl) ?_
  have o56 := o36.up s44
  refine sstore [i64 ((((((Rd.mk b false).num 1).2).num 1).1 : Nat) : Int), .int .i64 0, .int .i64 0, .int .i64 0, .int .i64 0, .slice none 0 0] h45 o56 ty3 rfl rfl rfl (Nat.le_of_ble_eq_true rfl) rfl rfl fun w57 o58 s59 h60 => ?_
  refine nsr ?_
  refine sv (Does.move rfl) ?_
  have o61 := o51.up s59
  have q62 := up s59 q52
  refine scallE cal102 rfl (rd_num h60 (size := 1) (r := ((((Rd.mk b false).num 1).2).num 1).2) o61 q62  (show  1 ≤ 4 from by first | omega | exact hr | assumption) (show  List.length (((((Rd.mk b false).num 1).2).num 1).2).b ≤ 1000000 from by first | omega | exact hr | assumption)) fun v63 L68 w71 r70 s66 h67 => ?_
  obtain ⟨q65, o69⟩ := r70
  obtain ⟨v72, o73, q74⟩ := o69
  obtain ⟨A75, c76, rfl⟩ := BytesV.shape q74
  have z77 := BytesV.cap q74
  have q65 := Is.out q65; subst q65
  refine sv (Does.fieldAddr' 1 Try.underlying24 rfl ty3 rfl rfl) ?_
  have o78 := o58.up s66
  refine sstore [i64 ((((((Rd.mk b false).num 1).2).num 1).1 : Nat) : Int), i64 ((((((((Rd.mk b false).num 1).2).num 1).2).num 1).1 : Nat) : Int), .int .i64 0, .int .i64 0, .int .i64 0, .slice none 0 0] h67 o78 ty3 rfl rfl rfl (Nat.le_of_ble_eq_true rfl) rfl rfl fun w79 o80 s81 h82 => ?_
  refine nsr ?_
  refine sv (Does.move rfl) ?_
  have o83 := o73.up s81
  have q84 := up s81 q74
  refine scallE cal102 rfl (rd_num h82 (size := 4) (r := ((((((Rd.mk b false).num 1).2).num 1).2).num 1).2) o83 q84  (show  4 ≤ 4 from by first | omega | exact hr | assumption) (show  List.length (((((((Rd.mk b false).num 1).2).num 1).2).num 1).2).b ≤ 1000000 from by first | omega | exact hr | assumption)) fun v85 L90 w93 r92 s88 h89 => ?_
  obtain ⟨q87, o91⟩ := r92
  obtain ⟨v94, o95, q96⟩ := o91
  obtain ⟨A97, c98, rfl⟩ := BytesV.shape q96
  have z99 := BytesV.cap q96
  have q87 := Is.out q87; subst q87
  refine sv (Does.fieldAddr' 2 Try.underlying24 rfl ty3 rfl rfl) ?_
  have o100 := o80.up s88
  refine sstore [i64 ((((((Rd.mk b false).num 1).2).num 1).1 : Nat) : Int), i64 ((((((((Rd.mk b false).num 1).2).num 1).2).num 1).1 : Nat) : Int), i64 ((((((((((Rd.mk b false).num 1).2).num 1).2).num 1).2).num 4).1 : Nat) : Int), .int .i64 0, .int .i64 0, .slice none 0 0] h89 o100 ty3 rfl rfl rfl (Nat.le_of_ble_eq_true rfl) rfl rfl fun w101 o102 s103 h104 => ?_
  refine nsr ?_
  refine sv (Does.move rfl) ?_
  have o105 := o95.up s103
  have q106 := up s103 q96
  refine scallE cal102 rfl (rd_num h104 (size := 4) (r := ((((((((Rd.mk b false).num 1).2).num 1).2).num 1).2).num 4).2) o105 q106  (show  4 ≤ 4 from by first | omega | exact hr | assumption) (show  List.length (((((((((Rd.mk b false).num 1).2).num 1).2).num 1).2).num 4).2).b ≤ 1000000 from by first | omega | exact hr | assumption)) fun v107 L112 w115 r114 s110 h111 => ?_
  obtain ⟨q109, o113⟩ := r114
  obtain ⟨v116, o117, q118⟩ := o113
  obtain ⟨A119, c120, rfl⟩ := BytesV.shape q118
  have z121 := BytesV.cap q118
  have q109 := Is.out q109; subst q109
  refine sv (Does.fieldAddr' 3 Try.underlying24 rfl ty3 rfl rfl) ?_
  have o122 := o102.up s110
  refine sstore [i64 ((((((Rd.mk b false).num 1).2).num 1).1 : Nat) : Int), i64 ((((((((Rd.mk b false).num 1).2).num 1).2).num 1).1 : Nat) : Int), i64 ((((((((((Rd.mk b false).num 1).2).num 1).2).num 1).2).num 4).1 : Nat) : Int), i64 ((((((((((((Rd.mk b false).num 1).2).num 1).2).num 1).2).num 4).2).num 4).1 : Nat) : Int), .int .i64 0, .slice none 0 0] h111 o122 ty3 rfl rfl rfl (Nat.le_of_ble_eq_true rfl) rfl rfl fun w123 o124 s125 h126 => ?_
  refine nsr ?_
  refine sv (Does.move rfl) ?_
  have o127 := o117.up s125
  have q128 := up s125 q118
  refine scallE cal102 rfl (rd_num h126 (size := 4) (r := ((((((((((Rd.mk b false).num 1).2).num 1).2).num 1).2).num 4).2).num 4).2) o127 q128  (show  4 ≤ 4 from by first | omega | exact hr | assumption) (show  List.length (((((((((((Rd.mk b false).num 1).2).num 1).2).num 1).2).num 4).2).num 4).2).b ≤ 1000000 from by first | omega | exact hr | assumption)) fun v129 L134 w137 r136 s132 h133 => ?_
  obtain ⟨q131, o135⟩ := r136
  obtain ⟨v138, o139, q140⟩ := o135
  obtain ⟨A141, c142, rfl⟩ := BytesV.shape q140
  have z143 := BytesV.cap q140
  have q131 := Is.out q131; subst q131
  refine sv (Does.sub rfl rfl (by first | omega | (simp; omega) | (simp at *; omega))) ?_
  refine sv (Does.fieldAddr' 4 Try.underlying24 rfl ty3 rfl rfl) ?_
  have o144 := o124.up s132
  refine sstore [i64 ((((((Rd.mk b false).num 1).2).num 1).1 : Nat) : Int), i64 ((((((((Rd.mk b false).num 1).2).num 1).2).num 1).1 : Nat) : Int), i64 ((((((((((Rd.mk b false).num 1).2).num 1).2).num 1).2).num 4).1 : Nat) : Int), i64 ((((((((((((Rd.mk b false).num 1).2).num 1).2).num 1).2).num 4).2).num 4).1 : Nat) : Int), i64 (((((((((((((((Rd.mk b false).num 1).2).num 1).2).num 1).2).num 4).2).num 4).2).num 4).1 : Nat) : Int) - 1), .slice none 0 0] h133 o144 ty3 rfl rfl rfl (Nat.le_of_ble_eq_true rfl) rfl rfl fun w145 o146 s147 h148 => ?_
  refine nsr ?_
  refine sv (Does.move rfl) ?_
  have o149 := o139.up s147
  have q150 := up s147 q140
  refine scallE cal103 rfl (rd_text h148  (r := ((((((((((((Rd.mk b false).num 1).2).num 1).2).num 1).2).num 4).2).num 4).2).num 4).2) o149 q150 (show  List.length (((((((((((((Rd.mk b false).num 1).2).num 1).2).num 1).2).num 4).2).num 4).2).num 4).2).b ≤ 1000000 from by first | omega | exact hr | assumption)) fun v151 L156 w159 r158 s154 h155 => ?_
  obtain ⟨q153, o157⟩ := r158
  obtain ⟨v160, o161, q162⟩ := o157
  obtain ⟨A163, c164, rfl⟩ := BytesV.shape q162
  have z165 := BytesV.cap q162
  obtain ⟨A166, c167, rfl⟩ := BytesV.shape q153
  have z168 := BytesV.cap q153
  refine sv (Does.fieldAddr' 5 Try.underlying24 rfl ty22 rfl rfl) ?_
  have o169 := o146.up s154
  refine sstore [i64 ((((((Rd.mk b false).num 1).2).num 1).1 : Nat) : Int), i64 ((((((((Rd.mk b false).num 1).2).num 1).2).num 1).1 : Nat) : Int), i64 ((((((((((Rd.mk b false).num 1).2).num 1).2).num 1).2).num 4).1 : Nat) : Int), i64 ((((((((((((Rd.mk b false).num 1).2).num 1).2).num 1).2).num 4).2).num 4).1 : Nat) : Int), i64 (((((((((((((((Rd.mk b false).num 1).2).num 1).2).num 1).2).num 4).2).num 4).2).num 4).1 : Nat) : Int) - 1), .slice A166 (List.length ((((((((((((((Rd.mk b false).num 1).2).num 1).2).num 1).2).num 4).2).num 4).2).num 4).2).text.1)) c167] h155 o169 ty22 rfl rfl rfl (Nat.le_of_ble_eq_true rfl) rfl rfl fun w170 o171 s172 h173 => ?_
  refine nsr ?_
  refine sv (Does.load_ownN [i64 ((((((Rd.mk b false).num 1).2).num 1).1 : Nat) : Int), i64 ((((((((Rd.mk b false).num 1).2).num 1).2).num 1).1 : Nat) : Int), i64 ((((((((((Rd.mk b false).num 1).2).num 1).2).num 1).2).num 4).1 : Nat) : Int), i64 ((((((((((((Rd.mk b false).num 1).2).num 1).2).num 1).2).num 4).2).num 4).1 : Nat) : Int), i64 (((((((((((((((Rd.mk b false).num 1).2).num 1).2).num 1).2).num 4).2).num 4).2).num 4).1 : Nat) : Int) - 1), .slice A166 (List.length ((((((((((((((Rd.mk b false).num 1).2).num 1).2).num 1).2).num 4).2).num 4).2).num 4).2).text.1)) c167] o171 ty24 rfl rfl) ?_
  have q175 := up s172 q153
  have q174 : VoteV (⟨((((((Rd.mk b false).num 1).2).num 1).1 : Nat) : Int), ((((((((Rd.mk b false).num 1).2).num 1).2).num 1).1 : Nat) : Int), ((((((((((Rd.mk b false).num 1).2).num 1).2).num 1).2).num 4).1 : Nat) : Int), ((((((((((((Rd.mk b false).num 1).2).num 1).2).num 1).2).num 4).2).num 4).1 : Nat) : Int), ((((((((((((((Rd.mk b false).num 1).2).num 1).2).num 1).2).num 4).2).num 4).2).num 4).1 : Nat) : Int) - 1, (((((((((((((Rd.mk b false).num 1).2).num 1).2).num 1).2).num 4).2).num 4).2).num 4).2).text.1⟩ : VoteD) L156 w170 (.agg #[i64 ((((((Rd.mk b false).num 1).2).num 1).1 : Nat) : Int), i64 ((((((((Rd.mk b false).num 1).2).num 1).2).num 1).1 : Nat) : Int), i64 ((((((((((Rd.mk b false).num 1).2).num 1).2).num 1).2).num 4).1 : Nat) : Int), i64 ((((((((((((Rd.mk b false).num 1).2).num 1).2).num 1).2).num 4).2).num 4).1 : Nat) : Int), i64 (((((((((((((((Rd.mk b false).num 1).2).num 1).2).num 1).2).num 4).2).num 4).2).num 4).1 : Nat) : Int) - 1), .slice A166 (List.length ((((((((((((((Rd.mk b false).num 1).2).num 1).2).num 1).2).num 4).2).num 4).2).num 4).2).text.1)) c167]) := VoteV.mk q175
  refine scall (V := And2 (BytesV (if (⟨((((((Rd.mk b false).num 1).2).num 1).1 : Nat) : Int), ((((((((Rd.mk b false).num 1).2).num 1).2).num 1).1 : Nat) : Int), ((((((((((Rd.mk b false).num 1).2).num 1).2).num 1).2).num 4).1 : Nat) : Int), ((((((((((((Rd.mk b false).num 1).2).num 1).2).num 1).2).num 4).2).num 4).1 : Nat) : Int), ((((((((((((((Rd.mk b false).num 1).2).num 1).2).num 1).2).num 4).2).num 4).2).num 4).1 : Nat) : Int) - 1, (((((((((((((Rd.mk b false).num 1).2).num 1).2).num 1).2).num 4).2).num 4).2).num 4).2).text.1⟩ : VoteD).bad then [] else (⟨((((((Rd.mk b false).num 1).2).num 1).1 : Nat) : Int), ((((((((Rd.mk b false).num 1).2).num 1).2).num 1).1 : Nat) : Int), ((((((((((Rd.mk b false).num 1).2).num 1).2).num 1).2).num 4).1 : Nat) : Int), ((((((((((((Rd.mk b false).num 1).2).num 1).2).num 1).2).num 4).2).num 4).1 : Nat) : Int), ((((((((((((((Rd.mk b false).num 1).2).num 1).2).num 1).2).num 4).2).num 4).2).num 4).1 : Nat) : Int) - 1, (((((((((((((Rd.mk b false).num 1).2).num 1).2).num 1).2).num 4).2).num 4).2).num 4).2).text.1⟩ : VoteD).bytes)) (Is (i64 (if (⟨((((((Rd.mk b false).num 1).2).num 1).1 : Nat) : Int), ((((((((Rd.mk b false).num 1).2).num 1).2).num 1).1 : Nat) : Int), ((((((((((Rd.mk b false).num 1).2).num 1).2).num 1).2).num 4).1 : Nat) : Int), ((((((((((((Rd.mk b false).num 1).2).num 1).2).num 1).2).num 4).2).num 4).1 : Nat) : Int), ((((((((((((((Rd.mk b false).num 1).2).num 1).2).num 1).2).num 4).2).num 4).2).num 4).1 : Nat) : Int) - 1, (((((((((((((Rd.mk b false).num 1).2).num 1).2).num 1).2).num 4).2).num 4).2).num 4).2).text.1⟩ : VoteD).bad then 3 else 0)))) cal20 h173 rfl (wire_EncodeVote h173 q174 (show List.length (⟨((((((Rd.mk b false).num 1).2).num 1).1 : Nat) : Int), ((((((((Rd.mk b false).num 1).2).num 1).2).num 1).1 : Nat) : Int), ((((((((((Rd.mk b false).num 1).2).num 1).2).num 1).2).num 4).1 : Nat) : Int), ((((((((((((Rd.mk b false).num 1).2).num 1).2).num 1).2).num 4).2).num 4).1 : Nat) : Int), ((((((((((((((Rd.mk b false).num 1).2).num 1).2).num 1).2).num 4).2).num 4).2).num 4).1 : Nat) : Int) - 1, (((((((((((((Rd.mk b false).num 1).2).num 1).2).num 1).2).num 4).2).num 4).2).num 4).2).text.1⟩ : VoteD).value ≤ 100000 from by exact (voteD_eq (Rd.mk b false)) ▸ vote_len (Rd.mk b false))) fun v176 w177 q178 s179 h180 => ?_
  obtain ⟨v181, v182, rfl, q183, q184⟩ := q178
  obtain ⟨A185, c186, rfl⟩ := BytesV.shape q183
  have z187 := BytesV.cap q183
  have q184 := Is.out q184; subst q184
  refine sv (Does.move rfl) ?_
  refine sv (Does.extract rfl rfl) ?_
  refine sv (Does.extract rfl rfl) ?_
  refine sv (Does.assign rfl) ?_
  refine sv (Does.assign rfl) ?_
  refine Seq.next ?_
  refine Run.seq ?_
  refine rsr ?_
  refine sv (Does.move rfl) ?_
  refine sv (Does.nilCheck rfl) ?_
  refine sv (Does.fieldAddr' 1 Try.underlying159 rfl ty4 rfl rfl) ?_
  have c189 := s172.trans s179
  have o188 := o161.up c189
  refine sv (Does.load_own1 o188 ty4 rfl rfl) ?_
  refine sv (Does.move rfl) ?_
  rcases bdich (((((((((((((((Rd.mk b false).num 1).2).num 1).2).num 1).2).num 4).2).num 4).2).num 4).2).text).2.bad) with hc1 | hc1
  · refine Seq.guard_off' rfl rfl hc1 rfl (by decide) ?_
    refine Seq.guard_off' rfl rfl hc1 rfl (by decide) ?_
    refine sv (Does.pick_b rfl hc1 rfl) ?_
    refine sv (Does.move rfl) ?_
    refine Seq.guard_off' rfl rfl rfl rfl (by decide) ?_
    refine Seq.guard_off' rfl rfl rfl rfl (by decide) ?_
    refine Seq.guard_off' rfl rfl rfl rfl (by decide) ?_
    refine Seq.guard_off' rfl rfl rfl rfl (by decide) ?_
    refine sv (Does.pick_t rfl rfl) ?_
    refine Seq.next ?_
    refine Run.cond_b rfl rfl ?_
    refine rsr ?_
    refine sv (Does.build [] [(0, 1), (1, 1), (2, 1), (3, 1), (4, 1), (5, 1)] [.int .i64 0, .int .i64 0, .int .i64 0, .int .i64 0, .int .i64 0, .slice none 0 0] Try.underlying24 ty24 (by kernel_rfl) rfl (by kernel_rfl)) ?_
    have c191 := s154.trans c189
    have c192 := s147.trans c191
    have c193 := s132.trans c192
    have c194 := s125.trans c193
    have c195 := s110.trans c194
    have c196 := s103.trans c195
    have c197 := s88.trans c196
    have c198 := s81.trans c197
    have c199 := s66.trans c198
    have c200 := s59.trans c199
    have c201 := s44.trans c200
    have c202 := s37.trans c201
    have c203 := s21.trans c202
    have c204 := s14.trans c203
    have o190 := o7.up c204
    refine sstore [.int .i64 0, .int .i64 0, .int .i64 0, .int .i64 0, .int .i64 0, .slice none 0 0] h180 o190 ty24 rfl rfl rfl (Nat.le_of_ble_eq_true rfl) rfl rfl fun w205 o206 s207 h208 => ?_
    refine sv (Does.assign rfl) ?_
    refine Seq.next ?_
    have c209 := c203.trans s207
    have c210 := c16.trans c209
    obtain ⟨⟨zU, zo⟩, zb⟩ := hX c210 (by decide)
    refine Run.ret (ret_then ?_)
    exact post_two Try.results28 ⟨_, rfl, Own.loadN [.int .i64 0, .int .i64 0, .int .i64 0, .int .i64 0, .int .i64 0, .slice none 0 0] o206 ty24 rfl⟩ rfl ⟨_, rfl, ⟨_, _, rfl, (VoteV.cast (show (⟨0, 0, 0, 0, 0, []⟩ : VoteD) = decV b from by first | (exact decV_no (decVOk_a (by rw [voteR_eq]; exact hc1)); done) | (exact decV_no (decVOk_b (by rw [voteD_eq]; exact hp2)); done) | (exact decV_no (decVOk_c (by rw [voteD_eq]; exact hp2) (by rw [voteD_eq]; exact hc3)); done) | (exact ((voteD_eq _).symm.trans (decV_yes (decVOk_d (by rw [voteR_eq]; exact hc1) (by rw [voteD_eq]; exact hp2) (by rw [voteD_eq]; exact hc3)))); done) | (exact dec3 (decVOk_a (by rw [voteR_eq]; exact hc1)); done) | (exact dec3 (decVOk_b (by rw [voteD_eq]; exact hp2)); done) | (exact dec3 (decVOk_c (by rw [voteD_eq]; exact hp2) (by rw [voteD_eq]; exact hc3)); done) | (exact dec0 (decVOk_d (by rw [voteR_eq]; exact hc1) (by rw [voteD_eq]; exact hp2) (by rw [voteD_eq]; exact hc3)); done) | (with_reducible rfl; done) | (omega; done) | (simp_all; done)) (VoteV.mk (up zo (BytesV.nil L156 w205)))), (isI64 (by first | (exact decV_no (decVOk_a (by rw [voteR_eq]; exact hc1)); done) | (exact decV_no (decVOk_b (by rw [voteD_eq]; exact hp2)); done) | (exact decV_no (decVOk_c (by rw [voteD_eq]; exact hp2) (by rw [voteD_eq]; exact hc3)); done) | (exact ((voteD_eq _).symm.trans (decV_yes (decVOk_d (by rw [voteR_eq]; exact hc1) (by rw [voteD_eq]; exact hp2) (by rw [voteD_eq]; exact hc3)))); done) | (exact dec3 (decVOk_a (by rw [voteR_eq]; exact hc1)); done) | (exact dec3 (decVOk_b (by rw [voteD_eq]; exact hp2)); done) | (exact dec3 (decVOk_c (by rw [voteD_eq]; exact hp2) (by rw [voteD_eq]; exact hc3)); done) | (exact dec0 (decVOk_d (by rw [voteR_eq]; exact hc1) (by rw [voteD_eq]; exact hp2) (by rw [voteD_eq]; exact hc3)); done) | (with_reducible rfl; done) | (omega; done) | (simp_all; done)) _ _)⟩, zb⟩
  refine Seq.guard_on' rfl rfl hc1 ?_
  refine sv (Does.move rfl) ?_
  refine Seq.guard_on' rfl rfl hc1 ?_
  refine sv (Does.neq rfl rfl) ?_
  refine sv (Does.pick_b rfl hc1 rfl) ?_
  refine sv (Does.move rfl) ?_
  rcases Decidable.em ((if (⟨((((((Rd.mk b false).num 1).2).num 1).1 : Nat) : Int), ((((((((Rd.mk b false).num 1).2).num 1).2).num 1).1 : Nat) : Int), ((((((((((Rd.mk b false).num 1).2).num 1).2).num 1).2).num 4).1 : Nat) : Int), ((((((((((((Rd.mk b false).num 1).2).num 1).2).num 1).2).num 4).2).num 4).1 : Nat) : Int), ((((((((((((((Rd.mk b false).num 1).2).num 1).2).num 1).2).num 4).2).num 4).2).num 4).1 : Nat) : Int) - 1, (((((((((((((Rd.mk b false).num 1).2).num 1).2).num 1).2).num 4).2).num 4).2).num 4).2).text.1⟩ : VoteD).bad then 3 else 0 : Int) ≠ (0 : Int)) with hp2 | hp2
  · refine Seq.guard_off' rfl rfl (decide_eq_true hp2) rfl (by decide) ?_
    refine Seq.guard_off' rfl rfl (decide_eq_true hp2) rfl (by decide) ?_
    refine Seq.guard_off' rfl rfl (decide_eq_true hp2) rfl (by decide) ?_
    refine Seq.guard_off' rfl rfl (decide_eq_true hp2) rfl (by decide) ?_
    refine sv (Does.pick_b rfl (decide_eq_true hp2) rfl) ?_
    refine Seq.next ?_
    refine Run.cond_b rfl rfl ?_
    refine rsr ?_
    refine sv (Does.build [] [(0, 1), (1, 1), (2, 1), (3, 1), (4, 1), (5, 1)] [.int .i64 0, .int .i64 0, .int .i64 0, .int .i64 0, .int .i64 0, .slice none 0 0] Try.underlying24 ty24 (by kernel_rfl) rfl (by kernel_rfl)) ?_
    have c212 := s154.trans c189
    have c213 := s147.trans c212
    have c214 := s132.trans c213
    have c215 := s125.trans c214
    have c216 := s110.trans c215
    have c217 := s103.trans c216
    have c218 := s88.trans c217
    have c219 := s81.trans c218
    have c220 := s66.trans c219
    have c221 := s59.trans c220
    have c222 := s44.trans c221
    have c223 := s37.trans c222
    have c224 := s21.trans c223
    have c225 := s14.trans c224
    have o211 := o7.up c225
    refine sstore [.int .i64 0, .int .i64 0, .int .i64 0, .int .i64 0, .int .i64 0, .slice none 0 0] h180 o211 ty24 rfl rfl rfl (Nat.le_of_ble_eq_true rfl) rfl rfl fun w226 o227 s228 h229 => ?_
    refine sv (Does.assign rfl) ?_
    refine Seq.next ?_
    have c230 := c224.trans s228
    have c231 := c16.trans c230
    obtain ⟨⟨zU, zo⟩, zb⟩ := hX c231 (by decide)
    refine Run.ret (ret_then ?_)
    exact post_two Try.results28 ⟨_, rfl, Own.loadN [.int .i64 0, .int .i64 0, .int .i64 0, .int .i64 0, .int .i64 0, .slice none 0 0] o227 ty24 rfl⟩ rfl ⟨_, rfl, ⟨_, _, rfl, (VoteV.cast (show (⟨0, 0, 0, 0, 0, []⟩ : VoteD) = decV b from by first | (exact decV_no (decVOk_a (by rw [voteR_eq]; exact hc1)); done) | (exact decV_no (decVOk_b (by rw [voteD_eq]; exact hp2)); done) | (exact decV_no (decVOk_c (by rw [voteD_eq]; exact hp2) (by rw [voteD_eq]; exact hc3)); done) | (exact ((voteD_eq _).symm.trans (decV_yes (decVOk_d (by rw [voteR_eq]; exact hc1) (by rw [voteD_eq]; exact hp2) (by rw [voteD_eq]; exact hc3)))); done) | (exact dec3 (decVOk_a (by rw [voteR_eq]; exact hc1)); done) | (exact dec3 (decVOk_b (by rw [voteD_eq]; exact hp2)); done) | (exact dec3 (decVOk_c (by rw [voteD_eq]; exact hp2) (by rw [voteD_eq]; exact hc3)); done) | (exact dec0 (decVOk_d (by rw [voteR_eq]; exact hc1) (by rw [voteD_eq]; exact hp2) (by rw [voteD_eq]; exact hc3)); done) | (with_reducible rfl; done) | (omega; done) | (simp_all; done)) (VoteV.mk (up zo (BytesV.nil L156 w226)))), (isI64 (by first | (exact decV_no (decVOk_a (by rw [voteR_eq]; exact hc1)); done) | (exact decV_no (decVOk_b (by rw [voteD_eq]; exact hp2)); done) | (exact decV_no (decVOk_c (by rw [voteD_eq]; exact hp2) (by rw [voteD_eq]; exact hc3)); done) | (exact ((voteD_eq _).symm.trans (decV_yes (decVOk_d (by rw [voteR_eq]; exact hc1) (by rw [voteD_eq]; exact hp2) (by rw [voteD_eq]; exact hc3)))); done) | (exact dec3 (decVOk_a (by rw [voteR_eq]; exact hc1)); done) | (exact dec3 (decVOk_b (by rw [voteD_eq]; exact hp2)); done) | (exact dec3 (decVOk_c (by rw [voteD_eq]; exact hp2) (by rw [voteD_eq]; exact hc3)); done) | (exact dec0 (decVOk_d (by rw [voteR_eq]; exact hc1) (by rw [voteD_eq]; exact hp2) (by rw [voteD_eq]; exact hc3)); done) | (with_reducible rfl; done) | (omega; done) | (simp_all; done)) _ _)⟩, zb⟩
  refine Seq.guard_on' rfl rfl (decide_eq_false hp2) ?_
  refine sv (Does.move rfl) ?_
  refine Seq.guard_on' rfl rfl (decide_eq_false hp2) ?_
  refine sv (Does.move rfl) ?_
  refine Seq.guard_on' rfl rfl (decide_eq_false hp2) ?_
  have c232 := s154.trans c189
  have c233 := s147.trans c232
  have c234 := s132.trans c233
  have c235 := s125.trans c234
  have c236 := s110.trans c235
  have c237 := s103.trans c236
  have c238 := s88.trans c237
  have c239 := s81.trans c238
  have c240 := s66.trans c239
  have c241 := s59.trans c240
  have c242 := s44.trans c241
  have c243 := s37.trans c242
  have c244 := s21.trans c243
  have q245 := up c244 q17
  refine scall (V := Is (.bool (decide ((if (⟨((((((Rd.mk b false).num 1).2).num 1).1 : Nat) : Int), ((((((((Rd.mk b false).num 1).2).num 1).2).num 1).1 : Nat) : Int), ((((((((((Rd.mk b false).num 1).2).num 1).2).num 1).2).num 4).1 : Nat) : Int), ((((((((((((Rd.mk b false).num 1).2).num 1).2).num 1).2).num 4).2).num 4).1 : Nat) : Int), ((((((((((((((Rd.mk b false).num 1).2).num 1).2).num 1).2).num 4).2).num 4).2).num 4).1 : Nat) : Int) - 1, (((((((((((((Rd.mk b false).num 1).2).num 1).2).num 1).2).num 4).2).num 4).2).num 4).2).text.1⟩ : VoteD).bad then [] else (⟨((((((Rd.mk b false).num 1).2).num 1).1 : Nat) : Int), ((((((((Rd.mk b false).num 1).2).num 1).2).num 1).1 : Nat) : Int), ((((((((((Rd.mk b false).num 1).2).num 1).2).num 1).2).num 4).1 : Nat) : Int), ((((((((((((Rd.mk b false).num 1).2).num 1).2).num 1).2).num 4).2).num 4).1 : Nat) : Int), ((((((((((((((Rd.mk b false).num 1).2).num 1).2).num 1).2).num 4).2).num 4).2).num 4).1 : Nat) : Int) - 1, (((((((((((((Rd.mk b false).num 1).2).num 1).2).num 1).2).num 4).2).num 4).2).num 4).2).text.1⟩ : VoteD).bytes) = b)))) cal101 h180 rfl (bytes_Equal h180 q183 q245) fun v246 w247 q248 s249 h250 => ?_
  have q248 := Is.out q248; subst q248
  refine Seq.guard_on' rfl rfl (decide_eq_false hp2) ?_
  refine sv (Does.not rfl) ?_
  refine sv (Does.pick_b rfl (decide_eq_false hp2) rfl) ?_
  refine Seq.next ?_
  rcases bdich (!(decide ((if (⟨((((((Rd.mk b false).num 1).2).num 1).1 : Nat) : Int), ((((((((Rd.mk b false).num 1).2).num 1).2).num 1).1 : Nat) : Int), ((((((((((Rd.mk b false).num 1).2).num 1).2).num 1).2).num 4).1 : Nat) : Int), ((((((((((((Rd.mk b false).num 1).2).num 1).2).num 1).2).num 4).2).num 4).1 : Nat) : Int), ((((((((((((((Rd.mk b false).num 1).2).num 1).2).num 1).2).num 4).2).num 4).2).num 4).1 : Nat) : Int) - 1, (((((((((((((Rd.mk b false).num 1).2).num 1).2).num 1).2).num 4).2).num 4).2).num 4).2).text.1⟩ : VoteD).bad then [] else (⟨((((((Rd.mk b false).num 1).2).num 1).1 : Nat) : Int), ((((((((Rd.mk b false).num 1).2).num 1).2).num 1).1 : Nat) : Int), ((((((((((Rd.mk b false).num 1).2).num 1).2).num 1).2).num 4).1 : Nat) : Int), ((((((((((((Rd.mk b false).num 1).2).num 1).2).num 1).2).num 4).2).num 4).1 : Nat) : Int), ((((((((((((((Rd.mk b false).num 1).2).num 1).2).num 1).2).num 4).2).num 4).2).num 4).1 : Nat) : Int) - 1, (((((((((((((Rd.mk b false).num 1).2).num 1).2).num 1).2).num 4).2).num 4).2).num 4).2).text.1⟩ : VoteD).bytes) = b))) with hc3 | hc3
  · refine Run.cond_b rfl hc3 ?_
    refine rsr ?_
    refine sv (Does.build [] [(0, 1), (1, 1), (2, 1), (3, 1), (4, 1), (5, 1)] [.int .i64 0, .int .i64 0, .int .i64 0, .int .i64 0, .int .i64 0, .slice none 0 0] Try.underlying24 ty24 (by kernel_rfl) rfl (by kernel_rfl)) ?_
    have c252 := c244.trans s249
    have c253 := s14.trans c252
    have o251 := o7.up c253
    refine sstore [.int .i64 0, .int .i64 0, .int .i64 0, .int .i64 0, .int .i64 0, .slice none 0 0] h250 o251 ty24 rfl rfl rfl (Nat.le_of_ble_eq_true rfl) rfl rfl fun w254 o255 s256 h257 => ?_
    refine sv (Does.assign rfl) ?_
    refine Seq.next ?_
    have c258 := c252.trans s256
    have c259 := c16.trans c258
    obtain ⟨⟨zU, zo⟩, zb⟩ := hX c259 (by decide)
    refine Run.ret (ret_then ?_)
    exact post_two Try.results28 ⟨_, rfl, Own.loadN [.int .i64 0, .int .i64 0, .int .i64 0, .int .i64 0, .int .i64 0, .slice none 0 0] o255 ty24 rfl⟩ rfl ⟨_, rfl, ⟨_, _, rfl, (VoteV.cast (show (⟨0, 0, 0, 0, 0, []⟩ : VoteD) = decV b from by first | (exact decV_no (decVOk_a (by rw [voteR_eq]; exact hc1)); done) | (exact decV_no (decVOk_b (by rw [voteD_eq]; exact hp2)); done) | (exact decV_no (decVOk_c (by rw [voteD_eq]; exact hp2) (by rw [voteD_eq]; exact hc3)); done) | (exact ((voteD_eq _).symm.trans (decV_yes (decVOk_d (by rw [voteR_eq]; exact hc1) (by rw [voteD_eq]; exact hp2) (by rw [voteD_eq]; exact hc3)))); done) | (exact dec3 (decVOk_a (by rw [voteR_eq]; exact hc1)); done) | (exact dec3 (decVOk_b (by rw [voteD_eq]; exact hp2)); done) | (exact dec3 (decVOk_c (by rw [voteD_eq]; exact hp2) (by rw [voteD_eq]; exact hc3)); done) | (exact dec0 (decVOk_d (by rw [voteR_eq]; exact hc1) (by rw [voteD_eq]; exact hp2) (by rw [voteD_eq]; exact hc3)); done) | (with_reducible rfl; done) | (omega; done) | (simp_all; done)) (VoteV.mk (up zo (BytesV.nil L156 w254)))), (isI64 (by first | (exact decV_no (decVOk_a (by rw [voteR_eq]; exact hc1)); done) | (exact decV_no (decVOk_b (by rw [voteD_eq]; exact hp2)); done) | (exact decV_no (decVOk_c (by rw [voteD_eq]; exact hp2) (by rw [voteD_eq]; exact hc3)); done) | (exact ((voteD_eq _).symm.trans (decV_yes (decVOk_d (by rw [voteR_eq]; exact hc1) (by rw [voteD_eq]; exact hp2) (by rw [voteD_eq]; exact hc3)))); done) | (exact dec3 (decVOk_a (by rw [voteR_eq]; exact hc1)); done) | (exact dec3 (decVOk_b (by rw [voteD_eq]; exact hp2)); done) | (exact dec3 (decVOk_c (by rw [voteD_eq]; exact hp2) (by rw [voteD_eq]; exact hc3)); done) | (exact dec0 (decVOk_d (by rw [voteR_eq]; exact hc1) (by rw [voteD_eq]; exact hp2) (by rw [voteD_eq]; exact hc3)); done) | (with_reducible rfl; done) | (omega; done) | (simp_all; done)) _ _)⟩, zb⟩
  refine Run.cond_b rfl hc3 ?_
  refine Run.skip_go (fun _ _ h => h) ?_
  refine rsr ?_
  have c261 := s179.trans s249
  have o260 := o171.up c261
  refine sv (Does.load_ownN [i64 ((((((Rd.mk b false).num 1).2).num 1).1 : Nat) : Int), i64 ((((((((Rd.mk b false).num 1).2).num 1).2).num 1).1 : Nat) : Int), i64 ((((((((((Rd.mk b false).num 1).2).num 1).2).num 1).2).num 4).1 : Nat) : Int), i64 ((((((((((((Rd.mk b false).num 1).2).num 1).2).num 1).2).num 4).2).num 4).1 : Nat) : Int), i64 (((((((((((((((Rd.mk b false).num 1).2).num 1).2).num 1).2).num 4).2).num 4).2).num 4).1 : Nat) : Int) - 1), .slice A166 (List.length ((((((((((((((Rd.mk b false).num 1).2).num 1).2).num 1).2).num 4).2).num 4).2).num 4).2).text.1)) c167] o260 ty24 rfl rfl) ?_
  have c263 := c244.trans s249
  have c264 := s14.trans c263
  have o262 := o7.up c264
  refine sstore [i64 ((((((Rd.mk b false).num 1).2).num 1).1 : Nat) : Int), i64 ((((((((Rd.mk b false).num 1).2).num 1).2).num 1).1 : Nat) : Int), i64 ((((((((((Rd.mk b false).num 1).2).num 1).2).num 1).2).num 4).1 : Nat) : Int), i64 ((((((((((((Rd.mk b false).num 1).2).num 1).2).num 1).2).num 4).2).num 4).1 : Nat) : Int), i64 (((((((((((((((Rd.mk b false).num 1).2).num 1).2).num 1).2).num 4).2).num 4).2).num 4).1 : Nat) : Int) - 1), .slice A166 (List.length ((((((((((((((Rd.mk b false).num 1).2).num 1).2).num 1).2).num 4).2).num 4).2).num 4).2).text.1)) c167] h250 o262 ty24 rfl rfl rfl (Nat.le_of_ble_eq_true rfl) rfl rfl fun w265 o266 s267 h268 => ?_
  refine sv (Does.assign rfl) ?_
  refine Seq.next ?_
  have c269 := c263.trans s267
  have c270 := c16.trans c269
  obtain ⟨⟨zU, zo⟩, zb⟩ := hX c270 (by decide)
  have c271 := c261.trans s267
  have q272 := up c271 q175
  refine Run.ret ?_
  exact post_two Try.results28 ⟨_, rfl, Own.loadN [i64 ((((((Rd.mk b false).num 1).2).num 1).1 : Nat) : Int), i64 ((((((((Rd.mk b false).num 1).2).num 1).2).num 1).1 : Nat) : Int), i64 ((((((((((Rd.mk b false).num 1).2).num 1).2).num 1).2).num 4).1 : Nat) : Int), i64 ((((((((((((Rd.mk b false).num 1).2).num 1).2).num 1).2).num 4).2).num 4).1 : Nat) : Int), i64 (((((((((((((((Rd.mk b false).num 1).2).num 1).2).num 1).2).num 4).2).num 4).2).num 4).1 : Nat) : Int) - 1), .slice A166 (List.length ((((((((((((((Rd.mk b false).num 1).2).num 1).2).num 1).2).num 4).2).num 4).2).num 4).2).text.1)) c167] o266 ty24 rfl⟩ rfl ⟨_, rfl, ⟨_, _, rfl, (VoteV.cast (show (⟨((((((Rd.mk b false).num 1).2).num 1).1 : Nat) : Int), ((((((((Rd.mk b false).num 1).2).num 1).2).num 1).1 : Nat) : Int), ((((((((((Rd.mk b false).num 1).2).num 1).2).num 1).2).num 4).1 : Nat) : Int), ((((((((((((Rd.mk b false).num 1).2).num 1).2).num 1).2).num 4).2).num 4).1 : Nat) : Int), ((((((((((((((Rd.mk b false).num 1).2).num 1).2).num 1).2).num 4).2).num 4).2).num 4).1 : Nat) : Int) - 1, (((((((((((((Rd.mk b false).num 1).2).num 1).2).num 1).2).num 4).2).num 4).2).num 4).2).text.1⟩ : VoteD) = decV b from by first | (exact decV_no (decVOk_a (by rw [voteR_eq]; exact hc1)); done) | (exact decV_no (decVOk_b (by rw [voteD_eq]; exact hp2)); done) | (exact decV_no (decVOk_c (by rw [voteD_eq]; exact hp2) (by rw [voteD_eq]; exact hc3)); done) | (exact ((voteD_eq _).symm.trans (decV_yes (decVOk_d (by rw [voteR_eq]; exact hc1) (by rw [voteD_eq]; exact hp2) (by rw [voteD_eq]; exact hc3)))); done) | (exact dec3 (decVOk_a (by rw [voteR_eq]; exact hc1)); done) | (exact dec3 (decVOk_b (by rw [voteD_eq]; exact hp2)); done) | (exact dec3 (decVOk_c (by rw [voteD_eq]; exact hp2) (by rw [voteD_eq]; exact hc3)); done) | (exact dec0 (decVOk_d (by rw [voteR_eq]; exact hc1) (by rw [voteD_eq]; exact hp2) (by rw [voteD_eq]; exact hc3)); done) | (with_reducible rfl; done) | (omega; done) | (simp_all; done)) (VoteV.mk (up zo q272))), (isI64 (by first | (exact decV_no (decVOk_a (by rw [voteR_eq]; exact hc1)); done) | (exact decV_no (decVOk_b (by rw [voteD_eq]; exact hp2)); done) | (exact decV_no (decVOk_c (by rw [voteD_eq]; exact hp2) (by rw [voteD_eq]; exact hc3)); done) | (exact ((voteD_eq _).symm.trans (decV_yes (decVOk_d (by rw [voteR_eq]; exact hc1) (by rw [voteD_eq]; exact hp2) (by rw [voteD_eq]; exact hc3)))); done) | (exact dec3 (decVOk_a (by rw [voteR_eq]; exact hc1)); done) | (exact dec3 (decVOk_b (by rw [voteD_eq]; exact hp2)); done) | (exact dec3 (decVOk_c (by rw [voteD_eq]; exact hp2) (by rw [voteD_eq]; exact hc3)); done) | (exact dec0 (decVOk_d (by rw [voteR_eq]; exact hc1) (by rw [voteD_eq]; exact hp2) (by rw [voteD_eq]; exact hc3)); done) | (with_reducible rfl; done) | (omega; done) | (simp_all; done)) _ _)⟩, zb⟩

end Go.Proofs.Ytgfomedobfaidaa
