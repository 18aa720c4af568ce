/-
  The walks of some functions: what each call comes to.
-/
import Derived.Test.YtgfomedobfaidaaWire
import Derived.Test.YtgfomedobfaidaaTab
set_option linter.unusedVariables false
set_option linter.unusedSimpArgs false
set_option maxRecDepth 100000
namespace Go.Proofs.Ytgfomedobfaidaa
open Go.RowKit

theorem wire_num {lab : Lab} {w : World} (hv : Valid lab w) {wrb : Nat} {wr : List UInt8} {wrbad : Bool} (hW : Wr 144 5 lab w wrb wr wrbad) {n : Int} {least : Int} {most : Int} {size : Int} (hs : 0 ≤ size ∧ size ≤ 8) (hw : List.length wr ≤ 1000000) :
    Calls Try.prog 87 #[.pointer (some ⟨wrb, 0, none⟩), i64 n, i64 least, i64 most, i64 size] w (Wrote 144 5 lab w wrb (Is (.tuple #[])) (wr ++ be (u64i n) (Int.toNat size)) (wrbad || out_ n least most)) := by
  obtain ⟨vW, oW, aW⟩ := hW
  obtain ⟨A1, c2, rfl⟩ := App.shape aW
  have m3 : List.length wr = List.length wr := App.lenMap aW
  have z4 := (App.row aW).2
  refine calls_run Try.func87 rfl Try.ntmps87 (Nat.le_of_ble_eq_true rfl) ?_
  refine Run.seq ?_
  refine Run.region ?_
  refine Seq.val (Does.move rfl) (by decide) ?_
  refine Seq.val (Does.move rfl) (by decide) ?_
  refine Seq.val (Does.nilCheck rfl) (by decide) ?_
  refine Seq.val (Does.fieldAddr' 1 Try.underlying144 rfl ty4 rfl rfl) (by decide) ?_
  refine Seq.val (Does.load_own1 oW ty4 rfl rfl) (by decide) ?_
  refine Seq.val (Does.move rfl) (by decide) ?_
  rcases bdich (wrbad) with hc1 | hc1
  · skip
    refine Seq.guard_off' rfl rfl hc1 rfl (by decide) ?_
    refine Seq.guard_off' rfl rfl hc1 rfl (by decide) ?_
    refine Seq.guard_off' rfl rfl hc1 rfl (by decide) ?_
    refine Seq.val (Does.pick_b rfl hc1 rfl) (by decide) ?_
    refine Seq.val (Does.move rfl) (by decide) ?_
    refine Seq.guard_off' rfl rfl rfl rfl (by decide) ?_
    refine Seq.guard_off' rfl rfl rfl rfl (by decide) ?_
    refine Seq.guard_off' rfl rfl rfl rfl (by decide) ?_
    refine Seq.val (Does.pick_t rfl rfl) (by decide) ?_
    refine Seq.val (Does.nilCheck rfl) (by decide) ?_
    refine Seq.val (Does.fieldAddr' 1 Try.underlying144 rfl ty4 rfl rfl) (by decide) ?_
    refine Seq.store [.slice A1 (List.length wr) c2, .bool true] hv oW ty4 rfl rfl rfl (Nat.le_of_ble_eq_true rfl) rfl rfl ?_
    intro w5 o6 s7 hv8
    refine Seq.go (fun _ _ h => h) ?_
    refine Run.seq ?_
    refine Run.region ?_
    refine Seq.val (Does.move rfl) (by decide) ?_
    refine Seq.val (Does.sub rfl rfl (by first | omega | (simp <;> omega) | (simp at * <;> omega) | (simp [be_length] at * <;> omega))) (by decide) ?_
    refine Seq.val (Does.assign rfl) (by decide) ?_
    refine Seq.go (fun _ _ h => h) ?_
    refine Run.block ?_
    have o9 := aW.lift s7 (by decide)
    refine Run.loop (fun m' l' w' => ∃ (j : Nat) (lab' : Lab) (ux902 : Value), m' = j ∧ l' = [(10, i64 (((j : Nat) : Int) - 1)), (0, .pointer (some ⟨wrb, 0, none⟩)), (1, i64 n), (2, i64 least), (3, i64 most), (4, i64 size), (11, .pointer (some ⟨wrb, 0, none⟩)), (12, .pointer (some ⟨wrb, 0, none⟩)), (13, .pointer (some ⟨wrb, 0, none⟩)), (14, .pointer (some ⟨wrb, 1, none⟩)), (15, .bool wrbad), (16, .bool wrbad), (20, .bool true), (21, .bool true), (25, .bool true), (26, .pointer (some ⟨wrb, 0, none⟩)), (27, .pointer (some ⟨wrb, 1, none⟩)), (28, i64 size), (29, i64 (size - 1))] ∧ Valid lab' w' ∧ Stp [901, 902] lab w5 lab' w' ∧ App lab' w' 902 5 ux902 (List.length (wr ++ List.take ((Int.toNat size) - j) (be (u64i n) (Int.toNat size)))) (List.map u8 (wr ++ List.take ((Int.toNat size) - j) (be (u64i n) (Int.toNat size)))) ∧ Own lab' w' 901 wrb 144 #[ux902, .bool true] ∧ (j ≤ (Int.toNat size))) ((Int.toNat size)) (l0 := [(10, i64 ((((Int.toNat size) : Nat) : Int) - 1)), (0, .pointer (some ⟨wrb, 0, none⟩)), (1, i64 n), (2, i64 least), (3, i64 most), (4, i64 size), (11, .pointer (some ⟨wrb, 0, none⟩)), (12, .pointer (some ⟨wrb, 0, none⟩)), (13, .pointer (some ⟨wrb, 0, none⟩)), (14, .pointer (some ⟨wrb, 1, none⟩)), (15, .bool wrbad), (16, .bool wrbad), (20, .bool true), (21, .bool true), (25, .bool true), (26, .pointer (some ⟨wrb, 0, none⟩)), (27, .pointer (some ⟨wrb, 1, none⟩)), (28, i64 size), (29, i64 (size - 1))]) ⟨(congrArg (fun z => some (i64 z)) (show (size - 1 : Int) = (((Int.toNat size) : Nat) : Int) - 1 from by first | rfl | omega | (simp; done) | (simp <;> omega) | (simp [be_length] <;> omega))), rfl, rfl, rfl, rfl, rfl, rfl, rfl, rfl, rfl, rfl, rfl, rfl, rfl, rfl, rfl, rfl, rfl, rfl, trivial⟩ ⟨(Int.toNat size), lab, (.slice A1 (List.length wr) c2), rfl, rfl, hv8, ((Stp.refl _ _).more (by simp)), (appCast (show wr = wr ++ List.take ((Int.toNat size) - (Int.toNat size)) (be (u64i n) (Int.toNat size)) from by first | (simp; done) | (rw [List.append_assoc]; exact congrArg (wr ++ ·) (be_step (by omega) (by omega)))) (show List.length wr = List.length (wr ++ List.take ((Int.toNat size) - (Int.toNat size)) (be (u64i n) (Int.toNat size))) from by first | rfl | omega | (simp; done) | (simp <;> omega) | (simp [be_length] <;> omega)) o9), o6, (by first | omega | (simp at *; omega))⟩ ?_
    intro m10 l11 w12 H13
    obtain ⟨j, lab14, v17, hzm, rfl, hv15, s16, o18, o19, hj⟩ := H13
    replace hzm := hzm.symm; subst hzm
    obtain ⟨A20, c21, rfl⟩ := App.shape o18
    have m22 : List.length (wr ++ List.take ((Int.toNat size) - j) (be (u64i n) (Int.toNat size))) = List.length (wr ++ List.take ((Int.toNat size) - j) (be (u64i n) (Int.toNat size))) := App.lenMap o18
    have z23 := (App.row o18).2
    refine Run.seq ?_
    refine Run.seq ?_
    refine Run.region ?_
    refine Seq.val (Does.move rfl) (by decide) ?_
    refine Seq.val (Does.geq rfl rfl) (by decide) ?_
    refine Seq.go (fun _ _ h => h) ?_
    rcases bdich (decide ((0 : Int) ≤ (((j : Nat) : Int) - 1 : Int))) with hc2 | hc2
    · skip
      have hp2 := of_decide_eq_true hc2
      refine Run.cond_b rfl hc2 ?_
      refine Run.skip_go (fun _ _ h => h) ?_
      refine Run.seq ?_
      refine Run.block ?_
      refine Run.anyOne (m := 13) 12 [902] mixed (by kernel_rfl) hv15 (phi [Is (.pointer (some ⟨wrb, 0, none⟩)), Is (.pointer (some ⟨wrb, 0, none⟩)), Is (.pointer (some ⟨wrb, 0, none⟩)), Is (.pointer (some ⟨wrb, 0, none⟩)), Is (.slice A20 (List.length (wr ++ List.take ((Int.toNat size) - j) (be (u64i n) (Int.toNat size)))) c21), Is (i64 n), Is (u64 (u64i n)), Is (i64 (((j : Nat) : Int) - 1)), Is (i64 (8 * (((j : Nat) : Int) - 1))), Is (u64 ((u64i n) >>> UInt64.ofNat (8 * (((j : Nat) : Int) - 1)).toNat)), Is (u8 (((u64i n) >>> UInt64.ofNat (8 * (((j : Nat) : Int) - 1)).toNat).toUInt8)), BytesV ([((u64i n) >>> UInt64.ofNat (8 * (((j : Nat) : Int) - 1)).toNat).toUInt8]), fun lab w v => App lab w 902 5 v (List.length (wr ++ List.take ((Int.toNat size) - j) (be (u64i n) (Int.toNat size))) + (List.length ([((u64i n) >>> UInt64.ofNat (8 * (((j : Nat) : Int) - 1)).toNat).toUInt8]))) (List.map u8 (wr ++ List.take ((Int.toNat size) - j) (be (u64i n) (Int.toNat size)) ++ ([((u64i n) >>> UInt64.ofNat (8 * (((j : Nat) : Int) - 1)).toNat).toUInt8])))]) (phi_pers (L := [Is (.pointer (some ⟨wrb, 0, none⟩)), Is (.pointer (some ⟨wrb, 0, none⟩)), Is (.pointer (some ⟨wrb, 0, none⟩)), Is (.pointer (some ⟨wrb, 0, none⟩)), Is (.slice A20 (List.length (wr ++ List.take ((Int.toNat size) - j) (be (u64i n) (Int.toNat size)))) c21), Is (i64 n), Is (u64 (u64i n)), Is (i64 (((j : Nat) : Int) - 1)), Is (i64 (8 * (((j : Nat) : Int) - 1))), Is (u64 ((u64i n) >>> UInt64.ofNat (8 * (((j : Nat) : Int) - 1)).toNat)), Is (u8 (((u64i n) >>> UInt64.ofNat (8 * (((j : Nat) : Int) - 1)).toNat).toUInt8)), BytesV ([((u64i n) >>> UInt64.ofNat (8 * (((j : Nat) : Int) - 1)).toNat).toUInt8]), fun lab w v => App lab w 902 5 v (List.length (wr ++ List.take ((Int.toNat size) - j) (be (u64i n) (Int.toNat size))) + (List.length ([((u64i n) >>> UInt64.ofNat (8 * (((j : Nat) : Int) - 1)).toNat).toUInt8]))) (List.map u8 (wr ++ List.take ((Int.toNat size) - j) (be (u64i n) (Int.toNat size)) ++ ([((u64i n) >>> UInt64.ofNat (8 * (((j : Nat) : Int) - 1)).toNat).toUInt8])))]) ⟨Pers.z (Is.pers _), Pers.z (Is.pers _), Pers.z (Is.pers _), Pers.z (Is.pers _), Pers.z (Is.pers _), Pers.z (Is.pers _), Pers.z (Is.pers _), Pers.z (Is.pers _), Pers.z (Is.pers _), Pers.z (Is.pers _), Pers.z (Is.pers _), Pers.z (BytesV.pers _), ⟨fun s h => h.lift s (by decide)⟩, trivial⟩) (fun i hi hz => phi_persT (L := [Is (.pointer (some ⟨wrb, 0, none⟩)), Is (.pointer (some ⟨wrb, 0, none⟩)), Is (.pointer (some ⟨wrb, 0, none⟩)), Is (.pointer (some ⟨wrb, 0, none⟩)), Is (.slice A20 (List.length (wr ++ List.take ((Int.toNat size) - j) (be (u64i n) (Int.toNat size)))) c21), Is (i64 n), Is (u64 (u64i n)), Is (i64 (((j : Nat) : Int) - 1)), Is (i64 (8 * (((j : Nat) : Int) - 1))), Is (u64 ((u64i n) >>> UInt64.ofNat (8 * (((j : Nat) : Int) - 1)).toNat)), Is (u8 (((u64i n) >>> UInt64.ofNat (8 * (((j : Nat) : Int) - 1)).toNat).toUInt8)), BytesV ([((u64i n) >>> UInt64.ofNat (8 * (((j : Nat) : Int) - 1)).toNat).toUInt8]), fun lab w v => App lab w 902 5 v (List.length (wr ++ List.take ((Int.toNat size) - j) (be (u64i n) (Int.toNat size))) + (List.length ([((u64i n) >>> UInt64.ofNat (8 * (((j : Nat) : Int) - 1)).toNat).toUInt8]))) (List.map u8 (wr ++ List.take ((Int.toNat size) - j) (be (u64i n) (Int.toNat size)) ++ ([((u64i n) >>> UInt64.ofNat (8 * (((j : Nat) : Int) - 1)).toNat).toUInt8])))]) 0 ⟨Pers.t (Is.pers _), Pers.t (Is.pers _), Pers.t (Is.pers _), Pers.t (Is.pers _), Pers.t (Is.pers _), Pers.t (Is.pers _), Pers.t (Is.pers _), Pers.t (Is.pers _), Pers.t (Is.pers _), Pers.t (Is.pers _), Pers.t (Is.pers _), Pers.t (BytesV.pers _), .inl rfl, trivial⟩ i hi (by simpa using hz)) ?_ ?_
      · intro wz z0
        refine laws (n := 13) ⟨?_, ?_, ?_, ?_, ?_, ?_, ?_, ?_, ?_, ?_, ?_, ?_, ?_, trivial⟩
        · refine law_ne (by decide) (law_val rfl (by decide) fun lab24 w25 a26 hv27 s28 f29 d30 => ?_)
          exact ⟨_, _, _, _, f29, Does.move rfl, hv27, Stp.refl _ _, rfl⟩
        · refine law_ne (by decide) (law_val rfl (by decide) fun lab31 w32 a33 hv34 s35 f36 d37 => ?_)
          exact ⟨_, _, _, _, f36, Does.move rfl, hv34, Stp.refl _ _, rfl⟩
        · refine law_ne (by decide) (law_val rfl (by decide) fun lab38 w39 a40 hv41 s42 f43 d44 => ?_)
          obtain ⟨v45, e46, q47⟩ := d44 1 rfl 35 rfl
          replace q47 : (Is (.pointer (some ⟨wrb, 0, none⟩))) lab38 w39 v45 := q47
          replace q47 := Is.out q47; subst q47
          have f48 := f43.ext e46
          exact ⟨_, _, _, _, f48, Does.nilCheck rfl, hv41, Stp.refl _ _, rfl⟩
        · refine law_ne (by decide) (law_val rfl (by decide) fun lab49 w50 a51 hv52 s53 f54 d55 => ?_)
          obtain ⟨v56, e57, q58⟩ := d55 2 rfl 36 rfl
          replace q58 : (Is (.pointer (some ⟨wrb, 0, none⟩))) lab49 w50 v56 := q58
          replace q58 := Is.out q58; subst q58
          have f59 := f54.ext e57
          exact ⟨_, _, _, _, f59, Does.fieldAddr' 0 Try.underlying144 rfl ty22 rfl rfl, hv52, Stp.refl _ _, rfl⟩
        · refine law_ne (by decide) (law_val rfl (by decide) fun lab60 w61 a62 hv63 s64 f65 d66 => ?_)
          obtain ⟨v67, e68, q69⟩ := d66 3 rfl 37 rfl
          replace q69 : (Is (.pointer (some ⟨wrb, 0, none⟩))) lab60 w61 v67 := q69
          replace q69 := Is.out q69; subst q69
          have f70 := f65.ext e68
          have o71 := o19.lift (z0.trans s64) (by decide)
          exact ⟨_, _, _, _, f70, Does.load_own1 o71 ty22 rfl rfl, hv63, Stp.refl _ _, rfl⟩
        · refine law_ne (by decide) (law_val rfl (by decide) fun lab72 w73 a74 hv75 s76 f77 d78 => ?_)
          exact ⟨_, _, _, _, f77, Does.move rfl, hv75, Stp.refl _ _, rfl⟩
        · refine law_ne (by decide) (law_val rfl (by decide) fun lab79 w80 a81 hv82 s83 f84 d85 => ?_)
          obtain ⟨v86, e87, q88⟩ := d85 5 rfl 39 rfl
          replace q88 : (Is (i64 n)) lab79 w80 v86 := q88
          replace q88 := Is.out q88; subst q88
          have f89 := f84.ext e87
          exact ⟨_, _, _, _, f89, Does.conv_int Try.underlying3 Try.underlying62 rfl (wrap_i64_u64i _), hv82, Stp.refl _ _, rfl⟩
        · refine law_ne (by decide) (law_val rfl (by decide) fun lab90 w91 a92 hv93 s94 f95 d96 => ?_)
          exact ⟨_, _, _, _, f95, Does.move rfl, hv93, Stp.refl _ _, rfl⟩
        · refine law_ne (by decide) (law_val rfl (by decide) fun lab97 w98 a99 hv100 s101 f102 d103 => ?_)
          obtain ⟨v104, e105, q106⟩ := d103 7 rfl 41 rfl
          replace q106 : (Is (i64 (((j : Nat) : Int) - 1))) lab97 w98 v104 := q106
          replace q106 := Is.out q106; subst q106
          have f107 := f102.ext e105
          exact ⟨_, _, _, _, f107, Does.mul rfl rfl (by first | omega | (simp <;> omega) | (simp at * <;> omega) | (simp [be_length] at * <;> omega)), hv100, Stp.refl _ _, rfl⟩
        · refine law_ne (by decide) (law_val rfl (by decide) fun lab108 w109 a110 hv111 s112 f113 d114 => ?_)
          obtain ⟨v115, e116, q117⟩ := d114 6 rfl 40 rfl
          replace q117 : (Is (u64 (u64i n))) lab108 w109 v115 := q117
          replace q117 := Is.out q117; subst q117
          have f118 := f113.ext e116
          obtain ⟨v119, e120, q121⟩ := d114 8 rfl 42 rfl
          replace q121 : (Is (i64 (8 * (((j : Nat) : Int) - 1)))) lab108 w109 v119 := q121
          replace q121 := Is.out q121; subst q121
          have f122 := f118.ext e120
          exact ⟨_, _, _, _, f122, Does.u64_shr rfl rfl (by first | omega | (simp <;> omega) | (simp at * <;> omega) | (simp [be_length] at * <;> omega)) (by first | omega | (simp <;> omega) | (simp at * <;> omega) | (simp [be_length] at * <;> omega)), hv111, Stp.refl _ _, rfl⟩
        · refine law_ne (by decide) (law_val rfl (by decide) fun lab123 w124 a125 hv126 s127 f128 d129 => ?_)
          obtain ⟨v130, e131, q132⟩ := d129 9 rfl 43 rfl
          replace q132 : (Is (u64 ((u64i n) >>> UInt64.ofNat (8 * (((j : Nat) : Int) - 1)).toNat))) lab123 w124 v130 := q132
          replace q132 := Is.out q132; subst q132
          have f133 := f128.ext e131
          exact ⟨_, _, _, _, f133, Does.conv_int Try.underlying62 Try.underlying5 rfl (wrap_u64_u8 _), hv126, Stp.refl _ _, rfl⟩
        · refine law_ne (by decide) (law_val rfl (by decide) fun lab134 w135 a136 hv137 s138 f139 d140 => ?_)
          obtain ⟨v141, e142, q143⟩ := d140 10 rfl 44 rfl
          replace q143 : (Is (u8 (((u64i n) >>> UInt64.ofNat (8 * (((j : Nat) : Int) - 1)).toNat).toUInt8))) lab134 w135 v141 := q143
          replace q143 := Is.out q143; subst q143
          have f144 := f139.ext e142
          refine build_law [(0, u8 (((u64i n) >>> UInt64.ofNat (8 * (((j : Nat) : Int) - 1)).toNat).toUInt8))] (List.map u8 [((u64i n) >>> UInt64.ofNat (8 * (((j : Nat) : Int) - 1)).toNat).toUInt8]) hv137 Try.underlying22 ty5 (by decide) (by decide) rfl (by kernel_rfl) f144 ?_
          intro b145 w146 r148 s149
          exact ⟨_, _, rfl, Nat.le_refl _, Nat.le_of_ble_eq_true rfl, r148⟩
        · refine law_eq rfl (law_val rfl (by decide) fun lab151 w152 a153 hv154 s155 f156 d157 => ?_)
          obtain ⟨v158, e159, q160⟩ := d157 4 rfl 38 rfl
          replace q160 : (Is (.slice A20 (List.length (wr ++ List.take ((Int.toNat size) - j) (be (u64i n) (Int.toNat size)))) c21)) lab151 w152 v158 := q160
          replace q160 := Is.out q160; subst q160
          have f161 := f156.ext e159
          obtain ⟨v162, e163, q164⟩ := d157 11 rfl 45 rfl
          replace q164 : (BytesV ([((u64i n) >>> UInt64.ofNat (8 * (((j : Nat) : Int) - 1)).toNat).toUInt8])) lab151 w152 v162 := q164
          obtain ⟨A165, c166, rfl⟩ := BytesV.shape q164
          have z167 := BytesV.cap q164
          have f168 := f161.ext e163
          have o169 := o18.lift (z0.trans s155) (by decide)
          refine append_law (k := 902) (List.map u8 ([((u64i n) >>> UInt64.ofNat (8 * (((j : Nat) : Int) - 1)).toNat).toUInt8])) hv154 o169 Try.underlying22 ty5 rfl rfl rfl (by simp) (BytesV.row q164) oneCell_u8 (by first | omega | (simp <;> omega) | (simp at * <;> omega) | (simp [be_length] at * <;> omega)) (by first | omega | (simp <;> omega) | (simp at * <;> omega) | (simp [be_length] at * <;> omega)) f168 ?_
          intro lab172 w171 v170 o174
          rw [← List.map_append] at o174
          exact o174
      · skip
        intro lab177 w178 a179 hv180 s181 f182 hl183
        obtain ⟨v184, e185, q186⟩ := hl183 0 (by decide) 34 rfl
        replace q186 : (Is (.pointer (some ⟨wrb, 0, none⟩))) lab177 w178 v184 := q186
        replace q186 := Is.out q186; subst q186
        have f187 := f182.ext e185
        obtain ⟨v188, e189, q190⟩ := hl183 12 (by decide) 46 rfl
        replace q190 : (fun lab w v => App lab w 902 5 v (List.length (wr ++ List.take ((Int.toNat size) - j) (be (u64i n) (Int.toNat size))) + (List.length ([((u64i n) >>> UInt64.ofNat (8 * (((j : Nat) : Int) - 1)).toNat).toUInt8]))) (List.map u8 (wr ++ List.take ((Int.toNat size) - j) (be (u64i n) (Int.toNat size)) ++ ([((u64i n) >>> UInt64.ofNat (8 * (((j : Nat) : Int) - 1)).toNat).toUInt8])))) lab177 w178 v188 := q190
        obtain ⟨A191, c192, rfl⟩ := App.shape q190
        have m193 : List.length (wr ++ List.take ((Int.toNat size) - j) (be (u64i n) (Int.toNat size)) ++ ([((u64i n) >>> UInt64.ofNat (8 * (((j : Nat) : Int) - 1)).toNat).toUInt8])) = List.length (wr ++ List.take ((Int.toNat size) - j) (be (u64i n) (Int.toNat size))) + (List.length ([((u64i n) >>> UInt64.ofNat (8 * (((j : Nat) : Int) - 1)).toNat).toUInt8])) := App.lenMap q190
        have z194 := (App.row q190).2
        have f195 := f187.ext e189
        refine Seq.start (m := 13) f195 ?_
        refine Seq.val (Does.nilCheck rfl) (by decide) ?_
        refine Seq.val (Does.fieldAddr' 0 Try.underlying144 rfl ty22 rfl rfl) (by decide) ?_
        have o196 := o19.lift s181 (by decide)
        refine Seq.store [.slice A191 (List.length (wr ++ List.take ((Int.toNat size) - j) (be (u64i n) (Int.toNat size))) + (List.length ([((u64i n) >>> UInt64.ofNat (8 * (((j : Nat) : Int) - 1)).toNat).toUInt8]))) c192, .bool true] hv180 o196 ty22 rfl rfl rfl (Nat.le_of_ble_eq_true rfl) rfl rfl ?_
        intro w197 o198 s199 hv200
        refine Seq.go (fun _ _ h => h) ?_
        refine Run.region ?_
        refine Seq.val (Does.move rfl) (by decide) ?_
        refine Seq.val (Does.sub rfl rfl (by first | omega | (simp <;> omega) | (simp at * <;> omega) | (simp [be_length] at * <;> omega))) (by decide) ?_
        refine Seq.val (Does.assign rfl) (by decide) ?_
        have o201 := q190.lift s199 (by decide)
        have c202 := s181.trans s199
        have c203 := s16.trans c202
        exact Seq.nil (fun a204 h205 => ⟨_, by omega, _, h205.weaken (subs_lk (l' := [(10, i64 ((((j - 1) : Nat) : Int) - 1)), (0, .pointer (some ⟨wrb, 0, none⟩)), (1, i64 n), (2, i64 least), (3, i64 most), (4, i64 size), (11, .pointer (some ⟨wrb, 0, none⟩)), (12, .pointer (some ⟨wrb, 0, none⟩)), (13, .pointer (some ⟨wrb, 0, none⟩)), (14, .pointer (some ⟨wrb, 1, none⟩)), (15, .bool wrbad), (16, .bool wrbad), (20, .bool true), (21, .bool true), (25, .bool true), (26, .pointer (some ⟨wrb, 0, none⟩)), (27, .pointer (some ⟨wrb, 1, none⟩)), (28, i64 size), (29, i64 (size - 1))]) ⟨(congrArg (fun z => some (i64 z)) (show ((((j : Nat) : Int) - 1) - 1 : Int) = (((j - 1) : Nat) : Int) - 1 from by first | rfl | omega | (simp; done) | (simp <;> omega) | (simp [be_length] <;> omega))), rfl, rfl, rfl, rfl, rfl, rfl, rfl, rfl, rfl, rfl, rfl, rfl, rfl, rfl, rfl, rfl, rfl, rfl, trivial⟩), ⟨j - 1, lab177, (.slice A191 (List.length (wr ++ List.take ((Int.toNat size) - j) (be (u64i n) (Int.toNat size))) + (List.length ([((u64i n) >>> UInt64.ofNat (8 * (((j : Nat) : Int) - 1)).toNat).toUInt8]))) c192), rfl, rfl, hv200, (c203.more (by decide)), (appCast (show wr ++ List.take ((Int.toNat size) - j) (be (u64i n) (Int.toNat size)) ++ ([((u64i n) >>> UInt64.ofNat (8 * (((j : Nat) : Int) - 1)).toNat).toUInt8]) = wr ++ List.take ((Int.toNat size) - (j - 1)) (be (u64i n) (Int.toNat size)) from by first | (simp; done) | (rw [List.append_assoc]; exact congrArg (wr ++ ·) (be_step (by omega) (by omega)))) (show List.length (wr ++ List.take ((Int.toNat size) - j) (be (u64i n) (Int.toNat size))) + (List.length ([((u64i n) >>> UInt64.ofNat (8 * (((j : Nat) : Int) - 1)).toNat).toUInt8])) = List.length (wr ++ List.take ((Int.toNat size) - (j - 1)) (be (u64i n) (Int.toNat size))) from by first | rfl | omega | (simp; done) | (simp <;> omega) | (simp [be_length] <;> omega)) o201), o198, (by first | omega | (simp at *; omega))⟩⟩)
    · skip
      have hp2 := of_decide_eq_false hc2
      refine Run.cond_b rfl hc2 ?_
      have c206 := s7.trans s16
      refine Run.exit ?_
      exact post_none Try.results87  ⟨_, rfl, _, rfl, (Wr.cast (show wr ++ List.take ((Int.toNat size) - j) (be (u64i n) (Int.toNat size)) = (wr ++ be (u64i n) (Int.toNat size)) from by first | rfl | (congr 1; rw [List.take_of_length_le (by rw [be_length]; omega)]; done) | (simp [out_, *]; done; done) | (simp_all [out_]; done; done) | (simp_all [out_]; omega; done) | (simp_all; done) | omega) (show true = (wrbad || out_ n least most) from by first | rfl | (congr 1; rw [List.take_of_length_le (by rw [be_length]; omega)]; done) | (simp [out_, *]; done; done) | (simp_all [out_]; done; done) | (simp_all [out_]; omega; done) | (simp_all; done) | omega) (Wr.mk o19 o18)), c206.more (by decide), hv15⟩
  · skip
    refine Seq.guard_on' rfl rfl hc1 ?_
    refine Seq.val (Does.move rfl) (by decide) ?_
    refine Seq.guard_on' rfl rfl hc1 ?_
    refine Seq.val (Does.move rfl) (by decide) ?_
    refine Seq.guard_on' rfl rfl hc1 ?_
    refine Seq.val (Does.lss rfl rfl) (by decide) ?_
    refine Seq.val (Does.pick_b rfl hc1 rfl) (by decide) ?_
    refine Seq.val (Does.move rfl) (by decide) ?_
    rcases bdich (decide ((n : Int) < (least : Int))) with hc2 | hc2
    · skip
      have hp2 := of_decide_eq_true hc2
      refine Seq.guard_off' rfl rfl hc2 rfl (by decide) ?_
      refine Seq.guard_off' rfl rfl hc2 rfl (by decide) ?_
      refine Seq.guard_off' rfl rfl hc2 rfl (by decide) ?_
      refine Seq.val (Does.pick_b rfl hc2 rfl) (by decide) ?_
      refine Seq.val (Does.nilCheck rfl) (by decide) ?_
      refine Seq.val (Does.fieldAddr' 1 Try.underlying144 rfl ty4 rfl rfl) (by decide) ?_
      refine Seq.store [.slice A1 (List.length wr) c2, .bool true] hv oW ty4 rfl rfl rfl (Nat.le_of_ble_eq_true rfl) rfl rfl ?_
      intro w207 o208 s209 hv210
      refine Seq.go (fun _ _ h => h) ?_
      refine Run.seq ?_
      refine Run.region ?_
      refine Seq.val (Does.move rfl) (by decide) ?_
      refine Seq.val (Does.sub rfl rfl (by first | omega | (simp <;> omega) | (simp at * <;> omega) | (simp [be_length] at * <;> omega))) (by decide) ?_
      refine Seq.val (Does.assign rfl) (by decide) ?_
      refine Seq.go (fun _ _ h => h) ?_
      refine Run.block ?_
      have o211 := aW.lift s209 (by decide)
      refine Run.loop (fun m' l' w' => ∃ (j : Nat) (lab' : Lab) (ux902 : Value), m' = j ∧ l' = [(10, i64 (((j : Nat) : Int) - 1)), (0, .pointer (some ⟨wrb, 0, none⟩)), (1, i64 n), (2, i64 least), (3, i64 most), (4, i64 size), (11, .pointer (some ⟨wrb, 0, none⟩)), (12, .pointer (some ⟨wrb, 0, none⟩)), (13, .pointer (some ⟨wrb, 0, none⟩)), (14, .pointer (some ⟨wrb, 1, none⟩)), (15, .bool wrbad), (16, .bool wrbad), (17, i64 n), (18, i64 least), (19, .bool (decide ((n : Int) < (least : Int)))), (20, .bool (decide ((n : Int) < (least : Int)))), (21, .bool (decide ((n : Int) < (least : Int)))), (25, .bool true), (26, .pointer (some ⟨wrb, 0, none⟩)), (27, .pointer (some ⟨wrb, 1, none⟩)), (28, i64 size), (29, i64 (size - 1))] ∧ Valid lab' w' ∧ Stp [901, 902] lab w207 lab' w' ∧ App lab' w' 902 5 ux902 (List.length (wr ++ List.take ((Int.toNat size) - j) (be (u64i n) (Int.toNat size)))) (List.map u8 (wr ++ List.take ((Int.toNat size) - j) (be (u64i n) (Int.toNat size)))) ∧ Own lab' w' 901 wrb 144 #[ux902, .bool true] ∧ (j ≤ (Int.toNat size))) ((Int.toNat size)) (l0 := [(10, i64 ((((Int.toNat size) : Nat) : Int) - 1)), (0, .pointer (some ⟨wrb, 0, none⟩)), (1, i64 n), (2, i64 least), (3, i64 most), (4, i64 size), (11, .pointer (some ⟨wrb, 0, none⟩)), (12, .pointer (some ⟨wrb, 0, none⟩)), (13, .pointer (some ⟨wrb, 0, none⟩)), (14, .pointer (some ⟨wrb, 1, none⟩)), (15, .bool wrbad), (16, .bool wrbad), (17, i64 n), (18, i64 least), (19, .bool (decide ((n : Int) < (least : Int)))), (20, .bool (decide ((n : Int) < (least : Int)))), (21, .bool (decide ((n : Int) < (least : Int)))), (25, .bool true), (26, .pointer (some ⟨wrb, 0, none⟩)), (27, .pointer (some ⟨wrb, 1, none⟩)), (28, i64 size), (29, i64 (size - 1))]) ⟨(congrArg (fun z => some (i64 z)) (show (size - 1 : Int) = (((Int.toNat size) : Nat) : Int) - 1 from by first | rfl | omega | (simp; done) | (simp <;> omega) | (simp [be_length] <;> omega))), rfl, rfl, rfl, rfl, rfl, rfl, rfl, rfl, rfl, rfl, rfl, rfl, rfl, rfl, rfl, rfl, rfl, rfl, rfl, rfl, rfl, trivial⟩ ⟨(Int.toNat size), lab, (.slice A1 (List.length wr) c2), rfl, rfl, hv210, ((Stp.refl _ _).more (by simp)), (appCast (show wr = wr ++ List.take ((Int.toNat size) - (Int.toNat size)) (be (u64i n) (Int.toNat size)) from by first | (simp; done) | (rw [List.append_assoc]; exact congrArg (wr ++ ·) (be_step (by omega) (by omega)))) (show List.length wr = List.length (wr ++ List.take ((Int.toNat size) - (Int.toNat size)) (be (u64i n) (Int.toNat size))) from by first | rfl | omega | (simp; done) | (simp <;> omega) | (simp [be_length] <;> omega)) o211), o208, (by first | omega | (simp at *; omega))⟩ ?_
      intro m212 l213 w214 H215
      obtain ⟨j_219, lab216, v220, hzm, rfl, hv217, s218, o221, o222, hj⟩ := H215
      replace hzm := hzm.symm; subst hzm
      obtain ⟨A223, c224, rfl⟩ := App.shape o221
      have m225 : List.length (wr ++ List.take ((Int.toNat size) - j_219) (be (u64i n) (Int.toNat size))) = List.length (wr ++ List.take ((Int.toNat size) - j_219) (be (u64i n) (Int.toNat size))) := App.lenMap o221
      have z226 := (App.row o221).2
      refine Run.seq ?_
      refine Run.seq ?_
      refine Run.region ?_
      refine Seq.val (Does.move rfl) (by decide) ?_
      refine Seq.val (Does.geq rfl rfl) (by decide) ?_
      refine Seq.go (fun _ _ h => h) ?_
      rcases bdich (decide ((0 : Int) ≤ (((j_219 : Nat) : Int) - 1 : Int))) with hc3 | hc3
      · skip
        have hp3 := of_decide_eq_true hc3
        refine Run.cond_b rfl hc3 ?_
        refine Run.skip_go (fun _ _ h => h) ?_
        refine Run.seq ?_
        refine Run.block ?_
        refine Run.anyOne (m := 13) 12 [902] mixed (by kernel_rfl) hv217 (phi [Is (.pointer (some ⟨wrb, 0, none⟩)), Is (.pointer (some ⟨wrb, 0, none⟩)), Is (.pointer (some ⟨wrb, 0, none⟩)), Is (.pointer (some ⟨wrb, 0, none⟩)), Is (.slice A223 (List.length (wr ++ List.take ((Int.toNat size) - j_219) (be (u64i n) (Int.toNat size)))) c224), Is (i64 n), Is (u64 (u64i n)), Is (i64 (((j_219 : Nat) : Int) - 1)), Is (i64 (8 * (((j_219 : Nat) : Int) - 1))), Is (u64 ((u64i n) >>> UInt64.ofNat (8 * (((j_219 : Nat) : Int) - 1)).toNat)), Is (u8 (((u64i n) >>> UInt64.ofNat (8 * (((j_219 : Nat) : Int) - 1)).toNat).toUInt8)), BytesV ([((u64i n) >>> UInt64.ofNat (8 * (((j_219 : Nat) : Int) - 1)).toNat).toUInt8]), fun lab w v => App lab w 902 5 v (List.length (wr ++ List.take ((Int.toNat size) - j_219) (be (u64i n) (Int.toNat size))) + (List.length ([((u64i n) >>> UInt64.ofNat (8 * (((j_219 : Nat) : Int) - 1)).toNat).toUInt8]))) (List.map u8 (wr ++ List.take ((Int.toNat size) - j_219) (be (u64i n) (Int.toNat size)) ++ ([((u64i n) >>> UInt64.ofNat (8 * (((j_219 : Nat) : Int) - 1)).toNat).toUInt8])))]) (phi_pers (L := [Is (.pointer (some ⟨wrb, 0, none⟩)), Is (.pointer (some ⟨wrb, 0, none⟩)), Is (.pointer (some ⟨wrb, 0, none⟩)), Is (.pointer (some ⟨wrb, 0, none⟩)), Is (.slice A223 (List.length (wr ++ List.take ((Int.toNat size) - j_219) (be (u64i n) (Int.toNat size)))) c224), Is (i64 n), Is (u64 (u64i n)), Is (i64 (((j_219 : Nat) : Int) - 1)), Is (i64 (8 * (((j_219 : Nat) : Int) - 1))), Is (u64 ((u64i n) >>> UInt64.ofNat (8 * (((j_219 : Nat) : Int) - 1)).toNat)), Is (u8 (((u64i n) >>> UInt64.ofNat (8 * (((j_219 : Nat) : Int) - 1)).toNat).toUInt8)), BytesV ([((u64i n) >>> UInt64.ofNat (8 * (((j_219 : Nat) : Int) - 1)).toNat).toUInt8]), fun lab w v => App lab w 902 5 v (List.length (wr ++ List.take ((Int.toNat size) - j_219) (be (u64i n) (Int.toNat size))) + (List.length ([((u64i n) >>> UInt64.ofNat (8 * (((j_219 : Nat) : Int) - 1)).toNat).toUInt8]))) (List.map u8 (wr ++ List.take ((Int.toNat size) - j_219) (be (u64i n) (Int.toNat size)) ++ ([((u64i n) >>> UInt64.ofNat (8 * (((j_219 : Nat) : Int) - 1)).toNat).toUInt8])))]) ⟨Pers.z (Is.pers _), Pers.z (Is.pers _), Pers.z (Is.pers _), Pers.z (Is.pers _), Pers.z (Is.pers _), Pers.z (Is.pers _), Pers.z (Is.pers _), Pers.z (Is.pers _), Pers.z (Is.pers _), Pers.z (Is.pers _), Pers.z (Is.pers _), Pers.z (BytesV.pers _), ⟨fun s h => h.lift s (by decide)⟩, trivial⟩) (fun i hi hz => phi_persT (L := [Is (.pointer (some ⟨wrb, 0, none⟩)), Is (.pointer (some ⟨wrb, 0, none⟩)), Is (.pointer (some ⟨wrb, 0, none⟩)), Is (.pointer (some ⟨wrb, 0, none⟩)), Is (.slice A223 (List.length (wr ++ List.take ((Int.toNat size) - j_219) (be (u64i n) (Int.toNat size)))) c224), Is (i64 n), Is (u64 (u64i n)), Is (i64 (((j_219 : Nat) : Int) - 1)), Is (i64 (8 * (((j_219 : Nat) : Int) - 1))), Is (u64 ((u64i n) >>> UInt64.ofNat (8 * (((j_219 : Nat) : Int) - 1)).toNat)), Is (u8 (((u64i n) >>> UInt64.ofNat (8 * (((j_219 : Nat) : Int) - 1)).toNat).toUInt8)), BytesV ([((u64i n) >>> UInt64.ofNat (8 * (((j_219 : Nat) : Int) - 1)).toNat).toUInt8]), fun lab w v => App lab w 902 5 v (List.length (wr ++ List.take ((Int.toNat size) - j_219) (be (u64i n) (Int.toNat size))) + (List.length ([((u64i n) >>> UInt64.ofNat (8 * (((j_219 : Nat) : Int) - 1)).toNat).toUInt8]))) (List.map u8 (wr ++ List.take ((Int.toNat size) - j_219) (be (u64i n) (Int.toNat size)) ++ ([((u64i n) >>> UInt64.ofNat (8 * (((j_219 : Nat) : Int) - 1)).toNat).toUInt8])))]) 0 ⟨Pers.t (Is.pers _), Pers.t (Is.pers _), Pers.t (Is.pers _), Pers.t (Is.pers _), Pers.t (Is.pers _), Pers.t (Is.pers _), Pers.t (Is.pers _), Pers.t (Is.pers _), Pers.t (Is.pers _), Pers.t (Is.pers _), Pers.t (Is.pers _), Pers.t (BytesV.pers _), .inl rfl, trivial⟩ i hi (by simpa using hz)) ?_ ?_
        · intro wz z0
          refine laws (n := 13) ⟨?_, ?_, ?_, ?_, ?_, ?_, ?_, ?_, ?_, ?_, ?_, ?_, ?_, trivial⟩
          · refine law_ne (by decide) (law_val rfl (by decide) fun lab227 w228 a229 hv230 s231 f232 d233 => ?_)
            exact ⟨_, _, _, _, f232, Does.move rfl, hv230, Stp.refl _ _, rfl⟩
          · refine law_ne (by decide) (law_val rfl (by decide) fun lab234 w235 a236 hv237 s238 f239 d240 => ?_)
            exact ⟨_, _, _, _, f239, Does.move rfl, hv237, Stp.refl _ _, rfl⟩
          · refine law_ne (by decide) (law_val rfl (by decide) fun lab241 w242 a243 hv244 s245 f246 d247 => ?_)
            obtain ⟨v248, e249, q250⟩ := d247 1 rfl 35 rfl
            replace q250 : (Is (.pointer (some ⟨wrb, 0, none⟩))) lab241 w242 v248 := q250
            replace q250 := Is.out q250; subst q250
            have f251 := f246.ext e249
            exact ⟨_, _, _, _, f251, Does.nilCheck rfl, hv244, Stp.refl _ _, rfl⟩
          · refine law_ne (by decide) (law_val rfl (by decide) fun lab252 w253 a254 hv255 s256 f257 d258 => ?_)
            obtain ⟨v259, e260, q261⟩ := d258 2 rfl 36 rfl
            replace q261 : (Is (.pointer (some ⟨wrb, 0, none⟩))) lab252 w253 v259 := q261
            replace q261 := Is.out q261; subst q261
            have f262 := f257.ext e260
            exact ⟨_, _, _, _, f262, Does.fieldAddr' 0 Try.underlying144 rfl ty22 rfl rfl, hv255, Stp.refl _ _, rfl⟩
          · refine law_ne (by decide) (law_val rfl (by decide) fun lab263 w264 a265 hv266 s267 f268 d269 => ?_)
            obtain ⟨v270, e271, q272⟩ := d269 3 rfl 37 rfl
            replace q272 : (Is (.pointer (some ⟨wrb, 0, none⟩))) lab263 w264 v270 := q272
            replace q272 := Is.out q272; subst q272
            have f273 := f268.ext e271
            have o274 := o222.lift (z0.trans s267) (by decide)
            exact ⟨_, _, _, _, f273, Does.load_own1 o274 ty22 rfl rfl, hv266, Stp.refl _ _, rfl⟩
          · refine law_ne (by decide) (law_val rfl (by decide) fun lab275 w276 a277 hv278 s279 f280 d281 => ?_)
            exact ⟨_, _, _, _, f280, Does.move rfl, hv278, Stp.refl _ _, rfl⟩
          · refine law_ne (by decide) (law_val rfl (by decide) fun lab282 w283 a284 hv285 s286 f287 d288 => ?_)
            obtain ⟨v289, e290, q291⟩ := d288 5 rfl 39 rfl
            replace q291 : (Is (i64 n)) lab282 w283 v289 := q291
            replace q291 := Is.out q291; subst q291
            have f292 := f287.ext e290
            exact ⟨_, _, _, _, f292, Does.conv_int Try.underlying3 Try.underlying62 rfl (wrap_i64_u64i _), hv285, Stp.refl _ _, rfl⟩
          · refine law_ne (by decide) (law_val rfl (by decide) fun lab293 w294 a295 hv296 s297 f298 d299 => ?_)
            exact ⟨_, _, _, _, f298, Does.move rfl, hv296, Stp.refl _ _, rfl⟩
          · refine law_ne (by decide) (law_val rfl (by decide) fun lab300 w301 a302 hv303 s304 f305 d306 => ?_)
            obtain ⟨v307, e308, q309⟩ := d306 7 rfl 41 rfl
            replace q309 : (Is (i64 (((j_219 : Nat) : Int) - 1))) lab300 w301 v307 := q309
            replace q309 := Is.out q309; subst q309
            have f310 := f305.ext e308
            exact ⟨_, _, _, _, f310, Does.mul rfl rfl (by first | omega | (simp <;> omega) | (simp at * <;> omega) | (simp [be_length] at * <;> omega)), hv303, Stp.refl _ _, rfl⟩
          · refine law_ne (by decide) (law_val rfl (by decide) fun lab311 w312 a313 hv314 s315 f316 d317 => ?_)
            obtain ⟨v318, e319, q320⟩ := d317 6 rfl 40 rfl
            replace q320 : (Is (u64 (u64i n))) lab311 w312 v318 := q320
            replace q320 := Is.out q320; subst q320
            have f321 := f316.ext e319
            obtain ⟨v322, e323, q324⟩ := d317 8 rfl 42 rfl
            replace q324 : (Is (i64 (8 * (((j_219 : Nat) : Int) - 1)))) lab311 w312 v322 := q324
            replace q324 := Is.out q324; subst q324
            have f325 := f321.ext e323
            exact ⟨_, _, _, _, f325, Does.u64_shr rfl rfl (by first | omega | (simp <;> omega) | (simp at * <;> omega) | (simp [be_length] at * <;> omega)) (by first | omega | (simp <;> omega) | (simp at * <;> omega) | (simp [be_length] at * <;> omega)), hv314, Stp.refl _ _, rfl⟩
          · refine law_ne (by decide) (law_val rfl (by decide) fun lab326 w327 a328 hv329 s330 f331 d332 => ?_)
            obtain ⟨v333, e334, q335⟩ := d332 9 rfl 43 rfl
            replace q335 : (Is (u64 ((u64i n) >>> UInt64.ofNat (8 * (((j_219 : Nat) : Int) - 1)).toNat))) lab326 w327 v333 := q335
            replace q335 := Is.out q335; subst q335
            have f336 := f331.ext e334
            exact ⟨_, _, _, _, f336, Does.conv_int Try.underlying62 Try.underlying5 rfl (wrap_u64_u8 _), hv329, Stp.refl _ _, rfl⟩
          · refine law_ne (by decide) (law_val rfl (by decide) fun lab337 w338 a339 hv340 s341 f342 d343 => ?_)
            obtain ⟨v344, e345, q346⟩ := d343 10 rfl 44 rfl
            replace q346 : (Is (u8 (((u64i n) >>> UInt64.ofNat (8 * (((j_219 : Nat) : Int) - 1)).toNat).toUInt8))) lab337 w338 v344 := q346
            replace q346 := Is.out q346; subst q346
            have f347 := f342.ext e345
            refine build_law [(0, u8 (((u64i n) >>> UInt64.ofNat (8 * (((j_219 : Nat) : Int) - 1)).toNat).toUInt8))] (List.map u8 [((u64i n) >>> UInt64.ofNat (8 * (((j_219 : Nat) : Int) - 1)).toNat).toUInt8]) hv340 Try.underlying22 ty5 (by decide) (by decide) rfl (by kernel_rfl) f347 ?_
            intro b348 w349 r351 s352
            exact ⟨_, _, rfl, Nat.le_refl _, Nat.le_of_ble_eq_true rfl, r351⟩
          · refine law_eq rfl (law_val rfl (by decide) fun lab354 w355 a356 hv357 s358 f359 d360 => ?_)
            obtain ⟨v361, e362, q363⟩ := d360 4 rfl 38 rfl
            replace q363 : (Is (.slice A223 (List.length (wr ++ List.take ((Int.toNat size) - j_219) (be (u64i n) (Int.toNat size)))) c224)) lab354 w355 v361 := q363
            replace q363 := Is.out q363; subst q363
            have f364 := f359.ext e362
            obtain ⟨v365, e366, q367⟩ := d360 11 rfl 45 rfl
            replace q367 : (BytesV ([((u64i n) >>> UInt64.ofNat (8 * (((j_219 : Nat) : Int) - 1)).toNat).toUInt8])) lab354 w355 v365 := q367
            obtain ⟨A368, c369, rfl⟩ := BytesV.shape q367
            have z370 := BytesV.cap q367
            have f371 := f364.ext e366
            have o372 := o221.lift (z0.trans s358) (by decide)
            refine append_law (k := 902) (List.map u8 ([((u64i n) >>> UInt64.ofNat (8 * (((j_219 : Nat) : Int) - 1)).toNat).toUInt8])) hv357 o372 Try.underlying22 ty5 rfl rfl rfl (by simp) (BytesV.row q367) oneCell_u8 (by first | omega | (simp <;> omega) | (simp at * <;> omega) | (simp [be_length] at * <;> omega)) (by first | omega | (simp <;> omega) | (simp at * <;> omega) | (simp [be_length] at * <;> omega)) f371 ?_
            intro lab375 w374 v373 o377
            rw [← List.map_append] at o377
            exact o377
        · skip
          intro lab380 w381 a382 hv383 s384 f385 hl386
          obtain ⟨v387, e388, q389⟩ := hl386 0 (by decide) 34 rfl
          replace q389 : (Is (.pointer (some ⟨wrb, 0, none⟩))) lab380 w381 v387 := q389
          replace q389 := Is.out q389; subst q389
          have f390 := f385.ext e388
          obtain ⟨v391, e392, q393⟩ := hl386 12 (by decide) 46 rfl
          replace q393 : (fun lab w v => App lab w 902 5 v (List.length (wr ++ List.take ((Int.toNat size) - j_219) (be (u64i n) (Int.toNat size))) + (List.length ([((u64i n) >>> UInt64.ofNat (8 * (((j_219 : Nat) : Int) - 1)).toNat).toUInt8]))) (List.map u8 (wr ++ List.take ((Int.toNat size) - j_219) (be (u64i n) (Int.toNat size)) ++ ([((u64i n) >>> UInt64.ofNat (8 * (((j_219 : Nat) : Int) - 1)).toNat).toUInt8])))) lab380 w381 v391 := q393
          obtain ⟨A394, c395, rfl⟩ := App.shape q393
          have m396 : List.length (wr ++ List.take ((Int.toNat size) - j_219) (be (u64i n) (Int.toNat size)) ++ ([((u64i n) >>> UInt64.ofNat (8 * (((j_219 : Nat) : Int) - 1)).toNat).toUInt8])) = List.length (wr ++ List.take ((Int.toNat size) - j_219) (be (u64i n) (Int.toNat size))) + (List.length ([((u64i n) >>> UInt64.ofNat (8 * (((j_219 : Nat) : Int) - 1)).toNat).toUInt8])) := App.lenMap q393
          have z397 := (App.row q393).2
          have f398 := f390.ext e392
          refine Seq.start (m := 13) f398 ?_
          refine Seq.val (Does.nilCheck rfl) (by decide) ?_
          refine Seq.val (Does.fieldAddr' 0 Try.underlying144 rfl ty22 rfl rfl) (by decide) ?_
          have o399 := o222.lift s384 (by decide)
          refine Seq.store [.slice A394 (List.length (wr ++ List.take ((Int.toNat size) - j_219) (be (u64i n) (Int.toNat size))) + (List.length ([((u64i n) >>> UInt64.ofNat (8 * (((j_219 : Nat) : Int) - 1)).toNat).toUInt8]))) c395, .bool true] hv383 o399 ty22 rfl rfl rfl (Nat.le_of_ble_eq_true rfl) rfl rfl ?_
          intro w400 o401 s402 hv403
          refine Seq.go (fun _ _ h => h) ?_
          refine Run.region ?_
          refine Seq.val (Does.move rfl) (by decide) ?_
          refine Seq.val (Does.sub rfl rfl (by first | omega | (simp <;> omega) | (simp at * <;> omega) | (simp [be_length] at * <;> omega))) (by decide) ?_
          refine Seq.val (Does.assign rfl) (by decide) ?_
          have o404 := q393.lift s402 (by decide)
          have c405 := s384.trans s402
          have c406 := s218.trans c405
          exact Seq.nil (fun a407 h408 => ⟨_, by omega, _, h408.weaken (subs_lk (l' := [(10, i64 ((((j_219 - 1) : Nat) : Int) - 1)), (0, .pointer (some ⟨wrb, 0, none⟩)), (1, i64 n), (2, i64 least), (3, i64 most), (4, i64 size), (11, .pointer (some ⟨wrb, 0, none⟩)), (12, .pointer (some ⟨wrb, 0, none⟩)), (13, .pointer (some ⟨wrb, 0, none⟩)), (14, .pointer (some ⟨wrb, 1, none⟩)), (15, .bool wrbad), (16, .bool wrbad), (17, i64 n), (18, i64 least), (19, .bool (decide ((n : Int) < (least : Int)))), (20, .bool (decide ((n : Int) < (least : Int)))), (21, .bool (decide ((n : Int) < (least : Int)))), (25, .bool true), (26, .pointer (some ⟨wrb, 0, none⟩)), (27, .pointer (some ⟨wrb, 1, none⟩)), (28, i64 size), (29, i64 (size - 1))]) ⟨(congrArg (fun z => some (i64 z)) (show ((((j_219 : Nat) : Int) - 1) - 1 : Int) = (((j_219 - 1) : Nat) : Int) - 1 from by first | rfl | omega | (simp; done) | (simp <;> omega) | (simp [be_length] <;> omega))), rfl, rfl, rfl, rfl, rfl, rfl, rfl, rfl, rfl, rfl, rfl, rfl, rfl, rfl, rfl, rfl, rfl, rfl, rfl, rfl, rfl, trivial⟩), ⟨j_219 - 1, lab380, (.slice A394 (List.length (wr ++ List.take ((Int.toNat size) - j_219) (be (u64i n) (Int.toNat size))) + (List.length ([((u64i n) >>> UInt64.ofNat (8 * (((j_219 : Nat) : Int) - 1)).toNat).toUInt8]))) c395), rfl, rfl, hv403, (c406.more (by decide)), (appCast (show wr ++ List.take ((Int.toNat size) - j_219) (be (u64i n) (Int.toNat size)) ++ ([((u64i n) >>> UInt64.ofNat (8 * (((j_219 : Nat) : Int) - 1)).toNat).toUInt8]) = wr ++ List.take ((Int.toNat size) - (j_219 - 1)) (be (u64i n) (Int.toNat size)) from by first | (simp; done) | (rw [List.append_assoc]; exact congrArg (wr ++ ·) (be_step (by omega) (by omega)))) (show List.length (wr ++ List.take ((Int.toNat size) - j_219) (be (u64i n) (Int.toNat size))) + (List.length ([((u64i n) >>> UInt64.ofNat (8 * (((j_219 : Nat) : Int) - 1)).toNat).toUInt8])) = List.length (wr ++ List.take ((Int.toNat size) - (j_219 - 1)) (be (u64i n) (Int.toNat size))) from by first | rfl | omega | (simp; done) | (simp <;> omega) | (simp [be_length] <;> omega)) o404), o401, (by first | omega | (simp at *; omega))⟩⟩)
      · skip
        have hp3 := of_decide_eq_false hc3
        refine Run.cond_b rfl hc3 ?_
        have c409 := s209.trans s218
        refine Run.exit ?_
        exact post_none Try.results87  ⟨_, rfl, _, rfl, (Wr.cast (show wr ++ List.take ((Int.toNat size) - j_219) (be (u64i n) (Int.toNat size)) = (wr ++ be (u64i n) (Int.toNat size)) from by first | rfl | (congr 1; rw [List.take_of_length_le (by rw [be_length]; omega)]; done) | (simp [out_, *]; done; done) | (simp_all [out_]; done; done) | (simp_all [out_]; omega; done) | (simp_all; done) | omega) (show true = (wrbad || out_ n least most) from by first | rfl | (congr 1; rw [List.take_of_length_le (by rw [be_length]; omega)]; done) | (simp [out_, *]; done; done) | (simp_all [out_]; done; done) | (simp_all [out_]; omega; done) | (simp_all; done) | omega) (Wr.mk o222 o221)), c409.more (by decide), hv217⟩
    · skip
      have hp2 := of_decide_eq_false hc2
      refine Seq.guard_on' rfl rfl hc2 ?_
      refine Seq.val (Does.move rfl) (by decide) ?_
      refine Seq.guard_on' rfl rfl hc2 ?_
      refine Seq.val (Does.move rfl) (by decide) ?_
      refine Seq.guard_on' rfl rfl hc2 ?_
      refine Seq.val (Does.gtr rfl rfl) (by decide) ?_
      refine Seq.val (Does.pick_b rfl hc2 rfl) (by decide) ?_
      refine Seq.val (Does.nilCheck rfl) (by decide) ?_
      refine Seq.val (Does.fieldAddr' 1 Try.underlying144 rfl ty4 rfl rfl) (by decide) ?_
      refine Seq.store [.slice A1 (List.length wr) c2, .bool (decide ((most : Int) < (n : Int)))] hv oW ty4 rfl rfl rfl (Nat.le_of_ble_eq_true rfl) rfl rfl ?_
      intro w410 o411 s412 hv413
      refine Seq.go (fun _ _ h => h) ?_
      refine Run.seq ?_
      refine Run.region ?_
      refine Seq.val (Does.move rfl) (by decide) ?_
      refine Seq.val (Does.sub rfl rfl (by first | omega | (simp <;> omega) | (simp at * <;> omega) | (simp [be_length] at * <;> omega))) (by decide) ?_
      refine Seq.val (Does.assign rfl) (by decide) ?_
      refine Seq.go (fun _ _ h => h) ?_
      refine Run.block ?_
      have o414 := aW.lift s412 (by decide)
      refine Run.loop (fun m' l' w' => ∃ (j : Nat) (lab' : Lab) (ux902 : Value), m' = j ∧ l' = [(10, i64 (((j : Nat) : Int) - 1)), (0, .pointer (some ⟨wrb, 0, none⟩)), (1, i64 n), (2, i64 least), (3, i64 most), (4, i64 size), (11, .pointer (some ⟨wrb, 0, none⟩)), (12, .pointer (some ⟨wrb, 0, none⟩)), (13, .pointer (some ⟨wrb, 0, none⟩)), (14, .pointer (some ⟨wrb, 1, none⟩)), (15, .bool wrbad), (16, .bool wrbad), (17, i64 n), (18, i64 least), (19, .bool (decide ((n : Int) < (least : Int)))), (20, .bool (decide ((n : Int) < (least : Int)))), (21, .bool (decide ((n : Int) < (least : Int)))), (22, i64 n), (23, i64 most), (24, .bool (decide ((most : Int) < (n : Int)))), (25, .bool (decide ((most : Int) < (n : Int)))), (26, .pointer (some ⟨wrb, 0, none⟩)), (27, .pointer (some ⟨wrb, 1, none⟩)), (28, i64 size), (29, i64 (size - 1))] ∧ Valid lab' w' ∧ Stp [901, 902] lab w410 lab' w' ∧ App lab' w' 902 5 ux902 (List.length (wr ++ List.take ((Int.toNat size) - j) (be (u64i n) (Int.toNat size)))) (List.map u8 (wr ++ List.take ((Int.toNat size) - j) (be (u64i n) (Int.toNat size)))) ∧ Own lab' w' 901 wrb 144 #[ux902, .bool (decide ((most : Int) < (n : Int)))] ∧ (j ≤ (Int.toNat size))) ((Int.toNat size)) (l0 := [(10, i64 ((((Int.toNat size) : Nat) : Int) - 1)), (0, .pointer (some ⟨wrb, 0, none⟩)), (1, i64 n), (2, i64 least), (3, i64 most), (4, i64 size), (11, .pointer (some ⟨wrb, 0, none⟩)), (12, .pointer (some ⟨wrb, 0, none⟩)), (13, .pointer (some ⟨wrb, 0, none⟩)), (14, .pointer (some ⟨wrb, 1, none⟩)), (15, .bool wrbad), (16, .bool wrbad), (17, i64 n), (18, i64 least), (19, .bool (decide ((n : Int) < (least : Int)))), (20, .bool (decide ((n : Int) < (least : Int)))), (21, .bool (decide ((n : Int) < (least : Int)))), (22, i64 n), (23, i64 most), (24, .bool (decide ((most : Int) < (n : Int)))), (25, .bool (decide ((most : Int) < (n : Int)))), (26, .pointer (some ⟨wrb, 0, none⟩)), (27, .pointer (some ⟨wrb, 1, none⟩)), (28, i64 size), (29, i64 (size - 1))]) ⟨(congrArg (fun z => some (i64 z)) (show (size - 1 : Int) = (((Int.toNat size) : Nat) : Int) - 1 from by first | rfl | omega | (simp; done) | (simp <;> omega) | (simp [be_length] <;> omega))), rfl, rfl, rfl, rfl, rfl, rfl, rfl, rfl, rfl, rfl, rfl, rfl, rfl, rfl, rfl, rfl, rfl, rfl, rfl, rfl, rfl, rfl, rfl, rfl, trivial⟩ ⟨(Int.toNat size), lab, (.slice A1 (List.length wr) c2), rfl, rfl, hv413, ((Stp.refl _ _).more (by simp)), (appCast (show wr = wr ++ List.take ((Int.toNat size) - (Int.toNat size)) (be (u64i n) (Int.toNat size)) from by first | (simp; done) | (rw [List.append_assoc]; exact congrArg (wr ++ ·) (be_step (by omega) (by omega)))) (show List.length wr = List.length (wr ++ List.take ((Int.toNat size) - (Int.toNat size)) (be (u64i n) (Int.toNat size))) from by first | rfl | omega | (simp; done) | (simp <;> omega) | (simp [be_length] <;> omega)) o414), o411, (by first | omega | (simp at *; omega))⟩ ?_
      intro m415 l416 w417 H418
      obtain ⟨j_422, lab419, v423, hzm, rfl, hv420, s421, o424, o425, hj⟩ := H418
      replace hzm := hzm.symm; subst hzm
      obtain ⟨A426, c427, rfl⟩ := App.shape o424
      have m428 : List.length (wr ++ List.take ((Int.toNat size) - j_422) (be (u64i n) (Int.toNat size))) = List.length (wr ++ List.take ((Int.toNat size) - j_422) (be (u64i n) (Int.toNat size))) := App.lenMap o424
      have z429 := (App.row o424).2
      refine Run.seq ?_
      refine Run.seq ?_
      refine Run.region ?_
      refine Seq.val (Does.move rfl) (by decide) ?_
      refine Seq.val (Does.geq rfl rfl) (by decide) ?_
      refine Seq.go (fun _ _ h => h) ?_
      rcases bdich (decide ((0 : Int) ≤ (((j_422 : Nat) : Int) - 1 : Int))) with hc3 | hc3
      · skip
        have hp3 := of_decide_eq_true hc3
        refine Run.cond_b rfl hc3 ?_
        refine Run.skip_go (fun _ _ h => h) ?_
        refine Run.seq ?_
        refine Run.block ?_
        refine Run.anyOne (m := 13) 12 [902] mixed (by kernel_rfl) hv420 (phi [Is (.pointer (some ⟨wrb, 0, none⟩)), Is (.pointer (some ⟨wrb, 0, none⟩)), Is (.pointer (some ⟨wrb, 0, none⟩)), Is (.pointer (some ⟨wrb, 0, none⟩)), Is (.slice A426 (List.length (wr ++ List.take ((Int.toNat size) - j_422) (be (u64i n) (Int.toNat size)))) c427), Is (i64 n), Is (u64 (u64i n)), Is (i64 (((j_422 : Nat) : Int) - 1)), Is (i64 (8 * (((j_422 : Nat) : Int) - 1))), Is (u64 ((u64i n) >>> UInt64.ofNat (8 * (((j_422 : Nat) : Int) - 1)).toNat)), Is (u8 (((u64i n) >>> UInt64.ofNat (8 * (((j_422 : Nat) : Int) - 1)).toNat).toUInt8)), BytesV ([((u64i n) >>> UInt64.ofNat (8 * (((j_422 : Nat) : Int) - 1)).toNat).toUInt8]), fun lab w v => App lab w 902 5 v (List.length (wr ++ List.take ((Int.toNat size) - j_422) (be (u64i n) (Int.toNat size))) + (List.length ([((u64i n) >>> UInt64.ofNat (8 * (((j_422 : Nat) : Int) - 1)).toNat).toUInt8]))) (List.map u8 (wr ++ List.take ((Int.toNat size) - j_422) (be (u64i n) (Int.toNat size)) ++ ([((u64i n) >>> UInt64.ofNat (8 * (((j_422 : Nat) : Int) - 1)).toNat).toUInt8])))]) (phi_pers (L := [Is (.pointer (some ⟨wrb, 0, none⟩)), Is (.pointer (some ⟨wrb, 0, none⟩)), Is (.pointer (some ⟨wrb, 0, none⟩)), Is (.pointer (some ⟨wrb, 0, none⟩)), Is (.slice A426 (List.length (wr ++ List.take ((Int.toNat size) - j_422) (be (u64i n) (Int.toNat size)))) c427), Is (i64 n), Is (u64 (u64i n)), Is (i64 (((j_422 : Nat) : Int) - 1)), Is (i64 (8 * (((j_422 : Nat) : Int) - 1))), Is (u64 ((u64i n) >>> UInt64.ofNat (8 * (((j_422 : Nat) : Int) - 1)).toNat)), Is (u8 (((u64i n) >>> UInt64.ofNat (8 * (((j_422 : Nat) : Int) - 1)).toNat).toUInt8)), BytesV ([((u64i n) >>> UInt64.ofNat (8 * (((j_422 : Nat) : Int) - 1)).toNat).toUInt8]), fun lab w v => App lab w 902 5 v (List.length (wr ++ List.take ((Int.toNat size) - j_422) (be (u64i n) (Int.toNat size))) + (List.length ([((u64i n) >>> UInt64.ofNat (8 * (((j_422 : Nat) : Int) - 1)).toNat).toUInt8]))) (List.map u8 (wr ++ List.take ((Int.toNat size) - j_422) (be (u64i n) (Int.toNat size)) ++ ([((u64i n) >>> UInt64.ofNat (8 * (((j_422 : Nat) : Int) - 1)).toNat).toUInt8])))]) ⟨Pers.z (Is.pers _), Pers.z (Is.pers _), Pers.z (Is.pers _), Pers.z (Is.pers _), Pers.z (Is.pers _), Pers.z (Is.pers _), Pers.z (Is.pers _), Pers.z (Is.pers _), Pers.z (Is.pers _), Pers.z (Is.pers _), Pers.z (Is.pers _), Pers.z (BytesV.pers _), ⟨fun s h => h.lift s (by decide)⟩, trivial⟩) (fun i hi hz => phi_persT (L := [Is (.pointer (some ⟨wrb, 0, none⟩)), Is (.pointer (some ⟨wrb, 0, none⟩)), Is (.pointer (some ⟨wrb, 0, none⟩)), Is (.pointer (some ⟨wrb, 0, none⟩)), Is (.slice A426 (List.length (wr ++ List.take ((Int.toNat size) - j_422) (be (u64i n) (Int.toNat size)))) c427), Is (i64 n), Is (u64 (u64i n)), Is (i64 (((j_422 : Nat) : Int) - 1)), Is (i64 (8 * (((j_422 : Nat) : Int) - 1))), Is (u64 ((u64i n) >>> UInt64.ofNat (8 * (((j_422 : Nat) : Int) - 1)).toNat)), Is (u8 (((u64i n) >>> UInt64.ofNat (8 * (((j_422 : Nat) : Int) - 1)).toNat).toUInt8)), BytesV ([((u64i n) >>> UInt64.ofNat (8 * (((j_422 : Nat) : Int) - 1)).toNat).toUInt8]), fun lab w v => App lab w 902 5 v (List.length (wr ++ List.take ((Int.toNat size) - j_422) (be (u64i n) (Int.toNat size))) + (List.length ([((u64i n) >>> UInt64.ofNat (8 * (((j_422 : Nat) : Int) - 1)).toNat).toUInt8]))) (List.map u8 (wr ++ List.take ((Int.toNat size) - j_422) (be (u64i n) (Int.toNat size)) ++ ([((u64i n) >>> UInt64.ofNat (8 * (((j_422 : Nat) : Int) - 1)).toNat).toUInt8])))]) 0 ⟨Pers.t (Is.pers _), Pers.t (Is.pers _), Pers.t (Is.pers _), Pers.t (Is.pers _), Pers.t (Is.pers _), Pers.t (Is.pers _), Pers.t (Is.pers _), Pers.t (Is.pers _), Pers.t (Is.pers _), Pers.t (Is.pers _), Pers.t (Is.pers _), Pers.t (BytesV.pers _), .inl rfl, trivial⟩ i hi (by simpa using hz)) ?_ ?_
        · intro wz z0
          refine laws (n := 13) ⟨?_, ?_, ?_, ?_, ?_, ?_, ?_, ?_, ?_, ?_, ?_, ?_, ?_, trivial⟩
          · refine law_ne (by decide) (law_val rfl (by decide) fun lab430 w431 a432 hv433 s434 f435 d436 => ?_)
            exact ⟨_, _, _, _, f435, Does.move rfl, hv433, Stp.refl _ _, rfl⟩
          · refine law_ne (by decide) (law_val rfl (by decide) fun lab437 w438 a439 hv440 s441 f442 d443 => ?_)
            exact ⟨_, _, _, _, f442, Does.move rfl, hv440, Stp.refl _ _, rfl⟩
          · refine law_ne (by decide) (law_val rfl (by decide) fun lab444 w445 a446 hv447 s448 f449 d450 => ?_)
            obtain ⟨v451, e452, q453⟩ := d450 1 rfl 35 rfl
            replace q453 : (Is (.pointer (some ⟨wrb, 0, none⟩))) lab444 w445 v451 := q453
            replace q453 := Is.out q453; subst q453
            have f454 := f449.ext e452
            exact ⟨_, _, _, _, f454, Does.nilCheck rfl, hv447, Stp.refl _ _, rfl⟩
          · refine law_ne (by decide) (law_val rfl (by decide) fun lab455 w456 a457 hv458 s459 f460 d461 => ?_)
            obtain ⟨v462, e463, q464⟩ := d461 2 rfl 36 rfl
            replace q464 : (Is (.pointer (some ⟨wrb, 0, none⟩))) lab455 w456 v462 := q464
            replace q464 := Is.out q464; subst q464
            have f465 := f460.ext e463
            exact ⟨_, _, _, _, f465, Does.fieldAddr' 0 Try.underlying144 rfl ty22 rfl rfl, hv458, Stp.refl _ _, rfl⟩
          · refine law_ne (by decide) (law_val rfl (by decide) fun lab466 w467 a468 hv469 s470 f471 d472 => ?_)
            obtain ⟨v473, e474, q475⟩ := d472 3 rfl 37 rfl
            replace q475 : (Is (.pointer (some ⟨wrb, 0, none⟩))) lab466 w467 v473 := q475
            replace q475 := Is.out q475; subst q475
            have f476 := f471.ext e474
            have o477 := o425.lift (z0.trans s470) (by decide)
            exact ⟨_, _, _, _, f476, Does.load_own1 o477 ty22 rfl rfl, hv469, Stp.refl _ _, rfl⟩
          · refine law_ne (by decide) (law_val rfl (by decide) fun lab478 w479 a480 hv481 s482 f483 d484 => ?_)
            exact ⟨_, _, _, _, f483, Does.move rfl, hv481, Stp.refl _ _, rfl⟩
          · refine law_ne (by decide) (law_val rfl (by decide) fun lab485 w486 a487 hv488 s489 f490 d491 => ?_)
            obtain ⟨v492, e493, q494⟩ := d491 5 rfl 39 rfl
            replace q494 : (Is (i64 n)) lab485 w486 v492 := q494
            replace q494 := Is.out q494; subst q494
            have f495 := f490.ext e493
            exact ⟨_, _, _, _, f495, Does.conv_int Try.underlying3 Try.underlying62 rfl (wrap_i64_u64i _), hv488, Stp.refl _ _, rfl⟩
          · refine law_ne (by decide) (law_val rfl (by decide) fun lab496 w497 a498 hv499 s500 f501 d502 => ?_)
            exact ⟨_, _, _, _, f501, Does.move rfl, hv499, Stp.refl _ _, rfl⟩
          · refine law_ne (by decide) (law_val rfl (by decide) fun lab503 w504 a505 hv506 s507 f508 d509 => ?_)
            obtain ⟨v510, e511, q512⟩ := d509 7 rfl 41 rfl
            replace q512 : (Is (i64 (((j_422 : Nat) : Int) - 1))) lab503 w504 v510 := q512
            replace q512 := Is.out q512; subst q512
            have f513 := f508.ext e511
            exact ⟨_, _, _, _, f513, Does.mul rfl rfl (by first | omega | (simp <;> omega) | (simp at * <;> omega) | (simp [be_length] at * <;> omega)), hv506, Stp.refl _ _, rfl⟩
          · refine law_ne (by decide) (law_val rfl (by decide) fun lab514 w515 a516 hv517 s518 f519 d520 => ?_)
            obtain ⟨v521, e522, q523⟩ := d520 6 rfl 40 rfl
            replace q523 : (Is (u64 (u64i n))) lab514 w515 v521 := q523
            replace q523 := Is.out q523; subst q523
            have f524 := f519.ext e522
            obtain ⟨v525, e526, q527⟩ := d520 8 rfl 42 rfl
            replace q527 : (Is (i64 (8 * (((j_422 : Nat) : Int) - 1)))) lab514 w515 v525 := q527
            replace q527 := Is.out q527; subst q527
            have f528 := f524.ext e526
            exact ⟨_, _, _, _, f528, Does.u64_shr rfl rfl (by first | omega | (simp <;> omega) | (simp at * <;> omega) | (simp [be_length] at * <;> omega)) (by first | omega | (simp <;> omega) | (simp at * <;> omega) | (simp [be_length] at * <;> omega)), hv517, Stp.refl _ _, rfl⟩
          · refine law_ne (by decide) (law_val rfl (by decide) fun lab529 w530 a531 hv532 s533 f534 d535 => ?_)
            obtain ⟨v536, e537, q538⟩ := d535 9 rfl 43 rfl
            replace q538 : (Is (u64 ((u64i n) >>> UInt64.ofNat (8 * (((j_422 : Nat) : Int) - 1)).toNat))) lab529 w530 v536 := q538
            replace q538 := Is.out q538; subst q538
            have f539 := f534.ext e537
            exact ⟨_, _, _, _, f539, Does.conv_int Try.underlying62 Try.underlying5 rfl (wrap_u64_u8 _), hv532, Stp.refl _ _, rfl⟩
          · refine law_ne (by decide) (law_val rfl (by decide) fun lab540 w541 a542 hv543 s544 f545 d546 => ?_)
            obtain ⟨v547, e548, q549⟩ := d546 10 rfl 44 rfl
            replace q549 : (Is (u8 (((u64i n) >>> UInt64.ofNat (8 * (((j_422 : Nat) : Int) - 1)).toNat).toUInt8))) lab540 w541 v547 := q549
            replace q549 := Is.out q549; subst q549
            have f550 := f545.ext e548
            refine build_law [(0, u8 (((u64i n) >>> UInt64.ofNat (8 * (((j_422 : Nat) : Int) - 1)).toNat).toUInt8))] (List.map u8 [((u64i n) >>> UInt64.ofNat (8 * (((j_422 : Nat) : Int) - 1)).toNat).toUInt8]) hv543 Try.underlying22 ty5 (by decide) (by decide) rfl (by kernel_rfl) f550 ?_
            intro b551 w552 r554 s555
            exact ⟨_, _, rfl, Nat.le_refl _, Nat.le_of_ble_eq_true rfl, r554⟩
          · refine law_eq rfl (law_val rfl (by decide) fun lab557 w558 a559 hv560 s561 f562 d563 => ?_)
            obtain ⟨v564, e565, q566⟩ := d563 4 rfl 38 rfl
            replace q566 : (Is (.slice A426 (List.length (wr ++ List.take ((Int.toNat size) - j_422) (be (u64i n) (Int.toNat size)))) c427)) lab557 w558 v564 := q566
            replace q566 := Is.out q566; subst q566
            have f567 := f562.ext e565
            obtain ⟨v568, e569, q570⟩ := d563 11 rfl 45 rfl
            replace q570 : (BytesV ([((u64i n) >>> UInt64.ofNat (8 * (((j_422 : Nat) : Int) - 1)).toNat).toUInt8])) lab557 w558 v568 := q570
            obtain ⟨A571, c572, rfl⟩ := BytesV.shape q570
            have z573 := BytesV.cap q570
            have f574 := f567.ext e569
            have o575 := o424.lift (z0.trans s561) (by decide)
            refine append_law (k := 902) (List.map u8 ([((u64i n) >>> UInt64.ofNat (8 * (((j_422 : Nat) : Int) - 1)).toNat).toUInt8])) hv560 o575 Try.underlying22 ty5 rfl rfl rfl (by simp) (BytesV.row q570) oneCell_u8 (by first | omega | (simp <;> omega) | (simp at * <;> omega) | (simp [be_length] at * <;> omega)) (by first | omega | (simp <;> omega) | (simp at * <;> omega) | (simp [be_length] at * <;> omega)) f574 ?_
            intro lab578 w577 v576 o580
            rw [← List.map_append] at o580
            exact o580
        · skip
          intro lab583 w584 a585 hv586 s587 f588 hl589
          obtain ⟨v590, e591, q592⟩ := hl589 0 (by decide) 34 rfl
          replace q592 : (Is (.pointer (some ⟨wrb, 0, none⟩))) lab583 w584 v590 := q592
          replace q592 := Is.out q592; subst q592
          have f593 := f588.ext e591
          obtain ⟨v594, e595, q596⟩ := hl589 12 (by decide) 46 rfl
          replace q596 : (fun lab w v => App lab w 902 5 v (List.length (wr ++ List.take ((Int.toNat size) - j_422) (be (u64i n) (Int.toNat size))) + (List.length ([((u64i n) >>> UInt64.ofNat (8 * (((j_422 : Nat) : Int) - 1)).toNat).toUInt8]))) (List.map u8 (wr ++ List.take ((Int.toNat size) - j_422) (be (u64i n) (Int.toNat size)) ++ ([((u64i n) >>> UInt64.ofNat (8 * (((j_422 : Nat) : Int) - 1)).toNat).toUInt8])))) lab583 w584 v594 := q596
          obtain ⟨A597, c598, rfl⟩ := App.shape q596
          have m599 : List.length (wr ++ List.take ((Int.toNat size) - j_422) (be (u64i n) (Int.toNat size)) ++ ([((u64i n) >>> UInt64.ofNat (8 * (((j_422 : Nat) : Int) - 1)).toNat).toUInt8])) = List.length (wr ++ List.take ((Int.toNat size) - j_422) (be (u64i n) (Int.toNat size))) + (List.length ([((u64i n) >>> UInt64.ofNat (8 * (((j_422 : Nat) : Int) - 1)).toNat).toUInt8])) := App.lenMap q596
          have z600 := (App.row q596).2
          have f601 := f593.ext e595
          refine Seq.start (m := 13) f601 ?_
          refine Seq.val (Does.nilCheck rfl) (by decide) ?_
          refine Seq.val (Does.fieldAddr' 0 Try.underlying144 rfl ty22 rfl rfl) (by decide) ?_
          have o602 := o425.lift s587 (by decide)
          refine Seq.store [.slice A597 (List.length (wr ++ List.take ((Int.toNat size) - j_422) (be (u64i n) (Int.toNat size))) + (List.length ([((u64i n) >>> UInt64.ofNat (8 * (((j_422 : Nat) : Int) - 1)).toNat).toUInt8]))) c598, .bool (decide ((most : Int) < (n : Int)))] hv586 o602 ty22 rfl rfl rfl (Nat.le_of_ble_eq_true rfl) rfl rfl ?_
          intro w603 o604 s605 hv606
          refine Seq.go (fun _ _ h => h) ?_
          refine Run.region ?_
          refine Seq.val (Does.move rfl) (by decide) ?_
          refine Seq.val (Does.sub rfl rfl (by first | omega | (simp <;> omega) | (simp at * <;> omega) | (simp [be_length] at * <;> omega))) (by decide) ?_
          refine Seq.val (Does.assign rfl) (by decide) ?_
          have o607 := q596.lift s605 (by decide)
          have c608 := s587.trans s605
          have c609 := s421.trans c608
          exact Seq.nil (fun a610 h611 => ⟨_, by omega, _, h611.weaken (subs_lk (l' := [(10, i64 ((((j_422 - 1) : Nat) : Int) - 1)), (0, .pointer (some ⟨wrb, 0, none⟩)), (1, i64 n), (2, i64 least), (3, i64 most), (4, i64 size), (11, .pointer (some ⟨wrb, 0, none⟩)), (12, .pointer (some ⟨wrb, 0, none⟩)), (13, .pointer (some ⟨wrb, 0, none⟩)), (14, .pointer (some ⟨wrb, 1, none⟩)), (15, .bool wrbad), (16, .bool wrbad), (17, i64 n), (18, i64 least), (19, .bool (decide ((n : Int) < (least : Int)))), (20, .bool (decide ((n : Int) < (least : Int)))), (21, .bool (decide ((n : Int) < (least : Int)))), (22, i64 n), (23, i64 most), (24, .bool (decide ((most : Int) < (n : Int)))), (25, .bool (decide ((most : Int) < (n : Int)))), (26, .pointer (some ⟨wrb, 0, none⟩)), (27, .pointer (some ⟨wrb, 1, none⟩)), (28, i64 size), (29, i64 (size - 1))]) ⟨(congrArg (fun z => some (i64 z)) (show ((((j_422 : Nat) : Int) - 1) - 1 : Int) = (((j_422 - 1) : Nat) : Int) - 1 from by first | rfl | omega | (simp; done) | (simp <;> omega) | (simp [be_length] <;> omega))), rfl, rfl, rfl, rfl, rfl, rfl, rfl, rfl, rfl, rfl, rfl, rfl, rfl, rfl, rfl, rfl, rfl, rfl, rfl, rfl, rfl, rfl, rfl, rfl, trivial⟩), ⟨j_422 - 1, lab583, (.slice A597 (List.length (wr ++ List.take ((Int.toNat size) - j_422) (be (u64i n) (Int.toNat size))) + (List.length ([((u64i n) >>> UInt64.ofNat (8 * (((j_422 : Nat) : Int) - 1)).toNat).toUInt8]))) c598), rfl, rfl, hv606, (c609.more (by decide)), (appCast (show wr ++ List.take ((Int.toNat size) - j_422) (be (u64i n) (Int.toNat size)) ++ ([((u64i n) >>> UInt64.ofNat (8 * (((j_422 : Nat) : Int) - 1)).toNat).toUInt8]) = wr ++ List.take ((Int.toNat size) - (j_422 - 1)) (be (u64i n) (Int.toNat size)) from by first | (simp; done) | (rw [List.append_assoc]; exact congrArg (wr ++ ·) (be_step (by omega) (by omega)))) (show List.length (wr ++ List.take ((Int.toNat size) - j_422) (be (u64i n) (Int.toNat size))) + (List.length ([((u64i n) >>> UInt64.ofNat (8 * (((j_422 : Nat) : Int) - 1)).toNat).toUInt8])) = List.length (wr ++ List.take ((Int.toNat size) - (j_422 - 1)) (be (u64i n) (Int.toNat size))) from by first | rfl | omega | (simp; done) | (simp <;> omega) | (simp [be_length] <;> omega)) o607), o604, (by first | omega | (simp at *; omega))⟩⟩)
      · skip
        have hp3 := of_decide_eq_false hc3
        refine Run.cond_b rfl hc3 ?_
        have c612 := s412.trans s421
        refine Run.exit ?_
        exact post_none Try.results87  ⟨_, rfl, _, rfl, (Wr.cast (show wr ++ List.take ((Int.toNat size) - j_422) (be (u64i n) (Int.toNat size)) = (wr ++ be (u64i n) (Int.toNat size)) from by first | rfl | (congr 1; rw [List.take_of_length_le (by rw [be_length]; omega)]; done) | (simp [out_, *]; done; done) | (simp_all [out_]; done; done) | (simp_all [out_]; omega; done) | (simp_all; done) | omega) (show (decide ((most : Int) < (n : Int))) = (wrbad || out_ n least most) from by first | rfl | (congr 1; rw [List.take_of_length_le (by rw [be_length]; omega)]; done) | (simp [out_, *]; done; done) | (simp_all [out_]; done; done) | (simp_all [out_]; omega; done) | (simp_all; done) | omega) (Wr.mk o425 o424)), c612.more (by decide), hv420⟩

theorem wire_text {lab : Lab} {w : World} (hv : Valid lab w) {wrb : Nat} {wr : List UInt8} {wrbad : Bool} (hW : Wr 144 5 lab w wrb wr wrbad) {t : List UInt8} {v1 : Value} (h1 : BytesV t lab w v1) {most : Int} (hm : 0 ≤ most ∧ most ≤ 10000) (hw : List.length wr ≤ 900000) :
    Calls Try.prog 88 #[.pointer (some ⟨wrb, 0, none⟩), v1, i64 most] w (Wrote 144 5 lab w wrb (Is (.tuple #[])) (wr ++ textOr t most) (wrbad || decide (most < (List.length t : Int)))) := by
  obtain ⟨vW, oW, aW⟩ := hW
  obtain ⟨A1, c2, rfl⟩ := App.shape aW
  have m3 : List.length wr = List.length wr := App.lenMap aW
  have z4 := (App.row aW).2
  obtain ⟨A5, c6, rfl⟩ := BytesV.shape h1
  have z7 := BytesV.cap h1
  refine calls_run Try.func88 rfl Try.ntmps88 (Nat.le_of_ble_eq_true rfl) ?_
  refine Run.seq ?_
  refine Run.seq ?_
  refine Run.region ?_
  refine Seq.val (Does.move rfl) (by decide) ?_
  refine Seq.val (Does.len Try.underlying22 rfl) (by decide) ?_
  refine Seq.val (Does.move rfl) (by decide) ?_
  refine Seq.val (Does.gtr rfl rfl) (by decide) ?_
  refine Seq.go (fun _ _ h => h) ?_
  rcases bdich (decide ((most : Int) < (((List.length t : Nat) : Int) : Int))) with hc1 | hc1
  · skip
    have hp1 := of_decide_eq_true hc1
    refine Run.cond_b rfl hc1 ?_
    refine Run.seq ?_
    refine Run.region ?_
    refine Seq.val (Does.move rfl) (by decide) ?_
    refine Seq.val (Does.nilCheck rfl) (by decide) ?_
    refine Seq.val (Does.fieldAddr' 1 Try.underlying144 rfl ty4 rfl rfl) (by decide) ?_
    refine Seq.store [.slice A1 (List.length wr) c2, .bool true] hv oW ty4 rfl rfl rfl (Nat.le_of_ble_eq_true rfl) rfl rfl ?_
    intro w8 o9 s10 hv11
    refine Seq.go (fun _ _ h => h) ?_
    have o12 := aW.lift s10 (by decide)
    refine Run.ret (ret_then ?_)
    exact post_none Try.results88  ⟨_, rfl, _, rfl, (Wr.cast (show wr = (wr ++ textOr t most) from by first | rfl | (simp [textOr, hp1]; done; done) | (rw [textOr, if_neg (by omega), textB]; simp; done; done) | (simp [out_]; omega; done) | (simp_all [out_]; done; done) | (simp_all [out_]; omega; done) | (simp_all; done) | omega) (show true = (wrbad || decide (most < (List.length t : Int))) from by first | rfl | (simp [textOr, hp1]; done; done) | (rw [textOr, if_neg (by omega), textB]; simp; done; done) | (simp [out_]; omega; done) | (simp_all [out_]; done; done) | (simp_all [out_]; omega; done) | (simp_all; done) | omega) (Wr.mk o9 o12)), s10.more (by decide), hv11⟩
  · skip
    have hp1 := of_decide_eq_false hc1
    refine Run.cond_b rfl hc1 ?_
    refine Run.skip_go (fun _ _ h => h) ?_
    refine Run.seq ?_
    refine Run.region ?_
    refine Seq.val (Does.move rfl) (by decide) ?_
    refine Seq.val (Does.move rfl) (by decide) ?_
    refine Seq.val (Does.len Try.underlying22 rfl) (by decide) ?_
    refine Seq.val (Does.move rfl) (by decide) ?_
    refine Seq.callW (V := Is (.tuple #[])) (bs := wr ++ be (u64i ((List.length t : Nat) : Int)) (Int.toNat 2)) (bad := wrbad || out_ ((List.length t : Nat) : Int) 0 most) cal87 rfl (by decide) (wire_num hv (n := ((List.length t : Nat) : Int)) (least := 0) (most := most) (size := 2) (wr := wr) (wrbad := wrbad) (wrb := wrb) (Wr.mk oW aW) (show 0 ≤ 2 ∧ 2 ≤ 8 from by first | assumption | omega | (simp [be_length, textB, textOr] at * <;> omega) | (simp_all; done)) (show List.length wr ≤ 1000000 from by first | assumption | omega | (simp [be_length, textB, textOr] at * <;> omega) | (simp_all; done))) ?_
    intro lab18 w19 v20 v21 q22 o23 o24 s25 hv26
    obtain ⟨A27, c28, rfl⟩ := App.shape o24
    have m29 : List.length (wr ++ be (u64i ((List.length t : Nat) : Int)) (Int.toNat 2)) = List.length (wr ++ be (u64i ((List.length t : Nat) : Int)) (Int.toNat 2)) := App.lenMap o24
    have z30 := (App.row o24).2
    have q22 := Is.out q22; subst q22
    refine Seq.go (fun _ _ h => h) ?_
    refine Run.region ?_
    refine Seq.val (Does.move rfl) (by decide) ?_
    refine Seq.val (Does.move rfl) (by decide) ?_
    refine Seq.val (Does.nilCheck rfl) (by decide) ?_
    refine Seq.val (Does.fieldAddr' 0 Try.underlying144 rfl ty22 rfl rfl) (by decide) ?_
    refine Seq.val (Does.load_own1 o23 ty22 rfl rfl) (by decide) ?_
    refine Seq.val (Does.move rfl) (by decide) ?_
    have q31 := (BytesV.pers _).step s25 h1
    refine Seq.append (k := 902) (List.map u8 t) hv26 o24 Try.underlying22 ty5 rfl rfl rfl (by simp) (BytesV.row q31) oneCell_u8 (by first | omega | (simp <;> omega) | (simp at * <;> omega) | (simp [be_length] at * <;> omega)) (by first | omega | (simp <;> omega) | (simp at * <;> omega) | (simp [be_length] at * <;> omega)) (by decide) ?_
    intro lab32 w33 v34 o35 s36 hv37
    rw [← List.map_append] at o35
    obtain ⟨A38, c39, rfl⟩ := App.shape o35
    have m40 : List.length (wr ++ be (u64i ((List.length t : Nat) : Int)) (Int.toNat 2) ++ t) = List.length (wr ++ be (u64i ((List.length t : Nat) : Int)) (Int.toNat 2)) + (List.length t) := App.lenMap o35
    have z41 := (App.row o35).2
    refine Seq.val (Does.nilCheck rfl) (by decide) ?_
    refine Seq.val (Does.fieldAddr' 0 Try.underlying144 rfl ty22 rfl rfl) (by decide) ?_
    have o42 := o23.lift s36 (by decide)
    refine Seq.store [.slice A38 (List.length (wr ++ be (u64i ((List.length t : Nat) : Int)) (Int.toNat 2)) + (List.length t)) c39, .bool (wrbad || out_ ((List.length t : Nat) : Int) 0 most)] hv37 o42 ty22 rfl rfl rfl (Nat.le_of_ble_eq_true rfl) rfl rfl ?_
    intro w43 o44 s45 hv46
    have o47 := o35.lift s45 (by decide)
    have c48 := s36.trans s45
    have c49 := s25.trans c48
    refine Seq.nil ?_
    exact post_none Try.results88  ⟨_, rfl, _, rfl, (Wr.cast (show wr ++ be (u64i ((List.length t : Nat) : Int)) (Int.toNat 2) ++ t = (wr ++ textOr t most) from by first | rfl | (simp [textOr, hp1]; done; done) | (rw [textOr, if_neg (by omega), textB]; simp; done; done) | (simp [out_]; omega; done) | (simp_all [out_]; done; done) | (simp_all [out_]; omega; done) | (simp_all; done) | omega) (show (wrbad || out_ ((List.length t : Nat) : Int) 0 most) = (wrbad || decide (most < (List.length t : Int))) from by first | rfl | (simp [textOr, hp1]; done; done) | (rw [textOr, if_neg (by omega), textB]; simp; done; done) | (simp [out_]; omega; done) | (simp_all [out_]; done; done) | (simp_all [out_]; omega; done) | (simp_all; done) | omega) (Wr.mk o44 o47)), c49.more (by decide), hv46⟩

theorem ref17_in {lab : Lab} {w : World} (hv : Valid lab w) {n : Int} {least : Int} {most : Int} :
    Calls Try.prog 89 #[i64 n, i64 least, i64 most] w (fun e w' => ∃ v, e = .returned v ∧ (Is (.bool (!(out_ n least most)))) lab w' v ∧ Below w.heap.size w w') := by
  have hv0 := hv.ent
  obtain ⟨zU0, z00⟩ := ent_step lab w
  refine calls_run Try.func89 rfl Try.ntmps89 (Nat.le_of_ble_eq_true rfl) ?_
  refine Run.seq ?_
  refine Run.region ?_
  refine Seq.val (Does.assign rfl) (by decide) ?_
  refine Seq.go (fun _ _ h => h) ?_
  refine Run.seq ?_
  refine Run.region ?_
  refine Seq.val (Does.move rfl) (by decide) ?_
  refine Seq.val (Does.move rfl) (by decide) ?_
  refine Seq.val (Does.leq rfl rfl) (by decide) ?_
  refine Seq.val (Does.move rfl) (by decide) ?_
  rcases bdich (decide ((least : Int) ≤ (n : Int))) with hc1 | hc1
  · skip
    have hp1 := of_decide_eq_true hc1
    refine Seq.guard_on' rfl rfl hc1 ?_
    refine Seq.val (Does.move rfl) (by decide) ?_
    refine Seq.guard_on' rfl rfl hc1 ?_
    refine Seq.val (Does.move rfl) (by decide) ?_
    refine Seq.guard_on' rfl rfl hc1 ?_
    refine Seq.val (Does.leq rfl rfl) (by decide) ?_
    refine Seq.val (Does.pick_b rfl hc1 rfl) (by decide) ?_
    refine Seq.val (Does.assign rfl) (by decide) ?_
    refine Seq.go (fun _ _ h => h) ?_
    have z9 := Stp.refl (ent lab) w
    obtain ⟨zU, zo⟩ := z9.out (by decide) hv
    refine Run.ret ?_
    exact post_one Try.results89 rfl ⟨_, rfl, (isBool (show ((decide ((n : Int) ≤ (most : Int))) : Bool) = (!(out_ n least most)) from by first | rfl | (unfold out_; rw [Bool.eq_iff_iff]; simp; omega; done) | (simp_all; done) | omega) _ _), z9.leave (by decide)⟩
  · skip
    have hp1 := of_decide_eq_false hc1
    refine Seq.guard_off' rfl rfl hc1 rfl (by decide) ?_
    refine Seq.guard_off' rfl rfl hc1 rfl (by decide) ?_
    refine Seq.guard_off' rfl rfl hc1 rfl (by decide) ?_
    refine Seq.val (Does.pick_b rfl hc1 rfl) (by decide) ?_
    refine Seq.val (Does.assign rfl) (by decide) ?_
    refine Seq.go (fun _ _ h => h) ?_
    have z9 := Stp.refl (ent lab) w
    obtain ⟨zU, zo⟩ := z9.out (by decide) hv
    refine Run.ret ?_
    exact post_one Try.results89 rfl ⟨_, rfl, (isBool (show (false : Bool) = (!(out_ n least most)) from by first | rfl | (unfold out_; rw [Bool.eq_iff_iff]; simp; omega; done) | (simp_all; done) | omega) _ _), z9.leave (by decide)⟩

theorem ref17_four {lab : Lab} {w : World} (hv : Valid lab w) {n : Int} (h0 : 0 ≤ n ∧ n < 4294967296) :
    Calls Try.prog 91 #[i64 n] w (fun e w' => ∃ v, e = .returned v ∧ (BytesV (four n)) lab w' v ∧ Below w.heap.size w w') := by
  have hv0 := hv.ent
  obtain ⟨zU0, z00⟩ := ent_step lab w
  refine calls_run Try.func91 rfl Try.ntmps91 (Nat.le_of_ble_eq_true rfl) ?_
  refine Run.seq ?_
  refine Run.region ?_
  refine Seq.val (Does.assign rfl) (by decide) ?_
  refine Seq.go (fun _ _ h => h) ?_
  refine Run.seq ?_
  refine Run.region ?_
  refine Seq.val (Does.move rfl) (by decide) ?_
  refine Seq.val (Does.quo rfl rfl (by first | omega | (simp; omega) | (simp at *; omega)) (by first | omega | (simp; omega) | (simp at *; omega)) (by first | omega | (simp; omega) | (simp at *; omega))) (by decide) ?_
  refine Seq.val (Does.conv_int Try.underlying3 Try.underlying5 rfl ((wrap_i64_u8 _ (by first | omega | (simp; omega) | (simp at *; omega))))) (by decide) ?_
  refine Seq.val (Does.move rfl) (by decide) ?_
  refine Seq.val (Does.quo rfl rfl (by first | omega | (simp; omega) | (simp at *; omega)) (by first | omega | (simp; omega) | (simp at *; omega)) (by first | omega | (simp; omega) | (simp at *; omega))) (by decide) ?_
  refine Seq.val (Does.rem rfl rfl (by first | omega | (simp; omega) | (simp at *; omega)) (by first | omega | (simp; omega) | (simp at *; omega))) (by decide) ?_
  refine Seq.val (Does.conv_int Try.underlying3 Try.underlying5 rfl ((wrap_i64_u8 _ (by first | omega | (simp; omega) | (simp at *; omega))))) (by decide) ?_
  refine Seq.val (Does.move rfl) (by decide) ?_
  refine Seq.val (Does.quo rfl rfl (by first | omega | (simp; omega) | (simp at *; omega)) (by first | omega | (simp; omega) | (simp at *; omega)) (by first | omega | (simp; omega) | (simp at *; omega))) (by decide) ?_
  refine Seq.val (Does.rem rfl rfl (by first | omega | (simp; omega) | (simp at *; omega)) (by first | omega | (simp; omega) | (simp at *; omega))) (by decide) ?_
  refine Seq.val (Does.conv_int Try.underlying3 Try.underlying5 rfl ((wrap_i64_u8 _ (by first | omega | (simp; omega) | (simp at *; omega))))) (by decide) ?_
  refine Seq.val (Does.move rfl) (by decide) ?_
  refine Seq.val (Does.rem rfl rfl (by first | omega | (simp; omega) | (simp at *; omega)) (by first | omega | (simp; omega) | (simp at *; omega))) (by decide) ?_
  refine Seq.val (Does.conv_int Try.underlying3 Try.underlying5 rfl ((wrap_i64_u8 _ (by first | omega | (simp; omega) | (simp at *; omega))))) (by decide) ?_
  refine Seq.build_row [(0, u8 (UInt8.ofNat (n / 16777216).toNat)), (1, u8 (UInt8.ofNat ((n / 65536) % 256).toNat)), (2, u8 (UInt8.ofNat ((n / 256) % 256).toNat)), (3, u8 (UInt8.ofNat (n % 256).toNat))] (List.map u8 [UInt8.ofNat (n / 16777216).toNat, UInt8.ofNat ((n / 65536) % 256).toNat, UInt8.ofNat ((n / 256) % 256).toNat, UInt8.ofNat (n % 256).toNat]) hv0 Try.underlying22 ty5 (by decide) (by decide) rfl (by kernel_rfl) (by decide) ?_
  intro w1 b2 r3 s4 hv5
  have q6 : BytesV [UInt8.ofNat (n / 16777216).toNat, UInt8.ofNat ((n / 65536) % 256).toNat, UInt8.ofNat ((n / 256) % 256).toNat, UInt8.ofNat (n % 256).toNat] (ent lab) w1 (.slice (some ⟨b2, 0, none⟩) 4 4) := ⟨_, _, rfl, Nat.le_refl _, Nat.le_of_ble_eq_true rfl, r3⟩
  refine Seq.val (Does.assign rfl) (by decide) ?_
  refine Seq.go (fun _ _ h => h) ?_
  obtain ⟨zU, zo⟩ := s4.out (by decide) hv
  refine Run.ret ?_
  exact post_one Try.results91 rfl ⟨_, rfl, (BytesV.cast (show ([UInt8.ofNat (n / 16777216).toNat, UInt8.ofNat ((n / 65536) % 256).toNat, UInt8.ofNat ((n / 256) % 256).toNat, UInt8.ofNat (n % 256).toNat]) = (four n) from by first | rfl | (simp_all; done) | omega | (simp_all; omega)) ((BytesV.pers _).step zo q6)), s4.leave (by decide)⟩

theorem ref04_Join {lab : Lab} {w : World} (hv : Valid lab w) {l : List (List UInt8)} {v0 : Value} (h0 : RowsV l lab w v0) (hl : List.length (List.flatten l) ≤ 1000000) :
    Calls Try.prog 90 #[v0] w (fun e w' => ∃ v, e = .returned v ∧ (BytesV (List.flatten l)) lab w' v ∧ Below w.heap.size w w') := by
  have hv0 := hv.ent
  obtain ⟨zU0, z00⟩ := ent_step lab w
  replace h0 := (RowsV.pers _).step z00 h0
  obtain ⟨A1, c2, rfl⟩ := RowsV.shape h0
  have z3 := RowsV.cap h0
  refine calls_run Try.func90 rfl Try.ntmps90 (Nat.le_of_ble_eq_true rfl) ?_
  refine Run.seq ?_
  refine Run.region ?_
  refine Seq.val (Does.assign rfl) (by decide) ?_
  refine Seq.go (fun _ _ h => h) ?_
  refine Run.seq ?_
  refine Run.region ?_
  refine Seq.build_empty (k := 7) hv0 Try.underlying22 ty5 (by decide) ?_
  intro lab4 w5 v6 o7 s8 hv9
  obtain ⟨A10, c11, rfl⟩ := App.shape o7
  have z13 := (App.row o7).2
  refine Seq.val (Does.assign rfl) (by decide) ?_
  refine Seq.go (fun _ _ h => h) ?_
  refine Run.seq ?_
  refine Run.seq ?_
  refine Run.region ?_
  refine Seq.val (Does.move rfl) (by decide) ?_
  refine Seq.val (Does.len Try.underlying34 rfl) (by decide) ?_
  refine Seq.val (Does.move rfl) (by decide) ?_
  refine Seq.go (fun _ _ h => h) ?_
  refine Run.block ?_
  refine Run.loop (fun m' l' w' => ∃ (k : Nat) (lab' : Lab) (ux7 : Value), m' = List.length l - k ∧ l' = [(9, i64 ((k : Nat) : Int)), (3, ux7), (0, .slice A1 (List.length l) c2), (2, .slice none 0 0), (7, .slice A1 (List.length l) c2), (8, i64 ((List.length l : Nat) : Int))] ∧ Valid lab' w' ∧ Stp [7] lab4 w5 lab' w' ∧ App lab' w' 7 5 ux7 (List.length (List.flatten (List.take k l))) (List.map u8 (List.flatten (List.take k l))) ∧ (k ≤ List.length l)) (List.length l - 0) (l0 := [(9, i64 ((0 : Nat) : Int)), (3, .slice A10 (0) c11), (0, .slice A1 (List.length l) c2), (2, .slice none 0 0), (7, .slice A1 (List.length l) c2), (8, i64 ((List.length l : Nat) : Int))]) ⟨(congrArg (fun z => some (i64 z)) (show (0 : Int) = ((0 : Nat) : Int) from by first | rfl | omega | (simp; done) | (simp <;> omega) | (have := flatten_take_succ l k (by omega); simp [← this]; done))), rfl, rfl, rfl, rfl, rfl, trivial⟩ ⟨0, lab4, (.slice A10 (0) c11), rfl, rfl, hv9, ((Stp.refl _ _).more (by simp)), (appCast (show [] = List.flatten (List.take 0 l) from by first | rfl | (simp; done) | (exact flatten_take_succ l k (by omega)) | (exact flatten_take_succ l _ (by omega))) (show 0 = List.length (List.flatten (List.take 0 l)) from by first | rfl | omega | (simp; done) | (simp <;> omega) | (have := flatten_take_succ l k (by omega); simp [← this]; done)) o7), (by first | omega | (simp at *; omega))⟩ ?_
  intro m14 l15 w16 H17
  obtain ⟨k, lab18, v21, hzm, rfl, hv19, s20, o22, hk⟩ := H17
  replace hzm := hzm.symm; subst hzm
  obtain ⟨A23, c24, rfl⟩ := App.shape o22
  have m25 : List.length (List.flatten (List.take k l)) = List.length (List.flatten (List.take k l)) := App.lenMap o22
  have z26 := (App.row o22).2
  have hb := flatten_take_lt l k
  refine Run.seq ?_
  refine Run.region ?_
  refine Seq.val (Does.lss rfl rfl) (by decide) ?_
  refine Seq.go (fun _ _ h => h) ?_
  refine Run.seq ?_
  rcases bdich (decide ((((k : Nat) : Int) : Int) < (((List.length l : Nat) : Int) : Int))) with hc1 | hc1
  · skip
    have hp1 := of_decide_eq_true hc1
    refine Run.cond_b rfl hc1 ?_
    refine Run.skip_go (fun _ _ h => h) ?_
    refine Run.seq ?_
    refine Run.block ?_
    refine Run.seq ?_
    refine Run.region ?_
    have c34 := s8.trans s20
    have q33 := (RowsV.pers _).step c34 h0
    obtain ⟨vs27, u28, m29, r30, q31, q32⟩ := RowsV.at_ q33 k (by first | omega | (simp; done) | (have := hb (by omega); omega) | (have := hb (by omega); simp at * <;> omega) | (simp at * <;> omega))
    obtain ⟨A35, c36, rfl⟩ := BytesV.shape q32
    have z37 := BytesV.cap q32
    refine Seq.val (Does.index_row k Try.underlying34 ty22 rfl rfl r30 m29 (by first | omega | (simp; done) | (have := hb (by omega); omega) | (have := hb (by omega); simp at * <;> omega) | (simp at * <;> omega)) (by first | omega | (simp; done) | (have := hb (by omega); omega) | (have := hb (by omega); simp at * <;> omega) | (simp at * <;> omega))) (by decide) ?_
    refine Seq.val (Does.load_row ty22 rfl r30 q31) (by decide) ?_
    refine Seq.val (Does.assign rfl) (by decide) ?_
    refine Seq.go (fun _ _ h => h) ?_
    refine Run.region ?_
    refine Seq.val (Does.move rfl) (by decide) ?_
    refine Seq.val (Does.move rfl) (by decide) ?_
    refine Seq.append (k := 7) (List.map u8 (List.getD l k [])) hv19 o22 Try.underlying22 ty5 rfl rfl rfl (by simp) (BytesV.row q32) oneCell_u8 (by first | omega | (simp; done) | (have := hb (by omega); omega) | (have := hb (by omega); simp at * <;> omega) | (simp at * <;> omega)) (by first | omega | (simp; done) | (have := hb (by omega); omega) | (have := hb (by omega); simp at * <;> omega) | (simp at * <;> omega)) (by decide) ?_
    intro lab38 w39 v40 o41 s42 hv43
    rw [← List.map_append] at o41
    obtain ⟨A44, c45, rfl⟩ := App.shape o41
    have m46 : List.length (List.flatten (List.take k l) ++ (List.getD l k [])) = List.length (List.flatten (List.take k l)) + (List.length (List.getD l k [])) := App.lenMap o41
    have z47 := (App.row o41).2
    refine Seq.val (Does.assign rfl) (by decide) ?_
    refine Seq.go (fun _ _ h => h) ?_
    refine Run.region ?_
    refine Seq.val (Does.add rfl rfl (by first | omega | (simp; done) | (have := hb (by omega); omega) | (have := hb (by omega); simp at * <;> omega) | (simp at * <;> omega))) (by decide) ?_
    refine Seq.val (Does.move rfl) (by decide) ?_
    have c48 := s20.trans s42
    exact Seq.nil (fun a49 h50 => ⟨_, by omega, _, h50.weaken (subs_lk (l' := [(9, i64 (((k + 1) : Nat) : Int)), (3, .slice A44 (List.length (List.flatten (List.take k l)) + (List.length (List.getD l k []))) c45), (0, .slice A1 (List.length l) c2), (2, .slice none 0 0), (7, .slice A1 (List.length l) c2), (8, i64 ((List.length l : Nat) : Int))]) ⟨(congrArg (fun z => some (i64 z)) (show (((k : Nat) : Int) + 1 : Int) = (((k + 1) : Nat) : Int) from by first | rfl | omega | (simp; done) | (simp <;> omega) | (have := flatten_take_succ l k (by omega); simp [← this]; done))), rfl, rfl, rfl, rfl, rfl, trivial⟩), ⟨k + 1, lab38, (.slice A44 (List.length (List.flatten (List.take k l)) + (List.length (List.getD l k []))) c45), rfl, rfl, hv43, (c48.more (by decide)), (appCast (show List.flatten (List.take k l) ++ (List.getD l k []) = List.flatten (List.take (k + 1) l) from by first | rfl | (simp; done) | (exact flatten_take_succ l k (by omega)) | (exact flatten_take_succ l _ (by omega))) (show List.length (List.flatten (List.take k l)) + (List.length (List.getD l k [])) = List.length (List.flatten (List.take (k + 1) l)) from by first | rfl | omega | (simp; done) | (simp <;> omega) | (have := flatten_take_succ l k (by omega); simp [← this]; done)) o41), (by first | omega | (simp at *; omega))⟩⟩)
  · skip
    have hp1 := of_decide_eq_false hc1
    refine Run.cond_b rfl hc1 ?_
    refine Run.exit_go (fun _ _ h => h) ?_
    refine Run.seq ?_
    refine Run.region ?_
    refine Seq.val (Does.move rfl) (by decide) ?_
    refine Seq.val (Does.assign rfl) (by decide) ?_
    refine Seq.go (fun _ _ h => h) ?_
    have c51 := s8.trans s20
    obtain ⟨zU, zo⟩ := c51.out (by decide) hv
    have hv52 := Valid.release hv19 7
    have m54 : List.length (List.flatten (List.take k l)) = List.length (List.flatten (List.take k l)) := App.lenMap o22
    have q53 : BytesV (List.flatten (List.take k l)) (labFree lab18 7) w16 (.slice A23 (List.length (List.flatten (List.take k l))) c24) := ⟨_, _, (by first | (rw [m54]; done) | rw [← m54]), (by have h9 := (App.row o22).2.1; first | (rw [m54]; exact h9) | (rw [← m54] at h9; exact h9)), (App.row o22).2.2, (App.row o22).1⟩
    have c55 := c51.trans (Stp.release (lab := lab18) (w := w16) 7)
    obtain ⟨zU, zo⟩ := c55.out (by decide) hv
    refine Run.ret ?_
    exact post_one Try.results90 rfl ⟨_, rfl, (BytesV.cast (show (List.flatten (List.take k l)) = (List.flatten l) from by first | rfl | (rw [List.take_of_length_le (by omega)]; done) | (simp_all; done) | omega) ((BytesV.pers _).step zo q53)), c55.leave (by decide)⟩

theorem ref17_text {lab : Lab} {w : World} (hv : Valid lab w) {b : List UInt8} {v0 : Value} (h0 : BytesV b lab w v0) (hl : List.length b ≤ 60000) :
    Calls Try.prog 92 #[v0] w (fun e w' => ∃ v, e = .returned v ∧ (BytesV (textB b)) lab w' v ∧ Below w.heap.size w w') := by
  have hv0 := hv.ent
  obtain ⟨zU0, z00⟩ := ent_step lab w
  replace h0 := (BytesV.pers _).step z00 h0
  obtain ⟨A1, c2, rfl⟩ := BytesV.shape h0
  have z3 := BytesV.cap h0
  refine calls_run Try.func92 rfl Try.ntmps92 (Nat.le_of_ble_eq_true rfl) ?_
  refine Run.seq ?_
  refine Run.region ?_
  refine Seq.val (Does.assign rfl) (by decide) ?_
  refine Seq.go (fun _ _ h => h) ?_
  refine Run.seq ?_
  refine Run.region ?_
  refine Seq.val (Does.move rfl) (by decide) ?_
  refine Seq.val (Does.len Try.underlying22 rfl) (by decide) ?_
  refine Seq.val (Does.quo rfl rfl (by first | omega | (simp <;> omega) | (simp at * <;> omega) | (simp [be_length] at * <;> omega)) (by first | omega | (simp <;> omega) | (simp at * <;> omega) | (simp [be_length] at * <;> omega)) (by first | omega | (simp <;> omega) | (simp at * <;> omega) | (simp [be_length] at * <;> omega))) (by decide) ?_
  refine Seq.val (Does.conv_int Try.underlying3 Try.underlying5 rfl ((wrap_i64_u8 _ (by first | omega | (simp <;> omega) | (simp at * <;> omega) | (simp [be_length] at * <;> omega))))) (by decide) ?_
  refine Seq.val (Does.move rfl) (by decide) ?_
  refine Seq.val (Does.len Try.underlying22 rfl) (by decide) ?_
  refine Seq.val (Does.rem rfl rfl (by first | omega | (simp <;> omega) | (simp at * <;> omega) | (simp [be_length] at * <;> omega)) (by first | omega | (simp <;> omega) | (simp at * <;> omega) | (simp [be_length] at * <;> omega))) (by decide) ?_
  refine Seq.val (Does.conv_int Try.underlying3 Try.underlying5 rfl ((wrap_i64_u8 _ (by first | omega | (simp <;> omega) | (simp at * <;> omega) | (simp [be_length] at * <;> omega))))) (by decide) ?_
  refine Seq.build_row [(0, u8 (UInt8.ofNat (((List.length b : Nat) : Int) / 256).toNat)), (1, u8 (UInt8.ofNat (((List.length b : Nat) : Int) % 256).toNat))] (List.map u8 [UInt8.ofNat (((List.length b : Nat) : Int) / 256).toNat, UInt8.ofNat (((List.length b : Nat) : Int) % 256).toNat]) hv0 Try.underlying22 ty5 (by decide) (by decide) rfl (by kernel_rfl) (by decide) ?_
  intro w4 b5 r6 s7 hv8
  have q9 : BytesV [UInt8.ofNat (((List.length b : Nat) : Int) / 256).toNat, UInt8.ofNat (((List.length b : Nat) : Int) % 256).toNat] (ent lab) w4 (.slice (some ⟨b5, 0, none⟩) 2 2) := ⟨_, _, rfl, Nat.le_refl _, Nat.le_of_ble_eq_true rfl, r6⟩
  refine Seq.val (Does.move rfl) (by decide) ?_
  refine Seq.build_row [(0, .slice (some ⟨b5, 0, none⟩) 2 2), (1, .slice A1 (List.length b) c2)] [.slice (some ⟨b5, 0, none⟩) 2 2, .slice A1 (List.length b) c2] hv8 Try.underlying34 ty22 (by decide) (by decide) rfl (by kernel_rfl) (by decide) ?_
  intro w10 b11 r12 s13 hv14
  have q16 := (BytesV.pers _).step s13 q9
  have c18 := s7.trans s13
  have q17 := (BytesV.pers _).step c18 h0
  have q15 : RowsV [[UInt8.ofNat (((List.length b : Nat) : Int) / 256).toNat, UInt8.ofNat (((List.length b : Nat) : Int) % 256).toNat], b] (ent lab) w10 (.slice (some ⟨b11, 0, none⟩) 2 2) := RowsV.mk 2 rfl (Nat.le_refl _) (by decide) r12 rfl (EachB.get ⟨q16, q17, trivial⟩)
  refine Seq.callS (V := BytesV (List.flatten ([[UInt8.ofNat (((List.length b : Nat) : Int) / 256).toNat, UInt8.ofNat (((List.length b : Nat) : Int) % 256).toNat], b]))) cal90 hv14 rfl (by decide) (ref04_Join hv14 q15 (show List.length (List.flatten ([[UInt8.ofNat (((List.length b : Nat) : Int) / 256).toNat, UInt8.ofNat (((List.length b : Nat) : Int) % 256).toNat], b])) ≤ 1000000 from by first | omega | (simp; omega))) ?_
  intro v19 w20 q21 s22 hv23
  obtain ⟨A24, c25, rfl⟩ := BytesV.shape q21
  have z26 := BytesV.cap q21
  refine Seq.val (Does.assign rfl) (by decide) ?_
  refine Seq.go (fun _ _ h => h) ?_
  have c27 := c18.trans s22
  obtain ⟨zU, zo⟩ := c27.out (by decide) hv
  refine Run.ret ?_
  exact post_one Try.results92 rfl ⟨_, rfl, (BytesV.cast (show (List.flatten ([[UInt8.ofNat (((List.length b : Nat) : Int) / 256).toNat, UInt8.ofNat (((List.length b : Nat) : Int) % 256).toNat], b])) = (textB b) from by first | rfl | (rw [textB, be_two (by omega) (by omega)]; simp; rfl; done) | (rw [textB, be_two (by omega) (by omega)]; simp [by8]; done; done) | (simp_all; done) | omega) ((BytesV.pers _).step zo q21)), c27.leave (by decide)⟩

end Go.Proofs.Ytgfomedobfaidaa
