/-
  The walks of some functions: what each call comes to.
-/
import Derived.Test.YtgfomedobfaidaaMore
import Derived.Test.YtgfomedobfaidaaTab
set_option linter.unusedVariables false
set_option linter.unusedSimpArgs false
set_option maxRecDepth 100000
namespace Go.Proofs.Ytgfomedobfaidaa
open Go.RowKit

theorem bits_Len32 {lab : Lab} {w : World} (hv : Valid lab w) {x : UInt32} :
    Calls Try.prog 161 #[u32 x] w (fun e w' => ∃ v, e = .returned v ∧ (Is (i64 ((blen x.toNat : Nat) : Int))) lab w' v ∧ Below w.heap.size w w') := by
  have hv0 := hv.ent
  obtain ⟨zU0, z00⟩ := ent_step lab w
  have hT := fun i => UInt8.toNat_lt (List.getD len8tab i 0)
  refine calls_run Try.func161 rfl Try.ntmps161 (Nat.le_of_ble_eq_true rfl) ?_
  refine Run.seq ?_
  refine Run.region ?_
  refine Seq.val (Does.assign rfl) (by decide) ?_
  refine Seq.go (fun _ _ h => h) ?_
  refine Run.seq ?_
  refine Run.seq ?_
  refine Run.region ?_
  refine Seq.val (Does.move rfl) (by decide) ?_
  refine Seq.val (Does.geq rfl rfl) (by decide) ?_
  refine Seq.go (fun _ _ h => h) ?_
  rcases bdich (decide ((65536 : Int) ≤ (x.toNat : Int))) with hc1 | hc1
  · skip
    have hp1 := of_decide_eq_true hc1
    refine Run.cond_b rfl hc1 ?_
    refine Run.seq ?_
    refine Run.region ?_
    refine Seq.val (Does.move rfl) (by decide) ?_
    refine Seq.val (Does.u32_shr (b := 16) rfl rfl (by first | omega | (have h1 := hT ((x >>> UInt32.ofNat 16 >>> UInt32.ofNat 8).toUInt8.toNat); have h2 := hT ((x >>> UInt32.ofNat 16).toUInt8.toNat); have h3 := hT ((x >>> UInt32.ofNat 8).toUInt8.toNat); have h4 := hT x.toUInt8.toNat; omega) | exact UInt8.toNat_lt _) (by first | omega | (have h1 := hT ((x >>> UInt32.ofNat 16 >>> UInt32.ofNat 8).toUInt8.toNat); have h2 := hT ((x >>> UInt32.ofNat 16).toUInt8.toNat); have h3 := hT ((x >>> UInt32.ofNat 8).toUInt8.toNat); have h4 := hT x.toUInt8.toNat; omega) | exact UInt8.toNat_lt _)) (by decide) ?_
    refine Seq.val (Does.assign rfl) (by decide) ?_
    refine Seq.go (fun _ _ h => h) ?_
    refine Run.region ?_
    refine Seq.val (Does.assign rfl) (by decide) ?_
    refine Seq.go (fun _ _ h => h) ?_
    refine Run.seq ?_
    refine Run.seq ?_
    refine Run.region ?_
    refine Seq.val (Does.move rfl) (by decide) ?_
    refine Seq.val (Does.geq rfl rfl) (by decide) ?_
    refine Seq.go (fun _ _ h => h) ?_
    rcases bdich (decide ((256 : Int) ≤ ((x >>> UInt32.ofNat 16).toNat : Int))) with hc2 | hc2
    · skip
      have hp2 := of_decide_eq_true hc2
      refine Run.cond_b rfl hc2 ?_
      refine Run.seq ?_
      refine Run.region ?_
      refine Seq.val (Does.move rfl) (by decide) ?_
      refine Seq.val (Does.u32_shr (b := 8) rfl rfl (by first | omega | (have h1 := hT ((x >>> UInt32.ofNat 16 >>> UInt32.ofNat 8).toUInt8.toNat); have h2 := hT ((x >>> UInt32.ofNat 16).toUInt8.toNat); have h3 := hT ((x >>> UInt32.ofNat 8).toUInt8.toNat); have h4 := hT x.toUInt8.toNat; omega) | exact UInt8.toNat_lt _) (by first | omega | (have h1 := hT ((x >>> UInt32.ofNat 16 >>> UInt32.ofNat 8).toUInt8.toNat); have h2 := hT ((x >>> UInt32.ofNat 16).toUInt8.toNat); have h3 := hT ((x >>> UInt32.ofNat 8).toUInt8.toNat); have h4 := hT x.toUInt8.toNat; omega) | exact UInt8.toNat_lt _)) (by decide) ?_
      refine Seq.val (Does.assign rfl) (by decide) ?_
      refine Seq.go (fun _ _ h => h) ?_
      refine Run.region ?_
      refine Seq.val (Does.move rfl) (by decide) ?_
      refine Seq.val (Does.add rfl rfl (by first | omega | (have h1 := hT ((x >>> UInt32.ofNat 16 >>> UInt32.ofNat 8).toUInt8.toNat); have h2 := hT ((x >>> UInt32.ofNat 16).toUInt8.toNat); have h3 := hT ((x >>> UInt32.ofNat 8).toUInt8.toNat); have h4 := hT x.toUInt8.toNat; omega) | exact UInt8.toNat_lt _)) (by decide) ?_
      refine Seq.val (Does.assign rfl) (by decide) ?_
      refine Seq.go (fun _ _ h => h) ?_
      refine Run.seq ?_
      refine Run.region ?_
      refine Seq.val (Does.move rfl) (by decide) ?_
      refine Seq.val (Does.move rfl) (by decide) ?_
      refine Seq.val (Does.conv_int Try.underlying167 Try.underlying5 rfl (wrap_u32_u8 _)) (by decide) ?_
      refine Seq.val (Does.index_str (s := len8tab) ((((x >>> UInt32.ofNat 16) >>> UInt32.ofNat 8).toUInt8).toNat) Try.underlying9 (by kernel_rfl) rfl (by rfl) (by first | omega | (have h1 := hT ((x >>> UInt32.ofNat 16 >>> UInt32.ofNat 8).toUInt8.toNat); have h2 := hT ((x >>> UInt32.ofNat 16).toUInt8.toNat); have h3 := hT ((x >>> UInt32.ofNat 8).toUInt8.toNat); have h4 := hT x.toUInt8.toNat; omega) | exact UInt8.toNat_lt _)) (by decide) ?_
      refine Seq.val (Does.conv_int Try.underlying5 Try.underlying3 rfl (wrap_u8_i64 _)) (by decide) ?_
      refine Seq.val (Does.add rfl rfl (by first | omega | (have h1 := hT ((x >>> UInt32.ofNat 16 >>> UInt32.ofNat 8).toUInt8.toNat); have h2 := hT ((x >>> UInt32.ofNat 16).toUInt8.toNat); have h3 := hT ((x >>> UInt32.ofNat 8).toUInt8.toNat); have h4 := hT x.toUInt8.toNat; omega) | exact UInt8.toNat_lt _)) (by decide) ?_
      refine Seq.val (Does.assign rfl) (by decide) ?_
      refine Seq.go (fun _ _ h => h) ?_
      have z9 := Stp.refl (ent lab) w
      obtain ⟨zU, zo⟩ := z9.out (by decide) hv
      refine Run.ret ?_
      exact post_one Try.results161 rfl ⟨_, rfl, (isI64 (show (((16 + 8) + ((List.getD len8tab ((((x >>> UInt32.ofNat 16) >>> UInt32.ofNat 8).toUInt8).toNat) (0 : UInt8)).toNat : Int)) : Int) = ((blen x.toNat : Nat) : Int) from by first | rfl | (exact len32_a hp1 hp2; done) | (exact len32_b hp1 hp2; done) | (exact len32_c hp1 hp2; done) | (exact len32_d hp2; done) | (simp_all; done) | omega) _ _), z9.leave (by decide)⟩
    · skip
      have hp2 := of_decide_eq_false hc2
      refine Run.cond_b rfl hc2 ?_
      refine Run.skip_go (fun _ _ h => h) ?_
      refine Run.seq ?_
      refine Run.region ?_
      refine Seq.val (Does.move rfl) (by decide) ?_
      refine Seq.val (Does.move rfl) (by decide) ?_
      refine Seq.val (Does.conv_int Try.underlying167 Try.underlying5 rfl (wrap_u32_u8 _)) (by decide) ?_
      refine Seq.val (Does.index_str (s := len8tab) (((x >>> UInt32.ofNat 16).toUInt8).toNat) Try.underlying9 (by kernel_rfl) rfl (by rfl) (by first | omega | (have h1 := hT ((x >>> UInt32.ofNat 16 >>> UInt32.ofNat 8).toUInt8.toNat); have h2 := hT ((x >>> UInt32.ofNat 16).toUInt8.toNat); have h3 := hT ((x >>> UInt32.ofNat 8).toUInt8.toNat); have h4 := hT x.toUInt8.toNat; omega) | exact UInt8.toNat_lt _)) (by decide) ?_
      refine Seq.val (Does.conv_int Try.underlying5 Try.underlying3 rfl (wrap_u8_i64 _)) (by decide) ?_
      refine Seq.val (Does.add rfl rfl (by first | omega | (have h1 := hT ((x >>> UInt32.ofNat 16 >>> UInt32.ofNat 8).toUInt8.toNat); have h2 := hT ((x >>> UInt32.ofNat 16).toUInt8.toNat); have h3 := hT ((x >>> UInt32.ofNat 8).toUInt8.toNat); have h4 := hT x.toUInt8.toNat; omega) | exact UInt8.toNat_lt _)) (by decide) ?_
      refine Seq.val (Does.assign rfl) (by decide) ?_
      refine Seq.go (fun _ _ h => h) ?_
      have z9 := Stp.refl (ent lab) w
      obtain ⟨zU, zo⟩ := z9.out (by decide) hv
      refine Run.ret ?_
      exact post_one Try.results161 rfl ⟨_, rfl, (isI64 (show ((16 + ((List.getD len8tab (((x >>> UInt32.ofNat 16).toUInt8).toNat) (0 : UInt8)).toNat : Int)) : Int) = ((blen x.toNat : Nat) : Int) from by first | rfl | (exact len32_a hp1 hp2; done) | (exact len32_b hp1 hp2; done) | (exact len32_c hp1 hp2; done) | (exact len32_d hp2; done) | (simp_all; done) | omega) _ _), z9.leave (by decide)⟩
  · skip
    have hp1 := of_decide_eq_false hc1
    refine Run.cond_b rfl hc1 ?_
    refine Run.skip_go (fun _ _ h => h) ?_
    refine Run.seq ?_
    refine Run.seq ?_
    refine Run.region ?_
    refine Seq.val (Does.move rfl) (by decide) ?_
    refine Seq.val (Does.geq rfl rfl) (by decide) ?_
    refine Seq.go (fun _ _ h => h) ?_
    rcases bdich (decide ((256 : Int) ≤ (x.toNat : Int))) with hc2 | hc2
    · skip
      have hp2 := of_decide_eq_true hc2
      refine Run.cond_b rfl hc2 ?_
      refine Run.seq ?_
      refine Run.region ?_
      refine Seq.val (Does.move rfl) (by decide) ?_
      refine Seq.val (Does.u32_shr (b := 8) rfl rfl (by first | omega | (have h1 := hT ((x >>> UInt32.ofNat 16 >>> UInt32.ofNat 8).toUInt8.toNat); have h2 := hT ((x >>> UInt32.ofNat 16).toUInt8.toNat); have h3 := hT ((x >>> UInt32.ofNat 8).toUInt8.toNat); have h4 := hT x.toUInt8.toNat; omega) | exact UInt8.toNat_lt _) (by first | omega | (have h1 := hT ((x >>> UInt32.ofNat 16 >>> UInt32.ofNat 8).toUInt8.toNat); have h2 := hT ((x >>> UInt32.ofNat 16).toUInt8.toNat); have h3 := hT ((x >>> UInt32.ofNat 8).toUInt8.toNat); have h4 := hT x.toUInt8.toNat; omega) | exact UInt8.toNat_lt _)) (by decide) ?_
      refine Seq.val (Does.assign rfl) (by decide) ?_
      refine Seq.go (fun _ _ h => h) ?_
      refine Run.region ?_
      refine Seq.val (Does.move rfl) (by decide) ?_
      refine Seq.val (Does.add rfl rfl (by first | omega | (have h1 := hT ((x >>> UInt32.ofNat 16 >>> UInt32.ofNat 8).toUInt8.toNat); have h2 := hT ((x >>> UInt32.ofNat 16).toUInt8.toNat); have h3 := hT ((x >>> UInt32.ofNat 8).toUInt8.toNat); have h4 := hT x.toUInt8.toNat; omega) | exact UInt8.toNat_lt _)) (by decide) ?_
      refine Seq.val (Does.assign rfl) (by decide) ?_
      refine Seq.go (fun _ _ h => h) ?_
      refine Run.seq ?_
      refine Run.region ?_
      refine Seq.val (Does.move rfl) (by decide) ?_
      refine Seq.val (Does.move rfl) (by decide) ?_
      refine Seq.val (Does.conv_int Try.underlying167 Try.underlying5 rfl (wrap_u32_u8 _)) (by decide) ?_
      refine Seq.val (Does.index_str (s := len8tab) (((x >>> UInt32.ofNat 8).toUInt8).toNat) Try.underlying9 (by kernel_rfl) rfl (by rfl) (by first | omega | (have h1 := hT ((x >>> UInt32.ofNat 16 >>> UInt32.ofNat 8).toUInt8.toNat); have h2 := hT ((x >>> UInt32.ofNat 16).toUInt8.toNat); have h3 := hT ((x >>> UInt32.ofNat 8).toUInt8.toNat); have h4 := hT x.toUInt8.toNat; omega) | exact UInt8.toNat_lt _)) (by decide) ?_
      refine Seq.val (Does.conv_int Try.underlying5 Try.underlying3 rfl (wrap_u8_i64 _)) (by decide) ?_
      refine Seq.val (Does.add rfl rfl (by first | omega | (have h1 := hT ((x >>> UInt32.ofNat 16 >>> UInt32.ofNat 8).toUInt8.toNat); have h2 := hT ((x >>> UInt32.ofNat 16).toUInt8.toNat); have h3 := hT ((x >>> UInt32.ofNat 8).toUInt8.toNat); have h4 := hT x.toUInt8.toNat; omega) | exact UInt8.toNat_lt _)) (by decide) ?_
      refine Seq.val (Does.assign rfl) (by decide) ?_
      refine Seq.go (fun _ _ h => h) ?_
      have z9 := Stp.refl (ent lab) w
      obtain ⟨zU, zo⟩ := z9.out (by decide) hv
      refine Run.ret ?_
      exact post_one Try.results161 rfl ⟨_, rfl, (isI64 (show (((0 + 8) + ((List.getD len8tab (((x >>> UInt32.ofNat 8).toUInt8).toNat) (0 : UInt8)).toNat : Int)) : Int) = ((blen x.toNat : Nat) : Int) from by first | rfl | (exact len32_a hp1 hp2; done) | (exact len32_b hp1 hp2; done) | (exact len32_c hp1 hp2; done) | (exact len32_d hp2; done) | (simp_all; done) | omega) _ _), z9.leave (by decide)⟩
    · skip
      have hp2 := of_decide_eq_false hc2
      refine Run.cond_b rfl hc2 ?_
      refine Run.skip_go (fun _ _ h => h) ?_
      refine Run.seq ?_
      refine Run.region ?_
      refine Seq.val (Does.move rfl) (by decide) ?_
      refine Seq.val (Does.move rfl) (by decide) ?_
      refine Seq.val (Does.conv_int Try.underlying167 Try.underlying5 rfl (wrap_u32_u8 _)) (by decide) ?_
      refine Seq.val (Does.index_str (s := len8tab) x.toUInt8.toNat Try.underlying9 (by kernel_rfl) rfl (by rfl) (by first | omega | (have h1 := hT ((x >>> UInt32.ofNat 16 >>> UInt32.ofNat 8).toUInt8.toNat); have h2 := hT ((x >>> UInt32.ofNat 16).toUInt8.toNat); have h3 := hT ((x >>> UInt32.ofNat 8).toUInt8.toNat); have h4 := hT x.toUInt8.toNat; omega) | exact UInt8.toNat_lt _)) (by decide) ?_
      refine Seq.val (Does.conv_int Try.underlying5 Try.underlying3 rfl (wrap_u8_i64 _)) (by decide) ?_
      refine Seq.val (Does.add rfl rfl (by first | omega | (have h1 := hT ((x >>> UInt32.ofNat 16 >>> UInt32.ofNat 8).toUInt8.toNat); have h2 := hT ((x >>> UInt32.ofNat 16).toUInt8.toNat); have h3 := hT ((x >>> UInt32.ofNat 8).toUInt8.toNat); have h4 := hT x.toUInt8.toNat; omega) | exact UInt8.toNat_lt _)) (by decide) ?_
      refine Seq.val (Does.assign rfl) (by decide) ?_
      refine Seq.go (fun _ _ h => h) ?_
      have z9 := Stp.refl (ent lab) w
      obtain ⟨zU, zo⟩ := z9.out (by decide) hv
      refine Run.ret ?_
      exact post_one Try.results161 rfl ⟨_, rfl, (isI64 (show ((0 + ((List.getD len8tab x.toUInt8.toNat (0 : UInt8)).toNat : Int)) : Int) = ((blen x.toNat : Nat) : Int) from by first | rfl | (exact len32_a hp1 hp2; done) | (exact len32_b hp1 hp2; done) | (exact len32_c hp1 hp2; done) | (exact len32_d hp2; done) | (simp_all; done) | omega) _ _), z9.leave (by decide)⟩

theorem nat_Bits {lab : Lab} {w : World} (hv : Valid lab w) {a : Nat} {v0 : Value} (h0 : NatV a lab w v0) (hn : nw a ≤ 1000000) :
    Calls Try.prog 113 #[v0] w (fun e w' => ∃ v, e = .returned v ∧ (Is (i64 ((blen a : Nat) : Int))) lab w' v ∧ Below w.heap.size w w') := by
  have hv0 := hv.ent
  obtain ⟨zU0, z00⟩ := ent_step lab w
  replace h0 := (NatV.pers _).step z00 h0
  obtain ⟨A1, c2, rfl⟩ := NatV.shape h0
  have z3 := NatV.cap h0
  have hB := blen_le_nw a
  refine calls_run Try.func113 rfl Try.ntmps113 (Nat.le_of_ble_eq_true rfl) ?_
  refine Run.seq ?_
  refine Run.region ?_
  refine Seq.box (k := 2) [.slice A1 (nw a) c2] hv0 rfl rfl (by decide) ?_
  intro lab4 w5 b6 o7 s8 hv9
  refine Seq.val (Does.assign rfl) (by decide) ?_
  refine Seq.go (fun _ _ h => h) ?_
  refine Run.seq ?_
  refine Run.seq ?_
  refine Run.region ?_
  refine Seq.val (Does.fieldAddr' 0 Try.underlying60 rfl ty58 rfl rfl) (by decide) ?_
  have q11 := (NatV.pers _).step s8 h0
  have q10 := NatV.words q11
  refine Seq.val (Does.load_own1 o7 ty58 rfl rfl) (by decide) ?_
  refine Seq.val (Does.len Try.underlying58 rfl) (by decide) ?_
  refine Seq.val (Does.eql rfl rfl) (by decide) ?_
  refine Seq.go (fun _ _ h => h) ?_
  rcases bdich (decide ((((nw a : Nat) : Int) : Int) = (0 : Int))) with hc1 | hc1
  · skip
    have hp1 := of_decide_eq_true hc1
    refine Run.cond_b rfl hc1 ?_
    refine Run.seq ?_
    refine Run.region ?_
    refine Seq.val (Does.assign rfl) (by decide) ?_
    refine Seq.go (fun _ _ h => h) ?_
    obtain ⟨zU, zo⟩ := s8.out (by decide) hv
    refine Run.ret (ret_then ?_)
    exact post_one Try.results113 rfl ⟨_, rfl, (isI64 (show (0 : Int) = ((blen a : Nat) : Int) from by first | rfl | (exact bits_zero hp1; done) | (exact bits_pos hp1; done) | (simp_all; done) | omega) _ _), s8.leave (by decide)⟩
  · skip
    have hp1 := of_decide_eq_false hc1
    refine Run.cond_b rfl hc1 ?_
    refine Run.skip_go (fun _ _ h => h) ?_
    refine Run.seq ?_
    refine Run.any (m := 15) mixed (by kernel_rfl) hv9 (phi [Is (.pointer (some ⟨b6, 0, none⟩)), WordsV (limbs a), Is (i64 ((nw a : Nat) : Int)), Is (i64 (((nw a : Nat) : Int) - 1)), Is (i64 (32 * (((nw a : Nat) : Int) - 1))), Is (.pointer (some ⟨b6, 0, none⟩)), WordsV (limbs a), Is (.pointer (some ⟨b6, 0, none⟩)), WordsV (limbs a), Is (i64 ((nw a : Nat) : Int)), Is (i64 (((nw a : Nat) : Int) - 1)), ElV (List.map u32 (limbs a)) ((((nw a : Nat) : Int) - 1).toNat), Is (u32 (List.getD (limbs a) ((((nw a : Nat) : Int) - 1).toNat) (0 : UInt32))), Is (i64 ((blen (List.getD (limbs a) ((((nw a : Nat) : Int) - 1).toNat) (0 : UInt32)).toNat : Nat) : Int)), Is (i64 ((32 * (((nw a : Nat) : Int) - 1)) + ((blen (List.getD (limbs a) ((((nw a : Nat) : Int) - 1).toNat) (0 : UInt32)).toNat : Nat) : Int)))]) (phi_pers (L := [Is (.pointer (some ⟨b6, 0, none⟩)), WordsV (limbs a), Is (i64 ((nw a : Nat) : Int)), Is (i64 (((nw a : Nat) : Int) - 1)), Is (i64 (32 * (((nw a : Nat) : Int) - 1))), Is (.pointer (some ⟨b6, 0, none⟩)), WordsV (limbs a), Is (.pointer (some ⟨b6, 0, none⟩)), WordsV (limbs a), Is (i64 ((nw a : Nat) : Int)), Is (i64 (((nw a : Nat) : Int) - 1)), ElV (List.map u32 (limbs a)) ((((nw a : Nat) : Int) - 1).toNat), Is (u32 (List.getD (limbs a) ((((nw a : Nat) : Int) - 1).toNat) (0 : UInt32))), Is (i64 ((blen (List.getD (limbs a) ((((nw a : Nat) : Int) - 1).toNat) (0 : UInt32)).toNat : Nat) : Int)), Is (i64 ((32 * (((nw a : Nat) : Int) - 1)) + ((blen (List.getD (limbs a) ((((nw a : Nat) : Int) - 1).toNat) (0 : UInt32)).toNat : Nat) : Int)))]) ⟨Pers.z (Is.pers _), Pers.z (WordsV.pers _), Pers.z (Is.pers _), Pers.z (Is.pers _), Pers.z (Is.pers _), Pers.z (Is.pers _), Pers.z (WordsV.pers _), Pers.z (Is.pers _), Pers.z (WordsV.pers _), Pers.z (Is.pers _), Pers.z (Is.pers _), Pers.z (ElV.pers _ _), Pers.z (Is.pers _), Pers.z (Is.pers _), Pers.z (Is.pers _), trivial⟩) ?_ ?_
    · intro wz z0
      refine laws (n := 15) ⟨?_, ?_, ?_, ?_, ?_, ?_, ?_, ?_, ?_, ?_, ?_, ?_, ?_, ?_, ?_, trivial⟩
      · refine law_val rfl (by decide) fun lab12 w13 a14 hv15 s16 f17 d18 => ?_
        exact ⟨_, _, _, _, f17, Does.fieldAddr' 0 Try.underlying60 rfl ty58 rfl rfl, hv15, Stp.refl _ _, rfl⟩
      · refine law_val rfl (by decide) fun lab19 w20 a21 hv22 s23 f24 d25 => ?_
        obtain ⟨v26, e27, q28⟩ := d25 0 rfl 7 rfl
        replace q28 : (Is (.pointer (some ⟨b6, 0, none⟩))) lab19 w20 v26 := q28
        replace q28 := Is.out q28; subst q28
        have f29 := f24.ext e27
        have o30 := o7.lift (z0.trans s23) (by decide)
        have q32 := (NatV.pers _).step (z0.trans s23) q11
        have q31 := NatV.words q32
        exact ⟨_, _, _, _, f29, Does.load_own1 o30 ty58 rfl rfl, hv22, Stp.refl _ _, q31⟩
      · refine law_val rfl (by decide) fun lab33 w34 a35 hv36 s37 f38 d39 => ?_
        obtain ⟨v40, e41, q42⟩ := d39 1 rfl 8 rfl
        replace q42 : (WordsV (limbs a)) lab33 w34 v40 := q42
        obtain ⟨A43, c44, rfl⟩ := WordsV.shapeN q42 (n := nw a) (by first | rfl | (simp; done) | (simp; omega) | (simp_all; done))
        have z45 := WordsV.cap q42
        have f46 := f38.ext e41
        exact ⟨_, _, _, _, f46, Does.len Try.underlying58 rfl, hv36, Stp.refl _ _, rfl⟩
      · refine law_val rfl (by decide) fun lab47 w48 a49 hv50 s51 f52 d53 => ?_
        obtain ⟨v54, e55, q56⟩ := d53 2 rfl 9 rfl
        replace q56 : (Is (i64 ((nw a : Nat) : Int))) lab47 w48 v54 := q56
        replace q56 := Is.out q56; subst q56
        have f57 := f52.ext e55
        exact ⟨_, _, _, _, f57, Does.sub rfl rfl (by first | omega | (simp; omega) | (simp at hp1; omega) | (have h1 := bits_nz hp1; omega) | (have h1 := bits_pos hp1; omega)), hv50, Stp.refl _ _, rfl⟩
      · refine law_val rfl (by decide) fun lab58 w59 a60 hv61 s62 f63 d64 => ?_
        obtain ⟨v65, e66, q67⟩ := d64 3 rfl 10 rfl
        replace q67 : (Is (i64 (((nw a : Nat) : Int) - 1))) lab58 w59 v65 := q67
        replace q67 := Is.out q67; subst q67
        have f68 := f63.ext e66
        exact ⟨_, _, _, _, f68, Does.mul rfl rfl (by first | omega | (simp; omega) | (simp at hp1; omega) | (have h1 := bits_nz hp1; omega) | (have h1 := bits_pos hp1; omega)), hv61, Stp.refl _ _, rfl⟩
      · refine law_val rfl (by decide) fun lab69 w70 a71 hv72 s73 f74 d75 => ?_
        exact ⟨_, _, _, _, f74, Does.fieldAddr' 0 Try.underlying60 rfl ty58 rfl rfl, hv72, Stp.refl _ _, rfl⟩
      · refine law_val rfl (by decide) fun lab76 w77 a78 hv79 s80 f81 d82 => ?_
        obtain ⟨v83, e84, q85⟩ := d82 5 rfl 12 rfl
        replace q85 : (Is (.pointer (some ⟨b6, 0, none⟩))) lab76 w77 v83 := q85
        replace q85 := Is.out q85; subst q85
        have f86 := f81.ext e84
        have o87 := o7.lift (z0.trans s80) (by decide)
        have q89 := (NatV.pers _).step (z0.trans s80) q11
        have q88 := NatV.words q89
        exact ⟨_, _, _, _, f86, Does.load_own1 o87 ty58 rfl rfl, hv79, Stp.refl _ _, q88⟩
      · refine law_val rfl (by decide) fun lab90 w91 a92 hv93 s94 f95 d96 => ?_
        exact ⟨_, _, _, _, f95, Does.fieldAddr' 0 Try.underlying60 rfl ty58 rfl rfl, hv93, Stp.refl _ _, rfl⟩
      · refine law_val rfl (by decide) fun lab97 w98 a99 hv100 s101 f102 d103 => ?_
        obtain ⟨v104, e105, q106⟩ := d103 7 rfl 14 rfl
        replace q106 : (Is (.pointer (some ⟨b6, 0, none⟩))) lab97 w98 v104 := q106
        replace q106 := Is.out q106; subst q106
        have f107 := f102.ext e105
        have o108 := o7.lift (z0.trans s101) (by decide)
        have q110 := (NatV.pers _).step (z0.trans s101) q11
        have q109 := NatV.words q110
        exact ⟨_, _, _, _, f107, Does.load_own1 o108 ty58 rfl rfl, hv100, Stp.refl _ _, q109⟩
      · refine law_val rfl (by decide) fun lab111 w112 a113 hv114 s115 f116 d117 => ?_
        obtain ⟨v118, e119, q120⟩ := d117 8 rfl 15 rfl
        replace q120 : (WordsV (limbs a)) lab111 w112 v118 := q120
        obtain ⟨A121, c122, rfl⟩ := WordsV.shapeN q120 (n := nw a) (by first | rfl | (simp; done) | (simp; omega) | (simp_all; done))
        have z123 := WordsV.cap q120
        have f124 := f116.ext e119
        exact ⟨_, _, _, _, f124, Does.len Try.underlying58 rfl, hv114, Stp.refl _ _, rfl⟩
      · refine law_val rfl (by decide) fun lab125 w126 a127 hv128 s129 f130 d131 => ?_
        obtain ⟨v132, e133, q134⟩ := d131 9 rfl 16 rfl
        replace q134 : (Is (i64 ((nw a : Nat) : Int))) lab125 w126 v132 := q134
        replace q134 := Is.out q134; subst q134
        have f135 := f130.ext e133
        exact ⟨_, _, _, _, f135, Does.sub rfl rfl (by first | omega | (simp; omega) | (simp at hp1; omega) | (have h1 := bits_nz hp1; omega) | (have h1 := bits_pos hp1; omega)), hv128, Stp.refl _ _, rfl⟩
      · refine law_val rfl (by decide) fun lab136 w137 a138 hv139 s140 f141 d142 => ?_
        obtain ⟨v143, e144, q145⟩ := d142 6 rfl 13 rfl
        replace q145 : (WordsV (limbs a)) lab136 w137 v143 := q145
        obtain ⟨A146, c147, rfl⟩ := WordsV.shapeN q145 (n := nw a) (by first | rfl | (simp; done) | (simp; omega) | (simp_all; done))
        have z148 := WordsV.cap q145
        have f149 := f141.ext e144
        obtain ⟨v150, e151, q152⟩ := d142 10 rfl 17 rfl
        replace q152 : (Is (i64 (((nw a : Nat) : Int) - 1))) lab136 w137 v150 := q152
        replace q152 := Is.out q152; subst q152
        have f153 := f149.ext e151
        exact ⟨_, _, _, _, f153, Does.index_row ((((nw a : Nat) : Int) - 1).toNat) Try.underlying58 ty167 rfl rfl (WordsV.row q145) (by first | (simp [nw]; done) | (simp; omega)) (by first | omega | (simp; omega) | (simp at hp1; omega) | (have h1 := bits_nz hp1; omega) | (have h1 := bits_pos hp1; omega)) (by first | omega | (simp; omega) | (simp at hp1; omega) | (have h1 := bits_nz hp1; omega) | (have h1 := bits_pos hp1; omega)), hv139, Stp.refl _ _, ⟨_, rfl, (WordsV.row q145)⟩⟩
      · refine law_val rfl (by decide) fun lab154 w155 a156 hv157 s158 f159 d160 => ?_
        obtain ⟨v161, e162, q163⟩ := d160 11 rfl 18 rfl
        replace q163 : (ElV (List.map u32 (limbs a)) ((((nw a : Nat) : Int) - 1).toNat)) lab154 w155 v161 := q163
        obtain ⟨A164, rfl, r165⟩ := q163
        have f166 := f159.ext e162
        exact ⟨_, _, _, _, f166, Does.load_row ty167 rfl r165 (map_get u32 _ (0 : UInt32) (by first | omega | (have h1 := bits_nz hp1; have h2 := nw_pos_of h1; have h3 : (limbs a).length = nw a := rfl; omega))), hv157, Stp.refl _ _, rfl⟩
      · refine law_call rfl (by decide) cal161 fun lab167 w168 a169 hv170 s171 f172 d173 => ?_
        obtain ⟨v174, e175, q176⟩ := d173 12 rfl 19 rfl
        replace q176 : (Is (u32 (List.getD (limbs a) ((((nw a : Nat) : Int) - 1).toNat) (0 : UInt32)))) lab167 w168 v174 := q176
        replace q176 := Is.out q176; subst q176
        have f177 := f172.ext e175
        exact ⟨_, _, f177, rfl, (bits_Len32 hv170 (x := List.getD (limbs a) ((((nw a : Nat) : Int) - 1).toNat) (0 : UInt32)))⟩
      · refine law_val rfl (by decide) fun lab178 w179 a180 hv181 s182 f183 d184 => ?_
        obtain ⟨v185, e186, q187⟩ := d184 4 rfl 11 rfl
        replace q187 : (Is (i64 (32 * (((nw a : Nat) : Int) - 1)))) lab178 w179 v185 := q187
        replace q187 := Is.out q187; subst q187
        have f188 := f183.ext e186
        obtain ⟨v189, e190, q191⟩ := d184 13 rfl 20 rfl
        replace q191 : (Is (i64 ((blen (List.getD (limbs a) ((((nw a : Nat) : Int) - 1).toNat) (0 : UInt32)).toNat : Nat) : Int))) lab178 w179 v189 := q191
        have q191 := Is.out q191; subst q191
        have f192 := f188.ext e190
        exact ⟨_, _, _, _, f192, Does.add rfl rfl (by first | omega | (simp; omega) | (simp at hp1; omega) | (have h1 := bits_nz hp1; omega) | (have h1 := bits_pos hp1; omega)), hv181, Stp.refl _ _, rfl⟩
    · skip
      intro lab193 w194 a195 hv196 s197 f198 hl199
      obtain ⟨v200, e201, q202⟩ := hl199 14 (by decide) 21 rfl
      replace q202 : (Is (i64 ((32 * (((nw a : Nat) : Int) - 1)) + ((blen (List.getD (limbs a) ((((nw a : Nat) : Int) - 1).toNat) (0 : UInt32)).toNat : Nat) : Int)))) lab193 w194 v200 := q202
      replace q202 := Is.out q202; subst q202
      have f203 := f198.ext e201
      refine Seq.start (m := 15) f203 ?_
      refine Seq.val (Does.assign rfl) (by decide) ?_
      refine Seq.go (fun _ _ h => h) ?_
      have c204 := s8.trans s197
      obtain ⟨zU, zo⟩ := c204.out (by decide) hv
      refine Run.ret ?_
      exact post_one Try.results113 rfl ⟨_, rfl, (isI64 (show (((32 * (((nw a : Nat) : Int) - 1)) + ((blen (List.getD (limbs a) ((((nw a : Nat) : Int) - 1).toNat) (0 : UInt32)).toNat : Nat) : Int)) : Int) = ((blen a : Nat) : Int) from by first | rfl | (exact bits_zero hp1; done) | (exact bits_pos hp1; done) | (simp_all; done) | omega) _ _), c204.leave (by decide)⟩

theorem nat_Bytes {lab : Lab} {w : World} (hv : Valid lab w) {a : Nat} {v0 : Value} (h0 : NatV a lab w v0) {size : Int} (hn : nw a ≤ 1000000) (h0s : 0 ≤ size ∧ size ≤ 10000000) :
    Calls Try.prog 129 #[v0, i64 size] w (fun e w' => ∃ v, e = .returned v ∧ (And2 (BytesV (if size < (((blen a + 7) / 8 : Nat) : Int) then [] else beN a (Int.toNat size))) (Is (i64 (if size < (((blen a + 7) / 8 : Nat) : Int) then 2 else 0)))) lab w' v ∧ Below w.heap.size w w') := by
  have hv0 := hv.ent
  obtain ⟨zU0, z00⟩ := ent_step lab w
  replace h0 := (NatV.pers _).step z00 h0
  obtain ⟨A1, c2, rfl⟩ := NatV.shape h0
  have z3 := NatV.cap h0
  have hB := blen_le_nw a
  refine calls_run Try.func129 rfl Try.ntmps129 (Nat.le_of_ble_eq_true rfl) ?_
  refine Run.seq ?_
  refine Run.region ?_
  refine Seq.box (k := 3) [.slice A1 (nw a) c2] hv0 rfl rfl (by decide) ?_
  intro lab4 w5 b6 o7 s8 hv9
  refine Seq.val (Does.assign rfl) (by decide) ?_
  refine Seq.val (Does.assign rfl) (by decide) ?_
  refine Seq.go (fun _ _ h => h) ?_
  refine Run.seq ?_
  refine Run.seq ?_
  refine Run.region ?_
  refine Seq.val (Does.move rfl) (by decide) ?_
  refine Seq.val (Does.lss rfl rfl) (by decide) ?_
  refine Seq.go (fun _ _ h => h) ?_
  rcases bdich (decide ((size : Int) < (0 : Int))) with hc1 | hc1
  · skip
    have hp1 := of_decide_eq_true hc1
    refine Run.cond_b rfl hc1 ?_
    refine Run.seq ?_
    refine Run.region ?_
    refine Seq.val (Does.assign rfl) (by decide) ?_
    refine Seq.val (Does.assign rfl) (by decide) ?_
    refine Seq.go (fun _ _ h => h) ?_
    obtain ⟨zU, zo⟩ := s8.out (by decide) hv
    refine Run.ret (ret_then ?_)
    exact post_two Try.results129 rfl rfl ⟨_, rfl, ⟨_, _, rfl, (BytesV.cast (show ([] : List UInt8) = (if size < (((blen a + 7) / 8 : Nat) : Int) then [] else beN a (Int.toNat size)) from by first | rfl | (rw [if_pos (by omega)]; done) | (rw [if_neg (by omega)]; done) | (rw [if_neg (by omega)]; exact beUp_full (Nat.lt_of_lt_of_le (lt_bytes a) (Nat.pow_le_pow_right (by omega) (by omega))); done) | (simp_all; done) | omega) (BytesV.nil _ _)), (isI64 (show (1 : Int) = (if size < (((blen a + 7) / 8 : Nat) : Int) then 2 else 0) from by first | rfl | (rw [if_pos (by omega)]; done) | (rw [if_neg (by omega)]; done) | (rw [if_neg (by omega)]; exact beUp_full (Nat.lt_of_lt_of_le (lt_bytes a) (Nat.pow_le_pow_right (by omega) (by omega))); done) | (simp_all; done) | omega) _ _)⟩, s8.leave (by decide)⟩
  · skip
    have hp1 := of_decide_eq_false hc1
    refine Run.cond_b rfl hc1 ?_
    refine Run.skip_go (fun _ _ h => h) ?_
    refine Run.seq ?_
    refine Run.region ?_
    refine Seq.val (Does.load_ownN [.slice A1 (nw a) c2] o7 ty60 rfl rfl) (by decide) ?_
    have q10 := (NatV.pers _).step s8 h0
    refine Seq.callS (V := Is (i64 ((blen a : Nat) : Int))) cal113 hv9 rfl (by decide) (nat_Bits hv9 q10 (show nw a ≤ 1000000 from by first | assumption | omega | simp_all)) ?_
    intro v11 w12 q13 s14 hv15
    have q13 := Is.out q13; subst q13
    refine Seq.val (Does.add rfl rfl (by first | omega | (simp; omega) | (simp at *; omega))) (by decide) ?_
    refine Seq.val (Does.quo rfl rfl (by first | omega | (simp; omega) | (simp at *; omega)) (by first | omega | (simp; omega) | (simp at *; omega)) (by first | omega | (simp; omega) | (simp at *; omega))) (by decide) ?_
    refine Seq.val (Does.assign rfl) (by decide) ?_
    refine Seq.go (fun _ _ h => h) ?_
    refine Run.seq ?_
    refine Run.seq ?_
    refine Run.region ?_
    refine Seq.val (Does.move rfl) (by decide) ?_
    refine Seq.val (Does.move rfl) (by decide) ?_
    refine Seq.val (Does.gtr rfl rfl) (by decide) ?_
    refine Seq.go (fun _ _ h => h) ?_
    rcases bdich (decide ((size : Int) < ((((blen a : Nat) : Int) + 7) / 8 : Int))) with hc2 | hc2
    · skip
      have hp2 := of_decide_eq_true hc2
      refine Run.cond_b rfl hc2 ?_
      refine Run.seq ?_
      refine Run.region ?_
      refine Seq.val (Does.assign rfl) (by decide) ?_
      refine Seq.val (Does.assign rfl) (by decide) ?_
      refine Seq.go (fun _ _ h => h) ?_
      have c16 := s8.trans s14
      obtain ⟨zU, zo⟩ := c16.out (by decide) hv
      refine Run.ret (ret_then ?_)
      exact post_two Try.results129 rfl rfl ⟨_, rfl, ⟨_, _, rfl, (BytesV.cast (show ([] : List UInt8) = (if size < (((blen a + 7) / 8 : Nat) : Int) then [] else beN a (Int.toNat size)) from by first | rfl | (rw [if_pos (by omega)]; done) | (rw [if_neg (by omega)]; done) | (rw [if_neg (by omega)]; exact beUp_full (Nat.lt_of_lt_of_le (lt_bytes a) (Nat.pow_le_pow_right (by omega) (by omega))); done) | (simp_all; done) | omega) (BytesV.nil _ _)), (isI64 (show (2 : Int) = (if size < (((blen a + 7) / 8 : Nat) : Int) then 2 else 0) from by first | rfl | (rw [if_pos (by omega)]; done) | (rw [if_neg (by omega)]; done) | (rw [if_neg (by omega)]; exact beUp_full (Nat.lt_of_lt_of_le (lt_bytes a) (Nat.pow_le_pow_right (by omega) (by omega))); done) | (simp_all; done) | omega) _ _)⟩, c16.leave (by decide)⟩
    · skip
      have hp2 := of_decide_eq_false hc2
      refine Run.cond_b rfl hc2 ?_
      refine Run.skip_go (fun _ _ h => h) ?_
      refine Run.seq ?_
      refine Run.region ?_
      refine Seq.val (Does.move rfl) (by decide) ?_
      refine Seq.make_row (k := 20) u8 (0 : UInt8) ((size).toNat) hv15 Try.underlying22 ty5 rfl rfl rfl (by first | omega | (simp; omega) | (simp at *; omega)) (by first | omega | (simp; omega) | (simp at *; omega)) (by first | omega | (simp; omega) | (simp at *; omega)) (by first | omega | (simp; omega) | (simp at *; omega)) (by decide) ?_
      intro lab17 w18 b19 o20 s21 hv22
      refine Seq.val (Does.assign rfl) (by decide) ?_
      refine Seq.go (fun _ _ h => h) ?_
      refine Run.seq ?_
      refine Run.seq ?_
      refine Run.region ?_
      refine Seq.val (Does.move rfl) (by decide) ?_
      refine Seq.val (Does.move rfl) (by decide) ?_
      refine Seq.go (fun _ _ h => h) ?_
      refine Run.block ?_
      refine Run.loop (fun m' l' w' => ∃ (k : Nat) (lab' : Lab), m' = (blen a + 7) / 8 - k ∧ l' = [(21, i64 ((k : Nat) : Int)), (0, .agg #[.slice A1 (nw a) c2]), (1, i64 size), (2, .pointer (some ⟨b6, 0, none⟩)), (4, .slice none 0 0), (5, .int .i64 0), (9, i64 size), (10, .bool (decide ((size : Int) < (0 : Int)))), (11, .agg #[.slice A1 (nw a) c2]), (12, i64 ((blen a : Nat) : Int)), (13, i64 (((blen a : Nat) : Int) + 7)), (14, i64 ((((blen a : Nat) : Int) + 7) / 8)), (6, i64 ((((blen a : Nat) : Int) + 7) / 8)), (15, i64 ((((blen a : Nat) : Int) + 7) / 8)), (16, i64 size), (17, .bool (decide ((size : Int) < ((((blen a : Nat) : Int) + 7) / 8 : Int)))), (18, i64 size), (19, .slice (some ⟨b19, 0, none⟩) ((size).toNat) ((size).toNat)), (7, .slice (some ⟨b19, 0, none⟩) ((size).toNat) ((size).toNat)), (20, i64 ((((blen a : Nat) : Int) + 7) / 8))] ∧ Valid lab' w' ∧ Stp [20] lab17 w18 lab' w' ∧ Own lab' w' 20 b19 5 (List.map u8 (beUp a (Int.toNat size) k)).toArray ∧ (k ≤ (blen a + 7) / 8)) ((blen a + 7) / 8 - 0) (l0 := [(21, i64 ((0 : Nat) : Int)), (0, .agg #[.slice A1 (nw a) c2]), (1, i64 size), (2, .pointer (some ⟨b6, 0, none⟩)), (4, .slice none 0 0), (5, .int .i64 0), (9, i64 size), (10, .bool (decide ((size : Int) < (0 : Int)))), (11, .agg #[.slice A1 (nw a) c2]), (12, i64 ((blen a : Nat) : Int)), (13, i64 (((blen a : Nat) : Int) + 7)), (14, i64 ((((blen a : Nat) : Int) + 7) / 8)), (6, i64 ((((blen a : Nat) : Int) + 7) / 8)), (15, i64 ((((blen a : Nat) : Int) + 7) / 8)), (16, i64 size), (17, .bool (decide ((size : Int) < ((((blen a : Nat) : Int) + 7) / 8 : Int)))), (18, i64 size), (19, .slice (some ⟨b19, 0, none⟩) ((size).toNat) ((size).toNat)), (7, .slice (some ⟨b19, 0, none⟩) ((size).toNat) ((size).toNat)), (20, i64 ((((blen a : Nat) : Int) + 7) / 8))]) ⟨(congrArg (fun z => some (i64 z)) (show (0 : Int) = ((0 : Nat) : Int) from by first | rfl | omega | (simp; done) | (simp <;> omega))), rfl, rfl, rfl, rfl, rfl, rfl, rfl, rfl, rfl, rfl, rfl, rfl, rfl, rfl, rfl, rfl, rfl, rfl, rfl, trivial⟩ ⟨0, lab17, rfl, rfl, hv22, ((Stp.refl _ _).more (by simp)), ((show List.replicate ((size).toNat) (0 : UInt8) = beUp a (Int.toNat size) 0 from by first | rfl | (exact (beUp_zero _ _).symm) | (exact bytes_step (by omega) (by omega)) | (simp; done)) ▸ o20), (by first | omega | (simp at *; omega))⟩ ?_
      intro m23 l24 w25 H26
      obtain ⟨k, lab27, hzm, rfl, hv28, s29, o30, hk⟩ := H26
      replace hzm := hzm.symm; subst hzm
      have hL := beUp_length a (Int.toNat size) k
      have hL2 : (limbs a).length = nw a := rfl
      refine Run.seq ?_
      refine Run.region ?_
      refine Seq.val (Does.lss rfl rfl) (by decide) ?_
      refine Seq.go (fun _ _ h => h) ?_
      refine Run.seq ?_
      rcases bdich (decide ((((k : Nat) : Int) : Int) < ((((blen a : Nat) : Int) + 7) / 8 : Int))) with hc3 | hc3
      · skip
        have hp3 := of_decide_eq_true hc3
        refine Run.cond_b rfl hc3 ?_
        refine Run.skip_go (fun _ _ h => h) ?_
        refine Run.seq ?_
        refine Run.block ?_
        refine Run.seq ?_
        refine Run.region ?_
        refine Seq.val (Does.move rfl) (by decide) ?_
        refine Seq.val (Does.assign rfl) (by decide) ?_
        refine Seq.go (fun _ _ h => h) ?_
        refine Run.region ?_
        refine Seq.val (Does.move rfl) (by decide) ?_
        refine Seq.val (Does.move rfl) (by decide) ?_
        refine Seq.val (Does.sub rfl rfl (by first | omega | (simp; omega) | (simp at *; omega))) (by decide) ?_
        refine Seq.val (Does.move rfl) (by decide) ?_
        refine Seq.val (Does.sub rfl rfl (by first | omega | (simp; omega) | (simp at *; omega))) (by decide) ?_
        refine Seq.val (Does.fieldAddr' 0 Try.underlying60 rfl ty58 rfl rfl) (by decide) ?_
        have c32 := s21.trans s29
        have c33 := s14.trans c32
        have o31 := o7.lift c33 (by decide)
        have q35 := (NatV.pers _).step c33 q10
        have q34 := NatV.words q35
        refine Seq.val (Does.load_own1 o31 ty58 rfl rfl) (by decide) ?_
        refine Seq.val (Does.move rfl) (by decide) ?_
        refine Seq.val (Does.quo rfl rfl (by first | omega | (simp; omega) | (simp at *; omega)) (by first | omega | (simp; omega) | (simp at *; omega)) (by first | omega | (simp; omega) | (simp at *; omega))) (by decide) ?_
        refine Seq.val (Does.index_row ((((k : Nat) : Int) / 4).toNat) Try.underlying58 ty167 rfl rfl (WordsV.row q34) (by first | (simp [nw]; done) | (simp; omega)) (by first | omega | (simp; omega) | (simp at *; omega)) (by first | omega | (simp; omega) | (simp at *; omega))) (by decide) ?_
        refine Seq.val (Does.load_row ty167 rfl (WordsV.row q34) (map_get u32 _ (0 : UInt32) (by first | omega | (simp [beUp_length]; omega) | (simp [nw] at *; omega)))) (by decide) ?_
        refine Seq.val (Does.move rfl) (by decide) ?_
        refine Seq.val (Does.rem rfl rfl (by first | omega | (simp; omega) | (simp at *; omega)) (by first | omega | (simp; omega) | (simp at *; omega))) (by decide) ?_
        refine Seq.val (Does.mul rfl rfl (by first | omega | (simp; omega) | (simp at *; omega))) (by decide) ?_
        refine Seq.val (Does.u32_shr rfl rfl (by first | omega | (simp; omega) | (simp at *; omega)) (by first | omega | (simp; omega) | (simp at *; omega))) (by decide) ?_
        refine Seq.val (Does.conv_int Try.underlying167 Try.underlying5 rfl (wrap_u32_u8 _)) (by decide) ?_
        refine Seq.val (Does.index_own (((size - 1) - ((k : Nat) : Int)).toNat) Try.underlying22 ty5 rfl rfl (by first | omega | (simp; omega) | (simp at *; omega)) (by first | omega | (simp; omega) | (simp at *; omega))) (by decide) ?_
        refine Seq.store_row (k := 20) (j := (((size - 1) - ((k : Nat) : Int)).toNat)) (v := (((List.getD (limbs a) ((((k : Nat) : Int) / 4).toNat) (0 : UInt32)) >>> UInt32.ofNat (8 * (((k : Nat) : Int) % 4)).toNat).toUInt8)) u8 hv28 o30 ty5 (congrArg (fun o => some (Value.pointer (some ⟨b19, o, none⟩))) (Nat.mul_one (((size - 1) - ((k : Nat) : Int)).toNat))) rfl (by first | omega | (simp [beUp_length]; omega) | (simp [nw] at *; omega)) rfl rfl ?_
        intro w36 o37 s38 hv39
        refine Seq.go (fun _ _ h => h) ?_
        refine Run.region ?_
        refine Seq.val (Does.add rfl rfl (by first | omega | (simp; omega) | (simp at *; omega))) (by decide) ?_
        refine Seq.val (Does.move rfl) (by decide) ?_
        have c40 := s29.trans s38
        exact Seq.nil (fun a41 h42 => ⟨_, by omega, _, h42.weaken (subs_lk (l' := [(21, i64 (((k + 1) : Nat) : Int)), (0, .agg #[.slice A1 (nw a) c2]), (1, i64 size), (2, .pointer (some ⟨b6, 0, none⟩)), (4, .slice none 0 0), (5, .int .i64 0), (9, i64 size), (10, .bool (decide ((size : Int) < (0 : Int)))), (11, .agg #[.slice A1 (nw a) c2]), (12, i64 ((blen a : Nat) : Int)), (13, i64 (((blen a : Nat) : Int) + 7)), (14, i64 ((((blen a : Nat) : Int) + 7) / 8)), (6, i64 ((((blen a : Nat) : Int) + 7) / 8)), (15, i64 ((((blen a : Nat) : Int) + 7) / 8)), (16, i64 size), (17, .bool (decide ((size : Int) < ((((blen a : Nat) : Int) + 7) / 8 : Int)))), (18, i64 size), (19, .slice (some ⟨b19, 0, none⟩) ((size).toNat) ((size).toNat)), (7, .slice (some ⟨b19, 0, none⟩) ((size).toNat) ((size).toNat)), (20, i64 ((((blen a : Nat) : Int) + 7) / 8))]) ⟨(congrArg (fun z => some (i64 z)) (show (((k : Nat) : Int) + 1 : Int) = (((k + 1) : Nat) : Int) from by first | rfl | omega | (simp; done) | (simp <;> omega))), rfl, rfl, rfl, rfl, rfl, rfl, rfl, rfl, rfl, rfl, rfl, rfl, rfl, rfl, rfl, rfl, rfl, rfl, rfl, trivial⟩), ⟨k + 1, lab27, rfl, rfl, hv39, (c40.more (by decide)), ((show List.set (beUp a (Int.toNat size) k) (((size - 1) - ((k : Nat) : Int)).toNat) (((List.getD (limbs a) ((((k : Nat) : Int) / 4).toNat) (0 : UInt32)) >>> UInt32.ofNat (8 * (((k : Nat) : Int) % 4)).toNat).toUInt8) = beUp a (Int.toNat size) (k + 1) from by first | rfl | (exact (beUp_zero _ _).symm) | (exact bytes_step (by omega) (by omega)) | (simp; done)) ▸ o37), (by first | omega | (simp at *; omega))⟩⟩)
      · skip
        have hp3 := of_decide_eq_false hc3
        refine Run.cond_b rfl hc3 ?_
        refine Run.exit_go (fun _ _ h => h) ?_
        refine Run.seq ?_
        refine Run.region ?_
        refine Seq.val (Does.move rfl) (by decide) ?_
        refine Seq.val (Does.assign rfl) (by decide) ?_
        refine Seq.val (Does.assign rfl) (by decide) ?_
        refine Seq.go (fun _ _ h => h) ?_
        have c43 := s21.trans s29
        have c44 := s14.trans c43
        have c45 := s8.trans c44
        obtain ⟨zU, zo⟩ := c45.out (by decide) hv
        have hv46 := Valid.release hv28 20
        have q47 : BytesV (beUp a (Int.toNat size) k) (labFree lab27 20) w25 (.slice (some ⟨b19, 0, none⟩) ((size).toNat) ((size).toNat)) := BytesV.release o30 (by first | rfl | (simp; done) | assumption | omega | (simp; omega)) (by first | omega | (simp; omega) | (simp at *; omega))
        have c48 := c45.trans (Stp.release (lab := lab27) (w := w25) 20)
        obtain ⟨zU, zo⟩ := c48.out (by decide) hv
        refine Run.ret ?_
        exact post_two Try.results129 rfl rfl ⟨_, rfl, ⟨_, _, rfl, (BytesV.cast (show (beUp a (Int.toNat size) k) = (if size < (((blen a + 7) / 8 : Nat) : Int) then [] else beN a (Int.toNat size)) from by first | rfl | (rw [if_pos (by omega)]; done) | (rw [if_neg (by omega)]; done) | (rw [if_neg (by omega)]; exact beUp_full (Nat.lt_of_lt_of_le (lt_bytes a) (Nat.pow_le_pow_right (by omega) (by omega))); done) | (simp_all; done) | omega) ((BytesV.pers _).step zo q47)), (isI64 (show (0 : Int) = (if size < (((blen a + 7) / 8 : Nat) : Int) then 2 else 0) from by first | rfl | (rw [if_pos (by omega)]; done) | (rw [if_neg (by omega)]; done) | (rw [if_neg (by omega)]; exact beUp_full (Nat.lt_of_lt_of_le (lt_bytes a) (Nat.pow_le_pow_right (by omega) (by omega))); done) | (simp_all; done) | omega) _ _)⟩, c48.leave (by decide)⟩

theorem nat_Least {lab : Lab} {w : World} (hv : Valid lab w) {a : Nat} {v0 : Value} (h0 : NatV a lab w v0) (hn : nw a ≤ 1000000) :
    Calls Try.prog 125 #[v0] w (fun e w' => ∃ v, e = .returned v ∧ (BytesV (beN a ((blen a + 7) / 8))) lab w' v ∧ Below w.heap.size w w') := by
  have hv0 := hv.ent
  obtain ⟨zU0, z00⟩ := ent_step lab w
  replace h0 := (NatV.pers _).step z00 h0
  obtain ⟨A1, c2, rfl⟩ := NatV.shape h0
  have z3 := NatV.cap h0
  have hB := blen_le_nw a
  refine calls_run Try.func125 rfl Try.ntmps125 (Nat.le_of_ble_eq_true rfl) ?_
  refine Run.seq ?_
  refine Run.region ?_
  refine Seq.box (k := 2) [.slice A1 (nw a) c2] hv0 rfl rfl (by decide) ?_
  intro lab4 w5 b6 o7 s8 hv9
  refine Seq.val (Does.assign rfl) (by decide) ?_
  refine Seq.go (fun _ _ h => h) ?_
  refine Run.seq ?_
  refine Run.any (m := 10) mixed (by kernel_rfl) hv9 (phi [Is (.agg #[.slice A1 (nw a) c2]), Is (.agg #[.slice A1 (nw a) c2]), Is (i64 ((blen a : Nat) : Int)), Is (i64 (((blen a : Nat) : Int) + 7)), Is (i64 ((((blen a : Nat) : Int) + 7) / 8)), And2 (BytesV (if ((((blen a : Nat) : Int) + 7) / 8) < (((blen a + 7) / 8 : Nat) : Int) then [] else beN a (Int.toNat ((((blen a : Nat) : Int) + 7) / 8)))) (Is (i64 (if ((((blen a : Nat) : Int) + 7) / 8) < (((blen a + 7) / 8 : Nat) : Int) then 2 else 0))), And2 (BytesV (if ((((blen a : Nat) : Int) + 7) / 8) < (((blen a + 7) / 8 : Nat) : Int) then [] else beN a (Int.toNat ((((blen a : Nat) : Int) + 7) / 8)))) (Is (i64 (if ((((blen a : Nat) : Int) + 7) / 8) < (((blen a + 7) / 8 : Nat) : Int) then 2 else 0))), BytesV (if ((((blen a : Nat) : Int) + 7) / 8) < (((blen a + 7) / 8 : Nat) : Int) then [] else beN a (Int.toNat ((((blen a : Nat) : Int) + 7) / 8))), Is (i64 (if ((((blen a : Nat) : Int) + 7) / 8) < (((blen a + 7) / 8 : Nat) : Int) then 2 else 0)), BytesV (if ((((blen a : Nat) : Int) + 7) / 8) < (((blen a + 7) / 8 : Nat) : Int) then [] else beN a (Int.toNat ((((blen a : Nat) : Int) + 7) / 8)))]) (phi_pers (L := [Is (.agg #[.slice A1 (nw a) c2]), Is (.agg #[.slice A1 (nw a) c2]), Is (i64 ((blen a : Nat) : Int)), Is (i64 (((blen a : Nat) : Int) + 7)), Is (i64 ((((blen a : Nat) : Int) + 7) / 8)), And2 (BytesV (if ((((blen a : Nat) : Int) + 7) / 8) < (((blen a + 7) / 8 : Nat) : Int) then [] else beN a (Int.toNat ((((blen a : Nat) : Int) + 7) / 8)))) (Is (i64 (if ((((blen a : Nat) : Int) + 7) / 8) < (((blen a + 7) / 8 : Nat) : Int) then 2 else 0))), And2 (BytesV (if ((((blen a : Nat) : Int) + 7) / 8) < (((blen a + 7) / 8 : Nat) : Int) then [] else beN a (Int.toNat ((((blen a : Nat) : Int) + 7) / 8)))) (Is (i64 (if ((((blen a : Nat) : Int) + 7) / 8) < (((blen a + 7) / 8 : Nat) : Int) then 2 else 0))), BytesV (if ((((blen a : Nat) : Int) + 7) / 8) < (((blen a + 7) / 8 : Nat) : Int) then [] else beN a (Int.toNat ((((blen a : Nat) : Int) + 7) / 8))), Is (i64 (if ((((blen a : Nat) : Int) + 7) / 8) < (((blen a + 7) / 8 : Nat) : Int) then 2 else 0)), BytesV (if ((((blen a : Nat) : Int) + 7) / 8) < (((blen a + 7) / 8 : Nat) : Int) then [] else beN a (Int.toNat ((((blen a : Nat) : Int) + 7) / 8)))]) ⟨Pers.z (Is.pers _), Pers.z (Is.pers _), Pers.z (Is.pers _), Pers.z (Is.pers _), Pers.z (Is.pers _), Pers.z (And2.pers (BytesV.pers _) (Is.pers _)), Pers.z (And2.pers (BytesV.pers _) (Is.pers _)), Pers.z (BytesV.pers _), Pers.z (Is.pers _), Pers.z (BytesV.pers _), trivial⟩) ?_ ?_
  · intro wz z0
    refine laws (n := 10) ⟨?_, ?_, ?_, ?_, ?_, ?_, ?_, ?_, ?_, ?_, trivial⟩
    · refine law_val rfl (by decide) fun lab10 w11 a12 hv13 s14 f15 d16 => ?_
      have o17 := o7.lift (z0.trans s14) (by decide)
      exact ⟨_, _, _, _, f15, Does.load_ownN [.slice A1 (nw a) c2] o17 ty60 rfl rfl, hv13, Stp.refl _ _, rfl⟩
    · refine law_val rfl (by decide) fun lab18 w19 a20 hv21 s22 f23 d24 => ?_
      have o25 := o7.lift (z0.trans s22) (by decide)
      exact ⟨_, _, _, _, f23, Does.load_ownN [.slice A1 (nw a) c2] o25 ty60 rfl rfl, hv21, Stp.refl _ _, rfl⟩
    · refine law_call rfl (by decide) cal113 fun lab26 w27 a28 hv29 s30 f31 d32 => ?_
      obtain ⟨v33, e34, q35⟩ := d32 1 rfl 7 rfl
      replace q35 : (Is (.agg #[.slice A1 (nw a) c2])) lab26 w27 v33 := q35
      replace q35 := Is.out q35; subst q35
      have f36 := f31.ext e34
      have c38 := s8.trans (z0.trans s30)
      have q37 := (NatV.pers _).step c38 h0
      exact ⟨_, _, f36, rfl, (nat_Bits hv29 q37 (show nw a ≤ 1000000 from by first | omega | assumption))⟩
    · refine law_val rfl (by decide) fun lab39 w40 a41 hv42 s43 f44 d45 => ?_
      obtain ⟨v46, e47, q48⟩ := d45 2 rfl 8 rfl
      replace q48 : (Is (i64 ((blen a : Nat) : Int))) lab39 w40 v46 := q48
      have q48 := Is.out q48; subst q48
      have f49 := f44.ext e47
      exact ⟨_, _, _, _, f49, Does.add rfl rfl (by first | omega | (simp; omega)), hv42, Stp.refl _ _, rfl⟩
    · refine law_val rfl (by decide) fun lab50 w51 a52 hv53 s54 f55 d56 => ?_
      obtain ⟨v57, e58, q59⟩ := d56 3 rfl 9 rfl
      replace q59 : (Is (i64 (((blen a : Nat) : Int) + 7))) lab50 w51 v57 := q59
      replace q59 := Is.out q59; subst q59
      have f60 := f55.ext e58
      exact ⟨_, _, _, _, f60, Does.quo rfl rfl (by first | omega | (simp; omega)) (by first | omega | (simp; omega)) (by first | omega | (simp; omega)), hv53, Stp.refl _ _, rfl⟩
    · refine law_call rfl (by decide) cal129 fun lab61 w62 a63 hv64 s65 f66 d67 => ?_
      obtain ⟨v68, e69, q70⟩ := d67 0 rfl 6 rfl
      replace q70 : (Is (.agg #[.slice A1 (nw a) c2])) lab61 w62 v68 := q70
      replace q70 := Is.out q70; subst q70
      have f71 := f66.ext e69
      obtain ⟨v72, e73, q74⟩ := d67 4 rfl 10 rfl
      replace q74 : (Is (i64 ((((blen a : Nat) : Int) + 7) / 8))) lab61 w62 v72 := q74
      replace q74 := Is.out q74; subst q74
      have f75 := f71.ext e73
      have c77 := s8.trans (z0.trans s65)
      have q76 := (NatV.pers _).step c77 h0
      exact ⟨_, _, f75, rfl, (nat_Bytes hv64 (size := (((blen a : Nat) : Int) + 7) / 8) q76 (show nw a ≤ 1000000 from by first | omega | assumption) (show 0 ≤ ((((blen a : Nat) : Int) + 7) / 8) ∧ ((((blen a : Nat) : Int) + 7) / 8) ≤ 10000000 from by first | omega | assumption))⟩
    · refine law_val rfl (by decide) fun lab78 w79 a80 hv81 s82 f83 d84 => ?_
      obtain ⟨v85, e86, q87⟩ := d84 5 rfl 11 rfl
      replace q87 : (And2 (BytesV (if ((((blen a : Nat) : Int) + 7) / 8) < (((blen a + 7) / 8 : Nat) : Int) then [] else beN a (Int.toNat ((((blen a : Nat) : Int) + 7) / 8)))) (Is (i64 (if ((((blen a : Nat) : Int) + 7) / 8) < (((blen a + 7) / 8 : Nat) : Int) then 2 else 0)))) lab78 w79 v85 := q87
      obtain ⟨v88, v89, rfl, q90, q91⟩ := q87
      obtain ⟨A92, c93, rfl⟩ := BytesV.shape q90
      have z94 := BytesV.cap q90
      have q91 := Is.out q91; subst q91
      have f95 := f83.ext e86
      exact ⟨_, _, _, _, f95, Does.move rfl, hv81, Stp.refl _ _, ⟨_, _, rfl, q90, rfl⟩⟩
    · refine law_val rfl (by decide) fun lab96 w97 a98 hv99 s100 f101 d102 => ?_
      obtain ⟨v103, e104, q105⟩ := d102 6 rfl 5 rfl
      replace q105 : (And2 (BytesV (if ((((blen a : Nat) : Int) + 7) / 8) < (((blen a + 7) / 8 : Nat) : Int) then [] else beN a (Int.toNat ((((blen a : Nat) : Int) + 7) / 8)))) (Is (i64 (if ((((blen a : Nat) : Int) + 7) / 8) < (((blen a + 7) / 8 : Nat) : Int) then 2 else 0)))) lab96 w97 v103 := q105
      obtain ⟨v106, v107, rfl, q108, q109⟩ := q105
      obtain ⟨A110, c111, rfl⟩ := BytesV.shape q108
      have z112 := BytesV.cap q108
      have q109 := Is.out q109; subst q109
      have f113 := f101.ext e104
      exact ⟨_, _, _, _, f113, Does.extract rfl rfl, hv99, Stp.refl _ _, q108⟩
    · refine law_val rfl (by decide) fun lab114 w115 a116 hv117 s118 f119 d120 => ?_
      obtain ⟨v121, e122, q123⟩ := d120 6 rfl 5 rfl
      replace q123 : (And2 (BytesV (if ((((blen a : Nat) : Int) + 7) / 8) < (((blen a + 7) / 8 : Nat) : Int) then [] else beN a (Int.toNat ((((blen a : Nat) : Int) + 7) / 8)))) (Is (i64 (if ((((blen a : Nat) : Int) + 7) / 8) < (((blen a + 7) / 8 : Nat) : Int) then 2 else 0)))) lab114 w115 v121 := q123
      obtain ⟨v124, v125, rfl, q126, q127⟩ := q123
      obtain ⟨A128, c129, rfl⟩ := BytesV.shape q126
      have z130 := BytesV.cap q126
      have q127 := Is.out q127; subst q127
      have f131 := f119.ext e122
      exact ⟨_, _, _, _, f131, Does.extract rfl rfl, hv117, Stp.refl _ _, rfl⟩
    · refine law_val rfl (by decide) fun lab132 w133 a134 hv135 s136 f137 d138 => ?_
      obtain ⟨v139, e140, q141⟩ := d138 7 rfl 12 rfl
      replace q141 : (BytesV (if ((((blen a : Nat) : Int) + 7) / 8) < (((blen a + 7) / 8 : Nat) : Int) then [] else beN a (Int.toNat ((((blen a : Nat) : Int) + 7) / 8)))) lab132 w133 v139 := q141
      obtain ⟨A142, c143, rfl⟩ := BytesV.shape q141
      have z144 := BytesV.cap q141
      have f145 := f137.ext e140
      exact ⟨_, _, _, _, f145, Does.assign rfl, hv135, Stp.refl _ _, q141⟩
  · skip
    intro lab146 w147 a148 hv149 s150 f151 hl152
    obtain ⟨v153, e154, q155⟩ := hl152 8 (by decide) 13 rfl
    replace q155 : (Is (i64 (if ((((blen a : Nat) : Int) + 7) / 8) < (((blen a + 7) / 8 : Nat) : Int) then 2 else 0))) lab146 w147 v153 := q155
    replace q155 := Is.out q155; subst q155
    have f156 := f151.ext e154
    obtain ⟨v157, e158, q159⟩ := hl152 9 (by decide) 3 rfl
    replace q159 : (BytesV (if ((((blen a : Nat) : Int) + 7) / 8) < (((blen a + 7) / 8 : Nat) : Int) then [] else beN a (Int.toNat ((((blen a : Nat) : Int) + 7) / 8)))) lab146 w147 v157 := q159
    obtain ⟨A160, c161, rfl⟩ := BytesV.shape q159
    have z162 := BytesV.cap q159
    have f163 := f156.ext e158
    refine Seq.start (m := 10) f163 ?_
    refine Seq.val (Does.assign rfl) (by decide) ?_
    refine Seq.go (fun _ _ h => h) ?_
    refine Run.seq ?_
    refine Run.region ?_
    refine Seq.val (Does.move rfl) (by decide) ?_
    refine Seq.val (Does.assign rfl) (by decide) ?_
    refine Seq.go (fun _ _ h => h) ?_
    have c164 := s8.trans s150
    obtain ⟨zU, zo⟩ := c164.out (by decide) hv
    refine Run.ret ?_
    exact post_one Try.results125 rfl ⟨_, rfl, (BytesV.cast (show (if ((((blen a : Nat) : Int) + 7) / 8) < (((blen a + 7) / 8 : Nat) : Int) then [] else beN a (Int.toNat ((((blen a : Nat) : Int) + 7) / 8))) = (beN a ((blen a + 7) / 8)) from by first | rfl | (rw [if_neg (by omega), show Int.toNat ((((blen a : Nat) : Int) + 7) / 8) = (blen a + 7) / 8 by omega]; done) | (simp_all; done) | omega) ((BytesV.pers _).step zo q159)), c164.leave (by decide)⟩

end Go.Proofs.Ytgfomedobfaidaa
