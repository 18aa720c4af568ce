import Derived.Test.YtgfomedobfaidaaMSignBack6
set_option maxHeartbeats 8000000
set_option maxRecDepth 1000000
/-
  The row of SignBack: that the law answers true of every input; part 7 of 10: what the proof needs, in order.
-/
section
set_option linter.unusedVariables false
set_option linter.unusedSimpArgs false
namespace Go.Proofs.Ytgfomedobfaidaa
open Go.RowKit
theorem Jl {lab : Lab} {w : World} (hv : Ql lab w) {x : UInt32} {k : Int} (hk : 0 < (YG k &&& 31).toNat) :
  Calls Try.prog 189 #[u32 x, i64 k] w (fun e w' => ∃ v, e = .returned v ∧ (Is (u32 (JM x k))) lab w' v ∧ Below w.heap.size w w') := by
 obtain ⟨L0, h0L, ⟨zU0, z00⟩, hX⟩ := QZ hv
 have h1k := QkG (YG k)
 have h2k := Qlc (YG k)
 refine Qu Try.func189 rfl Try.ntmps189 (lB9 rfl) ?_
 refine rsr ?_
 refine sv (Qa.assign rfl) ?_
 refine nsr ?_
 refine sv (Qa.move rfl) ?_
 refine sv (Qz Try.underlying3 Try.underlying50 rfl (XL _)) ?_
 refine sv (Qbi (b := (31 : UInt64)) rfl rfl) ?_
 refine sv (Qa.assign rfl) ?_
 refine nsr ?_
 refine sv (Qa.move rfl) ?_
 refine sv (Qa.move rfl) ?_
 refine sv (Yh (b := ((((YG k) &&& (31 : UInt64)).toNat : Nat) : Int)) rfl rfl (by omega) (by omega)) ?_
 refine sv (Qa.move rfl) ?_
 refine sv (Qa.move rfl) ?_
 refine sv (Qbg (a := (32 : UInt64)) rfl rfl) ?_
 refine sv (J7 (b := ((((32 : UInt64) - ((YG k) &&& (31 : UInt64))).toNat : Nat) : Int)) rfl rfl (by omega) (by omega)) ?_
 refine sv (Z9 rfl rfl) ?_
 refine sv (Qa.assign rfl) ?_
 refine Seq.next ?_
 have z9 := Stp.refl L0 w
 obtain ⟨⟨zU, zo⟩, zb⟩ := hX z9 (by decide)
 refine Run.ret ?_
 exact Qm Try.results189 rfl ⟨_, rfl, (QbM (by rfl) _ _), zb⟩
theorem Qeq {lab : Lab} {w : World} (hv : Ql lab w) :
  Calls Try.prog 171 #[] w (fun e w' => ∃ v, e = .returned v ∧ (Is (.agg (List.map u32 QjN).toArray)) lab w' v ∧ Below w.heap.size w w') := by
 obtain ⟨L0, h0L, ⟨zU0, z00⟩, hX⟩ := QZ hv
 refine Qu Try.func171 rfl Try.ntmps171 (lB9 rfl) ?_
 refine rsr ?_
 refine QM 1 [.int .u32 0, .int .u32 0, .int .u32 0, .int .u32 0, .int .u32 0, .int .u32 0, .int .u32 0, .int .u32 0] h0L VM rfl fun b3 L1 w2 o4 s5 h6 => ?_
 refine nsr ?_
 refine sv (X7 [(0, .int .u32 1779033703), (1, .int .u32 3144134277), (2, .int .u32 1013904242), (3, .int .u32 2773480762), (4, .int .u32 1359893119), (5, .int .u32 2600822924), (6, .int .u32 528734635), (7, .int .u32 1541459225)] [.int .u32 1779033703, .int .u32 3144134277, .int .u32 1013904242, .int .u32 2773480762, .int .u32 1359893119, .int .u32 2600822924, .int .u32 528734635, .int .u32 1541459225] (n := 8) (by kernel_rfl) VM Qx rfl (by kernel_rfl)) ?_
 refine Q2 [.int .u32 1779033703, .int .u32 3144134277, .int .u32 1013904242, .int .u32 2773480762, .int .u32 1359893119, .int .u32 2600822924, .int .u32 528734635, .int .u32 1541459225] h6 o4 VM rfl rfl rfl (lB9 rfl) rfl rfl fun w7 o8 s9 h10 => ?_
 refine Seq.next ?_
 have c11 := s5.trans s9
 obtain ⟨⟨zU, zo⟩, zb⟩ := hX c11 (by decide)
 refine Run.ret ?_
 exact Qm Try.results171 ⟨_, rfl, Q6 [.int .u32 1779033703, .int .u32 3144134277, .int .u32 1013904242, .int .u32 2773480762, .int .u32 1359893119, .int .u32 2600822924, .int .u32 528734635, .int .u32 1541459225] o8 VM rfl⟩ ⟨_, rfl, (by unfold Is; kernel_rfl), zb⟩
theorem UF {lab : Lab} {w : World} (hv : Ql lab w) :
  Calls Try.prog 190 #[] w (fun e w' => ∃ v, e = .returned v ∧ (Is (.agg (List.map u32 Qbp).toArray)) lab w' v ∧ Below w.heap.size w w') := by
 obtain ⟨L0, h0L, ⟨zU0, z00⟩, hX⟩ := QZ hv
 refine Qu Try.func190 rfl Try.ntmps190 (lB9 rfl) ?_
 refine rsr ?_
 refine QM 1 [.int .u32 0, .int .u32 0, .int .u32 0, .int .u32 0, .int .u32 0, .int .u32 0, .int .u32 0, .int .u32 0, .int .u32 0, .int .u32 0, .int .u32 0, .int .u32 0, .int .u32 0, .int .u32 0, .int .u32 0, .int .u32 0, .int .u32 0, .int .u32 0, .int .u32 0, .int .u32 0, .int .u32 0, .int .u32 0, .int .u32 0, .int .u32 0, .int .u32 0, .int .u32 0, .int .u32 0, .int .u32 0, .int .u32 0, .int .u32 0, .int .u32 0, .int .u32 0, .int .u32 0, .int .u32 0, .int .u32 0, .int .u32 0, .int .u32 0, .int .u32 0, .int .u32 0, .int .u32 0, .int .u32 0, .int .u32 0, .int .u32 0, .int .u32 0, .int .u32 0, .int .u32 0, .int .u32 0, .int .u32 0, .int .u32 0, .int .u32 0, .int .u32 0, .int .u32 0, .int .u32 0, .int .u32 0, .int .u32 0, .int .u32 0, .int .u32 0, .int .u32 0, .int .u32 0, .int .u32 0, .int .u32 0, .int .u32 0, .int .u32 0, .int .u32 0] h0L Qea rfl fun b3 L1 w2 o4 s5 h6 => ?_
 refine nsr ?_
 refine sv (X7 [(0, .int .u32 1116352408), (1, .int .u32 1899447441), (2, .int .u32 3049323471), (3, .int .u32 3921009573), (4, .int .u32 961987163), (5, .int .u32 1508970993), (6, .int .u32 2453635748), (7, .int .u32 2870763221), (8, .int .u32 3624381080), (9, .int .u32 310598401), (10, .int .u32 607225278), (11, .int .u32 1426881987), (12, .int .u32 1925078388), (13, .int .u32 2162078206), (14, .int .u32 2614888103), (15, .int .u32 3248222580), (16, .int .u32 3835390401), (17, .int .u32 4022224774), (18, .int .u32 264347078), (19, .int .u32 604807628), (20, .int .u32 770255983), (21, .int .u32 1249150122), (22, .int .u32 1555081692), (23, .int .u32 1996064986), (24, .int .u32 2554220882), (25, .int .u32 2821834349), (26, .int .u32 2952996808), (27, .int .u32 3210313671), (28, .int .u32 3336571891), (29, .int .u32 3584528711), (30, .int .u32 113926993), (31, .int .u32 338241895), (32, .int .u32 666307205), (33, .int .u32 773529912), (34, .int .u32 1294757372), (35, .int .u32 1396182291), (36, .int .u32 1695183700), (37, .int .u32 1986661051), (38, .int .u32 2177026350), (39, .int .u32 2456956037), (40, .int .u32 2730485921), (41, .int .u32 2820302411), (42, .int .u32 3259730800), (43, .int .u32 3345764771), (44, .int .u32 3516065817), (45, .int .u32 3600352804), (46, .int .u32 4094571909), (47, .int .u32 275423344), (48, .int .u32 430227734), (49, .int .u32 506948616), (50, .int .u32 659060556), (51, .int .u32 883997877), (52, .int .u32 958139571), (53, .int .u32 1322822218), (54, .int .u32 1537002063), (55, .int .u32 1747873779), (56, .int .u32 1955562222), (57, .int .u32 2024104815), (58, .int .u32 2227730452), (59, .int .u32 2361852424), (60, .int .u32 2428436474), (61, .int .u32 2756734187), (62, .int .u32 3204031479), (63, .int .u32 3329325298)] [.int .u32 1116352408, .int .u32 1899447441, .int .u32 3049323471, .int .u32 3921009573, .int .u32 961987163, .int .u32 1508970993, .int .u32 2453635748, .int .u32 2870763221, .int .u32 3624381080, .int .u32 310598401, .int .u32 607225278, .int .u32 1426881987, .int .u32 1925078388, .int .u32 2162078206, .int .u32 2614888103, .int .u32 3248222580, .int .u32 3835390401, .int .u32 4022224774, .int .u32 264347078, .int .u32 604807628, .int .u32 770255983, .int .u32 1249150122, .int .u32 1555081692, .int .u32 1996064986, .int .u32 2554220882, .int .u32 2821834349, .int .u32 2952996808, .int .u32 3210313671, .int .u32 3336571891, .int .u32 3584528711, .int .u32 113926993, .int .u32 338241895, .int .u32 666307205, .int .u32 773529912, .int .u32 1294757372, .int .u32 1396182291, .int .u32 1695183700, .int .u32 1986661051, .int .u32 2177026350, .int .u32 2456956037, .int .u32 2730485921, .int .u32 2820302411, .int .u32 3259730800, .int .u32 3345764771, .int .u32 3516065817, .int .u32 3600352804, .int .u32 4094571909, .int .u32 275423344, .int .u32 430227734, .int .u32 506948616, .int .u32 659060556, .int .u32 883997877, .int .u32 958139571, .int .u32 1322822218, .int .u32 1537002063, .int .u32 1747873779, .int .u32 1955562222, .int .u32 2024104815, .int .u32 2227730452, .int .u32 2361852424, .int .u32 2428436474, .int .u32 2756734187, .int .u32 3204031479, .int .u32 3329325298] (n := 64) (by kernel_rfl) Qea Qx rfl (by kernel_rfl)) ?_
 refine Q2 [.int .u32 1116352408, .int .u32 1899447441, .int .u32 3049323471, .int .u32 3921009573, .int .u32 961987163, .int .u32 1508970993, .int .u32 2453635748, .int .u32 2870763221, .int .u32 3624381080, .int .u32 310598401, .int .u32 607225278, .int .u32 1426881987, .int .u32 1925078388, .int .u32 2162078206, .int .u32 2614888103, .int .u32 3248222580, .int .u32 3835390401, .int .u32 4022224774, .int .u32 264347078, .int .u32 604807628, .int .u32 770255983, .int .u32 1249150122, .int .u32 1555081692, .int .u32 1996064986, .int .u32 2554220882, .int .u32 2821834349, .int .u32 2952996808, .int .u32 3210313671, .int .u32 3336571891, .int .u32 3584528711, .int .u32 113926993, .int .u32 338241895, .int .u32 666307205, .int .u32 773529912, .int .u32 1294757372, .int .u32 1396182291, .int .u32 1695183700, .int .u32 1986661051, .int .u32 2177026350, .int .u32 2456956037, .int .u32 2730485921, .int .u32 2820302411, .int .u32 3259730800, .int .u32 3345764771, .int .u32 3516065817, .int .u32 3600352804, .int .u32 4094571909, .int .u32 275423344, .int .u32 430227734, .int .u32 506948616, .int .u32 659060556, .int .u32 883997877, .int .u32 958139571, .int .u32 1322822218, .int .u32 1537002063, .int .u32 1747873779, .int .u32 1955562222, .int .u32 2024104815, .int .u32 2227730452, .int .u32 2361852424, .int .u32 2428436474, .int .u32 2756734187, .int .u32 3204031479, .int .u32 3329325298] h6 o4 Qea rfl rfl rfl (lB9 rfl) rfl rfl fun w7 o8 s9 h10 => ?_
 refine Seq.next ?_
 have c11 := s5.trans s9
 obtain ⟨⟨zU, zo⟩, zb⟩ := hX c11 (by decide)
 refine Run.ret ?_
 exact Qm Try.results190 ⟨_, rfl, Q6 [.int .u32 1116352408, .int .u32 1899447441, .int .u32 3049323471, .int .u32 3921009573, .int .u32 961987163, .int .u32 1508970993, .int .u32 2453635748, .int .u32 2870763221, .int .u32 3624381080, .int .u32 310598401, .int .u32 607225278, .int .u32 1426881987, .int .u32 1925078388, .int .u32 2162078206, .int .u32 2614888103, .int .u32 3248222580, .int .u32 3835390401, .int .u32 4022224774, .int .u32 264347078, .int .u32 604807628, .int .u32 770255983, .int .u32 1249150122, .int .u32 1555081692, .int .u32 1996064986, .int .u32 2554220882, .int .u32 2821834349, .int .u32 2952996808, .int .u32 3210313671, .int .u32 3336571891, .int .u32 3584528711, .int .u32 113926993, .int .u32 338241895, .int .u32 666307205, .int .u32 773529912, .int .u32 1294757372, .int .u32 1396182291, .int .u32 1695183700, .int .u32 1986661051, .int .u32 2177026350, .int .u32 2456956037, .int .u32 2730485921, .int .u32 2820302411, .int .u32 3259730800, .int .u32 3345764771, .int .u32 3516065817, .int .u32 3600352804, .int .u32 4094571909, .int .u32 275423344, .int .u32 430227734, .int .u32 506948616, .int .u32 659060556, .int .u32 883997877, .int .u32 958139571, .int .u32 1322822218, .int .u32 1537002063, .int .u32 1747873779, .int .u32 1955562222, .int .u32 2024104815, .int .u32 2227730452, .int .u32 2361852424, .int .u32 2428436474, .int .u32 2756734187, .int .u32 3204031479, .int .u32 3329325298] o8 Qea rfl⟩ ⟨_, rfl, (by unfold Is; kernel_rfl), zb⟩
theorem Qer {lab : Lab} {w : World} (hv : Ql lab w) {t_d t_b t_t : Nat} {t : List UInt32} {t_r : List Value} (h0 : Own lab w t_d t_b t_t (List.map u32 t ++ t_r).toArray) (h0b : List.length t = 8) {b : List UInt8} {v1 : Value} (h1 : Qe b lab w v1) (hb : List.length b = 64) :
  Calls Try.prog 172 #[.pointer (some ⟨t_b, 0, none⟩), v1] w (Eff [t_d] lab w (QhQ (Is (.tuple #[])) (fun lab' w' => Own lab' w' t_d t_b t_t (List.map u32 (Qip t b) ++ t_r).toArray))) := by
 obtain ⟨L0, h0L, ⟨zU0, z00⟩, hO, hA, hX⟩ := QcF [(t_d, 1)] hv
 replace h0 := hO 1 (by simp [Kn]) h0
 replace h1 := up z00 h1
 obtain ⟨A1, c2, rfl⟩ := Qe.shape h1
 have z3 := Qe.cap h1
 have hK : List.length Qbp = 64 := rfl
 refine Qu Try.func172 rfl Try.ntmps172 (lB9 rfl) ?_
 refine rsr ?_
 refine QM 5 [.int .u32 0, .int .u32 0, .int .u32 0, .int .u32 0, .int .u32 0, .int .u32 0, .int .u32 0, .int .u32 0, .int .u32 0, .int .u32 0, .int .u32 0, .int .u32 0, .int .u32 0, .int .u32 0, .int .u32 0, .int .u32 0, .int .u32 0, .int .u32 0, .int .u32 0, .int .u32 0, .int .u32 0, .int .u32 0, .int .u32 0, .int .u32 0, .int .u32 0, .int .u32 0, .int .u32 0, .int .u32 0, .int .u32 0, .int .u32 0, .int .u32 0, .int .u32 0, .int .u32 0, .int .u32 0, .int .u32 0, .int .u32 0, .int .u32 0, .int .u32 0, .int .u32 0, .int .u32 0, .int .u32 0, .int .u32 0, .int .u32 0, .int .u32 0, .int .u32 0, .int .u32 0, .int .u32 0, .int .u32 0, .int .u32 0, .int .u32 0, .int .u32 0, .int .u32 0, .int .u32 0, .int .u32 0, .int .u32 0, .int .u32 0, .int .u32 0, .int .u32 0, .int .u32 0, .int .u32 0, .int .u32 0, .int .u32 0, .int .u32 0, .int .u32 0] h0L Qea rfl fun b6 L4 w5 o7 s8 h9 => ?_
 have n10 : Own L4 w5 5 b6 227 (List.map u32 (List.replicate 64 (0 : UInt32)) ++ []).toArray := o7
 refine Seq.next ?_
 refine Run.seq ?_
 refine rsr ?_
 refine sv (Qa.move rfl) ?_
 refine Seq.next ?_
 refine Run.block ?_
 refine Run.loop (fun m' l' w' => ∃ (i1 : Nat) (lab' : Lab), m' = 16 - i1 ∧ l' = [(17, i64 ((i1 : Nat) : Int)), (0, .pointer (some ⟨t_b, 0, none⟩)), (1, .slice A1 (List.length b) c2), (4, .pointer (some ⟨b6, 0, none⟩))] ∧ Ql lab' w' ∧ Stp [5] L4 w5 lab' w' ∧ Own lab' w' 5 b6 227 (List.map u32 (JK (sch b i1)) ++ []).toArray ∧ (i1 ≤ 16)) (16 - 0) (l0 := [(17, i64 ((0 : Nat) : Int)), (0, .pointer (some ⟨t_b, 0, none⟩)), (1, .slice A1 (List.length b) c2), (4, .pointer (some ⟨b6, 0, none⟩))]) ⟨(congrArg (fun z => some (i64 z)) (show (0 : Int) = ((0 : Nat) : Int) from by rfl)), rfl, rfl, rfl, trivial⟩ ⟨0, L4, rfl, rfl, h9, ((Stp.refl _ _).more (by simp)), ((show List.replicate 64 (0 : UInt32) = JK (sch b 0) from by exact Qg8) ▸ n10), (by omega)⟩ ?_
 intro m11 l12 w13 H14
 obtain ⟨i1, lab15, hzm, rfl, hv16, s17, o18, hi1⟩ := H14
 replace hzm := hzm.symm; subst hzm
 refine rsr ?_
 refine sv (Qa.lss rfl rfl) ?_
 refine Seq.next ?_
 refine Run.seq ?_
 rcases Decidable.em ((((i1 : Nat) : Int) : Int) < (16 : Int)) with hp1 | hp1
 ·refine Qc rfl (dT9 hp1) ?_
  refine Qg (fun _ _ h => h) ?_
  refine Run.seq ?_
  refine Run.block ?_
  refine rsr ?_
  refine sv (Qa.move rfl) ?_
  refine sv (Qa.assign rfl) ?_
  refine Seq.next ?_
  refine Run.open 35 (Φ := ((.ex (i64 ((i1 : Nat) : Int))) :: (.ex (.slice A1 (List.length b) c2)) :: (.ex (i64 ((i1 : Nat) : Int))) :: (.ex (i64 (4 * ((i1 : Nat) : Int)))) :: (.v (ElV (List.map u8 b) ((4 * ((i1 : Nat) : Int)).toNat))) :: (.ex (u8 (List.getD b ((4 * ((i1 : Nat) : Int)).toNat) (0 : UInt8)))) :: (.ex (u32 ((List.getD b ((4 * ((i1 : Nat) : Int)).toNat) (0 : UInt8)).toUInt32))) :: (.ex (u32 (((List.getD b ((4 * ((i1 : Nat) : Int)).toNat) (0 : UInt8)).toUInt32) <<< UInt32.ofNat 24))) :: (.ex (.slice A1 (List.length b) c2)) :: (.ex (i64 ((i1 : Nat) : Int))) :: (.ex (i64 (4 * ((i1 : Nat) : Int)))) :: (.ex (i64 ((4 * ((i1 : Nat) : Int)) + 1))) :: (.v (ElV (List.map u8 b) (((4 * ((i1 : Nat) : Int)) + 1).toNat))) :: (.ex (u8 (List.getD b (((4 * ((i1 : Nat) : Int)) + 1).toNat) (0 : UInt8)))) :: (.ex (u32 ((List.getD b (((4 * ((i1 : Nat) : Int)) + 1).toNat) (0 : UInt8)).toUInt32))) :: (.ex (u32 (((List.getD b (((4 * ((i1 : Nat) : Int)) + 1).toNat) (0 : UInt8)).toUInt32) <<< UInt32.ofNat 16))) :: (.ex (u32 ((((List.getD b ((4 * ((i1 : Nat) : Int)).toNat) (0 : UInt8)).toUInt32) <<< UInt32.ofNat 24) ||| (((List.getD b (((4 * ((i1 : Nat) : Int)) + 1).toNat) (0 : UInt8)).toUInt32) <<< UInt32.ofNat 16)))) :: (.ex (.slice A1 (List.length b) c2)) :: (.ex (i64 ((i1 : Nat) : Int))) :: (.ex (i64 (4 * ((i1 : Nat) : Int)))) :: (.ex (i64 ((4 * ((i1 : Nat) : Int)) + 2))) :: (.v (ElV (List.map u8 b) (((4 * ((i1 : Nat) : Int)) + 2).toNat))) :: (.ex (u8 (List.getD b (((4 * ((i1 : Nat) : Int)) + 2).toNat) (0 : UInt8)))) :: (.ex (u32 ((List.getD b (((4 * ((i1 : Nat) : Int)) + 2).toNat) (0 : UInt8)).toUInt32))) :: (.ex (u32 (((List.getD b (((4 * ((i1 : Nat) : Int)) + 2).toNat) (0 : UInt8)).toUInt32) <<< UInt32.ofNat 8))) :: (.ex (u32 (((((List.getD b ((4 * ((i1 : Nat) : Int)).toNat) (0 : UInt8)).toUInt32) <<< UInt32.ofNat 24) ||| (((List.getD b (((4 * ((i1 : Nat) : Int)) + 1).toNat) (0 : UInt8)).toUInt32) <<< UInt32.ofNat 16)) ||| (((List.getD b (((4 * ((i1 : Nat) : Int)) + 2).toNat) (0 : UInt8)).toUInt32) <<< UInt32.ofNat 8)))) :: (.ex (.slice A1 (List.length b) c2)) :: (.ex (i64 ((i1 : Nat) : Int))) :: (.ex (i64 (4 * ((i1 : Nat) : Int)))) :: (.ex (i64 ((4 * ((i1 : Nat) : Int)) + 3))) :: (.v (ElV (List.map u8 b) (((4 * ((i1 : Nat) : Int)) + 3).toNat))) :: (.ex (u8 (List.getD b (((4 * ((i1 : Nat) : Int)) + 3).toNat) (0 : UInt8)))) :: (.ex (u32 ((List.getD b (((4 * ((i1 : Nat) : Int)) + 3).toNat) (0 : UInt8)).toUInt32))) :: (.ex (u32 ((((((List.getD b ((4 * ((i1 : Nat) : Int)).toNat) (0 : UInt8)).toUInt32) <<< UInt32.ofNat 24) ||| (((List.getD b (((4 * ((i1 : Nat) : Int)) + 1).toNat) (0 : UInt8)).toUInt32) <<< UInt32.ofNat 16)) ||| (((List.getD b (((4 * ((i1 : Nat) : Int)) + 2).toNat) (0 : UInt8)).toUInt32) <<< UInt32.ofNat 8)) ||| ((List.getD b (((4 * ((i1 : Nat) : Int)) + 3).toNat) (0 : UInt8)).toUInt32)))) :: (.ex (.pointer (some ⟨b6, 0 + i1 * 1, none⟩))) :: [])) [(33, 53), (34, 54)] Je (by kernel_rfl) rfl hv16 ⟨(oX [] rfl rfl rfl fun _ _ => Qa.move rfl), (oX [] rfl rfl rfl fun _ _ => Qa.move rfl), (oX [] rfl rfl rfl fun _ _ => Qa.move rfl), (oX [(2, 22)] rfl rfl rfl fun _ _ => Qa.mul rfl rfl (by omega)), ?_, ?_, (oX [(5, 25)] rfl rfl rfl fun _ _ => Qz Try.underlying5 Try.underlying167 rfl (Y2 _)), (oX [(6, 26)] rfl rfl rfl fun _ _ => Yh (b := 24) rfl rfl (by omega) (by omega)), (oX [] rfl rfl rfl fun _ _ => Qa.move rfl), (oX [] rfl rfl rfl fun _ _ => Qa.move rfl), (oX [(9, 29)] rfl rfl rfl fun _ _ => Qa.mul rfl rfl (by omega)), (oX [(10, 30)] rfl rfl rfl fun _ _ => Qa.add rfl rfl (by omega)), ?_, ?_, (oX [(13, 33)] rfl rfl rfl fun _ _ => Qz Try.underlying5 Try.underlying167 rfl (Y2 _)), (oX [(14, 34)] rfl rfl rfl fun _ _ => Yh (b := 16) rfl rfl (by omega) (by omega)), (oX [(7, 27), (15, 35)] rfl rfl rfl fun _ _ => Z9 rfl rfl), (oX [] rfl rfl rfl fun _ _ => Qa.move rfl), (oX [] rfl rfl rfl fun _ _ => Qa.move rfl), (oX [(18, 38)] rfl rfl rfl fun _ _ => Qa.mul rfl rfl (by omega)), (oX [(19, 39)] rfl rfl rfl fun _ _ => Qa.add rfl rfl (by omega)), ?_, ?_, (oX [(22, 42)] rfl rfl rfl fun _ _ => Qz Try.underlying5 Try.underlying167 rfl (Y2 _)), (oX [(23, 43)] rfl rfl rfl fun _ _ => Yh (b := 8) rfl rfl (by omega) (by omega)), (oX [(16, 36), (24, 44)] rfl rfl rfl fun _ _ => Z9 rfl rfl), (oX [] rfl rfl rfl fun _ _ => Qa.move rfl), (oX [] rfl rfl rfl fun _ _ => Qa.move rfl), (oX [(27, 47)] rfl rfl rfl fun _ _ => Qa.mul rfl rfl (by omega)), (oX [(28, 48)] rfl rfl rfl fun _ _ => Qa.add rfl rfl (by omega)), ?_, ?_, (oX [(31, 51)] rfl rfl rfl fun _ _ => Qz Try.underlying5 Try.underlying167 rfl (Y2 _)), (oX [(25, 45), (32, 52)] rfl rfl rfl fun _ _ => Z9 rfl rfl), (oX [(0, 20)] rfl rfl rfl fun _ _ => Q3 i1 (n := 64) (e := 167) (by kernel_rfl) Qx rfl rfl (by omega) (by omega)), trivial⟩ (fun L187 w188 h189 s190 => ?_)
  ·refine oP [(1, 21), (3, 23)] rfl rfl fun L35 w36 h37 s38 => ?_
   have c39 := s17.trans s38
   have c40 := s8.trans c39
   have q41 := up c40 h1
   exact ⟨_, Qs ((4 * ((i1 : Nat) : Int)).toNat) Try.underlying22 ty5 rfl rfl (Qe.row q41) (by simp [nw]) (by omega) (by omega), ⟨_, rfl, (Qe.row q41)⟩⟩
  ·refine oP [(4, 24)] rfl rfl fun L42 w43 h44 s45 v46 q47 => ?_
   obtain ⟨A48, rfl, r49⟩ := q47
   exact ⟨_, Qy ty5 rfl r49 (Jp u8 _ (0 : UInt8) (by omega)), rfl⟩
  ·refine oP [(8, 28), (11, 31)] rfl rfl fun L74 w75 h76 s77 => ?_
   have c78 := s17.trans s77
   have c79 := s8.trans c78
   have q80 := up c79 h1
   exact ⟨_, Qs (((4 * ((i1 : Nat) : Int)) + 1).toNat) Try.underlying22 ty5 rfl rfl (Qe.row q80) (by simp [nw]) (by omega) (by omega), ⟨_, rfl, (Qe.row q80)⟩⟩
  ·refine oP [(12, 32)] rfl rfl fun L81 w82 h83 s84 v85 q86 => ?_
   obtain ⟨A87, rfl, r88⟩ := q86
   exact ⟨_, Qy ty5 rfl r88 (Jp u8 _ (0 : UInt8) (by omega)), rfl⟩
  ·refine oP [(17, 37), (20, 40)] rfl rfl fun L117 w118 h119 s120 => ?_
   have c121 := s17.trans s120
   have c122 := s8.trans c121
   have q123 := up c122 h1
   exact ⟨_, Qs (((4 * ((i1 : Nat) : Int)) + 2).toNat) Try.underlying22 ty5 rfl rfl (Qe.row q123) (by simp [nw]) (by omega) (by omega), ⟨_, rfl, (Qe.row q123)⟩⟩
  ·refine oP [(21, 41)] rfl rfl fun L124 w125 h126 s127 v128 q129 => ?_
   obtain ⟨A130, rfl, r131⟩ := q129
   exact ⟨_, Qy ty5 rfl r131 (Jp u8 _ (0 : UInt8) (by omega)), rfl⟩
  ·refine oP [(26, 46), (29, 49)] rfl rfl fun L160 w161 h162 s163 => ?_
   have c164 := s17.trans s163
   have c165 := s8.trans c164
   have q166 := up c165 h1
   exact ⟨_, Qs (((4 * ((i1 : Nat) : Int)) + 3).toNat) Try.underlying22 ty5 rfl rfl (Qe.row q166) (by simp [nw]) (by omega) (by omega), ⟨_, rfl, (Qe.row q166)⟩⟩
  ·refine oP [(30, 50)] rfl rfl fun L167 w168 h169 s170 v171 q172 => ?_
   obtain ⟨A173, rfl, r174⟩ := q172
   exact ⟨_, Qy ty5 rfl r174 (Jp u8 _ (0 : UInt8) (by omega)), rfl⟩
  have o191 := o18.up s190
  refine Kb (j := i1) (v := ((((((List.getD b ((4 * ((i1 : Nat) : Int)).toNat) (0 : UInt8)).toUInt32) <<< UInt32.ofNat 24) ||| (((List.getD b (((4 * ((i1 : Nat) : Int)) + 1).toNat) (0 : UInt8)).toUInt32) <<< UInt32.ofNat 16)) ||| (((List.getD b (((4 * ((i1 : Nat) : Int)) + 2).toNat) (0 : UInt8)).toUInt32) <<< UInt32.ofNat 8)) ||| ((List.getD b (((4 * ((i1 : Nat) : Int)) + 3).toNat) (0 : UInt8)).toUInt32))) [] h189 o191 Qx rfl rfl (by (rw [Z7 (by rw [JP]; omega)]; omega)) fun w192 o193 s194 h195 => ?_
  refine QH (fun _ _ h => h) ?_
  refine Run.region ?_
  refine sv (Qa.add rfl rfl (by omega)) ?_
  refine sv (Qa.move rfl) ?_
  have c196 := s190.trans s194
  have c197 := s17.trans c196
  exact Seq.nil (fun a198 h199 => ⟨_, by omega, _, h199.weaken (QG (l' := [(17, i64 (((i1 + 1) : Nat) : Int)), (0, .pointer (some ⟨t_b, 0, none⟩)), (1, .slice A1 (List.length b) c2), (4, .pointer (some ⟨b6, 0, none⟩))]) ⟨(congrArg (fun z => some (i64 z)) (show (((i1 : Nat) : Int) + 1 : Int) = (((i1 + 1) : Nat) : Int) from by rfl)), rfl, rfl, rfl, trivial⟩), ⟨i1 + 1, L187, rfl, rfl, h195, (c197.more (by decide)), ((show List.set (JK (sch b i1)) i1 ((((((List.getD b ((4 * ((i1 : Nat) : Int)).toNat) (0 : UInt8)).toUInt32) <<< UInt32.ofNat 24) ||| (((List.getD b (((4 * ((i1 : Nat) : Int)) + 1).toNat) (0 : UInt8)).toUInt32) <<< UInt32.ofNat 16)) ||| (((List.getD b (((4 * ((i1 : Nat) : Int)) + 2).toNat) (0 : UInt8)).toUInt32) <<< UInt32.ofNat 8)) ||| ((List.getD b (((4 * ((i1 : Nat) : Int)) + 3).toNat) (0 : UInt8)).toUInt32)) = JK (sch b (i1 + 1)) from by exact Qex (by omega) (by unfold QhY; exact QhX _ _)) ▸ o193), (by omega)⟩⟩)
 refine Qc rfl (dF9 hp1) ?_
 refine Qv (fun _ _ h => h) ?_
 refine Run.seq ?_
 refine rsr ?_
 refine sv (Qa.assign rfl) ?_
 refine Seq.next ?_
 refine Run.block ?_
 refine Run.loop (fun m' l' w' => ∃ (i2 : Nat) (lab' : Lab), m' = 64 - i2 ∧ l' = [(6, i64 ((i2 : Nat) : Int)), (0, .pointer (some ⟨t_b, 0, none⟩)), (4, .pointer (some ⟨b6, 0, none⟩))] ∧ Ql lab' w' ∧ Stp [5] lab15 w13 lab' w' ∧ Own lab' w' 5 b6 227 (List.map u32 (JK (sch b i2)) ++ []).toArray ∧ (16 ≤ i2 ∧ i2 ≤ 64)) (64 - 16) (l0 := [(6, i64 ((16 : Nat) : Int)), (0, .pointer (some ⟨t_b, 0, none⟩)), (4, .pointer (some ⟨b6, 0, none⟩))]) ⟨(congrArg (fun z => some (i64 z)) (show (16 : Int) = ((16 : Nat) : Int) from by rfl)), rfl, rfl, trivial⟩ ⟨16, lab15, rfl, rfl, hv16, ((Stp.refl _ _).more (by simp)), ((show JK (sch b i1) = JK (sch b 16) from by (obtain rfl : i1 = 16 := (by omega); rfl)) ▸ o18), (by omega)⟩ ?_
 intro m200 l201 w202 H203
 obtain ⟨i2, lab204, hzm, rfl, hv205, s206, o207, hi2⟩ := H203
 replace hzm := hzm.symm; subst hzm
 refine Run.seq ?_
 refine rsr ?_
 refine sv (Qa.move rfl) ?_
 refine sv (Qa.lss rfl rfl) ?_
 refine Seq.next ?_
 rcases Decidable.em ((((i2 : Nat) : Int) : Int) < (64 : Int)) with hp2 | hp2
 ·refine Qc rfl (dT9 hp2) ?_
  refine Qg (fun _ _ h => h) ?_
  refine Run.seq ?_
  refine Run.block ?_
  refine Run.seq ?_
  refine Run.open 10 (Φ := [.ex (i64 ((i2 : Nat) : Int)), .ex (i64 (((i2 : Nat) : Int) - 15)), .ex (.pointer (some ⟨b6, 0 + (i2 - 15) * 1, none⟩)), .ex (u32 (List.getD (JK (sch b i2)) (i2 - 15) 0)), .ex (i64 ((i2 : Nat) : Int)), .ex (i64 (((i2 : Nat) : Int) - 2)), .ex (.pointer (some ⟨b6, 0 + (i2 - 2) * 1, none⟩)), .ex (u32 (List.getD (JK (sch b i2)) (i2 - 2) 0)), .ex (u32 (List.getD (JK (sch b i2)) (i2 - 15) 0)), .ex (u32 (List.getD (JK (sch b i2)) (i2 - 2) 0))]) [(8, 7), (9, 8)] Je (by kernel_rfl) rfl hv205 ⟨(oX [] rfl rfl rfl fun _ _ => Qa.move rfl), (oX [(0, 60)] rfl rfl rfl fun _ _ => Qa.sub rfl rfl (by omega)), (oX [(1, 61)] rfl rfl rfl fun _ _ => Q3 (i2 - 15) (n := 64) (e := 167) (by kernel_rfl) Qx rfl rfl (by omega) (by omega)), ?_, (oX [] rfl rfl rfl fun _ _ => Qa.move rfl), (oX [(4, 64)] rfl rfl rfl fun _ _ => Qa.sub rfl rfl (by omega)), (oX [(5, 65)] rfl rfl rfl fun _ _ => Q3 (i2 - 2) (n := 64) (e := 167) (by kernel_rfl) Qx rfl rfl (by omega) (by omega)), ?_, (oX [(3, 63)] rfl rfl rfl fun _ _ => Qa.assign rfl), (oX [(7, 67)] rfl rfl rfl fun _ _ => Qa.assign rfl), trivial⟩ (fun L250 w251 h252 s253 => ?_)
  ·refine oP [(2, 62)] rfl rfl fun L220 w221 h222 s223 => ?_
   have o224 := o207.up s223
   exact ⟨_, Qf o224 Qx rfl (QaJ (by (rw [Z7 (by rw [JP]; omega)]; omega))), rfl⟩
  ·refine oP [(6, 66)] rfl rfl fun L237 w238 h239 s240 => ?_
   have o241 := o207.up s240
   exact ⟨_, Qf o241 Qx rfl (QaJ (by (rw [Z7 (by rw [JP]; omega)]; omega))), rfl⟩
  refine Seq.next ?_
  refine Run.open 29 (Φ := [.ex (i64 ((i2 : Nat) : Int)), .ex (i64 ((i2 : Nat) : Int)), .ex (i64 (((i2 : Nat) : Int) - 16)), .ex (.pointer (some ⟨b6, 0 + (i2 - 16) * 1, none⟩)), .ex (u32 (List.getD (JK (sch b i2)) (i2 - 16) 0)), .ex (i64 ((i2 : Nat) : Int)), .ex (i64 (((i2 : Nat) : Int) - 7)), .ex (.pointer (some ⟨b6, 0 + (i2 - 7) * 1, none⟩)), .ex (u32 (List.getD (JK (sch b i2)) (i2 - 7) 0)), .ex (u32 ((List.getD (JK (sch b i2)) (i2 - 16) 0) + (List.getD (JK (sch b i2)) (i2 - 7) 0))), .ex (u32 (List.getD (JK (sch b i2)) (i2 - 15) 0)), .v (Is (u32 (JM (List.getD (JK (sch b i2)) (i2 - 15) 0) (-7)))), .ex (u32 (List.getD (JK (sch b i2)) (i2 - 15) 0)), .v (Is (u32 (JM (List.getD (JK (sch b i2)) (i2 - 15) 0) (-18)))), .ex (u32 ((JM (List.getD (JK (sch b i2)) (i2 - 15) 0) (-7)) ^^^ (JM (List.getD (JK (sch b i2)) (i2 - 15) 0) (-18)))), .ex (u32 (List.getD (JK (sch b i2)) (i2 - 15) 0)), .ex (u32 ((List.getD (JK (sch b i2)) (i2 - 15) 0) >>> UInt32.ofNat 3)), .ex (u32 (((JM (List.getD (JK (sch b i2)) (i2 - 15) 0) (-7)) ^^^ (JM (List.getD (JK (sch b i2)) (i2 - 15) 0) (-18))) ^^^ ((List.getD (JK (sch b i2)) (i2 - 15) 0) >>> UInt32.ofNat 3))), .ex (u32 (((List.getD (JK (sch b i2)) (i2 - 16) 0) + (List.getD (JK (sch b i2)) (i2 - 7) 0)) + (((JM (List.getD (JK (sch b i2)) (i2 - 15) 0) (-7)) ^^^ (JM (List.getD (JK (sch b i2)) (i2 - 15) 0) (-18))) ^^^ ((List.getD (JK (sch b i2)) (i2 - 15) 0) >>> UInt32.ofNat 3)))), .ex (u32 (List.getD (JK (sch b i2)) (i2 - 2) 0)), .v (Is (u32 (JM (List.getD (JK (sch b i2)) (i2 - 2) 0) (-17)))), .ex (u32 (List.getD (JK (sch b i2)) (i2 - 2) 0)), .v (Is (u32 (JM (List.getD (JK (sch b i2)) (i2 - 2) 0) (-19)))), .ex (u32 ((JM (List.getD (JK (sch b i2)) (i2 - 2) 0) (-17)) ^^^ (JM (List.getD (JK (sch b i2)) (i2 - 2) 0) (-19)))), .ex (u32 (List.getD (JK (sch b i2)) (i2 - 2) 0)), .ex (u32 ((List.getD (JK (sch b i2)) (i2 - 2) 0) >>> UInt32.ofNat 10)), .ex (u32 (((JM (List.getD (JK (sch b i2)) (i2 - 2) 0) (-17)) ^^^ (JM (List.getD (JK (sch b i2)) (i2 - 2) 0) (-19))) ^^^ ((List.getD (JK (sch b i2)) (i2 - 2) 0) >>> UInt32.ofNat 10))), .ex (u32 ((((List.getD (JK (sch b i2)) (i2 - 16) 0) + (List.getD (JK (sch b i2)) (i2 - 7) 0)) + (((JM (List.getD (JK (sch b i2)) (i2 - 15) 0) (-7)) ^^^ (JM (List.getD (JK (sch b i2)) (i2 - 15) 0) (-18))) ^^^ ((List.getD (JK (sch b i2)) (i2 - 15) 0) >>> UInt32.ofNat 3))) + (((JM (List.getD (JK (sch b i2)) (i2 - 2) 0) (-17)) ^^^ (JM (List.getD (JK (sch b i2)) (i2 - 2) 0) (-19))) ^^^ ((List.getD (JK (sch b i2)) (i2 - 2) 0) >>> UInt32.ofNat 10)))), .ex (.pointer (some ⟨b6, 0 + i2 * 1, none⟩))]) [(27, 95), (28, 96)] Je (by kernel_rfl) rfl h252 ⟨(oX [] rfl rfl rfl fun _ _ => Qa.move rfl), (oX [] rfl rfl rfl fun _ _ => Qa.move rfl), (oX [(1, 69)] rfl rfl rfl fun _ _ => Qa.sub rfl rfl (by omega)), (oX [(2, 70)] rfl rfl rfl fun _ _ => Q3 (i2 - 16) (n := 64) (e := 167) (by kernel_rfl) Qx rfl rfl (by omega) (by omega)), ?_, (oX [] rfl rfl rfl fun _ _ => Qa.move rfl), (oX [(5, 73)] rfl rfl rfl fun _ _ => Qa.sub rfl rfl (by omega)), (oX [(6, 74)] rfl rfl rfl fun _ _ => Q3 (i2 - 7) (n := 64) (e := 167) (by kernel_rfl) Qx rfl rfl (by omega) (by omega)), ?_, (oX [(4, 72), (8, 76)] rfl rfl rfl fun _ _ => Jw rfl rfl), (oX [] rfl rfl rfl fun _ _ => Qa.move rfl), ?_, (oX [] rfl rfl rfl fun _ _ => Qa.move rfl), ?_, ?_, (oX [] rfl rfl rfl fun _ _ => Qa.move rfl), (oX [(15, 83)] rfl rfl rfl fun _ _ => J7 (b := 3) rfl rfl (by omega) (by omega)), (oX [(14, 82), (16, 84)] rfl rfl rfl fun _ _ => JD rfl rfl), (oX [(9, 77), (17, 85)] rfl rfl rfl fun _ _ => Jw rfl rfl), (oX [] rfl rfl rfl fun _ _ => Qa.move rfl), ?_, (oX [] rfl rfl rfl fun _ _ => Qa.move rfl), ?_, ?_, (oX [] rfl rfl rfl fun _ _ => Qa.move rfl), (oX [(24, 92)] rfl rfl rfl fun _ _ => J7 (b := 10) rfl rfl (by omega) (by omega)), (oX [(23, 91), (25, 93)] rfl rfl rfl fun _ _ => JD rfl rfl), (oX [(18, 86), (26, 94)] rfl rfl rfl fun _ _ => Jw rfl rfl), (oX [(0, 68)] rfl rfl rfl fun _ _ => Q3 i2 (n := 64) (e := 167) (by kernel_rfl) Qx rfl rfl (by omega) (by omega)), trivial⟩ (fun L382 w383 h384 s385 => ?_)
  ·refine oP [(3, 71)] rfl rfl fun L270 w271 h272 s273 => ?_
   have c275 := s253.trans s273
   have o274 := o207.up c275
   exact ⟨_, Qf o274 Qx rfl (QaJ (by (rw [Z7 (by rw [JP]; omega)]; omega))), rfl⟩
  ·refine oP [(7, 75)] rfl rfl fun L288 w289 h290 s291 => ?_
   have c293 := s253.trans s291
   have o292 := o207.up c293
   exact ⟨_, Qf o292 Qx rfl (QaJ (by (rw [Z7 (by rw [JP]; omega)]; omega))), rfl⟩
  ·refine oC [(10, 78)] rfl rfl X3 fun L302 w303 h304 s305 => ?_
   exact ⟨_, rfl, (Jl h304 (x := List.getD (JK (sch b i2)) (i2 - 15) 0) (k := -7) (show 0 < (YG (-7) &&& 31).toNat from by decide))⟩
  ·refine oC [(12, 80)] rfl rfl X3 fun L310 w311 h312 s313 => ?_
   exact ⟨_, rfl, (Jl h312 (x := List.getD (JK (sch b i2)) (i2 - 15) 0) (k := -18) (show 0 < (YG (-18) &&& 31).toNat from by decide))⟩
  ·refine oP [(11, 79), (13, 81)] rfl rfl fun L314 w315 h316 s317 v318 q319 v320 q321 => ?_
   have q319 := Is.out q319; subst q319
   have q321 := Is.out q321; subst q321
   exact ⟨_, JD rfl rfl, rfl⟩
  ·refine oC [(19, 87)] rfl rfl X3 fun L342 w343 h344 s345 => ?_
   exact ⟨_, rfl, (Jl h344 (x := List.getD (JK (sch b i2)) (i2 - 2) 0) (k := -17) (show 0 < (YG (-17) &&& 31).toNat from by decide))⟩
  ·refine oC [(21, 89)] rfl rfl X3 fun L350 w351 h352 s353 => ?_
   exact ⟨_, rfl, (Jl h352 (x := List.getD (JK (sch b i2)) (i2 - 2) 0) (k := -19) (show 0 < (YG (-19) &&& 31).toNat from by decide))⟩
  ·refine oP [(20, 88), (22, 90)] rfl rfl fun L354 w355 h356 s357 v358 q359 v360 q361 => ?_
   have q359 := Is.out q359; subst q359
   have q361 := Is.out q361; subst q361
   exact ⟨_, JD rfl rfl, rfl⟩
  have c387 := s253.trans s385
  have o386 := o207.up c387
  refine Kb (j := i2) (v := ((((List.getD (JK (sch b i2)) (i2 - 16) 0) + (List.getD (JK (sch b i2)) (i2 - 7) 0)) + (((JM (List.getD (JK (sch b i2)) (i2 - 15) 0) (-7)) ^^^ (JM (List.getD (JK (sch b i2)) (i2 - 15) 0) (-18))) ^^^ ((List.getD (JK (sch b i2)) (i2 - 15) 0) >>> UInt32.ofNat 3))) + (((JM (List.getD (JK (sch b i2)) (i2 - 2) 0) (-17)) ^^^ (JM (List.getD (JK (sch b i2)) (i2 - 2) 0) (-19))) ^^^ ((List.getD (JK (sch b i2)) (i2 - 2) 0) >>> UInt32.ofNat 10)))) [] h384 o386 Qx rfl rfl (by (rw [Z7 (by rw [JP]; omega)]; omega)) fun w388 o389 s390 h391 => ?_
  refine QH (fun _ _ h => h) ?_
  refine Run.region ?_
  refine sv (Qa.move rfl) ?_
  refine sv (Qa.add rfl rfl (by omega)) ?_
  refine sv (Qa.assign rfl) ?_
  have c392 := c387.trans s390
  have c393 := s206.trans c392
  exact Seq.nil (fun a394 h395 => ⟨_, by omega, _, h395.weaken (QG (l' := [(6, i64 (((i2 + 1) : Nat) : Int)), (0, .pointer (some ⟨t_b, 0, none⟩)), (4, .pointer (some ⟨b6, 0, none⟩))]) ⟨(congrArg (fun z => some (i64 z)) (show (((i2 : Nat) : Int) + 1 : Int) = (((i2 + 1) : Nat) : Int) from by rfl)), rfl, rfl, trivial⟩), ⟨i2 + 1, L382, rfl, rfl, h391, (c393.more (by decide)), ((show List.set (JK (sch b i2)) i2 ((((List.getD (JK (sch b i2)) (i2 - 16) 0) + (List.getD (JK (sch b i2)) (i2 - 7) 0)) + (((JM (List.getD (JK (sch b i2)) (i2 - 15) 0) (-7)) ^^^ (JM (List.getD (JK (sch b i2)) (i2 - 15) 0) (-18))) ^^^ ((List.getD (JK (sch b i2)) (i2 - 15) 0) >>> UInt32.ofNat 3))) + (((JM (List.getD (JK (sch b i2)) (i2 - 2) 0) (-17)) ^^^ (JM (List.getD (JK (sch b i2)) (i2 - 2) 0) (-19))) ^^^ ((List.getD (JK (sch b i2)) (i2 - 2) 0) >>> UInt32.ofNat 10))) = JK (sch b (i2 + 1)) from by exact Qg2 (by omega) (by omega) (by unfold Qdu; with_reducible rfl)) ▸ o389), (by omega)⟩⟩)
 refine Qc rfl (dF9 hp2) ?_
 refine Qv (fun _ _ h => h) ?_
 refine rsr ?_
 refine sv (Qa.move rfl) ?_
 refine sv (Qa.nilCheck rfl) ?_
 have c397 := s17.trans s206
 have c398 := s8.trans c397
 have o396 := h0.up c398
 refine sv (QdJ o396 VM rfl (by omega)) ?_
 refine QM 10 [.int .u32 0, .int .u32 0, .int .u32 0, .int .u32 0, .int .u32 0, .int .u32 0, .int .u32 0, .int .u32 0] hv205 VM rfl fun b401 L399 w400 o402 s403 h404 => ?_
 have n405 : Own L399 w400 10 b401 223 (List.map u32 (List.replicate 8 (0 : UInt32)) ++ []).toArray := o402
 refine Qig (ys := t) [] h404 n405 VM rfl rfl (by omega) (by simp) fun w406 o407 s408 h409 => ?_
 refine Seq.next ?_
 refine Run.seq ?_
 refine rsr ?_
 refine Q7 (V := Is (.agg (List.map u32 Qbp).toArray)) Qkx h409 rfl (UF h409 ) fun v410 w411 q412 s413 h414 => ?_
 have q412 := Is.out q412; subst q412
 refine sv (Qa.move rfl) ?_
 refine Seq.next ?_
 refine Run.block ?_
 have o415 := o407.up s413
 refine Run.loop (fun m' l' w' => ∃ (i3 : Nat) (lab' : Lab), m' = 64 - i3 ∧ l' = [(101, i64 ((i3 : Nat) : Int)), (0, .pointer (some ⟨t_b, 0, none⟩)), (4, .pointer (some ⟨b6, 0, none⟩)), (9, .pointer (some ⟨b401, 0, none⟩)), (100, .agg (List.map u32 Qbp).toArray)] ∧ Ql lab' w' ∧ Stp [10] L399 w411 lab' w' ∧ Own lab' w' 10 b401 223 (List.map u32 (QS b t i3) ++ []).toArray ∧ (i3 ≤ 64)) (64 - 0) (l0 := [(101, i64 ((0 : Nat) : Int)), (0, .pointer (some ⟨t_b, 0, none⟩)), (4, .pointer (some ⟨b6, 0, none⟩)), (9, .pointer (some ⟨b401, 0, none⟩)), (100, .agg (List.map u32 Qbp).toArray)]) ⟨(congrArg (fun z => some (i64 z)) (show (0 : Int) = ((0 : Nat) : Int) from by rfl)), rfl, rfl, rfl, rfl, trivial⟩ ⟨0, L399, rfl, rfl, h414, ((Stp.refl _ _).more (by simp)), ((show t = QS b t 0 from by exact Qe1 _ _) ▸ o415), (by omega)⟩ ?_
 intro m416 l417 w418 H419
 obtain ⟨i3, lab420, hzm, rfl, hv421, s422, o423, hi3⟩ := H419
 replace hzm := hzm.symm; subst hzm
 refine rsr ?_
 refine sv (Qa.lss rfl rfl) ?_
 refine Seq.next ?_
 refine Run.seq ?_
 rcases Decidable.em ((((i3 : Nat) : Int) : Int) < (64 : Int)) with hp3 | hp3
 rotate_left
 ·refine Qc rfl (dF9 hp3) ?_
  refine Qv (fun _ _ h => h) ?_
  refine rsr ?_
  refine sv (Qa.move rfl) ?_
  refine Seq.next ?_
  refine Run.block ?_
  have c749 := s413.trans s422
  have c750 := s408.trans c749
  have c751 := s403.trans c750
  have o748 := o396.up c751
  refine Run.loop (fun m' l' w' => ∃ (i4 : Nat) (lab' : Lab), m' = 8 - i4 ∧ l' = [(174, i64 ((i4 : Nat) : Int)), (0, .pointer (some ⟨t_b, 0, none⟩)), (9, .pointer (some ⟨b401, 0, none⟩))] ∧ Ql lab' w' ∧ Stp [1] lab420 w418 lab' w' ∧ Own lab' w' 1 t_b t_t (List.map u32 (YZ t (QS b t i3) i4) ++ t_r).toArray ∧ (i4 ≤ 8)) (8 - 0) (l0 := [(174, i64 ((0 : Nat) : Int)), (0, .pointer (some ⟨t_b, 0, none⟩)), (9, .pointer (some ⟨b401, 0, none⟩))]) ⟨(congrArg (fun z => some (i64 z)) (show (0 : Int) = ((0 : Nat) : Int) from by rfl)), rfl, rfl, trivial⟩ ⟨0, lab420, rfl, rfl, hv421, ((Stp.refl _ _).more (by simp)), ((show t = YZ t (QS b t i3) 0 from by exact QdE _ _) ▸ o748), (by omega)⟩ ?_
  intro m752 l753 w754 H755
  obtain ⟨i4, lab756, hzm, rfl, hv757, s758, o759, hi4⟩ := H755
  replace hzm := hzm.symm; subst hzm
  refine rsr ?_
  refine sv (Qa.lss rfl rfl) ?_
  refine Seq.next ?_
  refine Run.seq ?_
  rcases Decidable.em ((((i4 : Nat) : Int) : Int) < (8 : Int)) with hp4 | hp4
  rotate_left
  ·refine Qc rfl (dF9 hp4) ?_
   have c816 := c751.trans s758
   have c817 := c398.trans c816
   obtain ⟨lab9, s9, B9⟩ := hX [(1, t_d)] c817 (by decide) hv757
   obtain ⟨zU, zo⟩ := B9.u
   refine Run.exit ?_
   exact Qa5 Try.results172  ⟨_, lab9, rfl, ⟨rfl, ((show YZ t (QS b t i3) i4 = Qip t b from by (obtain rfl : i4 = 8 := (by omega)); (obtain rfl : i3 = 64 := (by omega)); rfl) ▸ (Own.back o759 B9 t_d rfl (by decide) (by simp [Xa])))⟩, s9, B9.v⟩
  refine Qc rfl (dT9 hp4) ?_
  refine Qg (fun _ _ h => h) ?_
  refine Run.seq ?_
  refine Run.block ?_
  refine rsr ?_
  refine sv (Qa.move rfl) ?_
  refine sv (Qa.assign rfl) ?_
  refine Seq.next ?_
  refine Run.open 10 (Φ := [.ex (.pointer (some ⟨t_b, 0, none⟩)), .ex (i64 ((i4 : Nat) : Int)), .ex (.pointer (some ⟨t_b, 0, none⟩)), .ex (.pointer (some ⟨t_b, 0 + i4 * 1, none⟩)), .ex (u32 (List.getD (YZ t (QS b t i3) i4) i4 0)), .ex (i64 ((i4 : Nat) : Int)), .ex (.pointer (some ⟨b401, 0 + i4 * 1, none⟩)), .ex (u32 (List.getD (QS b t i3) i4 0)), .ex (u32 ((List.getD (YZ t (QS b t i3) i4) i4 0) + (List.getD (QS b t i3) i4 0))), .ex (.pointer (some ⟨t_b, 0, none⟩))]) [(1, 178), (8, 185), (9, 186)] Je (by kernel_rfl) rfl hv757 ⟨(oX [] rfl rfl rfl fun _ _ => Qa.move rfl), (oX [] rfl rfl rfl fun _ _ => Qa.move rfl), (oX [(0, 177)] rfl rfl rfl fun _ _ => Qa.nilCheck rfl), (oX [(1, 178), (2, 179)] rfl rfl rfl fun _ _ => Q3 i4 (n := 8) (e := 167) (by kernel_rfl) Qx rfl rfl (by omega) (by omega)), ?_, (oX [] rfl rfl rfl fun _ _ => Qa.move rfl), (oX [(5, 182)] rfl rfl rfl fun _ _ => Q3 i4 (n := 8) (e := 167) (by kernel_rfl) Qx rfl rfl (by omega) (by omega)), ?_, (oX [(4, 181), (7, 184)] rfl rfl rfl fun _ _ => Jw rfl rfl), (oX [(0, 177)] rfl rfl rfl fun _ _ => Qa.nilCheck rfl), trivial⟩ (fun L803 w804 h805 s806 => ?_)
  ·refine oP [(3, 180)] rfl rfl fun L776 w777 h778 s779 => ?_
   have o780 := o759.up s779
   exact ⟨_, Qf o780 Qx rfl (QaJ (by (rw [YA]; omega))), rfl⟩
  ·refine oP [(6, 183)] rfl rfl fun L789 w790 h791 s792 => ?_
   have c794 := s758.trans s792
   have o793 := o423.up c794
   exact ⟨_, Qf o793 Qx rfl (QaJ (by (rw [J1 (by omega)]; omega))), rfl⟩
  refine sv (Q3 i4 (n := 8) (e := 167) (by kernel_rfl) Qx rfl rfl (by omega) (by omega)) ?_
  have o807 := o759.up s806
  refine Kb (j := i4) (v := ((List.getD (YZ t (QS b t i3) i4) i4 0) + (List.getD (QS b t i3) i4 0))) t_r h805 o807 Qx rfl rfl (by (rw [YA]; omega)) fun w808 o809 s810 h811 => ?_
  refine QH (fun _ _ h => h) ?_
  refine Run.region ?_
  refine sv (Qa.add rfl rfl (by omega)) ?_
  refine sv (Qa.move rfl) ?_
  have c812 := s806.trans s810
  have c813 := s758.trans c812
  exact Seq.nil (fun a814 h815 => ⟨_, by omega, _, h815.weaken (QG (l' := [(174, i64 (((i4 + 1) : Nat) : Int)), (0, .pointer (some ⟨t_b, 0, none⟩)), (9, .pointer (some ⟨b401, 0, none⟩))]) ⟨(congrArg (fun z => some (i64 z)) (show (((i4 : Nat) : Int) + 1 : Int) = (((i4 + 1) : Nat) : Int) from by rfl)), rfl, rfl, trivial⟩), ⟨i4 + 1, L803, rfl, rfl, h811, (c813.more (by decide)), ((show List.set (YZ t (QS b t i3) i4) i4 ((List.getD (YZ t (QS b t i3) i4) i4 0) + (List.getD (QS b t i3) i4 0)) = YZ t (QS b t i3) (i4 + 1) from by exact QdF _ _ _) ▸ o809), (by omega)⟩⟩)
 refine Qc rfl (dT9 hp3) ?_
 refine Qg (fun _ _ h => h) ?_
 refine Run.seq ?_
 refine Run.block ?_
 refine rsr ?_
 refine sv (Qa.move rfl) ?_
 refine sv (KJ (n := 64) (e := 167) i3 (by kernel_rfl) Qx rfl rfl (by omega) (by omega) (by omega)) ?_
 refine sv (Qa.assign rfl) ?_
 refine sv (Qa.assign rfl) ?_
 refine Seq.next ?_
 refine Run.seq ?_
 refine Run.open 6 (Φ := [.ex (.pointer (some ⟨b401, 0 + 0 * 1, none⟩)), .ex (u32 (List.getD (QS b t i3) 0 0)), .ex (.pointer (some ⟨b401, 0 + 4 * 1, none⟩)), .ex (u32 (List.getD (QS b t i3) 4 0)), .ex (u32 (List.getD (QS b t i3) 0 0)), .ex (u32 (List.getD (QS b t i3) 4 0))]) [(4, 12), (5, 13)] Je (by kernel_rfl) rfl hv421 ⟨(oX [] rfl rfl rfl fun _ _ => Q3 0 (n := 8) (e := 167) (by kernel_rfl) Qx rfl rfl (by omega) (by omega)), ?_, (oX [] rfl rfl rfl fun _ _ => Q3 4 (n := 8) (e := 167) (by kernel_rfl) Qx rfl rfl (by omega) (by omega)), ?_, (oX [(1, 106)] rfl rfl rfl fun _ _ => Qa.assign rfl), (oX [(3, 108)] rfl rfl rfl fun _ _ => Qa.assign rfl), trivial⟩ (fun L450 w451 h452 s453 => ?_)
 ·refine oP [(0, 105)] rfl rfl fun L428 w429 h430 s431 => ?_
  have o432 := o423.up s431
  exact ⟨_, Qf o432 Qx rfl (QaJ (by (rw [J1 (by omega)]; omega))), rfl⟩
 ·refine oP [(2, 107)] rfl rfl fun L437 w438 h439 s440 => ?_
  have o441 := o423.up s440
  exact ⟨_, Qf o441 Qx rfl (QaJ (by (rw [J1 (by omega)]; omega))), rfl⟩
 refine Seq.next ?_
 refine Run.seq ?_
 refine Run.open 29 (Φ := [.ex (.pointer (some ⟨b401, 0 + 7 * 1, none⟩)), .ex (u32 (List.getD (QS b t i3) 7 0)), .ex (u32 (List.getD (QS b t i3) 4 0)), .v (Is (u32 (JM (List.getD (QS b t i3) 4 0) (-6)))), .ex (u32 (List.getD (QS b t i3) 4 0)), .v (Is (u32 (JM (List.getD (QS b t i3) 4 0) (-11)))), .ex (u32 ((JM (List.getD (QS b t i3) 4 0) (-6)) ^^^ (JM (List.getD (QS b t i3) 4 0) (-11)))), .ex (u32 (List.getD (QS b t i3) 4 0)), .v (Is (u32 (JM (List.getD (QS b t i3) 4 0) (-25)))), .ex (u32 (((JM (List.getD (QS b t i3) 4 0) (-6)) ^^^ (JM (List.getD (QS b t i3) 4 0) (-11))) ^^^ (JM (List.getD (QS b t i3) 4 0) (-25)))), .ex (u32 ((List.getD (QS b t i3) 7 0) + (((JM (List.getD (QS b t i3) 4 0) (-6)) ^^^ (JM (List.getD (QS b t i3) 4 0) (-11))) ^^^ (JM (List.getD (QS b t i3) 4 0) (-25))))), .ex (u32 (List.getD (QS b t i3) 4 0)), .ex (.pointer (some ⟨b401, 0 + 5 * 1, none⟩)), .ex (u32 (List.getD (QS b t i3) 5 0)), .ex (u32 ((List.getD (QS b t i3) 4 0) &&& (List.getD (QS b t i3) 5 0))), .ex (u32 (List.getD (QS b t i3) 4 0)), .ex (u32 (~~~ (List.getD (QS b t i3) 4 0))), .ex (.pointer (some ⟨b401, 0 + 6 * 1, none⟩)), .ex (u32 (List.getD (QS b t i3) 6 0)), .ex (u32 ((~~~ (List.getD (QS b t i3) 4 0)) &&& (List.getD (QS b t i3) 6 0))), .ex (u32 (((List.getD (QS b t i3) 4 0) &&& (List.getD (QS b t i3) 5 0)) ^^^ ((~~~ (List.getD (QS b t i3) 4 0)) &&& (List.getD (QS b t i3) 6 0)))), .ex (u32 (((List.getD (QS b t i3) 7 0) + (((JM (List.getD (QS b t i3) 4 0) (-6)) ^^^ (JM (List.getD (QS b t i3) 4 0) (-11))) ^^^ (JM (List.getD (QS b t i3) 4 0) (-25)))) + (((List.getD (QS b t i3) 4 0) &&& (List.getD (QS b t i3) 5 0)) ^^^ ((~~~ (List.getD (QS b t i3) 4 0)) &&& (List.getD (QS b t i3) 6 0))))), .ex (u32 (List.getD Qbp i3 0)), .ex (u32 ((((List.getD (QS b t i3) 7 0) + (((JM (List.getD (QS b t i3) 4 0) (-6)) ^^^ (JM (List.getD (QS b t i3) 4 0) (-11))) ^^^ (JM (List.getD (QS b t i3) 4 0) (-25)))) + (((List.getD (QS b t i3) 4 0) &&& (List.getD (QS b t i3) 5 0)) ^^^ ((~~~ (List.getD (QS b t i3) 4 0)) &&& (List.getD (QS b t i3) 6 0)))) + (List.getD Qbp i3 0))), .ex (i64 ((i3 : Nat) : Int)), .ex (.pointer (some ⟨b6, 0 + i3 * 1, none⟩)), .ex (u32 (List.getD (JK (sch b i2)) i3 0)), .ex (u32 (((((List.getD (QS b t i3) 7 0) + (((JM (List.getD (QS b t i3) 4 0) (-6)) ^^^ (JM (List.getD (QS b t i3) 4 0) (-11))) ^^^ (JM (List.getD (QS b t i3) 4 0) (-25)))) + (((List.getD (QS b t i3) 4 0) &&& (List.getD (QS b t i3) 5 0)) ^^^ ((~~~ (List.getD (QS b t i3) 4 0)) &&& (List.getD (QS b t i3) 6 0)))) + (List.getD Qbp i3 0)) + (List.getD (JK (sch b i2)) i3 0))), .ex (u32 (((((List.getD (QS b t i3) 7 0) + (((JM (List.getD (QS b t i3) 4 0) (-6)) ^^^ (JM (List.getD (QS b t i3) 4 0) (-11))) ^^^ (JM (List.getD (QS b t i3) 4 0) (-25)))) + (((List.getD (QS b t i3) 4 0) &&& (List.getD (QS b t i3) 5 0)) ^^^ ((~~~ (List.getD (QS b t i3) 4 0)) &&& (List.getD (QS b t i3) 6 0)))) + (List.getD Qbp i3 0)) + (List.getD (JK (sch b i2)) i3 0)))]) [(28, 14)] Je (by kernel_rfl) rfl h452 ⟨(oX [] rfl rfl rfl fun _ _ => Q3 7 (n := 8) (e := 167) (by kernel_rfl) Qx rfl rfl (by omega) (by omega)), ?_, (oX [] rfl rfl rfl fun _ _ => Qa.move rfl), ?_, (oX [] rfl rfl rfl fun _ _ => Qa.move rfl), ?_, ?_, (oX [] rfl rfl rfl fun _ _ => Qa.move rfl), ?_, ?_, (oX [(1, 110), (9, 118)] rfl rfl rfl fun _ _ => Jw rfl rfl), (oX [] rfl rfl rfl fun _ _ => Qa.move rfl), (oX [] rfl rfl rfl fun _ _ => Q3 5 (n := 8) (e := 167) (by kernel_rfl) Qx rfl rfl (by omega) (by omega)), ?_, (oX [(11, 120), (13, 122)] rfl rfl rfl fun _ _ => ZD rfl rfl), (oX [] rfl rfl rfl fun _ _ => Qa.move rfl), (oX [(15, 124)] rfl rfl rfl fun _ _ => Qbj rfl), (oX [] rfl rfl rfl fun _ _ => Q3 6 (n := 8) (e := 167) (by kernel_rfl) Qx rfl rfl (by omega) (by omega)), ?_, (oX [(16, 125), (18, 127)] rfl rfl rfl fun _ _ => ZD rfl rfl), (oX [(14, 123), (19, 128)] rfl rfl rfl fun _ _ => JD rfl rfl), (oX [(10, 119), (20, 129)] rfl rfl rfl fun _ _ => Jw rfl rfl), (oX [] rfl rfl rfl fun _ _ => Qa.move rfl), (oX [(21, 130), (22, 131)] rfl rfl rfl fun _ _ => Jw rfl rfl), (oX [] rfl rfl rfl fun _ _ => Qa.move rfl), (oX [(24, 133)] rfl rfl rfl fun _ _ => Q3 i3 (n := 64) (e := 167) (by kernel_rfl) Qx rfl rfl (by omega) (by omega)), ?_, (oX [(23, 132), (26, 135)] rfl rfl rfl fun _ _ => Jw rfl rfl), (oX [(27, 136)] rfl rfl rfl fun _ _ => Qa.assign rfl), trivial⟩ (fun L588 w589 h590 s591 => ?_)
 ·refine oP [(0, 109)] rfl rfl fun L458 w459 h460 s461 => ?_
  have c463 := s453.trans s461
  have o462 := o423.up c463
  exact ⟨_, Qf o462 Qx rfl (QaJ (by (rw [J1 (by omega)]; omega))), rfl⟩
 ·refine oC [(2, 111)] rfl rfl X3 fun L468 w469 h470 s471 => ?_
  exact ⟨_, rfl, (Jl h470 (x := List.getD (QS b t i3) 4 0) (k := -6) (show 0 < (YG (-6) &&& 31).toNat from by decide))⟩
 ·refine oC [(4, 113)] rfl rfl X3 fun L476 w477 h478 s479 => ?_
  exact ⟨_, rfl, (Jl h478 (x := List.getD (QS b t i3) 4 0) (k := -11) (show 0 < (YG (-11) &&& 31).toNat from by decide))⟩
 ·refine oP [(3, 112), (5, 114)] rfl rfl fun L480 w481 h482 s483 v484 q485 v486 q487 => ?_
  have q485 := Is.out q485; subst q485
  have q487 := Is.out q487; subst q487
  exact ⟨_, JD rfl rfl, rfl⟩
 ·refine oC [(7, 116)] rfl rfl X3 fun L492 w493 h494 s495 => ?_
  exact ⟨_, rfl, (Jl h494 (x := List.getD (QS b t i3) 4 0) (k := -25) (show 0 < (YG (-25) &&& 31).toNat from by decide))⟩
 ·refine oP [(6, 115), (8, 117)] rfl rfl fun L496 w497 h498 s499 v500 q501 => ?_
  have q501 := Is.out q501; subst q501
  exact ⟨_, JD rfl rfl, rfl⟩
 ·refine oP [(12, 121)] rfl rfl fun L514 w515 h516 s517 => ?_
  have c519 := s453.trans s517
  have o518 := o423.up c519
  exact ⟨_, Qf o518 Qx rfl (QaJ (by (rw [J1 (by omega)]; omega))), rfl⟩
 ·refine oP [(17, 126)] rfl rfl fun L536 w537 h538 s539 => ?_
  have c541 := s453.trans s539
  have o540 := o423.up c541
  exact ⟨_, Qf o540 Qx rfl (QaJ (by (rw [J1 (by omega)]; omega))), rfl⟩
 ·refine oP [(25, 134)] rfl rfl fun L570 w571 h572 s573 => ?_
  have c575 := s453.trans s573
  have c576 := s422.trans c575
  have c577 := s413.trans c576
  have c578 := s408.trans c577
  have c579 := s403.trans c578
  have o574 := o207.up c579
  exact ⟨_, Qf o574 Qx rfl (QaJ (by (rw [Z7 (by rw [JP]; omega)]; omega))), rfl⟩
 refine Seq.next ?_
 refine Run.seq ?_
 refine Run.open 25 (Φ := [.ex (u32 (List.getD (QS b t i3) 0 0)), .v (Is (u32 (JM (List.getD (QS b t i3) 0 0) (-2)))), .ex (u32 (List.getD (QS b t i3) 0 0)), .v (Is (u32 (JM (List.getD (QS b t i3) 0 0) (-13)))), .ex (u32 ((JM (List.getD (QS b t i3) 0 0) (-2)) ^^^ (JM (List.getD (QS b t i3) 0 0) (-13)))), .ex (u32 (List.getD (QS b t i3) 0 0)), .v (Is (u32 (JM (List.getD (QS b t i3) 0 0) (-22)))), .ex (u32 (((JM (List.getD (QS b t i3) 0 0) (-2)) ^^^ (JM (List.getD (QS b t i3) 0 0) (-13))) ^^^ (JM (List.getD (QS b t i3) 0 0) (-22)))), .ex (u32 (List.getD (QS b t i3) 0 0)), .ex (.pointer (some ⟨b401, 0 + 1 * 1, none⟩)), .ex (u32 (List.getD (QS b t i3) 1 0)), .ex (u32 ((List.getD (QS b t i3) 0 0) &&& (List.getD (QS b t i3) 1 0))), .ex (u32 (List.getD (QS b t i3) 0 0)), .ex (.pointer (some ⟨b401, 0 + 2 * 1, none⟩)), .ex (u32 (List.getD (QS b t i3) 2 0)), .ex (u32 ((List.getD (QS b t i3) 0 0) &&& (List.getD (QS b t i3) 2 0))), .ex (u32 (((List.getD (QS b t i3) 0 0) &&& (List.getD (QS b t i3) 1 0)) ^^^ ((List.getD (QS b t i3) 0 0) &&& (List.getD (QS b t i3) 2 0)))), .ex (.pointer (some ⟨b401, 0 + 1 * 1, none⟩)), .ex (u32 (List.getD (QS b t i3) 1 0)), .ex (.pointer (some ⟨b401, 0 + 2 * 1, none⟩)), .ex (u32 (List.getD (QS b t i3) 2 0)), .ex (u32 ((List.getD (QS b t i3) 1 0) &&& (List.getD (QS b t i3) 2 0))), .ex (u32 ((((List.getD (QS b t i3) 0 0) &&& (List.getD (QS b t i3) 1 0)) ^^^ ((List.getD (QS b t i3) 0 0) &&& (List.getD (QS b t i3) 2 0))) ^^^ ((List.getD (QS b t i3) 1 0) &&& (List.getD (QS b t i3) 2 0)))), .ex (u32 ((((JM (List.getD (QS b t i3) 0 0) (-2)) ^^^ (JM (List.getD (QS b t i3) 0 0) (-13))) ^^^ (JM (List.getD (QS b t i3) 0 0) (-22))) + ((((List.getD (QS b t i3) 0 0) &&& (List.getD (QS b t i3) 1 0)) ^^^ ((List.getD (QS b t i3) 0 0) &&& (List.getD (QS b t i3) 2 0))) ^^^ ((List.getD (QS b t i3) 1 0) &&& (List.getD (QS b t i3) 2 0))))), .ex (u32 ((((JM (List.getD (QS b t i3) 0 0) (-2)) ^^^ (JM (List.getD (QS b t i3) 0 0) (-13))) ^^^ (JM (List.getD (QS b t i3) 0 0) (-22))) + ((((List.getD (QS b t i3) 0 0) &&& (List.getD (QS b t i3) 1 0)) ^^^ ((List.getD (QS b t i3) 0 0) &&& (List.getD (QS b t i3) 2 0))) ^^^ ((List.getD (QS b t i3) 1 0) &&& (List.getD (QS b t i3) 2 0)))))]) [(24, 15)] Je (by kernel_rfl) rfl h590 ⟨(oX [] rfl rfl rfl fun _ _ => Qa.move rfl), ?_, (oX [] rfl rfl rfl fun _ _ => Qa.move rfl), ?_, ?_, (oX [] rfl rfl rfl fun _ _ => Qa.move rfl), ?_, ?_, (oX [] rfl rfl rfl fun _ _ => Qa.move rfl), (oX [] rfl rfl rfl fun _ _ => Q3 1 (n := 8) (e := 167) (by kernel_rfl) Qx rfl rfl (by omega) (by omega)), ?_, (oX [(8, 145), (10, 147)] rfl rfl rfl fun _ _ => ZD rfl rfl), (oX [] rfl rfl rfl fun _ _ => Qa.move rfl), (oX [] rfl rfl rfl fun _ _ => Q3 2 (n := 8) (e := 167) (by kernel_rfl) Qx rfl rfl (by omega) (by omega)), ?_, (oX [(12, 149), (14, 151)] rfl rfl rfl fun _ _ => ZD rfl rfl), (oX [(11, 148), (15, 152)] rfl rfl rfl fun _ _ => JD rfl rfl), (oX [] rfl rfl rfl fun _ _ => Q3 1 (n := 8) (e := 167) (by kernel_rfl) Qx rfl rfl (by omega) (by omega)), ?_, (oX [] rfl rfl rfl fun _ _ => Q3 2 (n := 8) (e := 167) (by kernel_rfl) Qx rfl rfl (by omega) (by omega)), ?_, (oX [(18, 155), (20, 157)] rfl rfl rfl fun _ _ => ZD rfl rfl), (oX [(16, 153), (21, 158)] rfl rfl rfl fun _ _ => JD rfl rfl), (oX [(7, 144), (22, 159)] rfl rfl rfl fun _ _ => Jw rfl rfl), (oX [(23, 160)] rfl rfl rfl fun _ _ => Qa.assign rfl), trivial⟩ (fun L710 w711 h712 s713 => ?_)
 ·refine oC [(0, 137)] rfl rfl X3 fun L596 w597 h598 s599 => ?_
  exact ⟨_, rfl, (Jl h598 (x := List.getD (QS b t i3) 0 0) (k := -2) (show 0 < (YG (-2) &&& 31).toNat from by decide))⟩
 ·refine oC [(2, 139)] rfl rfl X3 fun L604 w605 h606 s607 => ?_
  exact ⟨_, rfl, (Jl h606 (x := List.getD (QS b t i3) 0 0) (k := -13) (show 0 < (YG (-13) &&& 31).toNat from by decide))⟩
 ·refine oP [(1, 138), (3, 140)] rfl rfl fun L608 w609 h610 s611 v612 q613 v614 q615 => ?_
  have q613 := Is.out q613; subst q613
  have q615 := Is.out q615; subst q615
  exact ⟨_, JD rfl rfl, rfl⟩
 ·refine oC [(5, 142)] rfl rfl X3 fun L620 w621 h622 s623 => ?_
  exact ⟨_, rfl, (Jl h622 (x := List.getD (QS b t i3) 0 0) (k := -22) (show 0 < (YG (-22) &&& 31).toNat from by decide))⟩
 ·refine oP [(4, 141), (6, 143)] rfl rfl fun L624 w625 h626 s627 v628 q629 => ?_
  have q629 := Is.out q629; subst q629
  exact ⟨_, JD rfl rfl, rfl⟩
 ·refine oP [(9, 146)] rfl rfl fun L638 w639 h640 s641 => ?_
  have c643 := s591.trans s641
  have c644 := s453.trans c643
  have o642 := o423.up c644
  exact ⟨_, Qf o642 Qx rfl (QaJ (by (rw [J1 (by omega)]; omega))), rfl⟩
 ·refine oP [(13, 150)] rfl rfl fun L657 w658 h659 s660 => ?_
  have c662 := s591.trans s660
  have c663 := s453.trans c662
  have o661 := o423.up c663
  exact ⟨_, Qf o661 Qx rfl (QaJ (by (rw [J1 (by omega)]; omega))), rfl⟩
 ·refine oP [(17, 154)] rfl rfl fun L676 w677 h678 s679 => ?_
  have c681 := s591.trans s679
  have c682 := s453.trans c681
  have o680 := o423.up c682
  exact ⟨_, Qf o680 Qx rfl (QaJ (by (rw [J1 (by omega)]; omega))), rfl⟩
 ·refine oP [(19, 156)] rfl rfl fun L687 w688 h689 s690 => ?_
  have c692 := s591.trans s690
  have c693 := s453.trans c692
  have o691 := o423.up c693
  exact ⟨_, Qf o691 Qx rfl (QaJ (by (rw [J1 (by omega)]; omega))), rfl⟩
 refine Seq.next ?_
 refine Run.seq ?_
 refine Run.open 2 (Φ := [.ex (.slice (some ⟨b401, 1, none⟩) 7 7), .ex (.slice (some ⟨b401, 0, none⟩) 7 8)]) [(0, 161), (1, 162)] Je (by kernel_rfl) rfl h712 ⟨(oX [] rfl rfl rfl fun _ _ => Qch (n := 8) (e := 167) 1 (by kernel_rfl) Qx rfl rfl rfl (by decide)), (oX [] rfl rfl rfl fun _ _ => KW (n := 8) (e := 167) 7 (by kernel_rfl) Qx rfl rfl rfl (by decide) (by decide)), trivial⟩ (fun L722 w723 h724 s725 => ?_)
 have c727 := s713.trans s725
 have c728 := s591.trans c727
 have c729 := s453.trans c728
 have o726 := o423.up c729
 refine Qit (m := 7) [] h724 o726 Try.underlying58 Qx rfl rfl (by (rw [J1 (by omega)])) fun w730 o731 s732 h733 => ?_
 refine nsr ?_
 refine sv (Q3 4 (n := 8) (e := 167) (by kernel_rfl) Qx rfl rfl (by omega) (by omega)) ?_
 refine sv (Qf o731 Qx rfl (QaJ (by simp [J1 (show List.length t = 8 by omega)]))) ?_
 refine sv (Qa.move rfl) ?_
 refine sv (Jw rfl rfl) ?_
 refine sv (Q3 4 (n := 8) (e := 167) (by kernel_rfl) Qx rfl rfl (by omega) (by omega)) ?_
 refine Kb (j := 4) (v := ((List.getD (List.take 1 (QS b t i3) ++ List.take 7 (QS b t i3)) 4 0) + (((((List.getD (QS b t i3) 7 0) + (((JM (List.getD (QS b t i3) 4 0) (-6)) ^^^ (JM (List.getD (QS b t i3) 4 0) (-11))) ^^^ (JM (List.getD (QS b t i3) 4 0) (-25)))) + (((List.getD (QS b t i3) 4 0) &&& (List.getD (QS b t i3) 5 0)) ^^^ ((~~~ (List.getD (QS b t i3) 4 0)) &&& (List.getD (QS b t i3) 6 0)))) + (List.getD Qbp i3 0)) + (List.getD (JK (sch b i2)) i3 0)))) [] h733 o731 Qx rfl rfl (by simp [J1 (show List.length t = 8 by omega)]) fun w734 o735 s736 h737 => ?_
 refine Seq.next ?_
 refine Run.region ?_
 refine sv (Qa.move rfl) ?_
 refine sv (Qa.move rfl) ?_
 refine sv (Jw rfl rfl) ?_
 refine sv (Q3 0 (n := 8) (e := 167) (by kernel_rfl) Qx rfl rfl (by omega) (by omega)) ?_
 refine Kb (j := 0) (v := ((((((List.getD (QS b t i3) 7 0) + (((JM (List.getD (QS b t i3) 4 0) (-6)) ^^^ (JM (List.getD (QS b t i3) 4 0) (-11))) ^^^ (JM (List.getD (QS b t i3) 4 0) (-25)))) + (((List.getD (QS b t i3) 4 0) &&& (List.getD (QS b t i3) 5 0)) ^^^ ((~~~ (List.getD (QS b t i3) 4 0)) &&& (List.getD (QS b t i3) 6 0)))) + (List.getD Qbp i3 0)) + (List.getD (JK (sch b i2)) i3 0)) + ((((JM (List.getD (QS b t i3) 0 0) (-2)) ^^^ (JM (List.getD (QS b t i3) 0 0) (-13))) ^^^ (JM (List.getD (QS b t i3) 0 0) (-22))) + ((((List.getD (QS b t i3) 0 0) &&& (List.getD (QS b t i3) 1 0)) ^^^ ((List.getD (QS b t i3) 0 0) &&& (List.getD (QS b t i3) 2 0))) ^^^ ((List.getD (QS b t i3) 1 0) &&& (List.getD (QS b t i3) 2 0)))))) [] h737 o735 Qx rfl rfl (by simp [J1 (show List.length t = 8 by omega)]) fun w738 o739 s740 h741 => ?_
 refine QH (fun _ _ h => h) ?_
 refine Run.region ?_
 refine sv (Qa.add rfl rfl (by omega)) ?_
 refine sv (Qa.move rfl) ?_
 have c742 := s736.trans s740
 have c743 := s732.trans c742
 have c744 := c729.trans c743
 have c745 := s422.trans c744
 exact Seq.nil (fun a746 h747 => ⟨_, by omega, _, h747.weaken (QG (l' := [(101, i64 (((i3 + 1) : Nat) : Int)), (0, .pointer (some ⟨t_b, 0, none⟩)), (4, .pointer (some ⟨b6, 0, none⟩)), (9, .pointer (some ⟨b401, 0, none⟩)), (100, .agg (List.map u32 Qbp).toArray)]) ⟨(congrArg (fun z => some (i64 z)) (show (((i3 : Nat) : Int) + 1 : Int) = (((i3 + 1) : Nat) : Int) from by rfl)), rfl, rfl, rfl, rfl, trivial⟩), ⟨i3 + 1, L722, rfl, rfl, h741, (c745.more (by decide)), ((show List.set (List.set (List.take 1 (QS b t i3) ++ List.take 7 (QS b t i3)) 4 ((List.getD (List.take 1 (QS b t i3) ++ List.take 7 (QS b t i3)) 4 0) + (((((List.getD (QS b t i3) 7 0) + (((JM (List.getD (QS b t i3) 4 0) (-6)) ^^^ (JM (List.getD (QS b t i3) 4 0) (-11))) ^^^ (JM (List.getD (QS b t i3) 4 0) (-25)))) + (((List.getD (QS b t i3) 4 0) &&& (List.getD (QS b t i3) 5 0)) ^^^ ((~~~ (List.getD (QS b t i3) 4 0)) &&& (List.getD (QS b t i3) 6 0)))) + (List.getD Qbp i3 0)) + (List.getD (JK (sch b i2)) i3 0)))) 0 ((((((List.getD (QS b t i3) 7 0) + (((JM (List.getD (QS b t i3) 4 0) (-6)) ^^^ (JM (List.getD (QS b t i3) 4 0) (-11))) ^^^ (JM (List.getD (QS b t i3) 4 0) (-25)))) + (((List.getD (QS b t i3) 4 0) &&& (List.getD (QS b t i3) 5 0)) ^^^ ((~~~ (List.getD (QS b t i3) 4 0)) &&& (List.getD (QS b t i3) 6 0)))) + (List.getD Qbp i3 0)) + (List.getD (JK (sch b i2)) i3 0)) + ((((JM (List.getD (QS b t i3) 0 0) (-2)) ^^^ (JM (List.getD (QS b t i3) 0 0) (-13))) ^^^ (JM (List.getD (QS b t i3) 0 0) (-22))) + ((((List.getD (QS b t i3) 0 0) &&& (List.getD (QS b t i3) 1 0)) ^^^ ((List.getD (QS b t i3) 0 0) &&& (List.getD (QS b t i3) 2 0))) ^^^ ((List.getD (QS b t i3) 1 0) &&& (List.getD (QS b t i3) 2 0))))) = QS b t (i3 + 1) from by (rw [Qe2 (n := i2) (by omega) (by omega) (by omega)]; unfold rnd Qlf Ql4; with_reducible rfl)) ▸ o739), (by omega)⟩⟩)
end Go.Proofs.Ytgfomedobfaidaa
end
section
set_option linter.unusedVariables false
set_option linter.unusedSimpArgs false
namespace Go.Proofs.Ytgfomedobfaidaa
open Go.RowKit
theorem Qbw {lab : Lab} {w : World} (hv : Ql lab w) {K K2 : Nat} :
  Calls Try.prog 130 #[] w (Eff [] lab w (Qjs K K2 ([]))) := by
 obtain ⟨L0, h0L, ⟨zU0, z00⟩, hL, hX⟩ := QcG [] hv
 refine Qu Try.func130 rfl Try.ntmps130 (lB9 rfl) ?_
 refine rsr ?_
 refine sv (Qa.assign rfl) ?_
 refine nsr ?_
 refine Q7 (V := Is (.agg (List.map u32 QjN).toArray)) Qk2 h0L rfl (Qeq h0L ) fun v1 w2 q3 s4 h5 => ?_
 have q3 := Is.out q3; subst q3
 refine sv (Qa.build [(0, .agg (List.map u32 QjN).toArray)] [(0, 8), (8, 1), (9, 1)] [u32 1779033703, u32 3144134277, u32 1013904242, u32 2773480762, u32 1359893119, u32 2600822924, u32 528734635, u32 1541459225, .slice none 0 0, .int .i64 0] Try.underlying226 QjD (by kernel_rfl) rfl (by kernel_rfl)) ?_
 refine Yz 4 [u32 1779033703, u32 3144134277, u32 1013904242, u32 2773480762, u32 1359893119, u32 2600822924, u32 528734635, u32 1541459225, .slice none 0 0, .int .i64 0] h5 rfl rfl fun b8 L6 w7 o9 s10 h11 => ?_
 refine sv (Qa.assign rfl) ?_
 refine Seq.next ?_
 have o12 := JI.mk (s := ([])) (xs := ([])) o9 (ZG.nil (lab := L6) (w := w7) (d := 504) (t := 5)) (show QjN = _ from by rfl) (show [] = _ from by rfl) (by rfl)
 have c13 := s4.trans s10
 obtain ⟨lab9, s9, B9⟩ := hX [(4, K), (504, K2)] c13 (by decide) h11
 obtain ⟨zU, zo⟩ := B9.u
 refine Run.ret ?_
 exact Qm Try.results130 rfl ⟨_, lab9, rfl, ⟨_, rfl, JI.back o12 B9 K K2 rfl rfl (by decide) (by decide) (by simp [Xa]) (by simp [Xa])⟩, s9, B9.v⟩
theorem Vs {lab : Lab} {w : World} (hv : Ql lab w) {h_d h_e h_b : Nat} {h : List UInt8} (h0 : JI lab w h_d h_e h_b h) (h0n : h_e ≠ h_d) {b : List UInt8} {v1 : Value} (h1 : Qe b lab w v1) (hs : List.length h + List.length b ≤ 100000000) :
  Calls Try.prog 131 #[.pointer (some ⟨h_b, 0, none⟩), v1] w (Eff [h_d, h_e] lab w (QhQ (Is (.tuple #[])) (fun lab' w' => JI lab' w' h_d h_e h_b (h ++ b)))) := by
 obtain ⟨L0, h0L, ⟨zU0, z00⟩, hL, hX⟩ := QcG [(h_d, 1), (h_e, 501)] hv
 replace h0 := JI.relab h0 (hL 1 (by simp [Kn])) (hL 501 (QiG h0n))
 replace h1 := up z00 h1
 obtain ⟨A1, c2, rfl⟩ := Qe.shape h1
 have z3 := Qe.cap h1
 have hr := XU h
 refine Qu Try.func131 rfl Try.ntmps131 (lB9 rfl) ?_
 refine Run.seq ?_
 refine rsr ?_
 refine sv (Qa.move rfl) ?_
 refine sv (Jf Try.underlying192 rfl rfl) ?_
 refine Seq.next ?_
 refine Qc rfl rfl ?_
 refine Qg (fun _ _ h => h) ?_
 refine rsr ?_
 refine sv (Qa.move rfl) ?_
 refine sv (Qa.nilCheck rfl) ?_
 obtain ⟨x4, x5, x6, x7, x8, x9, x10, x11, A12, c13, hx14, o15, o16, z17, z18⟩ := JI.open h0
 refine sv (Qd 9 Try.underlying226 rfl ty3 rfl rfl) ?_
 refine sv (Qf o15 ty3 rfl rfl) ?_
 refine sv (Qa.move rfl) ?_
 refine sv (Qa.len Try.underlying22 rfl) ?_
 refine sv (Qa.add rfl rfl (by omega)) ?_
 refine sv (Qa.nilCheck rfl) ?_
 refine sv (Qd 9 Try.underlying226 rfl ty3 rfl rfl) ?_
 refine Q2 [u32 x4, u32 x5, u32 x6, u32 x7, u32 x8, u32 x9, u32 x10, u32 x11, .slice A12 (List.length (Jb h)) c13, i64 (((List.length h : Nat) : Int) + ((List.length b : Nat) : Int))] h0L o15 ty3 rfl rfl rfl (lB9 rfl) rfl rfl fun w19 o20 s21 h22 => ?_
 refine nsr ?_
 refine sv (Qa.move rfl) ?_
 refine sv (Qa.move rfl) ?_
 refine sv (Qa.nilCheck rfl) ?_
 refine sv (Qd 8 Try.underlying226 rfl XO rfl rfl) ?_
 refine sv (Qf o20 XO rfl rfl) ?_
 refine sv (Qa.move rfl) ?_
 have o23 := o16.up s21
 have q24 := up s21 h1
 refine Qg3 (k := 501) (List.map u8 b) h22 o23 Try.underlying22 ty5 rfl rfl rfl (by simp) (Qe.row q24) JQ (by rw [List.length_map]; omega) (by rw [List.length_map]; omega) fun L25 w26 v27 o28 s29 h30 => ?_
 rw [← List.map_append] at o28
 obtain ⟨A31, c32, rfl⟩ := ZG.shapeN o28 (n := (List.length ((Jb h) ++ b))) (by simp)
 have z33 := ZG.cap o28; rw [List.length_map] at z33
 refine sv (Qa.nilCheck rfl) ?_
 refine sv (Qd 8 Try.underlying226 rfl XO rfl rfl) ?_
 have o34 := o20.up s29
 refine Q2 [u32 x4, u32 x5, u32 x6, u32 x7, u32 x8, u32 x9, u32 x10, u32 x11, .slice A31 (List.length ((Jb h) ++ b)) c32, i64 (((List.length h : Nat) : Int) + ((List.length b : Nat) : Int))] h30 o34 XO rfl rfl rfl (lB9 rfl) rfl rfl fun w35 o36 s37 h38 => ?_
 refine Seq.next ?_
 refine Run.block ?_
 have o39 := o28.up s37
 refine Run.loop (fun m' l' w' => ∃ (k : Nat) (lab' : Lab), m' = List.length (Jb h ++ b) - 64 * k ∧ l' = [(0, .pointer (some ⟨h_b, 0, none⟩))] ∧ Ql lab' w' ∧ Stp [1, 501] L25 w35 lab' w' ∧ XI lab' w' 1 501 h_b (YN (KL h) (Jb h ++ b) k) (List.drop (64 * k) (Jb h ++ b)) (((List.length h + List.length b : Nat) : Int)) ∧ (64 * k ≤ List.length (Jb h ++ b))) (List.length (Jb h ++ b) - 64 * 0) (l0 := [(0, .pointer (some ⟨h_b, 0, none⟩))]) ⟨rfl, trivial⟩ ⟨0, L25, rfl, rfl, h38, ((Stp.refl _ _).more (by simp)), (XI.mk o36 o39 (show ([x4, x5, x6, x7, x8, x9, x10, x11] : List UInt32) = YN (KL h) (Jb h ++ b) 0 from by exact hx14.symm) (show (Jb h) ++ b = List.drop (64 * 0) (Jb h ++ b) from by rfl) (show ((List.length h : Nat) : Int) + ((List.length b : Nat) : Int) = ((List.length h + List.length b : Nat) : Int) from by rfl)), (by omega)⟩ ?_
 intro m40 l41 w42 H43
 obtain ⟨k, lab44, hzm, rfl, hv45, s46, o47, hk⟩ := H43
 replace hzm := hzm.symm; subst hzm
 obtain ⟨x48, x49, x50, x51, x52, x53, x54, x55, A56, c57, hx58, o59, o60, z61, z62⟩ := XI.open o47 (Xe (YL h) _)
 refine Run.seq ?_
 refine rsr ?_
 refine sv (Qa.move rfl) ?_
 refine sv (Qa.nilCheck rfl) ?_
 refine sv (Qd 8 Try.underlying226 rfl XO rfl rfl) ?_
 refine sv (Qf o59 XO rfl rfl) ?_
 refine sv (Qa.len Try.underlying22 rfl) ?_
 refine sv (Qa.geq rfl rfl) ?_
 refine Seq.next ?_
 rcases Decidable.em ((64 : Int) ≤ (((List.length (List.drop (64 * k) (Jb h ++ b)) : Nat) : Int) : Int)) with hp1 | hp1
 rotate_left
 ·refine Qc rfl (dF9 hp1) ?_
  have o133 := JI.mk (s := (h ++ b)) (xs := (List.drop (64 * k) (Jb h ++ b))) o59 o60 (show ([x48, x49, x50, x51, x52, x53, x54, x55] : List UInt32) = _ from by exact hx58.symm.trans (Qdg (by rw [List.length_drop] at hp1; omega))) (show List.drop (64 * k) (Jb h ++ b) = _ from by exact Qep (by rw [List.length_drop] at hp1; omega)) (by (rw [List.length_append]))
  have c134 := s37.trans s46
  have c135 := s29.trans c134
  have c136 := s21.trans c135
  obtain ⟨lab9, s9, B9⟩ := hX [(1, h_d), (501, h_e)] c136 (by decide) hv45
  obtain ⟨zU, zo⟩ := B9.u
  refine Run.exit ?_
  exact Qa5 Try.results131  ⟨_, lab9, rfl, ⟨rfl, (JI.back o133 B9 h_d h_e rfl rfl (by decide) (by decide) (by simp [Xa]) (by simp [Xa]))⟩, s9, B9.v⟩
 refine Qc rfl (dT9 hp1) ?_
 refine Qg (fun _ _ h => h) ?_
 refine Run.block ?_
 refine Run.seq ?_
 refine Zw [⟨30, .ex (.pointer (some ⟨h_b, 0, none⟩)), [], none⟩, ⟨31, .ex (.pointer (some ⟨h_b, 0, none⟩)), [], none⟩, ⟨32, .ex (.pointer (some ⟨h_b, 0, none⟩)), [], none⟩, ⟨33, .ex (.pointer (some ⟨h_b, 0, none⟩)), [], none⟩, ⟨34, .ex (.pointer (some ⟨h_b, 0, none⟩)), [], none⟩, ⟨35, .ex (.pointer (some ⟨h_b, 8, none⟩)), [], none⟩, ⟨36, .ex (.slice A56 (List.length (List.drop (64 * k) (Jb h ++ b))) c57), [], none⟩, ⟨37, .ex (.slice A56 64 c57), [], none⟩] [2, 7] [[], [], [], [], [], [], [], []] Je (by kernel_rfl) (by kernel_rfl) rfl hv45 ⟨QK, QK, QK, QK, QK, QK, QK, QK, trivial⟩ ⟨(rX [] rfl rfl rfl rfl fun _ _ => Qa.move rfl), (rX [0] rfl rfl rfl rfl fun _ _ => Qa.nilCheck rfl), (rX [1] rfl rfl rfl rfl fun _ _ => Qd 0 Try.underlying226 rfl VM rfl rfl), (rX [] rfl rfl rfl rfl fun _ _ => Qa.move rfl), (rX [3] rfl rfl rfl rfl fun _ _ => Qa.nilCheck rfl), (rX [4] rfl rfl rfl rfl fun _ _ => Qd 8 Try.underlying226 rfl XO rfl rfl), ?_, ?_, trivial⟩ (fun L97 w98 h99 s100 => ?_)
 ·refine rP [5] rfl rfl rfl rfl fun L87 w88 h89 s90 => ?_
  replace s90 : Stp [] _ _ _ _ := s90
  have o91 := o59.up s90
  exact ⟨_, Qf o91 XO rfl rfl, rfl⟩
 ·refine rP [6] rfl rfl rfl rfl fun L92 w93 h94 s95 => ?_
  replace s95 : Stp [] _ _ _ _ := s95
  have o96 := o60.up s95
  exact ⟨_, JJ 64 Try.underlying22 ty5 rfl rfl (by omega) (by omega), rfl⟩
 replace s100 : Stp [] _ _ _ _ := s100
 have o101 := o59.up s100
 have o103 := o60.up s100
 have q102 := KX o103 64 (by omega)
 refine ZQ Qk1 rfl (Qbl 501 (by decide) (Qer (Ql.release h99 501)  (t := [x48, x49, x50, x51, x52, x53, x54, x55]) (t_r := [.slice A56 (List.length (List.drop (64 * k) (Jb h ++ b))) c57, i64 ((List.length h + List.length b : Nat) : Int)]) (Own.lent o101) rfl q102 (show  List.length (List.take 64 (List.drop (64 * k) (Jb h ++ b))) = 64 from by (rw [List.length_take, List.length_drop]; rw [List.length_drop] at hp1; omega)))) fun v104 L109 w105 r110 s107 h108 => ?_
 obtain ⟨q106, o111⟩ := r110
 obtain ⟨y112, y113, y114, y115, y116, y117, y118, y119, hy120⟩ := Qh8 (Kd rfl : List.length (Qip ([x48, x49, x50, x51, x52, x53, x54, x55]) (List.take 64 (List.drop (64 * k) (Jb h ++ b)))) = 8)
 rw [hy120] at o111
 replace o111 : Own L109 w105 1 h_b 226 #[u32 y112, u32 y113, u32 y114, u32 y115, u32 y116, u32 y117, u32 y118, u32 y119, .slice A56 (List.length (List.drop (64 * k) (Jb h ++ b))) c57, i64 ((List.length h + List.length b : Nat) : Int)] := o111
 have q106 := Is.out q106; subst q106
 refine Seq.next ?_
 refine Run.region ?_
 refine sv (Qa.move rfl) ?_
 refine sv (Qa.move rfl) ?_
 refine sv (Qa.nilCheck rfl) ?_
 refine sv (Qd 8 Try.underlying226 rfl XO rfl rfl) ?_
 refine sv (Qf o111 XO rfl rfl) ?_
 have o121 := o103.up s107
 have o122 := QdM o121 64 (by omega)
 refine sv (Vj 64 Try.underlying22 ty5 rfl rfl (by omega) (by omega)) ?_
 refine sv (Qa.nilCheck rfl) ?_
 refine sv (Qd 8 Try.underlying226 rfl XO rfl rfl) ?_
 refine Q2 [u32 y112, u32 y113, u32 y114, u32 y115, u32 y116, u32 y117, u32 y118, u32 y119, .slice (if c57 = 64 then A56 else Option.map (fun zq => Addr.add zq (64 * 1)) A56) ((List.length (List.drop (64 * k) (Jb h ++ b))) - 64) (c57 - 64), i64 ((List.length h + List.length b : Nat) : Int)] h108 o111 XO rfl rfl rfl (lB9 rfl) rfl rfl fun w123 o124 s125 h126 => ?_
 have o127 := o122.up s125
 have c128 := s107.trans s125
 have c129 := s100.trans c128
 have c130 := s46.trans c129
 exact Seq.nil (fun a131 h132 => ⟨_, by (rw [List.length_drop] at hp1; omega), _, h132.weaken (QG (l' := [(0, .pointer (some ⟨h_b, 0, none⟩))]) ⟨rfl, trivial⟩), ⟨k + 1, L109, rfl, rfl, h126, (c130.more (by decide)), (XI.mk o124 o127 (show ([y112, y113, y114, y115, y116, y117, y118, y119] : List UInt32) = YN (KL h) (Jb h ++ b) (k + 1) from by exact hy120.symm.trans (Qdh hx58 rfl)) (show List.drop 64 (List.drop (64 * k) (Jb h ++ b)) = List.drop (64 * (k + 1)) (Jb h ++ b) from by (rw [List.drop_drop]; rfl)) (show ((List.length h + List.length b : Nat) : Int) = ((List.length h + List.length b : Nat) : Int) from by rfl)), (by (rw [List.length_drop] at hp1; omega))⟩⟩)
end Go.Proofs.Ytgfomedobfaidaa
end
section
set_option linter.unusedVariables false
set_option linter.unusedSimpArgs false
namespace Go.Proofs.Ytgfomedobfaidaa
open Go.RowKit
theorem Qgv {lab : Lab} {w : World} (hv : Ql lab w) {K K2 : Nat} {h_d h_e h_b : Nat} {h : List UInt8} (h0 : JI lab w h_d h_e h_b h) (h0n : h_e ≠ h_d) (hs : List.length h ≤ 100000000) :
  Calls Try.prog 173 #[.pointer (some ⟨h_b, 0, none⟩)] w (Eff [h_d, h_e] lab w (QhQ (Qjs K K2 (h)) (fun lab' w' => JI lab' w' h_d h_e h_b (h)))) := by
 obtain ⟨L0, h0L, ⟨zU0, z00⟩, hL, hX⟩ := QcG [(h_d, 1), (h_e, 501)] hv
 replace h0 := JI.relab h0 (hL 1 (by simp [Kn])) (hL 501 (QiG h0n))
 have hr := XU h
 refine Qu Try.func173 rfl Try.ntmps173 (lB9 rfl) ?_
 refine rsr ?_
 refine sv (Qa.assign rfl) ?_
 refine Seq.next ?_
 refine Run.seq ?_
 refine rsr ?_
 refine sv (Qa.move rfl) ?_
 refine sv (Jf Try.underlying192 rfl rfl) ?_
 refine Seq.next ?_
 refine Qc rfl rfl ?_
 refine Qg (fun _ _ h => h) ?_
 refine Run.seq ?_
 obtain ⟨x1, x2, x3, x4, x5, x6, x7, x8, A9, c10, hx11, o12, o13, z14, z15⟩ := JI.open h0
 refine Zw [⟨5, .ex (.pointer (some ⟨h_b, 0, none⟩)), [], none⟩, ⟨6, .ex (.pointer (some ⟨h_b, 0, none⟩)), [], none⟩, ⟨7, .ex (.pointer (some ⟨h_b, 0, none⟩)), [], none⟩, ⟨8, .ex (.agg #[u32 x1, u32 x2, u32 x3, u32 x4, u32 x5, u32 x6, u32 x7, u32 x8]), [], none⟩, ⟨9, .v (QkP 10 5 0 []), [], (some 9)⟩, ⟨10, .ex (.pointer (some ⟨h_b, 0, none⟩)), [], none⟩, ⟨11, .ex (.pointer (some ⟨h_b, 0, none⟩)), [], none⟩, ⟨12, .ex (.pointer (some ⟨h_b, 8, none⟩)), [], none⟩, ⟨13, .ex (.slice A9 (List.length (Jb h)) c10), [], none⟩, ⟨14, .v (Qhv 10 5 (List.map u8 ((Jb h)))), [10], none⟩, ⟨15, .ex (.pointer (some ⟨h_b, 0, none⟩)), [], none⟩, ⟨16, .ex (.pointer (some ⟨h_b, 0, none⟩)), [], none⟩, ⟨17, .ex (.pointer (some ⟨h_b, 9, none⟩)), [], none⟩, ⟨18, .ex (i64 ((List.length h : Nat) : Int)), [], none⟩] [3, 9, 13] [[10], [10], [10], [10], [], [10], [10], [10], [], [], [10], [10], [10], [10]] Je (by kernel_rfl) (by kernel_rfl) rfl h0L ⟨QK, QK, QK, QK, Qgt rfl, QK, QK, QK, QK, Qee rfl, QK, QK, QK, QK, trivial⟩ ⟨(rX [] rfl rfl rfl rfl fun _ _ => Qa.move rfl), (rX [0] rfl rfl rfl rfl fun _ _ => Qa.nilCheck rfl), (rX [1] rfl rfl rfl rfl fun _ _ => Qd 0 Try.underlying226 rfl VM rfl rfl), ?_, ?_, (rX [] rfl rfl rfl rfl fun _ _ => Qa.move rfl), (rX [5] rfl rfl rfl rfl fun _ _ => Qa.nilCheck rfl), (rX [6] rfl rfl rfl rfl fun _ _ => Qd 8 Try.underlying226 rfl XO rfl rfl), ?_, ?_, (rX [] rfl rfl rfl rfl fun _ _ => Qa.move rfl), (rX [10] rfl rfl rfl rfl fun _ _ => Qa.nilCheck rfl), (rX [11] rfl rfl rfl rfl fun _ _ => Qd 9 Try.underlying226 rfl ty3 rfl rfl), ?_, trivial⟩ (fun L86 w87 h88 s89 v90 q91 => ?_)
 ·refine rP [2] rfl rfl rfl rfl fun L28 w29 h30 s31 => ?_
  replace s31 : Stp [10] _ _ _ _ := s31
  have o32 := o12.up s31
  exact ⟨_, Qb [u32 x1, u32 x2, u32 x3, u32 x4, u32 x5, u32 x6, u32 x7, u32 x8] o32 VM rfl rfl, rfl⟩
 ·refine rN [] rfl rfl rfl rfl fun L33 w34 h35 s36 => ?_
  replace s36 : Stp [] _ _ _ _ := s36
  exact KS (k := 10) h35 Try.underlying22 ty5
 ·refine rP [7] rfl rfl rfl rfl fun L49 w50 h51 s52 => ?_
  replace s52 : Stp [] _ _ _ _ := s52
  have o53 := o12.up s52
  exact ⟨_, Qf o53 XO rfl rfl, rfl⟩
 ·refine rN [4, 8] rfl rfl rfl rfl fun L54 w55 h56 s57 v58 q59 => ?_
  replace s57 : Stp [] _ _ _ _ := s57
  obtain ⟨A60, c61, rfl⟩ := App.shape q59
  have z63 := (App.row q59).2
  have o64 := o13.up s57
  refine QbW (k := 10) (List.map u8 (Jb h)) h56 (App.toO q59) Try.underlying22 ty5 rfl rfl rfl o64 JQ (by (simp; omega)) (by (simp; omega)) fun L67 w66 v65 o68 => ?_
  rw [List.nil_append] at o68
  exact o68
 ·refine rP [12] rfl rfl rfl rfl fun L81 w82 h83 s84 => ?_
  replace s84 : Stp [10] _ _ _ _ := s84
  have o85 := o12.up s84
  exact ⟨_, Qf o85 ty3 rfl rfl, rfl⟩
 replace s89 : Stp [10] _ _ _ _ := s89
 obtain ⟨A92, c93, rfl⟩ := ZG.shapeN q91 (n := (List.length ((Jb h)))) (by simp)
 have z94 := ZG.cap q91; rw [List.length_map] at z94
 refine sv (Qa.build [(0, .agg #[u32 x1, u32 x2, u32 x3, u32 x4, u32 x5, u32 x6, u32 x7, u32 x8]), (1, .slice A92 (List.length ((Jb h))) c93), (2, i64 ((List.length h : Nat) : Int))] [(0, 8), (8, 1), (9, 1)] [u32 x1, u32 x2, u32 x3, u32 x4, u32 x5, u32 x6, u32 x7, u32 x8, .slice A92 (List.length ((Jb h))) c93, i64 ((List.length h : Nat) : Int)] Try.underlying226 QjD (by kernel_rfl) rfl (by kernel_rfl)) ?_
 refine Yz 21 [u32 x1, u32 x2, u32 x3, u32 x4, u32 x5, u32 x6, u32 x7, u32 x8, .slice A92 (List.length ((Jb h))) c93, i64 ((List.length h : Nat) : Int)] h88 rfl rfl fun b97 L95 w96 o98 s99 h100 => ?_
 refine sv (Qa.assign rfl) ?_
 refine Seq.next ?_
 have o101 := q91.up s99
 have o102 := JI.mk (s := h) (xs := (Jb h)) o98 o101 (show ([x1, x2, x3, x4, x5, x6, x7, x8] : List UInt32) = _ from by simp_all) (show (Jb h) = _ from by with_reducible rfl) (by with_reducible rfl)
 have c104 := s89.trans s99
 have o103 := o12.up c104
 have o105 := o13.up c104
 have o106 := JI.mk (s := h) (xs := (Jb h)) o103 o105 (show ([x1, x2, x3, x4, x5, x6, x7, x8] : List UInt32) = _ from by exact hx11.symm) (show (Jb h) = _ from by rfl) (by rfl)
 obtain ⟨lab9, s9, B9⟩ := hX [(1, h_d), (501, h_e), (21, K), (10, K2)] c104 (by decide) h100
 obtain ⟨zU, zo⟩ := B9.u
 refine Run.ret ?_
 exact Qm Try.results173 rfl ⟨_, lab9, rfl, ⟨⟨_, rfl, JI.back o102 B9 K K2 rfl rfl (by decide) (by decide) (by simp [Xa]) (by simp [Xa])⟩, (JI.back o106 B9 h_d h_e rfl rfl (by decide) (by decide) (by simp [Xa]) (by simp [Xa]))⟩, s9, B9.v⟩
theorem UG {lab : Lab} {w : World} (hv : Ql lab w) {h_d h_e h_b : Nat} {h : List UInt8} (h0 : JI lab w h_d h_e h_b h) (h0n : h_e ≠ h_d) (hs : List.length h ≤ 10000000) :
  Calls Try.prog 132 #[.pointer (some ⟨h_b, 0, none⟩)] w (Eff [h_d, h_e] lab w (QhQ (Qe (JG h)) (fun lab' w' => JI lab' w' h_d h_e h_b (h)))) := by
 obtain ⟨L0, h0L, ⟨zU0, z00⟩, hL, hX⟩ := QcG [(h_d, 1), (h_e, 501)] hv
 replace h0 := JI.relab h0 (hL 1 (by simp [Kn])) (hL 501 (QiG h0n))
 have hpn : (1 + (119 - ((List.length h : Nat) : Int) % 64) % 64).toNat = (119 - List.length h % 64) % 64 + 1 := by omega
 refine Qu Try.func132 rfl Try.ntmps132 (lB9 rfl) ?_
 refine rsr ?_
 refine sv (Qa.assign rfl) ?_
 refine Seq.next ?_
 refine Run.seq ?_
 refine rsr ?_
 refine sv (Qa.move rfl) ?_
 refine sv (Jf Try.underlying192 rfl rfl) ?_
 refine Seq.next ?_
 refine Qc rfl rfl ?_
 refine Qg (fun _ _ h => h) ?_
 refine rsr ?_
 refine sv (Qa.move rfl) ?_
 refine ZQ Qk0 rfl (Qgv h0L (K := 13) (K2 := 513)  (h := h) h0 (by decide) (show  List.length h ≤ 100000000 from by omega)) fun v1 L6 w2 r7 s4 h5 => ?_
 obtain ⟨q3, o8⟩ := r7
 obtain ⟨b9, rfl, o10⟩ := q3
 refine sv (Qa.assign rfl) ?_
 refine nsr ?_
 refine sv (Qa.move rfl) ?_
 refine sv (Qa.nilCheck rfl) ?_
 obtain ⟨x11, x12, x13, x14, x15, x16, x17, x18, A19, c20, hx21, o22, o23, z24, z25⟩ := JI.open o8
 refine sv (Qd 9 Try.underlying226 rfl ty3 rfl rfl) ?_
 refine sv (Qf o22 ty3 rfl rfl) ?_
 refine sv (Qa.rem rfl rfl (by omega) (by omega)) ?_
 refine sv (Qa.sub rfl rfl (by omega)) ?_
 refine sv (Qa.rem rfl rfl (by omega) (by omega)) ?_
 refine sv (Qa.add rfl rfl (by omega)) ?_
 refine Jv (k := 22) u8 (0 : UInt8) ((1 + ((119 - (((List.length h : Nat) : Int) % 64)) % 64)).toNat) h5 Try.underlying22 ty5 rfl rfl rfl (by omega) (by omega) (by omega) (by omega) (by decide) ?_
 intro lab26 w27 b28 o29 s30 hv31
 refine sv (Qa.assign rfl) ?_
 refine nsr ?_
 refine sv (Qa.move rfl) ?_
 refine sv (Q4 0 Try.underlying22 ty5 rfl rfl (by omega) (by omega)) ?_
 refine Q8 (k := 22) (j := 0) (v := (128 : UInt8)) u8 hv31 o29 ty5 (congrArg (fun o => some (Value.pointer (some ⟨b28, o, none⟩))) (Nat.mul_one 0)) rfl (by (rw [List.length_replicate]; omega)) rfl rfl fun w32 o33 s34 h35 => ?_
 refine Seq.next ?_
 refine Run.seq ?_
 refine rsr ?_
 refine sv (Qa.assign rfl) ?_
 refine Seq.next ?_
 refine Run.block ?_
 have o36 := Qjr (n := (1 + ((119 - (((List.length h : Nat) : Int) % 64)) % 64)).toNat) o33 (by (rw [List.length_map]; first | assumption | omega | (simp; done) | (simp; omega))) (by first | omega | (simp; done) | (simp; omega))
 refine Run.loop (fun m' l' w' => ∃ (k : Nat) (lab' : Lab) (ux22 : Value), m' = 8 - k ∧ l' = [(5, i64 (7 - ((k : Nat) : Int))), (4, ux22), (0, .pointer (some ⟨h_b, 0, none⟩)), (2, .slice none 0 0), (3, .pointer (some ⟨b9, 0, none⟩))] ∧ Ql lab' w' ∧ Stp [22] lab26 w32 lab' w' ∧ App lab' w' 22 5 ux22 ((1 + (119 - ((List.length h : Nat) : Int) % 64) % 64).toNat + k) (List.map u8 ((List.set (List.replicate ((1 + ((119 - (((List.length h : Nat) : Int) % 64)) % 64)).toNat) (0 : UInt8)) 0 (128 : UInt8)) ++ QbG (List.length h) k)) ∧ (k ≤ 8)) (8 - 0) (l0 := [(5, i64 (7 - ((0 : Nat) : Int))), (4, .slice (some ⟨b28, 0, none⟩) ((1 + ((119 - (((List.length h : Nat) : Int) % 64)) % 64)).toNat) ((1 + ((119 - (((List.length h : Nat) : Int) % 64)) % 64)).toNat)), (0, .pointer (some ⟨h_b, 0, none⟩)), (2, .slice none 0 0), (3, .pointer (some ⟨b9, 0, none⟩))]) ⟨(congrArg (fun z => some (i64 z)) (show (7 : Int) = 7 - ((0 : Nat) : Int) from by first | rfl | omega)), rfl, rfl, rfl, rfl, trivial⟩ ⟨0, lab26, (.slice (some ⟨b28, 0, none⟩) ((1 + ((119 - (((List.length h : Nat) : Int) % 64)) % 64)).toNat) ((1 + ((119 - (((List.length h : Nat) : Int) % 64)) % 64)).toNat)), rfl, rfl, h35, ((Stp.refl _ _).more (by simp)), (Yn (show List.set (List.replicate ((1 + ((119 - (((List.length h : Nat) : Int) % 64)) % 64)).toNat) (0 : UInt8)) 0 (128 : UInt8) = (List.set (List.replicate ((1 + ((119 - (((List.length h : Nat) : Int) % 64)) % 64)).toNat) (0 : UInt8)) 0 (128 : UInt8)) ++ QbG (List.length h) 0 from by first | exact (List.append_nil _).symm | (rw [List.append_assoc, QaF (by omega) rfl])) (show (1 + ((119 - (((List.length h : Nat) : Int) % 64)) % 64)).toNat = (1 + (119 - ((List.length h : Nat) : Int) % 64) % 64).toNat + 0 from by first | rfl | omega) o36), (by omega)⟩ ?_
 intro m37 l38 w39 H40
 obtain ⟨k, lab41, v44, hzm, rfl, hv42, s43, o45, hk⟩ := H40
 replace hzm := hzm.symm; subst hzm
 obtain ⟨A46, c47, rfl⟩ := App.shape o45
 have m48 : List.length ((List.set (List.replicate ((1 + ((119 - (((List.length h : Nat) : Int) % 64)) % 64)).toNat) (0 : UInt8)) 0 (128 : UInt8)) ++ QbG (List.length h) k) = (1 + (119 - ((List.length h : Nat) : Int) % 64) % 64).toNat + k := QY o45
 have z49 := (App.row o45).2
 refine Run.seq ?_
 refine rsr ?_
 refine sv (Qa.move rfl) ?_
 refine sv (Qa.geq rfl rfl) ?_
 refine Seq.next ?_
 rcases Decidable.em ((0 : Int) ≤ (7 - ((k : Nat) : Int) : Int)) with hp1 | hp1
 ·refine Qc rfl (dT9 hp1) ?_
  refine Qg (fun _ _ h => h) ?_
  refine Run.seq ?_
  refine Run.block ?_
  refine Run.region ?_
  refine sv (Qa.move rfl) ?_
  refine sv (Qa.move rfl) ?_
  refine sv (Qa.nilCheck rfl) ?_
  refine sv (Qd 9 Try.underlying226 rfl ty3 rfl rfl) ?_
  have c51 := s34.trans s43
  have c52 := s30.trans c51
  have o50 := o22.up c52
  refine sv (Qf o50 ty3 rfl rfl) ?_
  refine sv (VL Try.underlying3 Try.underlying62 rfl (by first | omega | (simp; done) | (simp; omega)) (by first | omega | (simp; done) | (simp; omega))) ?_
  refine sv (ZF (b := 8) rfl rfl (by first | omega | (simp; done) | (simp; omega))) ?_
  refine sv (Qa.move rfl) ?_
  refine sv (Qa.mul rfl rfl (by first | omega | (simp; done) | (simp; omega))) ?_
  refine sv (YB rfl rfl (by first | omega | (simp; done) | (simp; omega)) (by first | omega | (simp; done) | (simp; omega))) ?_
  refine sv (KH Try.underlying62 Try.underlying5 rfl) ?_
  refine QR [(0, u8 (UInt8.ofNat (((List.length h) * 8) / 2 ^ (8 * (7 - ((k : Nat) : Int))).toNat)))] (List.map u8 [UInt8.ofNat (((List.length h) * 8) / 2 ^ (8 * (7 - ((k : Nat) : Int))).toNat)]) hv42 Try.underlying22 ty5 (by decide) (by decide) rfl (by kernel_rfl) (by decide) ?_
  intro w53 b54 r55 s56 hv57
  have q58 : Qe [UInt8.ofNat (((List.length h) * 8) / 2 ^ (8 * (7 - ((k : Nat) : Int))).toNat)] lab41 w53 (.slice (some ⟨b54, 0, none⟩) 1 1) := ⟨_, _, rfl, Nat.le_refl _, lB9 rfl, r55⟩
  have o59 := o45.up s56
  refine Seq.append (k := 22) (List.map u8 ([UInt8.ofNat (((List.length h) * 8) / 2 ^ (8 * (7 - ((k : Nat) : Int))).toNat)])) hv57 o59 Try.underlying22 ty5 rfl rfl rfl (by simp) (Qe.row q58) JQ (by first | omega | (simp; done) | (simp; omega)) (by first | omega | (simp; done) | (simp; omega)) (by decide) ?_
  intro lab60 w61 v62 o63 s64 hv65
  rw [← List.map_append] at o63
  obtain ⟨A66, c67, rfl⟩ := App.shape o63
  have m68 : List.length ((List.set (List.replicate ((1 + ((119 - (((List.length h : Nat) : Int) % 64)) % 64)).toNat) (0 : UInt8)) 0 (128 : UInt8)) ++ QbG (List.length h) k ++ ([UInt8.ofNat (((List.length h) * 8) / 2 ^ (8 * (7 - ((k : Nat) : Int))).toNat)])) = (1 + (119 - ((List.length h : Nat) : Int) % 64) % 64).toNat + k + 1 := QY o63
  have z69 := (App.row o63).2
  refine sv (Qa.assign rfl) ?_
  refine QH (fun _ _ h => h) ?_
  refine Run.region ?_
  refine sv (Qa.move rfl) ?_
  refine sv (Qa.sub rfl rfl (by first | omega | (simp; done) | (simp; omega))) ?_
  refine sv (Qa.assign rfl) ?_
  have c70 := s56.trans s64
  have c71 := s43.trans c70
  exact Seq.nil (fun a72 h73 => ⟨_, by omega, _, h73.weaken (QG (l' := [(5, i64 (7 - (((k + 1) : Nat) : Int))), (4, .slice A66 ((1 + (119 - ((List.length h : Nat) : Int) % 64) % 64).toNat + k + 1) c67), (0, .pointer (some ⟨h_b, 0, none⟩)), (2, .slice none 0 0), (3, .pointer (some ⟨b9, 0, none⟩))]) ⟨(congrArg (fun z => some (i64 z)) (show ((7 - ((k : Nat) : Int)) - 1 : Int) = 7 - (((k + 1) : Nat) : Int) from by first | rfl | omega)), rfl, rfl, rfl, rfl, trivial⟩), ⟨k + 1, lab60, (.slice A66 ((1 + (119 - ((List.length h : Nat) : Int) % 64) % 64).toNat + k + 1) c67), rfl, rfl, hv65, (c71.more (by decide)), (Yn (show (List.set (List.replicate ((1 + ((119 - (((List.length h : Nat) : Int) % 64)) % 64)).toNat) (0 : UInt8)) 0 (128 : UInt8)) ++ QbG (List.length h) k ++ ([UInt8.ofNat (((List.length h) * 8) / 2 ^ (8 * (7 - ((k : Nat) : Int))).toNat)]) = (List.set (List.replicate ((1 + ((119 - (((List.length h : Nat) : Int) % 64)) % 64)).toNat) (0 : UInt8)) 0 (128 : UInt8)) ++ QbG (List.length h) (k + 1) from by first | exact (List.append_nil _).symm | (rw [List.append_assoc, QaF (by omega) rfl])) (show (1 + (119 - ((List.length h : Nat) : Int) % 64) % 64).toNat + k + 1 = (1 + (119 - ((List.length h : Nat) : Int) % 64) % 64).toNat + (k + 1) from by first | rfl | omega) o63), (by omega)⟩⟩)
 refine Qc rfl (dF9 hp1) ?_
 refine Qv (fun _ _ h => h) ?_
 refine rsr ?_
 refine sv (Qa.move rfl) ?_
 refine sv (Qa.move rfl) ?_
 have hv74 := Ql.release hv42 22
 have m76 : List.length ((List.set (List.replicate ((1 + ((119 - (((List.length h : Nat) : Int) % 64)) % 64)).toNat) (0 : UInt8)) 0 (128 : UInt8)) ++ QbG (List.length h) k) = (1 + (119 - ((List.length h : Nat) : Int) % 64) % 64).toNat + k := QY o45
 have q75 : Qe ((List.set (List.replicate ((1 + ((119 - (((List.length h : Nat) : Int) % 64)) % 64)).toNat) (0 : UInt8)) 0 (128 : UInt8)) ++ QbG (List.length h) k) (Q5 lab41 22) w39 (.slice A46 ((1 + (119 - ((List.length h : Nat) : Int) % 64) % 64).toNat + k) c47) := ⟨_, _, (by first | (rw [m76]; done) | rw [← m76]), (by have h9 := (App.row o45).2.1; first | (rw [m76]; exact h9) | (rw [← m76] at h9; exact h9)), (App.row o45).2.2, (App.row o45).1⟩
 have c78 := s43.trans (Stp.release (lab := lab41) (w := w39) 22)
 have c79 := s34.trans c78
 have c80 := s30.trans c79
 have o77 := o10.up c80
 refine ZQ Uy rfl (Vs hv74  (h := h) o77 (by decide) q75 (show  List.length h + List.length ((List.set (List.replicate ((1 + ((119 - (((List.length h : Nat) : Int) % 64)) % 64)).toNat) (0 : UInt8)) 0 (128 : UInt8)) ++ QbG (List.length h) k) ≤ 100000000 from by (rw [List.length_append, List.length_set, List.length_replicate, QbF, hpn]; omega))) fun v81 L86 w82 r87 s84 h85 => ?_
 obtain ⟨q83, o88⟩ := r87
 have q83 := Is.out q83; subst q83
 refine nsr ?_
 refine sv (Qa.assign rfl) ?_
 refine Seq.next ?_
 refine Run.seq ?_
 refine rsr ?_
 refine sv (Qa.move rfl) ?_
 refine sv (Qa.nilCheck rfl) ?_
 obtain ⟨x89, x90, x91, x92, x93, x94, x95, x96, A97, c98, hx99, o100, o101, z102, z103⟩ := JI.open o88
 refine sv (Qd 0 Try.underlying226 rfl VM rfl rfl) ?_
 refine sv (Qb [u32 x89, u32 x90, u32 x91, u32 x92, u32 x93, u32 x94, u32 x95, u32 x96] o100 VM rfl rfl) ?_
 refine sv (Qa.move rfl) ?_
 refine Seq.next ?_
 refine Run.block ?_
 refine Run.loop (fun m' l' w' => ∃ (i : Nat) (lab' : Lab) (ux907 : Value), m' = 8 - i ∧ l' = [(48, i64 ((i : Nat) : Int)), (6, ux907), (2, .slice none 0 0), (47, .agg #[u32 x89, u32 x90, u32 x91, u32 x92, u32 x93, u32 x94, u32 x95, u32 x96])] ∧ Ql lab' w' ∧ Stp [907] L86 w82 lab' w' ∧ App lab' w' 907 5 ux907 (4 * i) (List.map u8 (ZB (List.take i (KL (h ++ Xf (List.length h)))))) ∧ (i ≤ 8)) (8 - 0) (l0 := [(48, i64 ((0 : Nat) : Int)), (6, .slice none 0 0), (2, .slice none 0 0), (47, .agg #[u32 x89, u32 x90, u32 x91, u32 x92, u32 x93, u32 x94, u32 x95, u32 x96])]) ⟨(congrArg (fun z => some (i64 z)) (show (0 : Int) = ((0 : Nat) : Int) from by first | rfl | omega)), rfl, rfl, rfl, trivial⟩ ⟨0, L86, (.slice none 0 0), rfl, rfl, h85, ((Stp.refl _ _).more (by simp)), (Yn (show [] = ZB (List.take 0 (KL (h ++ Xf (List.length h)))) from by first | rfl | (rw [he]; exact Ka (show i < 8 from by omega))) (show 0 = 4 * 0 from by first | rfl | omega) (App.nil (lab := L86) (w := w82) (d := 907) (t := 5))), (by omega)⟩ ?_
 intro m104 l105 w106 H107
 obtain ⟨i, lab108, v111, hzm, rfl, hv109, s110, o112, hi⟩ := H107
 replace hzm := hzm.symm; subst hzm
 obtain ⟨A113, c114, rfl⟩ := App.shape o112
 have m115 : List.length (ZB (List.take i (KL (h ++ Xf (List.length h))))) = 4 * i := QY o112
 have z116 := (App.row o112).2
 have hk8 : k = 8 := (by omega)
 have he := (show KL (h ++ Xf (List.length h)) = _ from by rw [← Qet hpn, ← hk8]).trans hx99
 refine rsr ?_
 refine sv (Qa.lss rfl rfl) ?_
 refine Seq.next ?_
 refine Run.seq ?_
 rcases Decidable.em ((((i : Nat) : Int) : Int) < (8 : Int)) with hp2 | hp2
 rotate_left
 ·refine Qc rfl (dF9 hp2) ?_
  refine Qv (fun _ _ h => h) ?_
  refine rsr ?_
  refine sv (Qa.move rfl) ?_
  refine sv (Qa.assign rfl) ?_
  refine Seq.next ?_
  have hv138 := Ql.release hv109 907
  have m140 : List.length (ZB (List.take i (KL (h ++ Xf (List.length h))))) = 4 * i := QY o112
  have q139 : Qe (ZB (List.take i (KL (h ++ Xf (List.length h))))) (Q5 lab108 907) w106 (.slice A113 (4 * i) c114) := ⟨_, _, (by first | (rw [m140]; done) | rw [← m140]), (by have h9 := (App.row o112).2.1; first | (rw [m140]; exact h9) | (rw [← m140] at h9; exact h9)), (App.row o112).2.2, (App.row o112).1⟩
  have c142 := s110.trans (Stp.release (lab := lab108) (w := w106) 907)
  have c143 := s84.trans c142
  have c144 := c80.trans c143
  have o141 := o22.up c144
  have o145 := o23.up c144
  have o146 := JI.mk (s := h) (xs := (Jb h)) o141 o145 (show ([x11, x12, x13, x14, x15, x16, x17, x18] : List UInt32) = _ from by first | rfl | exact hx21.symm | omega) (show (Jb h) = _ from by first | rfl | exact hx21.symm | omega) (by first | rfl | exact hx21.symm | omega)
  have c147 := s4.trans c144
  obtain ⟨lab9, s9, B9⟩ := hX [(1, h_d), (501, h_e)] c147 (by decide) hv138
  obtain ⟨zU, zo⟩ := B9.u
  refine Run.ret ?_
  exact Qm Try.results132 rfl ⟨_, lab9, rfl, ⟨(Jc (by first | ((obtain rfl : i = 8 := (by omega)); rw [List.take_of_length_le (by rw [YL]; omega)]; rfl; done) | (with_reducible rfl; done) | (omega; done) | (simp_all; done)) (up zo q139)), (JI.back o146 B9 h_d h_e rfl rfl (by decide) (by decide) (by simp [Xa]) (by simp [Xa]))⟩, s9, B9.v⟩
 refine Qc rfl (dT9 hp2) ?_
 refine Qg (fun _ _ h => h) ?_
 refine Run.seq ?_
 refine Run.block ?_
 refine rsr ?_
 refine sv (KJ (n := 8) (e := 167) (xs := ([x89, x90, x91, x92, x93, x94, x95, x96] : List UInt32)) i (by kernel_rfl) Qx rfl rfl (by first | omega | (simp; done) | (simp; omega)) (by first | omega | (simp; done) | (simp; omega)) rfl) ?_
 refine sv (Qa.assign rfl) ?_
 refine Seq.next ?_
 refine Run.region ?_
 refine sv (Qa.move rfl) ?_
 refine sv (Qa.move rfl) ?_
 refine sv (J7 (b := 24) rfl rfl (by first | omega | (simp; done) | (simp; omega)) (by first | omega | (simp; done) | (simp; omega))) ?_
 refine sv (Qz Try.underlying167 Try.underlying5 rfl (JW _)) ?_
 refine sv (Qa.move rfl) ?_
 refine sv (J7 (b := 16) rfl rfl (by first | omega | (simp; done) | (simp; omega)) (by first | omega | (simp; done) | (simp; omega))) ?_
 refine sv (Qz Try.underlying167 Try.underlying5 rfl (JW _)) ?_
 refine sv (Qa.move rfl) ?_
 refine sv (J7 (b := 8) rfl rfl (by first | omega | (simp; done) | (simp; omega)) (by first | omega | (simp; done) | (simp; omega))) ?_
 refine sv (Qz Try.underlying167 Try.underlying5 rfl (JW _)) ?_
 refine sv (Qa.move rfl) ?_
 refine sv (Qz Try.underlying167 Try.underlying5 rfl (JW _)) ?_
 refine QR [(0, u8 (((List.getD ([x89, x90, x91, x92, x93, x94, x95, x96] : List UInt32) i 0) >>> UInt32.ofNat 24).toUInt8)), (1, u8 (((List.getD ([x89, x90, x91, x92, x93, x94, x95, x96] : List UInt32) i 0) >>> UInt32.ofNat 16).toUInt8)), (2, u8 (((List.getD ([x89, x90, x91, x92, x93, x94, x95, x96] : List UInt32) i 0) >>> UInt32.ofNat 8).toUInt8)), (3, u8 ((List.getD ([x89, x90, x91, x92, x93, x94, x95, x96] : List UInt32) i 0).toUInt8))] (List.map u8 [((List.getD ([x89, x90, x91, x92, x93, x94, x95, x96] : List UInt32) i 0) >>> UInt32.ofNat 24).toUInt8, ((List.getD ([x89, x90, x91, x92, x93, x94, x95, x96] : List UInt32) i 0) >>> UInt32.ofNat 16).toUInt8, ((List.getD ([x89, x90, x91, x92, x93, x94, x95, x96] : List UInt32) i 0) >>> UInt32.ofNat 8).toUInt8, (List.getD ([x89, x90, x91, x92, x93, x94, x95, x96] : List UInt32) i 0).toUInt8]) hv109 Try.underlying22 ty5 (by decide) (by decide) rfl (by kernel_rfl) (by decide) ?_
 intro w117 b118 r119 s120 hv121
 have q122 : Qe [((List.getD ([x89, x90, x91, x92, x93, x94, x95, x96] : List UInt32) i 0) >>> UInt32.ofNat 24).toUInt8, ((List.getD ([x89, x90, x91, x92, x93, x94, x95, x96] : List UInt32) i 0) >>> UInt32.ofNat 16).toUInt8, ((List.getD ([x89, x90, x91, x92, x93, x94, x95, x96] : List UInt32) i 0) >>> UInt32.ofNat 8).toUInt8, (List.getD ([x89, x90, x91, x92, x93, x94, x95, x96] : List UInt32) i 0).toUInt8] lab108 w117 (.slice (some ⟨b118, 0, none⟩) 4 4) := ⟨_, _, rfl, Nat.le_refl _, lB9 rfl, r119⟩
 have o123 := o112.up s120
 refine Seq.append (k := 907) (List.map u8 ([((List.getD ([x89, x90, x91, x92, x93, x94, x95, x96] : List UInt32) i 0) >>> UInt32.ofNat 24).toUInt8, ((List.getD ([x89, x90, x91, x92, x93, x94, x95, x96] : List UInt32) i 0) >>> UInt32.ofNat 16).toUInt8, ((List.getD ([x89, x90, x91, x92, x93, x94, x95, x96] : List UInt32) i 0) >>> UInt32.ofNat 8).toUInt8, (List.getD ([x89, x90, x91, x92, x93, x94, x95, x96] : List UInt32) i 0).toUInt8])) hv121 o123 Try.underlying22 ty5 rfl rfl rfl (by simp) (Qe.row q122) JQ (by first | omega | (simp; done) | (simp; omega)) (by first | omega | (simp; done) | (simp; omega)) (by decide) ?_
 intro lab124 w125 v126 o127 s128 hv129
 rw [← List.map_append] at o127
 obtain ⟨A130, c131, rfl⟩ := App.shape o127
 have m132 : List.length (ZB (List.take i (KL (h ++ Xf (List.length h)))) ++ ([((List.getD ([x89, x90, x91, x92, x93, x94, x95, x96] : List UInt32) i 0) >>> UInt32.ofNat 24).toUInt8, ((List.getD ([x89, x90, x91, x92, x93, x94, x95, x96] : List UInt32) i 0) >>> UInt32.ofNat 16).toUInt8, ((List.getD ([x89, x90, x91, x92, x93, x94, x95, x96] : List UInt32) i 0) >>> UInt32.ofNat 8).toUInt8, (List.getD ([x89, x90, x91, x92, x93, x94, x95, x96] : List UInt32) i 0).toUInt8])) = 4 * i + 4 := QY o127
 have z133 := (App.row o127).2
 refine sv (Qa.assign rfl) ?_
 refine QH (fun _ _ h => h) ?_
 refine Run.region ?_
 refine sv (Qa.add rfl rfl (by first | omega | (simp; done) | (simp; omega))) ?_
 refine sv (Qa.move rfl) ?_
 have c134 := s120.trans s128
 have c135 := s110.trans c134
 exact Seq.nil (fun a136 h137 => ⟨_, by omega, _, h137.weaken (QG (l' := [(48, i64 (((i + 1) : Nat) : Int)), (6, .slice A130 (4 * i + 4) c131), (2, .slice none 0 0), (47, .agg #[u32 x89, u32 x90, u32 x91, u32 x92, u32 x93, u32 x94, u32 x95, u32 x96])]) ⟨(congrArg (fun z => some (i64 z)) (show (((i : Nat) : Int) + 1 : Int) = (((i + 1) : Nat) : Int) from by first | rfl | omega)), rfl, rfl, rfl, trivial⟩), ⟨i + 1, lab124, (.slice A130 (4 * i + 4) c131), rfl, rfl, hv129, (c135.more (by decide)), (Yn (show ZB (List.take i (KL (h ++ Xf (List.length h)))) ++ ([((List.getD ([x89, x90, x91, x92, x93, x94, x95, x96] : List UInt32) i 0) >>> UInt32.ofNat 24).toUInt8, ((List.getD ([x89, x90, x91, x92, x93, x94, x95, x96] : List UInt32) i 0) >>> UInt32.ofNat 16).toUInt8, ((List.getD ([x89, x90, x91, x92, x93, x94, x95, x96] : List UInt32) i 0) >>> UInt32.ofNat 8).toUInt8, (List.getD ([x89, x90, x91, x92, x93, x94, x95, x96] : List UInt32) i 0).toUInt8]) = ZB (List.take (i + 1) (KL (h ++ Xf (List.length h)))) from by first | rfl | (rw [he]; exact Ka (show i < 8 from by omega))) (show 4 * i + 4 = 4 * (i + 1) from by first | rfl | omega) o127), (by omega)⟩⟩)
end Go.Proofs.Ytgfomedobfaidaa
end
section
set_option linter.unusedVariables false
set_option linter.unusedSimpArgs false
namespace Go.Proofs.Ytgfomedobfaidaa
open Go.RowKit
theorem Kv {α : Type} {L : List (List α)} {k : Nat} (h : k < L.length) : (L.take k).flatten ++ L.getD k [] = (L.take (k + 1)).flatten := by
 rw [List.take_succ_eq_append_getElem h, List.flatten_append]
 simp [List.getD, List.getElem?_eq_getElem h]
theorem QcD {α : Type} {L : List (List α)} (k : Nat) : (L.take k).flatten.length ≤ L.flatten.length := by
 conv => rhs; rw [← List.take_append_drop k L, List.flatten_append, List.length_append]
 omega
theorem Qfz {α : Type} {L : List (List α)} {k : Nat} (h : k < L.length) : (L.take k).flatten.length + (L.getD k []).length ≤ L.flatten.length := by
 have h1 := QcD (L := L) (k + 1)
 rw [← Kv h, List.length_append] at h1
 exact h1
def Yp (K : List UInt8) (x : UInt8) (i : Nat) : List UInt8 := (K.take i).map (· ^^^ x) ++ K.drop i
theorem ZA (K : List UInt8) (x : UInt8) (i : Nat) : (Yp K x i).length = K.length := by simp [Yp]; omega
theorem KY (K : List UInt8) (x : UInt8) : K = Yp K x 0 := by simp [Yp]
theorem KZ {K : List UInt8} {x : UInt8} {i : Nat} (h : i < K.length) : (Yp K x i).set i ((Yp K x i).getD i 0 ^^^ x) = Yp K x (i + 1) := by
 have hl : ((K.take i).map (· ^^^ x)).length = i := by simp; omega
 unfold Yp
 rw [List.set_append_right _ _ (by omega), hl, Nat.sub_self, List.drop_eq_getElem_cons h, List.set_cons_zero, List.take_succ_eq_append_getElem h, List.map_append, List.append_assoc]
 congr 1
 have : (List.map (fun y => y ^^^ x) (List.take i K) ++ K[i] :: List.drop (i + 1) K).getD i 0 = K[i] := by
  rw [List.getD, List.getElem?_append_right (by omega), hl]; simp [List.getElem?_eq_getElem h]
 rw [this]; rfl
theorem Ua (K : List UInt8) (x : UInt8) {n : Nat} (h : K.length ≤ n) : Yp K x n = K.map (· ^^^ x) := by simp [Yp, List.take_of_length_le h, List.drop_of_length_le h]
def Qd4 (key : List UInt8) : List UInt8 := if 64 < key.length then JG key else key
theorem QaH (key : List UInt8) : (Qd4 key).length ≤ 64 := by unfold Qd4; split; rw [JS]; omega; omega
def KQ (key : List UInt8) : List UInt8 := Qd4 key ++ List.replicate (64 - (Qd4 key).length) 0
theorem JL (key : List UInt8) : (KQ key).length = 64 := by have := QaH key; simp [KQ]; omega
def Va (key : List UInt8) (x : UInt8) : List UInt8 := (KQ key).map (· ^^^ x)
theorem YS (key : List UInt8) (x : UInt8) : (Va key x).length = 64 := by simp [Va, JL]
theorem Qfj {key : List UInt8} (h : 64 < key.length) : JG key ++ (List.replicate 64 (0 : UInt8)).drop 32 = KQ key := by
 unfold KQ Qd4; rw [if_pos h, JS, List.drop_replicate]
theorem Qd2 {key : List UInt8} (h : ¬ 64 < key.length) : key ++ (List.replicate 64 (0 : UInt8)).drop key.length = KQ key := by
 unfold KQ Qd4; rw [if_neg h, List.drop_replicate]
def VB (key msg : List UInt8) : List UInt8 := JG (Va key 0x5c ++ JG (Va key 0x36 ++ msg))
theorem ZV (key msg : List UInt8) : (VB key msg).length = 32 := JS _
def Vc (key info : List UInt8) : Nat → List UInt8
 | 0 => []
 | n + 1 => VB key (Vc key info n ++ info ++ [UInt8.ofNat (n + 1)])
def Uq (key info : List UInt8) : Nat → List UInt8
 | 0 => []
 | n + 1 => Uq key info n ++ Vc key info (n + 1)
theorem Qkg (a b : List UInt8) : List.flatten [a, b] = a ++ b := by simp
theorem QgU (key : List UInt8) (m : List UInt8) : JG (List.flatten [Va key 92, JG (Va key 54 ++ m)]) = VB key m := by rw [Qkg]; rfl
theorem QgT (key m : List UInt8) : VB key (List.flatten [m]) = VB key m := by simp
theorem QaI (key info : List UInt8) (k : Nat) : VB key (List.flatten [Vc key info k, info, [UInt8.ofNat (k + 1)]]) = Vc key info (k + 1) := by simp [Vc]
theorem Qb5 (k : Nat) : UInt8.ofNat (k + 1) + 1 = UInt8.ofNat (k + 1 + 1) := by
 rw [← UInt8.toNat_inj]; simp
theorem QiQ (key info : List UInt8) : ∀ n, (Vc key info n).length ≤ 32
 | 0 => by simp [Vc]
 | n + 1 => by simp only [Vc, ZV]; omega
theorem Kq (key info : List UInt8) : ∀ n, (Uq key info n).length = 32 * n
 | 0 => rfl
 | n + 1 => by simp only [Uq, List.length_append, Kq key info n, Vc, ZV]; omega
def ZH (key info : List UInt8) (n : Nat) : List UInt8 := (Uq key info ((n + 31) / 32)).take n
theorem QbN (key info : List UInt8) (n : Nat) : (ZH key info n).length = n := by unfold ZH; rw [List.length_take, Kq]; omega
def QI (salt secret info : List UInt8) (n : Nat) : List UInt8 := ZH (VB salt secret) info n
end Go.Proofs.Ytgfomedobfaidaa
end
section
set_option linter.unusedVariables false
set_option linter.unusedSimpArgs false
namespace Go.Proofs.Ytgfomedobfaidaa
open Go.RowKit
theorem Qes {lab : Lab} {w : World} (hv : Ql lab w) {parts : List (List UInt8)} {v0 : Value} (h0 : JB parts lab w v0) (hs : List.length (List.flatten parts) ≤ 10000000) :
  Calls Try.prog 193 #[v0] w (fun e w' => ∃ v, e = .returned v ∧ (Qe (JG (List.flatten parts))) lab w' v ∧ Below w.heap.size w w') := by
 obtain ⟨L0, h0L, ⟨zU0, z00⟩, hX⟩ := QZ hv
 replace h0 := up z00 h0
 obtain ⟨A1, c2, rfl⟩ := JB.shape h0
 have z3 := JB.cap h0
 refine Qu Try.func193 rfl Try.ntmps193 (lB9 rfl) ?_
 refine rsr ?_
 refine sv (Qa.assign rfl) ?_
 refine nsr ?_
 refine ZQ QfI rfl (Qbw h0L (K := 7) (K2 := 507)   ) fun v4 L9 w5 r10 s7 h8 => ?_
 have q6 := r10
 obtain ⟨b11, rfl, o12⟩ := q6
 refine sv (Qa.assign rfl) ?_
 refine Seq.next ?_
 refine Run.seq ?_
 refine rsr ?_
 refine sv (Qa.move rfl) ?_
 refine sv (Qa.len Try.underlying34 rfl) ?_
 refine sv (Qa.move rfl) ?_
 refine Seq.next ?_
 refine Run.block ?_
 refine Run.loop (fun m' l' w' => ∃ (k : Nat) (lab' : Lab), m' = List.length parts - k ∧ l' = [(9, i64 ((k : Nat) : Int)), (2, .slice none 0 0), (3, .pointer (some ⟨b11, 0, none⟩)), (7, .slice A1 (List.length parts) c2), (8, i64 ((List.length parts : Nat) : Int))] ∧ Ql lab' w' ∧ Stp [7, 507] L9 w5 lab' w' ∧ JI lab' w' 7 507 b11 (List.flatten (List.take k parts)) ∧ (k ≤ List.length parts)) (List.length parts - 0) (l0 := [(9, i64 ((0 : Nat) : Int)), (2, .slice none 0 0), (3, .pointer (some ⟨b11, 0, none⟩)), (7, .slice A1 (List.length parts) c2), (8, i64 ((List.length parts : Nat) : Int))]) ⟨(congrArg (fun z => some (i64 z)) (show (0 : Int) = ((0 : Nat) : Int) from by rfl)), rfl, rfl, rfl, rfl, trivial⟩ ⟨0, L9, rfl, rfl, h8, ((Stp.refl _ _).more (by simp)), (Y1 (show [] = List.flatten (List.take 0 parts) from by rfl) o12), (by omega)⟩ ?_
 intro m13 l14 w15 H16
 obtain ⟨k, lab17, hzm, rfl, hv18, s19, o20, hk⟩ := H16
 replace hzm := hzm.symm; subst hzm
 refine rsr ?_
 refine sv (Qa.lss rfl rfl) ?_
 refine Seq.next ?_
 refine Run.seq ?_
 rcases Decidable.em ((((k : Nat) : Int) : Int) < (((List.length parts : Nat) : Int) : Int)) with hp1 | hp1
 rotate_left
 ·refine Qc rfl (dF9 hp1) ?_
  refine Qv (fun _ _ h => h) ?_
  refine rsr ?_
  refine sv (Qa.move rfl) ?_
  refine ZQ QfH rfl (UG hv18  (h := List.flatten (List.take k parts)) o20 (by decide) (show  List.length (List.flatten (List.take k parts)) ≤ 10000000 from by (have := QcD (L := parts) k; omega))) fun v43 L48 w44 r49 s46 h47 => ?_
  obtain ⟨q45, o50⟩ := r49
  obtain ⟨A51, c52, rfl⟩ := Qe.shape q45
  have z53 := Qe.cap q45
  refine sv (Qa.assign rfl) ?_
  refine Seq.next ?_
  have c54 := s19.trans s46
  have c55 := s7.trans c54
  obtain ⟨⟨zU, zo⟩, zb⟩ := hX c55 (by decide)
  refine Run.ret ?_
  exact Qm Try.results193 rfl ⟨_, rfl, (Jc (by ((obtain rfl : k = List.length parts := (by omega)); rw [List.take_length])) (up zo q45)), zb⟩
 refine Qc rfl (dT9 hp1) ?_
 refine Qg (fun _ _ h => h) ?_
 refine Run.seq ?_
 refine Run.block ?_
 refine rsr ?_
 have c27 := s7.trans s19
 have q28 := up c27 h0
 obtain ⟨vs21, u22, m23, r24, q25, q26⟩ := JB.at_ q28 k (by omega)
 obtain ⟨A29, c30, rfl⟩ := Qe.shape q26
 have z31 := Qe.cap q26
 refine sv (Qs k Try.underlying34 XO rfl rfl r24 m23 (by omega) (by omega)) ?_
 refine sv (Qy XO rfl r24 q25) ?_
 refine sv (Qa.assign rfl) ?_
 refine Seq.next ?_
 refine Run.region ?_
 refine sv (Qa.move rfl) ?_
 refine sv (Qa.move rfl) ?_
 refine ZQ Uy rfl (Vs hv18  (h := List.flatten (List.take k parts)) o20 (by decide) q26 (show  List.length (List.flatten (List.take k parts)) + List.length (List.getD parts k []) ≤ 100000000 from by (have := Qfz (L := parts) (k := k) (by omega); omega))) fun v32 L37 w33 r38 s35 h36 => ?_
 obtain ⟨q34, o39⟩ := r38
 have q34 := Is.out q34; subst q34
 refine QH (fun _ _ h => h) ?_
 refine Run.region ?_
 refine sv (Qa.add rfl rfl (by omega)) ?_
 refine sv (Qa.move rfl) ?_
 have c40 := s19.trans s35
 exact Seq.nil (fun a41 h42 => ⟨_, by omega, _, h42.weaken (QG (l' := [(9, i64 (((k + 1) : Nat) : Int)), (2, .slice none 0 0), (3, .pointer (some ⟨b11, 0, none⟩)), (7, .slice A1 (List.length parts) c2), (8, i64 ((List.length parts : Nat) : Int))]) ⟨(congrArg (fun z => some (i64 z)) (show (((k : Nat) : Int) + 1 : Int) = (((k + 1) : Nat) : Int) from by rfl)), rfl, rfl, rfl, rfl, trivial⟩), ⟨k + 1, L37, rfl, rfl, h36, (c40.more (by decide)), (Y1 (show (List.flatten (List.take k parts)) ++ (List.getD parts k []) = List.flatten (List.take (k + 1) parts) from by exact Kv (by omega)) o39), (by omega)⟩⟩)
theorem QeZ {lab : Lab} {w : World} (hv : Ql lab w) {key : List UInt8} {v0 : Value} (h0 : Qe key lab w v0) {x : UInt8} (hs : List.length key ≤ 10000000) :
  Calls Try.prog 192 #[v0, u8 x] w (fun e w' => ∃ v, e = .returned v ∧ (Qe (Va key x)) lab w' v ∧ Below w.heap.size w w') := by
 obtain ⟨L0, h0L, ⟨zU0, z00⟩, hX⟩ := QZ hv
 replace h0 := up z00 h0
 obtain ⟨A1, c2, rfl⟩ := Qe.shape h0
 have z3 := Qe.cap h0
 refine Qu Try.func192 rfl Try.ntmps192 (lB9 rfl) ?_
 refine rsr ?_
 refine sv (Qa.assign rfl) ?_
 refine Seq.next ?_
 refine Run.seq ?_
 refine rsr ?_
 refine sv (Qa.move rfl) ?_
 refine sv (Qa.len Try.underlying22 rfl) ?_
 refine sv (Qa.gtr rfl rfl) ?_
 refine Seq.next ?_
 rcases Decidable.em ((64 : Int) < (((List.length key : Nat) : Int) : Int)) with hp1 | hp1
 rotate_left
 ·refine Qc rfl (dF9 hp1) ?_
  refine Qg (fun _ _ h => h) ?_
  refine rsr ?_
  refine Jv (k := 14) u8 (0 : UInt8) 64 h0L Try.underlying22 ty5 rfl rfl rfl (by omega) (by omega) (by omega) (by omega) (by decide) ?_
  intro lab52 w53 b54 o55 s56 hv57
  refine sv (Qa.assign rfl) ?_
  refine nsr ?_
  refine sv (Qa.move rfl) ?_
  refine sv (Qa.move rfl) ?_
  have q58 := up s56 h0
  refine Qco (m := (List.length key)) u8 key hv57 o55 Try.underlying22 ty5 rfl rfl (Qe.row q58) (by rfl) (by omega) (by simp) JQ fun w59 o60 s61 h62 => ?_
  refine Seq.next ?_
  refine Run.seq ?_
  refine rsr ?_
  refine sv (Qa.move rfl) ?_
  refine sv (Qa.len Try.underlying22 rfl) ?_
  refine sv (Qa.move rfl) ?_
  refine Seq.next ?_
  refine Run.block ?_
  refine Run.loop (fun m' l' w' => ∃ (i : Nat) (lab' : Lab), m' = 64 - i ∧ l' = [(19, i64 ((i : Nat) : Int)), (1, u8 x), (4, .slice none 0 0), (5, .slice (some ⟨b54, 0, none⟩) 64 64), (18, i64 ((64 : Nat) : Int))] ∧ Ql lab' w' ∧ Stp [14] lab52 w59 lab' w' ∧ Own lab' w' 14 b54 5 (List.map u8 (Yp (KQ key) x i)).toArray ∧ (i ≤ 64)) (64 - 0) (l0 := [(19, i64 ((0 : Nat) : Int)), (1, u8 x), (4, .slice none 0 0), (5, .slice (some ⟨b54, 0, none⟩) 64 64), (18, i64 ((64 : Nat) : Int))]) ⟨(congrArg (fun z => some (i64 z)) (show (0 : Int) = ((0 : Nat) : Int) from by rfl)), rfl, rfl, rfl, rfl, trivial⟩ ⟨0, lab52, rfl, rfl, h62, ((Stp.refl _ _).more (by simp)), ((show key ++ List.drop (List.length key) (List.replicate 64 (0 : UInt8)) = Yp (KQ key) x 0 from by rw [← KY, ← Qd2 (by omega)]) ▸ o60), (by omega)⟩ ?_
  intro m63 l64 w65 H66
  obtain ⟨i_70, lab67, hzm, rfl, hv68, s69, o71, hi⟩ := H66
  replace hzm := hzm.symm; subst hzm
  refine rsr ?_
  refine sv (Qa.lss rfl rfl) ?_
  refine Seq.next ?_
  refine Run.seq ?_
  rcases Decidable.em ((((i_70 : Nat) : Int) : Int) < (((64 : Nat) : Int) : Int)) with hp2 | hp2
  rotate_left
  ·refine Qc rfl (dF9 hp2) ?_
   refine Qv (fun _ _ h => h) ?_
   refine rsr ?_
   refine sv (Qa.move rfl) ?_
   refine sv (Qa.assign rfl) ?_
   refine Seq.next ?_
   have hv79 := Ql.release hv68 14
   have q80 : Qe (Yp (KQ key) x i_70) (Q5 lab67 14) w65 (.slice (some ⟨b54, 0, none⟩) 64 64) := Qe.release o71 (by (rw [ZA, JL])) (by omega)
   have c81 := s69.trans (Stp.release (lab := lab67) (w := w65) 14)
   have c82 := s61.trans c81
   have c83 := s56.trans c82
   obtain ⟨⟨zU, zo⟩, zb⟩ := hX c83 (by decide)
   refine Run.ret ?_
   exact Qm Try.results192 rfl ⟨_, rfl, (Jc (by (rw [Ua _ _ (by rw [JL]; omega)]; rfl)) (up zo q80)), zb⟩
  refine Qc rfl (dT9 hp2) ?_
  refine Qg (fun _ _ h => h) ?_
  refine Run.seq ?_
  refine Run.block ?_
  refine rsr ?_
  refine sv (Qa.move rfl) ?_
  refine sv (Qa.assign rfl) ?_
  refine Seq.next ?_
  refine Run.region ?_
  refine sv (Qa.move rfl) ?_
  refine sv (Qa.move rfl) ?_
  refine sv (Q4 i_70 Try.underlying22 ty5 rfl rfl (by omega) (by omega)) ?_
  refine sv (Qf o71 ty5 rfl (by rw [Nat.mul_one]; exact Zi u8 _ (0 : UInt8) (by (rw [ZA, JL]; omega)))) ?_
  refine sv (Qa.move rfl) ?_
  refine sv (KF rfl rfl) ?_
  refine sv (Q4 i_70 Try.underlying22 ty5 rfl rfl (by omega) (by omega)) ?_
  refine Q8 (k := 14) (j := i_70) (v := ((List.getD (Yp (KQ key) x i_70) i_70 (0 : UInt8)) ^^^ x)) u8 hv68 o71 ty5 (congrArg (fun o => some (Value.pointer (some ⟨b54, o, none⟩))) (Nat.mul_one i_70)) rfl (by (rw [ZA, JL]; omega)) rfl rfl fun w72 o73 s74 h75 => ?_
  refine QH (fun _ _ h => h) ?_
  refine Run.region ?_
  refine sv (Qa.add rfl rfl (by omega)) ?_
  refine sv (Qa.move rfl) ?_
  have c76 := s69.trans s74
  exact Seq.nil (fun a77 h78 => ⟨_, by omega, _, h78.weaken (QG (l' := [(19, i64 (((i_70 + 1) : Nat) : Int)), (1, u8 x), (4, .slice none 0 0), (5, .slice (some ⟨b54, 0, none⟩) 64 64), (18, i64 ((64 : Nat) : Int))]) ⟨(congrArg (fun z => some (i64 z)) (show (((i_70 : Nat) : Int) + 1 : Int) = (((i_70 + 1) : Nat) : Int) from by rfl)), rfl, rfl, rfl, rfl, trivial⟩), ⟨i_70 + 1, lab67, rfl, rfl, h75, (c76.more (by decide)), ((show List.set (Yp (KQ key) x i_70) i_70 ((List.getD (Yp (KQ key) x i_70) i_70 (0 : UInt8)) ^^^ x) = Yp (KQ key) x (i_70 + 1) from by exact KZ (by rw [JL]; omega)) ▸ o73), (by omega)⟩⟩)
 refine Qc rfl (dT9 hp1) ?_
 refine Run.region ?_
 refine sv (Qa.move rfl) ?_
 refine QR [(0, .slice A1 (List.length key) c2)] [.slice A1 (List.length key) c2] h0L Try.underlying34 XO (by decide) (by decide) rfl (by kernel_rfl) (by decide) ?_
 intro w4 b5 r6 s7 hv8
 have q10 := up s7 h0
 have q9 : JB [key] L0 w4 (.slice (some ⟨b5, 0, none⟩) 1 1) := JB.mk 1 rfl (Nat.le_refl _) (by decide) r6 rfl (Qap.get ⟨q10, trivial⟩)
 refine Q7 (V := Qe (JG (List.flatten ([key])))) QhC hv8 rfl (Qes hv8 q9 (show List.length (List.flatten ([key])) ≤ 10000000 from by (simp; omega))) fun v11 w12 q13 s14 h15 => ?_
 obtain ⟨A16, c17, rfl⟩ := Qe.shape q13
 have z18 := Qe.cap q13
 refine sv (Qa.assign rfl) ?_
 refine nsr ?_
 refine Jv (k := 14) u8 (0 : UInt8) 64 h15 Try.underlying22 ty5 rfl rfl rfl (by omega) (by omega) (by omega) (by omega) (by decide) ?_
 intro lab19 w20 b21 o22 s23 hv24
 refine sv (Qa.assign rfl) ?_
 refine nsr ?_
 refine sv (Qa.move rfl) ?_
 refine sv (Qa.move rfl) ?_
 have q25 := up s23 q13
 refine Qco (m := (List.length (JG (List.flatten ([key]))))) u8 (JG (List.flatten ([key]))) hv24 o22 Try.underlying22 ty5 rfl rfl (Qe.row q25) (by rfl) (by simp [JS]) (by simp) JQ fun w26 o27 s28 h29 => ?_
 refine Seq.next ?_
 refine Run.seq ?_
 refine rsr ?_
 refine sv (Qa.move rfl) ?_
 refine sv (Qa.len Try.underlying22 rfl) ?_
 refine sv (Qa.move rfl) ?_
 refine Seq.next ?_
 refine Run.block ?_
 refine Run.loop (fun m' l' w' => ∃ (i : Nat) (lab' : Lab), m' = 64 - i ∧ l' = [(19, i64 ((i : Nat) : Int)), (1, u8 x), (4, .slice none 0 0), (5, .slice (some ⟨b21, 0, none⟩) 64 64), (18, i64 ((64 : Nat) : Int))] ∧ Ql lab' w' ∧ Stp [14] lab19 w26 lab' w' ∧ Own lab' w' 14 b21 5 (List.map u8 (Yp (KQ key) x i)).toArray ∧ (i ≤ 64)) (64 - 0) (l0 := [(19, i64 ((0 : Nat) : Int)), (1, u8 x), (4, .slice none 0 0), (5, .slice (some ⟨b21, 0, none⟩) 64 64), (18, i64 ((64 : Nat) : Int))]) ⟨(congrArg (fun z => some (i64 z)) (show (0 : Int) = ((0 : Nat) : Int) from by rfl)), rfl, rfl, rfl, rfl, trivial⟩ ⟨0, lab19, rfl, rfl, h29, ((Stp.refl _ _).more (by simp)), ((show (JG (List.flatten ([key]))) ++ List.drop (List.length (JG (List.flatten ([key])))) (List.replicate 64 (0 : UInt8)) = Yp (KQ key) x 0 from by (rw [← KY, ← Qfj (by omega)]; simp [JS])) ▸ o27), (by omega)⟩ ?_
 intro m30 l31 w32 H33
 obtain ⟨i, lab34, hzm, rfl, hv35, s36, o37, hi⟩ := H33
 replace hzm := hzm.symm; subst hzm
 refine rsr ?_
 refine sv (Qa.lss rfl rfl) ?_
 refine Seq.next ?_
 refine Run.seq ?_
 rcases Decidable.em ((((i : Nat) : Int) : Int) < (((64 : Nat) : Int) : Int)) with hp2 | hp2
 rotate_left
 ·refine Qc rfl (dF9 hp2) ?_
  refine Qv (fun _ _ h => h) ?_
  refine rsr ?_
  refine sv (Qa.move rfl) ?_
  refine sv (Qa.assign rfl) ?_
  refine Seq.next ?_
  have hv45 := Ql.release hv35 14
  have q46 : Qe (Yp (KQ key) x i) (Q5 lab34 14) w32 (.slice (some ⟨b21, 0, none⟩) 64 64) := Qe.release o37 (by (rw [ZA, JL])) (by omega)
  have c47 := s36.trans (Stp.release (lab := lab34) (w := w32) 14)
  have c48 := s28.trans c47
  have c49 := s23.trans c48
  have c50 := s14.trans c49
  have c51 := s7.trans c50
  obtain ⟨⟨zU, zo⟩, zb⟩ := hX c51 (by decide)
  refine Run.ret ?_
  exact Qm Try.results192 rfl ⟨_, rfl, (Jc (by (rw [Ua _ _ (by rw [JL]; omega)]; rfl)) (up zo q46)), zb⟩
 refine Qc rfl (dT9 hp2) ?_
 refine Qg (fun _ _ h => h) ?_
 refine Run.seq ?_
 refine Run.block ?_
 refine rsr ?_
 refine sv (Qa.move rfl) ?_
 refine sv (Qa.assign rfl) ?_
 refine Seq.next ?_
 refine Run.region ?_
 refine sv (Qa.move rfl) ?_
 refine sv (Qa.move rfl) ?_
 refine sv (Q4 i Try.underlying22 ty5 rfl rfl (by omega) (by omega)) ?_
 refine sv (Qf o37 ty5 rfl (by rw [Nat.mul_one]; exact Zi u8 _ (0 : UInt8) (by (rw [ZA, JL]; omega)))) ?_
 refine sv (Qa.move rfl) ?_
 refine sv (KF rfl rfl) ?_
 refine sv (Q4 i Try.underlying22 ty5 rfl rfl (by omega) (by omega)) ?_
 refine Q8 (k := 14) (j := i) (v := ((List.getD (Yp (KQ key) x i) i (0 : UInt8)) ^^^ x)) u8 hv35 o37 ty5 (congrArg (fun o => some (Value.pointer (some ⟨b21, o, none⟩))) (Nat.mul_one i)) rfl (by (rw [ZA, JL]; omega)) rfl rfl fun w38 o39 s40 h41 => ?_
 refine QH (fun _ _ h => h) ?_
 refine Run.region ?_
 refine sv (Qa.add rfl rfl (by omega)) ?_
 refine sv (Qa.move rfl) ?_
 have c42 := s36.trans s40
 exact Seq.nil (fun a43 h44 => ⟨_, by omega, _, h44.weaken (QG (l' := [(19, i64 (((i + 1) : Nat) : Int)), (1, u8 x), (4, .slice none 0 0), (5, .slice (some ⟨b21, 0, none⟩) 64 64), (18, i64 ((64 : Nat) : Int))]) ⟨(congrArg (fun z => some (i64 z)) (show (((i : Nat) : Int) + 1 : Int) = (((i + 1) : Nat) : Int) from by rfl)), rfl, rfl, rfl, rfl, trivial⟩), ⟨i + 1, lab34, rfl, rfl, h41, (c42.more (by decide)), ((show List.set (Yp (KQ key) x i) i ((List.getD (Yp (KQ key) x i) i (0 : UInt8)) ^^^ x) = Yp (KQ key) x (i + 1) from by exact KZ (by rw [JL]; omega)) ▸ o39), (by omega)⟩⟩)
end Go.Proofs.Ytgfomedobfaidaa
end
section
set_option linter.unusedVariables false
set_option linter.unusedSimpArgs false
namespace Go.Proofs.Ytgfomedobfaidaa
open Go.RowKit
theorem Qfa {lab : Lab} {w : World} (hv : Ql lab w) {key : List UInt8} {v0 : Value} (h0 : Qe key lab w v0) {parts : List (List UInt8)} {v1 : Value} (h1 : JB parts lab w v1) (hk0 : List.length key ≤ 10000000) (hs : List.length (List.flatten parts) ≤ 9000000) :
  Calls Try.prog 176 #[v0, v1] w (fun e w' => ∃ v, e = .returned v ∧ (Qe (VB key (List.flatten parts))) lab w' v ∧ Below w.heap.size w w') := by
 obtain ⟨L0, h0L, ⟨zU0, z00⟩, hX⟩ := QZ hv
 replace h0 := up z00 h0
 obtain ⟨A1, c2, rfl⟩ := Qe.shape h0
 have z3 := Qe.cap h0
 replace h1 := up z00 h1
 obtain ⟨A4, c5, rfl⟩ := JB.shape h1
 have z6 := JB.cap h1
 refine Qu Try.func176 rfl Try.ntmps176 (lB9 rfl) ?_
 refine rsr ?_
 refine sv (Qa.assign rfl) ?_
 refine nsr ?_
 refine ZQ QfI rfl (Qbw h0L (K := 9) (K2 := 509)   ) fun v7 L12 w8 r13 s10 h11 => ?_
 have q9 := r13
 obtain ⟨b14, rfl, o15⟩ := q9
 refine sv (Qa.assign rfl) ?_
 refine nsr ?_
 refine sv (Qa.move rfl) ?_
 refine sv (Qa.move rfl) ?_
 have q16 := up s10 h0
 refine Q7 (V := Qe (Va key (54 : UInt8))) QhD h11 rfl (QeZ h11 (x := (54 : UInt8)) q16 (show List.length key ≤ 10000000 from by omega)) fun v17 w18 q19 s20 h21 => ?_
 obtain ⟨A22, c23, rfl⟩ := Qe.shape q19
 have z24 := Qe.cap q19
 have o25 := o15.up s20
 refine ZQ Uy rfl (Vs h21  (h := []) o25 (by decide) q19 (show  List.length ([]) + List.length (Va key (54 : UInt8)) ≤ 100000000 from by (rw [YS]; simp))) fun v26 L31 w27 r32 s29 h30 => ?_
 obtain ⟨q28, o33⟩ := r32
 have q28 := Is.out q28; subst q28
 refine Seq.next ?_
 refine Run.seq ?_
 refine rsr ?_
 refine sv (Qa.move rfl) ?_
 refine sv (Qa.len Try.underlying34 rfl) ?_
 refine sv (Qa.move rfl) ?_
 refine Seq.next ?_
 refine Run.block ?_
 refine Run.loop (fun m' l' w' => ∃ (k : Nat) (lab' : Lab), m' = List.length parts - k ∧ l' = [(15, i64 ((k : Nat) : Int)), (0, .slice A1 (List.length key) c2), (4, .slice none 0 0), (5, .pointer (some ⟨b14, 0, none⟩)), (13, .slice A4 (List.length parts) c5), (14, i64 ((List.length parts : Nat) : Int))] ∧ Ql lab' w' ∧ Stp [9, 509] L31 w27 lab' w' ∧ JI lab' w' 9 509 b14 (Va key 54 ++ List.flatten (List.take k parts)) ∧ (k ≤ List.length parts)) (List.length parts - 0) (l0 := [(15, i64 ((0 : Nat) : Int)), (0, .slice A1 (List.length key) c2), (4, .slice none 0 0), (5, .pointer (some ⟨b14, 0, none⟩)), (13, .slice A4 (List.length parts) c5), (14, i64 ((List.length parts : Nat) : Int))]) ⟨(congrArg (fun z => some (i64 z)) (show (0 : Int) = ((0 : Nat) : Int) from by rfl)), rfl, rfl, rfl, rfl, rfl, trivial⟩ ⟨0, L31, rfl, rfl, h30, ((Stp.refl _ _).more (by simp)), (Y1 (show ([]) ++ (Va key (54 : UInt8)) = Va key 54 ++ List.flatten (List.take 0 parts) from by (rw [List.take_zero]; simp)) o33), (by omega)⟩ ?_
 intro m34 l35 w36 H37
 obtain ⟨k, lab38, hzm, rfl, hv39, s40, o41, hk⟩ := H37
 replace hzm := hzm.symm; subst hzm
 refine rsr ?_
 refine sv (Qa.lss rfl rfl) ?_
 refine Seq.next ?_
 refine Run.seq ?_
 rcases Decidable.em ((((k : Nat) : Int) : Int) < (((List.length parts : Nat) : Int) : Int)) with hp1 | hp1
 ·refine Qc rfl (dT9 hp1) ?_
  refine Qg (fun _ _ h => h) ?_
  refine Run.seq ?_
  refine Run.block ?_
  refine rsr ?_
  have c48 := s29.trans s40
  have c49 := s20.trans c48
  have c50 := s10.trans c49
  have q51 := up c50 h1
  obtain ⟨vs42, u43, m44, r45, q46, q47⟩ := JB.at_ q51 k (by omega)
  obtain ⟨A52, c53, rfl⟩ := Qe.shape q47
  have z54 := Qe.cap q47
  refine sv (Qs k Try.underlying34 XO rfl rfl r45 m44 (by omega) (by omega)) ?_
  refine sv (Qy XO rfl r45 q46) ?_
  refine sv (Qa.assign rfl) ?_
  refine Seq.next ?_
  refine Run.region ?_
  refine sv (Qa.move rfl) ?_
  refine sv (Qa.move rfl) ?_
  refine ZQ Uy rfl (Vs hv39  (h := Va key 54 ++ List.flatten (List.take k parts)) o41 (by decide) q47 (show  List.length (Va key 54 ++ List.flatten (List.take k parts)) + List.length (List.getD parts k []) ≤ 100000000 from by (have := Qfz (L := parts) (k := k) (by omega); rw [List.length_append, YS]; omega))) fun v55 L60 w56 r61 s58 h59 => ?_
  obtain ⟨q57, o62⟩ := r61
  have q57 := Is.out q57; subst q57
  refine QH (fun _ _ h => h) ?_
  refine Run.region ?_
  refine sv (Qa.add rfl rfl (by omega)) ?_
  refine sv (Qa.move rfl) ?_
  have c63 := s40.trans s58
  exact Seq.nil (fun a64 h65 => ⟨_, by omega, _, h65.weaken (QG (l' := [(15, i64 (((k + 1) : Nat) : Int)), (0, .slice A1 (List.length key) c2), (4, .slice none 0 0), (5, .pointer (some ⟨b14, 0, none⟩)), (13, .slice A4 (List.length parts) c5), (14, i64 ((List.length parts : Nat) : Int))]) ⟨(congrArg (fun z => some (i64 z)) (show (((k : Nat) : Int) + 1 : Int) = (((k + 1) : Nat) : Int) from by rfl)), rfl, rfl, rfl, rfl, rfl, trivial⟩), ⟨k + 1, L60, rfl, rfl, h59, (c63.more (by decide)), (Y1 (show (Va key 54 ++ List.flatten (List.take k parts)) ++ (List.getD parts k []) = Va key 54 ++ List.flatten (List.take (k + 1) parts) from by (rw [List.append_assoc, Kv (by omega)])) o62), (by omega)⟩⟩)
 refine Qc rfl (dF9 hp1) ?_
 refine Qv (fun _ _ h => h) ?_
 refine rsr ?_
 refine sv (Qa.move rfl) ?_
 have c66 := s29.trans s40
 have c67 := s20.trans c66
 have q68 := up c67 q16
 refine Q7 (V := Qe (Va key (92 : UInt8))) QhD hv39 rfl (QeZ hv39 (x := (92 : UInt8)) q68 (show List.length key ≤ 10000000 from by omega)) fun v69 w70 q71 s72 h73 => ?_
 obtain ⟨A74, c75, rfl⟩ := Qe.shape q71
 have z76 := Qe.cap q71
 refine sv (Qa.move rfl) ?_
 have o77 := o41.up s72
 refine ZQ QfH rfl (UG h73  (h := Va key 54 ++ List.flatten (List.take k parts)) o77 (by decide) (show  List.length (Va key 54 ++ List.flatten (List.take k parts)) ≤ 10000000 from by (have := QcD (L := parts) k; rw [List.length_append, YS]; omega))) fun v78 L83 w79 r84 s81 h82 => ?_
 obtain ⟨q80, o85⟩ := r84
 obtain ⟨A86, c87, rfl⟩ := Qe.shape q80
 have z88 := Qe.cap q80
 refine QR [(0, .slice A74 (List.length (Va key (92 : UInt8))) c75), (1, .slice A86 (List.length (JG (Va key 54 ++ List.flatten (List.take k parts)))) c87)] [.slice A74 (List.length (Va key (92 : UInt8))) c75, .slice A86 (List.length (JG (Va key 54 ++ List.flatten (List.take k parts)))) c87] h82 Try.underlying34 XO (by decide) (by decide) rfl (by kernel_rfl) (by decide) ?_
 intro w89 b90 r91 s92 hv93
 have c95 := s81.trans s92
 have q96 := up c95 q71
 have q97 := up s92 q80
 have q94 : JB [Va key (92 : UInt8), JG (Va key 54 ++ List.flatten (List.take k parts))] L83 w89 (.slice (some ⟨b90, 0, none⟩) 2 2) := JB.mk 2 rfl (Nat.le_refl _) (by decide) r91 rfl (Qap.get ⟨q96, q97, trivial⟩)
 refine Q7 (V := Qe (JG (List.flatten ([Va key (92 : UInt8), JG (Va key 54 ++ List.flatten (List.take k parts))])))) QhC hv93 rfl (Qes hv93 q94 (show List.length (List.flatten ([Va key (92 : UInt8), JG (Va key 54 ++ List.flatten (List.take k parts))])) ≤ 10000000 from by (rw [Qkg, List.length_append, YS, JS]; omega))) fun v98 w99 q100 s101 h102 => ?_
 obtain ⟨A103, c104, rfl⟩ := Qe.shape q100
 have z105 := Qe.cap q100
 refine sv (Qa.assign rfl) ?_
 refine Seq.next ?_
 have c106 := c95.trans s101
 have c107 := s72.trans c106
 have c108 := c67.trans c107
 have c109 := s10.trans c108
 obtain ⟨⟨zU, zo⟩, zb⟩ := hX c109 (by decide)
 refine Run.ret ?_
 exact Qm Try.results176 rfl ⟨_, rfl, (Jc (by ((obtain rfl : k = List.length parts := (by omega)); rw [List.take_length]; exact QgU _ _)) (up zo q100)), zb⟩
theorem QbC {lab : Lab} {w : World} (hv : Ql lab w) {salt : List UInt8} {v0 : Value} (h0 : Qe salt lab w v0) {secret : List UInt8} {v1 : Value} (h1 : Qe secret lab w v1) (hk0 : List.length salt ≤ 10000000) (hs : List.length secret ≤ 9000000) :
  Calls Try.prog 162 #[v0, v1] w (fun e w' => ∃ v, e = .returned v ∧ (Qe (VB salt secret)) lab w' v ∧ Below w.heap.size w w') := by
 obtain ⟨L0, h0L, ⟨zU0, z00⟩, hX⟩ := QZ hv
 replace h0 := up z00 h0
 obtain ⟨A1, c2, rfl⟩ := Qe.shape h0
 have z3 := Qe.cap h0
 replace h1 := up z00 h1
 obtain ⟨A4, c5, rfl⟩ := Qe.shape h1
 have z6 := Qe.cap h1
 refine Qu Try.func162 rfl Try.ntmps162 (lB9 rfl) ?_
 refine rsr ?_
 refine sv (Qa.assign rfl) ?_
 refine nsr ?_
 refine sv (Qa.move rfl) ?_
 refine sv (Qa.move rfl) ?_
 refine QR [(0, .slice A4 (List.length secret) c5)] [.slice A4 (List.length secret) c5] h0L Try.underlying34 XO (by decide) (by decide) rfl (by kernel_rfl) (by decide) ?_
 intro w7 b8 r9 s10 hv11
 have q13 := up s10 h1
 have q12 : JB [secret] L0 w7 (.slice (some ⟨b8, 0, none⟩) 1 1) := JB.mk 1 rfl (Nat.le_refl _) (by decide) r9 rfl (Qap.get ⟨q13, trivial⟩)
 have q14 := up s10 h0
 refine Q7 (V := Qe (VB salt (List.flatten ([secret])))) QhE hv11 rfl (Qfa hv11 q14 q12 (show List.length salt ≤ 10000000 from by omega) (show List.length (List.flatten ([secret])) ≤ 9000000 from by (simp; omega))) fun v15 w16 q17 s18 h19 => ?_
 obtain ⟨A20, c21, rfl⟩ := Qe.shape q17
 have z22 := Qe.cap q17
 refine sv (Qa.assign rfl) ?_
 refine Seq.next ?_
 have c23 := s10.trans s18
 obtain ⟨⟨zU, zo⟩, zb⟩ := hX c23 (by decide)
 refine Run.ret ?_
 exact Qm Try.results162 rfl ⟨_, rfl, (Jc (by exact QgT _ _) (up zo q17)), zb⟩
theorem Up {lab : Lab} {w : World} (hv : Ql lab w) {key : List UInt8} {v0 : Value} (h0 : Qe key lab w v0) {info : List UInt8} {v1 : Value} (h1 : Qe info lab w v1) {n : Int} (hk0 : List.length key ≤ 10000000) (hs : List.length info ≤ 8000000) :
  Calls Try.prog 136 #[v0, v1, i64 n] w (fun e w' => ∃ v, e = .returned v ∧ (Zo (Qe (if 0 ≤ n ∧ n ≤ 8160 then ZH key info n.toNat else [])) (Is (i64 (if n < 0 then 1 else if 8160 < n then 4 else 0)))) lab w' v ∧ Below w.heap.size w w') := by
 obtain ⟨L0, h0L, ⟨zU0, z00⟩, hX⟩ := QZ hv
 replace h0 := up z00 h0
 obtain ⟨A1, c2, rfl⟩ := Qe.shape h0
 have z3 := Qe.cap h0
 replace h1 := up z00 h1
 obtain ⟨A4, c5, rfl⟩ := Qe.shape h1
 have z6 := Qe.cap h1
 refine Qu Try.func136 rfl Try.ntmps136 (lB9 rfl) ?_
 refine rsr ?_
 refine sv (Qa.assign rfl) ?_
 refine sv (Qa.assign rfl) ?_
 refine Seq.next ?_
 refine Run.seq ?_
 refine Run.block ?_
 refine rsr ?_
 refine sv (Qa.move rfl) ?_
 refine sv (Qa.lss rfl rfl) ?_
 refine sv (Qa.assign rfl) ?_
 refine Seq.next ?_
 rcases Decidable.em ((n : Int) < (0 : Int)) with hp1 | hp1
 ·refine Qc rfl (dT9 hp1) ?_
  refine rsr ?_
  refine sv (Qa.assign rfl) ?_
  refine sv (Qa.assign rfl) ?_
  refine Seq.next ?_
  have z9 := Stp.refl L0 w
  obtain ⟨⟨zU, zo⟩, zb⟩ := hX z9 (by decide)
  refine Run.ret (QQ (Qr ?_))
  exact QP Try.results136 rfl rfl ⟨_, rfl, ⟨_, _, rfl, (Jc (by rw [if_neg (by omega)]) (Qe.nil _ _)), (JF (by rw [if_pos (by omega)]) _ _)⟩, zb⟩
 refine Qc rfl (dF9 hp1) ?_
 refine rsr ?_
 refine sv (Qa.move rfl) ?_
 refine sv (Qa.gtr rfl rfl) ?_
 refine sv (Qa.assign rfl) ?_
 refine Seq.next ?_
 rcases Decidable.em ((8160 : Int) < (n : Int)) with hp2 | hp2
 ·refine Qc rfl (dT9 hp2) ?_
  refine rsr ?_
  refine sv (Qa.assign rfl) ?_
  refine sv (Qa.assign rfl) ?_
  refine Seq.next ?_
  have z9 := Stp.refl L0 w
  obtain ⟨⟨zU, zo⟩, zb⟩ := hX z9 (by decide)
  refine Run.ret (QQ (Qr ?_))
  exact QP Try.results136 rfl rfl ⟨_, rfl, ⟨_, _, rfl, (Jc (by rw [if_neg (by omega)]) (Qe.nil _ _)), (JF (by rw [if_neg (by omega), if_pos (by omega)]) _ _)⟩, zb⟩
 refine Qc rfl (dF9 hp2) ?_
 refine Qg (fun _ _ h => h) ?_
 refine rsr ?_
 refine sv (Qa.assign rfl) ?_
 refine sv (Qa.assign rfl) ?_
 refine Seq.next ?_
 refine Run.seq ?_
 refine rsr ?_
 refine sv (Qa.assign rfl) ?_
 refine Seq.next ?_
 refine Run.block ?_
 refine Run.loop (fun m' l' w' => ∃ (k : Nat) (lab' : Lab) (ux908 : Value) (ur9 : Value), m' = n.toNat - 32 * k ∧ l' = [(8, ux908), (9, ur9), (10, u8 (UInt8.ofNat (k + 1))), (0, .slice A1 (List.length key) c2), (1, .slice A4 (List.length info) c5), (2, i64 n), (6, .slice none 0 0), (7, .int .i64 0)] ∧ Ql lab' w' ∧ Stp [908] L0 w lab' w' ∧ (Qe (Vc key info k)) lab' w' ur9 ∧ App lab' w' 908 5 ux908 (32 * k) (List.map u8 (Uq key info k)) ∧ (32 * k < n + 32)) (n.toNat - 32 * 0) (l0 := [(8, .slice none 0 0), (9, .slice none 0 0), (10, u8 (UInt8.ofNat (0 + 1))), (0, .slice A1 (List.length key) c2), (1, .slice A4 (List.length info) c5), (2, i64 n), (6, .slice none 0 0), (7, .int .i64 0)]) ⟨rfl, rfl, (congrArg (fun z => some (u8 z)) (show ((1 : UInt8) : UInt8) = UInt8.ofNat (0 + 1) from by rfl)), rfl, rfl, rfl, rfl, rfl, trivial⟩ ⟨0, L0, (.slice none 0 0), (.slice none 0 0), rfl, rfl, h0L, ((Stp.refl _ _).more (by simp)), (Jc (show ([]) = (Vc key info 0) from by rfl) (Qe.nil L0 w)), (Yn (show [] = Uq key info 0 from by rfl) (show 0 = 32 * 0 from by rfl) (App.nil (lab := L0) (w := w) (d := 908) (t := 5))), (by omega)⟩ ?_
 intro m7 l8 w9 H10
 obtain ⟨k, lab11, v14, v15, hzm, rfl, hv12, s13, q16, o17, hk⟩ := H10
 replace hzm := hzm.symm; subst hzm
 obtain ⟨A18, c19, rfl⟩ := App.shape o17
 have m20 : List.length (Uq key info k) = 32 * k := QY o17
 have z21 := (App.row o17).2
 obtain ⟨A22, c23, rfl⟩ := Qe.shape q16
 have z24 := Qe.cap q16
 refine Run.seq ?_
 refine rsr ?_
 refine sv (Qa.move rfl) ?_
 refine sv (Qa.len Try.underlying22 rfl) ?_
 refine sv (Qa.move rfl) ?_
 refine sv (Qa.lss rfl rfl) ?_
 refine Seq.next ?_
 rcases Decidable.em ((((32 * k : Nat) : Int) : Int) < (n : Int)) with hp3 | hp3
 rotate_left
 ·refine Qc rfl (dF9 hp3) ?_
  refine Qv (fun _ _ h => h) ?_
  refine rsr ?_
  refine sv (Qa.move rfl) ?_
  refine sv (Qa.move rfl) ?_
  refine sv (Qa.move rfl) ?_
  have hv68 := Ql.release hv12 908
  have m70 : List.length (Uq key info k) = 32 * k := QY o17
  have q69 : Qe (Uq key info k) (Q5 lab11 908) w9 (.slice A18 (32 * k) c19) := ⟨_, _, (by rw [m70]), (by have h9 := (App.row o17).2.1; (rw [m70]; exact h9)), (App.row o17).2.2, (App.row o17).1⟩
  have q71 := Qbm q69 ((n).toNat) ((n).toNat) (by omega) (by omega) (by omega)
  refine sv (KV ((n).toNat) ((n).toNat) Try.underlying22 ty5 rfl rfl rfl (by omega) (by omega) (by omega) (by omega)) ?_
  refine sv (Qa.assign rfl) ?_
  refine sv (Qa.assign rfl) ?_
  refine Seq.next ?_
  have c72 := s13.trans (Stp.release (lab := lab11) (w := w9) 908)
  obtain ⟨⟨zU, zo⟩, zb⟩ := hX c72 (by decide)
  refine Run.ret ?_
  exact QP Try.results136 rfl rfl ⟨_, rfl, ⟨_, _, rfl, (Jc (by ((rw [if_pos (by omega)]; unfold ZH; rw [show (Int.toNat n + 31) / 32 = k by omega]))) (up zo q71)), (JF (by rw [if_neg (by omega), if_neg (by omega)]) _ _)⟩, zb⟩
 refine Qc rfl (dT9 hp3) ?_
 refine Qg (fun _ _ h => h) ?_
 refine Run.seq ?_
 refine Run.block ?_
 refine rsr ?_
 refine sv (Qa.move rfl) ?_
 refine sv (Qa.move rfl) ?_
 refine sv (Qa.move rfl) ?_
 refine sv (Qa.move rfl) ?_
 refine QR [(0, u8 (UInt8.ofNat (k + 1)))] (List.map u8 [UInt8.ofNat (k + 1)]) hv12 Try.underlying22 ty5 (by decide) (by decide) rfl (by kernel_rfl) (by decide) ?_
 intro w25 b26 r27 s28 hv29
 have q30 : Qe [UInt8.ofNat (k + 1)] lab11 w25 (.slice (some ⟨b26, 0, none⟩) 1 1) := ⟨_, _, rfl, Nat.le_refl _, lB9 rfl, r27⟩
 refine QR [(0, .slice A22 (List.length (Vc key info k)) c23), (1, .slice A4 (List.length info) c5), (2, .slice (some ⟨b26, 0, none⟩) 1 1)] [.slice A22 (List.length (Vc key info k)) c23, .slice A4 (List.length info) c5, .slice (some ⟨b26, 0, none⟩) 1 1] hv29 Try.underlying34 XO (by decide) (by decide) rfl (by kernel_rfl) (by decide) ?_
 intro w31 b32 r33 s34 hv35
 have c37 := s28.trans s34
 have q38 := up c37 q16
 have c39 := s13.trans c37
 have q40 := up c39 h1
 have q41 := up s34 q30
 have q36 : JB [Vc key info k, info, [UInt8.ofNat (k + 1)]] lab11 w31 (.slice (some ⟨b32, 0, none⟩) 3 3) := JB.mk 3 rfl (Nat.le_refl _) (by decide) r33 rfl (Qap.get ⟨q38, q40, q41, trivial⟩)
 have q42 := up c39 h0
 refine Q7 (V := Qe (VB key (List.flatten ([Vc key info k, info, [UInt8.ofNat (k + 1)]])))) QhE hv35 rfl (Qfa hv35 q42 q36 (show List.length key ≤ 10000000 from by omega) (show List.length (List.flatten ([Vc key info k, info, [UInt8.ofNat (k + 1)]])) ≤ 9000000 from by (have := QiQ key info k; simp; omega))) fun v43 w44 q45 s46 h47 => ?_
 obtain ⟨A48, c49, rfl⟩ := Qe.shape q45
 have z50 := Qe.cap q45
 refine sv (Qa.assign rfl) ?_
 refine Seq.next ?_
 refine Run.region ?_
 refine sv (Qa.move rfl) ?_
 refine sv (Qa.move rfl) ?_
 have c52 := c37.trans s46
 have o51 := o17.up c52
 refine Seq.append (k := 908) (List.map u8 (VB key (List.flatten ([Vc key info k, info, [UInt8.ofNat (k + 1)]])))) h47 o51 Try.underlying22 ty5 rfl rfl rfl (by simp) (Qe.row q45) JQ (by (rw [ZV]; omega)) (by (rw [ZV]; omega)) (by decide) ?_
 intro lab53 w54 v55 o56 s57 hv58
 rw [← List.map_append] at o56
 obtain ⟨A59, c60, rfl⟩ := App.shape o56
 have m61 : List.length (Uq key info k ++ (VB key (List.flatten ([Vc key info k, info, [UInt8.ofNat (k + 1)]])))) = 32 * k + (List.length (VB key (List.flatten ([Vc key info k, info, [UInt8.ofNat (k + 1)]])))) := QY o56
 have z62 := (App.row o56).2
 refine sv (Qa.assign rfl) ?_
 refine QH (fun _ _ h => h) ?_
 refine Run.region ?_
 refine sv (Qa.move rfl) ?_
 refine sv (Qcf (b := (1 : UInt8)) rfl rfl) ?_
 refine sv (Qa.assign rfl) ?_
 have q63 := up s57 q45
 have c64 := s46.trans s57
 have c65 := c39.trans c64
 exact Seq.nil (fun a66 h67 => ⟨_, by omega, _, h67.weaken (QG (l' := [(8, .slice A59 (32 * k + (List.length (VB key (List.flatten ([Vc key info k, info, [UInt8.ofNat (k + 1)]]))))) c60), (9, .slice A48 (List.length (VB key (List.flatten ([Vc key info k, info, [UInt8.ofNat (k + 1)]])))) c49), (10, u8 (UInt8.ofNat ((k + 1) + 1))), (0, .slice A1 (List.length key) c2), (1, .slice A4 (List.length info) c5), (2, i64 n), (6, .slice none 0 0), (7, .int .i64 0)]) ⟨rfl, rfl, (congrArg (fun z => some (u8 z)) (show ((UInt8.ofNat (k + 1)) + (1 : UInt8) : UInt8) = UInt8.ofNat ((k + 1) + 1) from by exact Qb5 _)), rfl, rfl, rfl, rfl, rfl, trivial⟩), ⟨k + 1, lab53, (.slice A59 (32 * k + (List.length (VB key (List.flatten ([Vc key info k, info, [UInt8.ofNat (k + 1)]]))))) c60), (.slice A48 (List.length (VB key (List.flatten ([Vc key info k, info, [UInt8.ofNat (k + 1)]])))) c49), rfl, rfl, hv58, (c65.more (by decide)), (Jc (show (VB key (List.flatten ([Vc key info k, info, [UInt8.ofNat (k + 1)]]))) = (Vc key info (k + 1)) from by exact QaI _ _ _) q63), (Yn (show Uq key info k ++ (VB key (List.flatten ([Vc key info k, info, [UInt8.ofNat (k + 1)]]))) = Uq key info (k + 1) from by exact (congrArg (Uq key info k ++ ·) (QaI _ _ _))) (show 32 * k + (List.length (VB key (List.flatten ([Vc key info k, info, [UInt8.ofNat (k + 1)]])))) = 32 * (k + 1) from by (rw [ZV]; omega)) o56), (by omega)⟩⟩)
theorem Qdz {lab : Lab} {w : World} (hv : Ql lab w) {salt : List UInt8} {v0 : Value} (h0 : Qe salt lab w v0) {secret : List UInt8} {v1 : Value} (h1 : Qe secret lab w v1) {info : List UInt8} {v2 : Value} (h2 : Qe info lab w v2) {n : Int} (hk0 : List.length salt ≤ 10000000) (hk1 : List.length secret ≤ 9000000) (hs : List.length info ≤ 8000000) :
  Calls Try.prog 115 #[v0, v1, v2, i64 n] w (fun e w' => ∃ v, e = .returned v ∧ (Zo (Qe (if 0 ≤ n ∧ n ≤ 8160 then QI salt secret info n.toNat else [])) (Is (i64 (if n < 0 then 1 else if 8160 < n then 4 else 0)))) lab w' v ∧ Below w.heap.size w w') := by
 obtain ⟨L0, h0L, ⟨zU0, z00⟩, hX⟩ := QZ hv
 replace h0 := up z00 h0
 obtain ⟨A1, c2, rfl⟩ := Qe.shape h0
 have z3 := Qe.cap h0
 replace h1 := up z00 h1
 obtain ⟨A4, c5, rfl⟩ := Qe.shape h1
 have z6 := Qe.cap h1
 replace h2 := up z00 h2
 obtain ⟨A7, c8, rfl⟩ := Qe.shape h2
 have z9 := Qe.cap h2
 refine Qu Try.func115 rfl Try.ntmps115 (lB9 rfl) ?_
 refine rsr ?_
 refine sv (Qa.assign rfl) ?_
 refine sv (Qa.assign rfl) ?_
 refine nsr ?_
 refine sv (Qa.move rfl) ?_
 refine sv (Qa.move rfl) ?_
 refine Q7 (V := Qe (VB salt secret)) Qk3 h0L rfl (QbC h0L h0 h1 (show List.length salt ≤ 10000000 from by omega) (show List.length secret ≤ 9000000 from by omega)) fun v10 w11 q12 s13 h14 => ?_
 obtain ⟨A15, c16, rfl⟩ := Qe.shape q12
 have z17 := Qe.cap q12
 refine sv (Qa.move rfl) ?_
 refine sv (Qa.move rfl) ?_
 have q18 := up s13 h2
 refine Q7 (V := Zo (Qe (if 0 ≤ n ∧ n ≤ 8160 then ZH (VB salt secret) info n.toNat else [])) (Is (i64 (if n < 0 then 1 else if 8160 < n then 4 else 0)))) QhI h14 rfl (Up h14 (n := n) q12 q18 (show List.length (VB salt secret) ≤ 10000000 from by (rw [ZV]; omega)) (show List.length info ≤ 8000000 from by omega)) fun v19 w20 q21 s22 h23 => ?_
 obtain ⟨v24, v25, rfl, q26, q27⟩ := q21
 obtain ⟨A28, c29, rfl⟩ := Qe.shape q26
 have z30 := Qe.cap q26
 have q27 := Is.out q27; subst q27
 refine sv (Qa.extract rfl rfl) ?_
 refine sv (Qa.extract rfl rfl) ?_
 refine sv (Qa.assign rfl) ?_
 refine sv (Qa.assign rfl) ?_
 refine Seq.next ?_
 have c31 := s13.trans s22
 obtain ⟨⟨zU, zo⟩, zb⟩ := hX c31 (by decide)
 refine Run.ret ?_
 exact QP Try.results115 rfl rfl ⟨_, rfl, ⟨_, _, rfl, (Jc (by rfl) (up zo q26)), rfl⟩, zb⟩
end Go.Proofs.Ytgfomedobfaidaa
end
section
set_option linter.unusedVariables false
set_option linter.unusedSimpArgs false
namespace Go.Proofs.Ytgfomedobfaidaa
open Go.RowKit
theorem ZY {lab : Lab} {w : World} (hv : Ql lab w) {b : List UInt8} {v0 : Value} (h0 : Qe b lab w v0) (hb : b.length ≤ 128) :
  Calls Try.prog 93 #[v0] w (fun e w' => ∃ v, e = .returned v ∧ (Zo (Qi (nv b)) (Is (i64 0))) lab w' v ∧ Below w.heap.size w w') := by
 have h := UV hv h0 (by omega)
 rw [if_neg (by omega), if_neg (by omega)] at h
 exact h
theorem QaD {lab : Lab} {w : World} (hv : Ql lab w) {key : List UInt8} {v0 : Value} (h0 : Qe key lab w v0) {info : List UInt8} {v1 : Value} (h1 : Qe info lab w v1) {n : Nat} (hk0 : key.length ≤ 10000000) (hs : info.length ≤ 8000000) (hn : n ≤ 8160) :
  Calls Try.prog 136 #[v0, v1, i64 ((n : Nat) : Int)] w (fun e w' => ∃ v, e = .returned v ∧ (Zo (Qe (ZH key info n)) (Is (i64 0))) lab w' v ∧ Below w.heap.size w w') := by
 have h := Up hv (n := ((n : Nat) : Int)) h0 h1 hk0 hs
 rw [if_pos (by omega), if_neg (by omega), if_neg (by omega)] at h
 exact h
theorem QbD {lab : Lab} {w : World} (hv : Ql lab w) {salt : List UInt8} {v0 : Value} (h0 : Qe salt lab w v0) {secret : List UInt8} {v1 : Value} (h1 : Qe secret lab w v1) {info : List UInt8} {v2 : Value} (h2 : Qe info lab w v2) {n : Int} (hk0 : salt.length ≤ 10000000) (hk1 : secret.length ≤ 9000000) (hs : info.length ≤ 8000000) (hn : 0 ≤ n ∧ n ≤ 8160) :
  Calls Try.prog 115 #[v0, v1, v2, i64 n] w (fun e w' => ∃ v, e = .returned v ∧ (Zo (Qe (QI salt secret info n.toNat)) (Is (i64 0))) lab w' v ∧ Below w.heap.size w w') := by
 have h := Qdz hv (n := n) h0 h1 h2 hk0 hk1 hs
 rw [if_pos hn, if_neg (by omega), if_neg (by omega)] at h
 exact h
end Go.Proofs.Ytgfomedobfaidaa
end
section
set_option linter.unusedVariables false
set_option linter.unusedSimpArgs false
namespace Go.Proofs.Ytgfomedobfaidaa
open Go.RowKit
structure ParamsD where
 p : Nat
 q : Nat
 g : Nat
 seed : List UInt8
def J3 (d : ParamsD) : VP := fun lab w v => ∃ a b c s, v = .agg #[a, b, c, s] ∧ Qi d.p lab w (.agg #[a]) ∧ Qi d.q lab w (.agg #[b]) ∧ Qi d.g lab w (.agg #[c]) ∧ Qe d.seed lab w s
theorem Qbe (d : ParamsD) : Pers (J3 d) := ⟨fun st ⟨a, b, c, s, h, h1, h2, h3, h4⟩ => ⟨a, b, c, s, h, (Jq _).step st h1, (Jq _).step st h2, (Jq _).step st h3, (Za _).step st h4⟩⟩
instance (d : ParamsD) : Per (J3 d) := ⟨Qbe d⟩
theorem J3.open {d : ParamsD} {lab : Lab} {w : World} {v : Value} (h : J3 d lab w v) : ∃ A1 c1 A2 c2 A3 c3 A4 c4, v = .agg #[.slice A1 (nw d.p) c1, .slice A2 (nw d.q) c2, .slice A3 (nw d.g) c3, .slice A4 d.seed.length c4] ∧ Qi d.p lab w (.agg #[.slice A1 (nw d.p) c1]) ∧ Qi d.q lab w (.agg #[.slice A2 (nw d.q) c2]) ∧ Qi d.g lab w (.agg #[.slice A3 (nw d.g) c3]) ∧ Qe d.seed lab w (.slice A4 d.seed.length c4) := by
 obtain ⟨a, b, c, s, rfl, h1, h2, h3, h4⟩ := h
 obtain ⟨A1, c1, e1⟩ := Qi.shape h1
 obtain ⟨A2, c2, e2⟩ := Qi.shape h2
 obtain ⟨A3, c3, e3⟩ := Qi.shape h3
 obtain ⟨A4, c4, rfl⟩ := Qe.shape h4
 cases e1; cases e2; cases e3
 exact ⟨A1, c1, A2, c2, A3, c3, A4, c4, rfl, h1, h2, h3, h4⟩
theorem J3.mk {p q g : Nat} {seed : List UInt8} {lab : Lab} {w : World} {a b c s : Value} (h1 : Qi p lab w (.agg #[a])) (h2 : Qi q lab w (.agg #[b])) (h3 : Qi g lab w (.agg #[c])) (h4 : Qe seed lab w s) : J3 ⟨p, q, g, seed⟩ lab w (.agg #[a, b, c, s]) := ⟨a, b, c, s, rfl, h1, h2, h3, h4⟩
theorem Xq {x y : ParamsD} (e : x = y) {lab : Lab} {w : World} {v : Value} (h : J3 x lab w v) : J3 y lab w v := e ▸ h
theorem Qjt {x y : GroupD} (e : x = y) {lab : Lab} {w : World} {v : Value} (h : Js x lab w v) : Js y lab w v := e ▸ h
theorem YE {G : GroupD} (h : G.p ≠ 0) : G.size = (QL G.p + 7) / 8 := by unfold GroupD.size QL; rw [if_neg h]
theorem Js.mk {lab : Lab} {w : World} {L b bp bq p q g h : Nat} {t : TypeId} {a c : Value} {n : Int} (hO : Own lab w L b t #[.pointer (some ⟨bp, 0, none⟩), .pointer (some ⟨bq, 0, none⟩), a, c, i64 n]) (hp : JO p (Q5 lab L) w (.pointer (some ⟨bp, 0, none⟩))) (hq : JO q (Q5 lab L) w (.pointer (some ⟨bq, 0, none⟩))) (hg : Qi g (Q5 lab L) w (.agg #[a])) (hh : Qi h (Q5 lab L) w (.agg #[c])) (h0 : p ≠ 0) (hn : n = (((QL p + 7) / 8 : Nat) : Int)) :
  Js ⟨p, q, g, h⟩ (Q5 lab L) w (.pointer (some ⟨b, 0, none⟩)) := by
 obtain ⟨Ag, cg, e1⟩ := Qi.shape hg
 obtain ⟨Ah, ch, e2⟩ := Qi.shape hh
 cases e1; cases e2
 have hs : (GroupD.mk p q g h).size = (QL p + 7) / 8 := YE (G := ⟨p, q, g, h⟩) h0
 refine ⟨b, t, (0, 0), _, rfl, by unfold Q5; rw [if_pos hO.1], hO.2, bp, bq, Ag, cg, Ah, ch, ?_, hp, hq, hg, hh⟩
 rw [hs, hn]
def J6 (o : Option GroupD) : VP := fun lab w v => match o with
 | none => v = .pointer none
 | some G => Js G lab w v
theorem Qcb (o : Option GroupD) : Pers (J6 o) := ⟨fun s h => by
 cases o with
 | none => exact h
 | some G => exact (KD G).step s h⟩
instance (o : Option GroupD) : Per (J6 o) := ⟨Qcb o⟩
theorem JC {x y : Option GroupD} (e : x = y) {lab : Lab} {w : World} {v : Value} (h : J6 x lab w v) : J6 y lab w v := e ▸ h
theorem Jz {lab : Lab} {w : World} : J6 none lab w (.pointer none) := rfl
def ZU (G : GroupD) (a : Nat) : Prop := a ≠ 0 ∧ a < G.p ∧ a ^ G.q % G.p = 1
instance (G : GroupD) (a : Nat) : Decidable (ZU G a) := by unfold ZU; infer_instance
def KN (p : Nat) : Nat := (QL p + 7) / 8
def Ur (seed : List UInt8) (size c : Nat) : List UInt8 := QI [] seed [104, UInt8.ofNat c] (size + 8)
def QgV (P Q : Nat) (seed : List UInt8) (c : Nat) : Nat := nv (Ur seed (KN P) c) ^ ((P - 1) / Q) % P
def Us (f : Nat → Nat) : Nat → Nat → Option Nat
 | 0, _ => none
 | n + 1, c => if 1 < f c then some (f c) else Us f n (c + 1)
theorem Kw {f : Nat → Nat} : ∀ {n c k : Nat}, c ≤ k → k < c + n → (∀ j, c ≤ j → j < k → ¬ 1 < f j) → 1 < f k → Us f n c = some (f k)
 | 0, c, k, h1, h2, _, _ => by omega
 | n + 1, c, k, h1, h2, h3, h4 => by
  unfold Us
  by_cases hk : c = k
  ·subst hk; rw [if_pos h4]
  ·rw [if_neg (h3 c (Nat.le_refl _) (by omega))]
   exact Kw (by omega) (by omega) (fun j a b => h3 j (by omega) b) h4
theorem Kx {f : Nat → Nat} : ∀ {n c : Nat}, (∀ j, c ≤ j → j < c + n → ¬ 1 < f j) → Us f n c = none
 | 0, c, _ => rfl
 | n + 1, c, h => by
  unfold Us
  rw [if_neg (h c (Nat.le_refl _) (by omega))]
  exact Kx fun j a b => h j (by omega) (by omega)
def YX (d : ParamsD) : Prop := (d.p - 1) % d.q = 0 ∧ 64 < d.q ∧ 1 < d.g ∧ d.g < d.p
instance (d : ParamsD) : Decidable (YX d) := by unfold YX; infer_instance
def Ko (d : ParamsD) : Prop := Zy d.p ∨ Zy d.q ∨ Zy d.g ∨ 128 < d.seed.length
instance (d : ParamsD) : Decidable (Ko d) := by unfold Ko; infer_instance
def KM (d : ParamsD) (chain : List StepD) : Option GroupD × Int :=
 if Ko d then (none, 4)
 else if ¬ (Zg d.p chain ∧ Zg d.q chain) then (none, 8)
 else if ¬ YX d then (none, 1)
 else if ¬ ZU ⟨d.p, d.q, d.g, 0⟩ d.g then (none, 1)
 else match Us (QgV d.p d.q d.seed) 256 0 with
  | some h => (some ⟨d.p, d.q, d.g, h⟩, 0)
  | none => (none, 6)
theorem Ze {n : Nat} {chain : List StepD} (h : Zg n chain) : 2 ≤ n := by
 rcases h with h | ⟨h1, h2⟩
 ·exact h.1
 ·unfold ZM at h1
  split at h1
  ·cases h1
  ·split at h1
   ·rename_i hh
    obtain ⟨s, hs, rfl⟩ := List.mem_map.1 h2
    obtain ⟨i, hi, e⟩ := List.mem_iff_getElem.1 hs
    have := (hh i hi).1
    rw [List.getD, List.getElem?_eq_getElem hi, e] at this
    exact this
   ·cases h1
theorem Qi0 (l : List UInt8) (x : UInt8) : nv (l ++ [x]) = nv l * 256 + x.toNat := by
 unfold nv
 rw [List.foldl_append, Nat.mul_comm]; rfl
theorem Qa7 {l : List UInt8} {k : Nat} (h : k < l.length) : nv (l.take (k + 1)) = nv (l.take k) * 256 + (l.getD k 0).toNat := by
 rw [List.take_succ_eq_append_getElem h, Qi0]
 simp [List.getD, List.getElem?_eq_getElem h]
theorem Qi1 {l : List UInt8} {k p x : Nat} (h : k < l.length) (hx : x = nv (l.take k) % p) : (x * 256 + (l.getD k 0).toNat) % p = nv (l.take (k + 1)) % p := by
 rw [Qa7 h, hx, Nat.add_mod, Nat.mod_mul_mod, ← Nat.add_mod]
section
variable {d : ParamsD} {chain : List StepD}
theorem Yf (h : Ko d) : KM d chain = (none, 4) := by unfold KM; rw [if_pos h]
theorem JA (h1 : ¬ Zy d.p) (h2 : ¬ Zy d.q) (h3 : ¬ Zy d.g) (h4 : ¬ (128 : Int) < ((d.seed.length : Nat) : Int)) : ¬ Ko d := fun h => by
 rcases h with h | h | h | h
 ·exact h1 h
 ·exact h2 h
 ·exact h3 h
 ·omega
theorem Xw (hl : ¬ Ko d) (h : ¬ (Zg d.p chain ∧ Zg d.q chain)) : KM d chain = (none, 8) := by unfold KM; rw [if_neg hl, if_pos h]
theorem ZC (hl : ¬ Ko d) (h : Zg d.p chain ∧ Zg d.q chain) (h2 : ¬ YX d) : KM d chain = (none, 1) := by unfold KM; rw [if_neg hl, if_neg (fun hn => hn h), if_pos h2]
theorem QeF (h : Jo d.q 64 ≤ 0) : ¬ YX d := fun hp => by rw [QbR] at h; have := hp.2.1; omega
theorem QeE (h : Jo d.g 1 ≤ 0) : ¬ YX d := fun hp => by rw [QbR] at h; have := hp.2.2.1; omega
theorem QeD (h : 0 ≤ Jo d.g d.p) : ¬ YX d := fun hp => by rw [XB] at h; have := hp.2.2.2; omega
theorem Vu (h1 : (!decide ((d.p - 1) % d.q = 0)) = false) (h2 : ¬ Jo d.q 64 ≤ 0) (h3 : ¬ Jo d.g 1 ≤ 0) (h4 : ¬ 0 ≤ Jo d.g d.p) : YX d := by
 rw [QbR] at h2 h3; rw [XB] at h4
 exact ⟨by simpa using h1, by omega, by omega, by omega⟩
theorem Qc4 (hl : ¬ Ko d) (h : Zg d.p chain ∧ Zg d.q chain) (h2 : YX d) (h3 : ¬ ZU ⟨d.p, d.q, d.g, 0⟩ d.g) : KM d chain = (none, 1) := by unfold KM; rw [if_neg hl, if_neg (fun hn => hn h), if_neg (fun hn => hn h2), if_pos h3]
theorem Vw {H c : Nat} (hl : ¬ Ko d) (h : Zg d.p chain ∧ Zg d.q chain) (h2 : YX d) (h3 : ZU ⟨d.p, d.q, d.g, 0⟩ d.g) (hc : c < 256) (hall : ∀ j, j < c → ¬ 1 < QgV d.p d.q d.seed j) (hH : H = QgV d.p d.q d.seed c) (h1 : 0 < Jo H 1) : KM d chain = (some ⟨d.p, d.q, d.g, H⟩, 0) := by
 rw [QbS] at h1
 unfold KM
 rw [if_neg hl, if_neg (fun hn => hn h), if_neg (fun hn => hn h2), if_neg (fun hn => hn h3), Kw (n := 256) (c := 0) (k := c) (by omega) (by omega) (fun j _ hj => hall j hj) (by rw [← hH]; exact h1), hH]
theorem Qa9 {c : Nat} (hl : ¬ Ko d) (h : Zg d.p chain ∧ Zg d.q chain) (h2 : YX d) (h3 : ZU ⟨d.p, d.q, d.g, 0⟩ d.g) (hc : 256 ≤ c) (hall : ∀ j, j < c → ¬ 1 < QgV d.p d.q d.seed j) : KM d chain = (none, 6) := by
 unfold KM
 rw [if_neg hl, if_neg (fun hn => hn h), if_neg (fun hn => hn h2), if_neg (fun hn => hn h3), Kx (n := 256) (c := 0) (fun j _ hj => hall j (by omega))]
theorem QbO {B : List UInt8} {i c : Nat} (hB : B = Ur d.seed (KN d.p) c) (hi : B.length ≤ i) : (nv (B.take i) % d.p) ^ ((d.p - 1) / d.q) % d.p = QgV d.p d.q d.seed c := by
 rw [List.take_of_length_le hi, ← Nat.pow_mod, hB]; rfl
theorem QiS {seed : List UInt8} {p c : Nat} {n e : Int} (hn : n = ((KN p : Nat) : Int) + 8) (he : e = ((c : Nat) : Int)) : QI [] seed [104, UInt8.ofNat e.toNat] n.toNat = Ur seed (KN p) c := by
 subst hn; subst he
 unfold Ur
 rw [show (((KN p : Nat) : Int) + 8).toNat = KN p + 8 by omega, Int.toNat_natCast]
end
def gno (n : Int) : Nat := (YG n % 3).toNat
def KP : Nat := 1152921504606847009
def QdO : Nat := 4831838208 * 4294967296 + 595
def prm (n : Int) (seed : List UInt8) : ParamsD := if gno n = 0 then ⟨607, 101, 64, seed⟩ else if gno n = 1 then ⟨655211, 65521, 1024, seed⟩ else ⟨QdO, KP, 262144, seed⟩
def chn (n : Int) : List StepD := if gno n = 0 then [] else if gno n = 1 then [⟨655211, 2, [65521]⟩] else [⟨KP, 13, [2, 3, 11, 683, 2971]⟩, ⟨QdO, 2, [KP]⟩]
theorem Qko (n : Int) : ∀ i, i < (chn n).length → nw ((chn n).getD i QD).n ≤ 100000 ∧ nw ((chn n).getD i QD).base ≤ 100000 ∧ ∀ x ∈ ((chn n).getD i QD).primes, nw x ≤ 100000 := by
 have h2 : ∀ x : Nat, x < 4294967296 ^ 3 → nw x ≤ 100000 := fun x hx => Nat.le_trans (Xi hx) (by omega)
 intro i hi
 unfold chn at hi ⊢
 split at hi
 ·simp at hi
 ·rename_i h0
  rw [if_neg h0]
  split at hi
  ·rename_i h1
   rw [if_pos h1]
   obtain rfl : i = 0 := by simp at hi; omega
   refine ⟨h2 _ (by decide), h2 _ (by decide), fun x hx => ?_⟩
   simp at hx; subst hx; exact h2 _ (by decide)
  ·rename_i h1
   rw [if_neg h1]
   have : i = 0 ∨ i = 1 := by simp at hi; omega
   rcases this with rfl | rfl
   ·refine ⟨h2 _ (by decide), h2 _ (by decide), fun x hx => ?_⟩
    simp at hx
    rcases hx with rfl | rfl | rfl | rfl | rfl <;> exact h2 _ (by decide)
   ·refine ⟨h2 _ (by decide), h2 _ (by decide), fun x hx => ?_⟩
    simp at hx; subst hx; exact h2 _ (by decide)
theorem Qjc (n : Int) : ∀ i, i < (chn n).length → ((chn n).getD i QD).primes.length ≤ 100000 := by
 intro i hi
 unfold chn at hi ⊢
 split at hi
 ·simp at hi
 ·rename_i h0
  rw [if_neg h0]
  split at hi
  ·rename_i h1
   rw [if_pos h1]
   obtain rfl : i = 0 := by simp at hi; omega
   decide
  ·rename_i h1
   rw [if_neg h1]
   have : i = 0 ∨ i = 1 := by simp at hi; omega
   rcases this with rfl | rfl <;> decide
theorem QjS (n : Int) (seed : List UInt8) (h : seed.length ≤ 1000000) : nw (prm n seed).p ≤ 100000 ∧ nw (prm n seed).q ≤ 100000 ∧ nw (prm n seed).g ≤ 100000 ∧ (prm n seed).seed.length ≤ 1000000 := by
 have h2 : ∀ x : Nat, x < 4294967296 ^ 3 → nw x ≤ 100000 := fun x hx => Nat.le_trans (Xi hx) (by omega)
 unfold prm
 split
 ·exact ⟨h2 _ (by show 607 < _; decide), h2 _ (by show 101 < _; decide), h2 _ (by show 64 < _; decide), h⟩
 ·split
  ·exact ⟨h2 _ (by show 655211 < _; decide), h2 _ (by show 65521 < _; decide), h2 _ (by show 1024 < _; decide), h⟩
  ·exact ⟨h2 _ (by show QdO < _; decide), h2 _ (by show KP < _; decide), h2 _ (by show 262144 < _; decide), h⟩
def okG (g : GroupD) : Prop := 1 < g.p ∧ 1 < g.q ∧ nw g.p ≤ 32 ∧ nw g.q ≤ 32 ∧ nw g.g ≤ 32 ∧ nw g.h ≤ 32
theorem Qc0 {p q g h : Nat} (h1 : 2 ≤ p) (h2 : 2 ≤ q) (h3 : nw p ≤ 32) (h4 : nw q ≤ 32) (h5 : nw g ≤ 32) (h6 : nw h ≤ 32) : okG ⟨p, q, g, h⟩ := ⟨h1, h2, h3, h4, h5, h6⟩
theorem okG.size_le {g : GroupD} (h : okG g) : g.size ≤ 128 := by
 rw [YE (by have := h.1; omega)]
 have := Zv g.p
 have := h.2.2.1
 omega
theorem QaC {g : GroupD} {a : Nat} (h : ¬ ZU g a) : false = decide (ZU g a) := (dF9 h).symm
theorem Qlm {g : GroupD} {a : Nat} (h : (!decide (a = 0)) = false) : false = decide (ZU g a) := QaC fun hm => hm.1 (by simpa using h)
theorem Qll {g : GroupD} {a : Nat} (h : ¬ Jo a g.p < 0) : false = decide (ZU g a) := QaC fun hm => h (by rw [V0]; exact hm.2.1)
theorem Qlk {g : GroupD} {a : Nat} (h1 : (!decide (a = 0)) = true) (h2 : Jo a g.p < 0) : decide (Jo (a ^ g.q % g.p) 1 = 0) = decide (ZU g a) := decide_eq_decide.2 (by
 rw [XC]; exact ⟨fun h => ⟨by simpa using h1, by simpa using h2, h⟩, fun h => h.2.2⟩)
theorem Qc6 {g : GroupD} {a : Nat} (hg : okG g) (h : ZU g a) : (QL a + 7) / 8 ≤ g.size := by
 rw [YE (by have := hg.1; omega)]
 have : QL a ≤ QL g.p := Zk.2 (Nat.lt_of_lt_of_le h.2.1 (Nat.le_of_lt (Zk.1 (Nat.le_refl _))))
 omega
theorem Qi2 (b : List UInt8) : nw (nv b) ≤ b.length / 4 + 1 := by
 apply Xi
 refine Nat.lt_of_lt_of_le (Qi3 b) ?_
 have e : (4294967296 : Nat) ^ (b.length / 4 + 1) = 256 ^ (4 * (b.length / 4 + 1)) := by rw [Nat.pow_mul]
 rw [e]
 exact Nat.pow_le_pow_right (by omega) (by omega)

def le8 (n : Nat) : List UInt8 := (List.range 8).map fun i => UInt8.ofNat (n / 256 ^ i)
def Qat (n i : Nat) : List UInt8 := (List.range 8).map fun j => if j < i then UInt8.ofNat (n / 256 ^ j) else 0
theorem YR (n i : Nat) : (Qat n i).length = 8 := by simp [Qat]
theorem Qfe (n : Nat) : List.replicate 8 0 = Qat n 0 := by simp [Qat]; rfl
theorem Qfg (n : Nat) {i : Nat} (h : 8 ≤ i) : Qat n i = le8 n := by
 unfold Qat le8
 refine List.map_congr_left fun j hj => ?_
 rw [if_pos (by have := List.mem_range.1 hj; omega)]
theorem Qff {n i : Nat} {e : Int} (h : i < 8) (he : e = 8 * ((i : Nat) : Int)) : (Qat n i).set i (UInt8.ofNat (n / 2 ^ e.toNat)) = Qat n (i + 1) := by
 subst he
 rw [show (8 * ((i : Nat) : Int)).toNat = 8 * i by omega, Nat.pow_mul]
 unfold Qat
 apply List.ext_getElem
 ·simp
 ·intro j h1 h2
  simp only [List.getElem_set, List.getElem_map, List.getElem_range]
  by_cases hj : i = j
  ·subst hj; rw [if_pos rfl, if_pos (by omega)]
  ·rw [if_neg hj]
   by_cases hji : j < i
   ·rw [if_pos hji, if_pos (by omega)]
   ·rw [if_neg hji, if_neg (by omega)]
def X5 (parts : List (List UInt8)) : List UInt8 := (parts.map fun p => le8 p.length ++ p).flatten
theorem QaZ {L : List (List UInt8)} {k : Nat} (h : k < L.length) : X5 (L.take k) ++ le8 (L.getD k []).length ++ L.getD k [] = X5 (L.take (k + 1)) := by
 unfold X5
 rw [List.take_succ_eq_append_getElem h, List.map_append, List.flatten_append]
 simp [List.getD, List.getElem?_eq_getElem h]
theorem YU : ∀ (L : List (List UInt8)), (X5 L).length = 8 * L.length + L.flatten.length
 | [] => rfl
 | p :: L => by
  have := YU L
  simp only [X5, List.map_cons, List.flatten_cons, List.length_append, List.length_cons] at this ⊢
  rw [this, show (le8 p.length).length = 8 by simp [le8]]; omega
theorem QaY (L : List (List UInt8)) (k : Nat) : (X5 (L.take k)).length ≤ (X5 L).length := by
 rw [YU, YU, List.length_take]
 have := QcD (L := L) k
 omega
theorem QfX {L : List (List UInt8)} {k : Nat} (h : k < L.length) : (X5 (L.take k)).length + 8 + (L.getD k []).length ≤ (X5 L).length := by
 have h1 := QaY L (k + 1)
 rw [← QaZ h, List.length_append, List.length_append] at h1
 have : (le8 (L.getD k []).length).length = 8 := by simp [le8]
 omega
theorem Qjh (b : List UInt8) : nw (nv (JG b)) ≤ 9 := by have := Qi2 (JG b); rw [JS] at this; omega
def Qkp (q : Nat) (parts : List (List UInt8)) : Nat := nv (JG (X5 parts)) % q
def YY (es : List Nat) : Nat → Nat
 | 0 => 0
 | k + 1 => max (YY es k) (QL (es.getD k 0))
theorem Qc5 {es : List Nat} : ∀ {k : Nat}, ∀ j, j < k → QL (es.getD j 0) ≤ YY es k
 | 0, j, h => by omega
 | k + 1, j, h => by
  rcases Nat.lt_or_ge j k with h' | h'
  ·exact Nat.le_trans (Qc5 j h') (Nat.le_max_left _ _)
  ·obtain rfl : j = k := by omega
   exact Nat.le_max_right _ _
theorem UY {es : List Nat} (h : ∀ e ∈ es, nw e ≤ 1000) : ∀ k, YY es k ≤ 32000
 | 0 => by simp [YY]
 | k + 1 => by
  have h1 := UY h k
  have h2 : QL (es.getD k 0) ≤ 32000 := by
   rcases Nat.lt_or_ge k es.length with hk | hk
   ·have := h _ (Vd hk); have := Zv (es.getD k 0); omega
   ·simp [List.getD, List.getElem?_eq_none hk, QfR]
  exact Nat.max_le.2 ⟨h1, h2⟩
theorem Qb9 {bs es : List Nat} {p k : Nat} (hp : 1 < p) (hk : es.length ≤ k) : 1 = pp (YY es k) bs es % p := by
 rw [Qe6 bs es (fun e he => by
  obtain ⟨j, hj, e2⟩ := List.mem_iff_getElem.1 he
  have := Qc5 (es := es) (k := k) j (by omega)
  rwa [List.getD, List.getElem?_eq_getElem hj, Option.getD_some, e2] at this), Nat.mod_eq_of_lt hp]
theorem QeP {L : List Nat} {B : Nat} (h : ∀ x ∈ L, nw x ≤ B) (i : Nat) : nw (L.getD i 0) ≤ B := by
 rcases Nat.lt_or_ge i L.length with hi | hi
 ·exact h _ (Vd hi)
 ·simp [List.getD, List.getElem?_eq_none hi, Yl]
theorem QfV {x c : Nat} (hc : 1 ≤ c) : (if 0 ≤ ((c : Nat) : Int) - 1 then ((x / 2 ^ (((c : Nat) : Int) - 1).toNat % 2 : Nat) : Int) else 0) = ((x / 2 ^ (c - 1) % 2 : Nat) : Int) := by
 rw [if_pos (by omega), show (((c : Nat) : Int) - 1).toNat = c - 1 by omega]
theorem Qi7 {p c : Nat} {bs es : List Nat} (hc : 1 ≤ c) : pp c bs es % p * (pp c bs es % p) % p = ppm (c - 1) 0 bs es % p := by
 rw [Qct, ← Nat.mul_mod, show c - 1 + 1 = c by omega]
theorem Qi6 {p c k : Nat} {bs es : List Nat} (hl : bs.length = es.length) (hk : k < es.length) (hc : 1 ≤ c) (hb : (if 0 ≤ ((c : Nat) : Int) - 1 then ((es.getD k 0 / 2 ^ (((c : Nat) : Int) - 1).toNat % 2 : Nat) : Int) else 0) = 1) : ppm (c - 1) k bs es % p * bs.getD k 0 % p = ppm (c - 1) (k + 1) bs es % p := by
 rw [QfV hc] at hb
 exact QeT hl hk rfl (by omega)
theorem Qi8 {p c k : Nat} {bs es : List Nat} (hl : bs.length = es.length) (hk : k < es.length) (hc : 1 ≤ c) (hb : ¬ (if 0 ≤ ((c : Nat) : Int) - 1 then ((es.getD k 0 / 2 ^ (((c : Nat) : Int) - 1).toNat % 2 : Nat) : Int) else 0) = 1) : ppm (c - 1) k bs es % p = ppm (c - 1) (k + 1) bs es % p := by
 rw [QfV hc] at hb
 exact Qdx hl hk rfl (by omega)
theorem Qi9 {p c k : Nat} {bs es : List Nat} (hl : bs.length = es.length) (hk : es.length ≤ k) : ppm (c - 1) k bs es % p = pp (c - 1) bs es % p := by rw [Qcu _ _ _ _ hl hk]
section
variable {P : Program} {l : List (Nat × Value)} {w : World} {ty : TypeId}
theorem Qa.max_ {x y : Operand} {tys : Array TypeId} {a b : Int} (hx : ev l x = some (i64 a)) (hy : ev l y = some (i64 b)) : Qa P l (.call ⟨.builtin .max, #[x, y], tys⟩) ty w (i64 (Max.max a b)) w := by
 intro ρ hρ d pos af g
 have e : (if a < b then b else a) = Max.max a b := by rw [Int.max_def]; split <;> split <;> omega
 simp [execOp, resolve, invoke, builtin, hρ _ _ hx, hρ _ _ hy, Builtin.max_, Builtin.max2, e]
end
end Go.Proofs.Ytgfomedobfaidaa
end
