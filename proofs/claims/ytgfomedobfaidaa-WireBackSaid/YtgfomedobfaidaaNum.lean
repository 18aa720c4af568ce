/-
  The walks of some functions: what each call comes to.
-/
import Derived.Test.YtgfomedobfaidaaRef1
import Derived.Test.YtgfomedobfaidaaNat2
set_option linter.unusedVariables false
set_option linter.unusedSimpArgs false
set_option maxRecDepth 100000
namespace Go.Proofs.Ytgfomedobfaidaa
open Go.RowKit

theorem law09_Num {lab : Lab} {w : World} (hv : Valid lab w) {a : Nat} {v0 : Value} (h0 : NatV a lab w v0) (hn : nw a ≤ 30000) :
    Calls Try.prog 51 #[v0] w (fun e w' => ∃ v, e = .returned v ∧ (BitsV (bitsOf a)) lab w' v ∧ Below w.heap.size w w') := by
  have hv0 := hv.ent
  obtain ⟨zU0, z00⟩ := ent_step lab w
  replace h0 := (NatV.pers _).step z00 h0
  obtain ⟨A1, c2, rfl⟩ := NatV.shape h0
  have z3 := NatV.cap h0
  have hB := blen_le_nw a
  refine calls_run Try.func51 rfl Try.ntmps51 (Nat.le_of_ble_eq_true rfl) ?_
  refine Run.seq ?_
  refine Run.region ?_
  refine Seq.box (k := 2) [.slice A1 (nw a) c2] hv0 rfl rfl (by decide) ?_
  intro lab4 w5 b6 o7 s8 hv9
  refine Seq.val (Does.assign rfl) (by decide) ?_
  refine Seq.go (fun _ _ h => h) ?_
  refine Run.seq ?_
  refine Run.region ?_
  refine Seq.val (Does.load_ownN [.slice A1 (nw a) c2] o7 ty60 rfl rfl) (by decide) ?_
  have q10 := (NatV.pers _).step s8 h0
  refine Seq.callS (V := BytesV (beN a ((blen a + 7) / 8))) cal125 hv9 rfl (by decide) (nat_Least hv9 q10 (show nw a ≤ 1000000 from by first | omega | (rw [beN_length]; omega))) ?_
  intro v11 w12 q13 s14 hv15
  obtain ⟨A16, c17, rfl⟩ := BytesV.shape q13
  have z18 := BytesV.cap q13
  refine Seq.callS (V := BitsV (bitsOf (nv (beN a ((blen a + 7) / 8))))) cal123 hv15 rfl (by decide) (ref01_Of hv15 q13 (show List.length (beN a ((blen a + 7) / 8)) ≤ 1000000 from by first | omega | (rw [beN_length]; omega))) ?_
  intro v19 w20 q21 s22 hv23
  obtain ⟨A24, c25, rfl⟩ := BitsV.shape q21
  have z26 := BitsV.cap q21
  refine Seq.val (Does.assign rfl) (by decide) ?_
  refine Seq.go (fun _ _ h => h) ?_
  have c27 := s14.trans s22
  have c28 := s8.trans c27
  obtain ⟨zU, zo⟩ := c28.out (by decide) hv
  refine Run.ret ?_
  exact post_one Try.results51 rfl ⟨_, rfl, (BitsV.cast (show (bitsOf (nv (beN a ((blen a + 7) / 8)))) = (bitsOf a) from by first | rfl | (rw [nv_least]; done) | (simp_all; done) | omega) ((BitsV.pers _).step zo q21)), c28.leave (by decide)⟩

end Go.Proofs.Ytgfomedobfaidaa
